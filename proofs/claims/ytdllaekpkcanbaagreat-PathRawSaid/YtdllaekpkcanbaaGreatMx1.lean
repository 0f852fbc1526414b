/- functions of the program and of the references, as models -/
import Derived.Test.YtdllaekpkcanbaaGreatSeShelf
import Derived.Test.YtdllaekpkcanbaaGreatSeExt
import Derived.Test.YtdllaekpkcanbaaGreatSePre
import Derived.Test.YtdllaekpkcanbaaGreatBmTy
set_option linter.unusedSimpArgs false
set_option linter.unusedVariables false
set_option maxRecDepth 100000
noncomputable section
namespace Go.Bm
open Go.Proofs
def sig_cncref23_root : Sk := { tmps := [tf [ci]], boxes := [], rows := [] }
def osig_cncref23_root : Sk := { tmps := [tf [ci]], boxes := [], rows := [] }
def C_cncref23_root_0 : Cfg := { spec := Qbx [], eqOk := Qb2, ownOff := ownOff }
def sk_cncref23_root_3 : Sk := { tmps := [tf [ci], td, td, tf [ci], tf [ci]] ++ dd 17, boxes := [], rows := [] }
def ex_cncref23_root_3 : List (Ex × Sk) := [(Ex.exit 0, { tmps := [td, td, td, tf [ci]] ++ dd 18, boxes := [], rows := [] })]
def Qfp : Lp := stepL Tryz.prog C_cncref23_root_0 64 3 (Qf0 Tryz.prog 117 3) sk_cncref23_root_3 ex_cncref23_root_3
def C_cncref23_root_1 (N3 : Lp) : Cfg := C_cncref23_root_0.loop 3 sk_cncref23_root_3 ex_cncref23_root_3 N3
def mf_cncref23_root (N3 : Lp) : Fn := Qax Tryz.prog (C_cncref23_root_1 N3) 64 117 sig_cncref23_root osig_cncref23_root
theorem st_cncref23_root_3_eq (v0 v1 v2 : Int) : Qfp [I v0, I v1, I v2] =
 bif decide (v2 > 0) then
 bif decide (IntKind.i64.wrap (IntKind.i64.wrap (v1 + v2) * IntKind.i64.wrap (v1 + v2)) <= v0) then
 some (0, [I v0, I (IntKind.i64.wrap (v1 + v2)), I (v2.fdiv (2 ^ min (Int.toNat 1) IntKind.i64.bits))])
 else
 some (0, [I v0, I v1, I (v2.fdiv (2 ^ min (Int.toNat 1) IntKind.i64.bits))])
 else
 some (1, [I v1]) := by kernel_rfl
theorem mf_cncref23_root_eq (N3 : Lp) (x0 : Int) : mf_cncref23_root N3 [I x0] =
 (N3 [I x0, I 0, I 1073741824]).bind fun o1 =>
 bif o1.1.beq 1 then
 some [jA o1.2 0]
 else
 none := by kernel_rfl
def l_cncref23_root_3 := Qbl (Qfp )
def Qfn := mf_cncref23_root l_cncref23_root_3
theorem sp_cncref23_root : Qak Tryz.prog (C_cncref23_root_0 ) := Qae rfl trivial
theorem r_cncref23_root : Qbm Tryz.prog (117, spOf sig_cncref23_root osig_cncref23_root Qfn) := Qa0 (C := (C_cncref23_root_1 l_cncref23_root_3)) (L := 64) (by kernel_rfl) ((FnOK.bare rfl rfl rfl).loop sp_cncref23_root eqOk Qa9 (by kernel_rfl) (by kernel_rfl)) sp_cncref23_root eqOk Qa9 (by kernel_rfl) (by kernel_rfl)
def Qh8 : Sk := { tmps := [TS.v true [ci, ci, ci], TS.v true [ci, ci, ci]], boxes := [], rows := [] }
def Qg6 : Sk := { tmps := [tf [ci]], boxes := [], rows := [] }
def C_cncref23_Square_0 : Cfg := { spec := Qbx [], eqOk := Qb2, ownOff := ownOff, unroll := [3] }
def mf_cncref23_Square : Fn := Qax Tryz.prog C_cncref23_Square_0 64 116 Qh8 Qg6
theorem mf_cncref23_Square_eq (x0 x1 x2 x3 x4 x5 : Int) : mf_cncref23_Square [I x0, I x1, I x2, I x3, I x4, I x5] =
 some [I (IntKind.i64.wrap (IntKind.i64.wrap (IntKind.i64.wrap (0 + IntKind.i64.wrap (IntKind.i64.wrap (x0 - x3) * IntKind.i64.wrap (x0 - x3))) + IntKind.i64.wrap (IntKind.i64.wrap (x1 - x4) * IntKind.i64.wrap (x1 - x4))) + IntKind.i64.wrap (IntKind.i64.wrap (x2 - x5) * IntKind.i64.wrap (x2 - x5))))] := by kernel_rfl
def Qc1 := mf_cncref23_Square 
theorem sp_cncref23_Square : Qak Tryz.prog (C_cncref23_Square_0 ) := Qae rfl trivial
theorem r_cncref23_Square : Qbm Tryz.prog (116, spOf Qh8 Qg6 Qc1) := Qa0 (C := C_cncref23_Square_0) (L := 64) (by kernel_rfl) (FnOK.bare rfl rfl rfl) sp_cncref23_Square eqOk Qa9 (by kernel_rfl) (by kernel_rfl)
def Qh6 : Sk := { tmps := [TS.v true [ci, ci, ci], TS.v true [ci, ci, ci]], boxes := [], rows := [] }
def Qg7 : Sk := { tmps := [tf [ci]], boxes := [], rows := [] }
def C_cncref23_Length_0 (Qdq Qbi : Fn) : Cfg := { spec := Qbx [(117, spOf sig_cncref23_root osig_cncref23_root Qdq), (116, spOf Qh8 Qg6 Qbi)], eqOk := Qb2, ownOff := ownOff }
def mf_cncref23_Length (Qdq Qbi : Fn) : Fn := Qax Tryz.prog (C_cncref23_Length_0 Qdq Qbi) 64 85 Qh6 Qg7
theorem mf_cncref23_Length_eq (Qdq Qbi : Fn) (x0 x1 x2 x3 x4 x5 : Int) : mf_cncref23_Length Qdq Qbi [I x0, I x1, I x2, I x3, I x4, I x5] =
 (Qbi [I x0, I x1, I x2, I x3, I x4, I x5]).bind fun o2 =>
 (Qdq [jA o2 0]).bind fun o3 =>
 bif decide (IntKind.i64.wrap (gA o3 0 * gA o3 0) < gA o2 0) then
 some [I (IntKind.i64.wrap (gA o3 0 + 1))]
 else
 some [jA o3 0] := by kernel_rfl
def Qbt := mf_cncref23_Length Qfn Qc1 
theorem sp_cncref23_Length : Qak Tryz.prog (C_cncref23_Length_0 Qfn Qc1) := Qae rfl ⟨r_cncref23_root, r_cncref23_Square, trivial⟩
theorem r_cncref23_Length : Qbm Tryz.prog (85, spOf Qh6 Qg7 Qbt) := Qa0 (C := (C_cncref23_Length_0 Qfn Qc1)) (L := 64) (by kernel_rfl) (FnOK.bare rfl rfl rfl) sp_cncref23_Length eqOk Qa9 (by kernel_rfl) (by kernel_rfl)
def Qhp : Sk := { tmps := [TS.v true [ci, ci, ci]], boxes := [], rows := [] }
def Qgl : Sk := { tmps := [TS.v true [ci, ci, ci]], boxes := [], rows := [] }
def C_cncref23_Fine_0 : Cfg := { spec := Qbx [], eqOk := Qb2, ownOff := ownOff }
def mf_cncref23_Fine : Fn := Qax Tryz.prog C_cncref23_Fine_0 64 81 Qhp Qgl
theorem mf_cncref23_Fine_eq (x0 x1 x2 : Int) : mf_cncref23_Fine [I x0, I x1, I x2] =
 some [I (IntKind.i64.wrap (x0 * 16)), I (IntKind.i64.wrap (x1 * 16)), I (IntKind.i64.wrap (x2 * 16))] := by kernel_rfl
def Qbj := mf_cncref23_Fine 
theorem sp_cncref23_Fine : Qak Tryz.prog (C_cncref23_Fine_0 ) := Qae rfl trivial
theorem r_cncref23_Fine : Qbm Tryz.prog (81, spOf Qhp Qgl Qbj) := Qa0 (C := C_cncref23_Fine_0) (L := 64) (by kernel_rfl) (FnOK.bare rfl rfl rfl) sp_cncref23_Fine eqOk Qa9 (by kernel_rfl) (by kernel_rfl)
def Qhz : Sk := { tmps := [TS.v true [ci, ci, ci, ci, ci, ci, ci, ci, ci, ci, ci, ci, ci, CS.bool, ci, CS.bool, ci, ci, ci, ci, ci, CS.bool]], boxes := [], rows := [] }
def Qg8 : Sk := { tmps := [TS.v true [ci, ci, ci]], boxes := [], rows := [] }
def C_cncref25_Center_0 : Cfg := { spec := Qbx [], eqOk := Qb2, ownOff := ownOff }
def mf_cncref25_Center : Fn := Qax Tryz.prog C_cncref25_Center_0 64 90 Qhz Qg8
theorem mf_cncref25_Center_eq (x0 x1 x2 x3 x4 x5 x6 x7 x8 x9 x10 x11 x12 : Int) (x13 : Bool) (x14 : Int) (x15 : Bool) (x16 x17 x18 x19 x20 : Int) (x21 : Bool) : mf_cncref25_Center [I x0, I x1, I x2, I x3, I x4, I x5, I x6, I x7, I x8, I x9, I x10, I x11, I x12, B x13, I x14, B x15, I x16, I x17, I x18, I x19, I x20, B x21] =
 some [I (IntKind.i64.wrap (IntKind.i64.wrap (x2 + x5) * 8)), I (IntKind.i64.wrap (IntKind.i64.wrap (x3 + x6) * 8)), I (IntKind.i64.wrap (IntKind.i64.wrap (x4 + x7) * 8))] := by kernel_rfl
def Qcn := mf_cncref25_Center 
theorem sp_cncref25_Center : Qak Tryz.prog (C_cncref25_Center_0 ) := Qae rfl trivial
theorem r_cncref25_Center : Qbm Tryz.prog (90, spOf Qhz Qg8 Qcn) := Qa0 (C := C_cncref25_Center_0) (L := 64) (by kernel_rfl) (FnOK.bare rfl rfl rfl) sp_cncref25_Center eqOk Qa9 (by kernel_rfl) (by kernel_rfl)
def sig_cncref25_Length : Sk := { tmps := [TS.v true [ci, ci, ci, CS.sl kSgm, CS.sl kPt]], boxes := [], rows := [] }
def osig_cncref25_Length : Sk := { tmps := [tf [ci]], boxes := [], rows := [] }
def C_cncref25_Length_0 : Cfg := { spec := Qbx [], eqOk := Qb2, ownOff := ownOff }
def sk_cncref25_Length_3 : Sk := { tmps := [td, td, td, tf [ci], td, td, td, tf [CS.sl kSgm], tf [ci], tf [ci]] ++ dd 9, boxes := [], rows := [] }
def ex_cncref25_Length_3 : List (Ex × Sk) := [(Ex.exit 0, { tmps := [td, td, td, tf [ci]] ++ dd 15, boxes := [], rows := [] })]
def st_cncref25_Length_3 : Lp := stepL Tryz.prog C_cncref25_Length_0 64 3 (Qf0 Tryz.prog 25 3) sk_cncref25_Length_3 ex_cncref25_Length_3
def C_cncref25_Length_1 (N3 : Lp) : Cfg := C_cncref25_Length_0.loop 3 sk_cncref25_Length_3 ex_cncref25_Length_3 N3
def mf_cncref25_Length (N3 : Lp) : Fn := Qax Tryz.prog (C_cncref25_Length_1 N3) 64 25 sig_cncref25_Length osig_cncref25_Length
theorem st_cncref25_Length_3_eq (v0 : Int) (v1 : Rw) (v2 v3 : Int) : st_cncref25_Length_3 [I v0, .view kSgm v1, I v2, I v3] =
 bif decide (v3 < v2) then
 bif decide (0 <= v3) && decide (v3 < (v1.length : Int)) then
 some (0, [I (IntKind.i64.wrap (v0 + gA (nth [] v1 v3.toNat) 3)), .view kSgm v1, I v2, I (IntKind.i64.wrap (v3 + 1))])
 else
 none
 else
 some (1, [I v0]) := by kernel_rfl
theorem mf_cncref25_Length_eq (N3 : Lp) (x0 x1 x2 : Int) (x3 x4 : Rw) : mf_cncref25_Length N3 [I x0, I x1, I x2, .view kSgm x3, .view kPt x4] =
 (N3 [I 0, .view kSgm x3, I (x3.length : Int), I 0]).bind fun o1 =>
 bif o1.1.beq 1 then
 some [jA o1.2 0]
 else
 none := by kernel_rfl
def l_cncref25_Length_3 := Qbl (st_cncref25_Length_3 )
def Qff := mf_cncref25_Length l_cncref25_Length_3
theorem sp_cncref25_Length : Qak Tryz.prog (C_cncref25_Length_0 ) := Qae rfl trivial
theorem r_cncref25_Length : Qbm Tryz.prog (25, spOf sig_cncref25_Length osig_cncref25_Length Qff) := Qa0 (C := (C_cncref25_Length_1 l_cncref25_Length_3)) (L := 64) (by kernel_rfl) ((FnOK.bare rfl rfl rfl).loop sp_cncref25_Length eqOk Qa9 (by kernel_rfl) (by kernel_rfl)) sp_cncref25_Length eqOk Qa9 (by kernel_rfl) (by kernel_rfl)
def Qic : Sk := { tmps := [TS.v true [ci, ci, ci, ci, ci, ci, ci, ci, ci, ci, ci, ci, ci, CS.bool, ci, CS.bool, ci, ci, ci, ci, ci, CS.bool]], boxes := [], rows := [] }
def Qg5 : Sk := { tmps := [tf [CS.bool]], boxes := [], rows := [] }
def C_cncref25_Smooth_0 : Cfg := { spec := Qbx [], eqOk := Qb2, ownOff := ownOff }
def mf_cncref25_Smooth : Fn := Qax Tryz.prog C_cncref25_Smooth_0 64 89 Qic Qg5
theorem mf_cncref25_Smooth_eq (x0 x1 x2 x3 x4 x5 x6 x7 x8 x9 x10 x11 x12 : Int) (x13 : Bool) (x14 : Int) (x15 : Bool) (x16 x17 x18 x19 x20 : Int) (x21 : Bool) : mf_cncref25_Smooth [I x0, I x1, I x2, I x3, I x4, I x5, I x6, I x7, I x8, I x9, I x10, I x11, I x12, B x13, I x14, B x15, I x16, I x17, I x18, I x19, I x20, B x21] =
 bif x0 == 2 then
 some [B !(x2 == x5 && (x3 == x6 && (x4 == x7 && true)))]
 else
 some [B false] := by kernel_rfl
def Qcj := mf_cncref25_Smooth 
theorem sp_cncref25_Smooth : Qak Tryz.prog (C_cncref25_Smooth_0 ) := Qae rfl trivial
theorem r_cncref25_Smooth : Qbm Tryz.prog (89, spOf Qic Qg5 Qcj) := Qa0 (C := C_cncref25_Smooth_0) (L := 64) (by kernel_rfl) (FnOK.bare rfl rfl rfl) sp_cncref25_Smooth eqOk Qa9 (by kernel_rfl) (by kernel_rfl)
def Qe9 : Sk := { tmps := [tf [ci]], boxes := [], rows := [] }
def Qet : Sk := { tmps := [tf [CS.bool]], boxes := [], rows := [] }
def C_cncref23_Motion_0 : Cfg := { spec := Qbx [], eqOk := Qb2, ownOff := ownOff }
def mf_cncref23_Motion : Fn := Qax Tryz.prog C_cncref23_Motion_0 64 79 Qe9 Qet
theorem mf_cncref23_Motion_eq (x0 : Int) : mf_cncref23_Motion [I x0] =
 bif decide (x0 >= 1) then
 some [B (decide (x0 <= 6))]
 else
 some [B false] := by kernel_rfl
def Qa1 := mf_cncref23_Motion 
theorem sp_cncref23_Motion : Qak Tryz.prog (C_cncref23_Motion_0 ) := Qae rfl trivial
theorem r_cncref23_Motion : Qbm Tryz.prog (79, spOf Qe9 Qet Qa1) := Qa0 (C := C_cncref23_Motion_0) (L := 64) (by kernel_rfl) (FnOK.bare rfl rfl rfl) sp_cncref23_Motion eqOk Qa9 (by kernel_rfl) (by kernel_rfl)
def Qgd : Sk := { tmps := [TS.v true [ci, ci, ci, ci, ci, ci, ci, ci, ci, ci, ci, ci, ci, CS.bool, ci, CS.bool, ci, ci, ci, ci, ci, CS.bool]], boxes := [], rows := [] }
def Qf5 : Sk := { tmps := [tf [CS.bool]], boxes := [], rows := [] }
def C_cncref25_synchronized_0 : Cfg := { spec := Qbx [], eqOk := Qb2, ownOff := ownOff }
def mf_cncref25_synchronized : Fn := Qax Tryz.prog C_cncref25_synchronized_0 64 83 Qgd Qf5
theorem mf_cncref25_synchronized_eq (x0 x1 x2 x3 x4 x5 x6 x7 x8 x9 x10 x11 x12 : Int) (x13 : Bool) (x14 : Int) (x15 : Bool) (x16 x17 x18 x19 x20 : Int) (x21 : Bool) : mf_cncref25_synchronized [I x0, I x1, I x2, I x3, I x4, I x5, I x6, I x7, I x8, I x9, I x10, I x11, I x12, B x13, I x14, B x15, I x16, I x17, I x18, I x19, I x20, B x21] =
 bif x0 == 5 then
 some [B true]
 else
 some [B (x0 == 6)] := by kernel_rfl
def Qba := mf_cncref25_synchronized 
theorem sp_cncref25_synchronized : Qak Tryz.prog (C_cncref25_synchronized_0 ) := Qae rfl trivial
theorem r_cncref25_synchronized : Qbm Tryz.prog (83, spOf Qgd Qf5 Qba) := Qa0 (C := C_cncref25_synchronized_0) (L := 64) (by kernel_rfl) (FnOK.bare rfl rfl rfl) sp_cncref25_synchronized eqOk Qa9 (by kernel_rfl) (by kernel_rfl)
def sig_cncref25_kind : Sk := { tmps := [tf [CS.sl kItm], tf [ci]], boxes := [], rows := [] }
def osig_cncref25_kind : Sk := { tmps := [tf [ci]], boxes := [], rows := [] }
def C_cncref25_kind_0 (Qac Qad : Fn) : Cfg := { spec := Qbx [(79, spOf Qe9 Qet Qac), (83, spOf Qgd Qf5 Qad)], eqOk := Qb2, ownOff := ownOff }
def sk_cncref25_kind_6 : Sk := { tmps := [tf [CS.sl kItm], td, td, td, td, tf [ci]] ++ dd 38, boxes := [], rows := [] }
def ex_cncref25_kind_6 : List (Ex × Sk) := [(Ex.ret, { tmps := [td, td, td, td, tf [ci]] ++ dd 39, boxes := [], rows := [] }), (Ex.exit 0, { tmps := [td] ++ dd 43, boxes := [], rows := [] })]
def Qgo (Qac Qad : Fn) : Lp := stepL Tryz.prog (C_cncref25_kind_0 Qac Qad) 64 6 (Qf0 Tryz.prog 87 6) sk_cncref25_kind_6 ex_cncref25_kind_6
def C_cncref25_kind_1 (Qac Qad : Fn) (N6 : Lp) : Cfg := (C_cncref25_kind_0 Qac Qad).loop 6 sk_cncref25_kind_6 ex_cncref25_kind_6 N6
def mf_cncref25_kind (Qac Qad : Fn) (N6 : Lp) : Fn := Qax Tryz.prog (C_cncref25_kind_1 Qac Qad N6) 64 87 sig_cncref25_kind osig_cncref25_kind
theorem st_cncref25_kind_6_eq (Qac Qad : Fn) (v0 : Rw) (v1 : Int) : Qgo Qac Qad [.view kItm v0, I v1] =
 bif decide (v1 < (v0.length : Int)) then
 bif decide (0 <= v1) && decide (v1 < (v0.length : Int)) then
 (Qac [jA (nth [] v0 v1.toNat) 0]).bind fun o5 =>
 bif bA o5 0 then
 bif decide (0 <= v1) && decide (v1 < (v0.length : Int)) then
 (Qad [jA (nth [] v0 v1.toNat) 0, jA (nth [] v0 v1.toNat) 1, jA (nth [] v0 v1.toNat) 2, jA (nth [] v0 v1.toNat) 3, jA (nth [] v0 v1.toNat) 4, jA (nth [] v0 v1.toNat) 5, jA (nth [] v0 v1.toNat) 6, jA (nth [] v0 v1.toNat) 7, jA (nth [] v0 v1.toNat) 8, jA (nth [] v0 v1.toNat) 9, jA (nth [] v0 v1.toNat) 10, jA (nth [] v0 v1.toNat) 11, jA (nth [] v0 v1.toNat) 12, B (bA (nth [] v0 v1.toNat) 13), jA (nth [] v0 v1.toNat) 14, B (bA (nth [] v0 v1.toNat) 15), jA (nth [] v0 v1.toNat) 16, jA (nth [] v0 v1.toNat) 17, jA (nth [] v0 v1.toNat) 18, jA (nth [] v0 v1.toNat) 19, jA (nth [] v0 v1.toNat) 20, B (bA (nth [] v0 v1.toNat) 21)]).bind fun o6 =>
 bif bA o6 0 then
 some (1, [I 1])
 else
 some (2, [])
 else
 none
 else
 some (0, [.view kItm v0, I (IntKind.i64.wrap (v1 + 1))])
 else
 none
 else
 some (2, []) := by kernel_rfl
theorem mf_cncref25_kind_eq (Qac Qad : Fn) (N6 : Lp) (x0 : Rw) (x1 : Int) : mf_cncref25_kind Qac Qad N6 [.view kItm x0, I x1] =
 bif decide (0 <= x1) && decide (x1 < (x0.length : Int)) then
 bif gA (nth [] x0 x1.toNat) 0 == 4 then
 some [I 6]
 else
 bif decide (0 <= x1) && decide (x1 < (x0.length : Int)) then
 bif gA (nth [] x0 x1.toNat) 18 == 0 then
 some [I 1]
 else
 bif decide (0 <= x1) && decide (x1 < (x0.length : Int)) then
 (Qad [jA (nth [] x0 x1.toNat) 0, jA (nth [] x0 x1.toNat) 1, jA (nth [] x0 x1.toNat) 2, jA (nth [] x0 x1.toNat) 3, jA (nth [] x0 x1.toNat) 4, jA (nth [] x0 x1.toNat) 5, jA (nth [] x0 x1.toNat) 6, jA (nth [] x0 x1.toNat) 7, jA (nth [] x0 x1.toNat) 8, jA (nth [] x0 x1.toNat) 9, jA (nth [] x0 x1.toNat) 10, jA (nth [] x0 x1.toNat) 11, jA (nth [] x0 x1.toNat) 12, B (bA (nth [] x0 x1.toNat) 13), jA (nth [] x0 x1.toNat) 14, B (bA (nth [] x0 x1.toNat) 15), jA (nth [] x0 x1.toNat) 16, jA (nth [] x0 x1.toNat) 17, jA (nth [] x0 x1.toNat) 18, jA (nth [] x0 x1.toNat) 19, jA (nth [] x0 x1.toNat) 20, B (bA (nth [] x0 x1.toNat) 21)]).bind fun o7 =>
 bif bA o7 0 then
 some [I 1]
 else
 (N6 [.view kItm x0, I (IntKind.i64.wrap (x1 + 1))]).bind fun o8 =>
 bif o8.1.beq 1 then
 some [jA o8.2 0]
 else
 bif o8.1.beq 2 then
 some [I 2]
 else
 none
 else
 none
 else
 none
 else
 none := by kernel_rfl
def l_cncref25_kind_6 := Qbl (Qgo Qa1 Qba )
def Qey := mf_cncref25_kind Qa1 Qba l_cncref25_kind_6
theorem sp_cncref25_kind : Qak Tryz.prog (C_cncref25_kind_0 Qa1 Qba) := Qae rfl ⟨r_cncref23_Motion, r_cncref25_synchronized, trivial⟩
theorem r_cncref25_kind : Qbm Tryz.prog (87, spOf sig_cncref25_kind osig_cncref25_kind Qey) := Qa0 (C := (C_cncref25_kind_1 Qa1 Qba l_cncref25_kind_6)) (L := 64) (by kernel_rfl) ((FnOK.bare rfl rfl rfl).loop sp_cncref25_kind eqOk Qa9 (by kernel_rfl) (by kernel_rfl)) sp_cncref25_kind eqOk Qa9 (by kernel_rfl) (by kernel_rfl)
def sig_cncref25_Soft : Sk := { tmps := [tf [CS.sl kItm], tf [ci]], boxes := [], rows := [] }
def osig_cncref25_Soft : Sk := { tmps := [tf [ci]], boxes := [], rows := [] }
def C_cncref25_Soft_0 (Qaj : Fn) : Cfg := { spec := Qbx [(89, spOf Qic Qg5 Qaj)], eqOk := Qb2, ownOff := ownOff }
def sk_cncref25_Soft_4 : Sk := { tmps := [tf [CS.sl kItm], td, td, td, td, tf [ci]] ++ dd 34, boxes := [], rows := [] }
def ex_cncref25_Soft_4 : List (Ex × Sk) := [(Ex.ret, { tmps := [td, td, td, td, tf [ci]] ++ dd 35, boxes := [], rows := [] }), (Ex.exit 0, { tmps := [td] ++ dd 39, boxes := [], rows := [] })]
def Qgp (Qaj : Fn) : Lp := stepL Tryz.prog (C_cncref25_Soft_0 Qaj) 64 4 (Qf0 Tryz.prog 86 4) sk_cncref25_Soft_4 ex_cncref25_Soft_4
def C_cncref25_Soft_1 (Qaj : Fn) (N4 : Lp) : Cfg := (C_cncref25_Soft_0 Qaj).loop 4 sk_cncref25_Soft_4 ex_cncref25_Soft_4 N4
def mf_cncref25_Soft (Qaj : Fn) (N4 : Lp) : Fn := Qax Tryz.prog (C_cncref25_Soft_1 Qaj N4) 64 86 sig_cncref25_Soft osig_cncref25_Soft
theorem st_cncref25_Soft_4_eq (Qaj : Fn) (v0 : Rw) (v1 : Int) : Qgp Qaj [.view kItm v0, I v1] =
 bif decide (v1 < (v0.length : Int)) then
 bif decide (0 <= v1) && decide (v1 < (v0.length : Int)) then
 bif gA (nth [] v0 v1.toNat) 0 == 10 then
 some (0, [.view kItm v0, I (IntKind.i64.wrap (v1 + 1))])
 else
 bif decide (0 <= v1) && decide (v1 < (v0.length : Int)) then
 (Qaj [jA (nth [] v0 v1.toNat) 0, jA (nth [] v0 v1.toNat) 1, jA (nth [] v0 v1.toNat) 2, jA (nth [] v0 v1.toNat) 3, jA (nth [] v0 v1.toNat) 4, jA (nth [] v0 v1.toNat) 5, jA (nth [] v0 v1.toNat) 6, jA (nth [] v0 v1.toNat) 7, jA (nth [] v0 v1.toNat) 8, jA (nth [] v0 v1.toNat) 9, jA (nth [] v0 v1.toNat) 10, jA (nth [] v0 v1.toNat) 11, jA (nth [] v0 v1.toNat) 12, B (bA (nth [] v0 v1.toNat) 13), jA (nth [] v0 v1.toNat) 14, B (bA (nth [] v0 v1.toNat) 15), jA (nth [] v0 v1.toNat) 16, jA (nth [] v0 v1.toNat) 17, jA (nth [] v0 v1.toNat) 18, jA (nth [] v0 v1.toNat) 19, jA (nth [] v0 v1.toNat) 20, B (bA (nth [] v0 v1.toNat) 21)]).bind fun o4 =>
 bif bA o4 0 then
 some (1, [I v1])
 else
 some (1, [I (-1)])
 else
 none
 else
 none
 else
 some (2, []) := by kernel_rfl
theorem mf_cncref25_Soft_eq (Qaj : Fn) (N4 : Lp) (x0 : Rw) (x1 : Int) : mf_cncref25_Soft Qaj N4 [.view kItm x0, I x1] =
 bif decide (0 <= x1) && decide (x1 < (x0.length : Int)) then
 (Qaj [jA (nth [] x0 x1.toNat) 0, jA (nth [] x0 x1.toNat) 1, jA (nth [] x0 x1.toNat) 2, jA (nth [] x0 x1.toNat) 3, jA (nth [] x0 x1.toNat) 4, jA (nth [] x0 x1.toNat) 5, jA (nth [] x0 x1.toNat) 6, jA (nth [] x0 x1.toNat) 7, jA (nth [] x0 x1.toNat) 8, jA (nth [] x0 x1.toNat) 9, jA (nth [] x0 x1.toNat) 10, jA (nth [] x0 x1.toNat) 11, jA (nth [] x0 x1.toNat) 12, B (bA (nth [] x0 x1.toNat) 13), jA (nth [] x0 x1.toNat) 14, B (bA (nth [] x0 x1.toNat) 15), jA (nth [] x0 x1.toNat) 16, jA (nth [] x0 x1.toNat) 17, jA (nth [] x0 x1.toNat) 18, jA (nth [] x0 x1.toNat) 19, jA (nth [] x0 x1.toNat) 20, B (bA (nth [] x0 x1.toNat) 21)]).bind fun o5 =>
 bif !bA o5 0 then
 some [I (-1)]
 else
 bif decide (0 <= x1) && decide (x1 < (x0.length : Int)) then
 bif gA (nth [] x0 x1.toNat) 18 == 0 then
 some [I (-1)]
 else
 (N4 [.view kItm x0, I (IntKind.i64.wrap (x1 + 1))]).bind fun o6 =>
 bif o6.1.beq 1 then
 some [jA o6.2 0]
 else
 bif o6.1.beq 2 then
 some [I (-1)]
 else
 none
 else
 none
 else
 none := by kernel_rfl
def l_cncref25_Soft_4 := Qbl (Qgp Qcj )
def Qdm := mf_cncref25_Soft Qcj l_cncref25_Soft_4
theorem sp_cncref25_Soft : Qak Tryz.prog (C_cncref25_Soft_0 Qcj) := Qae rfl ⟨r_cncref25_Smooth, trivial⟩
theorem r_cncref25_Soft : Qbm Tryz.prog (86, spOf sig_cncref25_Soft osig_cncref25_Soft Qdm) := Qa0 (C := (C_cncref25_Soft_1 Qcj l_cncref25_Soft_4)) (L := 64) (by kernel_rfl) ((FnOK.bare rfl rfl rfl).loop sp_cncref25_Soft eqOk Qa9 (by kernel_rfl) (by kernel_rfl)) sp_cncref25_Soft eqOk Qa9 (by kernel_rfl) (by kernel_rfl)
def sig_cncref24_Rounded : Sk := { tmps := [tf [ci], tf [ci]], boxes := [], rows := [] }
def osig_cncref24_Rounded : Sk := { tmps := [tf [ci]], boxes := [], rows := [] }
def C_cncref24_Rounded_0 : Cfg := { spec := Qbx [], eqOk := Qb2, ownOff := ownOff }
def mf_cncref24_Rounded : Fn := Qax Tryz.prog C_cncref24_Rounded_0 64 72 sig_cncref24_Rounded osig_cncref24_Rounded
theorem mf_cncref24_Rounded_eq (x0 x1 : Int) : mf_cncref24_Rounded [I x0, I x1] =
 bif decide (IntKind.i64.wrap (2 * x1) = 0) then
 none
 else
 bif decide (IntKind.i64.wrap (2 * x1) = 0) then
 none
 else
 bif decide ((IntKind.i64.wrap (IntKind.i64.wrap (2 * x0) + x1)).tmod (IntKind.i64.wrap (2 * x1)) < 0) then
 some [I (IntKind.i64.wrap (IntKind.i64.wrap ((IntKind.i64.wrap (IntKind.i64.wrap (2 * x0) + x1)).tdiv (IntKind.i64.wrap (2 * x1))) - 1))]
 else
 some [I (IntKind.i64.wrap ((IntKind.i64.wrap (IntKind.i64.wrap (2 * x0) + x1)).tdiv (IntKind.i64.wrap (2 * x1))))] := by kernel_rfl
def Qcg := mf_cncref24_Rounded 
theorem sp_cncref24_Rounded : Qak Tryz.prog (C_cncref24_Rounded_0 ) := Qae rfl trivial
theorem r_cncref24_Rounded : Qbm Tryz.prog (72, spOf sig_cncref24_Rounded osig_cncref24_Rounded Qcg) := Qa0 (C := C_cncref24_Rounded_0) (L := 64) (by kernel_rfl) (FnOK.bare rfl rfl rfl) sp_cncref24_Rounded eqOk Qa9 (by kernel_rfl) (by kernel_rfl)
def sig_cncref24_Add : Sk := { tmps := [TS.v true [ci, ci, ci], TS.v true [ci, ci, ci]], boxes := [], rows := [] }
def osig_cncref24_Add : Sk := { tmps := [TS.v true [ci, ci, ci]], boxes := [], rows := [] }
def C_cncref24_Add_0 : Cfg := { spec := Qbx [], eqOk := Qb2, ownOff := ownOff }
def mf_cncref24_Add : Fn := Qax Tryz.prog C_cncref24_Add_0 64 185 sig_cncref24_Add osig_cncref24_Add
theorem mf_cncref24_Add_eq (x0 x1 x2 x3 x4 x5 : Int) : mf_cncref24_Add [I x0, I x1, I x2, I x3, I x4, I x5] =
 some [I (IntKind.i64.wrap (x0 + x3)), I (IntKind.i64.wrap (x1 + x4)), I (IntKind.i64.wrap (x2 + x5))] := by kernel_rfl
def m_cncref24_Add := mf_cncref24_Add 
theorem sp_cncref24_Add : Qak Tryz.prog (C_cncref24_Add_0 ) := Qae rfl trivial
theorem r_cncref24_Add : Qbm Tryz.prog (185, spOf sig_cncref24_Add osig_cncref24_Add m_cncref24_Add) := Qa0 (C := C_cncref24_Add_0) (L := 64) (by kernel_rfl) (FnOK.bare rfl rfl rfl) sp_cncref24_Add eqOk Qa9 (by kernel_rfl) (by kernel_rfl)
def sig_cncref24_Minus : Sk := { tmps := [TS.v true [ci, ci, ci], TS.v true [ci, ci, ci]], boxes := [], rows := [] }
def osig_cncref24_Minus : Sk := { tmps := [TS.v true [ci, ci, ci]], boxes := [], rows := [] }
def C_cncref24_Minus_0 : Cfg := { spec := Qbx [], eqOk := Qb2, ownOff := ownOff }
def mf_cncref24_Minus : Fn := Qax Tryz.prog C_cncref24_Minus_0 64 186 sig_cncref24_Minus osig_cncref24_Minus
theorem mf_cncref24_Minus_eq (x0 x1 x2 x3 x4 x5 : Int) : mf_cncref24_Minus [I x0, I x1, I x2, I x3, I x4, I x5] =
 some [I (IntKind.i64.wrap (x0 - x3)), I (IntKind.i64.wrap (x1 - x4)), I (IntKind.i64.wrap (x2 - x5))] := by kernel_rfl
def Qg0 := mf_cncref24_Minus 
theorem sp_cncref24_Minus : Qak Tryz.prog (C_cncref24_Minus_0 ) := Qae rfl trivial
theorem r_cncref24_Minus : Qbm Tryz.prog (186, spOf sig_cncref24_Minus osig_cncref24_Minus Qg0) := Qa0 (C := C_cncref24_Minus_0) (L := 64) (by kernel_rfl) (FnOK.bare rfl rfl rfl) sp_cncref24_Minus eqOk Qa9 (by kernel_rfl) (by kernel_rfl)
def sig_cncref24_Bend : Sk := { tmps := [TS.v true [ci, ci, ci], TS.v true [ci, ci, ci], TS.v true [ci, ci, ci]], boxes := [], rows := [] }
def osig_cncref24_Bend : Sk := { tmps := [tf [ci]], boxes := [], rows := [] }
def C_cncref24_Bend_0 (Qbi M_cncref24_Add Qgz : Fn) : Cfg := { spec := Qbx [(116, spOf Qh8 Qg6 Qbi), (185, spOf sig_cncref24_Add osig_cncref24_Add M_cncref24_Add), (186, spOf sig_cncref24_Minus osig_cncref24_Minus Qgz)], eqOk := Qb2, ownOff := ownOff }
def mf_cncref24_Bend (Qbi M_cncref24_Add Qgz : Fn) : Fn := Qax Tryz.prog (C_cncref24_Bend_0 Qbi M_cncref24_Add Qgz) 64 173 sig_cncref24_Bend osig_cncref24_Bend
theorem mf_cncref24_Bend_eq (Qbi M_cncref24_Add Qgz : Fn) (x0 x1 x2 x3 x4 x5 x6 x7 x8 : Int) : mf_cncref24_Bend Qbi M_cncref24_Add Qgz [I x0, I x1, I x2, I x3, I x4, I x5, I x6, I x7, I x8] =
 (Qgz [I x0, I x1, I x2, I x3, I x4, I x5]).bind fun o4 =>
 (Qgz [I x6, I x7, I x8, I x3, I x4, I x5]).bind fun o5 =>
 (M_cncref24_Add [jA o4 0, jA o4 1, jA o4 2, jA o5 0, jA o5 1, jA o5 2]).bind fun o6 =>
 (Qbi [jA o6 0, jA o6 1, jA o6 2, I 0, I 0, I 0]).bind fun o7 =>
 some [jA o7 0] := by kernel_rfl
def Qe2 := mf_cncref24_Bend Qc1 m_cncref24_Add Qg0 
theorem sp_cncref24_Bend : Qak Tryz.prog (C_cncref24_Bend_0 Qc1 m_cncref24_Add Qg0) := Qae rfl ⟨r_cncref23_Square, r_cncref24_Add, r_cncref24_Minus, trivial⟩
theorem r_cncref24_Bend : Qbm Tryz.prog (173, spOf sig_cncref24_Bend osig_cncref24_Bend Qe2) := Qa0 (C := (C_cncref24_Bend_0 Qc1 m_cncref24_Add Qg0)) (L := 64) (by kernel_rfl) (FnOK.bare rfl rfl rfl) sp_cncref24_Bend eqOk Qa9 (by kernel_rfl) (by kernel_rfl)
def sig_cncref24_Pieces : Sk := { tmps := [TS.v true [ci, ci, ci], TS.v true [ci, ci, ci], TS.v true [ci, ci, ci]], boxes := [], rows := [] }
def osig_cncref24_Pieces : Sk := { tmps := [tf [ci]], boxes := [], rows := [] }
def C_cncref24_Pieces_0 (Qb7 : Fn) : Cfg := { spec := Qbx [(173, spOf sig_cncref24_Bend osig_cncref24_Bend Qb7)], eqOk := Qb2, ownOff := ownOff }
def sk_cncref24_Pieces_2 : Sk := { tmps := [td, td, td, tf [CS.ptr 3 0], tf [CS.ptr 4 0], tf [CS.ptr 5 0], td, tf [ci]] ++ dd 22, boxes := [(3, 25, [ci, ci, ci]), (4, 25, [ci, ci, ci]), (5, 25, [ci, ci, ci])], rows := [] }
def ex_cncref24_Pieces_2 : List (Ex × Sk) := [(Ex.exit 0, { tmps := [td, td, td, td, td, td, td, tf [ci]] ++ dd 22, boxes := [], rows := [] })]
def Qg9 (Qb7 : Fn) : Lp := stepL Tryz.prog (C_cncref24_Pieces_0 Qb7) 64 2 (Qf0 Tryz.prog 155 2) sk_cncref24_Pieces_2 ex_cncref24_Pieces_2
def C_cncref24_Pieces_1 (Qb7 : Fn) (N2 : Lp) : Cfg := (C_cncref24_Pieces_0 Qb7).loop 2 sk_cncref24_Pieces_2 ex_cncref24_Pieces_2 N2
def mf_cncref24_Pieces (Qb7 : Fn) (N2 : Lp) : Fn := Qax Tryz.prog (C_cncref24_Pieces_1 Qb7 N2) 64 155 sig_cncref24_Pieces osig_cncref24_Pieces
theorem st_cncref24_Pieces_2_eq (Qb7 : Fn) (v0 v1 v2 v3 v4 v5 v6 v7 v8 v9 : Int) : Qg9 Qb7 [I v0, I v1, I v2, I v3, I v4, I v5, I v6, I v7, I v8, I v9] =
 bif decide (v0 < 64) then
 (Qb7 [I v1, I v2, I v3, I v4, I v5, I v6, I v7, I v8, I v9]).bind fun o2 =>
 bif decide (gA o2 0 > IntKind.i64.wrap (IntKind.i64.wrap (IntKind.i64.wrap (IntKind.i64.wrap (IntKind.i64.wrap (IntKind.i64.wrap (16 * v0) * v0) * v0) * v0) * 4) * 4)) then
 some (0, [I (IntKind.i64.wrap (v0 * 2)), I v1, I v2, I v3, I v4, I v5, I v6, I v7, I v8, I v9])
 else
 some (1, [I v0])
 else
 some (1, [I v0]) := by kernel_rfl
theorem mf_cncref24_Pieces_eq (Qb7 : Fn) (N2 : Lp) (x0 x1 x2 x3 x4 x5 x6 x7 x8 : Int) : mf_cncref24_Pieces Qb7 N2 [I x0, I x1, I x2, I x3, I x4, I x5, I x6, I x7, I x8] =
 (N2 [I 2, I x0, I x1, I x2, I x3, I x4, I x5, I x6, I x7, I x8]).bind fun o3 =>
 bif o3.1.beq 1 then
 some [jA o3.2 0]
 else
 none := by kernel_rfl
def l_cncref24_Pieces_2 := Qbl (Qg9 Qe2 )
def Qfd := mf_cncref24_Pieces Qe2 l_cncref24_Pieces_2
theorem sp_cncref24_Pieces : Qak Tryz.prog (C_cncref24_Pieces_0 Qe2) := Qae rfl ⟨r_cncref24_Bend, trivial⟩
theorem r_cncref24_Pieces : Qbm Tryz.prog (155, spOf sig_cncref24_Pieces osig_cncref24_Pieces Qfd) := Qa0 (C := (C_cncref24_Pieces_1 Qe2 l_cncref24_Pieces_2)) (L := 64) (by kernel_rfl) ((FnOK.bare rfl rfl rfl).loop sp_cncref24_Pieces eqOk Qa9 (by kernel_rfl) (by kernel_rfl)) sp_cncref24_Pieces eqOk Qa9 (by kernel_rfl) (by kernel_rfl)
def sig_cncref23_product : Sk := { tmps := [tf [CS.int .u64], tf [CS.int .u64]], boxes := [], rows := [] }
def osig_cncref23_product : Sk := { tmps := [TS.tup [(false, [CS.int .u64]), (false, [CS.int .u64])]], boxes := [], rows := [] }
def C_cncref23_product_0 : Cfg := { spec := Qbx [], eqOk := Qb2, ownOff := ownOff }
def mf_cncref23_product : Fn := Qax Tryz.prog C_cncref23_product_0 64 192 sig_cncref23_product osig_cncref23_product
theorem mf_cncref23_product_eq (x0 x1 : Int) : mf_cncref23_product [U x0, U x1] =
 some [U (IntKind.u64.wrap (IntKind.u64.wrap (IntKind.u64.wrap (x0.fdiv (2 ^ min (Int.toNat 32) IntKind.u64.bits) * x1.fdiv (2 ^ min (Int.toNat 32) IntKind.u64.bits)) + (IntKind.u64.wrap (IntKind.u64.wrap (x0.fdiv (2 ^ min (Int.toNat 32) IntKind.u64.bits) * IntKind.u64.wrap (↑(BitVec.ofInt IntKind.u64.bits x1 &&& BitVec.ofInt IntKind.u64.bits 4294967295).toNat : Int)) + (IntKind.u64.wrap (IntKind.u64.wrap (↑(BitVec.ofInt IntKind.u64.bits x0 &&& BitVec.ofInt IntKind.u64.bits 4294967295).toNat : Int) * IntKind.u64.wrap (↑(BitVec.ofInt IntKind.u64.bits x1 &&& BitVec.ofInt IntKind.u64.bits 4294967295).toNat : Int))).fdiv (2 ^ min (Int.toNat 32) IntKind.u64.bits))).fdiv (2 ^ min (Int.toNat 32) IntKind.u64.bits)) + (IntKind.u64.wrap (IntKind.u64.wrap (IntKind.u64.wrap (↑(BitVec.ofInt IntKind.u64.bits x0 &&& BitVec.ofInt IntKind.u64.bits 4294967295).toNat : Int) * x1.fdiv (2 ^ min (Int.toNat 32) IntKind.u64.bits)) + IntKind.u64.wrap (↑(BitVec.ofInt IntKind.u64.bits (IntKind.u64.wrap (IntKind.u64.wrap (x0.fdiv (2 ^ min (Int.toNat 32) IntKind.u64.bits) * IntKind.u64.wrap (↑(BitVec.ofInt IntKind.u64.bits x1 &&& BitVec.ofInt IntKind.u64.bits 4294967295).toNat : Int)) + (IntKind.u64.wrap (IntKind.u64.wrap (↑(BitVec.ofInt IntKind.u64.bits x0 &&& BitVec.ofInt IntKind.u64.bits 4294967295).toNat : Int) * IntKind.u64.wrap (↑(BitVec.ofInt IntKind.u64.bits x1 &&& BitVec.ofInt IntKind.u64.bits 4294967295).toNat : Int))).fdiv (2 ^ min (Int.toNat 32) IntKind.u64.bits))) &&& BitVec.ofInt IntKind.u64.bits 4294967295).toNat : Int))).fdiv (2 ^ min (Int.toNat 32) IntKind.u64.bits))), U (IntKind.u64.wrap (↑(BitVec.ofInt IntKind.u64.bits (IntKind.u64.wrap (IntKind.u64.wrap (IntKind.u64.wrap (IntKind.u64.wrap (↑(BitVec.ofInt IntKind.u64.bits x0 &&& BitVec.ofInt IntKind.u64.bits 4294967295).toNat : Int) * x1.fdiv (2 ^ min (Int.toNat 32) IntKind.u64.bits)) + IntKind.u64.wrap (↑(BitVec.ofInt IntKind.u64.bits (IntKind.u64.wrap (IntKind.u64.wrap (x0.fdiv (2 ^ min (Int.toNat 32) IntKind.u64.bits) * IntKind.u64.wrap (↑(BitVec.ofInt IntKind.u64.bits x1 &&& BitVec.ofInt IntKind.u64.bits 4294967295).toNat : Int)) + (IntKind.u64.wrap (IntKind.u64.wrap (↑(BitVec.ofInt IntKind.u64.bits x0 &&& BitVec.ofInt IntKind.u64.bits 4294967295).toNat : Int) * IntKind.u64.wrap (↑(BitVec.ofInt IntKind.u64.bits x1 &&& BitVec.ofInt IntKind.u64.bits 4294967295).toNat : Int))).fdiv (2 ^ min (Int.toNat 32) IntKind.u64.bits))) &&& BitVec.ofInt IntKind.u64.bits 4294967295).toNat : Int)) * 2 ^ min (Int.toNat 32) IntKind.u64.bits)) ||| BitVec.ofInt IntKind.u64.bits (IntKind.u64.wrap (↑(BitVec.ofInt IntKind.u64.bits (IntKind.u64.wrap (IntKind.u64.wrap (↑(BitVec.ofInt IntKind.u64.bits x0 &&& BitVec.ofInt IntKind.u64.bits 4294967295).toNat : Int) * IntKind.u64.wrap (↑(BitVec.ofInt IntKind.u64.bits x1 &&& BitVec.ofInt IntKind.u64.bits 4294967295).toNat : Int))) &&& BitVec.ofInt IntKind.u64.bits 4294967295).toNat : Int))).toNat : Int))] := by kernel_rfl
def Qgm := mf_cncref23_product 
theorem sp_cncref23_product : Qak Tryz.prog (C_cncref23_product_0 ) := Qae rfl trivial
theorem r_cncref23_product : Qbm Tryz.prog (192, spOf sig_cncref23_product osig_cncref23_product Qgm) := Qa0 (C := C_cncref23_product_0) (L := 64) (by kernel_rfl) (FnOK.bare rfl rfl rfl) sp_cncref23_product eqOk Qa9 (by kernel_rfl) (by kernel_rfl)
def sig_cncref23_most : Sk := { tmps := [tf [CS.int .u64], tf [CS.int .u64], tf [CS.int .u64], tf [CS.int .u64], tf [CS.bool]], boxes := [], rows := [] }
def osig_cncref23_most : Sk := { tmps := [tf [CS.bool]], boxes := [], rows := [] }
def C_cncref23_most_0 (Qfr : Fn) : Cfg := { spec := Qbx [(192, spOf sig_cncref23_product osig_cncref23_product Qfr)], eqOk := Qb2, ownOff := ownOff }
def mf_cncref23_most (Qfr : Fn) : Fn := Qax Tryz.prog (C_cncref23_most_0 Qfr) 64 184 sig_cncref23_most osig_cncref23_most
theorem mf_cncref23_most_eq (Qfr : Fn) (x0 x1 x2 x3 : Int) (x4 : Bool) : mf_cncref23_most Qfr [U x0, U x1, U x2, U x3, B x4] =
 (Qfr [U x0, U x1]).bind fun o2 =>
 (Qfr [U x2, U x3]).bind fun o3 =>
 bif decide (gA o2 0 < gA o3 0) then
 some [B true]
 else
 bif gA o2 0 == gA o3 0 then
 bif decide (gA o2 1 < gA o3 1) then
 some [B true]
 else
 bif gA o2 1 == gA o3 1 then
 some [B !x4]
 else
 some [B false]
 else
 some [B false] := by kernel_rfl
def m_cncref23_most := mf_cncref23_most Qgm 
theorem sp_cncref23_most : Qak Tryz.prog (C_cncref23_most_0 Qgm) := Qae rfl ⟨r_cncref23_product, trivial⟩
theorem r_cncref23_most : Qbm Tryz.prog (184, spOf sig_cncref23_most osig_cncref23_most m_cncref23_most) := Qa0 (C := (C_cncref23_most_0 Qgm)) (L := 64) (by kernel_rfl) (FnOK.bare rfl rfl rfl) sp_cncref23_most eqOk Qa9 (by kernel_rfl) (by kernel_rfl)
def sig_cncref23_Near : Sk := { tmps := [tf [ci], tf [ci], tf [ci]], boxes := [], rows := [] }
def osig_cncref23_Near : Sk := { tmps := [tf [ci]], boxes := [], rows := [] }
def C_cncref23_Near_0 (Qdn : Fn) : Cfg := { spec := Qbx [(184, spOf sig_cncref23_most osig_cncref23_most Qdn)], eqOk := Qb2, ownOff := ownOff }
def sk_cncref23_Near_3 : Sk := { tmps := [tf [ci], td, td, td, td, td, td, tf [CS.int .u64], tf [CS.int .u64], tf [CS.int .u64], tf [CS.int .u64]] ++ dd 51, boxes := [], rows := [] }
def ex_cncref23_Near_3 : List (Ex × Sk) := [(Ex.exit 0, { tmps := [tf [ci], td, td, td, td, td, td, tf [CS.int .u64], tf [CS.int .u64], tf [CS.int .u64]] ++ dd 52, boxes := [], rows := [] })]
def Qfl (Qdn : Fn) : Lp := stepL Tryz.prog (C_cncref23_Near_0 Qdn) 64 3 (Qf0 Tryz.prog 172 3) sk_cncref23_Near_3 ex_cncref23_Near_3
def C_cncref23_Near_1 (Qdn : Fn) (N3 : Lp) : Cfg := (C_cncref23_Near_0 Qdn).loop 3 sk_cncref23_Near_3 ex_cncref23_Near_3 N3
def mf_cncref23_Near (Qdn : Fn) (N3 : Lp) : Fn := Qax Tryz.prog (C_cncref23_Near_1 Qdn N3) 64 172 sig_cncref23_Near osig_cncref23_Near
theorem st_cncref23_Near_3_eq (Qdn : Fn) (v0 v1 v2 v3 v4 : Int) : Qfl Qdn [I v0, U v1, U v2, U v3, U v4] =
 bif decide (v4 > 0) then
 (Qdn [U (IntKind.u64.wrap (IntKind.u64.wrap (v3 + v4) * IntKind.u64.wrap (v3 + v4))), U v2, U v1, U v1, B false]).bind fun o3 =>
 bif bA o3 0 then
 some (0, [I v0, U v1, U v2, U (IntKind.u64.wrap (v3 + v4)), U (v4.fdiv (2 ^ min (Int.toNat 1) IntKind.u64.bits))])
 else
 some (0, [I v0, U v1, U v2, U v3, U (v4.fdiv (2 ^ min (Int.toNat 1) IntKind.u64.bits))])
 else
 some (1, [I v0, U v1, U v2, U v3]) := by kernel_rfl
theorem mf_cncref23_Near_eq (Qdn : Fn) (N3 : Lp) (x0 x1 x2 : Int) : mf_cncref23_Near Qdn N3 [I x0, I x1, I x2] =
 (N3 [I x0, U (IntKind.u64.wrap (IntKind.i64.wrap (mx x0 (IntKind.i64.wrap (0 - x0)) * x1))), U (IntKind.u64.wrap x2), U 0, U 134217728]).bind fun o4 =>
 bif o4.1.beq 1 then
 (Qdn [U (IntKind.u64.wrap (IntKind.u64.wrap (IntKind.u64.wrap (2 * gA o4.2 3) + 1) * IntKind.u64.wrap (IntKind.u64.wrap (2 * gA o4.2 3) + 1))), U (gA o4.2 2), U (IntKind.u64.wrap (2 * gA o4.2 1)), U (IntKind.u64.wrap (2 * gA o4.2 1)), B (decide (gA o4.2 0 < 0))]).bind fun o5 =>
 bif bA o5 0 then
 bif decide (gA o4.2 0 < 0) then
 some [I (IntKind.i64.wrap (0 - IntKind.i64.wrap (IntKind.u64.wrap (gA o4.2 3 + 1))))]
 else
 some [I (IntKind.i64.wrap (IntKind.u64.wrap (gA o4.2 3 + 1)))]
 else
 bif decide (gA o4.2 0 < 0) then
 some [I (IntKind.i64.wrap (0 - IntKind.i64.wrap (gA o4.2 3)))]
 else
 some [I (IntKind.i64.wrap (gA o4.2 3))]
 else
 none := by kernel_rfl
def l_cncref23_Near_3 := Qbl (Qfl m_cncref23_most )
def Qeg := mf_cncref23_Near m_cncref23_most l_cncref23_Near_3
theorem sp_cncref23_Near : Qak Tryz.prog (C_cncref23_Near_0 m_cncref23_most) := Qae rfl ⟨r_cncref23_most, trivial⟩
theorem r_cncref23_Near : Qbm Tryz.prog (172, spOf sig_cncref23_Near osig_cncref23_Near Qeg) := Qa0 (C := (C_cncref23_Near_1 m_cncref23_most l_cncref23_Near_3)) (L := 64) (by kernel_rfl) ((FnOK.bare rfl rfl rfl).loop sp_cncref23_Near eqOk Qa9 (by kernel_rfl) (by kernel_rfl)) sp_cncref23_Near eqOk Qa9 (by kernel_rfl) (by kernel_rfl)
def sig_cncref24_Toward : Sk := { tmps := [TS.v true [ci, ci, ci], TS.v true [ci, ci, ci], tf [ci]], boxes := [], rows := [] }
def osig_cncref24_Toward : Sk := { tmps := [TS.tup [(true, [ci, ci, ci]), (false, [CS.bool])]], boxes := [], rows := [] }
def C_cncref24_Toward_0 (Qa3 Qbi : Fn) : Cfg := { spec := Qbx [(172, spOf sig_cncref23_Near osig_cncref23_Near Qa3), (116, spOf Qh8 Qg6 Qbi)], eqOk := Qb2, ownOff := ownOff, unroll := [6] }
def mf_cncref24_Toward (Qa3 Qbi : Fn) : Fn := Qax Tryz.prog (C_cncref24_Toward_0 Qa3 Qbi) 64 154 sig_cncref24_Toward osig_cncref24_Toward
theorem mf_cncref24_Toward_eq (Qa3 Qbi : Fn) (x0 x1 x2 x3 x4 x5 x6 : Int) : mf_cncref24_Toward Qa3 Qbi [I x0, I x1, I x2, I x3, I x4, I x5, I x6] =
 (Qbi [I x3, I x4, I x5, I x0, I x1, I x2]).bind fun o4 =>
 bif gA o4 0 == 0 then
 some [I 0, I 0, I 0, B false]
 else
 bif decide (x6 < 0) then
 some [I 0, I 0, I 0, B false]
 else
 bif decide (x6 > 33554432) then
 some [I 0, I 0, I 0, B false]
 else
 (Qa3 [I (IntKind.i64.wrap (x3 - x0)), I x6, jA o4 0]).bind fun o5 =>
 (Qa3 [I (IntKind.i64.wrap (x4 - x1)), I x6, jA o4 0]).bind fun o6 =>
 (Qa3 [I (IntKind.i64.wrap (x5 - x2)), I x6, jA o4 0]).bind fun o7 =>
 some [I (IntKind.i64.wrap (x0 + gA o5 0)), I (IntKind.i64.wrap (x1 + gA o6 0)), I (IntKind.i64.wrap (x2 + gA o7 0)), B true] := by kernel_rfl
def Qdp := mf_cncref24_Toward Qeg Qc1 
theorem sp_cncref24_Toward : Qak Tryz.prog (C_cncref24_Toward_0 Qeg Qc1) := Qae rfl ⟨r_cncref23_Near, r_cncref23_Square, trivial⟩
theorem r_cncref24_Toward : Qbm Tryz.prog (154, spOf sig_cncref24_Toward osig_cncref24_Toward Qdp) := Qa0 (C := (C_cncref24_Toward_0 Qeg Qc1)) (L := 64) (by kernel_rfl) (FnOK.bare rfl rfl rfl) sp_cncref24_Toward eqOk Qa9 (by kernel_rfl) (by kernel_rfl)
def sig_cncref24_permitted : Sk := { tmps := [TS.v true [ci, ci, ci], TS.v true [ci, ci, ci], TS.v true [ci, ci, ci], tf [ci], tf [ci]], boxes := [], rows := [] }
def osig_cncref24_permitted : Sk := { tmps := [tf [CS.bool]], boxes := [], rows := [] }
def C_cncref24_permitted_0 (Qb7 Qbe Qah : Fn) : Cfg := { spec := Qbx [(173, spOf sig_cncref24_Bend osig_cncref24_Bend Qb7), (154, spOf sig_cncref24_Toward osig_cncref24_Toward Qbe), (85, spOf Qh6 Qg7 Qah)], eqOk := Qb2, ownOff := ownOff }
def mf_cncref24_permitted (Qb7 Qbe Qah : Fn) : Fn := Qax Tryz.prog (C_cncref24_permitted_0 Qb7 Qbe Qah) 64 171 sig_cncref24_permitted osig_cncref24_permitted
theorem mf_cncref24_permitted_eq (Qb7 Qbe Qah : Fn) (x0 x1 x2 x3 x4 x5 x6 x7 x8 x9 x10 : Int) : mf_cncref24_permitted Qb7 Qbe Qah [I x0, I x1, I x2, I x3, I x4, I x5, I x6, I x7, I x8, I x9, I x10] =
 (Qah [I x0, I x1, I x2, I x3, I x4, I x5]).bind fun o5 =>
 (Qah [I x3, I x4, I x5, I x6, I x7, I x8]).bind fun o6 =>
 bif decide (x10 > IntKind.i64.wrap (mn (gA o5 0) (gA o6 0) - 2)) then
 some [B false]
 else
 (Qbe [I x3, I x4, I x5, I x0, I x1, I x2, I x10]).bind fun o7 =>
 (Qbe [I x3, I x4, I x5, I x6, I x7, I x8, I x10]).bind fun o8 =>
 (Qb7 [jA o7 0, jA o7 1, jA o7 2, I x3, I x4, I x5, jA o8 0, jA o8 1, jA o8 2]).bind fun o9 =>
 some [B (decide (gA o9 0 <= IntKind.i64.wrap (IntKind.i64.wrap (16 * x9) * x9)))] := by kernel_rfl
def Qdc := mf_cncref24_permitted Qe2 Qdp Qbt 
theorem sp_cncref24_permitted : Qak Tryz.prog (C_cncref24_permitted_0 Qe2 Qdp Qbt) := Qae rfl ⟨r_cncref24_Bend, r_cncref24_Toward, r_cncref23_Length, trivial⟩
theorem r_cncref24_permitted : Qbm Tryz.prog (171, spOf sig_cncref24_permitted osig_cncref24_permitted Qdc) := Qa0 (C := (C_cncref24_permitted_0 Qe2 Qdp Qbt)) (L := 64) (by kernel_rfl) (FnOK.bare rfl rfl rfl) sp_cncref24_permitted eqOk Qa9 (by kernel_rfl) (by kernel_rfl)
def sig_cncref24_Reach : Sk := { tmps := [TS.v true [ci, ci, ci], TS.v true [ci, ci, ci], TS.v true [ci, ci, ci], tf [ci]], boxes := [], rows := [] }
def osig_cncref24_Reach : Sk := { tmps := [tf [ci]], boxes := [], rows := [] }
def C_cncref24_Reach_0 (Qck : Fn) : Cfg := { spec := Qbx [(171, spOf sig_cncref24_permitted osig_cncref24_permitted Qck)], eqOk := Qb2, ownOff := ownOff }
def sk_cncref24_Reach_5 : Sk := { tmps := [td, td, td, tf [ci], tf [CS.ptr 4 0], tf [CS.ptr 5 0], tf [CS.ptr 6 0], td, td, tf [ci], tf [ci]] ++ dd 26, boxes := [(4, 25, [ci, ci, ci]), (5, 25, [ci, ci, ci]), (6, 25, [ci, ci, ci])], rows := [] }
def ex_cncref24_Reach_5 : List (Ex × Sk) := [(Ex.exit 0, { tmps := [td, td, td, td, td, td, td, td, td, tf [ci]] ++ dd 27, boxes := [], rows := [] })]
def Qee (Qck : Fn) : Lp := stepL Tryz.prog (C_cncref24_Reach_0 Qck) 64 5 (Qf0 Tryz.prog 153 5) sk_cncref24_Reach_5 ex_cncref24_Reach_5
def C_cncref24_Reach_1 (Qck : Fn) (N5 : Lp) : Cfg := (C_cncref24_Reach_0 Qck).loop 5 sk_cncref24_Reach_5 ex_cncref24_Reach_5 N5
def mf_cncref24_Reach (Qck : Fn) (N5 : Lp) : Fn := Qax Tryz.prog (C_cncref24_Reach_1 Qck N5) 64 153 sig_cncref24_Reach osig_cncref24_Reach
theorem st_cncref24_Reach_5_eq (Qck : Fn) (v0 v1 v2 v3 v4 v5 v6 v7 v8 v9 v10 v11 : Int) : Qee Qck [I v0, I v1, I v2, I v3, I v4, I v5, I v6, I v7, I v8, I v9, I v10, I v11] =
 bif decide (v2 > 0) then
 (Qck [I v3, I v4, I v5, I v6, I v7, I v8, I v9, I v10, I v11, I v0, I (IntKind.i64.wrap (v1 + v2))]).bind fun o2 =>
 bif bA o2 0 then
 some (0, [I v0, I (IntKind.i64.wrap (v1 + v2)), I (v2.fdiv (2 ^ min (Int.toNat 1) IntKind.i64.bits)), I v3, I v4, I v5, I v6, I v7, I v8, I v9, I v10, I v11])
 else
 some (0, [I v0, I v1, I (v2.fdiv (2 ^ min (Int.toNat 1) IntKind.i64.bits)), I v3, I v4, I v5, I v6, I v7, I v8, I v9, I v10, I v11])
 else
 some (1, [I v1]) := by kernel_rfl
theorem mf_cncref24_Reach_eq (Qck : Fn) (N5 : Lp) (x0 x1 x2 x3 x4 x5 x6 x7 x8 x9 : Int) : mf_cncref24_Reach Qck N5 [I x0, I x1, I x2, I x3, I x4, I x5, I x6, I x7, I x8, I x9] =
 bif x0 == x3 && (x1 == x4 && (x2 == x5 && true)) then
 some [I 0]
 else
 bif x6 == x3 && (x7 == x4 && (x8 == x5 && true)) then
 some [I 0]
 else
 (N5 [I x9, I 0, I 16777216, I x0, I x1, I x2, I x3, I x4, I x5, I x6, I x7, I x8]).bind fun o3 =>
 bif o3.1.beq 1 then
 bif decide (gA o3.2 0 < 16) then
 some [I 0]
 else
 some [jA o3.2 0]
 else
 none := by kernel_rfl
def l_cncref24_Reach_5 := Qbl (Qee Qdc )
def Qgv := mf_cncref24_Reach Qdc l_cncref24_Reach_5
theorem sp_cncref24_Reach : Qak Tryz.prog (C_cncref24_Reach_0 Qdc) := Qae rfl ⟨r_cncref24_permitted, trivial⟩
theorem r_cncref24_Reach : Qbm Tryz.prog (153, spOf sig_cncref24_Reach osig_cncref24_Reach Qgv) := Qa0 (C := (C_cncref24_Reach_1 Qdc l_cncref24_Reach_5)) (L := 64) (by kernel_rfl) ((FnOK.bare rfl rfl rfl).loop sp_cncref24_Reach eqOk Qa9 (by kernel_rfl) (by kernel_rfl)) sp_cncref24_Reach eqOk Qa9 (by kernel_rfl) (by kernel_rfl)
def sig_cncref24_Corner : Sk := { tmps := [TS.v true [ci, ci, ci], TS.v true [ci, ci, ci], TS.v true [ci, ci, ci], tf [ci]], boxes := [], rows := [] }
def osig_cncref24_Corner : Sk := { tmps := [tf [CS.sl kPt]], boxes := [], rows := [] }
def C_cncref24_Corner_0 (Qa2 Qc2 Qbe Qdf : Fn) : Cfg := { spec := Qbx [(72, spOf sig_cncref24_Rounded osig_cncref24_Rounded Qa2), (155, spOf sig_cncref24_Pieces osig_cncref24_Pieces Qc2), (154, spOf sig_cncref24_Toward osig_cncref24_Toward Qbe), (153, spOf sig_cncref24_Reach osig_cncref24_Reach Qdf)], eqOk := Qb2, ownOff := ownOff, prom := fun b => bif Nat.beq b 9 then [(15, 25)] else [], unroll := [13] }
def sk_cncref24_Corner_9 : Sk := { tmps := [td, td, td, td, td, tf [CS.ptr 5 0], td, td, td, td, tf [CS.ptr 10 0], td, tf [CS.ptr 12 0], td, tf [ci], tf [CS.own 15 3], tf [ci]] ++ dd 80, boxes := [(5, 25, [ci, ci, ci]), (10, 25, [ci, ci, ci]), (12, 25, [ci, ci, ci])], rows := [(15, 25, kPt)] }
def ex_cncref24_Corner_9 : List (Ex × Sk) := [(Ex.exit 0, { tmps := [td, td, td, td, td, td, td, td, td, td, td, td, td, td, td, tf [CS.own 15 3]] ++ dd 81, boxes := [], rows := [(15, 25, kPt)] })]
def Qfy (Qa2 Qc2 Qbe Qdf : Fn) : Lp := stepL Tryz.prog (C_cncref24_Corner_0 Qa2 Qc2 Qbe Qdf) 64 9 (Qf0 Tryz.prog 135 9) sk_cncref24_Corner_9 ex_cncref24_Corner_9
def C_cncref24_Corner_1 (Qa2 Qc2 Qbe Qdf : Fn) (N9 : Lp) : Cfg := (C_cncref24_Corner_0 Qa2 Qc2 Qbe Qdf).loop 9 sk_cncref24_Corner_9 ex_cncref24_Corner_9 N9
def mf_cncref24_Corner (Qa2 Qc2 Qbe Qdf : Fn) (N9 : Lp) : Fn := Qax Tryz.prog (C_cncref24_Corner_1 Qa2 Qc2 Qbe Qdf N9) 64 135 sig_cncref24_Corner osig_cncref24_Corner
theorem st_cncref24_Corner_9_eq (Qa2 Qc2 Qbe Qdf : Fn) (v0 : Rw) (v1 v2 v3 v4 v5 v6 v7 v8 v9 v10 v11 : Int) : Qfy Qa2 Qc2 Qbe Qdf [.view kPt v0, I v1, I v2, I v3, I v4, I v5, I v6, I v7, I v8, I v9, I v10, I v11] =
 bif decide (v2 <= v1) then
 (Qa2 [I (IntKind.i64.wrap (IntKind.i64.wrap (IntKind.i64.wrap (IntKind.i64.wrap (v1 - v2) * IntKind.i64.wrap (v1 - v2)) * IntKind.i64.wrap (v6 - v3)) + IntKind.i64.wrap (IntKind.i64.wrap (v2 * v2) * IntKind.i64.wrap (v9 - v3)))), I (IntKind.i64.wrap (v1 * v1))]).bind fun o19 =>
 (Qa2 [I (IntKind.i64.wrap (IntKind.i64.wrap (IntKind.i64.wrap (IntKind.i64.wrap (v1 - v2) * IntKind.i64.wrap (v1 - v2)) * IntKind.i64.wrap (v7 - v4)) + IntKind.i64.wrap (IntKind.i64.wrap (v2 * v2) * IntKind.i64.wrap (v10 - v4)))), I (IntKind.i64.wrap (v1 * v1))]).bind fun o20 =>
 (Qa2 [I (IntKind.i64.wrap (IntKind.i64.wrap (IntKind.i64.wrap (IntKind.i64.wrap (v1 - v2) * IntKind.i64.wrap (v1 - v2)) * IntKind.i64.wrap (v8 - v5)) + IntKind.i64.wrap (IntKind.i64.wrap (v2 * v2) * IntKind.i64.wrap (v11 - v5)))), I (IntKind.i64.wrap (v1 * v1))]).bind fun o21 =>
 bif ((v0 ++ [[I (IntKind.i64.wrap (v3 + gA o19 0)), I (IntKind.i64.wrap (v4 + gA o20 0)), I (IntKind.i64.wrap (v5 + gA o21 0))]]).length * 24).ble 140737488355328 then
 some (0, [.view kPt (v0 ++ [[I (IntKind.i64.wrap (v3 + gA o19 0)), I (IntKind.i64.wrap (v4 + gA o20 0)), I (IntKind.i64.wrap (v5 + gA o21 0))]]), I v1, I (IntKind.i64.wrap (v2 + 1)), I v3, I v4, I v5, I v6, I v7, I v8, I v9, I v10, I v11])
 else
 none
 else
 some (1, [.view kPt v0]) := by kernel_rfl
theorem mf_cncref24_Corner_eq (Qa2 Qc2 Qbe Qdf : Fn) (N9 : Lp) (x0 x1 x2 x3 x4 x5 x6 x7 x8 x9 : Int) : mf_cncref24_Corner Qa2 Qc2 Qbe Qdf N9 [I x0, I x1, I x2, I x3, I x4, I x5, I x6, I x7, I x8, I x9] =
 (Qdf [I x0, I x1, I x2, I x3, I x4, I x5, I x6, I x7, I x8, I x9]).bind fun o22 =>
 bif gA o22 0 == 0 then
 some [.view kPt [[I x3, I x4, I x5]]]
 else
 (Qbe [I x3, I x4, I x5, I x0, I x1, I x2, jA o22 0]).bind fun o23 =>
 (Qbe [I x3, I x4, I x5, I x6, I x7, I x8, jA o22 0]).bind fun o24 =>
 (Qc2 [jA o23 0, jA o23 1, jA o23 2, I x3, I x4, I x5, jA o24 0, jA o24 1, jA o24 2]).bind fun o25 =>
 (N9 [.view kPt [], jA o25 0, I 0, I x3, I x4, I x5, jA o23 0, jA o23 1, jA o23 2, jA o24 0, jA o24 1, jA o24 2]).bind fun o26 =>
 bif o26.1.beq 1 then
 some [.view kPt (wA o26.2 0)]
 else
 none := by kernel_rfl
def l_cncref24_Corner_9 := Qbl (Qfy Qcg Qfd Qdp Qgv )
def m_cncref24_Corner := mf_cncref24_Corner Qcg Qfd Qdp Qgv l_cncref24_Corner_9
theorem sp_cncref24_Corner : Qak Tryz.prog (C_cncref24_Corner_0 Qcg Qfd Qdp Qgv) := Qae rfl ⟨r_cncref24_Rounded, r_cncref24_Pieces, r_cncref24_Toward, r_cncref24_Reach, trivial⟩
theorem r_cncref24_Corner : Qbm Tryz.prog (135, spOf sig_cncref24_Corner osig_cncref24_Corner m_cncref24_Corner) := Qa0 (C := (C_cncref24_Corner_1 Qcg Qfd Qdp Qgv l_cncref24_Corner_9)) (L := 64) (by kernel_rfl) ((FnOK.bare rfl rfl rfl).loop sp_cncref24_Corner eqOk Qa9 (by kernel_rfl) (by kernel_rfl)) sp_cncref24_Corner eqOk Qa9 (by kernel_rfl) (by kernel_rfl)
def sig_cncref25_joined : Sk := { tmps := [tf [CS.sl kItm], tf [ci], tf [ci]], boxes := [], rows := [] }
def osig_cncref25_joined : Sk := { tmps := [tf [CS.sl kPt]], boxes := [], rows := [] }
def C_cncref25_joined_0 (Qhl Qaf Qar : Fn) : Cfg := { spec := Qbx [(135, spOf sig_cncref24_Corner osig_cncref24_Corner Qhl), (81, spOf Qhp Qgl Qaf), (90, spOf Qhz Qg8 Qar)], eqOk := Qb2, ownOff := ownOff }
def mf_cncref25_joined (Qhl Qaf Qar : Fn) : Fn := Qax Tryz.prog (C_cncref25_joined_0 Qhl Qaf Qar) 64 115 sig_cncref25_joined osig_cncref25_joined
theorem mf_cncref25_joined_eq (Qhl Qaf Qar : Fn) (x0 : Rw) (x1 x2 : Int) : mf_cncref25_joined Qhl Qaf Qar [.view kItm x0, I x1, I x2] =
 bif decide (0 <= x1) && decide (x1 < (x0.length : Int)) then
 (Qar [jA (nth [] x0 x1.toNat) 0, jA (nth [] x0 x1.toNat) 1, jA (nth [] x0 x1.toNat) 2, jA (nth [] x0 x1.toNat) 3, jA (nth [] x0 x1.toNat) 4, jA (nth [] x0 x1.toNat) 5, jA (nth [] x0 x1.toNat) 6, jA (nth [] x0 x1.toNat) 7, jA (nth [] x0 x1.toNat) 8, jA (nth [] x0 x1.toNat) 9, jA (nth [] x0 x1.toNat) 10, jA (nth [] x0 x1.toNat) 11, jA (nth [] x0 x1.toNat) 12, B (bA (nth [] x0 x1.toNat) 13), jA (nth [] x0 x1.toNat) 14, B (bA (nth [] x0 x1.toNat) 15), jA (nth [] x0 x1.toNat) 16, jA (nth [] x0 x1.toNat) 17, jA (nth [] x0 x1.toNat) 18, jA (nth [] x0 x1.toNat) 19, jA (nth [] x0 x1.toNat) 20, B (bA (nth [] x0 x1.toNat) 21)]).bind fun o4 =>
 bif decide (0 <= x1) && decide (x1 < (x0.length : Int)) then
 (Qaf [jA (nth [] x0 x1.toNat) 5, jA (nth [] x0 x1.toNat) 6, jA (nth [] x0 x1.toNat) 7]).bind fun o5 =>
 bif decide (0 <= x2) && decide (x2 < (x0.length : Int)) then
 (Qar [jA (nth [] x0 x2.toNat) 0, jA (nth [] x0 x2.toNat) 1, jA (nth [] x0 x2.toNat) 2, jA (nth [] x0 x2.toNat) 3, jA (nth [] x0 x2.toNat) 4, jA (nth [] x0 x2.toNat) 5, jA (nth [] x0 x2.toNat) 6, jA (nth [] x0 x2.toNat) 7, jA (nth [] x0 x2.toNat) 8, jA (nth [] x0 x2.toNat) 9, jA (nth [] x0 x2.toNat) 10, jA (nth [] x0 x2.toNat) 11, jA (nth [] x0 x2.toNat) 12, B (bA (nth [] x0 x2.toNat) 13), jA (nth [] x0 x2.toNat) 14, B (bA (nth [] x0 x2.toNat) 15), jA (nth [] x0 x2.toNat) 16, jA (nth [] x0 x2.toNat) 17, jA (nth [] x0 x2.toNat) 18, jA (nth [] x0 x2.toNat) 19, jA (nth [] x0 x2.toNat) 20, B (bA (nth [] x0 x2.toNat) 21)]).bind fun o6 =>
 bif decide (0 <= x1) && decide (x1 < (x0.length : Int)) then
 (Qhl [jA o4 0, jA o4 1, jA o4 2, jA o5 0, jA o5 1, jA o5 2, jA o6 0, jA o6 1, jA o6 2, I (IntKind.i64.wrap (gA (nth [] x0 x1.toNat) 18 * 16))]).bind fun o7 =>
 some [.view kPt (wA o7 0)]
 else
 none
 else
 none
 else
 none
 else
 none := by kernel_rfl
def m_cncref25_joined := mf_cncref25_joined m_cncref24_Corner Qbj Qcn 
theorem sp_cncref25_joined : Qak Tryz.prog (C_cncref25_joined_0 m_cncref24_Corner Qbj Qcn) := Qae rfl ⟨r_cncref24_Corner, r_cncref23_Fine, r_cncref25_Center, trivial⟩
theorem r_cncref25_joined : Qbm Tryz.prog (115, spOf sig_cncref25_joined osig_cncref25_joined m_cncref25_joined) := Qa0 (C := (C_cncref25_joined_0 m_cncref24_Corner Qbj Qcn)) (L := 64) (by kernel_rfl) (FnOK.bare rfl rfl rfl) sp_cncref25_joined eqOk Qa9 (by kernel_rfl) (by kernel_rfl)
def sig_cncref23_Space : Sk := { tmps := [tf [ci], tf [ci], tf [ci], tf [ci]], boxes := [], rows := [] }
def osig_cncref23_Space : Sk := { tmps := [TS.v true [ci, ci, ci]], boxes := [], rows := [] }
def C_cncref23_Space_0 : Cfg := { spec := Qbx [], eqOk := Qb2, ownOff := ownOff }
def mf_cncref23_Space : Fn := Qax Tryz.prog C_cncref23_Space_0 64 125 sig_cncref23_Space osig_cncref23_Space
theorem mf_cncref23_Space_eq (x0 x1 x2 x3 : Int) : mf_cncref23_Space [I x0, I x1, I x2, I x3] =
 bif x3 == 17 then
 some [I x0, I x1, I x2]
 else
 bif x3 == 18 then
 some [I x1, I x2, I x0]
 else
 bif x3 == 19 then
 some [I x2, I x0, I x1]
 else
 some [I 0, I 0, I 0] := by kernel_rfl
def Qem := mf_cncref23_Space 
theorem sp_cncref23_Space : Qak Tryz.prog (C_cncref23_Space_0 ) := Qae rfl trivial
theorem r_cncref23_Space : Qbm Tryz.prog (125, spOf sig_cncref23_Space osig_cncref23_Space Qem) := Qa0 (C := C_cncref23_Space_0) (L := 64) (by kernel_rfl) (FnOK.bare rfl rfl rfl) sp_cncref23_Space eqOk Qa9 (by kernel_rfl) (by kernel_rfl)
def sig_cncref23_Plane : Sk := { tmps := [TS.v true [ci, ci, ci], tf [ci]], boxes := [], rows := [] }
def Qhx : Sk := { tmps := [TS.tup [(false, [ci]), (false, [ci]), (false, [ci])]], boxes := [], rows := [] }
def C_cncref23_Plane_0 : Cfg := { spec := Qbx [], eqOk := Qb2, ownOff := ownOff }
def mf_cncref23_Plane : Fn := Qax Tryz.prog C_cncref23_Plane_0 64 123 sig_cncref23_Plane Qhx
theorem mf_cncref23_Plane_eq (x0 x1 x2 x3 : Int) : mf_cncref23_Plane [I x0, I x1, I x2, I x3] =
 bif x3 == 17 then
 some [I x0, I x1, I x2]
 else
 bif x3 == 18 then
 some [I x2, I x0, I x1]
 else
 bif x3 == 19 then
 some [I x1, I x2, I x0]
 else
 some [I 0, I 0, I 0] := by kernel_rfl
def Qc4 := mf_cncref23_Plane 
theorem sp_cncref23_Plane : Qak Tryz.prog (C_cncref23_Plane_0 ) := Qae rfl trivial
theorem r_cncref23_Plane : Qbm Tryz.prog (123, spOf sig_cncref23_Plane Qhx Qc4) := Qa0 (C := C_cncref23_Plane_0) (L := 64) (by kernel_rfl) (FnOK.bare rfl rfl rfl) sp_cncref23_Plane eqOk Qa9 (by kernel_rfl) (by kernel_rfl)
def sig_cncref23_half : Sk := { tmps := [tf [ci], tf [ci]], boxes := [], rows := [] }
def osig_cncref23_half : Sk := { tmps := [tf [ci]], boxes := [], rows := [] }
def C_cncref23_half_0 : Cfg := { spec := Qbx [], eqOk := Qb2, ownOff := ownOff }
def mf_cncref23_half : Fn := Qax Tryz.prog C_cncref23_half_0 64 183 sig_cncref23_half osig_cncref23_half
theorem mf_cncref23_half_eq (x0 x1 : Int) : mf_cncref23_half [I x0, I x1] =
 some [I ((IntKind.i64.wrap (IntKind.i64.wrap (x0 + x1) + 1)).fdiv (2 ^ min (Int.toNat 1) IntKind.i64.bits))] := by kernel_rfl
def m_cncref23_half := mf_cncref23_half 
theorem sp_cncref23_half : Qak Tryz.prog (C_cncref23_half_0 ) := Qae rfl trivial
theorem r_cncref23_half : Qbm Tryz.prog (183, spOf sig_cncref23_half osig_cncref23_half m_cncref23_half) := Qa0 (C := C_cncref23_half_0) (L := 64) (by kernel_rfl) (FnOK.bare rfl rfl rfl) sp_cncref23_half eqOk Qa9 (by kernel_rfl) (by kernel_rfl)
def Qir : Sk := { tmps := [TS.v true [ci, ci, ci, ci], TS.v true [ci, ci, ci, ci]], boxes := [], rows := [] }
def Qib : Sk := { tmps := [tf [ci]], boxes := [], rows := [] }
def C_cncref23_Cross_0 : Cfg := { spec := Qbx [], eqOk := Qb2, ownOff := ownOff }
def mf_cncref23_Cross : Fn := Qax Tryz.prog C_cncref23_Cross_0 64 150 Qir Qib
theorem mf_cncref23_Cross_eq (x0 x1 x2 x3 x4 x5 x6 x7 : Int) : mf_cncref23_Cross [I x0, I x1, I x2, I x3, I x4, I x5, I x6, I x7] =
 some [I (IntKind.i64.wrap (IntKind.i64.wrap (x0 * x5) - IntKind.i64.wrap (x1 * x4)))] := by kernel_rfl
def Qdi := mf_cncref23_Cross 
theorem sp_cncref23_Cross : Qak Tryz.prog (C_cncref23_Cross_0 ) := Qae rfl trivial
theorem r_cncref23_Cross : Qbm Tryz.prog (150, spOf Qir Qib Qdi) := Qa0 (C := C_cncref23_Cross_0) (L := 64) (by kernel_rfl) (FnOK.bare rfl rfl rfl) sp_cncref23_Cross eqOk Qa9 (by kernel_rfl) (by kernel_rfl)
def sig_cncref23_Dot : Sk := { tmps := [TS.v true [ci, ci, ci, ci], TS.v true [ci, ci, ci, ci]], boxes := [], rows := [] }
def osig_cncref23_Dot : Sk := { tmps := [tf [ci]], boxes := [], rows := [] }
def C_cncref23_Dot_0 : Cfg := { spec := Qbx [], eqOk := Qb2, ownOff := ownOff }
def mf_cncref23_Dot : Fn := Qax Tryz.prog C_cncref23_Dot_0 64 148 sig_cncref23_Dot osig_cncref23_Dot
theorem mf_cncref23_Dot_eq (x0 x1 x2 x3 x4 x5 x6 x7 : Int) : mf_cncref23_Dot [I x0, I x1, I x2, I x3, I x4, I x5, I x6, I x7] =
 some [I (IntKind.i64.wrap (IntKind.i64.wrap (x0 * x4) + IntKind.i64.wrap (x1 * x5)))] := by kernel_rfl
def Qd4 := mf_cncref23_Dot 
theorem sp_cncref23_Dot : Qak Tryz.prog (C_cncref23_Dot_0 ) := Qae rfl trivial
theorem r_cncref23_Dot : Qbm Tryz.prog (148, spOf sig_cncref23_Dot osig_cncref23_Dot Qd4) := Qa0 (C := C_cncref23_Dot_0) (L := 64) (by kernel_rfl) (FnOK.bare rfl rfl rfl) sp_cncref23_Dot eqOk Qa9 (by kernel_rfl) (by kernel_rfl)
def sig_cncref23_Middle : Sk := { tmps := [TS.v true [ci, ci, ci, ci], TS.v true [ci, ci, ci, ci], tf [ci], tf [CS.bool]], boxes := [], rows := [] }
def osig_cncref23_Middle : Sk := { tmps := [TS.tup [(true, [ci, ci, ci, ci]), (false, [CS.bool])]], boxes := [], rows := [] }
def C_cncref23_Middle_0 (Qa3 Qb0 Qap Qaq : Fn) : Cfg := { spec := Qbx [(172, spOf sig_cncref23_Near osig_cncref23_Near Qa3), (183, spOf sig_cncref23_half osig_cncref23_half Qb0), (150, spOf Qir Qib Qap), (148, spOf sig_cncref23_Dot osig_cncref23_Dot Qaq)], eqOk := Qb2, ownOff := ownOff }
def mf_cncref23_Middle (Qa3 Qb0 Qap Qaq : Fn) : Fn := Qax Tryz.prog (C_cncref23_Middle_0 Qa3 Qb0 Qap Qaq) 64 170 sig_cncref23_Middle osig_cncref23_Middle
abbrev Qh2 (Qb0 : Fn) (x2 x6 : Int) (Qa3 : Fn) (x3 x7 : Int) (h1_0 h1_1 : Bool) (h1_2 h1_3 h1_4 : AC) : Option (List AC) :=
 bif h1_0 then
 bif h1_1 then
 some [I 0, I 0, I 0, I 0, B false]
 else
 (Qb0 [I x2, I x6]).bind fun o104 =>
 (Qa3 [h1_2, jA o104 0, h1_3]).bind fun o105 =>
 (Qa3 [h1_4, jA o104 0, h1_3]).bind fun o106 =>
 (Qb0 [I x3, I x7]).bind fun o107 =>
 some [jA o105 0, jA o106 0, jA o104 0, jA o107 0, B true]
 else
 (Qb0 [I x2, I x6]).bind fun o108 =>
 (Qa3 [h1_2, jA o108 0, h1_3]).bind fun o109 =>
 (Qa3 [h1_4, jA o108 0, h1_3]).bind fun o110 =>
 (Qb0 [I x3, I x7]).bind fun o111 =>
 some [jA o109 0, jA o110 0, jA o108 0, jA o111 0, B true]
attribute [go_sem] Qh2
abbrev g_cncref23_Middle_2 (Qaq : Fn) (x0 x1 x2 x3 x4 x5 x6 x7 : Int) (Qb0 Qa3 : Fn) (x8 : Int) : Option (List AC) :=
 (Qaq [I x0, I x1, I x2, I x3, I x4, I x5, I x6, I x7]).bind fun o122 =>
 bif decide (gA o122 0 > 0) then
 Qh2 Qb0 x2 x6 Qa3 x3 x7 (IntKind.i64.wrap (0 - IntKind.i64.wrap (x0 + x4)) == 0) (IntKind.i64.wrap (0 - IntKind.i64.wrap (x1 + x5)) == 0) (I (IntKind.i64.wrap (0 - IntKind.i64.wrap (x0 + x4)))) (I (IntKind.i64.wrap (IntKind.i64.wrap (IntKind.i64.wrap (0 - IntKind.i64.wrap (x0 + x4)) * IntKind.i64.wrap (0 - IntKind.i64.wrap (x0 + x4))) + IntKind.i64.wrap (IntKind.i64.wrap (0 - IntKind.i64.wrap (x1 + x5)) * IntKind.i64.wrap (0 - IntKind.i64.wrap (x1 + x5)))))) (I (IntKind.i64.wrap (0 - IntKind.i64.wrap (x1 + x5))))
 else
 Qh2 Qb0 x2 x6 Qa3 x3 x7 (IntKind.i64.wrap (x8 * IntKind.i64.wrap (x5 - x1)) == 0) (IntKind.i64.wrap (x8 * IntKind.i64.wrap (x0 - x4)) == 0) (I (IntKind.i64.wrap (x8 * IntKind.i64.wrap (x5 - x1)))) (I (IntKind.i64.wrap (IntKind.i64.wrap (IntKind.i64.wrap (x8 * IntKind.i64.wrap (x5 - x1)) * IntKind.i64.wrap (x8 * IntKind.i64.wrap (x5 - x1))) + IntKind.i64.wrap (IntKind.i64.wrap (x8 * IntKind.i64.wrap (x0 - x4)) * IntKind.i64.wrap (x8 * IntKind.i64.wrap (x0 - x4)))))) (I (IntKind.i64.wrap (x8 * IntKind.i64.wrap (x0 - x4))))
attribute [go_sem] g_cncref23_Middle_2
abbrev g_cncref23_Middle_3 (x9 : Bool) (Qb0 : Fn) (x2 x6 : Int) (Qa3 : Fn) (x3 x7 x0 x1 : Int) (Qaq : Fn) (x4 x5 : Int) (Qap : Fn) (x8 : Int) : Option (List AC) :=
 bif x9 then
 Qh2 Qb0 x2 x6 Qa3 x3 x7 (IntKind.i64.wrap (0 - x0) == 0) (IntKind.i64.wrap (0 - x1) == 0) (I (IntKind.i64.wrap (0 - x0))) (I (IntKind.i64.wrap (IntKind.i64.wrap (IntKind.i64.wrap (0 - x0) * IntKind.i64.wrap (0 - x0)) + IntKind.i64.wrap (IntKind.i64.wrap (0 - x1) * IntKind.i64.wrap (0 - x1))))) (I (IntKind.i64.wrap (0 - x1)))
 else
 (Qaq [I x0, I x1, I x2, I x3, I x4, I x5, I x6, I x7]).bind fun o112 =>
 bif decide (gA o112 0 > 0) then
 (Qap [I x0, I x1, I x2, I x3, I x4, I x5, I x6, I x7]).bind fun o113 =>
 bif decide (IntKind.i64.wrap (gA o113 0 * x8) > 0) then
 Qh2 Qb0 x2 x6 Qa3 x3 x7 (IntKind.i64.wrap (x0 + x4) == 0) (IntKind.i64.wrap (x1 + x5) == 0) (I (IntKind.i64.wrap (x0 + x4))) (I (IntKind.i64.wrap (IntKind.i64.wrap (IntKind.i64.wrap (x0 + x4) * IntKind.i64.wrap (x0 + x4)) + IntKind.i64.wrap (IntKind.i64.wrap (x1 + x5) * IntKind.i64.wrap (x1 + x5))))) (I (IntKind.i64.wrap (x1 + x5)))
 else
 g_cncref23_Middle_2 Qaq x0 x1 x2 x3 x4 x5 x6 x7 Qb0 Qa3 x8
 else
 g_cncref23_Middle_2 Qaq x0 x1 x2 x3 x4 x5 x6 x7 Qb0 Qa3 x8
attribute [go_sem] g_cncref23_Middle_3
theorem mf_cncref23_Middle_eq (Qa3 Qb0 Qap Qaq : Fn) (x0 x1 x2 x3 x4 x5 x6 x7 x8 : Int) (x9 : Bool) : mf_cncref23_Middle Qa3 Qb0 Qap Qaq [I x0, I x1, I x2, I x3, I x4, I x5, I x6, I x7, I x8, B x9] =
 bif x8 != 1 then
 bif x8 != -1 then
 some [I 0, I 0, I 0, I 0, B false]
 else
 g_cncref23_Middle_3 x9 Qb0 x2 x6 Qa3 x3 x7 x0 x1 Qaq x4 x5 Qap x8
 else
 g_cncref23_Middle_3 x9 Qb0 x2 x6 Qa3 x3 x7 x0 x1 Qaq x4 x5 Qap x8 := by kernel_rfl
def Qf7 := mf_cncref23_Middle Qeg m_cncref23_half Qdi Qd4 
theorem sp_cncref23_Middle : Qak Tryz.prog (C_cncref23_Middle_0 Qeg m_cncref23_half Qdi Qd4) := Qae rfl ⟨r_cncref23_Near, r_cncref23_half, r_cncref23_Cross, r_cncref23_Dot, trivial⟩
theorem r_cncref23_Middle : Qbm Tryz.prog (170, spOf sig_cncref23_Middle osig_cncref23_Middle Qf7) := Qa0 (C := (C_cncref23_Middle_0 Qeg m_cncref23_half Qdi Qd4)) (L := 64) (by kernel_rfl) (FnOK.bare rfl rfl rfl) sp_cncref23_Middle eqOk Qa9 (by kernel_rfl) (by kernel_rfl)
def sig_cncref23_Flat : Sk := { tmps := [tf [ci], tf [ci]], boxes := [], rows := [] }
def osig_cncref23_Flat : Sk := { tmps := [tf [CS.bool]], boxes := [], rows := [] }
def C_cncref23_Flat_0 : Cfg := { spec := Qbx [], eqOk := Qb2, ownOff := ownOff }
def mf_cncref23_Flat : Fn := Qax Tryz.prog C_cncref23_Flat_0 64 182 sig_cncref23_Flat osig_cncref23_Flat
theorem mf_cncref23_Flat_eq (x0 x1 : Int) : mf_cncref23_Flat [I x0, I x1] =
 some [B (decide (x1 <= IntKind.i64.wrap (IntKind.i64.wrap (IntKind.i64.wrap (8 * x0) * 4) - 64)))] := by kernel_rfl
def m_cncref23_Flat := mf_cncref23_Flat 
theorem sp_cncref23_Flat : Qak Tryz.prog (C_cncref23_Flat_0 ) := Qae rfl trivial
theorem r_cncref23_Flat : Qbm Tryz.prog (182, spOf sig_cncref23_Flat osig_cncref23_Flat m_cncref23_Flat) := Qa0 (C := C_cncref23_Flat_0) (L := 64) (by kernel_rfl) (FnOK.bare rfl rfl rfl) sp_cncref23_Flat eqOk Qa9 (by kernel_rfl) (by kernel_rfl)
def sig_cncref23_settled : Sk := { tmps := [TS.v true [ci, ci, ci, ci], TS.v true [ci, ci, ci, ci], tf [ci], tf [CS.bool]], boxes := [], rows := [] }
def osig_cncref23_settled : Sk := { tmps := [tf [CS.bool]], boxes := [], rows := [] }
def C_cncref23_settled_0 (M_cncref23_Flat Qap : Fn) : Cfg := { spec := Qbx [(182, spOf sig_cncref23_Flat osig_cncref23_Flat M_cncref23_Flat), (150, spOf Qir Qib Qap)], eqOk := Qb2, ownOff := ownOff }
def mf_cncref23_settled (M_cncref23_Flat Qap : Fn) : Fn := Qax Tryz.prog (C_cncref23_settled_0 M_cncref23_Flat Qap) 64 169 sig_cncref23_settled osig_cncref23_settled
theorem mf_cncref23_settled_eq (M_cncref23_Flat Qap : Fn) (x0 x1 x2 x3 x4 x5 x6 x7 x8 : Int) (x9 : Bool) : mf_cncref23_settled M_cncref23_Flat Qap [I x0, I x1, I x2, I x3, I x4, I x5, I x6, I x7, I x8, B x9] =
 bif !x9 then
 (Qap [I x0, I x1, I x2, I x3, I x4, I x5, I x6, I x7]).bind fun o2 =>
 bif decide (IntKind.i64.wrap (gA o2 0 * x8) > 0) then
 (M_cncref23_Flat [I (mn x2 x6), I (IntKind.i64.wrap (IntKind.i64.wrap (IntKind.i64.wrap (x0 - x4) * IntKind.i64.wrap (x0 - x4)) + IntKind.i64.wrap (IntKind.i64.wrap (x1 - x5) * IntKind.i64.wrap (x1 - x5))))]).bind fun o3 =>
 some [B (bA o3 0)]
 else
 some [B false]
 else
 some [B false] := by kernel_rfl
def Qfm := mf_cncref23_settled m_cncref23_Flat Qdi 
theorem sp_cncref23_settled : Qak Tryz.prog (C_cncref23_settled_0 m_cncref23_Flat Qdi) := Qae rfl ⟨r_cncref23_Flat, r_cncref23_Cross, trivial⟩
theorem r_cncref23_settled : Qbm Tryz.prog (169, spOf sig_cncref23_settled osig_cncref23_settled Qfm) := Qa0 (C := (C_cncref23_settled_0 m_cncref23_Flat Qdi)) (L := 64) (by kernel_rfl) (FnOK.bare rfl rfl rfl) sp_cncref23_settled eqOk Qa9 (by kernel_rfl) (by kernel_rfl)
def fuel_cncref23_pieces : Nat := 20
def Qef : Sk := { tmps := [TS.v true [ci, ci, ci, ci], TS.v true [ci, ci, ci, ci], tf [ci], tf [CS.bool], tf [ci]], boxes := [], rows := [] }
def Qd7 : Sk := { tmps := [tf [CS.own 103700 4]], boxes := [], rows := [(103700, 154, [kI, kI, kI, kI])] }
def C_cncref23_pieces_0 (Qco Qhq Qgn : Fn) : Cfg := { spec := Qbx [(152, spOf Qef Qd7 Qco), (170, spOf sig_cncref23_Middle osig_cncref23_Middle Qhq), (169, spOf sig_cncref23_settled osig_cncref23_settled Qgn)], eqOk := Qb2, pure := fun f => !(Qft [152] f), ownOff := ownOff, rowDst := [23], rowAs := fun d => bif Nat.beq d 23 then 103700 else d, ownRes := true }
def mf_cncref23_pieces (Qco Qhq Qgn : Fn) : Fn := Qax Tryz.prog (C_cncref23_pieces_0 Qco Qhq Qgn) 64 152 Qef Qd7
theorem mf_cncref23_pieces_eq (Qco Qhq Qgn : Fn) (x0 x1 x2 x3 x4 x5 x6 x7 x8 : Int) (x9 : Bool) (x10 : Int) : mf_cncref23_pieces Qco Qhq Qgn [I x0, I x1, I x2, I x3, I x4, I x5, I x6, I x7, I x8, B x9, I x10] =
 bif decide (x10 >= 16) then
 some [.view [kI, kI, kI, kI] [[I x4, I x5, I x6, I x7]]]
 else
 (Qgn [I x0, I x1, I x2, I x3, I x4, I x5, I x6, I x7, I x8, B x9]).bind fun o4 =>
 bif bA o4 0 then
 some [.view [kI, kI, kI, kI] [[I x4, I x5, I x6, I x7]]]
 else
 (Qhq [I x0, I x1, I x2, I x3, I x4, I x5, I x6, I x7, I x8, B x9]).bind fun o5 =>
 (Qco [I x0, I x1, I x2, I x3, jA o5 0, jA o5 1, jA o5 2, jA o5 3, I x8, B false, I (IntKind.i64.wrap (x10 + 1))]).bind fun o6 =>
 (Qco [jA o5 0, jA o5 1, jA o5 2, jA o5 3, I x4, I x5, I x6, I x7, I x8, B false, I (IntKind.i64.wrap (x10 + 1))]).bind fun o7 =>
 bif ((wA o6 0 ++ wA o7 0).length * 32).ble 140737488355328 then
 some [.view [kI, kI, kI, kI] (wA o6 0 ++ wA o7 0)]
 else
 none := by kernel_rfl
def mG_cncref23_pieces (M : Fn) : Fn := mf_cncref23_pieces M Qf7 Qfm 
def Qgq : Nat -> Fn
 | 0 => fun _ => none
 | n + 1 => mG_cncref23_pieces (Qgq n)
theorem sp_cncref23_pieces {M : Fn} (h : Qbm Tryz.prog (152, spOf Qef Qd7 M)) : Qak Tryz.prog (C_cncref23_pieces_0 M Qf7 Qfm) := Qae rfl ⟨h, r_cncref23_Middle, r_cncref23_settled, trivial⟩
theorem rG_cncref23_pieces {M : Fn} (h : Qbm Tryz.prog (152, spOf Qef Qd7 M)) : Qbm Tryz.prog (152, spOf Qef Qd7 (mG_cncref23_pieces M)) := Qa0 (C := (C_cncref23_pieces_0 M Qf7 Qfm)) (L := 64) (by kernel_rfl) (FnOK.bare rfl rfl rfl) (sp_cncref23_pieces h) eqOk Qa9 (by kernel_rfl) (by kernel_rfl)
theorem rR_cncref23_pieces : ∀ n, Qbm Tryz.prog (152, spOf Qef Qd7 (Qgq n))
 | 0 => row_none
 | n + 1 => rG_cncref23_pieces (rR_cncref23_pieces n)
def m_cncref23_pieces := Qgq fuel_cncref23_pieces
theorem r_cncref23_pieces : Qbm Tryz.prog (152, spOf Qef Qd7 m_cncref23_pieces) := rR_cncref23_pieces fuel_cncref23_pieces
def sig_cncref23_spoke : Sk := { tmps := [TS.v true [ci, ci, ci, ci]], boxes := [], rows := [] }
def osig_cncref23_spoke : Sk := { tmps := [TS.v true [ci, ci, ci, ci]], boxes := [], rows := [] }
def C_cncref23_spoke_0 (Qdq Qaq : Fn) : Cfg := { spec := Qbx [(117, spOf sig_cncref23_root osig_cncref23_root Qdq), (148, spOf sig_cncref23_Dot osig_cncref23_Dot Qaq)], eqOk := Qb2, ownOff := ownOff }
def mf_cncref23_spoke (Qdq Qaq : Fn) : Fn := Qax Tryz.prog (C_cncref23_spoke_0 Qdq Qaq) 64 168 sig_cncref23_spoke osig_cncref23_spoke
theorem mf_cncref23_spoke_eq (Qdq Qaq : Fn) (x0 x1 x2 x3 : Int) : mf_cncref23_spoke Qdq Qaq [I x0, I x1, I x2, I x3] =
 (Qaq [I (IntKind.i64.wrap (x0 * 16)), I (IntKind.i64.wrap (x1 * 16)), I 0, I (IntKind.i64.wrap (x3 * 16)), I (IntKind.i64.wrap (x0 * 16)), I (IntKind.i64.wrap (x1 * 16)), I 0, I (IntKind.i64.wrap (x3 * 16))]).bind fun o2 =>
 (Qdq [jA o2 0]).bind fun o3 =>
 bif decide (IntKind.i64.wrap (gA o3 0 * IntKind.i64.wrap (gA o3 0 + 1)) < gA o2 0) then
 some [I (IntKind.i64.wrap (x0 * 16)), I (IntKind.i64.wrap (x1 * 16)), I (IntKind.i64.wrap (gA o3 0 + 1)), I (IntKind.i64.wrap (x3 * 16))]
 else
 some [I (IntKind.i64.wrap (x0 * 16)), I (IntKind.i64.wrap (x1 * 16)), jA o3 0, I (IntKind.i64.wrap (x3 * 16))] := by kernel_rfl
def m_cncref23_spoke := mf_cncref23_spoke Qfn Qd4 
theorem sp_cncref23_spoke : Qak Tryz.prog (C_cncref23_spoke_0 Qfn Qd4) := Qae rfl ⟨r_cncref23_root, r_cncref23_Dot, trivial⟩
theorem r_cncref23_spoke : Qbm Tryz.prog (168, spOf sig_cncref23_spoke osig_cncref23_spoke m_cncref23_spoke) := Qa0 (C := (C_cncref23_spoke_0 Qfn Qd4)) (L := 64) (by kernel_rfl) (FnOK.bare rfl rfl rfl) sp_cncref23_spoke eqOk Qa9 (by kernel_rfl) (by kernel_rfl)
def sig_cncref23_ends : Sk := { tmps := [TS.v true [ci, ci, ci, ci, ci, ci, ci, ci, ci, ci, ci, ci, ci, CS.bool, ci, CS.bool, ci, ci, ci, ci, ci, CS.bool]], boxes := [], rows := [] }
def osig_cncref23_ends : Sk := { tmps := [TS.tup [(true, [ci, ci, ci, ci]), (true, [ci, ci, ci, ci])]], boxes := [], rows := [] }
def C_cncref23_ends_0 (Qaz : Fn) : Cfg := { spec := Qbx [(123, spOf sig_cncref23_Plane Qhx Qaz)], eqOk := Qb2, ownOff := ownOff }
def mf_cncref23_ends (Qaz : Fn) : Fn := Qax Tryz.prog (C_cncref23_ends_0 Qaz) 64 147 sig_cncref23_ends osig_cncref23_ends
theorem mf_cncref23_ends_eq (Qaz : Fn) (x0 x1 x2 x3 x4 x5 x6 x7 x8 x9 x10 x11 x12 : Int) (x13 : Bool) (x14 : Int) (x15 : Bool) (x16 x17 x18 x19 x20 : Int) (x21 : Bool) : mf_cncref23_ends Qaz [I x0, I x1, I x2, I x3, I x4, I x5, I x6, I x7, I x8, I x9, I x10, I x11, I x12, B x13, I x14, B x15, I x16, I x17, I x18, I x19, I x20, B x21] =
 (Qaz [I x9, I x10, I x11, I x8]).bind fun o3 =>
 (Qaz [I x2, I x3, I x4, I x8]).bind fun o4 =>
 (Qaz [I x5, I x6, I x7, I x8]).bind fun o5 =>
 some [I (IntKind.i64.wrap (gA o4 0 - gA o3 0)), I (IntKind.i64.wrap (gA o4 1 - gA o3 1)), I 0, jA o4 2, I (IntKind.i64.wrap (gA o5 0 - gA o3 0)), I (IntKind.i64.wrap (gA o5 1 - gA o3 1)), I 0, jA o5 2] := by kernel_rfl
def Qgg := mf_cncref23_ends Qc4 
theorem sp_cncref23_ends : Qak Tryz.prog (C_cncref23_ends_0 Qc4) := Qae rfl ⟨r_cncref23_Plane, trivial⟩
theorem r_cncref23_ends : Qbm Tryz.prog (147, spOf sig_cncref23_ends osig_cncref23_ends Qgg) := Qa0 (C := (C_cncref23_ends_0 Qc4)) (L := 64) (by kernel_rfl) (FnOK.bare rfl rfl rfl) sp_cncref23_ends eqOk Qa9 (by kernel_rfl) (by kernel_rfl)
def sig_cncref23_Ends : Sk := { tmps := [TS.v true [ci, ci, ci, ci, ci, ci, ci, ci, ci, ci, ci, ci, ci, CS.bool, ci, CS.bool, ci, ci, ci, ci, ci, CS.bool]], boxes := [], rows := [] }
def osig_cncref23_Ends : Sk := { tmps := [TS.tup [(true, [ci, ci, ci, ci]), (true, [ci, ci, ci, ci])]], boxes := [], rows := [] }
def C_cncref23_Ends_0 (Qgw Qb1 : Fn) : Cfg := { spec := Qbx [(168, spOf sig_cncref23_spoke osig_cncref23_spoke Qgw), (147, spOf sig_cncref23_ends osig_cncref23_ends Qb1)], eqOk := Qb2, ownOff := ownOff }
def mf_cncref23_Ends (Qgw Qb1 : Fn) : Fn := Qax Tryz.prog (C_cncref23_Ends_0 Qgw Qb1) 64 151 sig_cncref23_Ends osig_cncref23_Ends
theorem mf_cncref23_Ends_eq (Qgw Qb1 : Fn) (x0 x1 x2 x3 x4 x5 x6 x7 x8 x9 x10 x11 x12 : Int) (x13 : Bool) (x14 : Int) (x15 : Bool) (x16 x17 x18 x19 x20 : Int) (x21 : Bool) : mf_cncref23_Ends Qgw Qb1 [I x0, I x1, I x2, I x3, I x4, I x5, I x6, I x7, I x8, I x9, I x10, I x11, I x12, B x13, I x14, B x15, I x16, I x17, I x18, I x19, I x20, B x21] =
 (Qb1 [I x0, I x1, I x2, I x3, I x4, I x5, I x6, I x7, I x8, I x9, I x10, I x11, I x12, B x13, I x14, B x15, I x16, I x17, I x18, I x19, I x20, B x21]).bind fun o3 =>
 (Qgw [jA o3 0, jA o3 1, jA o3 2, jA o3 3]).bind fun o4 =>
 (Qgw [jA o3 4, jA o3 5, jA o3 6, jA o3 7]).bind fun o5 =>
 some [jA o4 0, jA o4 1, jA o4 2, jA o4 3, jA o5 0, jA o5 1, jA o5 2, jA o5 3] := by kernel_rfl
def m_cncref23_Ends := mf_cncref23_Ends m_cncref23_spoke Qgg 
theorem sp_cncref23_Ends : Qak Tryz.prog (C_cncref23_Ends_0 m_cncref23_spoke Qgg) := Qae rfl ⟨r_cncref23_spoke, r_cncref23_ends, trivial⟩
theorem r_cncref23_Ends : Qbm Tryz.prog (151, spOf sig_cncref23_Ends osig_cncref23_Ends m_cncref23_Ends) := Qa0 (C := (C_cncref23_Ends_0 m_cncref23_spoke Qgg)) (L := 64) (by kernel_rfl) (FnOK.bare rfl rfl rfl) sp_cncref23_Ends eqOk Qa9 (by kernel_rfl) (by kernel_rfl)
def sig_cncref01_cmp : Sk := { tmps := [tf [CS.sl [Kd.int .u64]], tf [CS.sl [Kd.int .u64]]], boxes := [], rows := [] }
def osig_cncref01_cmp : Sk := { tmps := [tf [ci]], boxes := [], rows := [] }
def C_cncref01_cmp_0 : Cfg := { spec := Qbx [], eqOk := Qb2, ownOff := ownOff }
def sk_cncref01_cmp_6 : Sk := { tmps := [tf [CS.sl [Kd.int .u64]], tf [CS.sl [Kd.int .u64]], td, td, td, tf [ci]] ++ dd 35, boxes := [], rows := [] }
def ex_cncref01_cmp_6 : List (Ex × Sk) := [(Ex.ret, { tmps := [td, td, td, td, tf [ci]] ++ dd 36, boxes := [], rows := [] }), (Ex.exit 0, { tmps := [td] ++ dd 40, boxes := [], rows := [] })]
def st_cncref01_cmp_6 : Lp := stepL Tryz.prog C_cncref01_cmp_0 64 6 (Qf0 Tryz.prog 166 6) sk_cncref01_cmp_6 ex_cncref01_cmp_6
def C_cncref01_cmp_1 (N6 : Lp) : Cfg := C_cncref01_cmp_0.loop 6 sk_cncref01_cmp_6 ex_cncref01_cmp_6 N6
def mf_cncref01_cmp (N6 : Lp) : Fn := Qax Tryz.prog (C_cncref01_cmp_1 N6) 64 166 sig_cncref01_cmp osig_cncref01_cmp
theorem st_cncref01_cmp_6_eq (v0 v1 : Rw) (v2 : Int) : st_cncref01_cmp_6 [.view [Kd.int .u64] v0, .view [Kd.int .u64] v1, I v2] =
 bif decide (v2 >= 0) then
 bif decide (0 <= v2) && decide (v2 < (v0.length : Int)) then
 bif decide (0 <= v2) && decide (v2 < (v1.length : Int)) then
 bif decide (Qas (nth .dead (nth [] v0 v2.toNat) 0) < Qas (nth .dead (nth [] v1 v2.toNat) 0)) then
 some (1, [I (-1)])
 else
 bif decide (0 <= v2) && decide (v2 < (v0.length : Int)) then
 bif decide (0 <= v2) && decide (v2 < (v1.length : Int)) then
 bif decide (Qas (nth .dead (nth [] v0 v2.toNat) 0) > Qas (nth .dead (nth [] v1 v2.toNat) 0)) then
 some (1, [I 1])
 else
 some (0, [.view [Kd.int IntKind.u64] v0, .view [Kd.int IntKind.u64] v1, I (IntKind.i64.wrap (v2 - 1))])
 else
 none
 else
 none
 else
 none
 else
 none
 else
 some (2, []) := by kernel_rfl
theorem mf_cncref01_cmp_eq (N6 : Lp) (x0 x1 : Rw) : mf_cncref01_cmp N6 [.view [Kd.int .u64] x0, .view [Kd.int .u64] x1] =
 bif (x0.length : Int) != (x1.length : Int) then
 bif decide ((x0.length : Int) < (x1.length : Int)) then
 some [I (-1)]
 else
 some [I 1]
 else
 (N6 [.view [Kd.int IntKind.u64] x0, .view [Kd.int IntKind.u64] x1, I (IntKind.i64.wrap ((x0.length : Int) - 1))]).bind fun o1 =>
 bif o1.1.beq 1 then
 some [I (Qas (nth .dead o1.2 0))]
 else
 bif o1.1.beq 2 then
 some [I 0]
 else
 none := by kernel_rfl
def l_cncref01_cmp_6 := Qbl (st_cncref01_cmp_6 )
def m_cncref01_cmp := mf_cncref01_cmp l_cncref01_cmp_6
theorem sp_cncref01_cmp : Qak Tryz.prog (C_cncref01_cmp_0 ) := Qae rfl trivial
theorem r_cncref01_cmp : Qbm Tryz.prog (166, spOf sig_cncref01_cmp osig_cncref01_cmp m_cncref01_cmp) := Qa0 (C := (C_cncref01_cmp_1 l_cncref01_cmp_6)) (L := 64) (by kernel_rfl) ((FnOK.bare rfl rfl rfl).loop sp_cncref01_cmp eqOk Qa9 (by kernel_rfl) (by kernel_rfl)) sp_cncref01_cmp eqOk Qa9 (by kernel_rfl) (by kernel_rfl)
def sig_cncref01_cut : Sk := { tmps := [tf [CS.sl [Kd.int .u64]]], boxes := [], rows := [] }
def osig_cncref01_cut : Sk := { tmps := [tf [CS.sl [Kd.int .u64]]], boxes := [], rows := [] }
def C_cncref01_cut_0 : Cfg := { spec := Qbx [], eqOk := Qb2, ownOff := ownOff }
def sk_cncref01_cut_1 : Sk := { tmps := [tf [CS.sl [Kd.int .u64]]] ++ dd 20, boxes := [], rows := [] }
def ex_cncref01_cut_1 : List (Ex × Sk) := [(Ex.exit 0, { tmps := [tf [CS.sl [Kd.int .u64]]] ++ dd 20, boxes := [], rows := [] })]
def st_cncref01_cut_1 : Lp := stepL Tryz.prog C_cncref01_cut_0 64 1 (Qf0 Tryz.prog 191 1) sk_cncref01_cut_1 ex_cncref01_cut_1
def C_cncref01_cut_1 (N1 : Lp) : Cfg := C_cncref01_cut_0.loop 1 sk_cncref01_cut_1 ex_cncref01_cut_1 N1
def mf_cncref01_cut (N1 : Lp) : Fn := Qax Tryz.prog (C_cncref01_cut_1 N1) 64 191 sig_cncref01_cut osig_cncref01_cut
theorem st_cncref01_cut_1_eq (v0 : Rw) : st_cncref01_cut_1 [.view [Kd.int .u64] v0] =
 bif decide ((v0.length : Int) > 0) then
 bif decide (0 <= IntKind.i64.wrap ((v0.length : Int) - 1)) && decide (IntKind.i64.wrap ((v0.length : Int) - 1) < (v0.length : Int)) then
 bif Qas (nth .dead (nth [] v0 (IntKind.i64.wrap ((v0.length : Int) - 1)).toNat) 0) == 0 then
 bif decide (0 <= IntKind.i64.wrap ((v0.length : Int) - 1)) && decide (IntKind.i64.wrap ((v0.length : Int) - 1) <= (v0.length : Int)) then
 some (0, [.view [Kd.int IntKind.u64] (List.take (IntKind.i64.wrap ((v0.length : Int) - 1)).toNat v0)])
 else
 none
 else
 some (1, [.view [Kd.int IntKind.u64] v0])
 else
 none
 else
 some (1, [.view [Kd.int IntKind.u64] v0]) := by kernel_rfl
theorem mf_cncref01_cut_eq (N1 : Lp) (x0 : Rw) : mf_cncref01_cut N1 [.view [Kd.int .u64] x0] =
 (N1 [.view [Kd.int IntKind.u64] x0]).bind fun o1 =>
 bif o1.1.beq 1 then
 some [.view [Kd.int IntKind.u64] (Qfi (nth .dead o1.2 0))]
 else
 none := by kernel_rfl
def Qij := Qbl (st_cncref01_cut_1 )
def Qhg := mf_cncref01_cut Qij
theorem sp_cncref01_cut : Qak Tryz.prog (C_cncref01_cut_0 ) := Qae rfl trivial
theorem r_cncref01_cut : Qbm Tryz.prog (191, spOf sig_cncref01_cut osig_cncref01_cut Qhg) := Qa0 (C := (C_cncref01_cut_1 Qij)) (L := 64) (by kernel_rfl) ((FnOK.bare rfl rfl rfl).loop sp_cncref01_cut eqOk Qa9 (by kernel_rfl) (by kernel_rfl)) sp_cncref01_cut eqOk Qa9 (by kernel_rfl) (by kernel_rfl)
def sig_cncref01_mul : Sk := { tmps := [tf [CS.sl [Kd.int .u64]], tf [CS.sl [Kd.int .u64]]], boxes := [], rows := [] }
def osig_cncref01_mul : Sk := { tmps := [tf [CS.sl [Kd.int .u64]]], boxes := [], rows := [] }
def C_cncref01_mul_0 (Qcr : Fn) : Cfg := { spec := Qbx [(191, spOf sig_cncref01_cut osig_cncref01_cut Qcr)], eqOk := Qb2, ownOff := ownOff }
def sk_cncref01_mul_7 : Sk := { tmps := [tf [CS.sl [Kd.int .u64]], tf [CS.sl [Kd.int .u64]], td, td, td, tf [CS.own 15 1], tf [ci], tf [CS.int .u64], tf [ci]] ++ dd 63, boxes := [], rows := [(15, 123, [Kd.int .u64])] }
def ex_cncref01_mul_7 : List (Ex × Sk) := [(Ex.exit 2, { tmps := [tf [CS.sl [Kd.int .u64]], tf [CS.sl [Kd.int .u64]], td, td, td, tf [CS.own 15 1], tf [ci], tf [CS.int .u64]] ++ dd 64, boxes := [], rows := [(15, 123, [Kd.int .u64])] })]
def Qdl (Qcr : Fn) : Lp := stepL Tryz.prog (C_cncref01_mul_0 Qcr) 64 7 (Qf0 Tryz.prog 179 7) sk_cncref01_mul_7 ex_cncref01_mul_7
def C_cncref01_mul_1 (Qcr : Fn) (N7 : Lp) : Cfg := (C_cncref01_mul_0 Qcr).loop 7 sk_cncref01_mul_7 ex_cncref01_mul_7 N7
def sk_cncref01_mul_3 : Sk := { tmps := [tf [CS.sl [Kd.int .u64]], tf [CS.sl [Kd.int .u64]], td, td, td, tf [CS.own 15 1], tf [ci]] ++ dd 65, boxes := [], rows := [(15, 123, [Kd.int .u64])] }
def ex_cncref01_mul_3 : List (Ex × Sk) := [(Ex.exit 0, { tmps := [td, td, td, td, td, tf [CS.own 15 1]] ++ dd 66, boxes := [], rows := [(15, 123, [Kd.int .u64])] })]
def Qhr (Qcr : Fn) (N7 : Lp) : Lp := stepL Tryz.prog (C_cncref01_mul_1 Qcr N7) 64 3 (Qf0 Tryz.prog 179 3) sk_cncref01_mul_3 ex_cncref01_mul_3
def C_cncref01_mul_2 (Qcr : Fn) (N7 N3 : Lp) : Cfg := (C_cncref01_mul_1 Qcr N7).loop 3 sk_cncref01_mul_3 ex_cncref01_mul_3 N3
def mf_cncref01_mul (Qcr : Fn) (N7 N3 : Lp) : Fn := Qax Tryz.prog (C_cncref01_mul_2 Qcr N7 N3) 64 179 sig_cncref01_mul osig_cncref01_mul
theorem st_cncref01_mul_7_eq (Qcr : Fn) (v0 v1 v2 : Rw) (v3 v4 v5 : Int) : Qdl Qcr [.view [Kd.int .u64] v0, .view [Kd.int .u64] v1, .view [Kd.int .u64] v2, I v3, U v4, I v5] =
 bif decide (v5 < (v2.length : Int)) then
 bif decide (0 <= IntKind.i64.wrap (v3 + v5)) && decide (IntKind.i64.wrap (v3 + v5) < (v0.length : Int)) then
 bif decide (0 <= v3) && decide (v3 < (v1.length : Int)) then
 bif decide (0 <= v5) && decide (v5 < (v2.length : Int)) then
 bif decide (0 <= IntKind.i64.wrap (v3 + v5)) && decide (IntKind.i64.wrap (v3 + v5) < (v0.length : Int)) then
 some (0, [.view [Kd.int IntKind.u64] (v0.set (IntKind.i64.wrap (v3 + v5)).toNat [U (IntKind.u64.wrap (↑(BitVec.ofInt IntKind.u64.bits (IntKind.u64.wrap (IntKind.u64.wrap (Qas (nth .dead (nth [] v0 (IntKind.i64.wrap (v3 + v5)).toNat) 0) + IntKind.u64.wrap (Qas (nth .dead (nth [] v1 v3.toNat) 0) * Qas (nth .dead (nth [] v2 v5.toNat) 0))) + v4)) &&& BitVec.ofInt IntKind.u64.bits 65535).toNat : Int))]), .view [Kd.int IntKind.u64] v1, .view [Kd.int IntKind.u64] v2, I v3, U ((IntKind.u64.wrap (IntKind.u64.wrap (Qas (nth .dead (nth [] v0 (IntKind.i64.wrap (v3 + v5)).toNat) 0) + IntKind.u64.wrap (Qas (nth .dead (nth [] v1 v3.toNat) 0) * Qas (nth .dead (nth [] v2 v5.toNat) 0))) + v4)).fdiv (2 ^ min (Int.toNat 16) IntKind.u64.bits)), I (IntKind.i64.wrap (v5 + 1))])
 else
 none
 else
 none
 else
 none
 else
 none
 else
 some (1, [.view [Kd.int IntKind.u64] v0, .view [Kd.int IntKind.u64] v1, .view [Kd.int IntKind.u64] v2, I v3, U v4]) := by kernel_rfl
theorem st_cncref01_mul_3_eq (Qcr : Fn) (N7 : Lp) (v0 v1 v2 : Rw) (v3 : Int) : Qhr Qcr N7 [.view [Kd.int .u64] v0, .view [Kd.int .u64] v1, .view [Kd.int .u64] v2, I v3] =
 bif decide (v3 < (v1.length : Int)) then
 (N7 [.view [Kd.int IntKind.u64] v0, .view [Kd.int IntKind.u64] v1, .view [Kd.int IntKind.u64] v2, I v3, U 0, I 0]).bind fun o3 =>
 bif o3.1.beq 1 then
 bif decide (0 <= IntKind.i64.wrap (Qas (nth .dead o3.2 3) + (↑(Qfi (nth .dead o3.2 2)).length : Int))) && decide (IntKind.i64.wrap (Qas (nth .dead o3.2 3) + (↑(Qfi (nth .dead o3.2 2)).length : Int)) < (↑(Qfi (nth .dead o3.2 0)).length : Int)) then
 bif decide (0 <= IntKind.i64.wrap (Qas (nth .dead o3.2 3) + (↑(Qfi (nth .dead o3.2 2)).length : Int))) && decide (IntKind.i64.wrap (Qas (nth .dead o3.2 3) + (↑(Qfi (nth .dead o3.2 2)).length : Int)) < (↑(Qfi (nth .dead o3.2 0)).length : Int)) then
 some (0, [.view [Kd.int IntKind.u64] ((Qfi (nth .dead o3.2 0)).set (IntKind.i64.wrap (Qas (nth .dead o3.2 3) + (↑(Qfi (nth .dead o3.2 2)).length : Int))).toNat [U (IntKind.u64.wrap (Qas (nth .dead (nth [] (Qfi (nth .dead o3.2 0)) (IntKind.i64.wrap (Qas (nth .dead o3.2 3) + (↑(Qfi (nth .dead o3.2 2)).length : Int))).toNat) 0) + Qas (nth .dead o3.2 4)))]), .view [Kd.int IntKind.u64] (Qfi (nth .dead o3.2 1)), .view [Kd.int IntKind.u64] (Qfi (nth .dead o3.2 2)), I (IntKind.i64.wrap (Qas (nth .dead o3.2 3) + 1))])
 else
 none
 else
 none
 else
 none
 else
 some (1, [.view [Kd.int IntKind.u64] v0]) := by kernel_rfl
theorem mf_cncref01_mul_eq (Qcr : Fn) (N7 N3 : Lp) (x0 x1 : Rw) : mf_cncref01_mul Qcr N7 N3 [.view [Kd.int .u64] x0, .view [Kd.int .u64] x1] =
 bif decide (IntKind.i64.wrap ((x0.length : Int) + (x1.length : Int)) = IntKind.i64.wrap ((x0.length : Int) + (x1.length : Int))) then
 bif decide (0 <= IntKind.i64.wrap ((x0.length : Int) + (x1.length : Int))) && decide (IntKind.i64.wrap ((x0.length : Int) + (x1.length : Int)) * (↑8 : Int) <= 140737488355328) then
 (N3 [.view [Kd.int IntKind.u64] (List.replicate (IntKind.i64.wrap ((x0.length : Int) + (x1.length : Int))).toNat [U 0]), .view [Kd.int IntKind.u64] x0, .view [Kd.int IntKind.u64] x1, I 0]).bind fun o4 =>
 bif o4.1.beq 1 then
 (Qcr [.view [Kd.int IntKind.u64] (Qfi (nth .dead o4.2 0))]).bind fun o5 =>
 some [.view [Kd.int IntKind.u64] (Qfi (nth .dead o5 0))]
 else
 none
 else
 none
 else
 none := by kernel_rfl
def l_cncref01_mul_7 := Qbl (Qdl Qhg )
def l_cncref01_mul_3 := Qbl (Qhr Qhg l_cncref01_mul_7)
def m_cncref01_mul := mf_cncref01_mul Qhg l_cncref01_mul_7 l_cncref01_mul_3
theorem sp_cncref01_mul : Qak Tryz.prog (C_cncref01_mul_0 Qhg) := Qae rfl ⟨r_cncref01_cut, trivial⟩
theorem r_cncref01_mul : Qbm Tryz.prog (179, spOf sig_cncref01_mul osig_cncref01_mul m_cncref01_mul) := Qa0 (C := (C_cncref01_mul_2 Qhg l_cncref01_mul_7 l_cncref01_mul_3)) (L := 64) (by kernel_rfl) (((FnOK.bare rfl rfl rfl).loop sp_cncref01_mul eqOk Qa9 (by kernel_rfl) (by kernel_rfl)).loop sp_cncref01_mul eqOk Qa9 (by kernel_rfl) (by kernel_rfl)) sp_cncref01_mul eqOk Qa9 (by kernel_rfl) (by kernel_rfl)
def sig_cncref01_limbs : Sk := { tmps := [tf [CS.int .u64]], boxes := [], rows := [] }
def osig_cncref01_limbs : Sk := { tmps := [tf [CS.sl [Kd.int .u64]]], boxes := [], rows := [] }
def C_cncref01_limbs_0 : Cfg := { spec := Qbx [], eqOk := Qb2, ownOff := ownOff, prom := fun b => bif Nat.beq b 2 then [(3, 123)] else [] }
def sk_cncref01_limbs_2 : Sk := { tmps := [tf [CS.int .u64], td, td, tf [CS.own 3 1]] ++ dd 10, boxes := [], rows := [(3, 123, [Kd.int .u64])] }
def ex_cncref01_limbs_2 : List (Ex × Sk) := [(Ex.exit 0, { tmps := [td, td, td, tf [CS.own 3 1]] ++ dd 10, boxes := [], rows := [(3, 123, [Kd.int .u64])] })]
def st_cncref01_limbs_2 : Lp := stepL Tryz.prog C_cncref01_limbs_0 64 2 (Qf0 Tryz.prog 180 2) sk_cncref01_limbs_2 ex_cncref01_limbs_2
def C_cncref01_limbs_1 (N2 : Lp) : Cfg := C_cncref01_limbs_0.loop 2 sk_cncref01_limbs_2 ex_cncref01_limbs_2 N2
def mf_cncref01_limbs (N2 : Lp) : Fn := Qax Tryz.prog (C_cncref01_limbs_1 N2) 64 180 sig_cncref01_limbs osig_cncref01_limbs
theorem st_cncref01_limbs_2_eq (v0 : Rw) (v1 : Int) : st_cncref01_limbs_2 [.view [Kd.int .u64] v0, U v1] =
 bif decide (v1 > 0) then
 bif ((v0 ++ [[U (IntKind.u64.wrap (↑(BitVec.ofInt IntKind.u64.bits v1 &&& BitVec.ofInt IntKind.u64.bits 65535).toNat : Int))]]).length * 8).ble 140737488355328 then
 some (0, [.view [Kd.int IntKind.u64] (v0 ++ [[U (IntKind.u64.wrap (↑(BitVec.ofInt IntKind.u64.bits v1 &&& BitVec.ofInt IntKind.u64.bits 65535).toNat : Int))]]), U (v1.fdiv (2 ^ min (Int.toNat 16) IntKind.u64.bits))])
 else
 none
 else
 some (1, [.view [Kd.int IntKind.u64] v0]) := by kernel_rfl
theorem mf_cncref01_limbs_eq (N2 : Lp) (x0 : Int) : mf_cncref01_limbs N2 [U x0] =
 (N2 [.view [Kd.int IntKind.u64] [], U x0]).bind fun o1 =>
 bif o1.1.beq 1 then
 some [.view [Kd.int IntKind.u64] (Qfi (nth .dead o1.2 0))]
 else
 none := by kernel_rfl
def Qiw := Qbl (st_cncref01_limbs_2 )
def Qim := mf_cncref01_limbs Qiw
theorem sp_cncref01_limbs : Qak Tryz.prog (C_cncref01_limbs_0 ) := Qae rfl trivial
theorem r_cncref01_limbs : Qbm Tryz.prog (180, spOf sig_cncref01_limbs osig_cncref01_limbs Qim) := Qa0 (C := (C_cncref01_limbs_1 Qiw)) (L := 64) (by kernel_rfl) ((FnOK.bare rfl rfl rfl).loop sp_cncref01_limbs eqOk Qa9 (by kernel_rfl) (by kernel_rfl)) sp_cncref01_limbs eqOk Qa9 (by kernel_rfl) (by kernel_rfl)
def sig_cncref01_mag : Sk := { tmps := [tf [ci]], boxes := [], rows := [] }
def osig_cncref01_mag : Sk := { tmps := [tf [CS.int .u64]], boxes := [], rows := [] }
def C_cncref01_mag_0 : Cfg := { spec := Qbx [], eqOk := Qb2, ownOff := ownOff }
def mf_cncref01_mag : Fn := Qax Tryz.prog C_cncref01_mag_0 64 181 sig_cncref01_mag osig_cncref01_mag
theorem mf_cncref01_mag_eq (x0 : Int) : mf_cncref01_mag [I x0] =
 bif decide (x0 < 0) then
 some [U (IntKind.u64.wrap (IntKind.u64.wrap (IntKind.i64.wrap (0 - IntKind.i64.wrap (x0 + 1))) + 1))]
 else
 some [U (IntKind.u64.wrap x0)] := by kernel_rfl
def m_cncref01_mag := mf_cncref01_mag 
theorem sp_cncref01_mag : Qak Tryz.prog (C_cncref01_mag_0 ) := Qae rfl trivial
theorem r_cncref01_mag : Qbm Tryz.prog (181, spOf sig_cncref01_mag osig_cncref01_mag m_cncref01_mag) := Qa0 (C := C_cncref01_mag_0) (L := 64) (by kernel_rfl) (FnOK.bare rfl rfl rfl) sp_cncref01_mag eqOk Qa9 (by kernel_rfl) (by kernel_rfl)
def sig_cncref01_product : Sk := { tmps := [tf [ci], tf [ci]], boxes := [], rows := [] }
def osig_cncref01_product : Sk := { tmps := [tf [CS.sl [Kd.int .u64]]], boxes := [], rows := [] }
def C_cncref01_product_0 (M_cncref01_mul Qg1 M_cncref01_mag : Fn) : Cfg := { spec := Qbx [(179, spOf sig_cncref01_mul osig_cncref01_mul M_cncref01_mul), (180, spOf sig_cncref01_limbs osig_cncref01_limbs Qg1), (181, spOf sig_cncref01_mag osig_cncref01_mag M_cncref01_mag)], eqOk := Qb2, ownOff := ownOff }
def mf_cncref01_product (M_cncref01_mul Qg1 M_cncref01_mag : Fn) : Fn := Qax Tryz.prog (C_cncref01_product_0 M_cncref01_mul Qg1 M_cncref01_mag) 64 167 sig_cncref01_product osig_cncref01_product
theorem mf_cncref01_product_eq (M_cncref01_mul Qg1 M_cncref01_mag : Fn) (x0 x1 : Int) : mf_cncref01_product M_cncref01_mul Qg1 M_cncref01_mag [I x0, I x1] =
 (M_cncref01_mag [I x0]).bind fun o5 =>
 (Qg1 [U (Qas (nth .dead o5 0))]).bind fun o6 =>
 (M_cncref01_mag [I x1]).bind fun o7 =>
 (Qg1 [U (Qas (nth .dead o7 0))]).bind fun o8 =>
 (M_cncref01_mul [.view [Kd.int IntKind.u64] (Qfi (nth .dead o6 0)), .view [Kd.int IntKind.u64] (Qfi (nth .dead o8 0))]).bind fun o9 =>
 some [.view [Kd.int IntKind.u64] (Qfi (nth .dead o9 0))] := by kernel_rfl
def Qis := mf_cncref01_product m_cncref01_mul Qim m_cncref01_mag 
theorem sp_cncref01_product : Qak Tryz.prog (C_cncref01_product_0 m_cncref01_mul Qim m_cncref01_mag) := Qae rfl ⟨r_cncref01_mul, r_cncref01_limbs, r_cncref01_mag, trivial⟩
theorem r_cncref01_product : Qbm Tryz.prog (167, spOf sig_cncref01_product osig_cncref01_product Qis) := Qa0 (C := (C_cncref01_product_0 m_cncref01_mul Qim m_cncref01_mag)) (L := 64) (by kernel_rfl) (FnOK.bare rfl rfl rfl) sp_cncref01_product eqOk Qa9 (by kernel_rfl) (by kernel_rfl)
def sig_cncref01_sign : Sk := { tmps := [tf [ci], tf [ci]], boxes := [], rows := [] }
def osig_cncref01_sign : Sk := { tmps := [tf [ci]], boxes := [], rows := [] }
def C_cncref01_sign_0 : Cfg := { spec := Qbx [], eqOk := Qb2, ownOff := ownOff }
def mf_cncref01_sign : Fn := Qax Tryz.prog C_cncref01_sign_0 64 165 sig_cncref01_sign osig_cncref01_sign
theorem mf_cncref01_sign_eq (x0 x1 : Int) : mf_cncref01_sign [I x0, I x1] =
 bif x0 == 0 then
 some [I 0]
 else
 bif x1 == 0 then
 some [I 0]
 else
 bif decide (x0 < 0) == decide (x1 < 0) then
 some [I 1]
 else
 some [I (-1)] := by kernel_rfl
def m_cncref01_sign := mf_cncref01_sign 
theorem sp_cncref01_sign : Qak Tryz.prog (C_cncref01_sign_0 ) := Qae rfl trivial
theorem r_cncref01_sign : Qbm Tryz.prog (165, spOf sig_cncref01_sign osig_cncref01_sign m_cncref01_sign) := Qa0 (C := C_cncref01_sign_0) (L := 64) (by kernel_rfl) (FnOK.bare rfl rfl rfl) sp_cncref01_sign eqOk Qa9 (by kernel_rfl) (by kernel_rfl)
def sig_cncref01_Cmp : Sk := { tmps := [tf [ci], tf [ci], tf [ci], tf [ci]], boxes := [], rows := [] }
def osig_cncref01_Cmp : Sk := { tmps := [tf [ci]], boxes := [], rows := [] }
def C_cncref01_Cmp_0 (M_cncref01_cmp Qfs Qh1 : Fn) : Cfg := { spec := Qbx [(166, spOf sig_cncref01_cmp osig_cncref01_cmp M_cncref01_cmp), (167, spOf sig_cncref01_product osig_cncref01_product Qfs), (165, spOf sig_cncref01_sign osig_cncref01_sign Qh1)], eqOk := Qb2, ownOff := ownOff }
def mf_cncref01_Cmp (M_cncref01_cmp Qfs Qh1 : Fn) : Fn := Qax Tryz.prog (C_cncref01_Cmp_0 M_cncref01_cmp Qfs Qh1) 64 149 sig_cncref01_Cmp osig_cncref01_Cmp
theorem mf_cncref01_Cmp_eq (M_cncref01_cmp Qfs Qh1 : Fn) (x0 x1 x2 x3 : Int) : mf_cncref01_Cmp M_cncref01_cmp Qfs Qh1 [I x0, I x1, I x2, I x3] =
 (Qh1 [I x0, I x1]).bind fun o5 =>
 (Qh1 [I x2, I x3]).bind fun o6 =>
 bif decide (Qas (nth .dead o5 0) < Qas (nth .dead o6 0)) then
 some [I (-1)]
 else
 bif decide (Qas (nth .dead o5 0) > Qas (nth .dead o6 0)) then
 some [I 1]
 else
 (Qfs [I x0, I x1]).bind fun o7 =>
 (Qfs [I x2, I x3]).bind fun o8 =>
 (M_cncref01_cmp [.view [Kd.int IntKind.u64] (Qfi (nth .dead o7 0)), .view [Kd.int IntKind.u64] (Qfi (nth .dead o8 0))]).bind fun o9 =>
 some [I (IntKind.i64.wrap (Qas (nth .dead o5 0) * Qas (nth .dead o9 0)))] := by kernel_rfl
def m_cncref01_Cmp := mf_cncref01_Cmp m_cncref01_cmp Qis m_cncref01_sign 
theorem sp_cncref01_Cmp : Qak Tryz.prog (C_cncref01_Cmp_0 m_cncref01_cmp Qis m_cncref01_sign) := Qae rfl ⟨r_cncref01_cmp, r_cncref01_product, r_cncref01_sign, trivial⟩
theorem r_cncref01_Cmp : Qbm Tryz.prog (149, spOf sig_cncref01_Cmp osig_cncref01_Cmp m_cncref01_Cmp) := Qa0 (C := (C_cncref01_Cmp_0 m_cncref01_cmp Qis m_cncref01_sign)) (L := 64) (by kernel_rfl) (FnOK.bare rfl rfl rfl) sp_cncref01_Cmp eqOk Qa9 (by kernel_rfl) (by kernel_rfl)
def sig_cncref23_small : Sk := { tmps := [TS.v true [ci, ci, ci], tf [ci]], boxes := [], rows := [] }
def osig_cncref23_small : Sk := { tmps := [tf [CS.bool]], boxes := [], rows := [] }
def C_cncref23_small_0 : Cfg := { spec := Qbx [], eqOk := Qb2, ownOff := ownOff, unroll := [2] }
def mf_cncref23_small : Fn := Qax Tryz.prog C_cncref23_small_0 64 119 sig_cncref23_small osig_cncref23_small
theorem mf_cncref23_small_eq (x0 x1 x2 x3 : Int) : mf_cncref23_small [I x0, I x1, I x2, I x3] =
 bif decide (x0 < IntKind.i64.wrap (0 - x3)) then
 some [B false]
 else
 bif decide (x0 > x3) then
 some [B false]
 else
 bif decide (x1 < IntKind.i64.wrap (0 - x3)) then
 some [B false]
 else
 bif decide (x1 > x3) then
 some [B false]
 else
 bif decide (x2 < IntKind.i64.wrap (0 - x3)) then
 some [B false]
 else
 bif decide (x2 > x3) then
 some [B false]
 else
 some [B true] := by kernel_rfl
def Qik := mf_cncref23_small 
theorem sp_cncref23_small : Qak Tryz.prog (C_cncref23_small_0 ) := Qae rfl trivial
theorem r_cncref23_small : Qbm Tryz.prog (119, spOf sig_cncref23_small osig_cncref23_small Qik) := Qa0 (C := C_cncref23_small_0) (L := 64) (by kernel_rfl) (FnOK.bare rfl rfl rfl) sp_cncref23_small eqOk Qa9 (by kernel_rfl) (by kernel_rfl)
def sig_cncref23_within : Sk := { tmps := [TS.v true [ci, ci, ci]], boxes := [], rows := [] }
def osig_cncref23_within : Sk := { tmps := [tf [CS.bool]], boxes := [], rows := [] }
def C_cncref23_within_0 (Qip : Fn) : Cfg := { spec := Qbx [(119, spOf sig_cncref23_small osig_cncref23_small Qip)], eqOk := Qb2, ownOff := ownOff }
def mf_cncref23_within (Qip : Fn) : Fn := Qax Tryz.prog (C_cncref23_within_0 Qip) 64 146 sig_cncref23_within osig_cncref23_within
theorem mf_cncref23_within_eq (Qip : Fn) (x0 x1 x2 : Int) : mf_cncref23_within Qip [I x0, I x1, I x2] =
 (Qip [I x0, I x1, I x2, I 1048576]).bind fun o1 =>
 some [B (bA o1 0)] := by kernel_rfl
def m_cncref23_within := mf_cncref23_within Qik 
theorem sp_cncref23_within : Qak Tryz.prog (C_cncref23_within_0 Qik) := Qae rfl ⟨r_cncref23_small, trivial⟩
theorem r_cncref23_within : Qbm Tryz.prog (146, spOf sig_cncref23_within osig_cncref23_within m_cncref23_within) := Qa0 (C := (C_cncref23_within_0 Qik)) (L := 64) (by kernel_rfl) (FnOK.bare rfl rfl rfl) sp_cncref23_within eqOk Qa9 (by kernel_rfl) (by kernel_rfl)
def sig_cncref23_Valid : Sk := { tmps := [TS.v true [ci, ci, ci, ci, ci, ci, ci, ci, ci, ci, ci, ci, ci, CS.bool, ci, CS.bool, ci, ci, ci, ci, ci, CS.bool]], boxes := [], rows := [] }
def Qh7 : Sk := { tmps := [tf [CS.bool]], boxes := [], rows := [] }
def C_cncref23_Valid_0 (Qap Qd3 Qaq Qb1 Qch Qac : Fn) : Cfg := { spec := Qbx [(150, spOf Qir Qib Qap), (149, spOf sig_cncref01_Cmp osig_cncref01_Cmp Qd3), (148, spOf sig_cncref23_Dot osig_cncref23_Dot Qaq), (147, spOf sig_cncref23_ends osig_cncref23_ends Qb1), (146, spOf sig_cncref23_within osig_cncref23_within Qch), (79, spOf Qe9 Qet Qac)], eqOk := Qb2, ownOff := ownOff }
def mf_cncref23_Valid (Qap Qd3 Qaq Qb1 Qch Qac : Fn) : Fn := Qax Tryz.prog (C_cncref23_Valid_0 Qap Qd3 Qaq Qb1 Qch Qac) 64 133 sig_cncref23_Valid Qh7
abbrev g_cncref23_Valid_2 (x13 : Bool) (o61 : List AC) (Qap Qaq : Fn) : Option (List AC) :=
 bif x13 then
 bif gA o61 0 == gA o61 4 then
 some [B (gA o61 1 == gA o61 5)]
 else
 some [B false]
 else
 (Qap [jA o61 0, jA o61 1, jA o61 2, jA o61 3, jA o61 4, jA o61 5, jA o61 6, jA o61 7]).bind fun o65 =>
 bif gA o65 0 != 0 then
 some [B true]
 else
 (Qaq [jA o61 0, jA o61 1, jA o61 2, jA o61 3, jA o61 4, jA o61 5, jA o61 6, jA o61 7]).bind fun o66 =>
 some [B (decide (gA o66 0 < 0))]
attribute [go_sem] g_cncref23_Valid_2
abbrev Qfk (Qch : Fn) (x9 x10 x11 : Int) (Qb1 : Fn) (x0 x1 x2 x3 x4 x5 x6 x7 x8 x12 : Int) (x13 : Bool) (x14 : Int) (x15 : Bool) (x16 x17 x18 x19 x20 : Int) (x21 : Bool) (Qaq Qd3 Qap : Fn) : Option (List AC) :=
 (Qch [I x9, I x10, I x11]).bind fun o60 =>
 bif !bA o60 0 then
 some [B false]
 else
 (Qb1 [I x0, I x1, I x2, I x3, I x4, I x5, I x6, I x7, I x8, I x9, I x10, I x11, I x12, B x13, I x14, B x15, I x16, I x17, I x18, I x19, I x20, B x21]).bind fun o61 =>
 (Qaq [jA o61 0, jA o61 1, jA o61 2, jA o61 3, jA o61 0, jA o61 1, jA o61 2, jA o61 3]).bind fun o62 =>
 (Qaq [jA o61 4, jA o61 5, jA o61 6, jA o61 7, jA o61 4, jA o61 5, jA o61 6, jA o61 7]).bind fun o63 =>
 bif decide (gA o62 0 < 64) then
 some [B false]
 else
 bif decide (gA o63 0 < 64) then
 some [B false]
 else
 bif decide (IntKind.i64.wrap (IntKind.i64.wrap (gA o62 0 + gA o63 0) - 16) > 0) then
 (Qd3 [I (IntKind.i64.wrap (IntKind.i64.wrap (gA o62 0 + gA o63 0) - 16)), I (IntKind.i64.wrap (IntKind.i64.wrap (gA o62 0 + gA o63 0) - 16)), I (IntKind.i64.wrap (4 * gA o62 0)), jA o63 0]).bind fun o64 =>
 bif decide (gA o64 0 > 0) then
 some [B false]
 else
 g_cncref23_Valid_2 x13 o61 Qap Qaq
 else
 g_cncref23_Valid_2 x13 o61 Qap Qaq
attribute [go_sem] Qfk
theorem mf_cncref23_Valid_eq (Qap Qd3 Qaq Qb1 Qch Qac : Fn) (x0 x1 x2 x3 x4 x5 x6 x7 x8 x9 x10 x11 x12 : Int) (x13 : Bool) (x14 : Int) (x15 : Bool) (x16 x17 x18 x19 x20 : Int) (x21 : Bool) : mf_cncref23_Valid Qap Qd3 Qaq Qb1 Qch Qac [I x0, I x1, I x2, I x3, I x4, I x5, I x6, I x7, I x8, I x9, I x10, I x11, I x12, B x13, I x14, B x15, I x16, I x17, I x18, I x19, I x20, B x21] =
 (Qac [I x0]).bind fun o57 =>
 bif !bA o57 0 then
 some [B false]
 else
 (Qch [I x2, I x3, I x4]).bind fun o58 =>
 bif !bA o58 0 then
 some [B false]
 else
 (Qch [I x5, I x6, I x7]).bind fun o59 =>
 bif !bA o59 0 then
 some [B false]
 else
 bif x0 != 3 then
 some [B true]
 else
 bif x8 != 17 then
 bif x8 != 18 then
 bif x8 != 19 then
 some [B false]
 else
 bif x12 != 1 then
 bif x12 != -1 then
 some [B false]
 else
 Qfk Qch x9 x10 x11 Qb1 x0 x1 x2 x3 x4 x5 x6 x7 x8 x12 x13 x14 x15 x16 x17 x18 x19 x20 x21 Qaq Qd3 Qap
 else
 Qfk Qch x9 x10 x11 Qb1 x0 x1 x2 x3 x4 x5 x6 x7 x8 x12 x13 x14 x15 x16 x17 x18 x19 x20 x21 Qaq Qd3 Qap
 else
 bif x12 != 1 then
 bif x12 != -1 then
 some [B false]
 else
 Qfk Qch x9 x10 x11 Qb1 x0 x1 x2 x3 x4 x5 x6 x7 x8 x12 x13 x14 x15 x16 x17 x18 x19 x20 x21 Qaq Qd3 Qap
 else
 Qfk Qch x9 x10 x11 Qb1 x0 x1 x2 x3 x4 x5 x6 x7 x8 x12 x13 x14 x15 x16 x17 x18 x19 x20 x21 Qaq Qd3 Qap
 else
 bif x12 != 1 then
 bif x12 != -1 then
 some [B false]
 else
 Qfk Qch x9 x10 x11 Qb1 x0 x1 x2 x3 x4 x5 x6 x7 x8 x12 x13 x14 x15 x16 x17 x18 x19 x20 x21 Qaq Qd3 Qap
 else
 Qfk Qch x9 x10 x11 Qb1 x0 x1 x2 x3 x4 x5 x6 x7 x8 x12 x13 x14 x15 x16 x17 x18 x19 x20 x21 Qaq Qd3 Qap := by kernel_rfl
def Qdj := mf_cncref23_Valid Qdi m_cncref01_Cmp Qd4 Qgg m_cncref23_within Qa1 
theorem sp_cncref23_Valid : Qak Tryz.prog (C_cncref23_Valid_0 Qdi m_cncref01_Cmp Qd4 Qgg m_cncref23_within Qa1) := Qae rfl ⟨r_cncref23_Cross, r_cncref01_Cmp, r_cncref23_Dot, r_cncref23_ends, r_cncref23_within, r_cncref23_Motion, trivial⟩
theorem r_cncref23_Valid : Qbm Tryz.prog (133, spOf sig_cncref23_Valid Qh7 Qdj) := Qa0 (C := (C_cncref23_Valid_0 Qdi m_cncref01_Cmp Qd4 Qgg m_cncref23_within Qa1)) (L := 64) (by kernel_rfl) (FnOK.bare rfl rfl rfl) sp_cncref23_Valid eqOk Qa9 (by kernel_rfl) (by kernel_rfl)
def sig_cncref23_Spokes : Sk := { tmps := [TS.v true [ci, ci, ci, ci, ci, ci, ci, ci, ci, ci, ci, ci, ci, CS.bool, ci, CS.bool, ci, ci, ci, ci, ci, CS.bool]], boxes := [], rows := [] }
def osig_cncref23_Spokes : Sk := { tmps := [TS.tup [(false, [CS.sl [kI, kI, kI, kI]]), (false, [CS.bool])]], boxes := [], rows := [] }
def C_cncref23_Spokes_0 (Qco M_cncref23_Ends Qa5 : Fn) : Cfg := { spec := Qbx [(152, spOf Qef Qd7 Qco), (151, spOf sig_cncref23_Ends osig_cncref23_Ends M_cncref23_Ends), (133, spOf sig_cncref23_Valid Qh7 Qa5)], eqOk := Qb2, pure := fun f => !(Qft [152] f), ownOff := ownOff, rowDst := [20] }
def mf_cncref23_Spokes (Qco M_cncref23_Ends Qa5 : Fn) : Fn := Qax Tryz.prog (C_cncref23_Spokes_0 Qco M_cncref23_Ends Qa5) 64 134 sig_cncref23_Spokes osig_cncref23_Spokes
theorem mf_cncref23_Spokes_eq (Qco M_cncref23_Ends Qa5 : Fn) (x0 x1 x2 x3 x4 x5 x6 x7 x8 x9 x10 x11 x12 : Int) (x13 : Bool) (x14 : Int) (x15 : Bool) (x16 x17 x18 x19 x20 : Int) (x21 : Bool) : mf_cncref23_Spokes Qco M_cncref23_Ends Qa5 [I x0, I x1, I x2, I x3, I x4, I x5, I x6, I x7, I x8, I x9, I x10, I x11, I x12, B x13, I x14, B x15, I x16, I x17, I x18, I x19, I x20, B x21] =
 bif x0 != 3 then
 some [.view [kI, kI, kI, kI] [], B false]
 else
 (Qa5 [I x0, I x1, I x2, I x3, I x4, I x5, I x6, I x7, I x8, I x9, I x10, I x11, I x12, B x13, I x14, B x15, I x16, I x17, I x18, I x19, I x20, B x21]).bind fun o3 =>
 bif !bA o3 0 then
 some [.view [kI, kI, kI, kI] [], B false]
 else
 (M_cncref23_Ends [I x0, I x1, I x2, I x3, I x4, I x5, I x6, I x7, I x8, I x9, I x10, I x11, I x12, B x13, I x14, B x15, I x16, I x17, I x18, I x19, I x20, B x21]).bind fun o4 =>
 (Qco [jA o4 0, jA o4 1, jA o4 2, jA o4 3, jA o4 4, jA o4 5, jA o4 6, jA o4 7, I x12, B x13, I 0]).bind fun o5 =>
 bif (([[jA o4 0, jA o4 1, jA o4 2, jA o4 3]] ++ wA o5 0).length * 32).ble 140737488355328 then
 some [.view [kI, kI, kI, kI] ([[jA o4 0, jA o4 1, jA o4 2, jA o4 3]] ++ wA o5 0), B true]
 else
 none := by kernel_rfl
def Qhs := mf_cncref23_Spokes m_cncref23_pieces m_cncref23_Ends Qdj 
theorem sp_cncref23_Spokes : Qak Tryz.prog (C_cncref23_Spokes_0 m_cncref23_pieces m_cncref23_Ends Qdj) := Qae rfl ⟨r_cncref23_pieces, r_cncref23_Ends, r_cncref23_Valid, trivial⟩
theorem r_cncref23_Spokes : Qbm Tryz.prog (134, spOf sig_cncref23_Spokes osig_cncref23_Spokes Qhs) := Qa0 (C := (C_cncref23_Spokes_0 m_cncref23_pieces m_cncref23_Ends Qdj)) (L := 64) (by kernel_rfl) (FnOK.bare rfl rfl rfl) sp_cncref23_Spokes eqOk Qa9 (by kernel_rfl) (by kernel_rfl)
def sig_cncref23_Chords : Sk := { tmps := [TS.v true [ci, ci, ci, ci, ci, ci, ci, ci, ci, ci, ci, ci, ci, CS.bool, ci, CS.bool, ci, ci, ci, ci, ci, CS.bool]], boxes := [], rows := [] }
def osig_cncref23_Chords : Sk := { tmps := [TS.tup [(false, [CS.sl kPt]), (false, [CS.bool])]], boxes := [], rows := [] }
def C_cncref23_Chords_0 (Qa6 Qaz Qaf Qc3 Qa5 : Fn) : Cfg := { spec := Qbx [(125, spOf sig_cncref23_Space osig_cncref23_Space Qa6), (123, spOf sig_cncref23_Plane Qhx Qaz), (81, spOf Qhp Qgl Qaf), (134, spOf sig_cncref23_Spokes osig_cncref23_Spokes Qc3), (133, spOf sig_cncref23_Valid Qh7 Qa5)], eqOk := Qb2, ownOff := ownOff, prom := fun b => bif Nat.beq b 9 then [(9, 25)] else [] }
def sk_cncref23_Chords_9 : Sk := { tmps := [td, tf [CS.ptr 1 0], td, td, td, td, tf [ci], tf [ci], td, tf [CS.own 9 3], td, td, td, td, td, td, td, td, td, td, td, td, td, td, td, td, td, td, td, td, td, td, td, td, td, td, td, td, td, tf [CS.sl [kI, kI, kI, kI]], tf [ci], tf [ci]] ++ dd 21, boxes := [(1, 67, [ci, ci, ci, ci, ci, ci, ci, ci, ci, ci, ci, ci, ci, CS.bool, ci, CS.bool, ci, ci, ci, ci, ci, CS.bool])], rows := [(9, 25, kPt)] }
def ex_cncref23_Chords_9 : List (Ex × Sk) := [(Ex.exit 0, { tmps := [td, td, td, td, td, td, td, td, td, tf [CS.own 9 3]] ++ dd 53, boxes := [], rows := [(9, 25, kPt)] })]
def Qfx (Qa6 Qaz Qaf Qc3 Qa5 : Fn) : Lp := stepL Tryz.prog (C_cncref23_Chords_0 Qa6 Qaz Qaf Qc3 Qa5) 64 9 (Qf0 Tryz.prog 114 9) sk_cncref23_Chords_9 ex_cncref23_Chords_9
def C_cncref23_Chords_1 (Qa6 Qaz Qaf Qc3 Qa5 : Fn) (N9 : Lp) : Cfg := (C_cncref23_Chords_0 Qa6 Qaz Qaf Qc3 Qa5).loop 9 sk_cncref23_Chords_9 ex_cncref23_Chords_9 N9
def mf_cncref23_Chords (Qa6 Qaz Qaf Qc3 Qa5 : Fn) (N9 : Lp) : Fn := Qax Tryz.prog (C_cncref23_Chords_1 Qa6 Qaz Qaf Qc3 Qa5 N9) 64 114 sig_cncref23_Chords osig_cncref23_Chords
theorem st_cncref23_Chords_9_eq (Qa6 Qaz Qaf Qc3 Qa5 : Fn) (v0 : Rw) (v1 v2 : Int) (v3 : Rw) (v4 v5 v6 v7 v8 v9 v10 v11 v12 v13 v14 v15 v16 v17 v18 : Int) (v19 : Bool) (v20 : Int) (v21 : Bool) (v22 v23 v24 v25 v26 : Int) (v27 : Bool) : Qfx Qa6 Qaz Qaf Qc3 Qa5 [.view kPt v0, I v1, I v2, .view [kI, kI, kI, kI] v3, I v4, I v5, I v6, I v7, I v8, I v9, I v10, I v11, I v12, I v13, I v14, I v15, I v16, I v17, I v18, B v19, I v20, B v21, I v22, I v23, I v24, I v25, I v26, B v27] =
 bif decide (v5 < v4) then
 bif decide (0 <= v5) && decide (v5 < (v3.length : Int)) then
 (Qa6 [I (IntKind.i64.wrap (v1 + gA (nth [] v3 v5.toNat) 0)), I (IntKind.i64.wrap (v2 + gA (nth [] v3 v5.toNat) 1)), jA (nth [] v3 v5.toNat) 3, I v14]).bind fun o21 =>
 bif ((v0 ++ [[jA o21 0, jA o21 1, jA o21 2]]).length * 24).ble 140737488355328 then
 some (0, [.view kPt (v0 ++ [[jA o21 0, jA o21 1, jA o21 2]]), I v1, I v2, .view [kI, kI, kI, kI] v3, I v4, I (IntKind.i64.wrap (v5 + 1)), I v6, I v7, I v8, I v9, I v10, I v11, I v12, I v13, I v14, I v15, I v16, I v17, I v18, B v19, I v20, B v21, I v22, I v23, I v24, I v25, I v26, B v27])
 else
 none
 else
 none
 else
 some (1, [.view kPt v0]) := by kernel_rfl
theorem mf_cncref23_Chords_eq (Qa6 Qaz Qaf Qc3 Qa5 : Fn) (N9 : Lp) (x0 x1 x2 x3 x4 x5 x6 x7 x8 x9 x10 x11 x12 : Int) (x13 : Bool) (x14 : Int) (x15 : Bool) (x16 x17 x18 x19 x20 : Int) (x21 : Bool) : mf_cncref23_Chords Qa6 Qaz Qaf Qc3 Qa5 N9 [I x0, I x1, I x2, I x3, I x4, I x5, I x6, I x7, I x8, I x9, I x10, I x11, I x12, B x13, I x14, B x15, I x16, I x17, I x18, I x19, I x20, B x21] =
 (Qa5 [I x0, I x1, I x2, I x3, I x4, I x5, I x6, I x7, I x8, I x9, I x10, I x11, I x12, B x13, I x14, B x15, I x16, I x17, I x18, I x19, I x20, B x21]).bind fun o22 =>
 bif !bA o22 0 then
 some [.view kPt [], B false]
 else
 (Qc3 [I x0, I x1, I x2, I x3, I x4, I x5, I x6, I x7, I x8, I x9, I x10, I x11, I x12, B x13, I x14, B x15, I x16, I x17, I x18, I x19, I x20, B x21]).bind fun o23 =>
 bif !bA o23 1 then
 (Qaf [I x2, I x3, I x4]).bind fun o24 =>
 (Qaf [I x5, I x6, I x7]).bind fun o25 =>
 some [.view kPt [[jA o24 0, jA o24 1, jA o24 2], [jA o25 0, jA o25 1, jA o25 2]], B true]
 else
 (Qaf [I x9, I x10, I x11]).bind fun o26 =>
 (Qaz [jA o26 0, jA o26 1, jA o26 2, I x8]).bind fun o27 =>
 (N9 [.view kPt [], jA o27 0, jA o27 1, .view [kI, kI, kI, kI] (wA o23 0), I (↑(wA o23 0).length : Int), I 0, I x0, I x1, I x2, I x3, I x4, I x5, I x6, I x7, I x8, I x9, I x10, I x11, I x12, B x13, I x14, B x15, I x16, I x17, I x18, I x19, I x20, B x21]).bind fun o28 =>
 bif o28.1.beq 1 then
 some [.view kPt (wA o28.2 0), B true]
 else
 none := by kernel_rfl
def l_cncref23_Chords_9 := Qbl (Qfx Qem Qc4 Qbj Qhs Qdj )
def m_cncref23_Chords := mf_cncref23_Chords Qem Qc4 Qbj Qhs Qdj l_cncref23_Chords_9
theorem sp_cncref23_Chords : Qak Tryz.prog (C_cncref23_Chords_0 Qem Qc4 Qbj Qhs Qdj) := Qae rfl ⟨r_cncref23_Space, r_cncref23_Plane, r_cncref23_Fine, r_cncref23_Spokes, r_cncref23_Valid, trivial⟩
theorem r_cncref23_Chords : Qbm Tryz.prog (114, spOf sig_cncref23_Chords osig_cncref23_Chords m_cncref23_Chords) := Qa0 (C := (C_cncref23_Chords_1 Qem Qc4 Qbj Qhs Qdj l_cncref23_Chords_9)) (L := 64) (by kernel_rfl) ((FnOK.bare rfl rfl rfl).loop sp_cncref23_Chords eqOk Qa9 (by kernel_rfl) (by kernel_rfl)) sp_cncref23_Chords eqOk Qa9 (by kernel_rfl) (by kernel_rfl)
def sig_cncref25_points : Sk := { tmps := [tf [CS.sl kItm], tf [ci], tf [ci]], boxes := [], rows := [] }
def osig_cncref25_points : Sk := { tmps := [tf [CS.sl kPt]], boxes := [], rows := [] }
def C_cncref25_points_0 (Qar Qam Qfa Qaj Qho : Fn) : Cfg := { spec := Qbx [(90, spOf Qhz Qg8 Qar), (86, spOf sig_cncref25_Soft osig_cncref25_Soft Qam), (115, spOf sig_cncref25_joined osig_cncref25_joined Qfa), (89, spOf Qic Qg5 Qaj), (114, spOf sig_cncref23_Chords osig_cncref23_Chords Qho)], eqOk := Qb2, ownOff := ownOff }
def mf_cncref25_points (Qar Qam Qfa Qaj Qho : Fn) : Fn := Qax Tryz.prog (C_cncref25_points_0 Qar Qam Qfa Qaj Qho) 64 84 sig_cncref25_points osig_cncref25_points
theorem mf_cncref25_points_eq (Qar Qam Qfa Qaj Qho : Fn) (x0 : Rw) (x1 x2 : Int) : mf_cncref25_points Qar Qam Qfa Qaj Qho [.view kItm x0, I x1, I x2] =
 bif decide (0 <= x1) && decide (x1 < (x0.length : Int)) then
 (Qho [jA (nth [] x0 x1.toNat) 0, jA (nth [] x0 x1.toNat) 1, jA (nth [] x0 x1.toNat) 2, jA (nth [] x0 x1.toNat) 3, jA (nth [] x0 x1.toNat) 4, jA (nth [] x0 x1.toNat) 5, jA (nth [] x0 x1.toNat) 6, jA (nth [] x0 x1.toNat) 7, jA (nth [] x0 x1.toNat) 8, jA (nth [] x0 x1.toNat) 9, jA (nth [] x0 x1.toNat) 10, jA (nth [] x0 x1.toNat) 11, jA (nth [] x0 x1.toNat) 12, B (bA (nth [] x0 x1.toNat) 13), jA (nth [] x0 x1.toNat) 14, B (bA (nth [] x0 x1.toNat) 15), jA (nth [] x0 x1.toNat) 16, jA (nth [] x0 x1.toNat) 17, jA (nth [] x0 x1.toNat) 18, jA (nth [] x0 x1.toNat) 19, jA (nth [] x0 x1.toNat) 20, B (bA (nth [] x0 x1.toNat) 21)]).bind fun o11 =>
 bif decide (0 <= x1) && decide (x1 < (x0.length : Int)) then
 (Qaj [jA (nth [] x0 x1.toNat) 0, jA (nth [] x0 x1.toNat) 1, jA (nth [] x0 x1.toNat) 2, jA (nth [] x0 x1.toNat) 3, jA (nth [] x0 x1.toNat) 4, jA (nth [] x0 x1.toNat) 5, jA (nth [] x0 x1.toNat) 6, jA (nth [] x0 x1.toNat) 7, jA (nth [] x0 x1.toNat) 8, jA (nth [] x0 x1.toNat) 9, jA (nth [] x0 x1.toNat) 10, jA (nth [] x0 x1.toNat) 11, jA (nth [] x0 x1.toNat) 12, B (bA (nth [] x0 x1.toNat) 13), jA (nth [] x0 x1.toNat) 14, B (bA (nth [] x0 x1.toNat) 15), jA (nth [] x0 x1.toNat) 16, jA (nth [] x0 x1.toNat) 17, jA (nth [] x0 x1.toNat) 18, jA (nth [] x0 x1.toNat) 19, jA (nth [] x0 x1.toNat) 20, B (bA (nth [] x0 x1.toNat) 21)]).bind fun o12 =>
 bif !bA o12 0 then
 some [.view kPt (wA o11 0)]
 else
 bif decide (0 <= 1) && decide (1 <= (↑(wA o11 0).length : Int)) then
 bif decide (0 <= 1) && decide (1 <= (↑(wA o11 0).length : Int)) then
 bif decide (x2 >= 0) then
 (Qfa [.view kItm x0, I x2, I x1]).bind fun o13 =>
 bif decide (0 <= IntKind.i64.wrap ((↑(wA o13 0).length : Int).tdiv 2)) && decide (IntKind.i64.wrap ((↑(wA o13 0).length : Int).tdiv 2) <= (↑(wA o13 0).length : Int)) then
 (Qam [.view kItm x0, I x1]).bind fun o14 =>
 bif decide (gA o14 0 >= 0) then
 (Qfa [.view kItm x0, I x1, jA o14 0]).bind fun o15 =>
 bif decide (0 <= IntKind.i64.wrap (IntKind.i64.wrap ((↑(wA o15 0).length : Int).tdiv 2) + 1)) && decide (IntKind.i64.wrap (IntKind.i64.wrap ((↑(wA o15 0).length : Int).tdiv 2) + 1) <= (↑(wA o15 0).length : Int)) then
 bif (([] ++ List.drop (IntKind.i64.wrap ((↑(wA o13 0).length : Int).tdiv 2)).toNat (wA o13 0)).length * 24).ble 140737488355328 then
 bif decide (0 <= x1) && decide (x1 < (x0.length : Int)) then
 (Qar [jA (nth [] x0 x1.toNat) 0, jA (nth [] x0 x1.toNat) 1, jA (nth [] x0 x1.toNat) 2, jA (nth [] x0 x1.toNat) 3, jA (nth [] x0 x1.toNat) 4, jA (nth [] x0 x1.toNat) 5, jA (nth [] x0 x1.toNat) 6, jA (nth [] x0 x1.toNat) 7, jA (nth [] x0 x1.toNat) 8, jA (nth [] x0 x1.toNat) 9, jA (nth [] x0 x1.toNat) 10, jA (nth [] x0 x1.toNat) 11, jA (nth [] x0 x1.toNat) 12, B (bA (nth [] x0 x1.toNat) 13), jA (nth [] x0 x1.toNat) 14, B (bA (nth [] x0 x1.toNat) 15), jA (nth [] x0 x1.toNat) 16, jA (nth [] x0 x1.toNat) 17, jA (nth [] x0 x1.toNat) 18, jA (nth [] x0 x1.toNat) 19, jA (nth [] x0 x1.toNat) 20, B (bA (nth [] x0 x1.toNat) 21)]).bind fun o16 =>
 bif (([] ++ List.drop (IntKind.i64.wrap ((↑(wA o13 0).length : Int).tdiv 2)).toNat (wA o13 0) ++ [[jA o16 0, jA o16 1, jA o16 2]]).length * 24).ble 140737488355328 then
 bif (([] ++ List.drop (IntKind.i64.wrap ((↑(wA o13 0).length : Int).tdiv 2)).toNat (wA o13 0) ++ [[jA o16 0, jA o16 1, jA o16 2]] ++ List.take (IntKind.i64.wrap (IntKind.i64.wrap ((↑(wA o15 0).length : Int).tdiv 2) + 1)).toNat (wA o15 0)).length * 24).ble 140737488355328 then
 some [.view kPt ([] ++ List.drop (IntKind.i64.wrap ((↑(wA o13 0).length : Int).tdiv 2)).toNat (wA o13 0) ++ [[jA o16 0, jA o16 1, jA o16 2]] ++ List.take (IntKind.i64.wrap (IntKind.i64.wrap ((↑(wA o15 0).length : Int).tdiv 2) + 1)).toNat (wA o15 0))]
 else
 none
 else
 none
 else
 none
 else
 none
 else
 none
 else
 bif (([] ++ List.drop (IntKind.i64.wrap ((↑(wA o13 0).length : Int).tdiv 2)).toNat (wA o13 0)).length * 24).ble 140737488355328 then
 bif decide (0 <= x1) && decide (x1 < (x0.length : Int)) then
 (Qar [jA (nth [] x0 x1.toNat) 0, jA (nth [] x0 x1.toNat) 1, jA (nth [] x0 x1.toNat) 2, jA (nth [] x0 x1.toNat) 3, jA (nth [] x0 x1.toNat) 4, jA (nth [] x0 x1.toNat) 5, jA (nth [] x0 x1.toNat) 6, jA (nth [] x0 x1.toNat) 7, jA (nth [] x0 x1.toNat) 8, jA (nth [] x0 x1.toNat) 9, jA (nth [] x0 x1.toNat) 10, jA (nth [] x0 x1.toNat) 11, jA (nth [] x0 x1.toNat) 12, B (bA (nth [] x0 x1.toNat) 13), jA (nth [] x0 x1.toNat) 14, B (bA (nth [] x0 x1.toNat) 15), jA (nth [] x0 x1.toNat) 16, jA (nth [] x0 x1.toNat) 17, jA (nth [] x0 x1.toNat) 18, jA (nth [] x0 x1.toNat) 19, jA (nth [] x0 x1.toNat) 20, B (bA (nth [] x0 x1.toNat) 21)]).bind fun o17 =>
 bif (([] ++ List.drop (IntKind.i64.wrap ((↑(wA o13 0).length : Int).tdiv 2)).toNat (wA o13 0) ++ [[jA o17 0, jA o17 1, jA o17 2]]).length * 24).ble 140737488355328 then
 bif (([] ++ List.drop (IntKind.i64.wrap ((↑(wA o13 0).length : Int).tdiv 2)).toNat (wA o13 0) ++ [[jA o17 0, jA o17 1, jA o17 2]] ++ List.drop (Int.toNat 1) (wA o11 0)).length * 24).ble 140737488355328 then
 some [.view kPt ([] ++ List.drop (IntKind.i64.wrap ((↑(wA o13 0).length : Int).tdiv 2)).toNat (wA o13 0) ++ [[jA o17 0, jA o17 1, jA o17 2]] ++ List.drop (Int.toNat 1) (wA o11 0))]
 else
 none
 else
 none
 else
 none
 else
 none
 else
 none
 else
 (Qam [.view kItm x0, I x1]).bind fun o18 =>
 bif decide (gA o18 0 >= 0) then
 (Qfa [.view kItm x0, I x1, jA o18 0]).bind fun o19 =>
 bif decide (0 <= IntKind.i64.wrap (IntKind.i64.wrap ((↑(wA o19 0).length : Int).tdiv 2) + 1)) && decide (IntKind.i64.wrap (IntKind.i64.wrap ((↑(wA o19 0).length : Int).tdiv 2) + 1) <= (↑(wA o19 0).length : Int)) then
 bif (([] ++ List.take (Int.toNat 1) (wA o11 0)).length * 24).ble 140737488355328 then
 bif decide (0 <= x1) && decide (x1 < (x0.length : Int)) then
 (Qar [jA (nth [] x0 x1.toNat) 0, jA (nth [] x0 x1.toNat) 1, jA (nth [] x0 x1.toNat) 2, jA (nth [] x0 x1.toNat) 3, jA (nth [] x0 x1.toNat) 4, jA (nth [] x0 x1.toNat) 5, jA (nth [] x0 x1.toNat) 6, jA (nth [] x0 x1.toNat) 7, jA (nth [] x0 x1.toNat) 8, jA (nth [] x0 x1.toNat) 9, jA (nth [] x0 x1.toNat) 10, jA (nth [] x0 x1.toNat) 11, jA (nth [] x0 x1.toNat) 12, B (bA (nth [] x0 x1.toNat) 13), jA (nth [] x0 x1.toNat) 14, B (bA (nth [] x0 x1.toNat) 15), jA (nth [] x0 x1.toNat) 16, jA (nth [] x0 x1.toNat) 17, jA (nth [] x0 x1.toNat) 18, jA (nth [] x0 x1.toNat) 19, jA (nth [] x0 x1.toNat) 20, B (bA (nth [] x0 x1.toNat) 21)]).bind fun o20 =>
 bif (([] ++ List.take (Int.toNat 1) (wA o11 0) ++ [[jA o20 0, jA o20 1, jA o20 2]]).length * 24).ble 140737488355328 then
 bif (([] ++ List.take (Int.toNat 1) (wA o11 0) ++ [[jA o20 0, jA o20 1, jA o20 2]] ++ List.take (IntKind.i64.wrap (IntKind.i64.wrap ((↑(wA o19 0).length : Int).tdiv 2) + 1)).toNat (wA o19 0)).length * 24).ble 140737488355328 then
 some [.view kPt ([] ++ List.take (Int.toNat 1) (wA o11 0) ++ [[jA o20 0, jA o20 1, jA o20 2]] ++ List.take (IntKind.i64.wrap (IntKind.i64.wrap ((↑(wA o19 0).length : Int).tdiv 2) + 1)).toNat (wA o19 0))]
 else
 none
 else
 none
 else
 none
 else
 none
 else
 none
 else
 bif (([] ++ List.take (Int.toNat 1) (wA o11 0)).length * 24).ble 140737488355328 then
 bif decide (0 <= x1) && decide (x1 < (x0.length : Int)) then
 (Qar [jA (nth [] x0 x1.toNat) 0, jA (nth [] x0 x1.toNat) 1, jA (nth [] x0 x1.toNat) 2, jA (nth [] x0 x1.toNat) 3, jA (nth [] x0 x1.toNat) 4, jA (nth [] x0 x1.toNat) 5, jA (nth [] x0 x1.toNat) 6, jA (nth [] x0 x1.toNat) 7, jA (nth [] x0 x1.toNat) 8, jA (nth [] x0 x1.toNat) 9, jA (nth [] x0 x1.toNat) 10, jA (nth [] x0 x1.toNat) 11, jA (nth [] x0 x1.toNat) 12, B (bA (nth [] x0 x1.toNat) 13), jA (nth [] x0 x1.toNat) 14, B (bA (nth [] x0 x1.toNat) 15), jA (nth [] x0 x1.toNat) 16, jA (nth [] x0 x1.toNat) 17, jA (nth [] x0 x1.toNat) 18, jA (nth [] x0 x1.toNat) 19, jA (nth [] x0 x1.toNat) 20, B (bA (nth [] x0 x1.toNat) 21)]).bind fun o21 =>
 bif (([] ++ List.take (Int.toNat 1) (wA o11 0) ++ [[jA o21 0, jA o21 1, jA o21 2]]).length * 24).ble 140737488355328 then
 bif (([] ++ List.take (Int.toNat 1) (wA o11 0) ++ [[jA o21 0, jA o21 1, jA o21 2]] ++ List.drop (Int.toNat 1) (wA o11 0)).length * 24).ble 140737488355328 then
 some [.view kPt ([] ++ List.take (Int.toNat 1) (wA o11 0) ++ [[jA o21 0, jA o21 1, jA o21 2]] ++ List.drop (Int.toNat 1) (wA o11 0))]
 else
 none
 else
 none
 else
 none
 else
 none
 else
 none
 else
 none
 else
 none
 else
 none := by kernel_rfl
def Qd5 := mf_cncref25_points Qcn Qdm m_cncref25_joined Qcj m_cncref23_Chords 
theorem sp_cncref25_points : Qak Tryz.prog (C_cncref25_points_0 Qcn Qdm m_cncref25_joined Qcj m_cncref23_Chords) := Qae rfl ⟨r_cncref25_Center, r_cncref25_Soft, r_cncref25_joined, r_cncref25_Smooth, r_cncref23_Chords, trivial⟩
theorem r_cncref25_points : Qbm Tryz.prog (84, spOf sig_cncref25_points osig_cncref25_points Qd5) := Qa0 (C := (C_cncref25_points_0 Qcn Qdm m_cncref25_joined Qcj m_cncref23_Chords)) (L := 64) (by kernel_rfl) (FnOK.bare rfl rfl rfl) sp_cncref25_points eqOk Qa9 (by kernel_rfl) (by kernel_rfl)
def sig_cncref25_Rate : Sk := { tmps := [TS.v true [ci, ci, ci, ci, ci, ci, ci, ci, ci, ci, ci, ci, ci, CS.bool, ci, CS.bool, ci, ci, ci, ci, ci, CS.bool], tf [ci]], boxes := [], rows := [] }
def osig_cncref25_Rate : Sk := { tmps := [tf [ci]], boxes := [], rows := [] }
def C_cncref25_Rate_0 (Qa2 : Fn) : Cfg := { spec := Qbx [(72, spOf sig_cncref24_Rounded osig_cncref24_Rounded Qa2)], eqOk := Qb2, ownOff := ownOff }
def mf_cncref25_Rate (Qa2 : Fn) : Fn := Qax Tryz.prog (C_cncref25_Rate_0 Qa2) 64 82 sig_cncref25_Rate osig_cncref25_Rate
theorem mf_cncref25_Rate_eq (Qa2 : Fn) (x0 x1 x2 x3 x4 x5 x6 x7 x8 x9 x10 x11 x12 : Int) (x13 : Bool) (x14 : Int) (x15 : Bool) (x16 x17 x18 x19 x20 : Int) (x21 : Bool) (x22 : Int) : mf_cncref25_Rate Qa2 [I x0, I x1, I x2, I x3, I x4, I x5, I x6, I x7, I x8, I x9, I x10, I x11, I x12, B x13, I x14, B x15, I x16, I x17, I x18, I x19, I x20, B x21, I x22] =
 bif x0 == 1 then
 some [I 0]
 else
 bif x15 then
 (Qa2 [I (IntKind.i64.wrap (IntKind.i64.wrap (mn (IntKind.i64.wrap (x14 * mx x22 1)) 60000000 * 16) * 256)), I 60000]).bind fun o2 =>
 some [I (mx (gA o2 0) 1)]
 else
 (Qa2 [I (IntKind.i64.wrap (IntKind.i64.wrap (mn x14 60000000 * 16) * 256)), I 60000]).bind fun o3 =>
 some [I (mx (gA o3 0) 1)] := by kernel_rfl
def Qd1 := mf_cncref25_Rate Qcg 
theorem sp_cncref25_Rate : Qak Tryz.prog (C_cncref25_Rate_0 Qcg) := Qae rfl ⟨r_cncref24_Rounded, trivial⟩
theorem r_cncref25_Rate : Qbm Tryz.prog (82, spOf sig_cncref25_Rate osig_cncref25_Rate Qd1) := Qa0 (C := (C_cncref25_Rate_0 Qcg)) (L := 64) (by kernel_rfl) (FnOK.bare rfl rfl rfl) sp_cncref25_Rate eqOk Qa9 (by kernel_rfl) (by kernel_rfl)
def sig_cncref25_other : Sk := { tmps := [TS.v true [ci, ci, ci, ci, ci, ci, ci, ci, ci, ci, ci, ci, ci, CS.bool, ci, CS.bool, ci, ci, ci, ci, ci, CS.bool]], boxes := [], rows := [] }
def osig_cncref25_other : Sk := { tmps := [tf [ci]], boxes := [], rows := [] }
def C_cncref25_other_0 : Cfg := { spec := Qbx [], eqOk := Qb2, ownOff := ownOff }
def mf_cncref25_other : Fn := Qax Tryz.prog C_cncref25_other_0 64 80 sig_cncref25_other osig_cncref25_other
theorem mf_cncref25_other_eq (x0 x1 x2 x3 x4 x5 x6 x7 x8 x9 x10 x11 x12 : Int) (x13 : Bool) (x14 : Int) (x15 : Bool) (x16 x17 x18 x19 x20 : Int) (x21 : Bool) : mf_cncref25_other [I x0, I x1, I x2, I x3, I x4, I x5, I x6, I x7, I x8, I x9, I x10, I x11, I x12, B x13, I x14, B x15, I x16, I x17, I x18, I x19, I x20, B x21] =
 bif x0 == 10 then
 some [I 5]
 else
 bif x0 == 13 then
 some [I 4]
 else
 some [I 3] := by kernel_rfl
def Qdz := mf_cncref25_other 
theorem sp_cncref25_other : Qak Tryz.prog (C_cncref25_other_0 ) := Qae rfl trivial
theorem r_cncref25_other : Qbm Tryz.prog (80, spOf sig_cncref25_other osig_cncref25_other Qdz) := Qa0 (C := C_cncref25_other_0) (L := 64) (by kernel_rfl) (FnOK.bare rfl rfl rfl) sp_cncref25_other eqOk Qa9 (by kernel_rfl) (by kernel_rfl)
def sig_cncref25_wrong : Sk := { tmps := [TS.v true [ci, ci, ci, ci, ci, ci, ci, ci, ci, ci, ci, ci, ci, CS.bool, ci, CS.bool, ci, ci, ci, ci, ci, CS.bool]], boxes := [], rows := [] }
def osig_cncref25_wrong : Sk := { tmps := [tf [CS.bool]], boxes := [], rows := [] }
def C_cncref25_wrong_0 (Qa5 Qac : Fn) : Cfg := { spec := Qbx [(133, spOf sig_cncref23_Valid Qh7 Qa5), (79, spOf Qe9 Qet Qac)], eqOk := Qb2, ownOff := ownOff }
def mf_cncref25_wrong (Qa5 Qac : Fn) : Fn := Qax Tryz.prog (C_cncref25_wrong_0 Qa5 Qac) 64 113 sig_cncref25_wrong osig_cncref25_wrong
theorem mf_cncref25_wrong_eq (Qa5 Qac : Fn) (x0 x1 x2 x3 x4 x5 x6 x7 x8 x9 x10 x11 x12 : Int) (x13 : Bool) (x14 : Int) (x15 : Bool) (x16 x17 x18 x19 x20 : Int) (x21 : Bool) : mf_cncref25_wrong Qa5 Qac [I x0, I x1, I x2, I x3, I x4, I x5, I x6, I x7, I x8, I x9, I x10, I x11, I x12, B x13, I x14, B x15, I x16, I x17, I x18, I x19, I x20, B x21] =
 bif decide (x0 < 1) then
 some [B true]
 else
 bif decide (x0 > 14) then
 some [B true]
 else
 (Qac [I x0]).bind fun o2 =>
 bif bA o2 0 then
 (Qa5 [I x0, I x1, I x2, I x3, I x4, I x5, I x6, I x7, I x8, I x9, I x10, I x11, I x12, B x13, I x14, B x15, I x16, I x17, I x18, I x19, I x20, B x21]).bind fun o3 =>
 bif !bA o3 0 then
 some [B true]
 else
 bif x0 != 1 then
 bif decide (x14 < 1) then
 some [B true]
 else
 bif decide (x14 > 60000000) then
 some [B true]
 else
 bif decide (x18 < 0) then
 some [B true]
 else
 some [B (decide (x18 > 1000))]
 else
 bif decide (x18 < 0) then
 some [B true]
 else
 some [B (decide (x18 > 1000))]
 else
 bif x0 == 8 then
 bif decide (x19 < 3) then
 some [B true]
 else
 bif decide (x19 > 5) then
 some [B true]
 else
 bif decide (x20 < 0) then
 some [B true]
 else
 some [B (decide (x20 > 30000))]
 else
 some [B false] := by kernel_rfl
def Qgy := mf_cncref25_wrong Qdj Qa1 
theorem sp_cncref25_wrong : Qak Tryz.prog (C_cncref25_wrong_0 Qdj Qa1) := Qae rfl ⟨r_cncref23_Valid, r_cncref23_Motion, trivial⟩
theorem r_cncref25_wrong : Qbm Tryz.prog (113, spOf sig_cncref25_wrong osig_cncref25_wrong Qgy) := Qa0 (C := (C_cncref25_wrong_0 Qdj Qa1)) (L := 64) (by kernel_rfl) (FnOK.bare rfl rfl rfl) sp_cncref25_wrong eqOk Qa9 (by kernel_rfl) (by kernel_rfl)
end Go.Bm
