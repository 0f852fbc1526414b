/- functions of the program and of the references, as models -/
import Derived.Test.YtdllaekpkcanbaaMx2
set_option linter.unusedSimpArgs false
set_option linter.unusedVariables false
set_option maxRecDepth 100000
noncomputable section
namespace Go.Bm
open Go.Proofs
def sig_blend_Pieces : Sk := { tmps := [TS.v true [ci, ci, ci], TS.v true [ci, ci, ci], TS.v true [ci, ci, ci]], boxes := [], rows := [] }
def osig_blend_Pieces : Sk := { tmps := [tf [ci]], boxes := [], rows := [] }
def C_blend_Pieces_0 (Qbf : Fn) : Cfg := { spec := Qbq [(194, spOf sig_blend_bend Qmq Qbf)], eqOk := Qbw, ownOff := ownOff }
def sk_blend_Pieces_2 : Sk := { tmps := [td, td, td, tf [CS.ptr 3 0], tf [CS.ptr 4 0], tf [CS.ptr 5 0], td, tf [ci]] ++ dd 22, boxes := [(3, 23, [ci, ci, ci]), (4, 23, [ci, ci, ci]), (5, 23, [ci, ci, ci])], rows := [] }
def ex_blend_Pieces_2 : List (Ex × Sk) := [(Ex.exit 0, { tmps := [td, td, td, td, td, td, td, tf [ci]] ++ dd 22, boxes := [], rows := [] })]
def Qgy (Qbf : Fn) : Lp := stepL Try.prog (C_blend_Pieces_0 Qbf) 64 2 (Qhz Try.prog 192 2) sk_blend_Pieces_2 ex_blend_Pieces_2
def C_blend_Pieces_1 (Qbf : Fn) (N2 : Lp) : Cfg := (C_blend_Pieces_0 Qbf).loop 2 sk_blend_Pieces_2 ex_blend_Pieces_2 N2
def mf_blend_Pieces (Qbf : Fn) (N2 : Lp) : Fn := Qat Try.prog (C_blend_Pieces_1 Qbf N2) 64 192 sig_blend_Pieces osig_blend_Pieces
theorem st_blend_Pieces_2_eq (Qbf : Fn) (v0 v1 v2 v3 v4 v5 v6 v7 v8 v9 : Int) : Qgy Qbf [I v0, I v1, I v2, I v3, I v4, I v5, I v6, I v7, I v8, I v9] =
 bif decide (v0 < 64) then
 (Qbf [I v1, I v2, I v3, I v4, I v5, I v6, I v7, I v8, I v9]).bind fun o2 =>
 bif decide (gA o2 0 > IntKind.i64.wrap (IntKind.i64.wrap (IntKind.i64.wrap (IntKind.i64.wrap (IntKind.i64.wrap (IntKind.i64.wrap (16 * v0) * v0) * v0) * v0) * 4) * 4)) then
 some (0, [I (IntKind.i64.wrap (v0 * 2)), I v1, I v2, I v3, I v4, I v5, I v6, I v7, I v8, I v9])
 else
 some (1, [I v0])
 else
 some (1, [I v0]) := by kernel_rfl
theorem mf_blend_Pieces_eq (Qbf : Fn) (N2 : Lp) (x0 x1 x2 x3 x4 x5 x6 x7 x8 : Int) : mf_blend_Pieces Qbf N2 [I x0, I x1, I x2, I x3, I x4, I x5, I x6, I x7, I x8] =
 (N2 [I 2, I x0, I x1, I x2, I x3, I x4, I x5, I x6, I x7, I x8]).bind fun o3 =>
 bif o3.1.beq 1 then
 some [jA o3.2 0]
 else
 none := by kernel_rfl
def l_blend_Pieces_2 := Qb1 (Qgy Qec )
def Qe7 := mf_blend_Pieces Qec l_blend_Pieces_2
theorem sp_blend_Pieces : Qan Try.prog (C_blend_Pieces_0 Qec) := Qad rfl ⟨r_blend_bend, trivial⟩
theorem r_blend_Pieces : Qbv Try.prog (192, spOf sig_blend_Pieces osig_blend_Pieces Qe7) := Qa7 (C := (C_blend_Pieces_1 Qec l_blend_Pieces_2)) (L := 64) (by kernel_rfl) ((FnOK.bare rfl rfl rfl).loop sp_blend_Pieces eqOk Qbo (by kernel_rfl) (by kernel_rfl)) sp_blend_Pieces eqOk Qbo (by kernel_rfl) (by kernel_rfl)
def Qlj : Sk := { tmps := [TS.v true [ci, ci, ci], TS.v true [ci, ci, ci], tf [ci]], boxes := [], rows := [] }
def Qkc : Sk := { tmps := [TS.tup [(true, [ci, ci, ci]), (false, [CS.bool])]], boxes := [], rows := [] }
def C_blend_Toward_0 (Qbh : Fn) : Cfg := { spec := Qbq [(175, spOf sig_wide_Over osig_wide_Over Qbh)], eqOk := Qbw, ownOff := ownOff, unroll := [5, 10] }
def mf_blend_Toward (Qbh : Fn) : Fn := Qat Try.prog (C_blend_Toward_0 Qbh) 64 191 Qlj Qkc
theorem mf_blend_Toward_eq (Qbh : Fn) (x0 x1 x2 x3 x4 x5 x6 : Int) : mf_blend_Toward Qbh [I x0, I x1, I x2, I x3, I x4, I x5, I x6] =
 bif x3 == x0 && (x4 == x1 && (x5 == x2 && true)) then
 some [I 0, I 0, I 0, B false]
 else
 bif decide (x6 < 0) then
 some [I 0, I 0, I 0, B false]
 else
 bif decide (x6 > 33554432) then
 some [I 0, I 0, I 0, B false]
 else
 (Qbh [I (IntKind.i64.wrap (x3 - x0)), I x6, I (IntKind.i64.wrap (IntKind.i64.wrap (IntKind.i64.wrap (0 + IntKind.i64.wrap (IntKind.i64.wrap (x3 - x0) * IntKind.i64.wrap (x3 - x0))) + IntKind.i64.wrap (IntKind.i64.wrap (x4 - x1) * IntKind.i64.wrap (x4 - x1))) + IntKind.i64.wrap (IntKind.i64.wrap (x5 - x2) * IntKind.i64.wrap (x5 - x2)))), I 2]).bind fun o3 =>
 (Qbh [I (IntKind.i64.wrap (x4 - x1)), I x6, I (IntKind.i64.wrap (IntKind.i64.wrap (IntKind.i64.wrap (0 + IntKind.i64.wrap (IntKind.i64.wrap (x3 - x0) * IntKind.i64.wrap (x3 - x0))) + IntKind.i64.wrap (IntKind.i64.wrap (x4 - x1) * IntKind.i64.wrap (x4 - x1))) + IntKind.i64.wrap (IntKind.i64.wrap (x5 - x2) * IntKind.i64.wrap (x5 - x2)))), I 2]).bind fun o4 =>
 (Qbh [I (IntKind.i64.wrap (x5 - x2)), I x6, I (IntKind.i64.wrap (IntKind.i64.wrap (IntKind.i64.wrap (0 + IntKind.i64.wrap (IntKind.i64.wrap (x3 - x0) * IntKind.i64.wrap (x3 - x0))) + IntKind.i64.wrap (IntKind.i64.wrap (x4 - x1) * IntKind.i64.wrap (x4 - x1))) + IntKind.i64.wrap (IntKind.i64.wrap (x5 - x2) * IntKind.i64.wrap (x5 - x2)))), I 2]).bind fun o5 =>
 some [I (IntKind.i64.wrap (x0 + gA o3 0)), I (IntKind.i64.wrap (x1 + gA o4 0)), I (IntKind.i64.wrap (x2 + gA o5 0)), B true] := by kernel_rfl
def Qc9 := mf_blend_Toward Qgg 
theorem sp_blend_Toward : Qan Try.prog (C_blend_Toward_0 Qgg) := Qad rfl ⟨r_wide_Over, trivial⟩
theorem r_blend_Toward : Qbv Try.prog (191, spOf Qlj Qkc Qc9) := Qa7 (C := (C_blend_Toward_0 Qgg)) (L := 64) (by kernel_rfl) (FnOK.bare rfl rfl rfl) sp_blend_Toward eqOk Qbo (by kernel_rfl) (by kernel_rfl)
def sig_blend_Reach : Sk := { tmps := [TS.v true [ci, ci, ci], TS.v true [ci, ci, ci], TS.v true [ci, ci, ci], tf [ci]], boxes := [], rows := [] }
def osig_blend_Reach : Sk := { tmps := [tf [ci]], boxes := [], rows := [] }
def C_blend_Reach_0 (Qbf Qar Qa3 : Fn) : Cfg := { spec := Qbq [(194, spOf sig_blend_bend Qmq Qbf), (191, spOf Qlj Qkc Qar), (177, spOf Qlk Qj5 Qa3)], eqOk := Qbw, ownOff := ownOff }
def sk_blend_Reach_6 : Sk := { tmps := [td, td, td, tf [ci], tf [CS.ptr 4 0], tf [CS.ptr 5 0], tf [CS.ptr 6 0], td, td, tf [ci], tf [ci], tf [ci]] ++ dd 62, boxes := [(4, 23, [ci, ci, ci]), (5, 23, [ci, ci, ci]), (6, 23, [ci, ci, ci])], rows := [] }
def ex_blend_Reach_6 : List (Ex × Sk) := [(Ex.exit 0, { tmps := [td, td, td, td, td, td, td, td, td, td, tf [ci]] ++ dd 63, boxes := [], rows := [] })]
def Qf5 (Qbf Qar Qa3 : Fn) : Lp := stepL Try.prog (C_blend_Reach_0 Qbf Qar Qa3) 64 6 (Qhz Try.prog 190 6) sk_blend_Reach_6 ex_blend_Reach_6
def C_blend_Reach_1 (Qbf Qar Qa3 : Fn) (N6 : Lp) : Cfg := (C_blend_Reach_0 Qbf Qar Qa3).loop 6 sk_blend_Reach_6 ex_blend_Reach_6 N6
def mf_blend_Reach (Qbf Qar Qa3 : Fn) (N6 : Lp) : Fn := Qat Try.prog (C_blend_Reach_1 Qbf Qar Qa3 N6) 64 190 sig_blend_Reach osig_blend_Reach
theorem st_blend_Reach_6_eq (Qbf Qar Qa3 : Fn) (v0 v1 v2 v3 v4 v5 v6 v7 v8 v9 v10 v11 v12 : Int) : Qf5 Qbf Qar Qa3 [I v0, I v1, I v2, I v3, I v4, I v5, I v6, I v7, I v8, I v9, I v10, I v11, I v12] =
 bif decide (v3 > 0) then
 bif decide (IntKind.i64.wrap (v2 + v3) > v1) then
 some (0, [I v0, I v1, I v2, I (v3.fdiv (2 ^ min (Int.toNat 1) IntKind.i64.bits)), I v4, I v5, I v6, I v7, I v8, I v9, I v10, I v11, I v12])
 else
 (Qar [I v7, I v8, I v9, I v4, I v5, I v6, I (IntKind.i64.wrap (v2 + v3))]).bind fun o8 =>
 (Qar [I v7, I v8, I v9, I v10, I v11, I v12, I (IntKind.i64.wrap (v2 + v3))]).bind fun o9 =>
 (Qbf [jA o8 0, jA o8 1, jA o8 2, I v7, I v8, I v9, jA o9 0, jA o9 1, jA o9 2]).bind fun o10 =>
 bif decide (gA o10 0 <= IntKind.i64.wrap (IntKind.i64.wrap (16 * v0) * v0)) then
 some (0, [I v0, I v1, I (IntKind.i64.wrap (v2 + v3)), I (v3.fdiv (2 ^ min (Int.toNat 1) IntKind.i64.bits)), I v4, I v5, I v6, I v7, I v8, I v9, I v10, I v11, I v12])
 else
 some (0, [I v0, I v1, I v2, I (v3.fdiv (2 ^ min (Int.toNat 1) IntKind.i64.bits)), I v4, I v5, I v6, I v7, I v8, I v9, I v10, I v11, I v12])
 else
 some (1, [I v2]) := by kernel_rfl
theorem mf_blend_Reach_eq (Qbf Qar Qa3 : Fn) (N6 : Lp) (x0 x1 x2 x3 x4 x5 x6 x7 x8 x9 : Int) : mf_blend_Reach Qbf Qar Qa3 N6 [I x0, I x1, I x2, I x3, I x4, I x5, I x6, I x7, I x8, I x9] =
 bif x0 == x3 && (x1 == x4 && (x2 == x5 && true)) then
 some [I 0]
 else
 bif x6 == x3 && (x7 == x4 && (x8 == x5 && true)) then
 some [I 0]
 else
 (Qa3 [I x0, I x1, I x2, I x3, I x4, I x5]).bind fun o11 =>
 (Qa3 [I x3, I x4, I x5, I x6, I x7, I x8]).bind fun o12 =>
 (N6 [I x9, I (IntKind.i64.wrap (mn (gA o11 0) (gA o12 0) - 2)), I 0, I 16777216, I x0, I x1, I x2, I x3, I x4, I x5, I x6, I x7, I x8]).bind fun o13 =>
 bif o13.1.beq 1 then
 bif decide (gA o13.2 0 < 16) then
 some [I 0]
 else
 some [jA o13.2 0]
 else
 none := by kernel_rfl
def l_blend_Reach_6 := Qb1 (Qf5 Qec Qc9 Qeq )
def Qhi := mf_blend_Reach Qec Qc9 Qeq l_blend_Reach_6
theorem sp_blend_Reach : Qan Try.prog (C_blend_Reach_0 Qec Qc9 Qeq) := Qad rfl ⟨r_blend_bend, r_blend_Toward, r_curve_Length, trivial⟩
theorem r_blend_Reach : Qbv Try.prog (190, spOf sig_blend_Reach osig_blend_Reach Qhi) := Qa7 (C := (C_blend_Reach_1 Qec Qc9 Qeq l_blend_Reach_6)) (L := 64) (by kernel_rfl) ((FnOK.bare rfl rfl rfl).loop sp_blend_Reach eqOk Qbo (by kernel_rfl) (by kernel_rfl)) sp_blend_Reach eqOk Qbo (by kernel_rfl) (by kernel_rfl)
def sig_blend_Corner : Sk := { tmps := [TS.v true [ci, ci, ci], TS.v true [ci, ci, ci], TS.v true [ci, ci, ci], tf [ci]], boxes := [], rows := [] }
def osig_blend_Corner : Sk := { tmps := [tf [CS.sl kPt]], boxes := [], rows := [] }
def C_blend_Corner_0 (Qam Qdc Qar Qdt : Fn) : Cfg := { spec := Qbq [(98, spOf Qjk Qhu Qam), (192, spOf sig_blend_Pieces osig_blend_Pieces Qdc), (191, spOf Qlj Qkc Qar), (190, spOf sig_blend_Reach osig_blend_Reach Qdt)], eqOk := Qbw, ownOff := ownOff, unroll := [13] }
def sk_blend_Corner_9 : Sk := { tmps := [td, td, td, td, td, tf [CS.ptr 5 0], td, td, td, td, tf [CS.ptr 10 0], td, tf [CS.ptr 12 0], td, tf [ci], tf [CS.own 50 3], td, td, td, td, td, td, td, td, td, td, td, td, td, td, td, td, td, td, td, td, td, td, td, td, td, td, td, td, td, td, td, td, td, td, td, td, tf [ci], tf [ci]] ++ dd 57, boxes := [(5, 23, [ci, ci, ci]), (10, 23, [ci, ci, ci]), (12, 23, [ci, ci, ci])], rows := [(50, 23, kPt)] }
def ex_blend_Corner_9 : List (Ex × Sk) := [(Ex.exit 0, { tmps := [td, td, td, td, td, td, td, td, td, td, td, td, td, td, td, tf [CS.own 50 3]] ++ dd 95, boxes := [], rows := [(50, 23, kPt)] })]
def Qfh (Qam Qdc Qar Qdt : Fn) : Lp := stepL Try.prog (C_blend_Corner_0 Qam Qdc Qar Qdt) 64 9 (Qhz Try.prog 185 9) sk_blend_Corner_9 ex_blend_Corner_9
def C_blend_Corner_1 (Qam Qdc Qar Qdt : Fn) (N9 : Lp) : Cfg := (C_blend_Corner_0 Qam Qdc Qar Qdt).loop 9 sk_blend_Corner_9 ex_blend_Corner_9 N9
def mf_blend_Corner (Qam Qdc Qar Qdt : Fn) (N9 : Lp) : Fn := Qat Try.prog (C_blend_Corner_1 Qam Qdc Qar Qdt N9) 64 185 sig_blend_Corner osig_blend_Corner
theorem st_blend_Corner_9_eq (Qam Qdc Qar Qdt : Fn) (v0 : Rw) (v1 v2 v3 v4 v5 v6 v7 v8 v9 v10 v11 v12 : Int) : Qfh Qam Qdc Qar Qdt [.view kPt v0, I v1, I v2, I v3, I v4, I v5, I v6, I v7, I v8, I v9, I v10, I v11, I v12] =
 bif decide (v3 < v2) then
 bif decide (0 <= v3) && decide (v3 < (v0.length : Int)) then
 (Qam [I (IntKind.i64.wrap (IntKind.i64.wrap (IntKind.i64.wrap (IntKind.i64.wrap (v1 - v3) * IntKind.i64.wrap (v1 - v3)) * IntKind.i64.wrap (v7 - v4)) + IntKind.i64.wrap (IntKind.i64.wrap (v3 * v3) * IntKind.i64.wrap (v10 - v4)))), I 1, I (IntKind.i64.wrap (v1 * v1)), I 2]).bind fun o12 =>
 bif decide (0 <= v3) && decide (v3 < (v0.length : Int)) then
 bif decide (0 <= v3) && decide (v3 < (v0.length : Int)) then
 (Qam [I (IntKind.i64.wrap (IntKind.i64.wrap (IntKind.i64.wrap (IntKind.i64.wrap (v1 - v3) * IntKind.i64.wrap (v1 - v3)) * IntKind.i64.wrap (v8 - v5)) + IntKind.i64.wrap (IntKind.i64.wrap (v3 * v3) * IntKind.i64.wrap (v11 - v5)))), I 1, I (IntKind.i64.wrap (v1 * v1)), I 2]).bind fun o13 =>
 bif decide (0 <= v3) && decide (v3 < (v0.length : Int)) then
 bif decide (0 <= v3) && decide (v3 < (v0.length : Int)) then
 (Qam [I (IntKind.i64.wrap (IntKind.i64.wrap (IntKind.i64.wrap (IntKind.i64.wrap (v1 - v3) * IntKind.i64.wrap (v1 - v3)) * IntKind.i64.wrap (v9 - v6)) + IntKind.i64.wrap (IntKind.i64.wrap (v3 * v3) * IntKind.i64.wrap (v12 - v6)))), I 1, I (IntKind.i64.wrap (v1 * v1)), I 2]).bind fun o14 =>
 bif decide (0 <= v3) && decide (v3 < (v0.length : Int)) then
 bif decide (0 <= v3) && decide (v3 < (v0.length : Int)) then
 some (0, [.view kPt ((((v0.set v3.toNat [I v4, I v5, I v6]).set v3.toNat [I (IntKind.i64.wrap (Qav (nth .dead (nth [] (v0.set v3.toNat [I v4, I v5, I v6]) v3.toNat) 0) + gA o12 0)), I (Qav (nth .dead (nth [] (v0.set v3.toNat [I v4, I v5, I v6]) v3.toNat) 1)), I (Qav (nth .dead (nth [] (v0.set v3.toNat [I v4, I v5, I v6]) v3.toNat) 2))]).set v3.toNat [I (Qav (nth .dead (nth [] ((v0.set v3.toNat [I v4, I v5, I v6]).set v3.toNat [I (IntKind.i64.wrap (Qav (nth .dead (nth [] (v0.set v3.toNat [I v4, I v5, I v6]) v3.toNat) 0) + gA o12 0)), I (Qav (nth .dead (nth [] (v0.set v3.toNat [I v4, I v5, I v6]) v3.toNat) 1)), I (Qav (nth .dead (nth [] (v0.set v3.toNat [I v4, I v5, I v6]) v3.toNat) 2))]) v3.toNat) 0)), I (IntKind.i64.wrap (Qav (nth .dead (nth [] ((v0.set v3.toNat [I v4, I v5, I v6]).set v3.toNat [I (IntKind.i64.wrap (Qav (nth .dead (nth [] (v0.set v3.toNat [I v4, I v5, I v6]) v3.toNat) 0) + gA o12 0)), I (Qav (nth .dead (nth [] (v0.set v3.toNat [I v4, I v5, I v6]) v3.toNat) 1)), I (Qav (nth .dead (nth [] (v0.set v3.toNat [I v4, I v5, I v6]) v3.toNat) 2))]) v3.toNat) 1) + gA o13 0)), I (Qav (nth .dead (nth [] ((v0.set v3.toNat [I v4, I v5, I v6]).set v3.toNat [I (IntKind.i64.wrap (Qav (nth .dead (nth [] (v0.set v3.toNat [I v4, I v5, I v6]) v3.toNat) 0) + gA o12 0)), I (Qav (nth .dead (nth [] (v0.set v3.toNat [I v4, I v5, I v6]) v3.toNat) 1)), I (Qav (nth .dead (nth [] (v0.set v3.toNat [I v4, I v5, I v6]) v3.toNat) 2))]) v3.toNat) 2))]).set v3.toNat [I (Qav (nth .dead (nth [] (((v0.set v3.toNat [I v4, I v5, I v6]).set v3.toNat [I (IntKind.i64.wrap (Qav (nth .dead (nth [] (v0.set v3.toNat [I v4, I v5, I v6]) v3.toNat) 0) + gA o12 0)), I (Qav (nth .dead (nth [] (v0.set v3.toNat [I v4, I v5, I v6]) v3.toNat) 1)), I (Qav (nth .dead (nth [] (v0.set v3.toNat [I v4, I v5, I v6]) v3.toNat) 2))]).set v3.toNat [I (Qav (nth .dead (nth [] ((v0.set v3.toNat [I v4, I v5, I v6]).set v3.toNat [I (IntKind.i64.wrap (Qav (nth .dead (nth [] (v0.set v3.toNat [I v4, I v5, I v6]) v3.toNat) 0) + gA o12 0)), I (Qav (nth .dead (nth [] (v0.set v3.toNat [I v4, I v5, I v6]) v3.toNat) 1)), I (Qav (nth .dead (nth [] (v0.set v3.toNat [I v4, I v5, I v6]) v3.toNat) 2))]) v3.toNat) 0)), I (IntKind.i64.wrap (Qav (nth .dead (nth [] ((v0.set v3.toNat [I v4, I v5, I v6]).set v3.toNat [I (IntKind.i64.wrap (Qav (nth .dead (nth [] (v0.set v3.toNat [I v4, I v5, I v6]) v3.toNat) 0) + gA o12 0)), I (Qav (nth .dead (nth [] (v0.set v3.toNat [I v4, I v5, I v6]) v3.toNat) 1)), I (Qav (nth .dead (nth [] (v0.set v3.toNat [I v4, I v5, I v6]) v3.toNat) 2))]) v3.toNat) 1) + gA o13 0)), I (Qav (nth .dead (nth [] ((v0.set v3.toNat [I v4, I v5, I v6]).set v3.toNat [I (IntKind.i64.wrap (Qav (nth .dead (nth [] (v0.set v3.toNat [I v4, I v5, I v6]) v3.toNat) 0) + gA o12 0)), I (Qav (nth .dead (nth [] (v0.set v3.toNat [I v4, I v5, I v6]) v3.toNat) 1)), I (Qav (nth .dead (nth [] (v0.set v3.toNat [I v4, I v5, I v6]) v3.toNat) 2))]) v3.toNat) 2))]) v3.toNat) 0)), I (Qav (nth .dead (nth [] (((v0.set v3.toNat [I v4, I v5, I v6]).set v3.toNat [I (IntKind.i64.wrap (Qav (nth .dead (nth [] (v0.set v3.toNat [I v4, I v5, I v6]) v3.toNat) 0) + gA o12 0)), I (Qav (nth .dead (nth [] (v0.set v3.toNat [I v4, I v5, I v6]) v3.toNat) 1)), I (Qav (nth .dead (nth [] (v0.set v3.toNat [I v4, I v5, I v6]) v3.toNat) 2))]).set v3.toNat [I (Qav (nth .dead (nth [] ((v0.set v3.toNat [I v4, I v5, I v6]).set v3.toNat [I (IntKind.i64.wrap (Qav (nth .dead (nth [] (v0.set v3.toNat [I v4, I v5, I v6]) v3.toNat) 0) + gA o12 0)), I (Qav (nth .dead (nth [] (v0.set v3.toNat [I v4, I v5, I v6]) v3.toNat) 1)), I (Qav (nth .dead (nth [] (v0.set v3.toNat [I v4, I v5, I v6]) v3.toNat) 2))]) v3.toNat) 0)), I (IntKind.i64.wrap (Qav (nth .dead (nth [] ((v0.set v3.toNat [I v4, I v5, I v6]).set v3.toNat [I (IntKind.i64.wrap (Qav (nth .dead (nth [] (v0.set v3.toNat [I v4, I v5, I v6]) v3.toNat) 0) + gA o12 0)), I (Qav (nth .dead (nth [] (v0.set v3.toNat [I v4, I v5, I v6]) v3.toNat) 1)), I (Qav (nth .dead (nth [] (v0.set v3.toNat [I v4, I v5, I v6]) v3.toNat) 2))]) v3.toNat) 1) + gA o13 0)), I (Qav (nth .dead (nth [] ((v0.set v3.toNat [I v4, I v5, I v6]).set v3.toNat [I (IntKind.i64.wrap (Qav (nth .dead (nth [] (v0.set v3.toNat [I v4, I v5, I v6]) v3.toNat) 0) + gA o12 0)), I (Qav (nth .dead (nth [] (v0.set v3.toNat [I v4, I v5, I v6]) v3.toNat) 1)), I (Qav (nth .dead (nth [] (v0.set v3.toNat [I v4, I v5, I v6]) v3.toNat) 2))]) v3.toNat) 2))]) v3.toNat) 1)), I (IntKind.i64.wrap (Qav (nth .dead (nth [] (((v0.set v3.toNat [I v4, I v5, I v6]).set v3.toNat [I (IntKind.i64.wrap (Qav (nth .dead (nth [] (v0.set v3.toNat [I v4, I v5, I v6]) v3.toNat) 0) + gA o12 0)), I (Qav (nth .dead (nth [] (v0.set v3.toNat [I v4, I v5, I v6]) v3.toNat) 1)), I (Qav (nth .dead (nth [] (v0.set v3.toNat [I v4, I v5, I v6]) v3.toNat) 2))]).set v3.toNat [I (Qav (nth .dead (nth [] ((v0.set v3.toNat [I v4, I v5, I v6]).set v3.toNat [I (IntKind.i64.wrap (Qav (nth .dead (nth [] (v0.set v3.toNat [I v4, I v5, I v6]) v3.toNat) 0) + gA o12 0)), I (Qav (nth .dead (nth [] (v0.set v3.toNat [I v4, I v5, I v6]) v3.toNat) 1)), I (Qav (nth .dead (nth [] (v0.set v3.toNat [I v4, I v5, I v6]) v3.toNat) 2))]) v3.toNat) 0)), I (IntKind.i64.wrap (Qav (nth .dead (nth [] ((v0.set v3.toNat [I v4, I v5, I v6]).set v3.toNat [I (IntKind.i64.wrap (Qav (nth .dead (nth [] (v0.set v3.toNat [I v4, I v5, I v6]) v3.toNat) 0) + gA o12 0)), I (Qav (nth .dead (nth [] (v0.set v3.toNat [I v4, I v5, I v6]) v3.toNat) 1)), I (Qav (nth .dead (nth [] (v0.set v3.toNat [I v4, I v5, I v6]) v3.toNat) 2))]) v3.toNat) 1) + gA o13 0)), I (Qav (nth .dead (nth [] ((v0.set v3.toNat [I v4, I v5, I v6]).set v3.toNat [I (IntKind.i64.wrap (Qav (nth .dead (nth [] (v0.set v3.toNat [I v4, I v5, I v6]) v3.toNat) 0) + gA o12 0)), I (Qav (nth .dead (nth [] (v0.set v3.toNat [I v4, I v5, I v6]) v3.toNat) 1)), I (Qav (nth .dead (nth [] (v0.set v3.toNat [I v4, I v5, I v6]) v3.toNat) 2))]) v3.toNat) 2))]) v3.toNat) 2) + gA o14 0))]), I v1, I v2, I (IntKind.i64.wrap (v3 + 1)), I v4, I v5, I v6, I v7, I v8, I v9, I v10, I v11, I v12])
 else
 none
 else
 none
 else
 none
 else
 none
 else
 none
 else
 none
 else
 none
 else
 some (1, [.view kPt v0]) := by kernel_rfl
theorem mf_blend_Corner_eq (Qam Qdc Qar Qdt : Fn) (N9 : Lp) (x0 x1 x2 x3 x4 x5 x6 x7 x8 x9 : Int) : mf_blend_Corner Qam Qdc Qar Qdt N9 [I x0, I x1, I x2, I x3, I x4, I x5, I x6, I x7, I x8, I x9] =
 (Qdt [I x0, I x1, I x2, I x3, I x4, I x5, I x6, I x7, I x8, I x9]).bind fun o15 =>
 bif gA o15 0 == 0 then
 some [.view kPt [[I x3, I x4, I x5]]]
 else
 (Qar [I x3, I x4, I x5, I x0, I x1, I x2, jA o15 0]).bind fun o16 =>
 (Qar [I x3, I x4, I x5, I x6, I x7, I x8, jA o15 0]).bind fun o17 =>
 (Qdc [jA o16 0, jA o16 1, jA o16 2, I x3, I x4, I x5, jA o17 0, jA o17 1, jA o17 2]).bind fun o18 =>
 bif decide (IntKind.i64.wrap (gA o18 0 + 1) = IntKind.i64.wrap (gA o18 0 + 1)) then
 bif decide (0 <= IntKind.i64.wrap (gA o18 0 + 1)) && decide (IntKind.i64.wrap (gA o18 0 + 1) * (↑24 : Int) <= 140737488355328) then
 (N9 [.view kPt (List.replicate (IntKind.i64.wrap (gA o18 0 + 1)).toNat [I 0, I 0, I 0]), jA o18 0, I (↑(List.replicate (IntKind.i64.wrap (gA o18 0 + 1)).toNat [I 0, I 0, I 0]).length : Int), I 0, I x3, I x4, I x5, jA o16 0, jA o16 1, jA o16 2, jA o17 0, jA o17 1, jA o17 2]).bind fun o19 =>
 bif o19.1.beq 1 then
 some [.view kPt (wA o19.2 0)]
 else
 none
 else
 none
 else
 none := by kernel_rfl
def l_blend_Corner_9 := Qb1 (Qfh Qb6 Qe7 Qc9 Qhi )
def Qk9 := mf_blend_Corner Qb6 Qe7 Qc9 Qhi l_blend_Corner_9
theorem sp_blend_Corner : Qan Try.prog (C_blend_Corner_0 Qb6 Qe7 Qc9 Qhi) := Qad rfl ⟨r_wide_MulDiv, r_blend_Pieces, r_blend_Toward, r_blend_Reach, trivial⟩
theorem r_blend_Corner : Qbv Try.prog (185, spOf sig_blend_Corner osig_blend_Corner Qk9) := Qa7 (C := (C_blend_Corner_1 Qb6 Qe7 Qc9 Qhi l_blend_Corner_9)) (L := 64) (by kernel_rfl) ((FnOK.bare rfl rfl rfl).loop sp_blend_Corner eqOk Qbo (by kernel_rfl) (by kernel_rfl)) sp_blend_Corner eqOk Qbo (by kernel_rfl) (by kernel_rfl)
def sig_path_scaled : Sk := { tmps := [TS.v true [ci, ci, ci]], boxes := [], rows := [] }
def osig_path_scaled : Sk := { tmps := [TS.v true [ci, ci, ci]], boxes := [], rows := [] }
def C_path_scaled_0 : Cfg := { spec := Qbq [], eqOk := Qbw, ownOff := ownOff }
def mf_path_scaled : Fn := Qat Try.prog C_path_scaled_0 64 186 sig_path_scaled osig_path_scaled
theorem mf_path_scaled_eq (x0 x1 x2 : Int) : mf_path_scaled [I x0, I x1, I x2] =
 some [I (IntKind.i64.wrap (x0 * 16)), I (IntKind.i64.wrap (x1 * 16)), I (IntKind.i64.wrap (x2 * 16))] := by kernel_rfl
def Qj1 := mf_path_scaled 
theorem sp_path_scaled : Qan Try.prog (C_path_scaled_0 ) := Qad rfl trivial
theorem r_path_scaled : Qbv Try.prog (186, spOf sig_path_scaled osig_path_scaled Qj1) := Qa7 (C := C_path_scaled_0) (L := 64) (by kernel_rfl) (FnOK.bare rfl rfl rfl) sp_path_scaled eqOk Qbo (by kernel_rfl) (by kernel_rfl)
def sig_path_corner : Sk := { tmps := [TS.v true [ci, ci, ci, ci, ci, ci, ci, ci, ci, ci, ci, ci, ci, CS.bool, ci, CS.bool, ci, ci, ci, ci, ci, CS.bool], TS.v true [ci, ci, ci, ci, ci, ci, ci, ci, ci, ci, ci, ci, ci, CS.bool, ci, CS.bool, ci, ci, ci, ci, ci, CS.bool]], boxes := [], rows := [] }
def osig_path_corner : Sk := { tmps := [TS.tup [(false, [CS.sl kPt]), (false, [CS.sl kPt])]], boxes := [], rows := [] }
def C_path_corner_0 (Qie Qj7 Qaq : Fn) : Cfg := { spec := Qbq [(185, spOf sig_blend_Corner osig_blend_Corner Qie), (186, spOf sig_path_scaled osig_path_scaled Qj7), (162, spOf Qje Qh2 Qaq)], eqOk := Qbw, ownOff := ownOff }
def mf_path_corner (Qie Qj7 Qaq : Fn) : Fn := Qat Try.prog (C_path_corner_0 Qie Qj7 Qaq) 64 176 sig_path_corner osig_path_corner
theorem mf_path_corner_eq (Qie Qj7 Qaq : Fn) (x0 x1 x2 x3 x4 x5 x6 x7 x8 x9 x10 x11 x12 : Int) (x13 : Bool) (x14 : Int) (x15 : Bool) (x16 x17 x18 x19 x20 : Int) (x21 : Bool) (x22 x23 x24 x25 x26 x27 x28 x29 x30 x31 x32 x33 x34 : Int) (x35 : Bool) (x36 : Int) (x37 : Bool) (x38 x39 x40 x41 x42 : Int) (x43 : Bool) : mf_path_corner Qie Qj7 Qaq [I x0, I x1, I x2, I x3, I x4, I x5, I x6, I x7, I x8, I x9, I x10, I x11, I x12, B x13, I x14, B x15, I x16, I x17, I x18, I x19, I x20, B x21, I x22, I x23, I x24, I x25, I x26, I x27, I x28, I x29, I x30, I x31, I x32, I x33, I x34, B x35, I x36, B x37, I x38, I x39, I x40, I x41, I x42, B x43] =
 (Qaq [I x0, I x1, I x2, I x3, I x4, I x5, I x6, I x7, I x8, I x9, I x10, I x11, I x12, B x13, I x14, B x15, I x16, I x17, I x18, I x19, I x20, B x21]).bind fun o4 =>
 (Qj7 [I x5, I x6, I x7]).bind fun o5 =>
 (Qaq [I x22, I x23, I x24, I x25, I x26, I x27, I x28, I x29, I x30, I x31, I x32, I x33, I x34, B x35, I x36, B x37, I x38, I x39, I x40, I x41, I x42, B x43]).bind fun o6 =>
 (Qie [jA o4 0, jA o4 1, jA o4 2, jA o5 0, jA o5 1, jA o5 2, jA o6 0, jA o6 1, jA o6 2, I (IntKind.i64.wrap (x18 * 16))]).bind fun o7 =>
 bif decide (0 <= IntKind.i64.wrap (IntKind.i64.wrap ((IntKind.i64.wrap ((↑(wA o7 0).length : Int) - 1)).tdiv 2) + 1)) && decide (IntKind.i64.wrap (IntKind.i64.wrap ((IntKind.i64.wrap ((↑(wA o7 0).length : Int) - 1)).tdiv 2) + 1) <= (↑(wA o7 0).length : Int)) then
 bif decide (0 <= IntKind.i64.wrap ((IntKind.i64.wrap ((↑(wA o7 0).length : Int) - 1)).tdiv 2)) && decide (IntKind.i64.wrap ((IntKind.i64.wrap ((↑(wA o7 0).length : Int) - 1)).tdiv 2) <= (↑(wA o7 0).length : Int)) then
 some [.view kPt (List.take (IntKind.i64.wrap (IntKind.i64.wrap ((IntKind.i64.wrap ((↑(wA o7 0).length : Int) - 1)).tdiv 2) + 1)).toNat (wA o7 0)), .view kPt (List.drop (IntKind.i64.wrap ((IntKind.i64.wrap ((↑(wA o7 0).length : Int) - 1)).tdiv 2)).toNat (wA o7 0))]
 else
 none
 else
 none := by kernel_rfl
def m_path_corner := mf_path_corner Qk9 Qj1 Qde 
theorem sp_path_corner : Qan Try.prog (C_path_corner_0 Qk9 Qj1 Qde) := Qad rfl ⟨r_blend_Corner, r_path_scaled, r_path_middle, trivial⟩
theorem r_path_corner : Qbv Try.prog (176, spOf sig_path_corner osig_path_corner m_path_corner) := Qa7 (C := (C_path_corner_0 Qk9 Qj1 Qde)) (L := 64) (by kernel_rfl) (FnOK.bare rfl rfl rfl) sp_path_corner eqOk Qbo (by kernel_rfl) (by kernel_rfl)
def sig_path_points : Sk := { tmps := [tf [CS.sl kItm], tf [ci], tf [ci]], boxes := [], rows := [] }
def osig_path_points : Sk := { tmps := [tf [CS.sl kPt]], boxes := [], rows := [] }
def C_path_points_0 (Qaq Qap Qa4 Qgc Qaw Qif : Fn) : Cfg := { spec := Qbq [(162, spOf Qje Qh2 Qaq), (139, spOf Qoq Qk1 Qap), (138, spOf sig_path_soft osig_path_soft Qa4), (176, spOf sig_path_corner osig_path_corner Qgc), (102, spOf Qji Qh4 Qaw), (41, spOf sig_curve_Chords osig_curve_Chords Qif)], eqOk := Qbw, ownOff := ownOff }
def mf_path_points (Qaq Qap Qa4 Qgc Qaw Qif : Fn) : Fn := Qat Try.prog (C_path_points_0 Qaq Qap Qa4 Qgc Qaw Qif) 64 160 sig_path_points osig_path_points
theorem mf_path_points_eq (Qaq Qap Qa4 Qgc Qaw Qif : Fn) (x0 : Rw) (x1 x2 : Int) : mf_path_points Qaq Qap Qa4 Qgc Qaw Qif [.view kItm x0, I x1, I x2] =
 bif decide (0 <= x1) && decide (x1 < (x0.length : Int)) then
 (Qif [jA (nth [] x0 x1.toNat) 0, jA (nth [] x0 x1.toNat) 1, jA (nth [] x0 x1.toNat) 2, jA (nth [] x0 x1.toNat) 3, jA (nth [] x0 x1.toNat) 4, jA (nth [] x0 x1.toNat) 5, jA (nth [] x0 x1.toNat) 6, jA (nth [] x0 x1.toNat) 7, jA (nth [] x0 x1.toNat) 8, jA (nth [] x0 x1.toNat) 9, jA (nth [] x0 x1.toNat) 10, jA (nth [] x0 x1.toNat) 11, jA (nth [] x0 x1.toNat) 12, B (bA (nth [] x0 x1.toNat) 13), jA (nth [] x0 x1.toNat) 14, B (bA (nth [] x0 x1.toNat) 15), jA (nth [] x0 x1.toNat) 16, jA (nth [] x0 x1.toNat) 17, jA (nth [] x0 x1.toNat) 18, jA (nth [] x0 x1.toNat) 19, jA (nth [] x0 x1.toNat) 20, B (bA (nth [] x0 x1.toNat) 21)]).bind fun o13 =>
 (Qaw [jA (nth [] x0 x1.toNat) 0, jA (nth [] x0 x1.toNat) 1, jA (nth [] x0 x1.toNat) 2, jA (nth [] x0 x1.toNat) 3, jA (nth [] x0 x1.toNat) 4, jA (nth [] x0 x1.toNat) 5, jA (nth [] x0 x1.toNat) 6, jA (nth [] x0 x1.toNat) 7, jA (nth [] x0 x1.toNat) 8, jA (nth [] x0 x1.toNat) 9, jA (nth [] x0 x1.toNat) 10, jA (nth [] x0 x1.toNat) 11, jA (nth [] x0 x1.toNat) 12, B (bA (nth [] x0 x1.toNat) 13), jA (nth [] x0 x1.toNat) 14, B (bA (nth [] x0 x1.toNat) 15), jA (nth [] x0 x1.toNat) 16, jA (nth [] x0 x1.toNat) 17, jA (nth [] x0 x1.toNat) 18, jA (nth [] x0 x1.toNat) 19, jA (nth [] x0 x1.toNat) 20, B (bA (nth [] x0 x1.toNat) 21)]).bind fun o14 =>
 bif !bA o14 0 then
 some [.view kPt (wA o13 0)]
 else
 bif decide (0 <= 1) && decide (1 <= (↑(wA o13 0).length : Int)) then
 bif decide (0 <= IntKind.i64.wrap ((↑(wA o13 0).length : Int) - 1)) && decide (IntKind.i64.wrap ((↑(wA o13 0).length : Int) - 1) <= (↑(wA o13 0).length : Int)) then
 bif decide (x2 >= 0) then
 bif decide (0 <= x2) && decide (x2 < (x0.length : Int)) then
 (Qgc [jA (nth [] x0 x2.toNat) 0, jA (nth [] x0 x2.toNat) 1, jA (nth [] x0 x2.toNat) 2, jA (nth [] x0 x2.toNat) 3, jA (nth [] x0 x2.toNat) 4, jA (nth [] x0 x2.toNat) 5, jA (nth [] x0 x2.toNat) 6, jA (nth [] x0 x2.toNat) 7, jA (nth [] x0 x2.toNat) 8, jA (nth [] x0 x2.toNat) 9, jA (nth [] x0 x2.toNat) 10, jA (nth [] x0 x2.toNat) 11, jA (nth [] x0 x2.toNat) 12, B (bA (nth [] x0 x2.toNat) 13), jA (nth [] x0 x2.toNat) 14, B (bA (nth [] x0 x2.toNat) 15), jA (nth [] x0 x2.toNat) 16, jA (nth [] x0 x2.toNat) 17, jA (nth [] x0 x2.toNat) 18, jA (nth [] x0 x2.toNat) 19, jA (nth [] x0 x2.toNat) 20, B (bA (nth [] x0 x2.toNat) 21), jA (nth [] x0 x1.toNat) 0, jA (nth [] x0 x1.toNat) 1, jA (nth [] x0 x1.toNat) 2, jA (nth [] x0 x1.toNat) 3, jA (nth [] x0 x1.toNat) 4, jA (nth [] x0 x1.toNat) 5, jA (nth [] x0 x1.toNat) 6, jA (nth [] x0 x1.toNat) 7, jA (nth [] x0 x1.toNat) 8, jA (nth [] x0 x1.toNat) 9, jA (nth [] x0 x1.toNat) 10, jA (nth [] x0 x1.toNat) 11, jA (nth [] x0 x1.toNat) 12, B (bA (nth [] x0 x1.toNat) 13), jA (nth [] x0 x1.toNat) 14, B (bA (nth [] x0 x1.toNat) 15), jA (nth [] x0 x1.toNat) 16, jA (nth [] x0 x1.toNat) 17, jA (nth [] x0 x1.toNat) 18, jA (nth [] x0 x1.toNat) 19, jA (nth [] x0 x1.toNat) 20, B (bA (nth [] x0 x1.toNat) 21)]).bind fun o15 =>
 (Qa4 [.view kItm x0, I x1]).bind fun o16 =>
 bif bA o16 0 then
 (Qap [.view kItm x0, I x1]).bind fun o17 =>
 bif decide (0 <= gA o17 0) && decide (gA o17 0 < (x0.length : Int)) then
 (Qgc [jA (nth [] x0 x1.toNat) 0, jA (nth [] x0 x1.toNat) 1, jA (nth [] x0 x1.toNat) 2, jA (nth [] x0 x1.toNat) 3, jA (nth [] x0 x1.toNat) 4, jA (nth [] x0 x1.toNat) 5, jA (nth [] x0 x1.toNat) 6, jA (nth [] x0 x1.toNat) 7, jA (nth [] x0 x1.toNat) 8, jA (nth [] x0 x1.toNat) 9, jA (nth [] x0 x1.toNat) 10, jA (nth [] x0 x1.toNat) 11, jA (nth [] x0 x1.toNat) 12, B (bA (nth [] x0 x1.toNat) 13), jA (nth [] x0 x1.toNat) 14, B (bA (nth [] x0 x1.toNat) 15), jA (nth [] x0 x1.toNat) 16, jA (nth [] x0 x1.toNat) 17, jA (nth [] x0 x1.toNat) 18, jA (nth [] x0 x1.toNat) 19, jA (nth [] x0 x1.toNat) 20, B (bA (nth [] x0 x1.toNat) 21), jA (nth [] x0 (gA o17 0).toNat) 0, jA (nth [] x0 (gA o17 0).toNat) 1, jA (nth [] x0 (gA o17 0).toNat) 2, jA (nth [] x0 (gA o17 0).toNat) 3, jA (nth [] x0 (gA o17 0).toNat) 4, jA (nth [] x0 (gA o17 0).toNat) 5, jA (nth [] x0 (gA o17 0).toNat) 6, jA (nth [] x0 (gA o17 0).toNat) 7, jA (nth [] x0 (gA o17 0).toNat) 8, jA (nth [] x0 (gA o17 0).toNat) 9, jA (nth [] x0 (gA o17 0).toNat) 10, jA (nth [] x0 (gA o17 0).toNat) 11, jA (nth [] x0 (gA o17 0).toNat) 12, B (bA (nth [] x0 (gA o17 0).toNat) 13), jA (nth [] x0 (gA o17 0).toNat) 14, B (bA (nth [] x0 (gA o17 0).toNat) 15), jA (nth [] x0 (gA o17 0).toNat) 16, jA (nth [] x0 (gA o17 0).toNat) 17, jA (nth [] x0 (gA o17 0).toNat) 18, jA (nth [] x0 (gA o17 0).toNat) 19, jA (nth [] x0 (gA o17 0).toNat) 20, B (bA (nth [] x0 (gA o17 0).toNat) 21)]).bind fun o18 =>
 bif (([] ++ wA o15 1).length * 24).ble 140737488355328 then
 (Qaq [jA (nth [] x0 x1.toNat) 0, jA (nth [] x0 x1.toNat) 1, jA (nth [] x0 x1.toNat) 2, jA (nth [] x0 x1.toNat) 3, jA (nth [] x0 x1.toNat) 4, jA (nth [] x0 x1.toNat) 5, jA (nth [] x0 x1.toNat) 6, jA (nth [] x0 x1.toNat) 7, jA (nth [] x0 x1.toNat) 8, jA (nth [] x0 x1.toNat) 9, jA (nth [] x0 x1.toNat) 10, jA (nth [] x0 x1.toNat) 11, jA (nth [] x0 x1.toNat) 12, B (bA (nth [] x0 x1.toNat) 13), jA (nth [] x0 x1.toNat) 14, B (bA (nth [] x0 x1.toNat) 15), jA (nth [] x0 x1.toNat) 16, jA (nth [] x0 x1.toNat) 17, jA (nth [] x0 x1.toNat) 18, jA (nth [] x0 x1.toNat) 19, jA (nth [] x0 x1.toNat) 20, B (bA (nth [] x0 x1.toNat) 21)]).bind fun o19 =>
 bif (([] ++ wA o15 1 ++ [[jA o19 0, jA o19 1, jA o19 2]]).length * 24).ble 140737488355328 then
 bif (([] ++ wA o15 1 ++ [[jA o19 0, jA o19 1, jA o19 2]] ++ wA o18 0).length * 24).ble 140737488355328 then
 some [.view kPt ([] ++ wA o15 1 ++ [[jA o19 0, jA o19 1, jA o19 2]] ++ wA o18 0)]
 else
 none
 else
 none
 else
 none
 else
 none
 else
 bif (([] ++ wA o15 1).length * 24).ble 140737488355328 then
 (Qaq [jA (nth [] x0 x1.toNat) 0, jA (nth [] x0 x1.toNat) 1, jA (nth [] x0 x1.toNat) 2, jA (nth [] x0 x1.toNat) 3, jA (nth [] x0 x1.toNat) 4, jA (nth [] x0 x1.toNat) 5, jA (nth [] x0 x1.toNat) 6, jA (nth [] x0 x1.toNat) 7, jA (nth [] x0 x1.toNat) 8, jA (nth [] x0 x1.toNat) 9, jA (nth [] x0 x1.toNat) 10, jA (nth [] x0 x1.toNat) 11, jA (nth [] x0 x1.toNat) 12, B (bA (nth [] x0 x1.toNat) 13), jA (nth [] x0 x1.toNat) 14, B (bA (nth [] x0 x1.toNat) 15), jA (nth [] x0 x1.toNat) 16, jA (nth [] x0 x1.toNat) 17, jA (nth [] x0 x1.toNat) 18, jA (nth [] x0 x1.toNat) 19, jA (nth [] x0 x1.toNat) 20, B (bA (nth [] x0 x1.toNat) 21)]).bind fun o20 =>
 bif (([] ++ wA o15 1 ++ [[jA o20 0, jA o20 1, jA o20 2]]).length * 24).ble 140737488355328 then
 bif (([] ++ wA o15 1 ++ [[jA o20 0, jA o20 1, jA o20 2]] ++ List.drop (IntKind.i64.wrap ((↑(wA o13 0).length : Int) - 1)).toNat (wA o13 0)).length * 24).ble 140737488355328 then
 some [.view kPt ([] ++ wA o15 1 ++ [[jA o20 0, jA o20 1, jA o20 2]] ++ List.drop (IntKind.i64.wrap ((↑(wA o13 0).length : Int) - 1)).toNat (wA o13 0))]
 else
 none
 else
 none
 else
 none
 else
 none
 else
 (Qa4 [.view kItm x0, I x1]).bind fun o21 =>
 bif bA o21 0 then
 (Qap [.view kItm x0, I x1]).bind fun o22 =>
 bif decide (0 <= gA o22 0) && decide (gA o22 0 < (x0.length : Int)) then
 (Qgc [jA (nth [] x0 x1.toNat) 0, jA (nth [] x0 x1.toNat) 1, jA (nth [] x0 x1.toNat) 2, jA (nth [] x0 x1.toNat) 3, jA (nth [] x0 x1.toNat) 4, jA (nth [] x0 x1.toNat) 5, jA (nth [] x0 x1.toNat) 6, jA (nth [] x0 x1.toNat) 7, jA (nth [] x0 x1.toNat) 8, jA (nth [] x0 x1.toNat) 9, jA (nth [] x0 x1.toNat) 10, jA (nth [] x0 x1.toNat) 11, jA (nth [] x0 x1.toNat) 12, B (bA (nth [] x0 x1.toNat) 13), jA (nth [] x0 x1.toNat) 14, B (bA (nth [] x0 x1.toNat) 15), jA (nth [] x0 x1.toNat) 16, jA (nth [] x0 x1.toNat) 17, jA (nth [] x0 x1.toNat) 18, jA (nth [] x0 x1.toNat) 19, jA (nth [] x0 x1.toNat) 20, B (bA (nth [] x0 x1.toNat) 21), jA (nth [] x0 (gA o22 0).toNat) 0, jA (nth [] x0 (gA o22 0).toNat) 1, jA (nth [] x0 (gA o22 0).toNat) 2, jA (nth [] x0 (gA o22 0).toNat) 3, jA (nth [] x0 (gA o22 0).toNat) 4, jA (nth [] x0 (gA o22 0).toNat) 5, jA (nth [] x0 (gA o22 0).toNat) 6, jA (nth [] x0 (gA o22 0).toNat) 7, jA (nth [] x0 (gA o22 0).toNat) 8, jA (nth [] x0 (gA o22 0).toNat) 9, jA (nth [] x0 (gA o22 0).toNat) 10, jA (nth [] x0 (gA o22 0).toNat) 11, jA (nth [] x0 (gA o22 0).toNat) 12, B (bA (nth [] x0 (gA o22 0).toNat) 13), jA (nth [] x0 (gA o22 0).toNat) 14, B (bA (nth [] x0 (gA o22 0).toNat) 15), jA (nth [] x0 (gA o22 0).toNat) 16, jA (nth [] x0 (gA o22 0).toNat) 17, jA (nth [] x0 (gA o22 0).toNat) 18, jA (nth [] x0 (gA o22 0).toNat) 19, jA (nth [] x0 (gA o22 0).toNat) 20, B (bA (nth [] x0 (gA o22 0).toNat) 21)]).bind fun o23 =>
 bif (([] ++ List.take (Int.toNat 1) (wA o13 0)).length * 24).ble 140737488355328 then
 (Qaq [jA (nth [] x0 x1.toNat) 0, jA (nth [] x0 x1.toNat) 1, jA (nth [] x0 x1.toNat) 2, jA (nth [] x0 x1.toNat) 3, jA (nth [] x0 x1.toNat) 4, jA (nth [] x0 x1.toNat) 5, jA (nth [] x0 x1.toNat) 6, jA (nth [] x0 x1.toNat) 7, jA (nth [] x0 x1.toNat) 8, jA (nth [] x0 x1.toNat) 9, jA (nth [] x0 x1.toNat) 10, jA (nth [] x0 x1.toNat) 11, jA (nth [] x0 x1.toNat) 12, B (bA (nth [] x0 x1.toNat) 13), jA (nth [] x0 x1.toNat) 14, B (bA (nth [] x0 x1.toNat) 15), jA (nth [] x0 x1.toNat) 16, jA (nth [] x0 x1.toNat) 17, jA (nth [] x0 x1.toNat) 18, jA (nth [] x0 x1.toNat) 19, jA (nth [] x0 x1.toNat) 20, B (bA (nth [] x0 x1.toNat) 21)]).bind fun o24 =>
 bif (([] ++ List.take (Int.toNat 1) (wA o13 0) ++ [[jA o24 0, jA o24 1, jA o24 2]]).length * 24).ble 140737488355328 then
 bif (([] ++ List.take (Int.toNat 1) (wA o13 0) ++ [[jA o24 0, jA o24 1, jA o24 2]] ++ wA o23 0).length * 24).ble 140737488355328 then
 some [.view kPt ([] ++ List.take (Int.toNat 1) (wA o13 0) ++ [[jA o24 0, jA o24 1, jA o24 2]] ++ wA o23 0)]
 else
 none
 else
 none
 else
 none
 else
 none
 else
 bif (([] ++ List.take (Int.toNat 1) (wA o13 0)).length * 24).ble 140737488355328 then
 (Qaq [jA (nth [] x0 x1.toNat) 0, jA (nth [] x0 x1.toNat) 1, jA (nth [] x0 x1.toNat) 2, jA (nth [] x0 x1.toNat) 3, jA (nth [] x0 x1.toNat) 4, jA (nth [] x0 x1.toNat) 5, jA (nth [] x0 x1.toNat) 6, jA (nth [] x0 x1.toNat) 7, jA (nth [] x0 x1.toNat) 8, jA (nth [] x0 x1.toNat) 9, jA (nth [] x0 x1.toNat) 10, jA (nth [] x0 x1.toNat) 11, jA (nth [] x0 x1.toNat) 12, B (bA (nth [] x0 x1.toNat) 13), jA (nth [] x0 x1.toNat) 14, B (bA (nth [] x0 x1.toNat) 15), jA (nth [] x0 x1.toNat) 16, jA (nth [] x0 x1.toNat) 17, jA (nth [] x0 x1.toNat) 18, jA (nth [] x0 x1.toNat) 19, jA (nth [] x0 x1.toNat) 20, B (bA (nth [] x0 x1.toNat) 21)]).bind fun o25 =>
 bif (([] ++ List.take (Int.toNat 1) (wA o13 0) ++ [[jA o25 0, jA o25 1, jA o25 2]]).length * 24).ble 140737488355328 then
 bif (([] ++ List.take (Int.toNat 1) (wA o13 0) ++ [[jA o25 0, jA o25 1, jA o25 2]] ++ List.drop (IntKind.i64.wrap ((↑(wA o13 0).length : Int) - 1)).toNat (wA o13 0)).length * 24).ble 140737488355328 then
 some [.view kPt ([] ++ List.take (Int.toNat 1) (wA o13 0) ++ [[jA o25 0, jA o25 1, jA o25 2]] ++ List.drop (IntKind.i64.wrap ((↑(wA o13 0).length : Int) - 1)).toNat (wA o13 0))]
 else
 none
 else
 none
 else
 none
 else
 none
 else
 none
 else
 none := by kernel_rfl
def Qj6 := mf_path_points Qde Qdz Qet m_path_corner Qdf Qk7 
theorem sp_path_points : Qan Try.prog (C_path_points_0 Qde Qdz Qet m_path_corner Qdf Qk7) := Qad rfl ⟨r_path_middle, r_path_next, r_path_soft, r_path_corner, r_path_smooth, r_curve_Chords, trivial⟩
theorem r_path_points : Qbv Try.prog (160, spOf sig_path_points osig_path_points Qj6) := Qa7 (C := (C_path_points_0 Qde Qdz Qet m_path_corner Qdf Qk7)) (L := 64) (by kernel_rfl) (FnOK.bare rfl rfl rfl) sp_path_points eqOk Qbo (by kernel_rfl) (by kernel_rfl)
def sig_path_Rate : Sk := { tmps := [TS.v true [ci, ci, ci, ci, ci, ci, ci, ci, ci, ci, ci, ci, ci, CS.bool, ci, CS.bool, ci, ci, ci, ci, ci, CS.bool], tf [ci]], boxes := [], rows := [] }
def osig_path_Rate : Sk := { tmps := [tf [ci]], boxes := [], rows := [] }
def C_path_Rate_0 (Qam : Fn) : Cfg := { spec := Qbq [(98, spOf Qjk Qhu Qam)], eqOk := Qbw, ownOff := ownOff }
def mf_path_Rate (Qam : Fn) : Fn := Qat Try.prog (C_path_Rate_0 Qam) 64 50 sig_path_Rate osig_path_Rate
theorem mf_path_Rate_eq (Qam : Fn) (x0 x1 x2 x3 x4 x5 x6 x7 x8 x9 x10 x11 x12 : Int) (x13 : Bool) (x14 : Int) (x15 : Bool) (x16 x17 x18 x19 x20 : Int) (x21 : Bool) (x22 : Int) : mf_path_Rate Qam [I x0, I x1, I x2, I x3, I x4, I x5, I x6, I x7, I x8, I x9, I x10, I x11, I x12, B x13, I x14, B x15, I x16, I x17, I x18, I x19, I x20, B x21, I x22] =
 bif x0 == 1 then
 some [I 0]
 else
 bif x15 then
 (Qam [I (mn (IntKind.i64.wrap (x14 * mx x22 1)) 60000000), I 4096, I 60000, I 2]).bind fun o2 =>
 some [I (mx (gA o2 0) 1)]
 else
 (Qam [I (mn x14 60000000), I 4096, I 60000, I 2]).bind fun o3 =>
 some [I (mx (gA o3 0) 1)] := by kernel_rfl
def Qjs := mf_path_Rate Qb6 
theorem sp_path_Rate : Qan Try.prog (C_path_Rate_0 Qb6) := Qad rfl ⟨r_wide_MulDiv, trivial⟩
theorem r_path_Rate : Qbv Try.prog (50, spOf sig_path_Rate osig_path_Rate Qjs) := Qa7 (C := (C_path_Rate_0 Qb6)) (L := 64) (by kernel_rfl) (FnOK.bare rfl rfl rfl) sp_path_Rate eqOk Qbo (by kernel_rfl) (by kernel_rfl)
def Qi8 : Sk := { tmps := [tf [CS.ptr 20000 0], tf [CS.sl kItm], tf [ci], tf [ci]], boxes := [(20000, 125, [ci, ci, ci, CS.own 20000 7, CS.own 20001 3, CS.bool, ci, ci, ci])], rows := [(20000, 74, kSgm), (20001, 79, kPt)] }
def Qin : Sk := { tmps := [tf [CS.bool]], boxes := [(20000, 125, [ci, ci, ci, CS.own 20000 7, CS.own 20001 3, CS.bool, ci, ci, ci])], rows := [(20000, 74, kSgm), (20001, 79, kPt)] }
def Qiy (Qaq Qaw Qbt Qcp Qa1 Qev : Fn) : Cfg := { spec := Qbq [(162, spOf Qje Qh2 Qaq), (102, spOf Qji Qh4 Qaw), (161, spOf Qkn Qjv Qbt), (160, spOf sig_path_points osig_path_points Qcp), (159, spOf Qni Qlh Qa1), (50, spOf sig_path_Rate osig_path_Rate Qev)], eqOk := Qbw, pure := fun f => !(Qej [161] f), ownOff := ownOff }
def sk_path_builder_move_6 : Sk := { tmps := [tf [CS.ptr 20000 0], td, td, td, td, td, td, td, td, tf [CS.ptr 9 0], tf [CS.ptr 10 0], td, td, td, td, td, td, td, td, td, td, td, td, td, td, td, td, td, td, td, td, td, td, td, td, tf [CS.sl kPt], tf [ci], tf [ci]] ++ dd 30, boxes := [(9, 33, [ci, ci, ci, ci, ci, ci, ci, ci, ci, ci, ci, ci, ci, CS.bool, ci, CS.bool, ci, ci, ci, ci, ci, CS.bool]), (10, 74, [ci, ci, ci, ci, ci, ci, ci]), (20000, 125, [ci, ci, ci, CS.own 20000 7, CS.own 20001 3, CS.bool, ci, ci, ci])], rows := [(20000, 74, kSgm), (20001, 79, kPt)] }
def ex_path_builder_move_6 : List (Ex × Sk) := [(Ex.exit 0, { tmps := [tf [CS.ptr 20000 0]] ++ dd 67, boxes := [(20000, 125, [ci, ci, ci, CS.own 20000 7, CS.own 20001 3, CS.bool, ci, ci, ci])], rows := [(20000, 74, kSgm), (20001, 79, kPt)] })]
def Qc6 (Qaq Qaw Qbt Qcp Qa1 Qev : Fn) : Lp := stepL Try.prog (Qiy Qaq Qaw Qbt Qcp Qa1 Qev) 64 6 (Qhz Try.prog 140 6) sk_path_builder_move_6 ex_path_builder_move_6
def C_path_builder_move_1 (Qaq Qaw Qbt Qcp Qa1 Qev : Fn) (N6 : Lp) : Cfg := (Qiy Qaq Qaw Qbt Qcp Qa1 Qev).loop 6 sk_path_builder_move_6 ex_path_builder_move_6 N6
def Qkl (Qaq Qaw Qbt Qcp Qa1 Qev : Fn) (N6 : Lp) : Fn := Qat Try.prog (C_path_builder_move_1 Qaq Qaw Qbt Qcp Qa1 Qev N6) 64 140 Qi8 Qin
theorem Qk6 (Qaq Qaw Qbt Qcp Qa1 Qev : Fn) (v0 v1 v2 : Rw) (v3 v4 v5 v6 v7 v8 v9 v10 v11 v12 v13 v14 v15 v16 v17 : Int) (v18 : Bool) (v19 : Int) (v20 : Bool) (v21 v22 v23 v24 v25 : Int) (v26 : Bool) (v27 v28 v29 v30 v31 v32 v33 v34 v35 v36 : Int) (v37 : Bool) (v38 v39 v40 : Int) : Qc6 Qaq Qaw Qbt Qcp Qa1 Qev [.view kSgm v0, .view kPt v1, .view kPt v2, I v3, I v4, I v5, I v6, I v7, I v8, I v9, I v10, I v11, I v12, I v13, I v14, I v15, I v16, I v17, B v18, I v19, B v20, I v21, I v22, I v23, I v24, I v25, B v26, I v27, I v28, I v29, I v30, I v31, I v32, I v33, I v34, I v35, I v36, B v37, I v38, I v39, I v40] =
 bif decide (v4 < v3) then
 bif decide (0 <= v4) && decide (v4 < (v2.length : Int)) then
 (Qbt [.view kSgm v0, .view kPt v1, jA (nth [] v2 v4.toNat) 0, jA (nth [] v2 v4.toNat) 1, jA (nth [] v2 v4.toNat) 2, I v27, I v28, I v29, I v30, I v31, I v32, I v33, I v34, I v35, I v36, B v37, I v38, I v39, I v40]).bind fun o12 =>
 (Qaw [I v5, I v6, I v7, I v8, I v9, I v10, I v11, I v12, I v13, I v14, I v15, I v16, I v17, B v18, I v19, B v20, I v21, I v22, I v23, I v24, I v25, B v26]).bind fun o13 =>
 bif bA o13 0 then
 (Qaq [I v5, I v6, I v7, I v8, I v9, I v10, I v11, I v12, I v13, I v14, I v15, I v16, I v17, B v18, I v19, B v20, I v21, I v22, I v23, I v24, I v25, B v26]).bind fun o14 =>
 bif gA (nth [] v2 v4.toNat) 0 == gA o14 0 && (gA (nth [] v2 v4.toNat) 1 == gA o14 1 && (gA (nth [] v2 v4.toNat) 2 == gA o14 2 && true)) then
 some (0, [.view kSgm (wA o12 0), .view kPt (wA o12 1), .view kPt v2, I v3, I (IntKind.i64.wrap (v4 + 1)), I v5, I v6, I v7, I v8, I v9, I v10, I v11, I v12, I v13, I v14, I v15, I v16, I v17, B v18, I v19, B v20, I v21, I v22, I v23, I v24, I v25, B v26, I v27, I v28, I v29, I v30, I v31, I v32, I v33, jA o12 2, jA o12 3, jA o12 4, B (bA o12 5), jA o12 6, jA o12 7, jA o12 6])
 else
 some (0, [.view kSgm (wA o12 0), .view kPt (wA o12 1), .view kPt v2, I v3, I (IntKind.i64.wrap (v4 + 1)), I v5, I v6, I v7, I v8, I v9, I v10, I v11, I v12, I v13, I v14, I v15, I v16, I v17, B v18, I v19, B v20, I v21, I v22, I v23, I v24, I v25, B v26, I v27, I v28, I v29, I v30, I v31, I v32, I v33, jA o12 2, jA o12 3, jA o12 4, B (bA o12 5), jA o12 6, jA o12 7, jA o12 8])
 else
 some (0, [.view kSgm (wA o12 0), .view kPt (wA o12 1), .view kPt v2, I v3, I (IntKind.i64.wrap (v4 + 1)), I v5, I v6, I v7, I v8, I v9, I v10, I v11, I v12, I v13, I v14, I v15, I v16, I v17, B v18, I v19, B v20, I v21, I v22, I v23, I v24, I v25, B v26, I v27, I v28, I v29, I v30, I v31, I v32, I v33, jA o12 2, jA o12 3, jA o12 4, B (bA o12 5), jA o12 6, jA o12 7, jA o12 8])
 else
 none
 else
 some (1, [.view kSgm v0, .view kPt v1, I v34, I v35, I v36, B v37, I v38, I v39, I v40]) := by kernel_rfl
abbrev Qjl (Qcp : Fn) (x2 : Rw) (x3 x4 : Int) (N6 : Lp) (x0 x1 : Rw) (o15 : List AC) (x5 x6 x7 : Int) (x8 : Bool) (x9 x10 x11 : Int) (h1_0 : AC) : Option (List AC) :=
 (Qcp [.view kItm x2, I x3, I x4]).bind fun o17 =>
 (N6 [.view kSgm x0, .view kPt x1, .view kPt (wA o17 0), I (↑(wA o17 0).length : Int), I 0, jA (nth [] x2 x3.toNat) 0, jA (nth [] x2 x3.toNat) 1, jA (nth [] x2 x3.toNat) 2, jA (nth [] x2 x3.toNat) 3, jA (nth [] x2 x3.toNat) 4, jA (nth [] x2 x3.toNat) 5, jA (nth [] x2 x3.toNat) 6, jA (nth [] x2 x3.toNat) 7, jA (nth [] x2 x3.toNat) 8, jA (nth [] x2 x3.toNat) 9, jA (nth [] x2 x3.toNat) 10, jA (nth [] x2 x3.toNat) 11, jA (nth [] x2 x3.toNat) 12, B (bA (nth [] x2 x3.toNat) 13), jA (nth [] x2 x3.toNat) 14, B (bA (nth [] x2 x3.toNat) 15), jA (nth [] x2 x3.toNat) 16, jA (nth [] x2 x3.toNat) 17, jA (nth [] x2 x3.toNat) 18, jA (nth [] x2 x3.toNat) 19, jA (nth [] x2 x3.toNat) 20, B (bA (nth [] x2 x3.toNat) 21), I 0, I 0, I 0, I 0, I x3, jA o15 0, h1_0, I x5, I x6, I x7, B x8, I x9, I x10, I x11]).bind fun o18 =>
 bif o18.1.beq 1 then
 some [.view kSgm (wA o18.2 0), .view kPt (wA o18.2 1), B (decide ((↑(wA o18.2 0).length : Int) <= 1048576)), jA o18.2 2, jA o18.2 3, jA o18.2 4, B (bA o18.2 5), jA o18.2 6, jA o18.2 7, jA o18.2 8]
 else
 none
attribute [go_sem] Qjl
theorem mf_path_builder_move_eq (Qaq Qaw Qbt Qcp Qa1 Qev : Fn) (N6 : Lp) (x0 x1 x2 : Rw) (x3 x4 x5 x6 x7 : Int) (x8 : Bool) (x9 x10 x11 : Int) : Qkl Qaq Qaw Qbt Qcp Qa1 Qev N6 [.view kSgm x0, .view kPt x1, .view kItm x2, I x3, I x4, I x5, I x6, I x7, B x8, I x9, I x10, I x11] =
 bif decide (0 <= x3) && decide (x3 < (x2.length : Int)) then
 (Qev [jA (nth [] x2 x3.toNat) 0, jA (nth [] x2 x3.toNat) 1, jA (nth [] x2 x3.toNat) 2, jA (nth [] x2 x3.toNat) 3, jA (nth [] x2 x3.toNat) 4, jA (nth [] x2 x3.toNat) 5, jA (nth [] x2 x3.toNat) 6, jA (nth [] x2 x3.toNat) 7, jA (nth [] x2 x3.toNat) 8, jA (nth [] x2 x3.toNat) 9, jA (nth [] x2 x3.toNat) 10, jA (nth [] x2 x3.toNat) 11, jA (nth [] x2 x3.toNat) 12, B (bA (nth [] x2 x3.toNat) 13), jA (nth [] x2 x3.toNat) 14, B (bA (nth [] x2 x3.toNat) 15), jA (nth [] x2 x3.toNat) 16, jA (nth [] x2 x3.toNat) 17, jA (nth [] x2 x3.toNat) 18, jA (nth [] x2 x3.toNat) 19, jA (nth [] x2 x3.toNat) 20, B (bA (nth [] x2 x3.toNat) 21), I x10]).bind fun o15 =>
 (Qa1 [jA (nth [] x2 x3.toNat) 0, jA (nth [] x2 x3.toNat) 1, jA (nth [] x2 x3.toNat) 2, jA (nth [] x2 x3.toNat) 3, jA (nth [] x2 x3.toNat) 4, jA (nth [] x2 x3.toNat) 5, jA (nth [] x2 x3.toNat) 6, jA (nth [] x2 x3.toNat) 7, jA (nth [] x2 x3.toNat) 8, jA (nth [] x2 x3.toNat) 9, jA (nth [] x2 x3.toNat) 10, jA (nth [] x2 x3.toNat) 11, jA (nth [] x2 x3.toNat) 12, B (bA (nth [] x2 x3.toNat) 13), jA (nth [] x2 x3.toNat) 14, B (bA (nth [] x2 x3.toNat) 15), jA (nth [] x2 x3.toNat) 16, jA (nth [] x2 x3.toNat) 17, jA (nth [] x2 x3.toNat) 18, jA (nth [] x2 x3.toNat) 19, jA (nth [] x2 x3.toNat) 20, B (bA (nth [] x2 x3.toNat) 21)]).bind fun o16 =>
 bif bA o16 0 then
 Qjl Qcp x2 x3 x4 N6 x0 x1 o15 x5 x6 x7 x8 x9 x10 x11 (I (mn (IntKind.i64.wrap (gA (nth [] x2 x3.toNat) 14 * 16)) 16777216))
 else
 Qjl Qcp x2 x3 x4 N6 x0 x1 o15 x5 x6 x7 x8 x9 x10 x11 (I 0)
 else
 none := by kernel_rfl
def l_path_builder_move_6 := Qb1 (Qc6 Qde Qdf Qer Qj6 Qd4 Qjs )
def Qc8 := Qkl Qde Qdf Qer Qj6 Qd4 Qjs l_path_builder_move_6
theorem sp_path_builder_move : Qan Try.prog (Qiy Qde Qdf Qer Qj6 Qd4 Qjs) := Qad rfl ⟨r_path_middle, r_path_smooth, r_path_builder_add, r_path_points, r_path_geared, r_path_Rate, trivial⟩
theorem r_path_builder_move : Qbv Try.prog (140, spOf Qi8 Qin Qc8) := Qa7 (C := (C_path_builder_move_1 Qde Qdf Qer Qj6 Qd4 Qjs l_path_builder_move_6)) (L := 64) (by kernel_rfl) ((FnOK.bare rfl rfl rfl).loop sp_path_builder_move eqOk Qbo (by kernel_rfl) (by kernel_rfl)) sp_path_builder_move eqOk Qbo (by kernel_rfl) (by kernel_rfl)
def sig_path_check : Sk := { tmps := [TS.v true [ci, ci, ci, ci, ci, ci, ci, ci, ci, ci, ci, ci, ci, CS.bool, ci, CS.bool, ci, ci, ci, ci, ci, CS.bool]], boxes := [], rows := [] }
def osig_path_check : Sk := { tmps := [tf [ci]], boxes := [], rows := [] }
def C_path_check_0 (Qai Qac : Fn) : Cfg := { spec := Qbq [(66, spOf Qfj Qew Qai), (137, spOf Qgw Qfx Qac)], eqOk := Qbw, ownOff := ownOff }
def mf_path_check (Qai Qac : Fn) : Fn := Qat Try.prog (C_path_check_0 Qai Qac) 64 136 sig_path_check osig_path_check
abbrev Qgh (x0 x19 x20 : Int) : Option (List AC) :=
 bif x0 == 8 then
 bif decide (x19 < 3) then
 some [I 1]
 else
 bif decide (x19 > 5) then
 some [I 1]
 else
 bif decide (x20 < 0) then
 some [I 1]
 else
 bif decide (x20 > 30000) then
 some [I 1]
 else
 some [I 0]
 else
 some [I 0]
attribute [go_sem] Qgh
theorem mf_path_check_eq (Qai Qac : Fn) (x0 x1 x2 x3 x4 x5 x6 x7 x8 x9 x10 x11 x12 : Int) (x13 : Bool) (x14 : Int) (x15 : Bool) (x16 x17 x18 x19 x20 : Int) (x21 : Bool) : mf_path_check Qai Qac [I x0, I x1, I x2, I x3, I x4, I x5, I x6, I x7, I x8, I x9, I x10, I x11, I x12, B x13, I x14, B x15, I x16, I x17, I x18, I x19, I x20, B x21] =
 bif decide (x0 < 1) then
 some [I 1]
 else
 bif decide (x0 > 14) then
 some [I 1]
 else
 (Qac [I x0]).bind fun o4 =>
 bif bA o4 0 then
 (Qai [I x0, I x1, I x2, I x3, I x4, I x5, I x6, I x7, I x8, I x9, I x10, I x11, I x12, B x13, I x14, B x15, I x16, I x17, I x18, I x19, I x20, B x21]).bind fun o5 =>
 bif !bA o5 0 then
 some [I 1]
 else
 bif decide (x18 < 0) then
 some [I 1]
 else
 bif decide (x18 > 1000) then
 some [I 1]
 else
 (Qac [I x0]).bind fun o6 =>
 bif bA o6 0 then
 bif x0 != 1 then
 bif decide (x14 < 1) then
 some [I 1]
 else
 bif decide (x14 > 60000000) then
 some [I 1]
 else
 Qgh x0 x19 x20
 else
 Qgh x0 x19 x20
 else
 Qgh x0 x19 x20
 else
 (Qac [I x0]).bind fun o7 =>
 bif bA o7 0 then
 bif x0 != 1 then
 bif decide (x14 < 1) then
 some [I 1]
 else
 bif decide (x14 > 60000000) then
 some [I 1]
 else
 Qgh x0 x19 x20
 else
 Qgh x0 x19 x20
 else
 Qgh x0 x19 x20 := by kernel_rfl
def Qga := mf_path_check Qbx Qbm 
theorem sp_path_check : Qan Try.prog (C_path_check_0 Qbx Qbm) := Qad rfl ⟨Qm1, r_path_motion, trivial⟩
theorem r_path_check : Qbv Try.prog (136, spOf sig_path_check osig_path_check Qga) := Qa7 (C := (C_path_check_0 Qbx Qbm)) (L := 64) (by kernel_rfl) (FnOK.bare rfl rfl rfl) sp_path_check eqOk Qbo (by kernel_rfl) (by kernel_rfl)
def sig_path_build : Sk := { tmps := [tf [CS.sl kItm]], boxes := [], rows := [] }
def osig_path_build : Sk := { tmps := [TS.tup [(false, [CS.ptr 13 0]), (false, [ci])]], boxes := [(13, 125, [ci, ci, ci, CS.own 1013003 7, CS.own 1013004 3, CS.bool, ci, ci, ci])], rows := [(1013003, 74, kSgm), (1013004, 79, kPt)] }
def C_path_build_0 (Qae Qaf Qap Qa4 Qac Qca : Fn) : Cfg := { spec := Qbq [(141, spOf Qjp Qik Qae), (140, spOf Qi8 Qin Qaf), (139, spOf Qoq Qk1 Qap), (138, spOf sig_path_soft osig_path_soft Qa4), (137, spOf Qgw Qfx Qac), (136, spOf sig_path_check osig_path_check Qca)], eqOk := Qbw, pure := fun f => !(Qej [141, 140] f), ownOff := ownOff }
def sk_path_build_6 : Sk := { tmps := [tf [CS.sl kItm], td, td, td, tf [CS.ptr 13 0], tf [ci], td, td, td, td, td, td, td, td, td, td, td, td, tf [CS.sl kItm], tf [ci], tf [ci]] ++ dd 87, boxes := [(13, 125, [ci, ci, ci, CS.own 1013003 7, CS.own 1013004 3, CS.bool, ci, ci, ci])], rows := [(1013003, 74, kSgm), (1013004, 79, kPt)] }
def ex_path_build_6 : List (Ex × Sk) := [(Ex.ret, { tmps := [td, td, tf [CS.ptr 13 0], tf [ci]] ++ dd 104, boxes := [(13, 125, [ci, ci, ci, CS.own 1013003 7, CS.own 1013004 3, CS.bool, ci, ci, ci])], rows := [(1013003, 74, kSgm), (1013004, 79, kPt)] }), (Ex.exit 0, { tmps := [tf [CS.sl kItm], td, td, td, tf [CS.ptr 13 0]] ++ dd 103, boxes := [(13, 125, [ci, ci, ci, CS.own 1013003 7, CS.own 1013004 3, CS.bool, ci, ci, ci])], rows := [(1013003, 74, kSgm), (1013004, 79, kPt)] })]
def Qi5 (Qae Qaf Qap Qa4 Qac Qca : Fn) : Lp := stepL Try.prog (C_path_build_0 Qae Qaf Qap Qa4 Qac Qca) 64 6 (Qhz Try.prog 95 6) sk_path_build_6 ex_path_build_6
def C_path_build_1 (Qae Qaf Qap Qa4 Qac Qca : Fn) (N6 : Lp) : Cfg := (C_path_build_0 Qae Qaf Qap Qa4 Qac Qca).loop 6 sk_path_build_6 ex_path_build_6 N6
def sk_path_build_18 : Sk := { tmps := [tf [CS.sl kItm], td, td, td, tf [CS.ptr 13 0], tf [ci], td, td, td, td, td, td, td, td, td, td, td, td, td, td, td, td, td, td, td, td, td, td, td, td, td, td, td, td, td, td, td, td, td, td, td, td, td, td, td, td, td, td, td, td, tf [CS.sl kItm], tf [ci], tf [ci]] ++ dd 55, boxes := [(13, 125, [ci, ci, ci, CS.own 1013003 7, CS.own 1013004 3, CS.bool, ci, ci, ci])], rows := [(1013003, 74, kSgm), (1013004, 79, kPt)] }
def ex_path_build_18 : List (Ex × Sk) := [(Ex.ret, { tmps := [td, td, tf [CS.ptr 13 0], tf [ci]] ++ dd 104, boxes := [(13, 125, [ci, ci, ci, CS.own 1013003 7, CS.own 1013004 3, CS.bool, ci, ci, ci])], rows := [(1013003, 74, kSgm), (1013004, 79, kPt)] }), (Ex.exit 2, { tmps := [td, td, td, td, tf [CS.ptr 13 0]] ++ dd 103, boxes := [(13, 125, [ci, ci, ci, CS.own 1013003 7, CS.own 1013004 3, CS.bool, ci, ci, ci])], rows := [(1013003, 74, kSgm), (1013004, 79, kPt)] })]
def Qhv (Qae Qaf Qap Qa4 Qac Qca : Fn) (N6 : Lp) : Lp := stepL Try.prog (C_path_build_1 Qae Qaf Qap Qa4 Qac Qca N6) 64 18 (Qhz Try.prog 95 18) sk_path_build_18 ex_path_build_18
def C_path_build_2 (Qae Qaf Qap Qa4 Qac Qca : Fn) (N6 N18 : Lp) : Cfg := (C_path_build_1 Qae Qaf Qap Qa4 Qac Qca N6).loop 18 sk_path_build_18 ex_path_build_18 N18
def mf_path_build (Qae Qaf Qap Qa4 Qac Qca : Fn) (N6 N18 : Lp) : Fn := Qat Try.prog (C_path_build_2 Qae Qaf Qap Qa4 Qac Qca N6 N18) 64 95 sig_path_build osig_path_build
theorem st_path_build_6_eq (Qae Qaf Qap Qa4 Qac Qca : Fn) (v0 v1 v2 : Rw) (v3 : Int) (v4 : Rw) (v5 v6 v7 v8 v9 : Int) (v10 : Bool) (v11 v12 v13 : Int) : Qi5 Qae Qaf Qap Qa4 Qac Qca [.view kSgm v0, .view kPt v1, .view kItm v2, I v3, .view kItm v4, I v5, I v6, I v7, I v8, I v9, B v10, I v11, I v12, I v13] =
 bif decide (v6 < v5) then
 bif decide (0 <= v6) && decide (v6 < (v4.length : Int)) then
 (Qca [jA (nth [] v4 v6.toNat) 0, jA (nth [] v4 v6.toNat) 1, jA (nth [] v4 v6.toNat) 2, jA (nth [] v4 v6.toNat) 3, jA (nth [] v4 v6.toNat) 4, jA (nth [] v4 v6.toNat) 5, jA (nth [] v4 v6.toNat) 6, jA (nth [] v4 v6.toNat) 7, jA (nth [] v4 v6.toNat) 8, jA (nth [] v4 v6.toNat) 9, jA (nth [] v4 v6.toNat) 10, jA (nth [] v4 v6.toNat) 11, jA (nth [] v4 v6.toNat) 12, B (bA (nth [] v4 v6.toNat) 13), jA (nth [] v4 v6.toNat) 14, B (bA (nth [] v4 v6.toNat) 15), jA (nth [] v4 v6.toNat) 16, jA (nth [] v4 v6.toNat) 17, jA (nth [] v4 v6.toNat) 18, jA (nth [] v4 v6.toNat) 19, jA (nth [] v4 v6.toNat) 20, B (bA (nth [] v4 v6.toNat) 21)]).bind fun o53 =>
 bif gA o53 0 != 0 then
 some (1, [.view kSgm v0, .view kPt v1, jA o53 0, I v7, I v8, I v9, B v10, I v11, I v12, I v13])
 else
 (Qac [jA (nth [] v4 v6.toNat) 0]).bind fun o54 =>
 bif !bA o54 0 then
 some (0, [.view kSgm v0, .view kPt v1, .view kItm v2, I v3, .view kItm v4, I v5, I (IntKind.i64.wrap (v6 + 1)), I v7, I v8, I v9, B v10, I v11, I v12, I v13])
 else
 bif decide (v3 >= 0) then
 bif decide (0 <= v3) && decide (v3 < (v2.length : Int)) then
 bif !(gA (nth [] v2 v3.toNat) 5 == gA (nth [] v4 v6.toNat) 2 && (gA (nth [] v2 v3.toNat) 6 == gA (nth [] v4 v6.toNat) 3 && (gA (nth [] v2 v3.toNat) 7 == gA (nth [] v4 v6.toNat) 4 && true))) then
 some (1, [.view kSgm v0, .view kPt v1, I 13, I v7, I v8, I v9, B v10, I v11, I v12, I v13])
 else
 some (0, [.view kSgm v0, .view kPt v1, .view kItm v2, I v6, .view kItm v4, I v5, I (IntKind.i64.wrap (v6 + 1)), I v7, I v8, I v9, B v10, I v11, I v12, I v13])
 else
 none
 else
 some (0, [.view kSgm v0, .view kPt v1, .view kItm v2, I v6, .view kItm v4, I v5, I (IntKind.i64.wrap (v6 + 1)), I v7, I v8, I v9, B v10, I v11, I v12, I v13])
 else
 none
 else
 some (2, [.view kSgm v0, .view kPt v1, .view kItm v2, I v7, I v8, I v9, B v10, I v11, I v12, I v13]) := by kernel_rfl
abbrev Qft (Qaf : Fn) (v0 v1 v2 : Rw) (v6 v7 v8 v9 : Int) (v10 : Bool) (v11 : Int) (h1_0 : AC) (v13 : Int) (Qae : Fn) (v4 : Rw) (v5 : Int) (h2_0 : AC) : Option (Nat × List AC) :=
 (Qaf [.view kSgm v0, .view kPt v1, .view kItm v2, I v6, h2_0, I v7, I v8, I v9, B v10, I v11, h1_0, I v13]).bind fun o57 =>
 bif !bA o57 2 then
 some (1, [.view kSgm (wA o57 0), .view kPt (wA o57 1), I 10, jA o57 3, jA o57 4, jA o57 5, B (bA o57 6), jA o57 7, jA o57 8, jA o57 9])
 else
 (Qae [.view kSgm (wA o57 0), .view kPt (wA o57 1), .view kItm v2, I v6, jA o57 3, jA o57 4, jA o57 5, B (bA o57 6), jA o57 7, jA o57 8, jA o57 9]).bind fun o58 =>
 some (0, [.view kSgm (wA o58 0), .view kPt (wA o58 1), .view kItm v2, I v6, .view kItm v4, I v5, I (IntKind.i64.wrap (v6 + 1)), jA o58 2, jA o58 3, jA o58 4, B (bA o58 5), jA o58 6, jA o58 7, jA o58 8])
attribute [go_sem] Qft
abbrev Qfq (Qac : Fn) (v4 : Rw) (v6 v3 : Int) (Qa4 : Fn) (v2 : Rw) (Qaf : Fn) (v0 v1 : Rw) (v7 v8 v9 : Int) (v10 : Bool) (v11 v13 : Int) (Qae : Fn) (v5 : Int) (Qap : Fn) (h1_0 : AC) : Option (Nat × List AC) :=
 (Qac [jA (nth [] v4 v6.toNat) 0]).bind fun o55 =>
 bif bA o55 0 then
 bif decide (v3 >= 0) then
 (Qa4 [.view kItm v2, I v3]).bind fun o56 =>
 bif !bA o56 0 then
 Qft Qaf v0 v1 v2 v6 v7 v8 v9 v10 v11 h1_0 v13 Qae v4 v5 (I (-1))
 else
 (Qap [.view kItm v2, I v3]).bind fun o59 =>
 bif gA o59 0 != v6 then
 Qft Qaf v0 v1 v2 v6 v7 v8 v9 v10 v11 h1_0 v13 Qae v4 v5 (I (-1))
 else
 Qft Qaf v0 v1 v2 v6 v7 v8 v9 v10 v11 h1_0 v13 Qae v4 v5 (I v3)
 else
 Qft Qaf v0 v1 v2 v6 v7 v8 v9 v10 v11 h1_0 v13 Qae v4 v5 (I v3)
 else
 (Qae [.view kSgm v0, .view kPt v1, .view kItm v2, I v6, I v7, I v8, I v9, B v10, I v11, h1_0, I v13]).bind fun o66 =>
 some (0, [.view kSgm (wA o66 0), .view kPt (wA o66 1), .view kItm v2, I v3, .view kItm v4, I v5, I (IntKind.i64.wrap (v6 + 1)), jA o66 2, jA o66 3, jA o66 4, B (bA o66 5), jA o66 6, jA o66 7, jA o66 8])
attribute [go_sem] Qfq
theorem st_path_build_18_eq (Qae Qaf Qap Qa4 Qac Qca : Fn) (N6 : Lp) (v0 v1 v2 : Rw) (v3 : Int) (v4 : Rw) (v5 v6 v7 v8 v9 : Int) (v10 : Bool) (v11 v12 v13 : Int) : Qhv Qae Qaf Qap Qa4 Qac Qca N6 [.view kSgm v0, .view kPt v1, .view kItm v2, I v3, .view kItm v4, I v5, I v6, I v7, I v8, I v9, B v10, I v11, I v12, I v13] =
 bif decide (v6 < v5) then
 bif decide (0 <= v6) && decide (v6 < (v4.length : Int)) then
 bif gA (nth [] v4 v6.toNat) 0 == 8 then
 bif gA (nth [] v4 v6.toNat) 19 == 3 then
 Qfq Qac v4 v6 v3 Qa4 v2 Qaf v0 v1 v7 v8 v9 v10 v11 v13 Qae v5 Qap (jA (nth [] v4 v6.toNat) 20)
 else
 bif gA (nth [] v4 v6.toNat) 19 == 4 then
 Qfq Qac v4 v6 v3 Qa4 v2 Qaf v0 v1 v7 v8 v9 v10 v11 v13 Qae v5 Qap (jA (nth [] v4 v6.toNat) 20)
 else
 Qfq Qac v4 v6 v3 Qa4 v2 Qaf v0 v1 v7 v8 v9 v10 v11 v13 Qae v5 Qap (I v12)
 else
 Qfq Qac v4 v6 v3 Qa4 v2 Qaf v0 v1 v7 v8 v9 v10 v11 v13 Qae v5 Qap (I v12)
 else
 none
 else
 some (2, [.view kSgm v0, .view kPt v1, I v7, I v8, I v9, B v10, I v11, I v12, I v13]) := by kernel_rfl
theorem mf_path_build_eq (Qae Qaf Qap Qa4 Qac Qca : Fn) (N6 N18 : Lp) (x0 : Rw) : mf_path_build Qae Qaf Qap Qa4 Qac Qca N6 N18 [.view kItm x0] =
 bif decide ((x0.length : Int) > 20000) then
 some [.view kSgm [], .view kPt [], I 10, I 0, I 0, I 0, B false, I 0, I 0, I 0]
 else
 (N6 [.view kSgm [], .view kPt [], .view kItm x0, I (-1), .view kItm x0, I (x0.length : Int), I 0, I 0, I 0, I 0, B false, I 0, I 0, I 0]).bind fun o103 =>
 bif o103.1.beq 1 then
 some [.view kSgm (wA o103.2 0), .view kPt (wA o103.2 1), jA o103.2 2, jA o103.2 3, jA o103.2 4, jA o103.2 5, B (bA o103.2 6), jA o103.2 7, jA o103.2 8, jA o103.2 9]
 else
 bif o103.1.beq 2 then
 (N18 [.view kSgm (wA o103.2 0), .view kPt (wA o103.2 1), .view kItm (wA o103.2 2), I (-1), .view kItm (wA o103.2 2), I (↑(wA o103.2 2).length : Int), I 0, jA o103.2 3, jA o103.2 4, jA o103.2 5, B (bA o103.2 6), jA o103.2 7, jA o103.2 8, jA o103.2 9]).bind fun o104 =>
 bif o104.1.beq 1 then
 some [.view kSgm (wA o104.2 0), .view kPt (wA o104.2 1), jA o104.2 2, jA o104.2 3, jA o104.2 4, jA o104.2 5, B (bA o104.2 6), jA o104.2 7, jA o104.2 8, jA o104.2 9]
 else
 bif o104.1.beq 2 then
 some [.view kSgm (wA o104.2 0), .view kPt (wA o104.2 1), I 0, jA o104.2 2, jA o104.2 3, jA o104.2 4, B (bA o104.2 5), jA o104.2 6, jA o104.2 7, jA o104.2 8]
 else
 none
 else
 none := by kernel_rfl
def Qla := Qb1 (Qi5 Qcr Qc8 Qdz Qet Qbm Qga )
def l_path_build_18 := Qb1 (Qhv Qcr Qc8 Qdz Qet Qbm Qga Qla)
def m_path_build := mf_path_build Qcr Qc8 Qdz Qet Qbm Qga Qla l_path_build_18
theorem sp_path_build : Qan Try.prog (C_path_build_0 Qcr Qc8 Qdz Qet Qbm Qga) := Qad rfl ⟨r_path_builder_mark, r_path_builder_move, r_path_next, r_path_soft, r_path_motion, r_path_check, trivial⟩
theorem r_path_build : Qbv Try.prog (95, spOf sig_path_build osig_path_build m_path_build) := Qa7 (C := (C_path_build_2 Qcr Qc8 Qdz Qet Qbm Qga Qla l_path_build_18)) (L := 64) (by kernel_rfl) (((FnOK.bare rfl rfl rfl).loop sp_path_build eqOk Qbo (by kernel_rfl) (by kernel_rfl)).loop sp_path_build eqOk Qbo (by kernel_rfl) (by kernel_rfl)) sp_path_build eqOk Qbo (by kernel_rfl) (by kernel_rfl)
def sig_path_Build : Sk := { tmps := [tf [CS.sl kItm]], boxes := [], rows := [] }
def osig_path_Build : Sk := { tmps := [TS.tup [(true, [ci, ci, ci, CS.sl kSgm, CS.sl kPt]), (false, [ci])]], boxes := [], rows := [] }
def C_path_Build_0 (Qmi : Fn) : Cfg := { spec := Qbq [(95, spOf sig_path_build osig_path_build Qmi)], eqOk := Qbw, pure := fun f => !(Qej [95] f), ownOff := ownOff }
def mf_path_Build (Qmi : Fn) : Fn := Qat Try.prog (C_path_Build_0 Qmi) 64 43 sig_path_Build osig_path_Build
theorem mf_path_Build_eq (Qmi : Fn) (x0 : Rw) : mf_path_Build Qmi [.view kItm x0] =
 (Qmi [.view kItm x0]).bind fun o1 =>
 bif gA o1 2 != 0 then
 some [I 0, I 0, I 0, .view kSgm [], .view kPt [], jA o1 2]
 else
 some [jA o1 3, jA o1 4, jA o1 5, .view kSgm (wA o1 0), .view kPt (wA o1 1), I 0] := by kernel_rfl
def Qmg := mf_path_Build m_path_build 
theorem sp_path_Build : Qan Try.prog (C_path_Build_0 m_path_build) := Qad rfl ⟨r_path_build, trivial⟩
theorem r_path_Build : Qbv Try.prog (43, spOf sig_path_Build osig_path_Build Qmg) := Qa7 (C := (C_path_Build_0 m_path_build)) (L := 64) (by kernel_rfl) (FnOK.bare rfl rfl rfl) sp_path_Build eqOk Qbo (by kernel_rfl) (by kernel_rfl)
def sig_cncmill_other : Sk := { tmps := [tf [CS.ptr 20000 0]], boxes := [(20000, 138, [CS.sl Qax, ci])], rows := [] }
def Qne : Sk := { tmps := [TS.v true [ci, ci, ci, ci, ci, ci, ci, ci, ci, ci, ci, ci, ci, CS.bool, ci, CS.bool, ci, ci, ci, ci, ci, CS.bool]], boxes := [(20000, 138, [CS.sl Qax, ci])], rows := [] }
def C_cncmill_other_0 (Qaa : Fn) : Cfg := { spec := Qbq [(61, spOf Qdh Qc7 Qaa)], eqOk := Qbw, pure := fun f => !(Qej [61] f), ownOff := ownOff }
def mf_cncmill_other (Qaa : Fn) : Fn := Qat Try.prog (C_cncmill_other_0 Qaa) 64 99 sig_cncmill_other Qne
abbrev g_cncmill_other_1 (Qaa : Fn) (o8 : List AC) : Option (List AC) :=
 (Qaa [I 16, .view Qax (wA o8 1), jA o8 2]).bind fun o9 =>
 (Qaa [I 2, .view Qax (wA o9 1), jA o9 2]).bind fun o10 =>
 some [I 10, I 0, I 0, I 0, I 0, I 0, I 0, I 0, I 0, I 0, I 0, I 0, I 0, B false, I 0, B false, I 0, I 0, I 0, jA o9 0, I 0, B (gA o10 0 == 0), .view Qax (wA o10 1), jA o10 2]
attribute [go_sem] g_cncmill_other_1
theorem mf_cncmill_other_eq (Qaa : Fn) (x0 : Rw) (x1 : Int) : mf_cncmill_other Qaa [.view Qax x0, I x1] =
 (Qaa [I 8, .view Qax x0, I x1]).bind fun o8 =>
 bif gA o8 0 == 0 then
 g_cncmill_other_1 Qaa o8
 else
 bif gA o8 0 == 1 then
 g_cncmill_other_1 Qaa o8
 else
 bif gA o8 0 == 2 then
 (Qaa [I 5, .view Qax (wA o8 1), jA o8 2]).bind fun o13 =>
 some [I 7, I 0, I 0, I 0, I 0, I 0, I 0, I 0, I 0, I 0, I 0, I 0, I 0, B false, I 0, B false, I 0, I 0, I 0, jA o13 0, I 0, B false, .view Qax (wA o13 1), jA o13 2]
 else
 bif gA o8 0 == 3 then
 (Qaa [I 3, .view Qax (wA o8 1), jA o8 2]).bind fun o14 =>
 (Qaa [I 4000, .view Qax (wA o14 1), jA o14 2]).bind fun o15 =>
 some [I 8, I 0, I 0, I 0, I 0, I 0, I 0, I 0, I 0, I 0, I 0, I 0, I 0, B false, I 0, B false, I 0, I 0, I 0, I (IntKind.i64.wrap (3 + gA o14 0)), jA o15 0, B false, .view Qax (wA o15 1), jA o15 2]
 else
 bif gA o8 0 == 4 then
 some [I 9, I 0, I 0, I 0, I 0, I 0, I 0, I 0, I 0, I 0, I 0, I 0, I 0, B false, I 0, B false, I 0, I 0, I 0, I 8, I 0, B true, .view Qax (wA o8 1), jA o8 2]
 else
 bif gA o8 0 == 5 then
 some [I 13, I 0, I 0, I 0, I 0, I 0, I 0, I 0, I 0, I 0, I 0, I 0, I 0, B false, I 0, B false, I 0, I 0, I 0, I 0, I 0, B false, .view Qax (wA o8 1), jA o8 2]
 else
 bif gA o8 0 == 6 then
 some [I 12, I 0, I 0, I 0, I 0, I 0, I 0, I 0, I 0, I 0, I 0, I 0, I 0, B false, I 0, B false, I 0, I 0, I 0, I 0, I 0, B false, .view Qax (wA o8 1), jA o8 2]
 else
 some [I 11, I 0, I 0, I 0, I 0, I 0, I 0, I 0, I 0, I 0, I 0, I 0, I 0, B false, I 0, B false, I 0, I 0, I 0, I 1, I 0, B false, .view Qax (wA o8 1), jA o8 2] := by kernel_rfl
def Qfl := mf_cncmill_other Qas 
theorem sp_cncmill_other : Qan Try.prog (C_cncmill_other_0 Qas) := Qad rfl ⟨Qgf, trivial⟩
theorem r_cncmill_other : Qbv Try.prog (99, spOf sig_cncmill_other Qne Qfl) := Qa7 (C := (C_cncmill_other_0 Qas)) (L := 64) (by kernel_rfl) (FnOK.bare rfl rfl rfl) sp_cncmill_other eqOk Qbo (by kernel_rfl) (by kernel_rfl)
def sig_cncmill_Items : Sk := { tmps := [tf [CS.sl Qax], tf [ci], tf [CS.bool]], boxes := [], rows := [] }
def Qn0 : Sk := { tmps := [tf [CS.sl kItm]], boxes := [], rows := [] }
def C_cncmill_Items_0 (Qce Qcv Qbe Qaa Qdb : Fn) : Cfg := { spec := Qbq [(79, spOf Qnp Qlt Qce), (99, spOf sig_cncmill_other Qne Qcv), (78, spOf Qho Qg4 Qbe), (61, spOf Qdh Qc7 Qaa), (59, spOf sig_cncmill_From osig_cncmill_From Qdb)], eqOk := Qbw, pure := fun f => !(Qej [79, 99, 78, 61, 59] f), ownOff := ownOff, prom := fun b => bif Nat.beq b 4 then [(8, 33)] else [] }
def sk_cncmill_Items_4 : Sk := { tmps := [td, tf [ci], tf [CS.bool], td, td, td, td, tf [CS.ptr 101300 0], tf [CS.own 8 22], tf [CS.ptr 9 0]] ++ dd 64, boxes := [(9, 31, [ci, ci, ci]), (101300, 138, [CS.sl Qax, ci])], rows := [(8, 33, kItm)] }
def ex_cncmill_Items_4 : List (Ex × Sk) := [(Ex.exit 0, { tmps := [td, td, tf [CS.bool], td, td, td, td, td, tf [CS.own 8 22]] ++ dd 65, boxes := [], rows := [(8, 33, kItm)] })]
def Qnk (Qce Qcv Qbe Qaa Qdb : Fn) : Lp := stepL Try.prog (C_cncmill_Items_0 Qce Qcv Qbe Qaa Qdb) 64 4 (Qhz Try.prog 47 4) sk_cncmill_Items_4 ex_cncmill_Items_4
def C_cncmill_Items_1 (Qce Qcv Qbe Qaa Qdb : Fn) (N4 : Lp) : Cfg := (C_cncmill_Items_0 Qce Qcv Qbe Qaa Qdb).loop 4 sk_cncmill_Items_4 ex_cncmill_Items_4 N4
def mf_cncmill_Items (Qce Qcv Qbe Qaa Qdb : Fn) (N4 : Lp) : Fn := Qat Try.prog (C_cncmill_Items_1 Qce Qcv Qbe Qaa Qdb N4) 64 47 sig_cncmill_Items Qn0
theorem st_cncmill_Items_4_eq (Qce Qcv Qbe Qaa Qdb : Fn) (v0 : Rw) (v1 : Int) (v2 : Bool) (v3 v4 v5 : Int) (v6 : Rw) (v7 : Int) : Qnk Qce Qcv Qbe Qaa Qdb [.view kItm v0, I v1, B v2, I v3, I v4, I v5, .view Qax v6, I v7] =
 bif decide ((v0.length : Int) < v1) then
 (Qbe [.view Qax v6, I v7]).bind fun o25 =>
 bif bA o25 0 then
 (Qaa [I 12, .view Qax (wA o25 1), jA o25 2]).bind fun o26 =>
 bif decide (gA o26 0 < 4) then
 (Qcv [.view Qax (wA o26 1), jA o26 2]).bind fun o27 =>
 bif ((v0 ++ [[jA o27 0, jA o27 1, jA o27 2, jA o27 3, jA o27 4, jA o27 5, jA o27 6, jA o27 7, jA o27 8, jA o27 9, jA o27 10, jA o27 11, jA o27 12, B (bA o27 13), jA o27 14, B (bA o27 15), jA o27 16, jA o27 17, jA o27 18, jA o27 19, jA o27 20, B (bA o27 21)]]).length * 176).ble 140737488355328 then
 some (0, [.view kItm (v0 ++ [[jA o27 0, jA o27 1, jA o27 2, jA o27 3, jA o27 4, jA o27 5, jA o27 6, jA o27 7, jA o27 8, jA o27 9, jA o27 10, jA o27 11, jA o27 12, B (bA o27 13), jA o27 14, B (bA o27 15), jA o27 16, jA o27 17, jA o27 18, jA o27 19, jA o27 20, B (bA o27 21)]]), I v1, B v2, I v3, I v4, I v5, .view Qax (wA o27 22), jA o27 23])
 else
 none
 else
 bif decide (0 <= IntKind.i64.wrap (gA o26 0 - 4)) && decide (IntKind.i64.wrap (gA o26 0 - 4) < (↑[[I 2], [I 2], [I 2], [I 3], [I 1], [I 6], [I 5], [I 4]].length : Int)) then
 (Qce [I v3, I v4, I v5, I (Qav (nth .dead (nth [] [[I 2], [I 2], [I 2], [I 3], [I 1], [I 6], [I 5], [I 4]] (IntKind.i64.wrap (gA o26 0 - 4)).toNat) 0)), .view Qax (wA o26 1), jA o26 2]).bind fun o28 =>
 bif gA o28 0 == 5 then
 (Qaa [I 2, .view Qax (wA o28 22), jA o28 23]).bind fun o29 =>
 (Qaa [I 3000, .view Qax (wA o29 1), jA o29 2]).bind fun o30 =>
 bif ((v0 ++ [[I 8, I 0, I 0, I 0, I 0, I 0, I 0, I 0, I 0, I 0, I 0, I 0, I 0, B false, I 0, B false, I 0, I 0, I 0, I (IntKind.i64.wrap (3 + gA o29 0)), I (IntKind.i64.wrap (200 + gA o30 0)), B false]]).length * 176).ble 140737488355328 then
 bif ((v0 ++ [[I 8, I 0, I 0, I 0, I 0, I 0, I 0, I 0, I 0, I 0, I 0, I 0, I 0, B false, I 0, B false, I 0, I 0, I 0, I (IntKind.i64.wrap (3 + gA o29 0)), I (IntKind.i64.wrap (200 + gA o30 0)), B false]] ++ [[jA o28 0, jA o28 1, jA o28 2, jA o28 3, jA o28 4, jA o28 5, jA o28 6, jA o28 7, jA o28 8, jA o28 9, jA o28 10, jA o28 11, jA o28 12, B (bA o28 13), jA o28 14, B (bA o28 15), jA o28 16, jA o28 17, jA o28 18, jA o28 19, jA o28 20, B (bA o28 21)]]).length * 176).ble 140737488355328 then
 some (0, [.view kItm (v0 ++ [[I 8, I 0, I 0, I 0, I 0, I 0, I 0, I 0, I 0, I 0, I 0, I 0, I 0, B false, I 0, B false, I 0, I 0, I 0, I (IntKind.i64.wrap (3 + gA o29 0)), I (IntKind.i64.wrap (200 + gA o30 0)), B false]] ++ [[jA o28 0, jA o28 1, jA o28 2, jA o28 3, jA o28 4, jA o28 5, jA o28 6, jA o28 7, jA o28 8, jA o28 9, jA o28 10, jA o28 11, jA o28 12, B (bA o28 13), jA o28 14, B (bA o28 15), jA o28 16, jA o28 17, jA o28 18, jA o28 19, jA o28 20, B (bA o28 21)]]), I v1, B v2, jA o28 5, jA o28 6, jA o28 7, .view Qax (wA o30 1), jA o30 2])
 else
 none
 else
 none
 else
 bif ((v0 ++ [[jA o28 0, jA o28 1, jA o28 2, jA o28 3, jA o28 4, jA o28 5, jA o28 6, jA o28 7, jA o28 8, jA o28 9, jA o28 10, jA o28 11, jA o28 12, B (bA o28 13), jA o28 14, B (bA o28 15), jA o28 16, jA o28 17, jA o28 18, jA o28 19, jA o28 20, B (bA o28 21)]]).length * 176).ble 140737488355328 then
 some (0, [.view kItm (v0 ++ [[jA o28 0, jA o28 1, jA o28 2, jA o28 3, jA o28 4, jA o28 5, jA o28 6, jA o28 7, jA o28 8, jA o28 9, jA o28 10, jA o28 11, jA o28 12, B (bA o28 13), jA o28 14, B (bA o28 15), jA o28 16, jA o28 17, jA o28 18, jA o28 19, jA o28 20, B (bA o28 21)]]), I v1, B v2, jA o28 5, jA o28 6, jA o28 7, .view Qax (wA o28 22), jA o28 23])
 else
 none
 else
 none
 else
 some (1, [.view kItm v0, B v2])
 else
 some (1, [.view kItm v0, B v2]) := by kernel_rfl
theorem mf_cncmill_Items_eq (Qce Qcv Qbe Qaa Qdb : Fn) (N4 : Lp) (x0 : Rw) (x1 : Int) (x2 : Bool) : mf_cncmill_Items Qce Qcv Qbe Qaa Qdb N4 [.view Qax x0, I x1, B x2] =
 (Qdb [.view Qax x0]).bind fun o31 =>
 (Qaa [I 9, .view Qax (wA o31 0), jA o31 1]).bind fun o32 =>
 (Qaa [I 9, .view Qax (wA o32 1), jA o32 2]).bind fun o33 =>
 (Qaa [I 9, .view Qax (wA o33 1), jA o33 2]).bind fun o34 =>
 (N4 [.view kItm [], I x1, B x2, I (IntKind.i64.wrap (gA o32 0 - 4)), I (IntKind.i64.wrap (gA o33 0 - 4)), I (IntKind.i64.wrap (gA o34 0 - 4)), .view Qax (wA o34 1), jA o34 2]).bind fun o35 =>
 bif o35.1.beq 1 then
 bif bA o35.2 1 then
 bif ((wA o35.2 0 ++ [[I 14, I 0, I 0, I 0, I 0, I 0, I 0, I 0, I 0, I 0, I 0, I 0, I 0, B false, I 0, B false, I 0, I 0, I 0, I 0, I 0, B false]]).length * 176).ble 140737488355328 then
 some [.view kItm (wA o35.2 0 ++ [[I 14, I 0, I 0, I 0, I 0, I 0, I 0, I 0, I 0, I 0, I 0, I 0, I 0, B false, I 0, B false, I 0, I 0, I 0, I 0, I 0, B false]])]
 else
 none
 else
 some [.view kItm (wA o35.2 0)]
 else
 none := by kernel_rfl
def l_cncmill_Items_4 := Qb1 (Qnk Qex Qfl Qcn Qas Qe9 )
def Qg2 := mf_cncmill_Items Qex Qfl Qcn Qas Qe9 l_cncmill_Items_4
theorem sp_cncmill_Items : Qan Try.prog (C_cncmill_Items_0 Qex Qfl Qcn Qas Qe9) := Qad rfl ⟨r_cncmill_motion, r_cncmill_other, r_cncmill_Source_Left, Qgf, r_cncmill_From, trivial⟩
theorem r_cncmill_Items : Qbv Try.prog (47, spOf sig_cncmill_Items Qn0 Qg2) := Qa7 (C := (C_cncmill_Items_1 Qex Qfl Qcn Qas Qe9 l_cncmill_Items_4)) (L := 64) (by kernel_rfl) ((FnOK.bare rfl rfl rfl).loop sp_cncmill_Items eqOk Qbo (by kernel_rfl) (by kernel_rfl)) sp_cncmill_Items eqOk Qbo (by kernel_rfl) (by kernel_rfl)
def Ql4 : Sk := { tmps := [TS.v true [ci, ci, ci], TS.v true [ci, ci, ci]], boxes := [], rows := [] }
def Qkm : Sk := { tmps := [tf [ci]], boxes := [], rows := [] }
def C_cncref23_Square_0 : Cfg := { spec := Qbq [], eqOk := Qbw, ownOff := ownOff, unroll := [3] }
def mf_cncref23_Square : Fn := Qat Try.prog C_cncref23_Square_0 64 110 Ql4 Qkm
theorem mf_cncref23_Square_eq (x0 x1 x2 x3 x4 x5 : Int) : mf_cncref23_Square [I x0, I x1, I x2, I x3, I x4, I x5] =
 some [I (IntKind.i64.wrap (IntKind.i64.wrap (IntKind.i64.wrap (0 + IntKind.i64.wrap (IntKind.i64.wrap (x0 - x3) * IntKind.i64.wrap (x0 - x3))) + IntKind.i64.wrap (IntKind.i64.wrap (x1 - x4) * IntKind.i64.wrap (x1 - x4))) + IntKind.i64.wrap (IntKind.i64.wrap (x2 - x5) * IntKind.i64.wrap (x2 - x5))))] := by kernel_rfl
def Qj0 := mf_cncref23_Square 
def sig_cncref24_Minus : Sk := { tmps := [TS.v true [ci, ci, ci], TS.v true [ci, ci, ci]], boxes := [], rows := [] }
def osig_cncref24_Minus : Sk := { tmps := [TS.v true [ci, ci, ci]], boxes := [], rows := [] }
def C_cncref24_Minus_0 : Cfg := { spec := Qbq [], eqOk := Qbw, ownOff := ownOff }
def mf_cncref24_Minus : Fn := Qat Try.prog C_cncref24_Minus_0 64 108 sig_cncref24_Minus osig_cncref24_Minus
theorem mf_cncref24_Minus_eq (x0 x1 x2 x3 x4 x5 : Int) : mf_cncref24_Minus [I x0, I x1, I x2, I x3, I x4, I x5] =
 some [I (IntKind.i64.wrap (x0 - x3)), I (IntKind.i64.wrap (x1 - x4)), I (IntKind.i64.wrap (x2 - x5))] := by kernel_rfl
def Qli := mf_cncref24_Minus 
end Go.Bm
