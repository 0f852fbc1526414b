/- functions of the program and of the references, as models -/
import Derived.Test.YtdllaekpkcanbaaMx3
set_option linter.unusedSimpArgs false
set_option linter.unusedVariables false
set_option maxRecDepth 100000
noncomputable section
namespace Go.Bm
open Go.Proofs
def sig_cncref23_Length : Sk := { tmps := [TS.v true [ci, ci, ci], TS.v true [ci, ci, ci]], boxes := [], rows := [] }
def osig_cncref23_Length : Sk := { tmps := [tf [ci]], boxes := [], rows := [] }
def C_cncref23_Length_0 (Qgt Qbs : Fn) : Cfg := { spec := Qbq [(142, spOf sig_cncref23_root osig_cncref23_root Qgt), (110, spOf Ql4 Qkm Qbs)], eqOk := Qbw, ownOff := ownOff }
def Qmr (Qgt Qbs : Fn) : Fn := Qat Try.prog (C_cncref23_Length_0 Qgt Qbs) 64 96 sig_cncref23_Length osig_cncref23_Length
theorem mf_cncref23_Length_eq (Qgt Qbs : Fn) (x0 x1 x2 x3 x4 x5 : Int) : Qmr Qgt Qbs [I x0, I x1, I x2, I x3, I x4, I x5] =
 (Qbs [I x0, I x1, I x2, I x3, I x4, I x5]).bind fun o2 =>
 (Qgt [jA o2 0]).bind fun o3 =>
 bif decide (IntKind.i64.wrap (gA o3 0 * gA o3 0) < gA o2 0) then
 some [I (IntKind.i64.wrap (gA o3 0 + 1))]
 else
 some [jA o3 0] := by kernel_rfl
def m_cncref23_Length := Qmr m_cncref23_root Qj0 
def sig_cncref24_Add : Sk := { tmps := [TS.v true [ci, ci, ci], TS.v true [ci, ci, ci]], boxes := [], rows := [] }
def osig_cncref24_Add : Sk := { tmps := [TS.v true [ci, ci, ci]], boxes := [], rows := [] }
def C_cncref24_Add_0 : Cfg := { spec := Qbq [], eqOk := Qbw, ownOff := ownOff }
def mf_cncref24_Add : Fn := Qat Try.prog C_cncref24_Add_0 64 193 sig_cncref24_Add osig_cncref24_Add
theorem mf_cncref24_Add_eq (x0 x1 x2 x3 x4 x5 : Int) : mf_cncref24_Add [I x0, I x1, I x2, I x3, I x4, I x5] =
 some [I (IntKind.i64.wrap (x0 + x3)), I (IntKind.i64.wrap (x1 + x4)), I (IntKind.i64.wrap (x2 + x5))] := by kernel_rfl
def m_cncref24_Add := mf_cncref24_Add 
def sig_cncref24_Bend : Sk := { tmps := [TS.v true [ci, ci, ci], TS.v true [ci, ci, ci], TS.v true [ci, ci, ci]], boxes := [], rows := [] }
def osig_cncref24_Bend : Sk := { tmps := [tf [ci]], boxes := [], rows := [] }
def C_cncref24_Bend_0 (Qbs Qih Qe1 : Fn) : Cfg := { spec := Qbq [(110, spOf Ql4 Qkm Qbs), (193, spOf sig_cncref24_Add osig_cncref24_Add Qih), (108, spOf sig_cncref24_Minus osig_cncref24_Minus Qe1)], eqOk := Qbw, ownOff := ownOff }
def mf_cncref24_Bend (Qbs Qih Qe1 : Fn) : Fn := Qat Try.prog (C_cncref24_Bend_0 Qbs Qih Qe1) 64 189 sig_cncref24_Bend osig_cncref24_Bend
theorem mf_cncref24_Bend_eq (Qbs Qih Qe1 : Fn) (x0 x1 x2 x3 x4 x5 x6 x7 x8 : Int) : mf_cncref24_Bend Qbs Qih Qe1 [I x0, I x1, I x2, I x3, I x4, I x5, I x6, I x7, I x8] =
 (Qe1 [I x0, I x1, I x2, I x3, I x4, I x5]).bind fun o4 =>
 (Qe1 [I x6, I x7, I x8, I x3, I x4, I x5]).bind fun o5 =>
 (Qih [jA o4 0, jA o4 1, jA o4 2, jA o5 0, jA o5 1, jA o5 2]).bind fun o6 =>
 (Qbs [jA o6 0, jA o6 1, jA o6 2, I 0, I 0, I 0]).bind fun o7 =>
 some [jA o7 0] := by kernel_rfl
def Qnr := mf_cncref24_Bend Qj0 m_cncref24_Add Qli 
def sig_cncref24_Pieces : Sk := { tmps := [TS.v true [ci, ci, ci], TS.v true [ci, ci, ci], TS.v true [ci, ci, ci]], boxes := [], rows := [] }
def osig_cncref24_Pieces : Sk := { tmps := [tf [ci]], boxes := [], rows := [] }
def C_cncref24_Pieces_0 (Qct : Fn) : Cfg := { spec := Qbq [(189, spOf sig_cncref24_Bend osig_cncref24_Bend Qct)], eqOk := Qbw, ownOff := ownOff }
def sk_cncref24_Pieces_2 : Sk := { tmps := [td, td, td, tf [CS.ptr 3 0], tf [CS.ptr 4 0], tf [CS.ptr 5 0], td, tf [ci]] ++ dd 22, boxes := [(3, 23, [ci, ci, ci]), (4, 23, [ci, ci, ci]), (5, 23, [ci, ci, ci])], rows := [] }
def ex_cncref24_Pieces_2 : List (Ex × Sk) := [(Ex.exit 0, { tmps := [td, td, td, td, td, td, td, tf [ci]] ++ dd 22, boxes := [], rows := [] })]
def Qe2 (Qct : Fn) : Lp := stepL Try.prog (C_cncref24_Pieces_0 Qct) 64 2 (Qhz Try.prog 183 2) sk_cncref24_Pieces_2 ex_cncref24_Pieces_2
def C_cncref24_Pieces_1 (Qct : Fn) (N2 : Lp) : Cfg := (C_cncref24_Pieces_0 Qct).loop 2 sk_cncref24_Pieces_2 ex_cncref24_Pieces_2 N2
def Qnv (Qct : Fn) (N2 : Lp) : Fn := Qat Try.prog (C_cncref24_Pieces_1 Qct N2) 64 183 sig_cncref24_Pieces osig_cncref24_Pieces
theorem st_cncref24_Pieces_2_eq (Qct : Fn) (v0 v1 v2 v3 v4 v5 v6 v7 v8 v9 : Int) : Qe2 Qct [I v0, I v1, I v2, I v3, I v4, I v5, I v6, I v7, I v8, I v9] =
 bif decide (v0 < 64) then
 (Qct [I v1, I v2, I v3, I v4, I v5, I v6, I v7, I v8, I v9]).bind fun o2 =>
 bif decide (gA o2 0 > IntKind.i64.wrap (IntKind.i64.wrap (IntKind.i64.wrap (IntKind.i64.wrap (IntKind.i64.wrap (IntKind.i64.wrap (16 * v0) * v0) * v0) * v0) * 4) * 4)) then
 some (0, [I (IntKind.i64.wrap (v0 * 2)), I v1, I v2, I v3, I v4, I v5, I v6, I v7, I v8, I v9])
 else
 some (1, [I v0])
 else
 some (1, [I v0]) := by kernel_rfl
theorem mf_cncref24_Pieces_eq (Qct : Fn) (N2 : Lp) (x0 x1 x2 x3 x4 x5 x6 x7 x8 : Int) : Qnv Qct N2 [I x0, I x1, I x2, I x3, I x4, I x5, I x6, I x7, I x8] =
 (N2 [I 2, I x0, I x1, I x2, I x3, I x4, I x5, I x6, I x7, I x8]).bind fun o3 =>
 bif o3.1.beq 1 then
 some [jA o3.2 0]
 else
 none := by kernel_rfl
def l_cncref24_Pieces_2 := Qb1 (Qe2 Qnr )
def m_cncref24_Pieces := Qnv Qnr l_cncref24_Pieces_2
end Go.Bm
