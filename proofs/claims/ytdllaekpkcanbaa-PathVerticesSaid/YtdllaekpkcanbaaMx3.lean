/- functions of the program and of the references, as models -/
import Derived.Test.YtdllaekpkcanbaaMx2
set_option linter.unusedSimpArgs false
set_option linter.unusedVariables false
set_option maxRecDepth 100000
noncomputable section
namespace Go.Bm
open Go.Proofs
def sig_cncref23_Motion : Sk := { tmps := [tf [ci]], boxes := [], rows := [] }
def osig_cncref23_Motion : Sk := { tmps := [tf [CS.bool]], boxes := [], rows := [] }
def C_cncref23_Motion_0 : Cfg := { spec := lookS [], eqOk := eqAll, ownOff := ownOff }
def mf_cncref23_Motion : Fn := modelF Try.prog C_cncref23_Motion_0 64 48 sig_cncref23_Motion osig_cncref23_Motion
theorem mf_cncref23_Motion_eq (x0 : Int) : mf_cncref23_Motion [I x0] =
 bif decide (x0 >= 1) then
 some [B (decide (x0 <= 6))]
 else
 some [B false] := by kernel_rfl
def m_cncref23_Motion := mf_cncref23_Motion 
theorem sp_cncref23_Motion : SpecOK Try.prog (C_cncref23_Motion_0 ) := specOK_of rfl trivial
theorem r_cncref23_Motion : RowOK Try.prog (48, spOf sig_cncref23_Motion osig_cncref23_Motion m_cncref23_Motion) := row_of (C := C_cncref23_Motion_0) (L := 64) (by kernel_rfl) (FnOK.bare rfl rfl rfl) sp_cncref23_Motion eqOk mixOk (by kernel_rfl) (by kernel_rfl)
def sig_cncmill_other : Sk := { tmps := [tf [CS.ptr 20000 0]], boxes := [(20000, 138, [CS.sl kInts, ci])], rows := [] }
def osig_cncmill_other : Sk := { tmps := [TS.v true [ci, ci, ci, ci, ci, ci, ci, ci, ci, ci, ci, ci, ci, CS.bool, ci, CS.bool, ci, ci, ci, ci, ci, CS.bool]], boxes := [(20000, 138, [CS.sl kInts, ci])], rows := [] }
def C_cncmill_other_0 (M_cncmill_Source_Next : Fn) : Cfg := { spec := lookS [(61, spOf sig_cncmill_Source_Next osig_cncmill_Source_Next M_cncmill_Source_Next)], eqOk := eqAll, pure := fun f => !(elemN [61] f), ownOff := ownOff }
def mf_cncmill_other (M_cncmill_Source_Next : Fn) : Fn := modelF Try.prog (C_cncmill_other_0 M_cncmill_Source_Next) 64 99 sig_cncmill_other osig_cncmill_other
abbrev g_cncmill_other_1 (M_cncmill_Source_Next : Fn) (o8 : List AC) : Option (List AC) :=
 (M_cncmill_Source_Next [I 16, .view kInts (wA o8 1), jA o8 2]).bind fun o9 =>
 (M_cncmill_Source_Next [I 2, .view kInts (wA o9 1), jA o9 2]).bind fun o10 =>
 some [I 10, I 0, I 0, I 0, I 0, I 0, I 0, I 0, I 0, I 0, I 0, I 0, I 0, B false, I 0, B false, I 0, I 0, I 0, jA o9 0, I 0, B (gA o10 0 == 0), .view kInts (wA o10 1), jA o10 2]
attribute [go_sem] g_cncmill_other_1
theorem mf_cncmill_other_eq (M_cncmill_Source_Next : Fn) (x0 : Rw) (x1 : Int) : mf_cncmill_other M_cncmill_Source_Next [.view kInts x0, I x1] =
 (M_cncmill_Source_Next [I 8, .view kInts x0, I x1]).bind fun o8 =>
 bif gA o8 0 == 0 then
 g_cncmill_other_1 M_cncmill_Source_Next o8
 else
 bif gA o8 0 == 1 then
 g_cncmill_other_1 M_cncmill_Source_Next o8
 else
 bif gA o8 0 == 2 then
 (M_cncmill_Source_Next [I 5, .view kInts (wA o8 1), jA o8 2]).bind fun o13 =>
 some [I 7, I 0, I 0, I 0, I 0, I 0, I 0, I 0, I 0, I 0, I 0, I 0, I 0, B false, I 0, B false, I 0, I 0, I 0, jA o13 0, I 0, B false, .view kInts (wA o13 1), jA o13 2]
 else
 bif gA o8 0 == 3 then
 (M_cncmill_Source_Next [I 3, .view kInts (wA o8 1), jA o8 2]).bind fun o14 =>
 (M_cncmill_Source_Next [I 4000, .view kInts (wA o14 1), jA o14 2]).bind fun o15 =>
 some [I 8, I 0, I 0, I 0, I 0, I 0, I 0, I 0, I 0, I 0, I 0, I 0, I 0, B false, I 0, B false, I 0, I 0, I 0, I (IntKind.i64.wrap (3 + gA o14 0)), jA o15 0, B false, .view kInts (wA o15 1), jA o15 2]
 else
 bif gA o8 0 == 4 then
 some [I 9, I 0, I 0, I 0, I 0, I 0, I 0, I 0, I 0, I 0, I 0, I 0, I 0, B false, I 0, B false, I 0, I 0, I 0, I 8, I 0, B true, .view kInts (wA o8 1), jA o8 2]
 else
 bif gA o8 0 == 5 then
 some [I 13, I 0, I 0, I 0, I 0, I 0, I 0, I 0, I 0, I 0, I 0, I 0, I 0, B false, I 0, B false, I 0, I 0, I 0, I 0, I 0, B false, .view kInts (wA o8 1), jA o8 2]
 else
 bif gA o8 0 == 6 then
 some [I 12, I 0, I 0, I 0, I 0, I 0, I 0, I 0, I 0, I 0, I 0, I 0, I 0, B false, I 0, B false, I 0, I 0, I 0, I 0, I 0, B false, .view kInts (wA o8 1), jA o8 2]
 else
 some [I 11, I 0, I 0, I 0, I 0, I 0, I 0, I 0, I 0, I 0, I 0, I 0, I 0, B false, I 0, B false, I 0, I 0, I 0, I 1, I 0, B false, .view kInts (wA o8 1), jA o8 2] := by kernel_rfl
def m_cncmill_other := mf_cncmill_other m_cncmill_Source_Next 
theorem sp_cncmill_other : SpecOK Try.prog (C_cncmill_other_0 m_cncmill_Source_Next) := specOK_of rfl ⟨r_cncmill_Source_Next, trivial⟩
theorem r_cncmill_other : RowOK Try.prog (99, spOf sig_cncmill_other osig_cncmill_other m_cncmill_other) := row_of (C := (C_cncmill_other_0 m_cncmill_Source_Next)) (L := 64) (by kernel_rfl) (FnOK.bare rfl rfl rfl) sp_cncmill_other eqOk mixOk (by kernel_rfl) (by kernel_rfl)
def sig_cncmill_Items : Sk := { tmps := [tf [CS.sl kInts], tf [ci], tf [CS.bool]], boxes := [], rows := [] }
def osig_cncmill_Items : Sk := { tmps := [tf [CS.sl kItm]], boxes := [], rows := [] }
def C_cncmill_Items_0 (M_cncmill_motion M_cncmill_other M_cncmill_Source_Left M_cncmill_Source_Next M_cncmill_From : Fn) : Cfg := { spec := lookS [(79, spOf sig_cncmill_motion osig_cncmill_motion M_cncmill_motion), (99, spOf sig_cncmill_other osig_cncmill_other M_cncmill_other), (78, spOf sig_cncmill_Source_Left osig_cncmill_Source_Left M_cncmill_Source_Left), (61, spOf sig_cncmill_Source_Next osig_cncmill_Source_Next M_cncmill_Source_Next), (59, spOf sig_cncmill_From osig_cncmill_From M_cncmill_From)], eqOk := eqAll, pure := fun f => !(elemN [79, 99, 78, 61, 59] f), ownOff := ownOff, prom := fun b => bif Nat.beq b 4 then [(8, 33)] else [] }
def sk_cncmill_Items_4 : Sk := { tmps := [td, tf [ci], tf [CS.bool], td, td, td, td, tf [CS.ptr 101300 0], tf [CS.own 8 22], tf [CS.ptr 9 0]] ++ dd 64, boxes := [(9, 31, [ci, ci, ci]), (101300, 138, [CS.sl kInts, ci])], rows := [(8, 33, kItm)] }
def ex_cncmill_Items_4 : List (Ex × Sk) := [(Ex.exit 0, { tmps := [td, td, tf [CS.bool], td, td, td, td, td, tf [CS.own 8 22]] ++ dd 65, boxes := [], rows := [(8, 33, kItm)] })]
def st_cncmill_Items_4 (M_cncmill_motion M_cncmill_other M_cncmill_Source_Left M_cncmill_Source_Next M_cncmill_From : Fn) : Lp := stepL Try.prog (C_cncmill_Items_0 M_cncmill_motion M_cncmill_other M_cncmill_Source_Left M_cncmill_Source_Next M_cncmill_From) 64 4 (bodyOf Try.prog 47 4) sk_cncmill_Items_4 ex_cncmill_Items_4
def C_cncmill_Items_1 (M_cncmill_motion M_cncmill_other M_cncmill_Source_Left M_cncmill_Source_Next M_cncmill_From : Fn) (N4 : Lp) : Cfg := (C_cncmill_Items_0 M_cncmill_motion M_cncmill_other M_cncmill_Source_Left M_cncmill_Source_Next M_cncmill_From).loop 4 sk_cncmill_Items_4 ex_cncmill_Items_4 N4
def mf_cncmill_Items (M_cncmill_motion M_cncmill_other M_cncmill_Source_Left M_cncmill_Source_Next M_cncmill_From : Fn) (N4 : Lp) : Fn := modelF Try.prog (C_cncmill_Items_1 M_cncmill_motion M_cncmill_other M_cncmill_Source_Left M_cncmill_Source_Next M_cncmill_From N4) 64 47 sig_cncmill_Items osig_cncmill_Items
theorem st_cncmill_Items_4_eq (M_cncmill_motion M_cncmill_other M_cncmill_Source_Left M_cncmill_Source_Next M_cncmill_From : Fn) (v0 : Rw) (v1 : Int) (v2 : Bool) (v3 v4 v5 : Int) (v6 : Rw) (v7 : Int) : st_cncmill_Items_4 M_cncmill_motion M_cncmill_other M_cncmill_Source_Left M_cncmill_Source_Next M_cncmill_From [.view kItm v0, I v1, B v2, I v3, I v4, I v5, .view kInts v6, I v7] =
 bif decide ((v0.length : Int) < v1) then
 (M_cncmill_Source_Left [.view kInts v6, I v7]).bind fun o25 =>
 bif bA o25 0 then
 (M_cncmill_Source_Next [I 12, .view kInts (wA o25 1), jA o25 2]).bind fun o26 =>
 bif decide (gA o26 0 < 4) then
 (M_cncmill_other [.view kInts (wA o26 1), jA o26 2]).bind fun o27 =>
 bif ((v0 ++ [[jA o27 0, jA o27 1, jA o27 2, jA o27 3, jA o27 4, jA o27 5, jA o27 6, jA o27 7, jA o27 8, jA o27 9, jA o27 10, jA o27 11, jA o27 12, B (bA o27 13), jA o27 14, B (bA o27 15), jA o27 16, jA o27 17, jA o27 18, jA o27 19, jA o27 20, B (bA o27 21)]]).length * 176).ble 140737488355328 then
 some (0, [.view kItm (v0 ++ [[jA o27 0, jA o27 1, jA o27 2, jA o27 3, jA o27 4, jA o27 5, jA o27 6, jA o27 7, jA o27 8, jA o27 9, jA o27 10, jA o27 11, jA o27 12, B (bA o27 13), jA o27 14, B (bA o27 15), jA o27 16, jA o27 17, jA o27 18, jA o27 19, jA o27 20, B (bA o27 21)]]), I v1, B v2, I v3, I v4, I v5, .view kInts (wA o27 22), jA o27 23])
 else
 none
 else
 bif decide (0 <= IntKind.i64.wrap (gA o26 0 - 4)) && decide (IntKind.i64.wrap (gA o26 0 - 4) < (↑[[I 2], [I 2], [I 2], [I 3], [I 1], [I 6], [I 5], [I 4]].length : Int)) then
 (M_cncmill_motion [I v3, I v4, I v5, I (intOf (nth .dead (nth [] [[I 2], [I 2], [I 2], [I 3], [I 1], [I 6], [I 5], [I 4]] (IntKind.i64.wrap (gA o26 0 - 4)).toNat) 0)), .view kInts (wA o26 1), jA o26 2]).bind fun o28 =>
 bif gA o28 0 == 5 then
 (M_cncmill_Source_Next [I 2, .view kInts (wA o28 22), jA o28 23]).bind fun o29 =>
 (M_cncmill_Source_Next [I 3000, .view kInts (wA o29 1), jA o29 2]).bind fun o30 =>
 bif ((v0 ++ [[I 8, I 0, I 0, I 0, I 0, I 0, I 0, I 0, I 0, I 0, I 0, I 0, I 0, B false, I 0, B false, I 0, I 0, I 0, I (IntKind.i64.wrap (3 + gA o29 0)), I (IntKind.i64.wrap (200 + gA o30 0)), B false]]).length * 176).ble 140737488355328 then
 bif ((v0 ++ [[I 8, I 0, I 0, I 0, I 0, I 0, I 0, I 0, I 0, I 0, I 0, I 0, I 0, B false, I 0, B false, I 0, I 0, I 0, I (IntKind.i64.wrap (3 + gA o29 0)), I (IntKind.i64.wrap (200 + gA o30 0)), B false]] ++ [[jA o28 0, jA o28 1, jA o28 2, jA o28 3, jA o28 4, jA o28 5, jA o28 6, jA o28 7, jA o28 8, jA o28 9, jA o28 10, jA o28 11, jA o28 12, B (bA o28 13), jA o28 14, B (bA o28 15), jA o28 16, jA o28 17, jA o28 18, jA o28 19, jA o28 20, B (bA o28 21)]]).length * 176).ble 140737488355328 then
 some (0, [.view kItm (v0 ++ [[I 8, I 0, I 0, I 0, I 0, I 0, I 0, I 0, I 0, I 0, I 0, I 0, I 0, B false, I 0, B false, I 0, I 0, I 0, I (IntKind.i64.wrap (3 + gA o29 0)), I (IntKind.i64.wrap (200 + gA o30 0)), B false]] ++ [[jA o28 0, jA o28 1, jA o28 2, jA o28 3, jA o28 4, jA o28 5, jA o28 6, jA o28 7, jA o28 8, jA o28 9, jA o28 10, jA o28 11, jA o28 12, B (bA o28 13), jA o28 14, B (bA o28 15), jA o28 16, jA o28 17, jA o28 18, jA o28 19, jA o28 20, B (bA o28 21)]]), I v1, B v2, jA o28 5, jA o28 6, jA o28 7, .view kInts (wA o30 1), jA o30 2])
 else
 none
 else
 none
 else
 bif ((v0 ++ [[jA o28 0, jA o28 1, jA o28 2, jA o28 3, jA o28 4, jA o28 5, jA o28 6, jA o28 7, jA o28 8, jA o28 9, jA o28 10, jA o28 11, jA o28 12, B (bA o28 13), jA o28 14, B (bA o28 15), jA o28 16, jA o28 17, jA o28 18, jA o28 19, jA o28 20, B (bA o28 21)]]).length * 176).ble 140737488355328 then
 some (0, [.view kItm (v0 ++ [[jA o28 0, jA o28 1, jA o28 2, jA o28 3, jA o28 4, jA o28 5, jA o28 6, jA o28 7, jA o28 8, jA o28 9, jA o28 10, jA o28 11, jA o28 12, B (bA o28 13), jA o28 14, B (bA o28 15), jA o28 16, jA o28 17, jA o28 18, jA o28 19, jA o28 20, B (bA o28 21)]]), I v1, B v2, jA o28 5, jA o28 6, jA o28 7, .view kInts (wA o28 22), jA o28 23])
 else
 none
 else
 none
 else
 some (1, [.view kItm v0, B v2])
 else
 some (1, [.view kItm v0, B v2]) := by kernel_rfl
theorem mf_cncmill_Items_eq (M_cncmill_motion M_cncmill_other M_cncmill_Source_Left M_cncmill_Source_Next M_cncmill_From : Fn) (N4 : Lp) (x0 : Rw) (x1 : Int) (x2 : Bool) : mf_cncmill_Items M_cncmill_motion M_cncmill_other M_cncmill_Source_Left M_cncmill_Source_Next M_cncmill_From N4 [.view kInts x0, I x1, B x2] =
 (M_cncmill_From [.view kInts x0]).bind fun o31 =>
 (M_cncmill_Source_Next [I 9, .view kInts (wA o31 0), jA o31 1]).bind fun o32 =>
 (M_cncmill_Source_Next [I 9, .view kInts (wA o32 1), jA o32 2]).bind fun o33 =>
 (M_cncmill_Source_Next [I 9, .view kInts (wA o33 1), jA o33 2]).bind fun o34 =>
 (N4 [.view kItm [], I x1, B x2, I (IntKind.i64.wrap (gA o32 0 - 4)), I (IntKind.i64.wrap (gA o33 0 - 4)), I (IntKind.i64.wrap (gA o34 0 - 4)), .view kInts (wA o34 1), jA o34 2]).bind fun o35 =>
 bif o35.1.beq 1 then
 bif bA o35.2 1 then
 bif ((wA o35.2 0 ++ [[I 14, I 0, I 0, I 0, I 0, I 0, I 0, I 0, I 0, I 0, I 0, I 0, I 0, B false, I 0, B false, I 0, I 0, I 0, I 0, I 0, B false]]).length * 176).ble 140737488355328 then
 some [.view kItm (wA o35.2 0 ++ [[I 14, I 0, I 0, I 0, I 0, I 0, I 0, I 0, I 0, I 0, I 0, I 0, I 0, B false, I 0, B false, I 0, I 0, I 0, I 0, I 0, B false]])]
 else
 none
 else
 some [.view kItm (wA o35.2 0)]
 else
 none := by kernel_rfl
def l_cncmill_Items_4 := loopC (st_cncmill_Items_4 m_cncmill_motion m_cncmill_other m_cncmill_Source_Left m_cncmill_Source_Next m_cncmill_From )
def m_cncmill_Items := mf_cncmill_Items m_cncmill_motion m_cncmill_other m_cncmill_Source_Left m_cncmill_Source_Next m_cncmill_From l_cncmill_Items_4
theorem sp_cncmill_Items : SpecOK Try.prog (C_cncmill_Items_0 m_cncmill_motion m_cncmill_other m_cncmill_Source_Left m_cncmill_Source_Next m_cncmill_From) := specOK_of rfl ⟨r_cncmill_motion, r_cncmill_other, r_cncmill_Source_Left, r_cncmill_Source_Next, r_cncmill_From, trivial⟩
theorem r_cncmill_Items : RowOK Try.prog (47, spOf sig_cncmill_Items osig_cncmill_Items m_cncmill_Items) := row_of (C := (C_cncmill_Items_1 m_cncmill_motion m_cncmill_other m_cncmill_Source_Left m_cncmill_Source_Next m_cncmill_From l_cncmill_Items_4)) (L := 64) (by kernel_rfl) ((FnOK.bare rfl rfl rfl).loop sp_cncmill_Items eqOk mixOk (by kernel_rfl) (by kernel_rfl)) sp_cncmill_Items eqOk mixOk (by kernel_rfl) (by kernel_rfl)
def sig_path_Settled : Sk := { tmps := [tf [CS.sl kItm]], boxes := [], rows := [] }
def osig_path_Settled : Sk := { tmps := [tf [ci]], boxes := [], rows := [] }
def C_path_Settled_0 (M_path_smooth M_path_build : Fn) : Cfg := { spec := lookS [(102, spOf sig_path_smooth osig_path_smooth M_path_smooth), (95, spOf sig_path_build osig_path_build M_path_build)], eqOk := eqAll, pure := fun f => !(elemN [95] f), ownOff := ownOff }
def sk_path_Settled_5 : Sk := { tmps := [tf [CS.sl kItm], td, td, tf [CS.ptr 100800 0], td, tf [ci]] ++ dd 47, boxes := [(100800, 125, [ci, ci, ci, CS.own 100800 7, CS.own 100801 3, CS.bool, ci, ci, ci])], rows := [(100800, 74, kSgm), (100801, 79, kPt)] }
def ex_path_Settled_5 : List (Ex × Sk) := [(Ex.ret, { tmps := [td, td, tf [ci]] ++ dd 50, boxes := [], rows := [] }), (Ex.exit 0, { tmps := [td, td, td, tf [CS.ptr 100800 0]] ++ dd 49, boxes := [(100800, 125, [ci, ci, ci, CS.own 100800 7, CS.own 100801 3, CS.bool, ci, ci, ci])], rows := [(100800, 74, kSgm), (100801, 79, kPt)] })]
def st_path_Settled_5 (M_path_smooth M_path_build : Fn) : Lp := stepL Try.prog (C_path_Settled_0 M_path_smooth M_path_build) 64 5 (bodyOf Try.prog 52 5) sk_path_Settled_5 ex_path_Settled_5
def C_path_Settled_1 (M_path_smooth M_path_build : Fn) (N5 : Lp) : Cfg := (C_path_Settled_0 M_path_smooth M_path_build).loop 5 sk_path_Settled_5 ex_path_Settled_5 N5
def mf_path_Settled (M_path_smooth M_path_build : Fn) (N5 : Lp) : Fn := modelF Try.prog (C_path_Settled_1 M_path_smooth M_path_build N5) 64 52 sig_path_Settled osig_path_Settled
theorem st_path_Settled_5_eq (M_path_smooth M_path_build : Fn) (v0 v1 v2 : Rw) (v3 v4 v5 v6 : Int) (v7 : Bool) (v8 v9 v10 : Int) : st_path_Settled_5 M_path_smooth M_path_build [.view kSgm v0, .view kPt v1, .view kItm v2, I v3, I v4, I v5, I v6, B v7, I v8, I v9, I v10] =
 bif decide (v3 >= 0) then
 bif decide (0 <= v3) && decide (v3 < (v2.length : Int)) then
 bif gA (nth [] v2 v3.toNat) 0 == 10 then
 some (0, [.view kSgm v0, .view kPt v1, .view kItm v2, I (IntKind.i64.wrap (v3 - 1)), I v4, I v5, I v6, B v7, I v8, I v9, I v10])
 else
 bif decide (0 <= v3) && decide (v3 < (v2.length : Int)) then
 (M_path_smooth [jA (nth [] v2 v3.toNat) 0, jA (nth [] v2 v3.toNat) 1, jA (nth [] v2 v3.toNat) 2, jA (nth [] v2 v3.toNat) 3, jA (nth [] v2 v3.toNat) 4, jA (nth [] v2 v3.toNat) 5, jA (nth [] v2 v3.toNat) 6, jA (nth [] v2 v3.toNat) 7, jA (nth [] v2 v3.toNat) 8, jA (nth [] v2 v3.toNat) 9, jA (nth [] v2 v3.toNat) 10, jA (nth [] v2 v3.toNat) 11, jA (nth [] v2 v3.toNat) 12, B (bA (nth [] v2 v3.toNat) 13), jA (nth [] v2 v3.toNat) 14, B (bA (nth [] v2 v3.toNat) 15), jA (nth [] v2 v3.toNat) 16, jA (nth [] v2 v3.toNat) 17, jA (nth [] v2 v3.toNat) 18, jA (nth [] v2 v3.toNat) 19, jA (nth [] v2 v3.toNat) 20, B (bA (nth [] v2 v3.toNat) 21)]).bind fun o4 =>
 bif bA o4 0 then
 bif decide (0 <= v3) && decide (v3 < (v2.length : Int)) then
 bif gA (nth [] v2 v3.toNat) 18 != 0 then
 some (1, [I v10])
 else
 some (1, [I v8])
 else
 none
 else
 some (1, [I v8])
 else
 none
 else
 none
 else
 some (2, [.view kSgm v0, .view kPt v1, I v4, I v5, I v6, B v7, I v8, I v9, I v10]) := by kernel_rfl
theorem mf_path_Settled_eq (M_path_smooth M_path_build : Fn) (N5 : Lp) (x0 : Rw) : mf_path_Settled M_path_smooth M_path_build N5 [.view kItm x0] =
 (M_path_build [.view kItm x0]).bind fun o5 =>
 bif gA o5 2 != 0 then
 some [I 0]
 else
 (N5 [.view kSgm (wA o5 0), .view kPt (wA o5 1), .view kItm x0, I (IntKind.i64.wrap ((x0.length : Int) - 1)), jA o5 3, jA o5 4, jA o5 5, B (bA o5 6), jA o5 7, jA o5 8, jA o5 9]).bind fun o6 =>
 bif o6.1.beq 1 then
 some [jA o6.2 0]
 else
 bif o6.1.beq 2 then
 some [jA o6.2 6]
 else
 none := by kernel_rfl
def l_path_Settled_5 := loopC (st_path_Settled_5 m_path_smooth m_path_build )
def m_path_Settled := mf_path_Settled m_path_smooth m_path_build l_path_Settled_5
theorem sp_path_Settled : SpecOK Try.prog (C_path_Settled_0 m_path_smooth m_path_build) := specOK_of rfl ⟨r_path_smooth, r_path_build, trivial⟩
theorem r_path_Settled : RowOK Try.prog (52, spOf sig_path_Settled osig_path_Settled m_path_Settled) := row_of (C := (C_path_Settled_1 m_path_smooth m_path_build l_path_Settled_5)) (L := 64) (by kernel_rfl) ((FnOK.bare rfl rfl rfl).loop sp_path_Settled eqOk mixOk (by kernel_rfl) (by kernel_rfl)) sp_path_Settled eqOk mixOk (by kernel_rfl) (by kernel_rfl)
def sig_cncref23_product : Sk := { tmps := [tf [CS.int .u64], tf [CS.int .u64]], boxes := [], rows := [] }
def osig_cncref23_product : Sk := { tmps := [TS.tup [(false, [CS.int .u64]), (false, [CS.int .u64])]], boxes := [], rows := [] }
def C_cncref23_product_0 : Cfg := { spec := lookS [], eqOk := eqAll, ownOff := ownOff }
def mf_cncref23_product : Fn := modelF Try.prog C_cncref23_product_0 64 187 sig_cncref23_product osig_cncref23_product
theorem mf_cncref23_product_eq (x0 x1 : Int) : mf_cncref23_product [U x0, U x1] =
 some [U (IntKind.u64.wrap (IntKind.u64.wrap (IntKind.u64.wrap (x0.fdiv (2 ^ min (Int.toNat 32) IntKind.u64.bits) * x1.fdiv (2 ^ min (Int.toNat 32) IntKind.u64.bits)) + (IntKind.u64.wrap (IntKind.u64.wrap (x0.fdiv (2 ^ min (Int.toNat 32) IntKind.u64.bits) * IntKind.u64.wrap (↑(BitVec.ofInt IntKind.u64.bits x1 &&& BitVec.ofInt IntKind.u64.bits 4294967295).toNat : Int)) + (IntKind.u64.wrap (IntKind.u64.wrap (↑(BitVec.ofInt IntKind.u64.bits x0 &&& BitVec.ofInt IntKind.u64.bits 4294967295).toNat : Int) * IntKind.u64.wrap (↑(BitVec.ofInt IntKind.u64.bits x1 &&& BitVec.ofInt IntKind.u64.bits 4294967295).toNat : Int))).fdiv (2 ^ min (Int.toNat 32) IntKind.u64.bits))).fdiv (2 ^ min (Int.toNat 32) IntKind.u64.bits)) + (IntKind.u64.wrap (IntKind.u64.wrap (IntKind.u64.wrap (↑(BitVec.ofInt IntKind.u64.bits x0 &&& BitVec.ofInt IntKind.u64.bits 4294967295).toNat : Int) * x1.fdiv (2 ^ min (Int.toNat 32) IntKind.u64.bits)) + IntKind.u64.wrap (↑(BitVec.ofInt IntKind.u64.bits (IntKind.u64.wrap (IntKind.u64.wrap (x0.fdiv (2 ^ min (Int.toNat 32) IntKind.u64.bits) * IntKind.u64.wrap (↑(BitVec.ofInt IntKind.u64.bits x1 &&& BitVec.ofInt IntKind.u64.bits 4294967295).toNat : Int)) + (IntKind.u64.wrap (IntKind.u64.wrap (↑(BitVec.ofInt IntKind.u64.bits x0 &&& BitVec.ofInt IntKind.u64.bits 4294967295).toNat : Int) * IntKind.u64.wrap (↑(BitVec.ofInt IntKind.u64.bits x1 &&& BitVec.ofInt IntKind.u64.bits 4294967295).toNat : Int))).fdiv (2 ^ min (Int.toNat 32) IntKind.u64.bits))) &&& BitVec.ofInt IntKind.u64.bits 4294967295).toNat : Int))).fdiv (2 ^ min (Int.toNat 32) IntKind.u64.bits))), U (IntKind.u64.wrap (↑(BitVec.ofInt IntKind.u64.bits (IntKind.u64.wrap (IntKind.u64.wrap (IntKind.u64.wrap (IntKind.u64.wrap (↑(BitVec.ofInt IntKind.u64.bits x0 &&& BitVec.ofInt IntKind.u64.bits 4294967295).toNat : Int) * x1.fdiv (2 ^ min (Int.toNat 32) IntKind.u64.bits)) + IntKind.u64.wrap (↑(BitVec.ofInt IntKind.u64.bits (IntKind.u64.wrap (IntKind.u64.wrap (x0.fdiv (2 ^ min (Int.toNat 32) IntKind.u64.bits) * IntKind.u64.wrap (↑(BitVec.ofInt IntKind.u64.bits x1 &&& BitVec.ofInt IntKind.u64.bits 4294967295).toNat : Int)) + (IntKind.u64.wrap (IntKind.u64.wrap (↑(BitVec.ofInt IntKind.u64.bits x0 &&& BitVec.ofInt IntKind.u64.bits 4294967295).toNat : Int) * IntKind.u64.wrap (↑(BitVec.ofInt IntKind.u64.bits x1 &&& BitVec.ofInt IntKind.u64.bits 4294967295).toNat : Int))).fdiv (2 ^ min (Int.toNat 32) IntKind.u64.bits))) &&& BitVec.ofInt IntKind.u64.bits 4294967295).toNat : Int)) * 2 ^ min (Int.toNat 32) IntKind.u64.bits)) ||| BitVec.ofInt IntKind.u64.bits (IntKind.u64.wrap (↑(BitVec.ofInt IntKind.u64.bits (IntKind.u64.wrap (IntKind.u64.wrap (↑(BitVec.ofInt IntKind.u64.bits x0 &&& BitVec.ofInt IntKind.u64.bits 4294967295).toNat : Int) * IntKind.u64.wrap (↑(BitVec.ofInt IntKind.u64.bits x1 &&& BitVec.ofInt IntKind.u64.bits 4294967295).toNat : Int))) &&& BitVec.ofInt IntKind.u64.bits 4294967295).toNat : Int))).toNat : Int))] := by kernel_rfl
def m_cncref23_product := mf_cncref23_product 
def sig_cncref23_most : Sk := { tmps := [tf [CS.int .u64], tf [CS.int .u64], tf [CS.int .u64], tf [CS.int .u64], tf [CS.bool]], boxes := [], rows := [] }
def osig_cncref23_most : Sk := { tmps := [tf [CS.bool]], boxes := [], rows := [] }
def C_cncref23_most_0 (M_cncref23_product : Fn) : Cfg := { spec := lookS [(187, spOf sig_cncref23_product osig_cncref23_product M_cncref23_product)], eqOk := eqAll, ownOff := ownOff }
def mf_cncref23_most (M_cncref23_product : Fn) : Fn := modelF Try.prog (C_cncref23_most_0 M_cncref23_product) 64 180 sig_cncref23_most osig_cncref23_most
theorem mf_cncref23_most_eq (M_cncref23_product : Fn) (x0 x1 x2 x3 : Int) (x4 : Bool) : mf_cncref23_most M_cncref23_product [U x0, U x1, U x2, U x3, B x4] =
 (M_cncref23_product [U x0, U x1]).bind fun o2 =>
 (M_cncref23_product [U x2, U x3]).bind fun o3 =>
 bif decide (gA o2 0 < gA o3 0) then
 some [B true]
 else
 bif gA o2 0 == gA o3 0 then
 bif decide (gA o2 1 < gA o3 1) then
 some [B true]
 else
 bif gA o2 1 == gA o3 1 then
 some [B !x4]
 else
 some [B false]
 else
 some [B false] := by kernel_rfl
def m_cncref23_most := mf_cncref23_most m_cncref23_product 
def sig_cncref23_Near : Sk := { tmps := [tf [ci], tf [ci], tf [ci]], boxes := [], rows := [] }
def osig_cncref23_Near : Sk := { tmps := [tf [ci]], boxes := [], rows := [] }
def C_cncref23_Near_0 (M_cncref23_most : Fn) : Cfg := { spec := lookS [(180, spOf sig_cncref23_most osig_cncref23_most M_cncref23_most)], eqOk := eqAll, ownOff := ownOff }
def sk_cncref23_Near_3 : Sk := { tmps := [tf [ci], td, td, td, td, td, td, tf [CS.int .u64], tf [CS.int .u64], tf [CS.int .u64], tf [CS.int .u64]] ++ dd 51, boxes := [], rows := [] }
def ex_cncref23_Near_3 : List (Ex × Sk) := [(Ex.exit 0, { tmps := [tf [ci], td, td, td, td, td, td, tf [CS.int .u64], tf [CS.int .u64], tf [CS.int .u64]] ++ dd 52, boxes := [], rows := [] })]
def st_cncref23_Near_3 (M_cncref23_most : Fn) : Lp := stepL Try.prog (C_cncref23_Near_0 M_cncref23_most) 64 3 (bodyOf Try.prog 170 3) sk_cncref23_Near_3 ex_cncref23_Near_3
def C_cncref23_Near_1 (M_cncref23_most : Fn) (N3 : Lp) : Cfg := (C_cncref23_Near_0 M_cncref23_most).loop 3 sk_cncref23_Near_3 ex_cncref23_Near_3 N3
def mf_cncref23_Near (M_cncref23_most : Fn) (N3 : Lp) : Fn := modelF Try.prog (C_cncref23_Near_1 M_cncref23_most N3) 64 170 sig_cncref23_Near osig_cncref23_Near
theorem st_cncref23_Near_3_eq (M_cncref23_most : Fn) (v0 v1 v2 v3 v4 : Int) : st_cncref23_Near_3 M_cncref23_most [I v0, U v1, U v2, U v3, U v4] =
 bif decide (v4 > 0) then
 (M_cncref23_most [U (IntKind.u64.wrap (IntKind.u64.wrap (v3 + v4) * IntKind.u64.wrap (v3 + v4))), U v2, U v1, U v1, B false]).bind fun o3 =>
 bif bA o3 0 then
 some (0, [I v0, U v1, U v2, U (IntKind.u64.wrap (v3 + v4)), U (v4.fdiv (2 ^ min (Int.toNat 1) IntKind.u64.bits))])
 else
 some (0, [I v0, U v1, U v2, U v3, U (v4.fdiv (2 ^ min (Int.toNat 1) IntKind.u64.bits))])
 else
 some (1, [I v0, U v1, U v2, U v3]) := by kernel_rfl
theorem mf_cncref23_Near_eq (M_cncref23_most : Fn) (N3 : Lp) (x0 x1 x2 : Int) : mf_cncref23_Near M_cncref23_most N3 [I x0, I x1, I x2] =
 (N3 [I x0, U (IntKind.u64.wrap (IntKind.i64.wrap (mx x0 (IntKind.i64.wrap (0 - x0)) * x1))), U (IntKind.u64.wrap x2), U 0, U 134217728]).bind fun o4 =>
 bif o4.1.beq 1 then
 (M_cncref23_most [U (IntKind.u64.wrap (IntKind.u64.wrap (IntKind.u64.wrap (2 * gA o4.2 3) + 1) * IntKind.u64.wrap (IntKind.u64.wrap (2 * gA o4.2 3) + 1))), U (gA o4.2 2), U (IntKind.u64.wrap (2 * gA o4.2 1)), U (IntKind.u64.wrap (2 * gA o4.2 1)), B (decide (gA o4.2 0 < 0))]).bind fun o5 =>
 bif bA o5 0 then
 bif decide (gA o4.2 0 < 0) then
 some [I (IntKind.i64.wrap (0 - IntKind.i64.wrap (IntKind.u64.wrap (gA o4.2 3 + 1))))]
 else
 some [I (IntKind.i64.wrap (IntKind.u64.wrap (gA o4.2 3 + 1)))]
 else
 bif decide (gA o4.2 0 < 0) then
 some [I (IntKind.i64.wrap (0 - IntKind.i64.wrap (gA o4.2 3)))]
 else
 some [I (IntKind.i64.wrap (gA o4.2 3))]
 else
 none := by kernel_rfl
def l_cncref23_Near_3 := loopC (st_cncref23_Near_3 m_cncref23_most )
def m_cncref23_Near := mf_cncref23_Near m_cncref23_most l_cncref23_Near_3
abbrev g_cncref23_Middle_1 (M_cncref23_half : Fn) (x2 x6 : Int) (M_cncref23_Near : Fn) (x3 x7 : Int) (h1_0 h1_1 : Bool) (h1_2 h1_3 h1_4 : AC) : Option (List AC) :=
 bif h1_0 then
 bif h1_1 then
 some [I 0, I 0, I 0, I 0, B false]
 else
 (M_cncref23_half [I x2, I x6]).bind fun o104 =>
 (M_cncref23_Near [h1_2, jA o104 0, h1_3]).bind fun o105 =>
 (M_cncref23_Near [h1_4, jA o104 0, h1_3]).bind fun o106 =>
 (M_cncref23_half [I x3, I x7]).bind fun o107 =>
 some [jA o105 0, jA o106 0, jA o104 0, jA o107 0, B true]
 else
 (M_cncref23_half [I x2, I x6]).bind fun o108 =>
 (M_cncref23_Near [h1_2, jA o108 0, h1_3]).bind fun o109 =>
 (M_cncref23_Near [h1_4, jA o108 0, h1_3]).bind fun o110 =>
 (M_cncref23_half [I x3, I x7]).bind fun o111 =>
 some [jA o109 0, jA o110 0, jA o108 0, jA o111 0, B true]
attribute [go_sem] g_cncref23_Middle_1
abbrev g_cncref23_Middle_2 (M_cncref23_Dot : Fn) (x0 x1 x2 x3 x4 x5 x6 x7 : Int) (M_cncref23_half M_cncref23_Near : Fn) (x8 : Int) : Option (List AC) :=
 (M_cncref23_Dot [I x0, I x1, I x2, I x3, I x4, I x5, I x6, I x7]).bind fun o122 =>
 bif decide (gA o122 0 > 0) then
 g_cncref23_Middle_1 M_cncref23_half x2 x6 M_cncref23_Near x3 x7 (IntKind.i64.wrap (0 - IntKind.i64.wrap (x0 + x4)) == 0) (IntKind.i64.wrap (0 - IntKind.i64.wrap (x1 + x5)) == 0) (I (IntKind.i64.wrap (0 - IntKind.i64.wrap (x0 + x4)))) (I (IntKind.i64.wrap (IntKind.i64.wrap (IntKind.i64.wrap (0 - IntKind.i64.wrap (x0 + x4)) * IntKind.i64.wrap (0 - IntKind.i64.wrap (x0 + x4))) + IntKind.i64.wrap (IntKind.i64.wrap (0 - IntKind.i64.wrap (x1 + x5)) * IntKind.i64.wrap (0 - IntKind.i64.wrap (x1 + x5)))))) (I (IntKind.i64.wrap (0 - IntKind.i64.wrap (x1 + x5))))
 else
 g_cncref23_Middle_1 M_cncref23_half x2 x6 M_cncref23_Near x3 x7 (IntKind.i64.wrap (x8 * IntKind.i64.wrap (x5 - x1)) == 0) (IntKind.i64.wrap (x8 * IntKind.i64.wrap (x0 - x4)) == 0) (I (IntKind.i64.wrap (x8 * IntKind.i64.wrap (x5 - x1)))) (I (IntKind.i64.wrap (IntKind.i64.wrap (IntKind.i64.wrap (x8 * IntKind.i64.wrap (x5 - x1)) * IntKind.i64.wrap (x8 * IntKind.i64.wrap (x5 - x1))) + IntKind.i64.wrap (IntKind.i64.wrap (x8 * IntKind.i64.wrap (x0 - x4)) * IntKind.i64.wrap (x8 * IntKind.i64.wrap (x0 - x4)))))) (I (IntKind.i64.wrap (x8 * IntKind.i64.wrap (x0 - x4))))
attribute [go_sem] g_cncref23_Middle_2
abbrev g_cncref23_Middle_3 (x9 : Bool) (M_cncref23_half : Fn) (x2 x6 : Int) (M_cncref23_Near : Fn) (x3 x7 x0 x1 : Int) (M_cncref23_Dot : Fn) (x4 x5 : Int) (M_cncref23_Cross : Fn) (x8 : Int) : Option (List AC) :=
 bif x9 then
 g_cncref23_Middle_1 M_cncref23_half x2 x6 M_cncref23_Near x3 x7 (IntKind.i64.wrap (0 - x0) == 0) (IntKind.i64.wrap (0 - x1) == 0) (I (IntKind.i64.wrap (0 - x0))) (I (IntKind.i64.wrap (IntKind.i64.wrap (IntKind.i64.wrap (0 - x0) * IntKind.i64.wrap (0 - x0)) + IntKind.i64.wrap (IntKind.i64.wrap (0 - x1) * IntKind.i64.wrap (0 - x1))))) (I (IntKind.i64.wrap (0 - x1)))
 else
 (M_cncref23_Dot [I x0, I x1, I x2, I x3, I x4, I x5, I x6, I x7]).bind fun o112 =>
 bif decide (gA o112 0 > 0) then
 (M_cncref23_Cross [I x0, I x1, I x2, I x3, I x4, I x5, I x6, I x7]).bind fun o113 =>
 bif decide (IntKind.i64.wrap (gA o113 0 * x8) > 0) then
 g_cncref23_Middle_1 M_cncref23_half x2 x6 M_cncref23_Near x3 x7 (IntKind.i64.wrap (x0 + x4) == 0) (IntKind.i64.wrap (x1 + x5) == 0) (I (IntKind.i64.wrap (x0 + x4))) (I (IntKind.i64.wrap (IntKind.i64.wrap (IntKind.i64.wrap (x0 + x4) * IntKind.i64.wrap (x0 + x4)) + IntKind.i64.wrap (IntKind.i64.wrap (x1 + x5) * IntKind.i64.wrap (x1 + x5))))) (I (IntKind.i64.wrap (x1 + x5)))
 else
 g_cncref23_Middle_2 M_cncref23_Dot x0 x1 x2 x3 x4 x5 x6 x7 M_cncref23_half M_cncref23_Near x8
 else
 g_cncref23_Middle_2 M_cncref23_Dot x0 x1 x2 x3 x4 x5 x6 x7 M_cncref23_half M_cncref23_Near x8
attribute [go_sem] g_cncref23_Middle_3
abbrev g_cncref23_Valid_2 (x13 : Bool) (o61 : List AC) (M_cncref23_Cross M_cncref23_Dot : Fn) : Option (List AC) :=
 bif x13 then
 bif gA o61 0 == gA o61 4 then
 some [B (gA o61 1 == gA o61 5)]
 else
 some [B false]
 else
 (M_cncref23_Cross [jA o61 0, jA o61 1, jA o61 2, jA o61 3, jA o61 4, jA o61 5, jA o61 6, jA o61 7]).bind fun o65 =>
 bif gA o65 0 != 0 then
 some [B true]
 else
 (M_cncref23_Dot [jA o61 0, jA o61 1, jA o61 2, jA o61 3, jA o61 4, jA o61 5, jA o61 6, jA o61 7]).bind fun o66 =>
 some [B (decide (gA o66 0 < 0))]
attribute [go_sem] g_cncref23_Valid_2
abbrev g_cncref23_Valid_1 (M_cncref23_within : Fn) (x9 x10 x11 : Int) (M_cncref23_ends : Fn) (x0 x1 x2 x3 x4 x5 x6 x7 x8 x12 : Int) (x13 : Bool) (x14 : Int) (x15 : Bool) (x16 x17 x18 x19 x20 : Int) (x21 : Bool) (M_cncref23_Dot M_cncref01_Cmp M_cncref23_Cross : Fn) : Option (List AC) :=
 (M_cncref23_within [I x9, I x10, I x11]).bind fun o60 =>
 bif !bA o60 0 then
 some [B false]
 else
 (M_cncref23_ends [I x0, I x1, I x2, I x3, I x4, I x5, I x6, I x7, I x8, I x9, I x10, I x11, I x12, B x13, I x14, B x15, I x16, I x17, I x18, I x19, I x20, B x21]).bind fun o61 =>
 (M_cncref23_Dot [jA o61 0, jA o61 1, jA o61 2, jA o61 3, jA o61 0, jA o61 1, jA o61 2, jA o61 3]).bind fun o62 =>
 (M_cncref23_Dot [jA o61 4, jA o61 5, jA o61 6, jA o61 7, jA o61 4, jA o61 5, jA o61 6, jA o61 7]).bind fun o63 =>
 bif decide (gA o62 0 < 64) then
 some [B false]
 else
 bif decide (gA o63 0 < 64) then
 some [B false]
 else
 bif decide (IntKind.i64.wrap (IntKind.i64.wrap (gA o62 0 + gA o63 0) - 16) > 0) then
 (M_cncref01_Cmp [I (IntKind.i64.wrap (IntKind.i64.wrap (gA o62 0 + gA o63 0) - 16)), I (IntKind.i64.wrap (IntKind.i64.wrap (gA o62 0 + gA o63 0) - 16)), I (IntKind.i64.wrap (4 * gA o62 0)), jA o63 0]).bind fun o64 =>
 bif decide (gA o64 0 > 0) then
 some [B false]
 else
 g_cncref23_Valid_2 x13 o61 M_cncref23_Cross M_cncref23_Dot
 else
 g_cncref23_Valid_2 x13 o61 M_cncref23_Cross M_cncref23_Dot
attribute [go_sem] g_cncref23_Valid_1
def sig_cncref24_Add : Sk := { tmps := [TS.v true [ci, ci, ci], TS.v true [ci, ci, ci]], boxes := [], rows := [] }
def osig_cncref24_Add : Sk := { tmps := [TS.v true [ci, ci, ci]], boxes := [], rows := [] }
def C_cncref24_Add_0 : Cfg := { spec := lookS [], eqOk := eqAll, ownOff := ownOff }
def mf_cncref24_Add : Fn := modelF Try.prog C_cncref24_Add_0 64 193 sig_cncref24_Add osig_cncref24_Add
theorem mf_cncref24_Add_eq (x0 x1 x2 x3 x4 x5 : Int) : mf_cncref24_Add [I x0, I x1, I x2, I x3, I x4, I x5] =
 some [I (IntKind.i64.wrap (x0 + x3)), I (IntKind.i64.wrap (x1 + x4)), I (IntKind.i64.wrap (x2 + x5))] := by kernel_rfl
def m_cncref24_Add := mf_cncref24_Add 
def sig_cncref24_Minus : Sk := { tmps := [TS.v true [ci, ci, ci], TS.v true [ci, ci, ci]], boxes := [], rows := [] }
def osig_cncref24_Minus : Sk := { tmps := [TS.v true [ci, ci, ci]], boxes := [], rows := [] }
def C_cncref24_Minus_0 : Cfg := { spec := lookS [], eqOk := eqAll, ownOff := ownOff }
def mf_cncref24_Minus : Fn := modelF Try.prog C_cncref24_Minus_0 64 108 sig_cncref24_Minus osig_cncref24_Minus
theorem mf_cncref24_Minus_eq (x0 x1 x2 x3 x4 x5 : Int) : mf_cncref24_Minus [I x0, I x1, I x2, I x3, I x4, I x5] =
 some [I (IntKind.i64.wrap (x0 - x3)), I (IntKind.i64.wrap (x1 - x4)), I (IntKind.i64.wrap (x2 - x5))] := by kernel_rfl
def m_cncref24_Minus := mf_cncref24_Minus 
def sig_cncref24_Bend : Sk := { tmps := [TS.v true [ci, ci, ci], TS.v true [ci, ci, ci], TS.v true [ci, ci, ci]], boxes := [], rows := [] }
def osig_cncref24_Bend : Sk := { tmps := [tf [ci]], boxes := [], rows := [] }
def C_cncref24_Bend_0 (M_cncref23_Square M_cncref24_Add M_cncref24_Minus : Fn) : Cfg := { spec := lookS [(110, spOf sig_cncref23_Square osig_cncref23_Square M_cncref23_Square), (193, spOf sig_cncref24_Add osig_cncref24_Add M_cncref24_Add), (108, spOf sig_cncref24_Minus osig_cncref24_Minus M_cncref24_Minus)], eqOk := eqAll, ownOff := ownOff }
def mf_cncref24_Bend (M_cncref23_Square M_cncref24_Add M_cncref24_Minus : Fn) : Fn := modelF Try.prog (C_cncref24_Bend_0 M_cncref23_Square M_cncref24_Add M_cncref24_Minus) 64 189 sig_cncref24_Bend osig_cncref24_Bend
theorem mf_cncref24_Bend_eq (M_cncref23_Square M_cncref24_Add M_cncref24_Minus : Fn) (x0 x1 x2 x3 x4 x5 x6 x7 x8 : Int) : mf_cncref24_Bend M_cncref23_Square M_cncref24_Add M_cncref24_Minus [I x0, I x1, I x2, I x3, I x4, I x5, I x6, I x7, I x8] =
 (M_cncref24_Minus [I x0, I x1, I x2, I x3, I x4, I x5]).bind fun o4 =>
 (M_cncref24_Minus [I x6, I x7, I x8, I x3, I x4, I x5]).bind fun o5 =>
 (M_cncref24_Add [jA o4 0, jA o4 1, jA o4 2, jA o5 0, jA o5 1, jA o5 2]).bind fun o6 =>
 (M_cncref23_Square [jA o6 0, jA o6 1, jA o6 2, I 0, I 0, I 0]).bind fun o7 =>
 some [jA o7 0] := by kernel_rfl
def m_cncref24_Bend := mf_cncref24_Bend m_cncref23_Square m_cncref24_Add m_cncref24_Minus 
def sig_cncref24_Pieces : Sk := { tmps := [TS.v true [ci, ci, ci], TS.v true [ci, ci, ci], TS.v true [ci, ci, ci]], boxes := [], rows := [] }
def osig_cncref24_Pieces : Sk := { tmps := [tf [ci]], boxes := [], rows := [] }
def C_cncref24_Pieces_0 (M_cncref24_Bend : Fn) : Cfg := { spec := lookS [(189, spOf sig_cncref24_Bend osig_cncref24_Bend M_cncref24_Bend)], eqOk := eqAll, ownOff := ownOff }
def sk_cncref24_Pieces_2 : Sk := { tmps := [td, td, td, tf [CS.ptr 3 0], tf [CS.ptr 4 0], tf [CS.ptr 5 0], td, tf [ci]] ++ dd 22, boxes := [(3, 23, [ci, ci, ci]), (4, 23, [ci, ci, ci]), (5, 23, [ci, ci, ci])], rows := [] }
def ex_cncref24_Pieces_2 : List (Ex × Sk) := [(Ex.exit 0, { tmps := [td, td, td, td, td, td, td, tf [ci]] ++ dd 22, boxes := [], rows := [] })]
def st_cncref24_Pieces_2 (M_cncref24_Bend : Fn) : Lp := stepL Try.prog (C_cncref24_Pieces_0 M_cncref24_Bend) 64 2 (bodyOf Try.prog 183 2) sk_cncref24_Pieces_2 ex_cncref24_Pieces_2
def C_cncref24_Pieces_1 (M_cncref24_Bend : Fn) (N2 : Lp) : Cfg := (C_cncref24_Pieces_0 M_cncref24_Bend).loop 2 sk_cncref24_Pieces_2 ex_cncref24_Pieces_2 N2
def mf_cncref24_Pieces (M_cncref24_Bend : Fn) (N2 : Lp) : Fn := modelF Try.prog (C_cncref24_Pieces_1 M_cncref24_Bend N2) 64 183 sig_cncref24_Pieces osig_cncref24_Pieces
theorem st_cncref24_Pieces_2_eq (M_cncref24_Bend : Fn) (v0 v1 v2 v3 v4 v5 v6 v7 v8 v9 : Int) : st_cncref24_Pieces_2 M_cncref24_Bend [I v0, I v1, I v2, I v3, I v4, I v5, I v6, I v7, I v8, I v9] =
 bif decide (v0 < 64) then
 (M_cncref24_Bend [I v1, I v2, I v3, I v4, I v5, I v6, I v7, I v8, I v9]).bind fun o2 =>
 bif decide (gA o2 0 > IntKind.i64.wrap (IntKind.i64.wrap (IntKind.i64.wrap (IntKind.i64.wrap (IntKind.i64.wrap (IntKind.i64.wrap (16 * v0) * v0) * v0) * v0) * 4) * 4)) then
 some (0, [I (IntKind.i64.wrap (v0 * 2)), I v1, I v2, I v3, I v4, I v5, I v6, I v7, I v8, I v9])
 else
 some (1, [I v0])
 else
 some (1, [I v0]) := by kernel_rfl
theorem mf_cncref24_Pieces_eq (M_cncref24_Bend : Fn) (N2 : Lp) (x0 x1 x2 x3 x4 x5 x6 x7 x8 : Int) : mf_cncref24_Pieces M_cncref24_Bend N2 [I x0, I x1, I x2, I x3, I x4, I x5, I x6, I x7, I x8] =
 (N2 [I 2, I x0, I x1, I x2, I x3, I x4, I x5, I x6, I x7, I x8]).bind fun o3 =>
 bif o3.1.beq 1 then
 some [jA o3.2 0]
 else
 none := by kernel_rfl
def l_cncref24_Pieces_2 := loopC (st_cncref24_Pieces_2 m_cncref24_Bend )
def m_cncref24_Pieces := mf_cncref24_Pieces m_cncref24_Bend l_cncref24_Pieces_2
end Go.Bm
