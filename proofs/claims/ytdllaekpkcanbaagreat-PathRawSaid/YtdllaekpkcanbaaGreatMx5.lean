/- functions of the program and of the references, as models -/
import Derived.Test.YtdllaekpkcanbaaGreatMx4
set_option linter.unusedSimpArgs false
set_option linter.unusedVariables false
set_option maxRecDepth 100000
noncomputable section
namespace Go.Bm
open Go.Proofs
def sig_cncmill_Items : Sk := { tmps := [tf [CS.sl Qbo], tf [ci], tf [CS.bool]], boxes := [], rows := [] }
def osig_cncmill_Items : Sk := { tmps := [tf [CS.own 8 22]], boxes := [], rows := [(8, 67, kItm)] }
def C_cncmill_Items_0 (Qdg Qd0 Qcc Qaa Qei : Fn) : Cfg := { spec := Qbx [(76, spOf sig_cncmill_motion osig_cncmill_motion Qdg), (75, spOf sig_cncmill_other osig_cncmill_other Qd0), (74, spOf sig_cncmill_Source_Left osig_cncmill_Source_Left Qcc), (73, spOf Qer Qeb Qaa), (60, spOf sig_cncmill_From osig_cncmill_From Qei)], eqOk := Qb2, pure := fun f => !(Qft [76, 75, 74, 73, 60] f), ownOff := ownOff, ownRes := true, prom := fun b => bif Nat.beq b 4 then [(8, 67)] else [] }
def sk_cncmill_Items_4 : Sk := { tmps := [td, tf [ci], tf [CS.bool], td, td, td, td, tf [CS.ptr 101300 0], tf [CS.own 8 22], tf [CS.ptr 9 0]] ++ dd 64, boxes := [(9, 65, [ci, ci, ci]), (101300, 122, [CS.sl Qbo, ci])], rows := [(8, 67, kItm)] }
def ex_cncmill_Items_4 : List (Ex × Sk) := [(Ex.exit 0, { tmps := [td, td, tf [CS.bool], td, td, td, td, td, tf [CS.own 8 22]] ++ dd 65, boxes := [], rows := [(8, 67, kItm)] })]
def st_cncmill_Items_4 (Qdg Qd0 Qcc Qaa Qei : Fn) : Lp := stepL Tryz.prog (C_cncmill_Items_0 Qdg Qd0 Qcc Qaa Qei) 64 4 (Qf0 Tryz.prog 41 4) sk_cncmill_Items_4 ex_cncmill_Items_4
def C_cncmill_Items_1 (Qdg Qd0 Qcc Qaa Qei : Fn) (N4 : Lp) : Cfg := (C_cncmill_Items_0 Qdg Qd0 Qcc Qaa Qei).loop 4 sk_cncmill_Items_4 ex_cncmill_Items_4 N4
def mf_cncmill_Items (Qdg Qd0 Qcc Qaa Qei : Fn) (N4 : Lp) : Fn := Qax Tryz.prog (C_cncmill_Items_1 Qdg Qd0 Qcc Qaa Qei N4) 64 41 sig_cncmill_Items osig_cncmill_Items
theorem st_cncmill_Items_4_eq (Qdg Qd0 Qcc Qaa Qei : Fn) (v0 : Rw) (v1 : Int) (v2 : Bool) (v3 v4 v5 : Int) (v6 : Rw) (v7 : Int) : st_cncmill_Items_4 Qdg Qd0 Qcc Qaa Qei [.view kItm v0, I v1, B v2, I v3, I v4, I v5, .view Qbo v6, I v7] =
 bif decide ((v0.length : Int) < v1) then
 (Qcc [.view Qbo v6, I v7]).bind fun o25 =>
 bif bA o25 0 then
 (Qaa [I 12, .view Qbo (wA o25 1), jA o25 2]).bind fun o26 =>
 bif decide (gA o26 0 < 4) then
 (Qd0 [.view Qbo (wA o26 1), jA o26 2]).bind fun o27 =>
 bif ((v0 ++ [[jA o27 0, jA o27 1, jA o27 2, jA o27 3, jA o27 4, jA o27 5, jA o27 6, jA o27 7, jA o27 8, jA o27 9, jA o27 10, jA o27 11, jA o27 12, B (bA o27 13), jA o27 14, B (bA o27 15), jA o27 16, jA o27 17, jA o27 18, jA o27 19, jA o27 20, B (bA o27 21)]]).length * 176).ble 140737488355328 then
 some (0, [.view kItm (v0 ++ [[jA o27 0, jA o27 1, jA o27 2, jA o27 3, jA o27 4, jA o27 5, jA o27 6, jA o27 7, jA o27 8, jA o27 9, jA o27 10, jA o27 11, jA o27 12, B (bA o27 13), jA o27 14, B (bA o27 15), jA o27 16, jA o27 17, jA o27 18, jA o27 19, jA o27 20, B (bA o27 21)]]), I v1, B v2, I v3, I v4, I v5, .view Qbo (wA o27 22), jA o27 23])
 else
 none
 else
 bif decide (0 <= IntKind.i64.wrap (gA o26 0 - 4)) && decide (IntKind.i64.wrap (gA o26 0 - 4) < (↑[[I 2], [I 2], [I 2], [I 3], [I 1], [I 6], [I 5], [I 4]].length : Int)) then
 (Qdg [I v3, I v4, I v5, I (Qas (nth .dead (nth [] [[I 2], [I 2], [I 2], [I 3], [I 1], [I 6], [I 5], [I 4]] (IntKind.i64.wrap (gA o26 0 - 4)).toNat) 0)), .view Qbo (wA o26 1), jA o26 2]).bind fun o28 =>
 bif gA o28 0 == 5 then
 (Qaa [I 2, .view Qbo (wA o28 22), jA o28 23]).bind fun o29 =>
 (Qaa [I 3000, .view Qbo (wA o29 1), jA o29 2]).bind fun o30 =>
 bif ((v0 ++ [[I 8, I 0, I 0, I 0, I 0, I 0, I 0, I 0, I 0, I 0, I 0, I 0, I 0, B false, I 0, B false, I 0, I 0, I 0, I (IntKind.i64.wrap (3 + gA o29 0)), I (IntKind.i64.wrap (200 + gA o30 0)), B false]]).length * 176).ble 140737488355328 then
 bif ((v0 ++ [[I 8, I 0, I 0, I 0, I 0, I 0, I 0, I 0, I 0, I 0, I 0, I 0, I 0, B false, I 0, B false, I 0, I 0, I 0, I (IntKind.i64.wrap (3 + gA o29 0)), I (IntKind.i64.wrap (200 + gA o30 0)), B false]] ++ [[jA o28 0, jA o28 1, jA o28 2, jA o28 3, jA o28 4, jA o28 5, jA o28 6, jA o28 7, jA o28 8, jA o28 9, jA o28 10, jA o28 11, jA o28 12, B (bA o28 13), jA o28 14, B (bA o28 15), jA o28 16, jA o28 17, jA o28 18, jA o28 19, jA o28 20, B (bA o28 21)]]).length * 176).ble 140737488355328 then
 some (0, [.view kItm (v0 ++ [[I 8, I 0, I 0, I 0, I 0, I 0, I 0, I 0, I 0, I 0, I 0, I 0, I 0, B false, I 0, B false, I 0, I 0, I 0, I (IntKind.i64.wrap (3 + gA o29 0)), I (IntKind.i64.wrap (200 + gA o30 0)), B false]] ++ [[jA o28 0, jA o28 1, jA o28 2, jA o28 3, jA o28 4, jA o28 5, jA o28 6, jA o28 7, jA o28 8, jA o28 9, jA o28 10, jA o28 11, jA o28 12, B (bA o28 13), jA o28 14, B (bA o28 15), jA o28 16, jA o28 17, jA o28 18, jA o28 19, jA o28 20, B (bA o28 21)]]), I v1, B v2, jA o28 5, jA o28 6, jA o28 7, .view Qbo (wA o30 1), jA o30 2])
 else
 none
 else
 none
 else
 bif ((v0 ++ [[jA o28 0, jA o28 1, jA o28 2, jA o28 3, jA o28 4, jA o28 5, jA o28 6, jA o28 7, jA o28 8, jA o28 9, jA o28 10, jA o28 11, jA o28 12, B (bA o28 13), jA o28 14, B (bA o28 15), jA o28 16, jA o28 17, jA o28 18, jA o28 19, jA o28 20, B (bA o28 21)]]).length * 176).ble 140737488355328 then
 some (0, [.view kItm (v0 ++ [[jA o28 0, jA o28 1, jA o28 2, jA o28 3, jA o28 4, jA o28 5, jA o28 6, jA o28 7, jA o28 8, jA o28 9, jA o28 10, jA o28 11, jA o28 12, B (bA o28 13), jA o28 14, B (bA o28 15), jA o28 16, jA o28 17, jA o28 18, jA o28 19, jA o28 20, B (bA o28 21)]]), I v1, B v2, jA o28 5, jA o28 6, jA o28 7, .view Qbo (wA o28 22), jA o28 23])
 else
 none
 else
 none
 else
 some (1, [.view kItm v0, B v2])
 else
 some (1, [.view kItm v0, B v2]) := by kernel_rfl
theorem mf_cncmill_Items_eq (Qdg Qd0 Qcc Qaa Qei : Fn) (N4 : Lp) (x0 : Rw) (x1 : Int) (x2 : Bool) : mf_cncmill_Items Qdg Qd0 Qcc Qaa Qei N4 [.view Qbo x0, I x1, B x2] =
 (Qei [.view Qbo x0]).bind fun o31 =>
 (Qaa [I 9, .view Qbo (wA o31 0), jA o31 1]).bind fun o32 =>
 (Qaa [I 9, .view Qbo (wA o32 1), jA o32 2]).bind fun o33 =>
 (Qaa [I 9, .view Qbo (wA o33 1), jA o33 2]).bind fun o34 =>
 (N4 [.view kItm [], I x1, B x2, I (IntKind.i64.wrap (gA o32 0 - 4)), I (IntKind.i64.wrap (gA o33 0 - 4)), I (IntKind.i64.wrap (gA o34 0 - 4)), .view Qbo (wA o34 1), jA o34 2]).bind fun o35 =>
 bif o35.1.beq 1 then
 bif bA o35.2 1 then
 bif ((wA o35.2 0 ++ [[I 14, I 0, I 0, I 0, I 0, I 0, I 0, I 0, I 0, I 0, I 0, I 0, I 0, B false, I 0, B false, I 0, I 0, I 0, I 0, I 0, B false]]).length * 176).ble 140737488355328 then
 some [.view kItm (wA o35.2 0 ++ [[I 14, I 0, I 0, I 0, I 0, I 0, I 0, I 0, I 0, I 0, I 0, I 0, I 0, B false, I 0, B false, I 0, I 0, I 0, I 0, I 0, B false]])]
 else
 none
 else
 some [.view kItm (wA o35.2 0)]
 else
 none := by kernel_rfl
def l_cncmill_Items_4 := Qbl (st_cncmill_Items_4 Qgt Qh4 Qdt Qbg Qhi )
def m_cncmill_Items := mf_cncmill_Items Qgt Qh4 Qdt Qbg Qhi l_cncmill_Items_4
theorem sp_cncmill_Items : Qak Tryz.prog (C_cncmill_Items_0 Qgt Qh4 Qdt Qbg Qhi) := Qae rfl ⟨r_cncmill_motion, r_cncmill_other, r_cncmill_Source_Left, r_cncmill_Source_Next, r_cncmill_From, trivial⟩
theorem r_cncmill_Items : Qbm Tryz.prog (41, spOf sig_cncmill_Items osig_cncmill_Items m_cncmill_Items) := Qa0 (C := (C_cncmill_Items_1 Qgt Qh4 Qdt Qbg Qhi l_cncmill_Items_4)) (L := 64) (by kernel_rfl) ((FnOK.bare rfl rfl rfl).loop sp_cncmill_Items eqOk Qa9 (by kernel_rfl) (by kernel_rfl)) sp_cncmill_Items eqOk Qa9 (by kernel_rfl) (by kernel_rfl)
end Go.Bm
