/- functions of the program and of the references, as models -/
import Derived.Test.YtdllaekpkcanbaaMx2
set_option linter.unusedSimpArgs false
set_option linter.unusedVariables false
set_option maxRecDepth 100000
noncomputable section
namespace Go.Bm
open Go.Proofs
abbrev Qii (Qdl : Fn) (o132 : Nat × List AC) (h4_0 : AC) : Option (Nat × List AC) :=
 (Qdl [.view kItm (wA o132.2 2), jA o132.2 6]).bind fun o134 =>
 bif ((wA o132.2 1 ++ [[jA o132.2 3, jA o134 0, jA o132.2 6]]).length * 24).ble 140737488355328 then
 some (0, [.view kSgm (wA o132.2 0), .view kPt (wA o132.2 1 ++ [[jA o132.2 3, jA o134 0, jA o132.2 6]]), .view kItm (wA o132.2 2), jA o132.2 3, jA o132.2 4, h4_0, B (bA o132.2 5), .view kItm (wA o132.2 7), jA o132.2 8, I (IntKind.i64.wrap (gA o132.2 9 + 1)), jA o132.2 10, jA o132.2 11, jA o132.2 12, .view kSgm (wA o132.2 13), .view kPt (wA o132.2 14), jA o132.2 15, jA o132.2 16, jA o132.2 17, jA o132.2 18, jA o132.2 19, jA o132.2 20])
 else
 none
attribute [go_sem] Qii
abbrev Qio (Qen : Fn) (v2 : Rw) (v9 v5 : Int) (N19 : Lp) (v0 v1 : Rw) (v3 : Int) (h1_0 h1_1 : AC) (v7 : Rw) (v8 v10 v11 v12 : Int) (v13 v14 : Rw) (h1_2 h1_3 h1_4 h1_5 h1_6 h1_7 : AC) (o129 : List AC) (Qd7 Qdl : Fn) (h3_0 : AC) : Option (Nat × List AC) :=
 (Qen [.view kItm v2, I v9, I v5]).bind fun o131 =>
 (N19 [.view kSgm v0, .view kPt v1, .view kItm v2, I v3, h1_0, h1_1, I v9, .view kItm v7, I v8, I v9, .view kPt (wA o131 0), I (↑(wA o131 0).length : Int), I 0, I v10, I v11, I v12, .view kSgm v13, .view kPt v14, h1_2, h1_3, h1_4, h1_5, h1_6, h1_7, I 0, I 0, I 0, I 0, I v9, jA o129 0, h3_0]).bind fun o132 =>
 bif o132.1.beq 1 then
 some (1, [jA o132.2 0, jA o132.2 1, jA o132.2 2, jA o132.2 3])
 else
 bif o132.1.beq 2 then
 (Qd7 [.view kItm (wA o132.2 2), jA o132.2 6]).bind fun o133 =>
 bif decide (gA o133 0 >= 0) then
 Qii Qdl o132 (jA o132.2 6)
 else
 Qii Qdl o132 (I (-1))
 else
 none
attribute [go_sem] Qio
abbrev Qin (Qm0 : Fn) (v7 : Rw) (v9 : Int) (Qe7 Qen : Fn) (v2 : Rw) (v5 : Int) (N19 : Lp) (v0 v1 : Rw) (v3 v8 v10 v11 v12 : Int) (v13 v14 : Rw) (Qd7 Qdl : Fn) (h1_0 h1_1 h1_2 h1_3 h1_4 h1_5 h1_6 h1_7 : AC) : Option (Nat × List AC) :=
 (Qm0 [jA (nth [] v7 v9.toNat) 0, jA (nth [] v7 v9.toNat) 1, jA (nth [] v7 v9.toNat) 2, jA (nth [] v7 v9.toNat) 3, jA (nth [] v7 v9.toNat) 4, jA (nth [] v7 v9.toNat) 5, jA (nth [] v7 v9.toNat) 6, jA (nth [] v7 v9.toNat) 7, jA (nth [] v7 v9.toNat) 8, jA (nth [] v7 v9.toNat) 9, jA (nth [] v7 v9.toNat) 10, jA (nth [] v7 v9.toNat) 11, jA (nth [] v7 v9.toNat) 12, B (bA (nth [] v7 v9.toNat) 13), jA (nth [] v7 v9.toNat) 14, B (bA (nth [] v7 v9.toNat) 15), jA (nth [] v7 v9.toNat) 16, jA (nth [] v7 v9.toNat) 17, jA (nth [] v7 v9.toNat) 18, jA (nth [] v7 v9.toNat) 19, jA (nth [] v7 v9.toNat) 20, B (bA (nth [] v7 v9.toNat) 21), h1_0]).bind fun o129 =>
 (Qe7 [jA (nth [] v7 v9.toNat) 0, jA (nth [] v7 v9.toNat) 1, jA (nth [] v7 v9.toNat) 2, jA (nth [] v7 v9.toNat) 3, jA (nth [] v7 v9.toNat) 4, jA (nth [] v7 v9.toNat) 5, jA (nth [] v7 v9.toNat) 6, jA (nth [] v7 v9.toNat) 7, jA (nth [] v7 v9.toNat) 8, jA (nth [] v7 v9.toNat) 9, jA (nth [] v7 v9.toNat) 10, jA (nth [] v7 v9.toNat) 11, jA (nth [] v7 v9.toNat) 12, B (bA (nth [] v7 v9.toNat) 13), jA (nth [] v7 v9.toNat) 14, B (bA (nth [] v7 v9.toNat) 15), jA (nth [] v7 v9.toNat) 16, jA (nth [] v7 v9.toNat) 17, jA (nth [] v7 v9.toNat) 18, jA (nth [] v7 v9.toNat) 19, jA (nth [] v7 v9.toNat) 20, B (bA (nth [] v7 v9.toNat) 21)]).bind fun o130 =>
 bif bA o130 0 then
 Qio Qen v2 v9 v5 N19 v0 v1 v3 h1_0 h1_1 v7 v8 v10 v11 v12 v13 v14 h1_2 h1_3 h1_4 h1_5 h1_6 h1_7 o129 Qd7 Qdl (I (mn (IntKind.i64.wrap (gA (nth [] v7 v9.toNat) 14 * 16)) 16777216))
 else
 Qio Qen v2 v9 v5 N19 v0 v1 v3 h1_0 h1_1 v7 v8 v10 v11 v12 v13 v14 h1_2 h1_3 h1_4 h1_5 h1_6 h1_7 o129 Qd7 Qdl (I 0)
attribute [go_sem] Qin
abbrev g_s_cncref25_Build_7_2 (M_cncref23_Motion : Fn) (v7 : Rw) (v9 : Int) (M_cncref25_other : Fn) (v1 : Rw) (v3 : Int) (v0 v2 : Rw) (v5 : Int) (v6 : Bool) (v8 v10 v11 v12 : Int) (v13 v14 : Rw) (v15 v16 v17 v18 v19 v20 : Int) (M_cncref23_Fine Qm0 Qe7 Qen : Fn) (N19 : Lp) (Qd7 Qdl : Fn) (h2_0 h2_1 : AC) : Option (Nat × List AC) :=
 (M_cncref23_Motion [jA (nth [] v7 v9.toNat) 0]).bind fun o125 =>
 bif !bA o125 0 then
 (M_cncref25_other [jA (nth [] v7 v9.toNat) 0, jA (nth [] v7 v9.toNat) 1, jA (nth [] v7 v9.toNat) 2, jA (nth [] v7 v9.toNat) 3, jA (nth [] v7 v9.toNat) 4, jA (nth [] v7 v9.toNat) 5, jA (nth [] v7 v9.toNat) 6, jA (nth [] v7 v9.toNat) 7, jA (nth [] v7 v9.toNat) 8, jA (nth [] v7 v9.toNat) 9, jA (nth [] v7 v9.toNat) 10, jA (nth [] v7 v9.toNat) 11, jA (nth [] v7 v9.toNat) 12, B (bA (nth [] v7 v9.toNat) 13), jA (nth [] v7 v9.toNat) 14, B (bA (nth [] v7 v9.toNat) 15), jA (nth [] v7 v9.toNat) 16, jA (nth [] v7 v9.toNat) 17, jA (nth [] v7 v9.toNat) 18, jA (nth [] v7 v9.toNat) 19, jA (nth [] v7 v9.toNat) 20, B (bA (nth [] v7 v9.toNat) 21)]).bind fun o126 =>
 bif ((v1 ++ [[I v3, jA o126 0, I v9]]).length * 24).ble 140737488355328 then
 some (0, [.view kSgm v0, .view kPt (v1 ++ [[I v3, jA o126 0, I v9]]), .view kItm v2, I v3, h2_0, I v5, B v6, .view kItm v7, I v8, I (IntKind.i64.wrap (v9 + 1)), I v10, I v11, I v12, .view kSgm v13, .view kPt v14, I v15, I v16, I v17, I v18, I v19, I v20])
 else
 none
 else
 bif !v6 then
 (M_cncref23_Fine [jA (nth [] v7 v9.toNat) 2, jA (nth [] v7 v9.toNat) 3, jA (nth [] v7 v9.toNat) 4]).bind fun o127 =>
 (M_cncref23_Fine [jA (nth [] v7 v9.toNat) 2, jA (nth [] v7 v9.toNat) 3, jA (nth [] v7 v9.toNat) 4]).bind fun o128 =>
 Qin Qm0 v7 v9 Qe7 Qen v2 v5 N19 v0 v1 v3 v8 v10 v11 v12 v13 v14 Qd7 Qdl h2_1 (B true) (jA o127 0) (jA o127 1) (jA o127 2) (jA o128 0) (jA o128 1) (jA o128 2)
 else
 Qin Qm0 v7 v9 Qe7 Qen v2 v5 N19 v0 v1 v3 v8 v10 v11 v12 v13 v14 Qd7 Qdl h2_1 (B v6) (I v15) (I v16) (I v17) (I v18) (I v19) (I v20)
attribute [go_sem] g_s_cncref25_Build_7_2
def Qnr : Sk := { tmps := [tf [ci], tf [ci]], boxes := [], rows := [] }
def Ql2 : Sk := { tmps := [TS.tup [(false, [ci]), (false, [ci])]], boxes := [], rows := [] }
def Qn0 : Cfg := { spec := Qbq [], eqOk := Qbu, ownOff := ownOff }
def mf_cncmill_turned : Fn := Qau Try.prog Qn0 64 112 Qnr Ql2
theorem mf_cncmill_turned_eq (x0 x1 : Int) : mf_cncmill_turned [I x0, I x1] =
 bif decide (0 <= x1.tmod 4) && decide (x1.tmod 4 < (↑[[I x0], [I 0], [I (IntKind.i64.wrap (0 - x0))], [I 0]].length : Int)) then
 bif decide (0 <= x1.tmod 4) && decide (x1.tmod 4 < (↑[[I 0], [I x0], [I 0], [I (IntKind.i64.wrap (0 - x0))]].length : Int)) then
 some [I (Qaq (nth .dead (nth [] [[I x0], [I 0], [I (IntKind.i64.wrap (0 - x0))], [I 0]] (x1.tmod 4).toNat) 0)), I (Qaq (nth .dead (nth [] [[I 0], [I x0], [I 0], [I (IntKind.i64.wrap (0 - x0))]] (x1.tmod 4).toNat) 0))]
 else
 none
 else
 none := by kernel_rfl
def Qfw := mf_cncmill_turned 
theorem sp_cncmill_turned : Qar Try.prog (Qn0 ) := Qae rfl trivial
theorem r_cncmill_turned : Qbt Try.prog (112, spOf Qnr Ql2 Qfw) := Qa5 (C := Qn0) (L := 64) (by kernel_rfl) (FnOK.bare rfl rfl rfl) sp_cncmill_turned eqOk Qbj (by kernel_rfl) (by kernel_rfl)
def sig_cncmill_arc : Sk := { tmps := [tf [CS.ptr 20000 0], TS.v true [ci, ci, ci], tf [ci]], boxes := [(20000, 138, [CS.sl Qac, ci])], rows := [] }
def osig_cncmill_arc : Sk := { tmps := [TS.v true [ci, ci, ci, ci, ci, ci, ci, ci, ci, ci, ci, ci, ci, CS.bool, ci, CS.bool, ci, ci, ci, ci, ci, CS.bool]], boxes := [(20000, 138, [CS.sl Qac, ci])], rows := [] }
def C_cncmill_arc_0 (Qcv Qe2 Qf1 Qaa : Fn) : Cfg := { spec := Qbq [(65, spOf Qmh Qlo Qcv), (112, spOf Qnr Ql2 Qe2), (64, spOf sig_cncref23_Plane Qlv Qf1), (61, spOf Qcr Qci Qaa)], eqOk := Qbu, pure := fun f => !(Qd3 [61] f), ownOff := ownOff }
def mf_cncmill_arc (Qcv Qe2 Qf1 Qaa : Fn) : Fn := Qau Try.prog (C_cncmill_arc_0 Qcv Qe2 Qf1 Qaa) 64 60 sig_cncmill_arc osig_cncmill_arc
abbrev Qnf (Qaa Qcv : Fn) (o23 o18 : List AC) (x0 x1 x2 : Int) (o26 o19 o22 : List AC) (h1_0 h1_1 h1_2 h1_3 : AC) : Option (List AC) :=
 (Qaa [I 4, h1_0, h1_1]).bind fun o30 =>
 bif decide (0 <= gA o30 0) && decide (gA o30 0 < (↑[[I 0], [I 0], [I 7], [I (-12)]].length : Int)) then
 (Qcv [h1_2, h1_3, I (IntKind.i64.wrap (gA o23 2 + Qaq (nth .dead (nth [] [[I 0], [I 0], [I 7], [I (-12)]] (gA o30 0).toNat) 0))), I (Qaq (nth .dead (nth [] [[I 17], [I 18], [I 19]] (gA o18 0).toNat) 0))]).bind fun o31 =>
 some [I 3, I 0, I x0, I x1, I x2, jA o31 0, jA o31 1, jA o31 2, I (Qaq (nth .dead (nth [] [[I 17], [I 18], [I 19]] (gA o18 0).toNat) 0)), jA o26 0, jA o26 1, jA o26 2, I (IntKind.i64.wrap (1 - IntKind.i64.wrap (gA o19 0 * 2))), B (gA o22 0 == 0), I 0, B false, I 0, I 0, I 0, I 0, I 0, B false, .view Qac (wA o30 1), jA o30 2]
 else
 none
attribute [go_sem] Qnf
theorem mf_cncmill_arc_eq (Qcv Qe2 Qf1 Qaa : Fn) (x0 x1 x2 x3 : Int) (x4 : Rw) (x5 : Int) : mf_cncmill_arc Qcv Qe2 Qf1 Qaa [I x0, I x1, I x2, I x3, .view Qac x4, I x5] =
 (Qaa [I 3, .view Qac x4, I x5]).bind fun o18 =>
 bif decide (0 <= gA o18 0) && decide (gA o18 0 < (↑[[I 17], [I 18], [I 19]].length : Int)) then
 (Qaa [I 2, .view Qac (wA o18 1), jA o18 2]).bind fun o19 =>
 (Qaa [I x3, .view Qac (wA o19 1), jA o19 2]).bind fun o20 =>
 (Qaa [I 4, .view Qac (wA o20 1), jA o20 2]).bind fun o21 =>
 (Qaa [I 4, .view Qac (wA o21 1), jA o21 2]).bind fun o22 =>
 (Qf1 [I x0, I x1, I x2, I (Qaq (nth .dead (nth [] [[I 17], [I 18], [I 19]] (gA o18 0).toNat) 0))]).bind fun o23 =>
 (Qe2 [I (IntKind.i64.wrap (8 + gA o20 0)), jA o21 0]).bind fun o24 =>
 (Qe2 [I (IntKind.i64.wrap (8 + gA o20 0)), I (IntKind.i64.wrap (gA o21 0 + gA o22 0))]).bind fun o25 =>
 (Qcv [I (IntKind.i64.wrap (gA o23 0 - gA o24 0)), I (IntKind.i64.wrap (gA o23 1 - gA o24 1)), jA o23 2, I (Qaq (nth .dead (nth [] [[I 17], [I 18], [I 19]] (gA o18 0).toNat) 0))]).bind fun o26 =>
 bif decide (gA o22 0 > 0) then
 (Qaa [I 3, .view Qac (wA o22 1), jA o22 2]).bind fun o27 =>
 bif gA o27 0 == 0 then
 bif decide (IntKind.i64.wrap (8 + gA o20 0) = 0) then
 none
 else
 (Qaa [I 5, .view Qac (wA o27 1), jA o27 2]).bind fun o28 =>
 bif decide (IntKind.i64.wrap (8 + gA o20 0) = 0) then
 none
 else
 (Qaa [I 5, .view Qac (wA o28 1), jA o28 2]).bind fun o29 =>
 Qnf Qaa Qcv o23 o18 x0 x1 x2 o26 o19 o22 (.view Qac (wA o29 1)) (jA o29 2) (I (IntKind.i64.wrap (IntKind.i64.wrap (gA o23 0 - gA o24 0) + IntKind.i64.wrap (gA o25 0 + IntKind.i64.wrap (IntKind.i64.wrap ((gA o25 0).tdiv (IntKind.i64.wrap (8 + gA o20 0))) * gA o28 0))))) (I (IntKind.i64.wrap (IntKind.i64.wrap (gA o23 1 - gA o24 1) + IntKind.i64.wrap (gA o25 1 + IntKind.i64.wrap (IntKind.i64.wrap ((gA o25 1).tdiv (IntKind.i64.wrap (8 + gA o20 0))) * gA o29 0)))))
 else
 Qnf Qaa Qcv o23 o18 x0 x1 x2 o26 o19 o22 (.view Qac (wA o27 1)) (jA o27 2) (I (IntKind.i64.wrap (IntKind.i64.wrap (gA o23 0 - gA o24 0) + gA o25 0))) (I (IntKind.i64.wrap (IntKind.i64.wrap (gA o23 1 - gA o24 1) + gA o25 1)))
 else
 Qnf Qaa Qcv o23 o18 x0 x1 x2 o26 o19 o22 (.view Qac (wA o22 1)) (jA o22 2) (I (IntKind.i64.wrap (IntKind.i64.wrap (gA o23 0 - gA o24 0) + gA o25 0))) (I (IntKind.i64.wrap (IntKind.i64.wrap (gA o23 1 - gA o24 1) + gA o25 1)))
 else
 none := by kernel_rfl
def Qnw := mf_cncmill_arc Qfy Qfw Qfz Qao 
theorem sp_cncmill_arc : Qar Try.prog (C_cncmill_arc_0 Qfy Qfw Qfz Qao) := Qae rfl ⟨r_cncref23_Space, r_cncmill_turned, r_cncref23_Plane, Qet, trivial⟩
theorem r_cncmill_arc : Qbt Try.prog (60, spOf sig_cncmill_arc osig_cncmill_arc Qnw) := Qa5 (C := (C_cncmill_arc_0 Qfy Qfw Qfz Qao)) (L := 64) (by kernel_rfl) (FnOK.bare rfl rfl rfl) sp_cncmill_arc eqOk Qbj (by kernel_rfl) (by kernel_rfl)
end Go.Bm
