/- functions of the program and of the references, as models -/
import Derived.Test.YtdllaekpkcanbaaMx4
set_option linter.unusedSimpArgs false
set_option linter.unusedVariables false
set_option maxRecDepth 100000
noncomputable section
namespace Go.Bm
open Go.Proofs
abbrev Qio (Qdo : Fn) (o132 : Nat × List AC) (h4_0 : AC) : Option (Nat × List AC) :=
 (Qdo [.view kItm (wA o132.2 2), jA o132.2 6]).bind fun o134 =>
 bif ((wA o132.2 1 ++ [[jA o132.2 3, jA o134 0, jA o132.2 6]]).length * 24).ble 140737488355328 then
 some (0, [.view kSgm (wA o132.2 0), .view kPt (wA o132.2 1 ++ [[jA o132.2 3, jA o134 0, jA o132.2 6]]), .view kItm (wA o132.2 2), jA o132.2 3, jA o132.2 4, h4_0, B (bA o132.2 5), .view kItm (wA o132.2 7), jA o132.2 8, I (IntKind.i64.wrap (gA o132.2 9 + 1)), jA o132.2 10, jA o132.2 11, jA o132.2 12, .view kSgm (wA o132.2 13), .view kPt (wA o132.2 14), jA o132.2 15, jA o132.2 16, jA o132.2 17, jA o132.2 18, jA o132.2 19, jA o132.2 20])
 else
 none
attribute [go_sem] Qio
abbrev Qim (Qeo : Fn) (v2 : Rw) (v9 v5 : Int) (N19 : Lp) (v0 v1 : Rw) (v3 : Int) (h1_0 h1_1 : AC) (v7 : Rw) (v8 v10 v11 v12 : Int) (v13 v14 : Rw) (h1_2 h1_3 h1_4 h1_5 h1_6 h1_7 : AC) (o129 : List AC) (Qfn Qdo : Fn) (h3_0 : AC) : Option (Nat × List AC) :=
 (Qeo [.view kItm v2, I v9, I v5]).bind fun o131 =>
 (N19 [.view kSgm v0, .view kPt v1, .view kItm v2, I v3, h1_0, h1_1, I v9, .view kItm v7, I v8, I v9, .view kPt (wA o131 0), I (↑(wA o131 0).length : Int), I 0, I v10, I v11, I v12, .view kSgm v13, .view kPt v14, h1_2, h1_3, h1_4, h1_5, h1_6, h1_7, I 0, I 0, I 0, I 0, I v9, jA o129 0, h3_0]).bind fun o132 =>
 bif o132.1.beq 1 then
 some (1, [jA o132.2 0, jA o132.2 1, jA o132.2 2, jA o132.2 3])
 else
 bif o132.1.beq 2 then
 (Qfn [.view kItm (wA o132.2 2), jA o132.2 6]).bind fun o133 =>
 bif decide (gA o133 0 >= 0) then
 Qio Qdo o132 (jA o132.2 6)
 else
 Qio Qdo o132 (I (-1))
 else
 none
attribute [go_sem] Qim
abbrev Qiq (Qmp : Fn) (v7 : Rw) (v9 : Int) (Qe6 Qeo : Fn) (v2 : Rw) (v5 : Int) (N19 : Lp) (v0 v1 : Rw) (v3 v8 v10 v11 v12 : Int) (v13 v14 : Rw) (Qfn Qdo : Fn) (h1_0 h1_1 h1_2 h1_3 h1_4 h1_5 h1_6 h1_7 : AC) : Option (Nat × List AC) :=
 (Qmp [jA (nth [] v7 v9.toNat) 0, jA (nth [] v7 v9.toNat) 1, jA (nth [] v7 v9.toNat) 2, jA (nth [] v7 v9.toNat) 3, jA (nth [] v7 v9.toNat) 4, jA (nth [] v7 v9.toNat) 5, jA (nth [] v7 v9.toNat) 6, jA (nth [] v7 v9.toNat) 7, jA (nth [] v7 v9.toNat) 8, jA (nth [] v7 v9.toNat) 9, jA (nth [] v7 v9.toNat) 10, jA (nth [] v7 v9.toNat) 11, jA (nth [] v7 v9.toNat) 12, B (bA (nth [] v7 v9.toNat) 13), jA (nth [] v7 v9.toNat) 14, B (bA (nth [] v7 v9.toNat) 15), jA (nth [] v7 v9.toNat) 16, jA (nth [] v7 v9.toNat) 17, jA (nth [] v7 v9.toNat) 18, jA (nth [] v7 v9.toNat) 19, jA (nth [] v7 v9.toNat) 20, B (bA (nth [] v7 v9.toNat) 21), h1_0]).bind fun o129 =>
 (Qe6 [jA (nth [] v7 v9.toNat) 0, jA (nth [] v7 v9.toNat) 1, jA (nth [] v7 v9.toNat) 2, jA (nth [] v7 v9.toNat) 3, jA (nth [] v7 v9.toNat) 4, jA (nth [] v7 v9.toNat) 5, jA (nth [] v7 v9.toNat) 6, jA (nth [] v7 v9.toNat) 7, jA (nth [] v7 v9.toNat) 8, jA (nth [] v7 v9.toNat) 9, jA (nth [] v7 v9.toNat) 10, jA (nth [] v7 v9.toNat) 11, jA (nth [] v7 v9.toNat) 12, B (bA (nth [] v7 v9.toNat) 13), jA (nth [] v7 v9.toNat) 14, B (bA (nth [] v7 v9.toNat) 15), jA (nth [] v7 v9.toNat) 16, jA (nth [] v7 v9.toNat) 17, jA (nth [] v7 v9.toNat) 18, jA (nth [] v7 v9.toNat) 19, jA (nth [] v7 v9.toNat) 20, B (bA (nth [] v7 v9.toNat) 21)]).bind fun o130 =>
 bif bA o130 0 then
 Qim Qeo v2 v9 v5 N19 v0 v1 v3 h1_0 h1_1 v7 v8 v10 v11 v12 v13 v14 h1_2 h1_3 h1_4 h1_5 h1_6 h1_7 o129 Qfn Qdo (I (mn (IntKind.i64.wrap (gA (nth [] v7 v9.toNat) 14 * 16)) 16777216))
 else
 Qim Qeo v2 v9 v5 N19 v0 v1 v3 h1_0 h1_1 v7 v8 v10 v11 v12 v13 v14 h1_2 h1_3 h1_4 h1_5 h1_6 h1_7 o129 Qfn Qdo (I 0)
attribute [go_sem] Qiq
abbrev g_s_cncref25_Build_7_2 (M_cncref23_Motion : Fn) (v7 : Rw) (v9 : Int) (M_cncref25_other : Fn) (v1 : Rw) (v3 : Int) (v0 v2 : Rw) (v5 : Int) (v6 : Bool) (v8 v10 v11 v12 : Int) (v13 v14 : Rw) (v15 v16 v17 v18 v19 v20 : Int) (M_cncref23_Fine Qmp Qe6 Qeo : Fn) (N19 : Lp) (Qfn Qdo : Fn) (h2_0 h2_1 : AC) : Option (Nat × List AC) :=
 (M_cncref23_Motion [jA (nth [] v7 v9.toNat) 0]).bind fun o125 =>
 bif !bA o125 0 then
 (M_cncref25_other [jA (nth [] v7 v9.toNat) 0, jA (nth [] v7 v9.toNat) 1, jA (nth [] v7 v9.toNat) 2, jA (nth [] v7 v9.toNat) 3, jA (nth [] v7 v9.toNat) 4, jA (nth [] v7 v9.toNat) 5, jA (nth [] v7 v9.toNat) 6, jA (nth [] v7 v9.toNat) 7, jA (nth [] v7 v9.toNat) 8, jA (nth [] v7 v9.toNat) 9, jA (nth [] v7 v9.toNat) 10, jA (nth [] v7 v9.toNat) 11, jA (nth [] v7 v9.toNat) 12, B (bA (nth [] v7 v9.toNat) 13), jA (nth [] v7 v9.toNat) 14, B (bA (nth [] v7 v9.toNat) 15), jA (nth [] v7 v9.toNat) 16, jA (nth [] v7 v9.toNat) 17, jA (nth [] v7 v9.toNat) 18, jA (nth [] v7 v9.toNat) 19, jA (nth [] v7 v9.toNat) 20, B (bA (nth [] v7 v9.toNat) 21)]).bind fun o126 =>
 bif ((v1 ++ [[I v3, jA o126 0, I v9]]).length * 24).ble 140737488355328 then
 some (0, [.view kSgm v0, .view kPt (v1 ++ [[I v3, jA o126 0, I v9]]), .view kItm v2, I v3, h2_0, I v5, B v6, .view kItm v7, I v8, I (IntKind.i64.wrap (v9 + 1)), I v10, I v11, I v12, .view kSgm v13, .view kPt v14, I v15, I v16, I v17, I v18, I v19, I v20])
 else
 none
 else
 bif !v6 then
 (M_cncref23_Fine [jA (nth [] v7 v9.toNat) 2, jA (nth [] v7 v9.toNat) 3, jA (nth [] v7 v9.toNat) 4]).bind fun o127 =>
 (M_cncref23_Fine [jA (nth [] v7 v9.toNat) 2, jA (nth [] v7 v9.toNat) 3, jA (nth [] v7 v9.toNat) 4]).bind fun o128 =>
 Qiq Qmp v7 v9 Qe6 Qeo v2 v5 N19 v0 v1 v3 v8 v10 v11 v12 v13 v14 Qfn Qdo h2_1 (B true) (jA o127 0) (jA o127 1) (jA o127 2) (jA o128 0) (jA o128 1) (jA o128 2)
 else
 Qiq Qmp v7 v9 Qe6 Qeo v2 v5 N19 v0 v1 v3 v8 v10 v11 v12 v13 v14 Qfn Qdo h2_1 (B v6) (I v15) (I v16) (I v17) (I v18) (I v19) (I v20)
attribute [go_sem] g_s_cncref25_Build_7_2
end Go.Bm
