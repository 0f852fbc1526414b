/- functions of the program and of the references, as models -/
import Derived.Test.YtdllaekpkcanbaaGreatMx5
import Derived.Test.YtdllaekpkcanbaaGreatSeAw0
import Derived.Test.YtdllaekpkcanbaaGreatSeSq
import Derived.Test.YtdllaekpkcanbaaGreatSeAw25
set_option linter.unusedSimpArgs false
set_option linter.unusedVariables false
set_option maxRecDepth 100000
noncomputable section
namespace Go.Bm
open Go.Proofs
def sig_cnclaw25_PathRaw : Sk := { tmps := [tf [CS.sl kItm], tf [CS.sl Qbo], tf [ci]], boxes := [], rows := [] }
def osig_cnclaw25_PathRaw : Sk := { tmps := [tf [CS.bool]], boxes := [], rows := [] }
def C_cnclaw25_PathRaw_0 (Qc7 Qe1 Qcv Qa7 Qgi Qeo M_cncmill_Items Qiq : Fn) : Cfg := { spec := Qbx [(46, spOf sig_cncref25_Settled osig_cncref25_Settled Qc7), (45, spOf sig_path_Settled osig_path_Settled Qe1), (44, spOf sig_cncref25_SamePath osig_cncref25_SamePath Qcv), (43, spOf sig_cncref25_Build osig_cncref25_Build Qa7), (42, spOf sig_path_Build osig_path_Build Qgi), (16, spOf sig_cncmill_Mod osig_cncmill_Mod Qeo), (41, spOf sig_cncmill_Items osig_cncmill_Items M_cncmill_Items), (35, spOf sig_cnclaw25_awake osig_cnclaw25_awake Qiq)], eqOk := Qb2, pure := fun f => !(Qft [41] f), ownOff := ownOff, unroll := [10] }
def mf_cnclaw25_PathRaw (Qc7 Qe1 Qcv Qa7 Qgi Qeo M_cncmill_Items Qiq : Fn) : Fn := Qax Tryz.prog (C_cnclaw25_PathRaw_0 Qc7 Qe1 Qcv Qa7 Qgi Qeo M_cncmill_Items Qiq) 64 11 sig_cnclaw25_PathRaw osig_cnclaw25_PathRaw
abbrev g_cnclaw25_PathRaw_1 (Qgi : Fn) (x0 : Rw) (Qa7 Qcv Qe1 Qc7 : Fn) (h1_0 : AC) : Option (List AC) :=
 (Qgi [.view kItm ([] ++ x0)]).bind fun o36 =>
 (Qa7 [.view kItm ([] ++ x0)]).bind fun o37 =>
 bif gA o36 5 != gA o37 5 then
 some [B false]
 else
 (Qcv [jA o36 0, jA o36 1, jA o36 2, .view kSgm (wA o36 3), .view kPt (wA o36 4), jA o37 0, jA o37 1, jA o37 2, .view kSgm (wA o37 3), .view kPt (wA o37 4)]).bind fun o38 =>
 bif !bA o38 0 then
 some [B false]
 else
 (Qe1 [.view kItm ([] ++ x0)]).bind fun o39 =>
 (Qc7 [.view kItm ([] ++ x0)]).bind fun o40 =>
 bif gA o39 0 != gA o40 0 then
 some [B false]
 else
 (Qgi [h1_0]).bind fun o41 =>
 (Qa7 [h1_0]).bind fun o42 =>
 bif gA o41 5 != gA o42 5 then
 some [B false]
 else
 (Qcv [jA o41 0, jA o41 1, jA o41 2, .view kSgm (wA o41 3), .view kPt (wA o41 4), jA o42 0, jA o42 1, jA o42 2, .view kSgm (wA o42 3), .view kPt (wA o42 4)]).bind fun o43 =>
 bif !bA o43 0 then
 some [B false]
 else
 (Qe1 [h1_0]).bind fun o44 =>
 (Qc7 [h1_0]).bind fun o45 =>
 bif gA o44 0 != gA o45 0 then
 some [B false]
 else
 some [B true]
attribute [go_sem] g_cnclaw25_PathRaw_1
theorem mf_cnclaw25_PathRaw_eq (Qc7 Qe1 Qcv Qa7 Qgi Qeo M_cncmill_Items Qiq : Fn) (x0 x1 : Rw) (x2 : Int) : mf_cnclaw25_PathRaw Qc7 Qe1 Qcv Qa7 Qgi Qeo M_cncmill_Items Qiq [.view kItm x0, .view Qbo x1, I x2] =
 (Qiq []).bind fun o33 =>
 bif !bA o33 0 then
 some [B false]
 else
 bif decide ((x0.length : Int) > 8) then
 some [B true]
 else
 bif (([] ++ x0).length * 176).ble 140737488355328 then
 (M_cncmill_Items [.view Qbo x1, I 5, B false]).bind fun o34 =>
 bif decide ((↑(wA o34 0).length : Int) > 0) then
 bif decide ((↑([] ++ x0).length : Int) > 0) then
 (Qeo [I x2, I (↑(wA o34 0).length : Int)]).bind fun o35 =>
 bif decide (0 <= 0) && decide (0 < (↑([] ++ x0).length : Int)) then
 bif decide (0 <= gA o35 0) && decide (gA o35 0 < (↑(wA o34 0).length : Int)) then
 g_cnclaw25_PathRaw_1 Qgi x0 Qa7 Qcv Qe1 Qc7 (.view kItm ((wA o34 0).set (gA o35 0).toNat [I (Qas (nth .dead (nth [] ([] ++ x0) 0) 0)), I (Qas (nth .dead (nth [] ([] ++ x0) 0) 1)), I (Qas (nth .dead (nth [] ([] ++ x0) 0) 2)), I (Qas (nth .dead (nth [] ([] ++ x0) 0) 3)), I (Qas (nth .dead (nth [] ([] ++ x0) 0) 4)), I (Qas (nth .dead (nth [] ([] ++ x0) 0) 5)), I (Qas (nth .dead (nth [] ([] ++ x0) 0) 6)), I (Qas (nth .dead (nth [] ([] ++ x0) 0) 7)), I (Qas (nth .dead (nth [] ([] ++ x0) 0) 8)), I (Qas (nth .dead (nth [] ([] ++ x0) 0) 9)), I (Qas (nth .dead (nth [] ([] ++ x0) 0) 10)), I (Qas (nth .dead (nth [] ([] ++ x0) 0) 11)), I (Qas (nth .dead (nth [] ([] ++ x0) 0) 12)), B (boolOf (nth .dead (nth [] ([] ++ x0) 0) 13)), I (Qas (nth .dead (nth [] ([] ++ x0) 0) 14)), B (boolOf (nth .dead (nth [] ([] ++ x0) 0) 15)), I (Qas (nth .dead (nth [] ([] ++ x0) 0) 16)), I (Qas (nth .dead (nth [] ([] ++ x0) 0) 17)), I (Qas (nth .dead (nth [] ([] ++ x0) 0) 18)), I (Qas (nth .dead (nth [] ([] ++ x0) 0) 19)), I (Qas (nth .dead (nth [] ([] ++ x0) 0) 20)), B (boolOf (nth .dead (nth [] ([] ++ x0) 0) 21))]))
 else
 none
 else
 none
 else
 g_cnclaw25_PathRaw_1 Qgi x0 Qa7 Qcv Qe1 Qc7 (.view kItm (wA o34 0))
 else
 g_cnclaw25_PathRaw_1 Qgi x0 Qa7 Qcv Qe1 Qc7 (.view kItm (wA o34 0))
 else
 none := by kernel_rfl
def Qiz := mf_cnclaw25_PathRaw m_cncref25_Settled m_path_Settled Qh9 Qdh m_path_Build Qfq m_cncmill_Items m_cnclaw25_awake 
theorem sp_cnclaw25_PathRaw : Qak Tryz.prog (C_cnclaw25_PathRaw_0 m_cncref25_Settled m_path_Settled Qh9 Qdh m_path_Build Qfq m_cncmill_Items m_cnclaw25_awake) := Qae rfl ⟨r_cncref25_Settled, r_path_Settled, r_cncref25_SamePath, r_cncref25_Build, r_path_Build, r_cncmill_Mod, r_cncmill_Items, r_cnclaw25_awake, trivial⟩
theorem c_cnclaw25_PathRaw : ∀ (args : List TV) (v : TV) (mem : Mem), (spOf sig_cnclaw25_PathRaw osig_cnclaw25_PathRaw Qiz (TV × Mem) args ⟨[], []⟩ fun v m => some (v, m)) = some (v, mem) -> PCallM Tryz.prog 11 args ⟨[], []⟩ v mem := fun args v mem h => callM_of (f := 11) (C := (C_cnclaw25_PathRaw_0 m_cncref25_Settled m_path_Settled Qh9 Qdh m_path_Build Qfq m_cncmill_Items m_cnclaw25_awake)) (L := 64) (by kernel_rfl) (FnOK.bare rfl rfl rfl) sp_cnclaw25_PathRaw eqOk Qa9 (by kernel_rfl) (by kernel_rfl) args v mem h
abbrev Qif (M_path_Valid : Fn) (o82 : List AC) (Qin M_cnclaw25_small : Fn) (x0 x1 x2 : Int) (x3 x4 : Rw) (h1_0 h1_1 : AC) : Option (List AC) :=
 (M_path_Valid [jA o82 0, jA o82 1, jA o82 2, h1_0, h1_1]).bind fun o86 =>
 (Qin [jA o82 0, jA o82 1, jA o82 2, h1_0, h1_1]).bind fun o87 =>
 bif bA o86 0 == bA o87 0 then
 (M_cnclaw25_small [I x0, I x1, I x2, .view kSgm x3, .view kPt x4]).bind fun o88 =>
 bif !bA o88 0 then
 some [B true]
 else
 (M_path_Valid [I x0, I x1, I x2, .view kSgm x3, .view kPt x4]).bind fun o89 =>
 (Qin [I x0, I x1, I x2, .view kSgm x3, .view kPt x4]).bind fun o90 =>
 some [B (bA o89 0 == bA o90 0)]
 else
 some [B false]
attribute [go_sem] Qif
abbrev g_cnclaw25_PathValid_2 (M_path_Valid : Fn) (o82 : List AC) (Qin M_cnclaw25_small : Fn) (x0 x1 x2 : Int) (x3 x4 : Rw) (h2_0 : Bool) (h2_1 : AC) (h2_2 : Bool) (h2_3 : AC) (h2_4 : Bool) (h2_5 h2_6 : AC) : Option (List AC) :=
 bif h2_0 then
 Qif M_path_Valid o82 Qin M_cnclaw25_small x0 x1 x2 x3 x4 h2_1 (.view kPt ([] ++ wA o82 4))
 else
 bif h2_2 then
 Qif M_path_Valid o82 Qin M_cnclaw25_small x0 x1 x2 x3 x4 h2_3 (.view kPt ([] ++ wA o82 4))
 else
 bif h2_4 then
 Qif M_path_Valid o82 Qin M_cnclaw25_small x0 x1 x2 x3 x4 h2_5 h2_6
 else
 none
attribute [go_sem] g_cnclaw25_PathValid_2
end Go.Bm
