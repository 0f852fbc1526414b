/- functions of the program and of the references, as models -/
import Derived.Test.YtdllaekpkcanbaaGreatMx5
import Derived.Test.YtdllaekpkcanbaaGreatSeAw0
import Derived.Test.YtdllaekpkcanbaaGreatSeSq
import Derived.Test.YtdllaekpkcanbaaGreatSeAw25
set_option linter.unusedSimpArgs false
set_option linter.unusedVariables false
set_option maxRecDepth 100000
noncomputable section
namespace Go.Bm
open Go.Proofs
def sig_cnclaw25_PathBuild : Sk := { tmps := [tf [CS.sl Qbr], tf [ci]], boxes := [], rows := [] }
def osig_cnclaw25_PathBuild : Sk := { tmps := [tf [CS.bool]], boxes := [], rows := [] }
def Ql7 (Qgl Qlm M_path_Valid Qgb Qbz M_path_Build Qke Qeq Qil : Fn) : Cfg := { spec := Qby [(46, spOf Qn5 Qm5 Qgl), (45, spOf sig_path_Settled osig_path_Settled Qlm), (47, spOf sig_path_Valid osig_path_Valid M_path_Valid), (44, spOf Qm7 Qlw Qgb), (43, spOf Qmc Qku Qbz), (42, spOf sig_path_Build osig_path_Build M_path_Build), (41, spOf sig_cncmill_Items osig_cncmill_Items Qke), (16, spOf sig_cncmill_Mod Qpp Qeq), (35, spOf sig_cnclaw25_awake osig_cnclaw25_awake Qil)], eqOk := Qb2, ownOff := ownOff }
def Qml (Qgl Qlm M_path_Valid Qgb Qbz M_path_Build Qke Qeq Qil : Fn) : Fn := Qax Tryz.prog (Ql7 Qgl Qlm M_path_Valid Qgb Qbz M_path_Build Qke Qeq Qil) 64 13 sig_cnclaw25_PathBuild osig_cnclaw25_PathBuild
theorem mf_cnclaw25_PathBuild_eq (Qgl Qlm M_path_Valid Qgb Qbz M_path_Build Qke Qeq Qil : Fn) (x0 : Rw) (x1 : Int) : Qml Qgl Qlm M_path_Valid Qgb Qbz M_path_Build Qke Qeq Qil [.view Qbr x0, I x1] =
 (Qil []).bind fun o9 =>
 bif !bA o9 0 then
 some [B false]
 else
 (Qeq [I x1, I 12]).bind fun o10 =>
 (Qke [.view Qbr x0, jA o10 0, B (x1.tmod 2 == 0)]).bind fun o11 =>
 (M_path_Build [.view kItm (wA o11 0)]).bind fun o12 =>
 (Qbz [.view kItm (wA o11 0)]).bind fun o13 =>
 bif gA o12 5 == gA o13 5 then
 bif gA o12 5 == 0 then
 (Qgb [jA o12 0, jA o12 1, jA o12 2, .view kSgm (wA o12 3), .view kPt (wA o12 4), jA o13 0, jA o13 1, jA o13 2, .view kSgm (wA o13 3), .view kPt (wA o13 4)]).bind fun o14 =>
 bif bA o14 0 then
 (M_path_Valid [jA o12 0, jA o12 1, jA o12 2, .view kSgm (wA o12 3), .view kPt (wA o12 4)]).bind fun o15 =>
 bif bA o15 0 then
 (Qlm [.view kItm (wA o11 0)]).bind fun o16 =>
 (Qgl [.view kItm (wA o11 0)]).bind fun o17 =>
 some [B (gA o16 0 == gA o17 0)]
 else
 some [B false]
 else
 some [B false]
 else
 some [B false]
 else
 some [B false] := by kernel_rfl
def m_cnclaw25_PathBuild := Qml Qiy Qo0 m_path_Valid Qh0 Qd0 m_path_Build Qmr Qhe Qlf 
theorem sp_cnclaw25_PathBuild : Qaj Tryz.prog (Ql7 Qiy Qo0 m_path_Valid Qh0 Qd0 m_path_Build Qmr Qhe Qlf) := Qae rfl ⟨r_cncref25_Settled, r_path_Settled, r_path_Valid, r_cncref25_SamePath, r_cncref25_Build, r_path_Build, r_cncmill_Items, r_cncmill_Mod, r_cnclaw25_awake, trivial⟩
theorem c_cnclaw25_PathBuild : ∀ (args : List TV) (v : TV) (mem : Mem), (spOf sig_cnclaw25_PathBuild osig_cnclaw25_PathBuild m_cnclaw25_PathBuild (TV × Mem) args ⟨[], []⟩ fun v m => some (v, m)) = some (v, mem) -> PCallM Tryz.prog 13 args ⟨[], []⟩ v mem := fun args v mem h => callM_of (f := 13) (C := (Ql7 Qiy Qo0 m_path_Valid Qh0 Qd0 m_path_Build Qmr Qhe Qlf)) (L := 64) (by kernel_rfl) (FnOK.bare rfl rfl rfl) sp_cnclaw25_PathBuild eqOk Qa7 (by kernel_rfl) (by kernel_rfl) args v mem h
end Go.Bm
