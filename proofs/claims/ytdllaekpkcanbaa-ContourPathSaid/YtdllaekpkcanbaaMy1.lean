/- functions of the program and of the references, as models -/
import Derived.Test.YtdllaekpkcanbaaMx5
import Derived.Test.YtdllaekpkcanbaaSeAw0
import Derived.Test.YtdllaekpkcanbaaSeAw41
set_option linter.unusedSimpArgs false
set_option linter.unusedVariables false
set_option maxRecDepth 100000
noncomputable section
namespace Go.Bm
open Go.Proofs
def Qmb : Sk := { tmps := [tf [CS.sl Qax], tf [ci], tf [ci]], boxes := [], rows := [] }
def Qkw : Sk := { tmps := [tf [CS.bool]], boxes := [], rows := [] }
def Qg0 (Qb5 Qcu Qh6 Qb3 Qee Qcx Qbn Qcf : Fn) : Cfg := { spec := Qbq [(30, spOf Ql1 Qki Qb5), (53, spOf sig_contour_Slack Qoe Qcu), (45, spOf sig_path_At osig_path_At Qh6), (35, spOf Ql5 Qkk Qb3), (43, spOf sig_path_Build osig_path_Build Qee), (47, spOf sig_cncmill_Items Qn0 Qcx), (23, spOf Qoa Qlb Qbn), (16, spOf Qnu Ql6 Qcf)], eqOk := Qbw, ownOff := ownOff }
def Qkf : Sk := { tmps := [td, td, td, td, td, td, td, tf [CS.sl kItm], tf [CS.ptr 8 0], td, tf [ci], tf [ci]] ++ dd 37, boxes := [(8, 51, [ci, ci, ci, CS.sl kSgm, CS.sl kPt])], rows := [] }
def Qke : List (Ex × Sk) := [(Ex.ret, { tmps := [td, td, td, td, td, td, tf [CS.bool]] ++ dd 42, boxes := [], rows := [] }), (Ex.exit 0, { tmps := [td] ++ dd 48, boxes := [], rows := [] })]
def Qei (Qb5 Qcu Qh6 Qb3 Qee Qcx Qbn Qcf : Fn) : Lp := stepL Try.prog (Qg0 Qb5 Qcu Qh6 Qb3 Qee Qcx Qbn Qcf) 64 11 (Qhz Try.prog 14 11) Qkf Qke
def Qmc (Qb5 Qcu Qh6 Qb3 Qee Qcx Qbn Qcf : Fn) (N11 : Lp) : Cfg := (Qg0 Qb5 Qcu Qh6 Qb3 Qee Qcx Qbn Qcf).loop 11 Qkf Qke N11
def Qhj (Qb5 Qcu Qh6 Qb3 Qee Qcx Qbn Qcf : Fn) (N11 : Lp) : Fn := Qat Try.prog (Qmc Qb5 Qcu Qh6 Qb3 Qee Qcx Qbn Qcf N11) 64 14 Qmb Qkw
theorem Qhw (Qb5 Qcu Qh6 Qb3 Qee Qcx Qbn Qcf : Fn) (v0 : Rw) (v1 v2 v3 v4 v5 : Int) (v6 v7 : Rw) : Qei Qb5 Qcu Qh6 Qb3 Qee Qcx Qbn Qcf [.view kItm v0, I v1, I v2, I v3, I v4, I v5, .view kSgm v6, .view kPt v7] =
 bif decide (v2 < IntKind.i64.wrap (v1 + 60)) then
 (Qh6 [I v3, I v4, I v5, .view kSgm v6, .view kPt v7, I v2]).bind fun o16 =>
 (Qcu [.view kItm v0]).bind fun o17 =>
 (Qb5 [.view kItm v0, jA o16 0, jA o16 1, jA o16 2, jA o17 0]).bind fun o18 =>
 bif !bA o18 0 then
 some (1, [B false])
 else
 some (0, [.view kItm v0, I v1, I (IntKind.i64.wrap (v2 + 1)), I v3, I v4, I v5, .view kSgm v6, .view kPt v7])
 else
 some (2, []) := by kernel_rfl
theorem mf_cnclaw41_ContourPath_eq (Qb5 Qcu Qh6 Qb3 Qee Qcx Qbn Qcf : Fn) (N11 : Lp) (x0 : Rw) (x1 x2 : Int) : Qhj Qb5 Qcu Qh6 Qb3 Qee Qcx Qbn Qcf N11 [.view Qax x0, I x1, I x2] =
 (Qcf []).bind fun o19 =>
 bif !bA o19 0 then
 some [B false]
 else
 (Qbn [I x1, I 9]).bind fun o20 =>
 (Qcx [.view Qax x0, jA o20 0, B false]).bind fun o21 =>
 (Qee [.view kItm (wA o21 0)]).bind fun o22 =>
 bif gA o22 5 != 0 then
 some [B false]
 else
 bif (↑(wA o22 3).length : Int) == 0 then
 some [B true]
 else
 (Qb3 [jA o22 0, jA o22 1, jA o22 2, .view kSgm (wA o22 3), .view kPt (wA o22 4)]).bind fun o23 =>
 (Qbn [I x2, I (IntKind.i64.wrap (gA o23 0 + 1))]).bind fun o24 =>
 (N11 [.view kItm (wA o21 0), jA o24 0, jA o24 0, jA o22 0, jA o22 1, jA o22 2, .view kSgm (wA o22 3), .view kPt (wA o22 4)]).bind fun o25 =>
 bif o25.1.beq 1 then
 some [B (bA o25.2 0)]
 else
 bif o25.1.beq 2 then
 some [B true]
 else
 none := by kernel_rfl
def Qk4 := Qb1 (Qei Qfg Qfu m_path_At Qek Qmg Qg2 Qep Qf1 )
def m_cnclaw41_ContourPath := Qhj Qfg Qfu m_path_At Qek Qmg Qg2 Qep Qf1 Qk4
theorem Qn3 : Qan Try.prog (Qg0 Qfg Qfu m_path_At Qek Qmg Qg2 Qep Qf1) := Qad rfl ⟨r_contour_OnItems, r_contour_Slack, r_path_At, r_cncref25_Length, r_path_Build, r_cncmill_Items, r_cncmill_Mod, r_cnclaw41_awake, trivial⟩
theorem c_cnclaw41_ContourPath : ∀ (args : List TV) (v : TV) (mem : Mem), (spOf Qmb Qkw m_cnclaw41_ContourPath (TV × Mem) args ⟨[], []⟩ fun v m => some (v, m)) = some (v, mem) -> PCallM Try.prog 14 args ⟨[], []⟩ v mem := fun args v mem h => callM_of (f := 14) (C := (Qmc Qfg Qfu m_path_At Qek Qmg Qg2 Qep Qf1 Qk4)) (L := 64) (by kernel_rfl) ((FnOK.bare rfl rfl rfl).loop Qn3 eqOk Qbo (by kernel_rfl) (by kernel_rfl)) Qn3 eqOk Qbo (by kernel_rfl) (by kernel_rfl) args v mem h
end Go.Bm
