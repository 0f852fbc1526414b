/- what the laws' awake functions are run with, square roots told -/
import Derived.Test.YtdllaekpkcanbaaGreatSeAw0
import Derived.Test.YtdllaekpkcanbaaGreatPrSq
set_option linter.unusedSimpArgs false
set_option linter.unusedVariables false
set_option maxRecDepth 100000
namespace Go.Bm
open Go.Proofs
theorem spB : AllOK Tryz.prog [(121, spOf sig_bits_Mul64 osig_bits_Mul64 Qf1), (157, spOf sig_bits_Sub64 osig_bits_Sub64 Qhh), (122, spOf Qhc Qgk Qce), (118, spOf sig_wide_Sqrt osig_wide_Sqrt natSqrt)] := ⟨r_bits_Mul64, r_bits_Sub64, r_bits_LeadingZeros64, row_mono r_wide_Sqrt natSqrt_ok, trivial⟩
noncomputable def B0 : Cfg := { spec := Qbx [(121, spOf sig_bits_Mul64 osig_bits_Mul64 Qf1), (157, spOf sig_bits_Sub64 osig_bits_Sub64 Qhh), (122, spOf Qhc Qgk Qce), (118, spOf sig_wide_Sqrt osig_wide_Sqrt natSqrt)], eqOk := Qb2, ownOff := ownOff, pure := fun f => !(Qft [60, 61, 62, 63, 66, 69, 73, 74, 75, 76, 77, 106, 111, 112, 130, 175, 187, 203, 204, 205, 206, 207] f) }
noncomputable def CB : Cfg := { B0 with spec := autoSpec Tryz.prog B0 400 30 }
theorem spCB : Qak Tryz.prog CB := autoSpec_ok (Qae rfl spB) rfl rfl rfl eqOk Qa9 30
end Go.Bm
