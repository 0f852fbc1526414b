/- what the laws' awake functions are run with, square roots told -/
import Derived.Test.YtdllaekpkcanbaaSeAw0
import Derived.Test.YtdllaekpkcanbaaPrSq
set_option linter.unusedSimpArgs false
set_option linter.unusedVariables false
set_option maxRecDepth 100000
namespace Go.Bm
open Go.Proofs
theorem spB : AllOK Try.prog [(147, spOf sig_bits_Mul64 osig_bits_Mul64 m_bits_Mul64), (173, spOf sig_bits_Sub64 osig_bits_Sub64 m_bits_Sub64), (164, spOf sig_bits_LeadingZeros64 osig_bits_LeadingZeros64 m_bits_LeadingZeros64), (134, spOf sig_wide_Sqrt osig_wide_Sqrt natSqrt)] := ⟨r_bits_Mul64, r_bits_Sub64, r_bits_LeadingZeros64, row_mono r_wide_Sqrt natSqrt_ok, trivial⟩
noncomputable def B0 : Cfg := { spec := lookS [(147, spOf sig_bits_Mul64 osig_bits_Mul64 m_bits_Mul64), (173, spOf sig_bits_Sub64 osig_bits_Sub64 m_bits_Sub64), (164, spOf sig_bits_LeadingZeros64 osig_bits_LeadingZeros64 m_bits_LeadingZeros64), (134, spOf sig_wide_Sqrt osig_wide_Sqrt natSqrt)], eqOk := eqAll, ownOff := ownOff, pure := fun f => !(elemN [59, 60, 61, 78, 79, 81, 83, 84, 87, 95, 99, 135, 140, 141, 157, 161, 203, 204, 205, 206, 207] f) }
noncomputable def CB : Cfg := { B0 with spec := autoSpec Try.prog B0 400 30 }
theorem spCB : SpecOK Try.prog CB := autoSpec_ok (specOK_of rfl spB) rfl rfl rfl eqOk mixOk 30
end Go.Bm
