/- the laws' awake functions, run once -/
import Derived.Test.YtdllaekpkcanbaaSePre
set_option linter.unusedSimpArgs false
set_option linter.unusedVariables false
set_option maxRecDepth 100000
namespace Go.Bm
open Go.Proofs
theorem spA : AllOK Try.prog [(147, spOf Qkz Qjb Qed), (173, spOf sig_bits_Sub64 Qnq Qe8), (164, spOf Qe5 Qes Qbd)] := ⟨r_bits_Mul64, r_bits_Sub64, r_bits_LeadingZeros64, trivial⟩
noncomputable def A0 : Cfg := { spec := Qbq [(147, spOf Qkz Qjb Qed), (173, spOf sig_bits_Sub64 Qnq Qe8), (164, spOf Qe5 Qes Qbd)], eqOk := Qbw, ownOff := ownOff, pure := fun f => !(Qej [59, 60, 61, 78, 79, 81, 83, 84, 87, 95, 99, 135, 140, 141, 157, 161, 203, 204, 205, 206, 207] f) }
noncomputable def CA : Cfg := { A0 with spec := autoSpec Try.prog A0 400 30 }
theorem spCA : Qan Try.prog CA := autoSpec_ok (Qad rfl spA) rfl rfl rfl eqOk Qbo 30
end Go.Bm
