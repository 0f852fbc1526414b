/- the laws' awake functions, run once -/
import Derived.Test.YtnnpdlgenmnekaaGreatDoorSePre
set_option linter.unusedSimpArgs false
set_option linter.unusedVariables false
set_option maxRecDepth 100000
namespace Go.Bm
open Go.Proofs
theorem spA:AllOK Tryz.prog [(171,Aj H3 Hr GB),(289,Aj Iu IJ GL),(172,Aj Jp Jm Hj)]:=⟨OU,Q_,RW,trivial⟩
noncomputable def A0:Cfg:={spec:=CE [(171,Aj H3 Hr GB),(289,Aj Iu IJ GL),(172,Aj Jp Jm Hj)],eqOk:=EN,ownOff:=ownOff,fstore:=true,cuts:=[30],ro:=λf=>Am [102,163,155,100] f,lend:=λf=>Am [31] f,pure:=λf=> !(Am [40,41,42,43,46,48,49,52,54,55,62,63,75,77,85,86,91,92,97,99,100,102,104,105,106,107,108,109,110,121,142,152,153,154,155,156,159,160,161,162,163,165,196,197,198,212,213,214,215,260,284,307,308,309,310,311,314,315] f)}
noncomputable def CA:Cfg:={A0 with spec:=DO Tryz.prog A0 400 30}
theorem PF:Ak Tryz.prog CA:=LC (P2 (C:=A0) (rs:=[102,163,155,100]) rfl spA rfl ⟨.inl rfl, .inl rfl, .inl rfl,trivial⟩) rfl rfl rfl eqOk CI rfl 30
end Go.Bm
