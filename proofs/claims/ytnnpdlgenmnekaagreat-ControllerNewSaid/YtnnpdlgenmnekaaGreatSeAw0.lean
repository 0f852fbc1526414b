/- the laws' awake functions, run once -/
import Derived.Test.YtnnpdlgenmnekaaGreatSePre
set_option linter.unusedSimpArgs false
set_option linter.unusedVariables false
set_option maxRecDepth 100000
namespace Go.Bm
open Go.Proofs
theorem spA:AllOK Tryz.prog [(181,Ad NX Nq FK),(259,Ad QH Q1 G4),(182,Ad RU RK Ge)]:=⟨UG,Qub,Qv1,trivial⟩
noncomputable def A0:Cfg:={spec:=GE [(181,Ad NX Nq FK),(259,Ad QH Q1 G4),(182,Ad RU RK Ge)],eqOk:=HC,ownOff:=ownOff,fstore:=true,cuts:=[30],ro:=λf=>AI [47,100,92,45] f,lend:=λf=>AI [203] f,pure:=λf=> !(AI [9,10,11,12,14,15,16,17,18,25,36,38,39,40,41,42,43,44,45,47,49,50,51,52,53,54,55,56,57,66,67,70,86,89,90,91,92,93,96,97,98,99,100,102,110,126,127,129,144,145,146,147,166,167,187,247,254,270,271,272,273,274,277] f)}
noncomputable def CA:Cfg:={A0 with spec:=GY Tryz.prog A0 400 30}
theorem Za6:Aj Tryz.prog CA:=Qse (Zc3 (C:=A0) (rs:=[47,100,92,45]) rfl spA rfl ⟨.inl rfl, .inl rfl, .inl rfl,trivial⟩) rfl rfl rfl eqOk Gj rfl 30
end Go.Bm
