/- functions of the program and of the references, as models -/
import Derived.Test.YtommijghjlikkaaGreatMx3
set_option linter.unusedSimpArgs false
set_option linter.unusedVariables false
set_option maxRecDepth 100000
noncomputable section
namespace Go.Bm
open Go.Proofs
def Qii:Sk:=⟨[tf [CS.sl kPt],tf [ci]],[],[]⟩
def Y5:Sk:=⟨[tf [CS.sl kPt]],[],[]⟩
def Z23 (M:Fn):Nat×Spec:=(22,Ac Qii Y5 M)
def C_cnclaw43_at_0:Cfg:={cf []with prom:=fun b=>bif Nat.beq b 3 then [(5,69)]else []}
def Qzg:Sk:=⟨[td,tf [ci],td,td,td,tf [CS.own 5 3],td,td,tf [CS.sl kPt],tf [ci],tf [ci]]++dd 13,[],[(5,69,kPt)]⟩
def Qv2:List (Ex×Sk):=[(Ex.exit 0,⟨[td,td,td,td,td,tf [CS.own 5 3]]++dd 18,[],[(5,69,kPt)]⟩)]
def Ty:Lp:=AT PG C_cnclaw43_at_0 64 3 (AU PG 22 3) Qzg Qv2
def Qrb (N3:Lp):Cfg:=C_cnclaw43_at_0.loop 3 Qzg Qv2 N3
def Qis (N3:Lp):Fn:=Am PG (Qrb N3) 64 22 Qii Y5
theorem Zsk (v0:Rw) (v1:Int) (v2:Rw) (v3 v4:Int):Ty [.view kPt v0,I v1, .view kPt v2,I v3,I v4]=
 bif decide (v4<v3)then
 bif decide (0<=v4)&&decide (v4<(v2.length:Int))then
 bif gA (nth [] v2 v4.toNat) 0==v1 then
 bif((v0++[[jA (nth [] v2 v4.toNat) 0,jA (nth [] v2 v4.toNat) 1,jA (nth [] v2 v4.toNat) 2]]).length*24).ble 140737488355328 then
 some (0,[.view kPt (v0++[[jA (nth [] v2 v4.toNat) 0,jA (nth [] v2 v4.toNat) 1,jA (nth [] v2 v4.toNat) 2]]),I v1, .view kPt v2,I v3,I (IntKind.i64.wrap (v4+1))])
 else
 none
 else
 some (0,[.view kPt v0,I v1, .view kPt v2,I v3,I (IntKind.i64.wrap (v4+1))])
 else
 none
 else
 some (1,[.view kPt v0]):=by kernel_rfl
theorem Zwo (N3:Lp) (x0:Rw) (x1:Int):Qis N3 [.view kPt x0,I x1]=
 (N3 [.view kPt [],I x1, .view kPt x0,I (x0.length:Int),I 0]).bind fun o1=>
 bif o1.1.beq 1 then
 some [.view kPt (wA o1.2 0)]
 else
 none:=by kernel_rfl
def Q8v:=An (Ty)
def LF:=Qis Q8v
theorem Q76:Ai PG (C_cnclaw43_at_0):=Ao rfl trivial
theorem Zj0:Aj PG (22,Ac Qii Y5 LF):=rw2 (C:=(Qrb Q8v)) (fl fb Q76) Q76
def Uy:Sk:=⟨[tf [CS.sl Aa],tf [CS.sl Aa],tf [CS.sl Aa],tf [CS.sl Aa]],[],[]⟩
def XE:Sk:=⟨[tf [CS.bool]],[],[]⟩
def Zqd (M:Fn):Nat×Spec:=(14,Ac Uy XE M)
def Qcs (ON:Fn):Cfg:=cf [Z1n ON]
def Qps (ON:Fn):Fn:=Am PG (Qcs ON) 64 14 Uy XE
theorem Zqc (ON:Fn) (x0 x1 x2 x3:Rw):Qps ON [.view Aa x0, .view Aa x1, .view Aa x2, .view Aa x3]=
 (ON [.view [Kd.sl Aa] [[.view Aa x0],[.view Aa x1],[.view Aa x2],[.view Aa x3]]]).bind fun o1=>
 some [B (bA o1 0)]:=by kernel_rfl
def OH:=Qps KC
theorem Z0d:Ai PG (Qcs KC):=Ao rfl ⟨Z5q,trivial⟩
theorem Zo7:Aj PG (14,Ac Uy XE OH):=rw1 (C:=(Qcs KC)) Z0d
def Qqe:Sk:=⟨[],[],[]⟩
def Qjj:Sk:=⟨[tf [CS.bool]],[],[]⟩
def Zxi (M:Fn):Nat×Spec:=(13,Ac Qqe Qjj M)
def YA (Df DF:Fn):Cfg:=cp [Q6o Df,Qts DF] [21,20]
def Wj (Df DF:Fn):Fn:=Am PG (YA Df DF) 64 13 Qqe Qjj
theorem Z3x (Df DF:Fn):Wj Df DF []=
 (DF [I 8,I 10,I 10,I 10,I (-16777216),I 16777216,I 0,I 0,I 0, .view Aa [],I 8,I 10,I 10,I 10,I (-16777216),I 16777216,I 0,I 0,I 0, .view Aa [],I 8,I 10,I 10,I 10,I (-16777216),I 16777216,I 0,I 0,I 0, .view Aa [],I 9,I 3,I 100,I 1,I 0, .view Al [],B true]).bind fun o5=>
 (DF [I 8,I 10,I 10,I 10,I (-16777216),I 16777216,I 0,I 0,I 0, .view Aa [],I 8,I 10,I 10,I 10,I (-16777216),I 16777216,I 0,I 0,I 0, .view Aa [],I 8,I 10,I 10,I 10,I (-16777216),I 16777216,I 0,I 0,I 0, .view Aa [],I 9,I 3,I 100,I 1,I 0, .view Al [[I 12,I 0,I 0,I 0,I 0,I 0,I 0,I 0,I 0,I 0,I 0,I 0,I 0,B false,I 0,B false,I 0,I 0,I 0,I 0,I 0,B false]],B true]).bind fun o6=>
 bif gA o5 0 !=0 then
 some [B false]
 else
 bif gA o6 0 !=0 then
 some [B false]
 else
 (Df (.view kPt []::cR 1 o5)).bind fun o7=>
 bif gA o7 2==7 then
 (Df (.view kPt []::cR 1 o6)).bind fun o8=>
 bif gA o8 2==2 then
 (Df (.view kPt [[I 0,I 4,I 0]]::cR 9 o8)).bind fun o9=>
 some [B (gA o9 2==3)]
 else
 some [B false]
 else
 some [B false]:=by kernel_rfl
def OQ:=Wj HY Ie
theorem Zna:Ai PG (YA HY Ie):=Ao rfl ⟨Qxi,Qq3,trivial⟩
theorem Zjj:Aj PG (13,Ac Qqe Qjj OQ):=rw1 (C:=(YA HY Ie)) Zna
def Q64:Sk:=⟨[tf [CS.sl Aa],tf [CS.sl Aa],tf [CS.sl Aa],tf [CS.sl Aa],tf [ci]],[],[]⟩
def Qyu:Sk:=⟨[tf [CS.bool]],[],[]⟩
def Qm7 (Gf FX DJ F3 FH G7 Df Gi DF Gv Hf GM DM Gw GP G5:Fn):Cfg:={cp [Zif Gf,Z7n FX,Q8q DJ,Zx9 F3,Z1s FH,Zdb G7,Q6o Df,Z23 Gi,Qts DF,Zuk Gv,Zqa Hf,Zjm GM,Q3o DM,Zzc Gw,Zqd GP,Zxi G5] [27,26,23,21,20]with prom:=fun b=>bif Nat.beq b 11 then [(16,130)]else []}
def Q9a:Sk:=⟨dd 11++[tf [CS.ptr 11 0],td,tf [CS.sl kPt],tf [CS.ptr 104000 0],td,tf [CS.own 16 3],tf [ci]]++dd 69,[(11,31,cc 9++[CS.sl Aa]++cc 9++[CS.sl Aa]++cc 9++[CS.sl Aa]++cc 5),(104000,119,cS)],[(16,130,kPt)]⟩
def Qs9:List (Ex×Sk):=[(Ex.exit 0,⟨dd 11++[tf [CS.ptr 11 0],td,td,tf [CS.ptr 104000 0],td,tf [CS.own 16 3]]++dd 70,[(11,31,cc 9++[CS.sl Aa]++cc 9++[CS.sl Aa]++cc 9++[CS.sl Aa]++cc 5),(104000,119,cS)],[(16,130,kPt)]⟩)]
def S5 (Gf FX DJ F3 FH G7 Df Gi DF Gv Hf GM DM Gw GP G5:Fn):Lp:=AT PG (Qm7 Gf FX DJ F3 FH G7 Df Gi DF Gv Hf GM DM Gw GP G5) 64 11 (AU PG 3 11) Q9a Qs9
def Q34 (Gf FX DJ F3 FH G7 Df Gi DF Gv Hf GM DM Gw GP G5:Fn) (N11:Lp):Cfg:=(Qm7 Gf FX DJ F3 FH G7 Df Gi DF Gv Hf GM DM Gw GP G5).loop 11 Q9a Qs9 N11
def Qqq (Gf FX DJ F3 FH G7 Df Gi DF Gv Hf GM DM Gw GP G5:Fn) (N11:Lp):Fn:=Am PG (Q34 Gf FX DJ F3 FH G7 Df Gi DF Gv Hf GM DM Gw GP G5 N11) 64 3 Q64 Qyu
theorem Zrg (Gf FX DJ F3 FH G7 Df Gi DF Gv Hf GM DM Gw GP G5:Fn) (v0 v1:Rw) (v2 v3 v4 v5 v6 v7 v8 v9 v10 v11:Int) (v12:Rw) (v13 v14 v15 v16 v17 v18 v19 v20 v21:Int) (v22:Rw) (v23 v24 v25 v26 v27 v28 v29 v30 v31:Int) (v32:Rw) (v33 v34 v35 v36 v37:Int) (K:Kf) (c:Cv):S5 Gf FX DJ F3 FH G7 Df Gi DF Gv Hf GM DM Gw GP G5 (.view kPt v0:: .view kPt v1::I v2::I v3::I v4::I v5::I v6::I v7::I v8::I v9::I v10::I v11:: .view Aa v12::I v13::I v14::I v15::I v16::I v17::I v18::I v19::I v20::I v21:: .view Aa v22::I v23::I v24::I v25::I v26::I v27::I v28::I v29::I v30::I v31:: .view Aa v32::I v33::I v34::I v35::I v36::I v37::Ad K c)=
 bif decide (v2<120)then
 (Gi [.view kPt v1,I v2]).bind fun o38=>
 (Df (.view kPt (wA o38 0)::Ad K c)).bind fun o39=>
 bif((v0++wA o39 0).length*24).ble 140737488355328 then
 some (0,(.view kPt (v0++wA o39 0):: .view kPt v1::I (IntKind.i64.wrap (v2+1))::I v3::I v4::I v5::I v6::I v7::I v8::I v9::I v10::I v11:: .view Aa v12::I v13::I v14::I v15::I v16::I v17::I v18::I v19::I v20::I v21:: .view Aa v22::I v23::I v24::I v25::I v26::I v27::I v28::I v29::I v30::I v31:: .view Aa v32::I v33::I v34::I v35::I v36::I v37::cR 9 o39))
 else
 none
 else
 some (1,(.view kPt v0::I v3::I v4::I v5::I v6::I v7::I v8::I v9::I v10::I v11:: .view Aa v12::I v13::I v14::I v15::I v16::I v17::I v18::I v19::I v20::I v21:: .view Aa v22::I v23::I v24::I v25::I v26::I v27::I v28::I v29::I v30::I v31:: .view Aa v32::I v33::I v34::I v35::I v36::I v37::Ad K c)):=by kernel_rfl
theorem Zkp (Gf FX DJ F3 FH G7 Df Gi DF Gv Hf GM DM Gw GP G5:Fn) (N11:Lp) (x0 x1 x2 x3:Rw) (x4:Int):Qqq Gf FX DJ F3 FH G7 Df Gi DF Gv Hf GM DM Gw GP G5 N11 [.view Aa x0, .view Aa x1, .view Aa x2, .view Aa x3,I x4]=
 (G5 []).bind fun o40=>
 bif !bA o40 0 then
 some [B false]
 else
 (GP [.view Aa x0, .view Aa x1, .view Aa x2, .view Aa x3]).bind fun o41=>
 bif !bA o41 0 then
 some [B true]
 else
 (Gw [.view Aa x1, .view Aa x2]).bind fun o42=>
 (DM [I x4,I 7]).bind fun o43=>
 (GM [.view Aa x0,jA o43 0,B true]).bind fun o44=>
 (Hf [.view Aa x3]).bind fun o45=>
 (Gv [.view kPt (wA o45 0)]).bind fun o46=>
 (DF [jA o42 0,jA o42 1,jA o42 2,jA o42 3,jA o42 4,jA o42 5,jA o42 6,jA o42 7,jA o42 8, .view Aa (wA o42 9),jA o42 10,jA o42 11,jA o42 12,jA o42 13,jA o42 14,jA o42 15,jA o42 16,jA o42 17,jA o42 18, .view Aa (wA o42 19),jA o42 20,jA o42 21,jA o42 22,jA o42 23,jA o42 24,jA o42 25,jA o42 26,jA o42 27,jA o42 28, .view Aa (wA o42 29),jA o42 30,jA o42 31,jA o42 32,jA o42 33,jA o42 34, .view Al (wA o44 0),B true]).bind fun o47=>
 bif gA o47 0 !=0 then
 some [B false]
 else
 (N11 (.view kPt []:: .view kPt (wA o46 0)::I 0::jA o42 0::jA o42 1::jA o42 2::jA o42 3::jA o42 4::jA o42 5::jA o42 6::jA o42 7::jA o42 8:: .view Aa (wA o42 9)::jA o42 10::jA o42 11::jA o42 12::jA o42 13::jA o42 14::jA o42 15::jA o42 16::jA o42 17::jA o42 18:: .view Aa (wA o42 19)::jA o42 20::jA o42 21::jA o42 22::jA o42 23::jA o42 24::jA o42 25::jA o42 26::jA o42 27::jA o42 28:: .view Aa (wA o42 29)::jA o42 30::jA o42 31::jA o42 32::jA o42 33::jA o42 34::cR 1 o47)).bind fun o48=>
 bif o48.1.beq 1 then
 (G7 (cR 36 o48.2)).bind fun o49=>
 (FH (cR 6 o49)).bind fun o50=>
 (F3 (cR 5 o50)).bind fun o51=>
 (DJ [jA o50 0,jA o50 1,jA o50 2, .view Ag (wA o50 3), .view kPt (wA o50 4),jA o48.2 1,jA o48.2 2,jA o48.2 3,jA o48.2 4,jA o48.2 5,jA o48.2 6,jA o48.2 7,jA o48.2 8,jA o48.2 9, .view Aa (wA o48.2 10),jA o48.2 11,jA o48.2 12,jA o48.2 13,jA o48.2 14,jA o48.2 15,jA o48.2 16,jA o48.2 17,jA o48.2 18,jA o48.2 19, .view Aa (wA o48.2 20),jA o48.2 21,jA o48.2 22,jA o48.2 23,jA o48.2 24,jA o48.2 25,jA o48.2 26,jA o48.2 27,jA o48.2 28,jA o48.2 29, .view Aa (wA o48.2 30), .view Ap (wA o51 0),jA o51 1,jA o51 2,jA o51 3,jA o51 4,jA o51 5,I 0,I (IntKind.i64.wrap ((gA o49 0).tdiv 256))]).bind fun o52=>
 (FX [.view kPt (wA o48.2 0), .view kPt (wA o52 0)]).bind fun o53=>
 bif bA o53 0 then
 (FH (cR 6 o51)).bind fun o54=>
 (F3 (cR 5 o54)).bind fun o55=>
 (Gf [jA o54 0,jA o54 1,jA o54 2, .view Ag (wA o54 3), .view kPt (wA o54 4),jA o48.2 1,jA o48.2 2,jA o48.2 3,jA o48.2 4,jA o48.2 5,jA o48.2 6,jA o48.2 7,jA o48.2 8,jA o48.2 9, .view Aa (wA o48.2 10),jA o48.2 11,jA o48.2 12,jA o48.2 13,jA o48.2 14,jA o48.2 15,jA o48.2 16,jA o48.2 17,jA o48.2 18,jA o48.2 19, .view Aa (wA o48.2 20),jA o48.2 21,jA o48.2 22,jA o48.2 23,jA o48.2 24,jA o48.2 25,jA o48.2 26,jA o48.2 27,jA o48.2 28,jA o48.2 29, .view Aa (wA o48.2 30), .view Ap (wA o55 0),jA o55 1,jA o55 2,jA o55 3,jA o55 4,jA o55 5,I 0,I (IntKind.i64.wrap ((gA o49 0).tdiv 256))]).bind fun o56=>
 (FX [.view kPt (wA o48.2 0), .view kPt (wA o56 0)]).bind fun o57=>
 some [B (bA o57 0)]
 else
 some [B false]
 else
 none:=by kernel_rfl
def Q1j:=An (S5 OG Nn G0 Oa No MY HY LF Ie Mn O8 La HV LX OH OQ)
def Q6q:=Qqq OG Nn G0 Oa No MY HY LF Ie Mn O8 La HV LX OH OQ Q1j
theorem Q6t:Ai PG (Qm7 OG Nn G0 Oa No MY HY LF Ie Mn O8 La HV LX OH OQ):=Ao rfl ⟨Zff,Znu,Q4l,Zky,Z38,Z6j,Qxi,Zj0,Qq3,Zn6,Zyq,Zdl,Qr7,Zw0,Zo7,Zjj,trivial⟩
theorem Zk4:∀(args:List TV) (v:TV) (mem:Mem),(Ac Q64 Qyu Q6q (TV×Mem) args ⟨[],[]⟩ fun v m=>some (v,m))=some (v,mem)->PCallM PG 3 args ⟨[],[]⟩ v mem:=fun args v mem h=>Zjn (f:=3) (C:=(Q34 OG Nn G0 Oa No MY HY LF Ie Mn O8 La HV LX OH OQ Q1j)) (L:=64) (by kernel_rfl) ((FnOK.bare rfl rfl rfl).loop Q6t eqOk Ig (by kernel_rfl) (by kernel_rfl)) Q6t eqOk Ig (by kernel_rfl) (by kernel_rfl) args v mem h
end Go.Bm
