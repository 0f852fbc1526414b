/- functions of the program and of the references, as models -/
import Derived.Test.YtommijghjlikkaaGreatMx3
set_option linter.unusedSimpArgs false
set_option linter.unusedVariables false
set_option maxRecDepth 100000
noncomputable section
open Go.IntKind (wrap)
namespace Go.Bm
open Go.Proofs
def Xi:Sk:=⟨[tf [CS.sl kPt],tf [ci]],[],[]⟩
def Zhb (M:Fn):Nat×Spec:=(22,Ad Xi Qpa M)
def C_cnclaw43_at_0:Cfg:={cf []with prom:=λb=>bif Nat.beq b 3 then [(5,69)]else []}
def Qqz:Sk:=⟨[td,tf [ci],td,td,td,tf [CS.own 5 3],td,td,tf [CS.sl kPt],tf [ci],tf [ci]]++dd 13,[],[(5,69,kPt)]⟩
def Qx3:List (Ex×Sk):=[(Ex.exit 0,⟨[td,td,td,td,td,tf [CS.own 5 3]]++dd 18,[],[(5,69,kPt)]⟩)]
def Um:Lp:=A0 PG C_cnclaw43_at_0 64 3 (AY PG 22 3) Qqz Qx3
def Qvl (N3:Lp):Cfg:=C_cnclaw43_at_0.loop 3 Qqz Qx3 N3
def WZ (N3:Lp):Fn:=An PG (Qvl N3) 64 22 Xi Qpa
theorem Zmk (v0:Rw) (v1:Int) (v2:Rw) (v3 v4:Int):Um [.view kPt v0,I v1, .view kPt v2,I v3,I v4]=
 bif decide (v4<v3)then
 bif decide (0<=v4)&&decide (v4<(v2.length:Int))then
 bif gA (nth [] v2 v4.toNat) 0==v1 then
 bif((v0++[[jA (nth [] v2 v4.toNat) 0,jA (nth [] v2 v4.toNat) 1,jA (nth [] v2 v4.toNat) 2]]).length*24).ble 140737488355328 then
 some (0,[.view kPt (v0++[[jA (nth [] v2 v4.toNat) 0,jA (nth [] v2 v4.toNat) 1,jA (nth [] v2 v4.toNat) 2]]),I v1, .view kPt v2,I v3,I (wrap .i64 (v4+1))])
 else
 none
 else
 some (0,[.view kPt v0,I v1, .view kPt v2,I v3,I (wrap .i64 (v4+1))])
 else
 none
 else
 some (1,[.view kPt v0]):=by kernel_rfl
theorem Z4v (N3:Lp) (x0:Rw) (x1:Int):WZ N3 [.view kPt x0,I x1]=
 (N3 [.view kPt [],I x1, .view kPt x0,I (x0.length:Int),I 0]).bind λo1=>
 bif o1.1.beq 1 then
 some [.view kPt (wA o1.2 0)]
 else
 none:=by kernel_rfl
def Q2i:=Am (Um)
def J0:=WZ Q2i
theorem Qrg:Aj PG (C_cnclaw43_at_0):=Ap rfl trivial
theorem Zbr:Al PG (22,Ad Xi Qpa J0):=rw2 (C:=(Qvl Q2i)) (fl fb Qrg) Qrg
def Wy:Sk:=⟨[tf [CS.sl Aa],tf [CS.sl Aa],tf [CS.sl Aa],tf [CS.sl Aa]],[],[]⟩
def Zb0 (M:Fn):Nat×Spec:=(14,Ad Wy Qnv M)
def YG (Nv:Fn):Cfg:=cf [Zdq Nv]
def YK (Nv:Fn):Fn:=An PG (YG Nv) 64 14 Wy Qnv
theorem Zkf (Nv:Fn) (x0 x1 x2 x3:Rw):YK Nv [.view Aa x0, .view Aa x1, .view Aa x2, .view Aa x3]=
 (Nv [.view [Kd.sl Aa] [[.view Aa x0],[.view Aa x1],[.view Aa x2],[.view Aa x3]]]).bind λo1=>
 some [B (bA o1 0)]:=by kernel_rfl
def LI:=YK JZ
theorem Z1t:Aj PG (YG JZ):=Ap rfl ⟨Zt4,trivial⟩
theorem Zaj:Al PG (14,Ad Wy Qnv LI):=rw1 (C:=(YG JZ)) Z1t
def Z5p (M:Fn):Nat×Spec:=(13,Ad Yg Qnv M)
def Qj7 (Cs CH:Fn):Cfg:=cp [Q8f Cs,Qts CH] [21,20]
def VZ (Cs CH:Fn):Fn:=An PG (Qj7 Cs CH) 64 13 Yg Qnv
theorem Zfi (Cs CH:Fn):VZ Cs CH []=
 (CH [I 8,I 10,I 10,I 10,I (-16777216),I 16777216,I 0,I 0,I 0, .view Aa [],I 8,I 10,I 10,I 10,I (-16777216),I 16777216,I 0,I 0,I 0, .view Aa [],I 8,I 10,I 10,I 10,I (-16777216),I 16777216,I 0,I 0,I 0, .view Aa [],I 9,I 3,I 100,I 1,I 0, .view Ah [],B true]).bind λo5=>
 (CH [I 8,I 10,I 10,I 10,I (-16777216),I 16777216,I 0,I 0,I 0, .view Aa [],I 8,I 10,I 10,I 10,I (-16777216),I 16777216,I 0,I 0,I 0, .view Aa [],I 8,I 10,I 10,I 10,I (-16777216),I 16777216,I 0,I 0,I 0, .view Aa [],I 9,I 3,I 100,I 1,I 0, .view Ah [[I 12,I 0,I 0,I 0,I 0,I 0,I 0,I 0,I 0,I 0,I 0,I 0,I 0,B false,I 0,B false,I 0,I 0,I 0,I 0,I 0,B false]],B true]).bind λo6=>
 bif gA o5 0 !=0 then
 some [B false]
 else
 bif gA o6 0 !=0 then
 some [B false]
 else
 (Cs (.view kPt []::cR 1 o5)).bind λo7=>
 bif gA o7 2==7 then
 (Cs (.view kPt []::cR 1 o6)).bind λo8=>
 bif gA o8 2==2 then
 (Cs (.view kPt [[I 0,I 4,I 0]]::cR 9 o8)).bind λo9=>
 some [B (gA o9 2==3)]
 else
 some [B false]
 else
 some [B false]:=by kernel_rfl
def LZ:=VZ Hq GO
theorem Zm9:Aj PG (Qj7 Hq GO):=Ap rfl ⟨Q5a,Q0t,trivial⟩
theorem Z42:Al PG (13,Ad Yg Qnv LZ):=rw1 (C:=(Qj7 Hq GO)) Zm9
def Qw4:Sk:=⟨[tf [CS.sl Aa],tf [CS.sl Aa],tf [CS.sl Aa],tf [CS.sl Aa],tf [CS.sl Aa]],[],[]⟩
def Zl (CU A7 Ez By Ew Cs Ey EL CW CH EM EA EK Ek EI Es:Fn):Cfg:=cp [Q1h CU,QY A7,Zhn Ez,YU By,Zb1 Ew,Q8f Cs,Zhb Ey,Z2a EL,Q7h CW,Qts CH,Zi5 EM,Ztt EA,Zy4 EK,Zbi Ek,Zb0 EI,Z5p Es] [27,23,21,34,20]
def Q3z:Sk:=⟨dd 11++[tf [CS.ptr 11 0],tf [CS.sl Ah],tf [CS.sl kPt],tf [CS.ptr 104600 0],td,tf [ci],tf [ci],td,td,tf [ci]]++dd 34++[tf [CS.sl Aa],tf [ci],tf [ci]]++dd 58,[(11,31,cc 9++[CS.sl Aa]++cc 9++[CS.sl Aa]++cc 9++[CS.sl Aa]++cc 5),(104600,119,cS)],[]⟩
def Q4o:List (Ex×Sk):=[(Ex.ret,⟨dd 10++[tf [CS.bool]]++dd 105,[],[]⟩),(Ex.exit 2,⟨dd 11++[tf [CS.ptr 11 0],tf [CS.sl Ah],tf [CS.sl kPt],tf [CS.ptr 104600 0],td,tf [ci]]++dd 38++[tf [CS.sl Aa],tf [ci],tf [ci]]++dd 58,[(11,31,cc 9++[CS.sl Aa]++cc 9++[CS.sl Aa]++cc 9++[CS.sl Aa]++cc 5),(104600,119,cS)],[]⟩)]
def Ox (CU A7 Ez By Ew Cs Ey EL CW CH EM EA EK Ek EI Es:Fn):Lp:=A0 PG (Zl CU A7 Ez By Ew Cs Ey EL CW CH EM EA EK Ek EI Es) 64 18 (AY PG 8 18) Q3z Q4o
def Q8b (CU A7 Ez By Ew Cs Ey EL CW CH EM EA EK Ek EI Es:Fn) (N18:Lp):Cfg:=(Zl CU A7 Ez By Ew Cs Ey EL CW CH EM EA EK Ek EI Es).loop 18 Q3z Q4o N18
def Qz5:Sk:=⟨dd 11++[tf [CS.ptr 11 0],tf [CS.sl Ah],tf [CS.sl kPt],tf [CS.ptr 104600 0],td,tf [ci]]++dd 38++[tf [CS.sl Aa],tf [ci],tf [ci]]++dd 58,[(11,31,cc 9++[CS.sl Aa]++cc 9++[CS.sl Aa]++cc 9++[CS.sl Aa]++cc 5),(104600,119,cS)],[]⟩
def Qxn:List (Ex×Sk):=[(Ex.ret,⟨dd 10++[tf [CS.bool]]++dd 105,[],[]⟩),(Ex.exit 0,⟨[td]++dd 115,[],[]⟩)]
def S5 (CU A7 Ez By Ew Cs Ey EL CW CH EM EA EK Ek EI Es:Fn) (N18:Lp):Lp:=A0 PG (Q8b CU A7 Ez By Ew Cs Ey EL CW CH EM EA EK Ek EI Es N18) 64 11 (AY PG 8 11) Qz5 Qxn
def Q2g (CU A7 Ez By Ew Cs Ey EL CW CH EM EA EK Ek EI Es:Fn) (N18 N11:Lp):Cfg:=(Q8b CU A7 Ez By Ew Cs Ey EL CW CH EM EA EK Ek EI Es N18).loop 11 Qz5 Qxn N11
def Wk (CU A7 Ez By Ew Cs Ey EL CW CH EM EA EK Ek EI Es:Fn) (N18 N11:Lp):Fn:=An PG (Q2g CU A7 Ez By Ew Cs Ey EL CW CH EM EA EK Ek EI Es N18 N11) 64 8 Qw4 Qnv
theorem Zn7 (CU A7 Ez By Ew Cs Ey EL CW CH EM EA EK Ek EI Es:Fn) (v0 v1:Rw) (v2 v3 v4:Int) (v5:Rw) (v6 v7 v8 v9 v10 v11 v12 v13 v14 v15 v16:Int) (v17:Rw) (v18 v19 v20 v21 v22 v23 v24 v25 v26:Int) (v27:Rw) (v28 v29 v30 v31 v32 v33 v34 v35 v36:Int) (v37:Rw) (v38 v39 v40 v41 v42:Int) (K:Kf) (c:Cv):Ox CU A7 Ez By Ew Cs Ey EL CW CH EM EA EK Ek EI Es (.view Ah v0:: .view kPt v1::I v2::I v3::I v4:: .view Aa v5::I v6::I v7::I v8::I v9::I v10::I v11::I v12::I v13::I v14::I v15::I v16:: .view Aa v17::I v18::I v19::I v20::I v21::I v22::I v23::I v24::I v25::I v26:: .view Aa v27::I v28::I v29::I v30::I v31::I v32::I v33::I v34::I v35::I v36:: .view Aa v37::I v38::I v39::I v40::I v41::I v42::Ac K c)=
 bif decide (v4<12)then
 (Ey [.view kPt v1,I (wrap .i64 (wrap .i64 (12*v3)+v4))]).bind λo34=>
 (Cs (.view kPt (wA o34 0)::Ac K c)).bind λo35=>
 (Ew (cR 9 o35)).bind λo36=>
 (By [I v38,I v39,I v40,jA o36 0,jA o36 1,jA o36 2,jA o36 3,jA o36 4,jA o36 5]).bind λo37=>
 bif !bA o37 1 then
 some (1,[B false])
 else
 (Ez (cR 6 o36)).bind λo38=>
 (A7 [.view At (wA o38 0),jA o38 1,jA o38 2,jA o38 3,jA o38 4,jA o38 5,I (wrap .i64 ((wrap .i64 (wrap .i64 (gA o37 0+256)-1)).tdiv 256))]).bind λo39=>
 bif decide (0<=v2)&&decide (v2<=(v0.length:Int))then
 (CU [.view Ah (List.take v2.toNat v0)]).bind λo40=>
 bif decide (gA o39 0>gA o40 0)then
 some (1,[B false])
 else
 some (0,(.view Ah v0:: .view kPt v1::I v2::I v3::I (wrap .i64 (v4+1)):: .view Aa v5::I v6::I v7::I v8::I v9::I v10::I v11::I v12::I v13::I v14::I v15::I v16:: .view Aa v17::I v18::I v19::I v20::I v21::I v22::I v23::I v24::I v25::I v26:: .view Aa v27::I v28::I v29::I v30::I v31::I v32::I v33::I v34::I v35::I v36:: .view Aa v37::I v38::I v39::I v40::I v41::I v42::cR 6 o38))
 else
 none
 else
 some (2,(.view Ah v0:: .view kPt v1::I v2:: .view Aa v5::I v6::I v7::I v8::I v9::I v10::I v11::I v12::I v13::I v14::I v15::I v16:: .view Aa v17::I v18::I v19::I v20::I v21::I v22::I v23::I v24::I v25::I v26:: .view Aa v27::I v28::I v29::I v30::I v31::I v32::I v33::I v34::I v35::I v36:: .view Aa v37::I v38::I v39::I v40::I v41::I v42::Ac K c)):=by kernel_rfl
theorem Zop (CU A7 Ez By Ew Cs Ey EL CW CH EM EA EK Ek EI Es:Fn) (N18:Lp) (v0 v1:Rw) (v2:Int) (v3:Rw) (v4 v5 v6 v7 v8 v9 v10 v11 v12 v13 v14:Int) (v15:Rw) (v16 v17 v18 v19 v20 v21 v22 v23 v24:Int) (v25:Rw) (v26 v27 v28 v29 v30 v31 v32 v33 v34:Int) (v35:Rw) (v36 v37 v38 v39 v40:Int) (K:Kf) (c:Cv):S5 CU A7 Ez By Ew Cs Ey EL CW CH EM EA EK Ek EI Es N18 (.view Ah v0:: .view kPt v1::I v2:: .view Aa v3::I v4::I v5::I v6::I v7::I v8::I v9::I v10::I v11::I v12::I v13::I v14:: .view Aa v15::I v16::I v17::I v18::I v19::I v20::I v21::I v22::I v23::I v24:: .view Aa v25::I v26::I v27::I v28::I v29::I v30::I v31::I v32::I v33::I v34:: .view Aa v35::I v36::I v37::I v38::I v39::I v40::Ac K c)=
 bif decide (v5<v4)then
 bif decide (0<=v5)&&decide (v5<(v3.length:Int))then
 (CW [jA (nth [] v3 v5.toNat) 0,I (wrap .i64 (wrap .i64 ((v0.length:Int)-v2)+1))]).bind λo41=>
 bif decide (0<=v2)&&decide (v2<=wrap .i64 (v2+gA o41 0))&&decide (wrap .i64 (v2+gA o41 0)<=(v0.length:Int))then
 (EL (.view Ah (List.drop v2.toNat (List.take (wrap .i64 (v2+gA o41 0)).toNat v0))::B false::Ac K c)).bind λo42=>
 bif gA o42 0 !=0 then
 some (1,[B false])
 else
 (N18 (.view Ah v0:: .view kPt v1::I (wrap .i64 (v2+gA o41 0))::I v5::I 0:: .view Aa v3::I v4::I v5::I v6::I v7::I v8::I v9::I v10::I v11::I v12::I v13::I v14:: .view Aa v15::I v16::I v17::I v18::I v19::I v20::I v21::I v22::I v23::I v24:: .view Aa v25::I v26::I v27::I v28::I v29::I v30::I v31::I v32::I v33::I v34:: .view Aa v35::I v36::I v37::I v38::I v39::I v40::cR 1 o42)).bind λo43=>
 bif o43.1.beq 1 then
 some (1,[B (bA o43.2 0)])
 else
 bif o43.1.beq 2 then
 some (0,(.view Ah (wA o43.2 0):: .view kPt (wA o43.2 1)::jA o43.2 2:: .view Aa (wA o43.2 3)::jA o43.2 4::I (wrap .i64 (gA o43.2 5+1))::jA o43.2 6::jA o43.2 7::jA o43.2 8::jA o43.2 9::jA o43.2 10::jA o43.2 11::jA o43.2 12::jA o43.2 13::jA o43.2 14:: .view Aa (wA o43.2 15)::jA o43.2 16::jA o43.2 17::jA o43.2 18::jA o43.2 19::jA o43.2 20::jA o43.2 21::jA o43.2 22::jA o43.2 23::jA o43.2 24:: .view Aa (wA o43.2 25)::jA o43.2 26::jA o43.2 27::jA o43.2 28::jA o43.2 29::jA o43.2 30::jA o43.2 31::jA o43.2 32::jA o43.2 33::jA o43.2 34:: .view Aa (wA o43.2 35)::jA o43.2 36::jA o43.2 37::jA o43.2 38::jA o43.2 39::jA o43.2 40::cR 41 o43.2))
 else
 none
 else
 none
 else
 none
 else
 some (2,[]):=by kernel_rfl
theorem Zml (CU A7 Ez By Ew Cs Ey EL CW CH EM EA EK Ek EI Es:Fn) (N18 N11:Lp) (x0 x1 x2 x3 x4:Rw):Wk CU A7 Ez By Ew Cs Ey EL CW CH EM EA EK Ek EI Es N18 N11 [.view Aa x0, .view Aa x1, .view Aa x2, .view Aa x3, .view Aa x4]=
 (Es []).bind λo44=>
 bif !bA o44 0 then
 some [B false]
 else
 (EI [.view Aa x0, .view Aa x1, .view Aa x2, .view Aa x3]).bind λo45=>
 bif !bA o45 0 then
 some [B true]
 else
 bif decide ((x4.length:Int)>20)then
 some [B true]
 else
 (Ek [.view Aa x1, .view Aa x2]).bind λo46=>
 (EK [.view Aa x0,I 7,B false]).bind λo47=>
 (EA [.view Aa x3]).bind λo48=>
 (EM [.view kPt (wA o48 0)]).bind λo49=>
 (CH [jA o46 0,jA o46 1,jA o46 2,jA o46 3,jA o46 4,jA o46 5,jA o46 6,jA o46 7,jA o46 8, .view Aa (wA o46 9),jA o46 10,jA o46 11,jA o46 12,jA o46 13,jA o46 14,jA o46 15,jA o46 16,jA o46 17,jA o46 18, .view Aa (wA o46 19),jA o46 20,jA o46 21,jA o46 22,jA o46 23,jA o46 24,jA o46 25,jA o46 26,jA o46 27,jA o46 28, .view Aa (wA o46 29),jA o46 30,jA o46 31,jA o46 32,jA o46 33,jA o46 34, .view Ah [],B false]).bind λo50=>
 bif gA o50 0 !=0 then
 some [B false]
 else
 (N11 (.view Ah (wA o47 0):: .view kPt (wA o49 0)::I 0:: .view Aa x4::I (x4.length:Int)::I 0::jA o46 0::jA o46 1::jA o46 2::jA o46 3::jA o46 4::jA o46 5::jA o46 6::jA o46 7::jA o46 8:: .view Aa (wA o46 9)::jA o46 10::jA o46 11::jA o46 12::jA o46 13::jA o46 14::jA o46 15::jA o46 16::jA o46 17::jA o46 18:: .view Aa (wA o46 19)::jA o46 20::jA o46 21::jA o46 22::jA o46 23::jA o46 24::jA o46 25::jA o46 26::jA o46 27::jA o46 28:: .view Aa (wA o46 29)::jA o46 30::jA o46 31::jA o46 32::jA o46 33::jA o46 34::cR 1 o50)).bind λo51=>
 bif o51.1.beq 1 then
 some [B (bA o51.2 0)]
 else
 bif o51.1.beq 2 then
 some [B true]
 else
 none:=by kernel_rfl
def Qno:=Am (Ox G6 Dr KP DY LC Hq J0 J3 HS GO KT LY KQ K9 LI LZ)
def Qz4:=Am (S5 G6 Dr KP DY LC Hq J0 J3 HS GO KT LY KQ K9 LI LZ Qno)
def Q2l:=Wk G6 Dr KP DY LC Hq J0 J3 HS GO KT LY KQ K9 LI LZ Qno Qz4
theorem Wg:Aj PG (Zl G6 Dr KP DY LC Hq J0 J3 HS GO KT LY KQ K9 LI LZ):=Ap rfl ⟨Qqm,QK,Z2n,Qnb,Znd,Q5a,Zbr,Zen,Q3c,Q0t,Znl,Zvk,Zf2,Zl4,Zaj,Z42,trivial⟩
theorem Zwg:∀(args:List TV) (v:TV) (mem:Mem),(Ad Qw4 Qnv Q2l (TV×Mem) args ⟨[],[]⟩ λv m=>some (v,m))=some (v,mem)->PCallM PG 8 args ⟨[],[]⟩ v mem:=λargs v mem h=>Zgo (f:=8) (C:=(Q2g G6 Dr KP DY LC Hq J0 J3 HS GO KT LY KQ K9 LI LZ Qno Qz4)) (L:=64) (by kernel_rfl) (((FnOK.bare rfl rfl rfl).loop Wg eqOk HT (by kernel_rfl) (by kernel_rfl)).loop Wg eqOk HT (by kernel_rfl) (by kernel_rfl)) Wg eqOk HT (by kernel_rfl) (by kernel_rfl) args v mem h
end Go.Bm
