/- functions of the program and of the references, as models -/
import Derived.Test.YtommijghjlikkaaGreatMx1
set_option linter.unusedSimpArgs false
set_option linter.unusedVariables false
set_option maxRecDepth 100000
noncomputable section
namespace Go.Bm
open Go.Proofs
def Qgd:Sk:=⟨[TS.v true [ci,ci,ci],TS.v true [ci,ci,ci]],[],[]⟩
def VG:Sk:=⟨[TS.v true [ci,ci,ci]],[],[]⟩
def Zzi (M:Fn):Nat×Spec:=(98,Ac Qgd VG M)
def W9 (Ga KN:Fn):Cfg:=cf [Qzg Ga,Zkl KN]
def Wo (Ga KN:Fn):Fn:=Am PG (W9 Ga KN) 64 98 Qgd VG
theorem Z22 (Ga KN:Fn) (x0 x1 x2 x3 x4 x5:Int):Wo Ga KN [I x0,I x1,I x2,I x3,I x4,I x5]=
 bif x4==10 then
 some [I 2,I 22,I (-1)]
 else
 bif x4==9 then
 (KN [I x0,I x1,I x2,I 21,I (-1)]).bind fun o3=>
 some [jA o3 0,jA o3 1,jA o3 2]
 else
 bif x4==8 then
 bif decide (x5>=0)then
 bif decide (x5<=2)then
 (KN [I x0,I x1,I x2,I 20,I x5]).bind fun o4=>
 some [jA o4 0,jA o4 1,jA o4 2]
 else
 some [I x0,I x1,I x2]
 else
 some [I x0,I x1,I x2]
 else
 bif x4==11 then
 (Ga []).bind fun o5=>
 some [jA o5 0,jA o5 1,jA o5 2]
 else
 some [I x0,I x1,I x2]:=by kernel_rfl
def R0:=Wo Ka Qg
theorem Zf7:Ai PG (W9 Ka Qg):=Ao rfl ⟨Qwj,Zmg,trivial⟩
theorem Zz0:Al PG (98,Ac Qgd VG R0):=rw1 (C:=(W9 Ka Qg)) Zf7
def VX:Sk:=⟨[tf [CS.bool],tf [ci]],[],[]⟩
def Qlu:Sk:=⟨[tf [CS.bool]],[],[]⟩
def Zuz (M:Fn):Nat×Spec:=(143,Ac VX Qlu M)
def Qd8:Cfg:=cf []
def WJ:Fn:=Am PG Qd8 64 143 VX Qlu
theorem Z13 (x0:Bool) (x1:Int):WJ [B x0,I x1]=
 bif x1==0 then
 some [B false]
 else
 bif x1==1 then
 some [B true]
 else
 some [B x0]:=by kernel_rfl
def O5:=WJ
theorem Zga:Ai PG (Qd8):=Ao rfl trivial
theorem Zh5:Al PG (143,Ac VX Qlu O5):=rw1 (C:=Qd8) Zga
def Qkv:Sk:=⟨[TS.v true [ci,ci,CS.bool,CS.bool,CS.bool],TS.v true [ci,ci,ci]],[],[]⟩
def V2:Sk:=⟨[TS.v true [ci,ci,CS.bool,CS.bool,CS.bool]],[],[]⟩
def Zl6 (M:Fn):Nat×Spec:=(97,Ac Qkv V2 M)
def Qf9 (KQ:Fn):Cfg:=cf [Zuz KQ]
def Tq (KQ:Fn):Fn:=Am PG (Qf9 KQ) 64 97 Qkv V2
theorem Q2z (KQ:Fn) (x0 x1:Int) (x2 x3 x4:Bool) (x5 x6 x7:Int):Tq KQ [I x0,I x1,B x2,B x3,B x4,I x5,I x6,I x7]=
 bif x6==1 then
 bif decide (0<=x7)then
 bif decide (x7<=200)then
 some [I x7,I x1,B x2,B x3,B x4]
 else
 some [I x0,I x1,B x2,B x3,B x4]
 else
 some [I x0,I x1,B x2,B x3,B x4]
 else
 bif x6==2 then
 bif decide (0<=x7)then
 bif decide (x7<=100)then
 some [I x0,I x7,B x2,B x3,B x4]
 else
 some [I x0,I x1,B x2,B x3,B x4]
 else
 some [I x0,I x1,B x2,B x3,B x4]
 else
 bif x6==3 then
 some [I x0,I x1,B true,B x3,B x4]
 else
 bif x6==4 then
 some [I x0,I x1,B false,B x3,B x4]
 else
 bif x6==5 then
 (KQ [B x3,I x7]).bind fun o2=>
 some [I x0,I x1,B x2,B (bA o2 0),B x4]
 else
 bif x6==6 then
 (KQ [B x4,I x7]).bind fun o3=>
 some [I x0,I x1,B x2,B x3,B (bA o3 0)]
 else
 some [I x0,I x1,B x2,B x3,B x4]:=by kernel_rfl
def SB:=Tq O5
theorem Zma:Ai PG (Qf9 O5):=Ao rfl ⟨Zh5,trivial⟩
theorem Zzc:Al PG (97,Ac Qkv V2 SB):=rw1 (C:=(Qf9 O5)) Zma
def Qnw:Sk:=⟨[tf [CS.ptr 20000 0],TS.v true [ci,ci,ci]],[(20000,119,cS)],[]⟩
def Qeu:Sk:=⟨[TS.tup []],[(20000,119,cS)],[]⟩
def Zl4 (M:Fn):Nat×Spec:=(60,Ac Qnw Qeu M)
def Qdp (Nd Nz Mh Mj Nq:Fn):Cfg:=cp [Z04 Nd,Zav Nz,Zl0 Mh,Zzi Mj,Zl6 Nq] [101,100,99]
def U1 (Nd Nz Mh Mj Nq:Fn):Fn:=Am PG (Qdp Nd Nz Mh Mj Nq) 64 60 Qnw Qeu
theorem Zoo (Nd Nz Mh Mj Nq:Fn) (x0 x1 x2:Int) (K:Kf) (c:Cv):U1 Nd Nz Mh Mj Nq (I x0::I x1::I x2::Ad K c)=
 (Nq [I c.o0,I c.o1,B c.o2,B c.o3,B c.o4,I x0,I x1,I x2]).bind fun o5=>
 (Mj [I c.g0,I c.g1,I c.g2,I x0,I x1,I x2]).bind fun o6=>
 bif x1==13 then
 (Mh (I x2::Ad K {c with o0:=gA o5 0,o1:=gA o5 1,o2:=bA o5 2,o3:=bA o5 3,o4:=bA o5 4,g0:=gA o6 0,g1:=gA o6 1,g2:=gA o6 2})).bind fun o7=>
 some (cR 0 o7)
 else
 bif x1==11 then
 some (Ad K {c with o0:=gA o5 0,o1:=gA o5 1,o2:=true,o3:=bA o5 3,o4:=bA o5 4,g0:=gA o6 0,g1:=gA o6 1,g2:=gA o6 2})
 else
 bif x1==12 then
 (Nz (Ad K {c with o0:=gA o5 0,o1:=gA o5 1,o2:=bA o5 2,o3:=bA o5 3,o4:=bA o5 4,g0:=gA o6 0,g1:=gA o6 1,g2:=gA o6 2})).bind fun o8=>
 some (cR 0 o8)
 else
 bif x1==7 then
 (Nd (I x2::Ad K {c with o0:=gA o5 0,o1:=gA o5 1,o2:=bA o5 2,o3:=bA o5 3,o4:=bA o5 4,g0:=gA o6 0,g1:=gA o6 1,g2:=gA o6 2})).bind fun o9=>
 some (cR 0 o9)
 else
 bif x1==4 then
 some (Ad K {c with o0:=gA o5 0,o1:=gA o5 1,o2:=bA o5 2,o3:=bA o5 3,o4:=bA o5 4,g0:=gA o6 0,g1:=gA o6 1,g2:=gA o6 2,resumed:=true})
 else
 some (Ad K {c with o0:=gA o5 0,o1:=gA o5 1,o2:=bA o5 2,o3:=bA o5 3,o4:=bA o5 4,g0:=gA o6 0,g1:=gA o6 1,g2:=gA o6 2}):=by kernel_rfl
def Kz:=U1 R_ QY QP R0 SB
theorem Zbv:Ai PG (Qdp R_ QY QP R0 SB):=Ao rfl ⟨Z0z,Zey,Z2q,Zz0,Zzc,trivial⟩
theorem Zhi:Al PG (60,Ac Qnw Qeu Kz):=rw1 (C:=(Qdp R_ QY QP R0 SB)) Zbv
def Z1:Sk:=⟨[tf [CS.ptr 20000 0],tf [CS.sl kPt]],[(20000,119,cS)],[]⟩
def Qg9:Sk:=⟨[TS.v true [CS.sl kPt,CS.sl Aa,ci,ci,ci,ci,ci,ci,ci]],[(20000,119,cS)],[]⟩
def Qxt (M:Fn):Nat×Spec:=(21,Ac Z1 Qg9 M)
def Qf6 (Ch Cp Ec Et Eb Eo Ea B_ AZ Dh Da D9:Fn):Cfg:=cr [Zhn Ch,Zt9 Cp,Zfi Ec,Zhx Et,Z0l Eb,Zr6 Eo,Zdr Ea,Q3y B_,P8 AZ,Z3h Dh,Zr9 Da,Zl4 D9] [71,70,69,68,67,66,65,63,61,60] [63,61]
def Q5w:Sk:=⟨[tf [CS.ptr 20000 0],td,td,td,tf [CS.ptr 4 0],td,td,td,td,td,td,td,td,td,td,td,td,td,td,tf [CS.sl kPt],tf [ci],tf [ci]]++dd 93,[(4,46,[CS.sl kPt,CS.sl Aa,ci,ci,ci,ci,ci,ci,ci]),(20000,119,cS)],[]⟩
def Q2l:List (Ex×Sk):=[(Ex.exit 0,⟨[tf [CS.ptr 20000 0],td,td,td,tf [CS.ptr 4 0]]++dd 110,[(4,46,[CS.sl kPt,CS.sl Aa,ci,ci,ci,ci,ci,ci,ci]),(20000,119,cS)],[]⟩)]
def QD (Ch Cp Ec Et Eb Eo Ea B_ AZ Dh Da D9:Fn):Lp:=AN PG (Qf6 Ch Cp Ec Et Eb Eo Ea B_ AZ Dh Da D9) 64 3 (AO PG 21 3) Q5w Q2l
def Qq1 (Ch Cp Ec Et Eb Eo Ea B_ AZ Dh Da D9:Fn) (N3:Lp):Cfg:=(Qf6 Ch Cp Ec Et Eb Eo Ea B_ AZ Dh Da D9).loop 3 Q5w Q2l N3
def Qxv:Sk:=⟨[tf [CS.ptr 20000 0],td,td,td,tf [CS.ptr 4 0],td,td,tf [ci],tf [CS.ptr 8 0],td,td,td,td,td,td,td,td,td,td,td,td,td,td,td,td,td,td,td,td,td,td,td,td,td,td,td,td,td,td,td,td,td,td,td,td,td,td,td,td,td,td,td,td,td,td,td,td,td,td,td,td,td,td,td,td,td,td,td,td,td,td,td,td,td,td,td,td,td,td,td,td,td,td,td,td,td,td,td,td,td,tf [CS.bsl 90 5],tf [ci],tf [ci]]++dd 22,[(4,46,[CS.sl kPt,CS.sl Aa,ci,ci,ci,ci,ci,ci,ci]),(8,46,[CS.sl kPt,CS.sl Aa,ci,ci,ci,ci,ci,ci,ci]),(90,125,[CS.clo 65 [(20000,0)] [],CS.clo 66 [(20000,0)] [],CS.clo 67 [(20000,0)] [],CS.clo 68 [(20000,0)] [],CS.clo 69 [(20000,0)] []]),(20000,119,cS)],[]⟩
def Q3k:List (Ex×Sk):=[(Ex.exit 2,⟨[tf [CS.ptr 20000 0],td,td,td,tf [CS.ptr 4 0],td,td,tf [ci],tf [CS.ptr 8 0]]++dd 106,[(4,46,[CS.sl kPt,CS.sl Aa,ci,ci,ci,ci,ci,ci,ci]),(8,46,[CS.sl kPt,CS.sl Aa,ci,ci,ci,ci,ci,ci,ci]),(20000,119,cS)],[]⟩)]
def IY (Ch Cp Ec Et Eb Eo Ea B_ AZ Dh Da D9:Fn) (N3:Lp):Lp:=AN PG (Qq1 Ch Cp Ec Et Eb Eo Ea B_ AZ Dh Da D9 N3) 64 16 (AO PG 21 16) Qxv Q3k
def Q8q (Ch Cp Ec Et Eb Eo Ea B_ AZ Dh Da D9:Fn) (N3 N16:Lp):Cfg:=(Qq1 Ch Cp Ec Et Eb Eo Ea B_ AZ Dh Da D9 N3).loop 16 Qxv Q3k N16
def Qb4 (Ch Cp Ec Et Eb Eo Ea B_ AZ Dh Da D9:Fn) (N3 N16:Lp):Fn:=Am PG (Q8q Ch Cp Ec Et Eb Eo Ea B_ AZ Dh Da D9 N3 N16) 64 21 Z1 Qg9
theorem Zcc (Ch Cp Ec Et Eb Eo Ea B_ AZ Dh Da D9:Fn) (v0:Rw) (v1 v2:Int) (v3 v4:Rw) (v5 v6 v7 v8 v9 v10 v11:Int) (K:Kf) (c:Cv):QD Ch Cp Ec Et Eb Eo Ea B_ AZ Dh Da D9 (.view kPt v0::I v1::I v2:: .view kPt v3:: .view Aa v4::I v5::I v6::I v7::I v8::I v9::I v10::I v11::Ad K c)=
 bif decide (v2<v1)then
 bif decide (0<=v2)&&decide (v2<(v0.length:Int))then
 (D9 (jA (nth [] v0 v2.toNat) 0::jA (nth [] v0 v2.toNat) 1::jA (nth [] v0 v2.toNat) 2::Ad K c)).bind fun o54=>
 some (0,(.view kPt v0::I v1::I (IntKind.i64.wrap (v2+1)):: .view kPt v3:: .view Aa v4::I v5::I v6::I v7::I v8::I v9::I v10::I v11::cR 0 o54))
 else
 none
 else
 some (1,(.view kPt v3:: .view Aa v4::I v5::I v6::I v7::I v8::I v9::I v10::I v11::Ad K c)):=by kernel_rfl
abbrev Ms (v0:Int) (v3 v4:Rw) (v5 v6 v7 v8 v9 v10 v11:Int) (v12 v13:Rw) (v15 v16 v17 v18 v19 v20 v1 v2 v14:Int) (h1_0:Bool) (h1_1:AC) (h1_2:List AC):Option (Nat×List AC):=
 bif h1_0 then
 some (1,(I v0:: .view kPt v3:: .view Aa v4::I v5::I v6::I v7::I v8::I v9::I v10::I v11:: .view kPt v12:: .view Aa v13::h1_1::I v15::I v16::I v17::I v18::I v19::I v20::h1_2))
 else
 some (0,(I v0::I v1::I (IntKind.i64.wrap (v2+1)):: .view kPt v3:: .view Aa v4::I v5::I v6::I v7::I v8::I v9::I v10::I v11:: .view kPt v12:: .view Aa v13::I v14::I v15::I v16::I v17::I v18::I v19::I v20::h1_2))
attribute [go_sem] Ms
theorem Zex (Ch Cp Ec Et Eb Eo Ea B_ AZ Dh Da D9:Fn) (N3:Lp) (v0 v1 v2:Int) (v3 v4:Rw) (v5 v6 v7 v8 v9 v10 v11:Int) (v12 v13:Rw) (v14 v15 v16 v17 v18 v19 v20:Int) (K:Kf) (c:Cv):IY Ch Cp Ec Et Eb Eo Ea B_ AZ Dh Da D9 N3 (I v0::I v1::I v2:: .view kPt v3:: .view Aa v4::I v5::I v6::I v7::I v8::I v9::I v10::I v11:: .view kPt v12:: .view Aa v13::I v14::I v15::I v16::I v17::I v18::I v19::I v20::Ad K c)=
 bif decide (v2<v1)then
 bif decide (v2=(↑0:Int))then
 (Ea (Ad K c)).bind fun o55=>
 Ms v0 v3 v4 v5 v6 v7 v8 v9 v10 v11 v12 v13 v15 v16 v17 v18 v19 v20 v1 v2 v14 (bA o55 1) (jA o55 0) (cR 2 o55)
 else
 bif decide (v2=(↑(0+1):Int))then
 (Eo (Ad K c)).bind fun o56=>
 Ms v0 v3 v4 v5 v6 v7 v8 v9 v10 v11 v12 v13 v15 v16 v17 v18 v19 v20 v1 v2 v14 (bA o56 1) (jA o56 0) (cR 2 o56)
 else
 bif decide (v2=(↑(0+1+1):Int))then
 (Eb (Ad K c)).bind fun o57=>
 Ms v0 v3 v4 v5 v6 v7 v8 v9 v10 v11 v12 v13 v15 v16 v17 v18 v19 v20 v1 v2 v14 (bA o57 1) (jA o57 0) (cR 2 o57)
 else
 bif decide (v2=(↑(0+1+1+1):Int))then
 (Et (Ad K c)).bind fun o58=>
 Ms v0 v3 v4 v5 v6 v7 v8 v9 v10 v11 v12 v13 v15 v16 v17 v18 v19 v20 v1 v2 v14 (bA o58 1) (jA o58 0) (cR 2 o58)
 else
 bif decide (v2=(↑(0+1+1+1+1):Int))then
 (Ec (Ad K c)).bind fun o59=>
 Ms v0 v3 v4 v5 v6 v7 v8 v9 v10 v11 v12 v13 v15 v16 v17 v18 v19 v20 v1 v2 v14 (bA o59 1) (jA o59 0) (cR 2 o59)
 else
 none
 else
 some (1,(I v0:: .view kPt v3:: .view Aa v4::I v5::I v6::I v7::I v8::I v9::I v10::I v11:: .view kPt v12:: .view Aa v13::I v14::I v15::I v16::I v17::I v18::I v19::I v20::Ad K c)):=by kernel_rfl
abbrev I5 (N16:Lp) (o60:Nat×List AC) (Cp Ch:Fn) (h1_0:AC) (h1_1:List AC):Option (List AC):=
 (N16 (h1_0::I (↑5:Int)::I 0:: .view kPt (wA o60.2 0):: .view Aa (wA o60.2 1)::jA o60.2 2::jA o60.2 3::jA o60.2 4::jA o60.2 5::jA o60.2 6::jA o60.2 7::jA o60.2 8:: .view kPt []:: .view Aa []::I 0::I 0::I 0::I 0::I 0::I 0::I 0::h1_1)).bind fun o65=>
 bif o65.1.beq 1 then
 bif gA o65.2 12==0 then
 (Cp (cR 19 o65.2)).bind fun o66=>
 (Ch (jA o65.2 0::(cR 1 o66++[.view kPt (wA o65.2 10), .view Aa (wA o65.2 11),jA o66 0,jA o65.2 13,jA o65.2 14,jA o65.2 15,jA o65.2 16,jA o65.2 17,jA o65.2 18]))).bind fun o67=>
 some (.view kPt (wA o67 90):: .view Aa (wA o67 91)::jA o67 92::jA o67 93::jA o67 94::jA o67 95::jA o67 96::jA o67 97::jA o67 98::cR 0 o67)
 else
 (Ch (jA o65.2 0::(cR 19 o65.2++[.view kPt (wA o65.2 10), .view Aa (wA o65.2 11),jA o65.2 12,jA o65.2 13,jA o65.2 14,jA o65.2 15,jA o65.2 16,jA o65.2 17,jA o65.2 18]))).bind fun o68=>
 some (.view kPt (wA o68 90):: .view Aa (wA o68 91)::jA o68 92::jA o68 93::jA o68 94::jA o68 95::jA o68 96::jA o68 97::jA o68 98::cR 0 o68)
 else
 none
attribute [go_sem] I5
abbrev Yh (Da:Fn) (o60:Nat×List AC) (Dh AZ B_:Fn) (N16:Lp) (Cp Ch:Fn):Option (List AC):=
 (Da (DW (cR 9 o60.2) [(58,B true),(86,jA o60.2 76)])).bind fun o61=>
 bif !bA o61 0 then
 (Dh [jA o60.2 73,jA o60.2 74,jA o60.2 75,jA o60.2 76,jA o60.2 42]).bind fun o62=>
 (AZ (DW (cR 9 o60.2) [(58,B true),(64,jA o62 0),(65,jA o62 1),(66,jA o62 2),(67,jA o62 3),(86,jA o60.2 76)])).bind fun o63=>
 (B_ [jA o60.2 59,jA o60.2 60,jA o60.2 61,jA o60.2 62,jA o60.2 63,jA o60.2 64]).bind fun o64=>
 I5 N16 o60 Cp Ch (jA o63 0) (DW (cR 9 o60.2) [(58,B true),(64,jA o62 0),(65,jA o62 1),(66,jA o62 2),(67,jA o62 3),(86,jA o60.2 76),(88,B (bA o64 0))])
 else
 (AZ (DW (cR 9 o60.2) [(58,B true),(86,jA o60.2 76)])).bind fun o69=>
 (B_ [jA o60.2 59,jA o60.2 60,jA o60.2 61,jA o60.2 62,jA o60.2 63,jA o60.2 64]).bind fun o70=>
 I5 N16 o60 Cp Ch (jA o69 0) (DW (cR 9 o60.2) [(58,B true),(86,jA o60.2 76),(88,B (bA o70 0))])
attribute [go_sem] Yh
theorem Zqh (Ch Cp Ec Et Eb Eo Ea B_ AZ Dh Da D9:Fn) (N3 N16:Lp) (x0:Rw) (K:Kf) (c:Cv):Qb4 Ch Cp Ec Et Eb Eo Ea B_ AZ Dh Da D9 N3 N16 (.view kPt x0::Ad K c)=
 (N3 (.view kPt x0::I (x0.length:Int)::I 0:: .view kPt []:: .view Aa []::I 0::I 0::I 0::I 0::I 0::I 0::I 0::Ad K {c with resumed:=false,changed:=false})).bind fun o60=>
 bif o60.1.beq 1 then
 bif bA o60.2 86 then
 Yh Da o60 Dh AZ B_ N16 Cp Ch
 else
 bif gA o60.2 70 !=0 then
 Yh Da o60 Dh AZ B_ N16 Cp Ch
 else
 (Da (DW (cR 9 o60.2) [(86,jA o60.2 76)])).bind fun o89=>
 bif !bA o89 0 then
 (Dh [jA o60.2 73,jA o60.2 74,jA o60.2 75,jA o60.2 76,jA o60.2 42]).bind fun o90=>
 (AZ (DW (cR 9 o60.2) [(64,jA o90 0),(65,jA o90 1),(66,jA o90 2),(67,jA o90 3),(86,jA o60.2 76)])).bind fun o91=>
 (B_ [jA o60.2 59,jA o60.2 60,jA o60.2 61,jA o60.2 62,jA o60.2 63,jA o60.2 64]).bind fun o92=>
 I5 N16 o60 Cp Ch (jA o91 0) (DW (cR 9 o60.2) [(64,jA o90 0),(65,jA o90 1),(66,jA o90 2),(67,jA o90 3),(86,jA o60.2 76),(88,B (bA o92 0))])
 else
 (AZ (DW (cR 9 o60.2) [(86,jA o60.2 76)])).bind fun o97=>
 (B_ [jA o60.2 59,jA o60.2 60,jA o60.2 61,jA o60.2 62,jA o60.2 63,jA o60.2 64]).bind fun o98=>
 I5 N16 o60 Cp Ch (jA o97 0) (DW (cR 9 o60.2) [(86,jA o60.2 76),(88,B (bA o98 0))])
 else
 none:=by kernel_rfl
def Qns:=An (QD LK LP Ls La Kv KZ Ll H_ Dg LE LY Kz)
def Q2f:=An (IY LK LP Ls La Kv KZ Ll H_ Dg LE LY Kz Qns)
def Hg:=Qb4 LK LP Ls La Kv KZ Ll H_ Dg LE LY Kz Qns Q2f
theorem Qhx:Ai PG (Qf6 LK LP Ls La Kv KZ Ll H_ Dg LE LY Kz):=GD (rs:=[63,61]) rfl ⟨Zwz,Zu2,Znd,Zq9,Z05,Zec,Ztr,Qp4,OI,Zwd,Zxg,Zhi,trivial⟩ rfl (B7 rfl (B7 rfl (B7 rfl (B7 rfl (B7 rfl (B7 rfl (B7 rfl (B7 rfl (EY (B7 rfl (EY (B7 rfl GN))))))))))))
theorem Q79:Al PG (21,Ac Z1 Qg9 Hg):=rw2 (C:=(Q8q LK LP Ls La Kv KZ Ll H_ Dg LE LY Kz Qns Q2f)) (fl (fl fb Qhx) Qhx) Qhx
def Qik:Sk:=⟨[tf [ci],tf [ci]],[],[]⟩
def Qou:Sk:=⟨[tf [ci]],[],[]⟩
def Q0f (M:Fn):Nat×Spec:=(17,Ac Qik Qou M)
def Vd:Cfg:=cf []
def Qv0:Fn:=Am PG Vd 64 17 Qik Qou
theorem Zxx (x0 x1:Int):Qv0 [I x0,I x1]=
 bif decide (x1=0)then
 none
 else
 bif decide (x1=0)then
 none
 else
 some [I ((IntKind.i64.wrap (x0.tmod x1+x1)).tmod x1)]:=by kernel_rfl
def G_:=Qv0
theorem Zlh:Ai PG (Vd):=Ao rfl trivial
theorem Q0e:Al PG (17,Ac Qik Qou G_):=rw1 (C:=Vd) Zlh
def Ym:Sk:=⟨[TS.v true [ci,ci,ci,ci,ci,ci,ci,ci,ci,ci,ci,ci,ci,CS.bool,ci,CS.bool,ci,ci,ci,ci,ci,CS.bool]],[],[]⟩
def Wt:Sk:=⟨[tf [CS.bool]],[],[]⟩
def Tz (M:Fn):Nat×Spec:=(81,Ac Ym Wt M)
def Ql3:Cfg:=cf []
def Qz0:Fn:=Am PG Ql3 64 81 Ym Wt
theorem Zvw (x0 x1 x2 x3 x4 x5 x6 x7 x8 x9 x10 x11 x12:Int) (x13:Bool) (x14:Int) (x15:Bool) (x16 x17 x18 x19 x20:Int) (x21:Bool):Qz0 [I x0,I x1,I x2,I x3,I x4,I x5,I x6,I x7,I x8,I x9,I x10,I x11,I x12,B x13,I x14,B x15,I x16,I x17,I x18,I x19,I x20,B x21]=
 bif x0==2 then
 some [B !(x2==x5&&(x3==x6&&(x4==x7&&true)))]
 else
 some [B false]:=by kernel_rfl
def EC:=Qz0
theorem Zy8:Ai PG (Ql3):=Ao rfl trivial
theorem RD:Al PG (81,Ac Ym Wt EC):=rw1 (C:=Ql3) Zy8
def Qgt:Sk:=⟨[tf [ci]],[],[]⟩
def Qm7:Sk:=⟨[tf [CS.bool]],[],[]⟩
def R3 (M:Fn):Nat×Spec:=(123,Ac Qgt Qm7 M)
def Zz:Cfg:=cf []
def Q68:Fn:=Am PG Zz 64 123 Qgt Qm7
theorem Z0p (x0:Int):Q68 [I x0]=
 bif decide (x0>=1)then
 some [B (decide (x0<=6))]
 else
 some [B false]:=by kernel_rfl
def DH:=Q68
theorem Z30:Ai PG (Zz):=Ao rfl trivial
theorem So:Al PG (123,Ac Qgt Qm7 DH):=rw1 (C:=Zz) Z30
def Qfe:Sk:=⟨[TS.v true [ci,ci,ci,ci,ci,ci,ci,ci,ci,ci,ci,ci,ci,CS.bool,ci,CS.bool,ci,ci,ci,ci,ci,CS.bool]],[],[]⟩
def Ql6:Sk:=⟨[tf [CS.bool]],[],[]⟩
def Q73 (M:Fn):Nat×Spec:=(169,Ac Qfe Ql6 M)
def Qja:Cfg:=cf []
def Q33:Fn:=Am PG Qja 64 169 Qfe Ql6
theorem Z3x (x0 x1 x2 x3 x4 x5 x6 x7 x8 x9 x10 x11 x12:Int) (x13:Bool) (x14:Int) (x15:Bool) (x16 x17 x18 x19 x20:Int) (x21:Bool):Q33 [I x0,I x1,I x2,I x3,I x4,I x5,I x6,I x7,I x8,I x9,I x10,I x11,I x12,B x13,I x14,B x15,I x16,I x17,I x18,I x19,I x20,B x21]=
 bif x0==5 then
 some [B true]
 else
 some [B (x0==6)]:=by kernel_rfl
def Hk:=Q33
theorem Zg7:Ai PG (Qja):=Ao rfl trivial
theorem Qw4:Al PG (169,Ac Qfe Ql6 Hk):=rw1 (C:=Qja) Zg7
def Qhd:Sk:=⟨[tf [CS.sl Ak],tf [ci]],[],[]⟩
def Qo1:Sk:=⟨[tf [CS.bool]],[],[]⟩
def Z3c (M:Fn):Nat×Spec:=(173,Ac Qhd Qo1 M)
def Qgw (AL Cu:Fn):Cfg:=cf [R3 AL,Q73 Cu]
def Q3g:Sk:=⟨[td,td,td,td,td,td,td,td,td,td,td,td,td,td,td,td,td,td,td,td,td,td,td,tf [CS.sl Ak],tf [ci],tf [ci]]++dd 9,[],[]⟩
def Q8b:List (Ex×Sk):=[(Ex.ret,⟨[td,td,td,td,tf [CS.bool]]++dd 30,[],[]⟩),(Ex.exit 0,⟨[td]++dd 34,[],[]⟩)]
def Lz (AL Cu:Fn):Lp:=AN PG (Qgw AL Cu) 64 4 (AO PG 173 4) Q3g Q8b
def Q0w (AL Cu:Fn) (N4:Lp):Cfg:=(Qgw AL Cu).loop 4 Q3g Q8b N4
def XZ (AL Cu:Fn) (N4:Lp):Fn:=Am PG (Q0w AL Cu N4) 64 173 Qhd Qo1
theorem Q3c (AL Cu:Fn) (v0:Rw) (v1 v2:Int):Lz AL Cu [.view Ak v0,I v1,I v2]=
 bif decide (v2<v1)then
 bif decide (0<=v2)&&decide (v2<(v0.length:Int))then
 (AL [jA (nth [] v0 v2.toNat) 0]).bind fun o5=>
 bif bA o5 0 then
 (Cu (AJ Ak (nth [] v0 v2.toNat))).bind fun o6=>
 some (1,[B (bA o6 0)])
 else
 some (0,[.view Ak v0,I v1,I (IntKind.i64.wrap (v2+1))])
 else
 none
 else
 some (2,[]):=by kernel_rfl
theorem Zb0 (AL Cu:Fn) (N4:Lp) (x0:Rw) (x1:Int):XZ AL Cu N4 [.view Ak x0,I x1]=
 bif decide (0<=x1)&&decide (x1<(x0.length:Int))then
 bif gA (nth [] x0 x1.toNat) 18==0 then
 some [B true]
 else
 bif decide (0<=x1)&&decide (x1<(x0.length:Int))then
 (Cu (AJ Ak (nth [] x0 x1.toNat))).bind fun o7=>
 bif bA o7 0 then
 some [B true]
 else
 bif decide (0<=IntKind.i64.wrap (x1+1))&&decide (IntKind.i64.wrap (x1+1)<=(x0.length:Int))then
 (N4 [.view Ak (List.drop (IntKind.i64.wrap (x1+1)).toNat x0),I (↑(List.drop (IntKind.i64.wrap (x1+1)).toNat x0).length:Int),I 0]).bind fun o8=>
 bif o8.1.beq 1 then
 some [B (bA o8.2 0)]
 else
 bif o8.1.beq 2 then
 some [B false]
 else
 none
 else
 none
 else
 none
 else
 none:=by kernel_rfl
def Q72:=An (Lz DH Hk)
def OP:=XZ DH Hk Q72
theorem Q6p:Ai PG (Qgw DH Hk):=Ao rfl ⟨So,Qw4,trivial⟩
theorem Znm:Al PG (173,Ac Qhd Qo1 OP):=rw2 (C:=(Q0w DH Hk Q72)) (fl fb Q6p) Q6p
def VZ:Sk:=⟨[tf [CS.ptr 20000 0],tf [CS.sl Ak],tf [ci]],[(20000,142,[ci,ci,ci,CS.own 20000 7,CS.own 20001 3,CS.bool,ci,ci,ci])],[(20000,162,Ah),(20001,76,kPt)]⟩
def Qi7:Sk:=⟨[TS.tup []],[(20000,142,[ci,ci,ci,CS.own 20000 7,CS.own 20001 3,CS.bool,ci,ci,ci])],[(20000,162,Ah),(20001,76,kPt)]⟩
def Z07 (M:Fn):Nat×Spec:=(127,Ac VZ Qi7 M)
def Qot (Ow AL:Fn):Cfg:=cf [Z3c Ow,R3 AL]
def Qew (Ow AL:Fn):Fn:=Am PG (Qot Ow AL) 64 127 VZ Qi7
abbrev Zl (AL:Fn) (x2:Rw) (x3:Int) (x1:Rw) (x8:Int) (x0:Rw) (x4 x5 x6:Int) (x7:Bool) (x9 x10:Int):Option (List AC):=
 (AL [jA (nth [] x2 x3.toNat) 0]).bind fun o6=>
 bif bA o6 0 then
 bif((x1++[[I x8,I 2,I x3]]).length*24).ble 140737488355328 then
 some [.view Ah x0, .view kPt (x1++[[I x8,I 2,I x3]]),I x4,I x5,I x6,B x7,I x8,I x9,I x10]
 else
 none
 else
 bif gA (nth [] x2 x3.toNat) 0==10 then
 bif((x1++[[I x8,I 5,I x3]]).length*24).ble 140737488355328 then
 some [.view Ah x0, .view kPt (x1++[[I x8,I 5,I x3]]),I x4,I x5,I x6,B x7,I x8,I x9,I x10]
 else
 none
 else
 bif gA (nth [] x2 x3.toNat) 0==13 then
 bif((x1++[[I x8,I 4,I x3]]).length*24).ble 140737488355328 then
 some [.view Ah x0, .view kPt (x1++[[I x8,I 4,I x3]]),I x4,I x5,I x6,B x7,I x8,I x9,I x10]
 else
 none
 else
 bif((x1++[[I x8,I 3,I x3]]).length*24).ble 140737488355328 then
 some [.view Ah x0, .view kPt (x1++[[I x8,I 3,I x3]]),I x4,I x5,I x6,B x7,I x8,I x9,I x10]
 else
 none
attribute [go_sem] Zl
theorem Zg3 (Ow AL:Fn) (x0 x1 x2:Rw) (x3 x4 x5 x6:Int) (x7:Bool) (x8 x9 x10:Int):Qew Ow AL [.view Ah x0, .view kPt x1, .view Ak x2,I x3,I x4,I x5,I x6,B x7,I x8,I x9,I x10]=
 bif decide (0<=x3)&&decide (x3<(x2.length:Int))then
 bif gA (nth [] x2 x3.toNat) 0==4 then
 bif((x1++[[I x8,I 6,I x3]]).length*24).ble 140737488355328 then
 some [.view Ah x0, .view kPt (x1++[[I x8,I 6,I x3]]),I x4,I x5,I x6,B x7,I x8,I x9,I x10]
 else
 none
 else
 (AL [jA (nth [] x2 x3.toNat) 0]).bind fun o4=>
 bif bA o4 0 then
 (Ow [.view Ak x2,I x3]).bind fun o5=>
 bif bA o5 0 then
 bif((x1++[[I x8,I 1,I x3]]).length*24).ble 140737488355328 then
 some [.view Ah x0, .view kPt (x1++[[I x8,I 1,I x3]]),I x4,I x5,I x6,B x7,I x8,I x9,I x10]
 else
 none
 else
 Zl AL x2 x3 x1 x8 x0 x4 x5 x6 x7 x9 x10
 else
 Zl AL x2 x3 x1 x8 x0 x4 x5 x6 x7 x9 x10
 else
 none:=by kernel_rfl
def IL:=Qew OP DH
theorem Zop:Ai PG (Qot OP DH):=Ao rfl ⟨Znm,So,trivial⟩
theorem Zsu:Al PG (127,Ac VZ Qi7 IL):=rw1 (C:=(Qot OP DH)) Zop
def Qo5:Sk:=⟨[TS.v true [ci,ci,ci,ci,ci,ci,ci,ci,ci,ci,ci,ci,ci,CS.bool,ci,CS.bool,ci,ci,ci,ci,ci,CS.bool]],[],[]⟩
def YD:Sk:=⟨[TS.v true [ci,ci,ci]],[],[]⟩
def Qc9 (M:Fn):Nat×Spec:=(172,Ac Qo5 YD M)
def Qkl:Cfg:=cf []
def Q1j:Fn:=Am PG Qkl 64 172 Qo5 YD
theorem Zpr (x0 x1 x2 x3 x4 x5 x6 x7 x8 x9 x10 x11 x12:Int) (x13:Bool) (x14:Int) (x15:Bool) (x16 x17 x18 x19 x20:Int) (x21:Bool):Q1j [I x0,I x1,I x2,I x3,I x4,I x5,I x6,I x7,I x8,I x9,I x10,I x11,I x12,B x13,I x14,B x15,I x16,I x17,I x18,I x19,I x20,B x21]=
 some [I (IntKind.i64.wrap (IntKind.i64.wrap (x2+x5)*8)),I (IntKind.i64.wrap (IntKind.i64.wrap (x3+x6)*8)),I (IntKind.i64.wrap (IntKind.i64.wrap (x4+x7)*8))]:=by kernel_rfl
def FX:=Q1j
theorem Z3s:Ai PG (Qkl):=Ao rfl trivial
theorem Qha:Al PG (172,Ac Qo5 YD FX):=rw1 (C:=Qkl) Z3s
def UM:Sk:=⟨[TS.v true [CS.int .u64,CS.int .u64],TS.v true [CS.int .u64,CS.int .u64]],[],[]⟩
def Qob:Sk:=⟨[tf [ci]],[],[]⟩
def Qzy (M:Fn):Nat×Spec:=(211,Ac UM Qob M)
def Y4:Cfg:=cf []
def Q4w:Fn:=Am PG Y4 64 211 UM Qob
theorem Znt (x0 x1 x2 x3:Int):Q4w [U x0,U x1,U x2,U x3]=
 bif decide (x0<x2)then
 some [I (-1)]
 else
 bif x0==x2 then
 bif decide (x1<x3)then
 some [I (-1)]
 else
 bif x0==x2&&(x1==x3&&true)then
 some [I 0]
 else
 some [I 1]
 else
 bif x0==x2&&(x1==x3&&true)then
 some [I 0]
 else
 some [I 1]:=by kernel_rfl
def HO:=Q4w
theorem Z0d:Ai PG (Y4):=Ao rfl trivial
theorem Qu1:Al PG (211,Ac UM Qob HO):=rw1 (C:=Y4) Z0d
def Qgv:Sk:=⟨[TS.v true [CS.int .u64,CS.int .u64]],[],[]⟩
def Qj2:Sk:=⟨[tf [CS.int .u64]],[],[]⟩
def Qtc (M:Fn):Nat×Spec:=(221,Ac Qgv Qj2 M)
def Qgm (DU BB:Fn):Cfg:=cf [Qzy DU,QZ BB]
def Qq8:Sk:=⟨[td,tf [CS.ptr 1 0],td,tf [CS.int .u64],tf [CS.int .u64]]++dd 16,[(1,185,[CS.int .u64,CS.int .u64])],[]⟩
def Q5x:List (Ex×Sk):=[(Ex.exit 0,⟨[td,td,td,tf [CS.int .u64]]++dd 17,[],[]⟩)]
def K7 (DU BB:Fn):Lp:=AN PG (Qgm DU BB) 64 3 (AO PG 221 3) Qq8 Q5x
def Q70 (DU BB:Fn) (N3:Lp):Cfg:=(Qgm DU BB).loop 3 Qq8 Q5x N3
def Uu (DU BB:Fn) (N3:Lp):Fn:=Am PG (Q70 DU BB N3) 64 221 Qgv Qj2
theorem Q3f (DU BB:Fn) (v0 v1 v2 v3:Int):K7 DU BB [U v0,U v1,U v2,U v3]=
 bif decide (v1>0)then
 (BB [U (IntKind.u64.wrap (↑(BitVec.ofInt IntKind.u64.bits v0|||BitVec.ofInt IntKind.u64.bits v1).toNat:Int)),U (IntKind.u64.wrap (↑(BitVec.ofInt IntKind.u64.bits v0|||BitVec.ofInt IntKind.u64.bits v1).toNat:Int))]).bind fun o3=>
 (DU [U (gA o3 0),U (gA o3 1),U v2,U v3]).bind fun o4=>
 bif decide (gA o4 0<=0)then
 some (0,[U (IntKind.u64.wrap (↑(BitVec.ofInt IntKind.u64.bits v0|||BitVec.ofInt IntKind.u64.bits v1).toNat:Int)),U (v1.fdiv (2^min (Int.toNat 1) IntKind.u64.bits)),U v2,U v3])
 else
 some (0,[U v0,U (v1.fdiv (2^min (Int.toNat 1) IntKind.u64.bits)),U v2,U v3])
 else
 some (1,[U v0]):=by kernel_rfl
theorem Zg4 (DU BB:Fn) (N3:Lp) (x0 x1:Int):Uu DU BB N3 [U x0,U x1]=
 (N3 [U 0,U 9223372036854775808,U x0,U x1]).bind fun o5=>
 bif o5.1.beq 1 then
 some [U (gA o5.2 0)]
 else
 none:=by kernel_rfl
def Q25:=An (K7 HO Ef)
def Ke:=Uu HO Ef Q25
theorem Q5c:Ai PG (Qgm HO Ef):=Ao rfl ⟨Qu1,TD,trivial⟩
theorem Quo:Al PG (221,Ac Qgv Qj2 Ke):=rw2 (C:=(Q70 HO Ef Q25)) (fl fb Q5c) Q5c
def Vj:Sk:=⟨[TS.v true [CS.int .u64,CS.int .u64],tf [ci]],[],[]⟩
def Vb:Sk:=⟨[TS.tup [(false,[ci]),(false,[CS.bool])]],[],[]⟩
def Z2z (M:Fn):Nat×Spec:=(216,Ac Vj Vb M)
def Z4 (A8 Lo FR Gc:Fn):Cfg:=cf [UO A8,(222,Ac Qr9 Q3n Lo),(175,Ac Qd7 Qcw FR),Qtc Gc]
def Qf7 (A8 Lo FR Gc:Fn):Fn:=Am PG (Z4 A8 Lo FR Gc) 64 216 Vj Vb
abbrev Qlh (x2:Int) (o17:List AC) (A8:Fn) (o14 o16:List AC):Option (List AC):=
 bif x2==2 then
 bif decide (gA o17 0>0)then
 (A8 [U (IntKind.u64.wrap (gA o14 0+1)),B false]).bind fun o20=>
 some [jA o20 0,B (bA o20 1)]
 else
 bif decide (gA o16 0>gA o14 0)then
 (A8 [U (IntKind.u64.wrap (gA o14 0+1)),B false]).bind fun o21=>
 some [jA o21 0,B (bA o21 1)]
 else
 (A8 [U (gA o14 0),B false]).bind fun o22=>
 some [jA o22 0,B (bA o22 1)]
 else
 (A8 [U (gA o14 0),B false]).bind fun o23=>
 some [jA o23 0,B (bA o23 1)]
attribute [go_sem] Qlh
theorem Z2f (A8 Lo FR Gc:Fn) (x0 x1 x2:Int):Qf7 A8 Lo FR Gc [U x0,U x1,I x2]=
 (Gc [U x0,U x1]).bind fun o14=>
 (FR [U (gA o14 0),U (gA o14 0)]).bind fun o15=>
 (Lo [U x1,U (gA o15 1),U 0]).bind fun o16=>
 (Lo [U x0,U (gA o15 0),U (gA o16 1)]).bind fun o17=>
 bif x2==1 then
 bif decide (gA o17 0>0)then
 (A8 [U (IntKind.u64.wrap (gA o14 0+1)),B false]).bind fun o18=>
 some [jA o18 0,B (bA o18 1)]
 else
 bif decide (gA o16 0>0)then
 (A8 [U (IntKind.u64.wrap (gA o14 0+1)),B false]).bind fun o19=>
 some [jA o19 0,B (bA o19 1)]
 else
 Qlh x2 o17 A8 o14 o16
 else
 Qlh x2 o17 A8 o14 o16:=by kernel_rfl
def Rh:=Qf7 EV Ki Ir Ke
theorem Zx5:Ai PG (Z4 EV Ki Ir Ke):=Ao rfl ⟨V8,Zdx,Q54,Quo,trivial⟩
theorem Zj5:Al PG (216,Ac Vj Vb Rh):=rw1 (C:=(Z4 EV Ki Ir Ke)) Zx5
def Zr:Sk:=⟨[tf [ci],tf [ci]],[],[]⟩
def V5:Sk:=⟨[TS.tup [(false,[ci]),(false,[CS.bool])]],[],[]⟩
def Qro (M:Fn):Nat×Spec:=(210,Ac Zr V5 M)
def Qdw (Nu DF:Fn):Cfg:=cf [Z2z Nu,Qjd DF]
def YI (Nu DF:Fn):Fn:=Am PG (Qdw Nu DF) 64 210 Zr V5
theorem Za2 (Nu DF:Fn) (x0 x1:Int):YI Nu DF [I x0,I x1]=
 bif decide (x0<0)then
 some [I 0,B false]
 else
 (DF [I x1]).bind fun o2=>
 bif !bA o2 0 then
 some [I 0,B false]
 else
 (Nu [U 0,U (IntKind.u64.wrap x0),I x1]).bind fun o3=>
 some [jA o3 0,B (bA o3 1)]:=by kernel_rfl
def Jf:=YI Rh Fv
theorem Ze7:Ai PG (Qdw Rh Fv):=Ao rfl ⟨Zj5,Qnb,trivial⟩
theorem Qyf:Al PG (210,Ac Zr V5 Jf):=rw1 (C:=(Qdw Rh Fv)) Ze7
def Qgo:Sk:=⟨[TS.v true [ci,ci,ci],TS.v true [ci,ci,ci]],[],[]⟩
def WS:Sk:=⟨[tf [ci]],[],[]⟩
def Qv6 (M:Fn):Nat×Spec:=(195,Ac Qgo WS M)
def Qjp (Ft:Fn):Cfg:={cf [Qro Ft]with unroll:=[3]}
def Qgn (Ft:Fn):Fn:=Am PG (Qjp Ft) 64 195 Qgo WS
theorem Z0s (Ft:Fn) (x0 x1 x2 x3 x4 x5:Int):Qgn Ft [I x0,I x1,I x2,I x3,I x4,I x5]=
 (Ft [I (IntKind.i64.wrap (IntKind.i64.wrap (IntKind.i64.wrap (0+IntKind.i64.wrap (IntKind.i64.wrap (x0-x3)*IntKind.i64.wrap (x0-x3)))+IntKind.i64.wrap (IntKind.i64.wrap (x1-x4)*IntKind.i64.wrap (x1-x4)))+IntKind.i64.wrap (IntKind.i64.wrap (x2-x5)*IntKind.i64.wrap (x2-x5)))),I 1]).bind fun o1=>
 some [jA o1 0]:=by kernel_rfl
def IC:=Qgn Jf
theorem Zcs:Ai PG (Qjp Jf):=Ao rfl ⟨Qyf,trivial⟩
theorem Qu9:Al PG (195,Ac Qgo WS IC):=rw1 (C:=(Qjp Jf)) Zcs
def Qgj:Sk:=⟨[tf [CS.ptr 20000 0],TS.v true [ci,ci,ci],TS.v true [ci,ci,ci,ci,ci,ci,ci]],[(20000,142,[ci,ci,ci,CS.own 20000 7,CS.own 20001 3,CS.bool,ci,ci,ci])],[(20000,162,Ah),(20001,76,kPt)]⟩
def VH:Sk:=⟨[TS.tup []],[(20000,142,[ci,ci,ci,CS.own 20000 7,CS.own 20001 3,CS.bool,ci,ci,ci])],[(20000,162,Ah),(20001,76,kPt)]⟩
def Zql (M:Fn):Nat×Spec:=(171,Ac Qgj VH M)
def Qex (C0:Fn):Cfg:=cf [Qv6 C0]
def Tt (C0:Fn):Fn:=Am PG (Qex C0) 64 171 Qgj VH
abbrev Qjb (x15:Bool) (x0 x1:Rw) (x2 x3 x4 x16 x17 x18 x12 x13 x14:Int) (C0:Fn) (x9 x10 x11:Int) (h1_0:Bool) (h1_1 h1_2 h1_3:AC):Option (List AC):=
 bif !x15 then
 some [.view Ah x0, .view kPt x1,I x2,I x3,I x4,B true,I x16,I x17,I x18]
 else
 bif h1_0 then
 some [.view Ah x0, .view kPt x1,I x12,I x13,I x14,B x15,I x16,I x17,I x18]
 else
 (C0 [h1_1,h1_2,h1_3,I x2,I x3,I x4]).bind fun o2=>
 bif((x0++[[I x2,I x3,I x4,jA o2 0,I x9,I x10,I x11]]).length*56).ble 140737488355328 then
 some [.view Ah (x0++[[I x2,I x3,I x4,jA o2 0,I x9,I x10,I x11]]), .view kPt x1,I x12,I x13,I x14,B x15,I (IntKind.i64.wrap (x16+gA o2 0)),I x17,I x18]
 else
 none
attribute [go_sem] Qjb
theorem Qw1 (C0:Fn) (x0 x1:Rw) (x2 x3 x4 x5 x6 x7 x8 x9 x10 x11 x12 x13 x14:Int) (x15:Bool) (x16 x17 x18:Int):Tt C0 [.view Ah x0, .view kPt x1,I x2,I x3,I x4,I x5,I x6,I x7,I x8,I x9,I x10,I x11,I x12,I x13,I x14,B x15,I x16,I x17,I x18]=
 bif decide ((x0.length:Int)>0)then
 bif decide (0<=IntKind.i64.wrap ((x0.length:Int)-1))&&decide (IntKind.i64.wrap ((x0.length:Int)-1)<(x0.length:Int))then
 Qjb x15 x0 x1 x2 x3 x4 x16 x17 x18 x12 x13 x14 C0 x9 x10 x11 (x2==gA (nth [] x0 (IntKind.i64.wrap ((x0.length:Int)-1)).toNat) 0&&(x3==gA (nth [] x0 (IntKind.i64.wrap ((x0.length:Int)-1)).toNat) 1&&(x4==gA (nth [] x0 (IntKind.i64.wrap ((x0.length:Int)-1)).toNat) 2&&true))) (jA (nth [] x0 (IntKind.i64.wrap ((x0.length:Int)-1)).toNat) 0) (jA (nth [] x0 (IntKind.i64.wrap ((x0.length:Int)-1)).toNat) 1) (jA (nth [] x0 (IntKind.i64.wrap ((x0.length:Int)-1)).toNat) 2)
 else
 none
 else
 Qjb x15 x0 x1 x2 x3 x4 x16 x17 x18 x12 x13 x14 C0 x9 x10 x11 (x2==x12&&(x3==x13&&(x4==x14&&true))) (I x12) (I x13) (I x14):=by kernel_rfl
def NN:=Tt IC
theorem Z3y:Ai PG (Qex IC):=Ao rfl ⟨Qu9,trivial⟩
theorem Zls:Al PG (171,Ac Qgj VH NN):=rw1 (C:=(Qex IC)) Z3y
def YX:Sk:=⟨[tf [CS.sl Ak],tf [ci]],[],[]⟩
def Qil:Sk:=⟨[tf [ci]],[],[]⟩
def Qcc (M:Fn):Nat×Spec:=(125,Ac YX Qil M)
def C_path_next_0:Cfg:=cf []
def Qy9:Sk:=⟨[tf [CS.sl Ak],tf [ci]]++dd 20,[],[]⟩
def Qyw:List (Ex×Sk):=[(Ex.exit 0,⟨[td,tf [ci]]++dd 20,[],[]⟩)]
def Qq:Lp:=AN PG C_path_next_0 64 2 (AO PG 125 2) Qy9 Qyw
def Q1x (N2:Lp):Cfg:=C_path_next_0.loop 2 Qy9 Qyw N2
def Qe1 (N2:Lp):Fn:=Am PG (Q1x N2) 64 125 YX Qil
theorem Q7t (v0:Rw) (v1:Int):Qq [.view Ak v0,I v1]=
 bif decide (v1<(v0.length:Int))then
 bif decide (0<=v1)&&decide (v1<(v0.length:Int))then
 bif gA (nth [] v0 v1.toNat) 0==10 then
 some (0,[.view Ak v0,I (IntKind.i64.wrap (v1+1))])
 else
 some (1,[I v1])
 else
 none
 else
 some (1,[I v1]):=by kernel_rfl
theorem Z10 (N2:Lp) (x0:Rw) (x1:Int):Qe1 N2 [.view Ak x0,I x1]=
 (N2 [.view Ak x0,I (IntKind.i64.wrap (x1+1))]).bind fun o1=>
 bif o1.1.beq 1 then
 some [jA o1.2 0]
 else
 none:=by kernel_rfl
def Qpb:=An (Qq)
def Fc:=Qe1 Qpb
theorem Qpo:Ai PG (C_path_next_0):=Ao rfl trivial
theorem Qb8:Al PG (125,Ac YX Qil Fc):=rw2 (C:=(Q1x Qpb)) (fl fb Qpo) Qpo
def Qne:Sk:=⟨[tf [CS.sl Ak],tf [ci]],[],[]⟩
def Ug:Sk:=⟨[tf [CS.bool]],[],[]⟩
def Q66 (M:Fn):Nat×Spec:=(124,Ac Qne Ug M)
def WB (Bi Bp:Fn):Cfg:=cf [Tz Bi,Qcc Bp]
def Qb2 (Bi Bp:Fn):Fn:=Am PG (WB Bi Bp) 64 124 Qne Ug
theorem Zbs (Bi Bp:Fn) (x0:Rw) (x1:Int):Qb2 Bi Bp [.view Ak x0,I x1]=
 (Bp [.view Ak x0,I x1]).bind fun o3=>
 bif decide (0<=x1)&&decide (x1<(x0.length:Int))then
 (Bi (AJ Ak (nth [] x0 x1.toNat))).bind fun o4=>
 bif bA o4 0 then
 bif decide (0<=x1)&&decide (x1<(x0.length:Int))then
 bif gA (nth [] x0 x1.toNat) 18 !=0 then
 bif decide (gA o3 0<(x0.length:Int))then
 bif decide (0<=gA o3 0)&&decide (gA o3 0<(x0.length:Int))then
 (Bi (AJ Ak (nth [] x0 (gA o3 0).toNat))).bind fun o5=>
 some [B (bA o5 0)]
 else
 none
 else
 some [B false]
 else
 some [B false]
 else
 none
 else
 some [B false]
 else
 none:=by kernel_rfl
def GP:=Qb2 EC Fc
theorem Zuh:Ai PG (WB EC Fc):=Ao rfl ⟨RD,Qb8,trivial⟩
theorem Q48:Al PG (124,Ac Qne Ug GP):=rw1 (C:=(WB EC Fc)) Zuh
def Qk9:Sk:=⟨[TS.v true [ci,ci,ci],TS.v true [ci,ci,ci],TS.v true [ci,ci,ci]],[],[]⟩
def Qev:Sk:=⟨[tf [ci]],[],[]⟩
def Qvb (M:Fn):Nat×Spec:=(219,Ac Qk9 Qev M)
def Qon:Cfg:={cf []with unroll:=[3]}
def Qt9:Fn:=Am PG Qon 64 219 Qk9 Qev
theorem Zth (x0 x1 x2 x3 x4 x5 x6 x7 x8:Int):Qt9 [I x0,I x1,I x2,I x3,I x4,I x5,I x6,I x7,I x8]=
 some [I (IntKind.i64.wrap (IntKind.i64.wrap (IntKind.i64.wrap (0+IntKind.i64.wrap (IntKind.i64.wrap (IntKind.i64.wrap (x0+x6)-IntKind.i64.wrap (2*x3))*IntKind.i64.wrap (IntKind.i64.wrap (x0+x6)-IntKind.i64.wrap (2*x3))))+IntKind.i64.wrap (IntKind.i64.wrap (IntKind.i64.wrap (x1+x7)-IntKind.i64.wrap (2*x4))*IntKind.i64.wrap (IntKind.i64.wrap (x1+x7)-IntKind.i64.wrap (2*x4))))+IntKind.i64.wrap (IntKind.i64.wrap (IntKind.i64.wrap (x2+x8)-IntKind.i64.wrap (2*x5))*IntKind.i64.wrap (IntKind.i64.wrap (x2+x8)-IntKind.i64.wrap (2*x5)))))]:=by kernel_rfl
def Gq:=Qt9
theorem Z03:Ai PG (Qon):=Ao rfl trivial
theorem Qs2:Al PG (219,Ac Qk9 Qev Gq):=rw1 (C:=Qon) Z03
def Wj:Sk:=⟨[TS.v true [ci,ci,ci],TS.v true [ci,ci,ci],TS.v true [ci,ci,ci]],[],[]⟩
def WL:Sk:=⟨[tf [ci]],[],[]⟩
def Zk6 (M:Fn):Nat×Spec:=(215,Ac Wj WL M)
def Qof (CH:Fn):Cfg:=cf [Qvb CH]
def Qyt:Sk:=⟨[td,td,td,tf [CS.ptr 3 0],tf [CS.ptr 4 0],tf [CS.ptr 5 0],td,tf [ci]]++dd 22,[(3,54,[ci,ci,ci]),(4,54,[ci,ci,ci]),(5,54,[ci,ci,ci])],[]⟩
def Q22:List (Ex×Sk):=[(Ex.exit 0,⟨[td,td,td,td,td,td,td,tf [ci]]++dd 22,[],[]⟩)]
def Pc (CH:Fn):Lp:=AN PG (Qof CH) 64 2 (AO PG 215 2) Qyt Q22
def Q00 (CH:Fn) (N2:Lp):Cfg:=(Qof CH).loop 2 Qyt Q22 N2
def U_ (CH:Fn) (N2:Lp):Fn:=Am PG (Q00 CH N2) 64 215 Wj WL
theorem Zv7 (CH:Fn) (v0 v1 v2 v3 v4 v5 v6 v7 v8 v9:Int):Pc CH [I v0,I v1,I v2,I v3,I v4,I v5,I v6,I v7,I v8,I v9]=
 bif decide (v0<64)then
 (CH [I v1,I v2,I v3,I v4,I v5,I v6,I v7,I v8,I v9]).bind fun o2=>
 bif decide (gA o2 0>IntKind.i64.wrap (IntKind.i64.wrap (IntKind.i64.wrap (IntKind.i64.wrap (IntKind.i64.wrap (IntKind.i64.wrap (16*v0)*v0)*v0)*v0)*4)*4))then
 some (0,[I (IntKind.i64.wrap (v0*2)),I v1,I v2,I v3,I v4,I v5,I v6,I v7,I v8,I v9])
 else
 some (1,[I v0])
 else
 some (1,[I v0]):=by kernel_rfl
theorem Zfh (CH:Fn) (N2:Lp) (x0 x1 x2 x3 x4 x5 x6 x7 x8:Int):U_ CH N2 [I x0,I x1,I x2,I x3,I x4,I x5,I x6,I x7,I x8]=
 (N2 [I 2,I x0,I x1,I x2,I x3,I x4,I x5,I x6,I x7,I x8]).bind fun o3=>
 bif o3.1.beq 1 then
 some [jA o3.2 0]
 else
 none:=by kernel_rfl
def Qzi:=An (Pc Gq)
def J5:=U_ Gq Qzi
theorem Qxe:Ai PG (Qof Gq):=Ao rfl ⟨Qs2,trivial⟩
theorem Zo9:Al PG (215,Ac Wj WL J5):=rw2 (C:=(Q00 Gq Qzi)) (fl fb Qxe) Qxe
def Qjc:Sk:=⟨[TS.v true [CS.int .u64,CS.int .u64],tf [CS.int .u64]],[],[]⟩
def Qap:Sk:=⟨[TS.tup [(true,[CS.int .u64,CS.int .u64]),(false,[CS.bool])]],[],[]⟩
def Zej (M:Fn):Nat×Spec:=(224,Ac Qjc Qap M)
def UU (FH:Fn):Cfg:=cf [Q04 FH]
def Qnk (FH:Fn):Fn:=Am PG (UU FH) 64 224 Qjc Qap
theorem Zh9 (FH:Fn) (x0 x1 x2:Int):Qnk FH [U x0,U x1,U x2]=
 (FH [U 0,U x0,U x2]).bind fun o2=>
 (FH [U (gA o2 1),U x1,U x2]).bind fun o3=>
 some [U (gA o2 0),U (gA o3 0),B (decide (gA o3 1>0))]:=by kernel_rfl
def Sj:=Qnk Gv
theorem Zoh:Ai PG (UU Gv):=Ao rfl ⟨Qs1,trivial⟩
theorem Za1:Al PG (224,Ac Qjc Qap Sj):=rw1 (C:=(UU Gv)) Zoh
def YF:Sk:=⟨[tf [ci],tf [ci],tf [ci],tf [ci]],[],[]⟩
def Qkw:Sk:=⟨[TS.tup [(false,[ci]),(false,[CS.bool])]],[],[]⟩
def Q75 (M:Fn):Nat×Spec:=(220,Ac YF Qkw M)
def Qko (A8 CD C4 Gc Mr BB DF Cb:Fn):Cfg:=cf [UO A8,Qvy CD,Qno C4,Qtc Gc,Zej Mr,QZ BB,Qjd DF,Y0 Cb]
def Wr (A8 CD C4 Gc Mr BB DF Cb:Fn):Fn:=Am PG (Qko A8 CD C4 Gc Mr BB DF Cb) 64 220 YF Qkw
abbrev Pa (CD:Fn) (x3:Int) (A8:Fn) (o42:List AC) (h1_0:Bool) (h1_1 h1_2 h1_3 h1_4:AC):Option (List AC):=
 bif h1_0 then
 (CD [I x3,h1_1,B true,h1_2]).bind fun o44=>
 bif bA o44 0 then
 (A8 [U (IntKind.u64.wrap (IntKind.u64.wrap ((gA o42 0).tdiv 2)+1)),h1_2]).bind fun o45=>
 some [jA o45 0,B (bA o45 1)]
 else
 (A8 [U (IntKind.u64.wrap ((gA o42 0).tdiv 2)),h1_2]).bind fun o46=>
 some [jA o46 0,B (bA o46 1)]
 else
 (CD [I x3,h1_3,h1_4,h1_2]).bind fun o47=>
 bif bA o47 0 then
 (A8 [U (IntKind.u64.wrap (IntKind.u64.wrap ((gA o42 0).tdiv 2)+1)),h1_2]).bind fun o48=>
 some [jA o48 0,B (bA o48 1)]
 else
 (A8 [U (IntKind.u64.wrap ((gA o42 0).tdiv 2)),h1_2]).bind fun o49=>
 some [jA o49 0,B (bA o49 1)]
attribute [go_sem] Pa
theorem Q88 (A8 CD C4 Gc Mr BB DF Cb:Fn) (x0 x1 x2 x3:Int):Wr A8 CD C4 Gc Mr BB DF Cb [I x0,I x1,I x2,I x3]=
 (Cb [I x0]).bind fun o35=>
 bif decide (gA o35 0>2147483648)then
 some [I 0,B false]
 else
 (Cb [I x1]).bind fun o36=>
 bif decide (gA o36 0>2147483648)then
 some [I 0,B false]
 else
 bif decide (x2<1)then
 some [I 0,B false]
 else
 bif decide (x2>4611686018427387904)then
 some [I 0,B false]
 else
 (DF [I x3]).bind fun o37=>
 bif !bA o37 0 then
 some [I 0,B false]
 else
 (Cb [I x0]).bind fun o38=>
 (Cb [I x1]).bind fun o39=>
 (BB [U (IntKind.u64.wrap (2*IntKind.u64.wrap (gA o38 0*gA o39 0))),U (IntKind.u64.wrap (2*IntKind.u64.wrap (gA o38 0*gA o39 0)))]).bind fun o40=>
 (Mr [U (gA o40 0),U (gA o40 1),U (IntKind.u64.wrap x2)]).bind fun o41=>
 (Gc [U (gA o41 0),U (gA o41 1)]).bind fun o42=>
 bif bA o41 2 then
 (C4 [I x0,I x1]).bind fun o43=>
 Pa CD x3 A8 o42 ((gA o42 0).tmod 2==1) (I 1) (B (decide (gA o43 0<0))) (I (-1)) (B true)
 else
 (BB [U (gA o42 0),U (gA o42 0)]).bind fun o50=>
 (C4 [I x0,I x1]).bind fun o51=>
 bif(gA o42 0).tmod 2==1 then
 bif !(gA o50 0==gA o41 0&&(gA o50 1==gA o41 1&&true))then
 Pa CD x3 A8 o42 (!(gA o50 0==gA o41 0&&(gA o50 1==gA o41 1&&true))) (I 1) (B (decide (gA o51 0<0))) (I 1) (B ((gA o42 0).tmod 2==1))
 else
 Pa CD x3 A8 o42 (!(gA o50 0==gA o41 0&&(gA o50 1==gA o41 1&&true))) (I 0) (B (decide (gA o51 0<0))) (I 0) (B ((gA o42 0).tmod 2==1))
 else
 Pa CD x3 A8 o42 (!(gA o50 0==gA o41 0&&(gA o50 1==gA o41 1&&true))) (I (-1)) (B (decide (gA o51 0<0))) (I (-1)) (B ((gA o42 0).tmod 2==1)):=by kernel_rfl
def H6:=Wr EV He Fz Ke Sj Ef Fv Gb
theorem Zra:Ai PG (Qko EV He Fz Ke Sj Ef Fv Gb):=Ao rfl ⟨V8,Qxn,YZ,Quo,Za1,TD,Qnb,Qnn,trivial⟩
theorem Q05:Al PG (220,Ac YF Qkw H6):=rw1 (C:=(Qko EV He Fz Ke Sj Ef Fv Gb)) Zra
def Up:Sk:=⟨[TS.v true [ci,ci,ci],TS.v true [ci,ci,ci],tf [ci]],[],[]⟩
def XY:Sk:=⟨[TS.tup [(true,[ci,ci,ci]),(false,[CS.bool])]],[],[]⟩
def Q0z (M:Fn):Nat×Spec:=(214,Ac Up XY M)
def Qj4 (Ck:Fn):Cfg:={cf [Q75 Ck]with unroll:=[5,10]}
def Xj (Ck:Fn):Fn:=Am PG (Qj4 Ck) 64 214 Up XY
theorem Zzn (Ck:Fn) (x0 x1 x2 x3 x4 x5 x6:Int):Xj Ck [I x0,I x1,I x2,I x3,I x4,I x5,I x6]=
 bif x3==x0&&(x4==x1&&(x5==x2&&true))then
 some [I 0,I 0,I 0,B false]
 else
 bif decide (x6<0)then
 some [I 0,I 0,I 0,B false]
 else
 bif decide (x6>33554432)then
 some [I 0,I 0,I 0,B false]
 else
 (Ck [I (IntKind.i64.wrap (x3-x0)),I x6,I (IntKind.i64.wrap (IntKind.i64.wrap (IntKind.i64.wrap (0+IntKind.i64.wrap (IntKind.i64.wrap (x3-x0)*IntKind.i64.wrap (x3-x0)))+IntKind.i64.wrap (IntKind.i64.wrap (x4-x1)*IntKind.i64.wrap (x4-x1)))+IntKind.i64.wrap (IntKind.i64.wrap (x5-x2)*IntKind.i64.wrap (x5-x2)))),I 2]).bind fun o3=>
 (Ck [I (IntKind.i64.wrap (x4-x1)),I x6,I (IntKind.i64.wrap (IntKind.i64.wrap (IntKind.i64.wrap (0+IntKind.i64.wrap (IntKind.i64.wrap (x3-x0)*IntKind.i64.wrap (x3-x0)))+IntKind.i64.wrap (IntKind.i64.wrap (x4-x1)*IntKind.i64.wrap (x4-x1)))+IntKind.i64.wrap (IntKind.i64.wrap (x5-x2)*IntKind.i64.wrap (x5-x2)))),I 2]).bind fun o4=>
 (Ck [I (IntKind.i64.wrap (x5-x2)),I x6,I (IntKind.i64.wrap (IntKind.i64.wrap (IntKind.i64.wrap (0+IntKind.i64.wrap (IntKind.i64.wrap (x3-x0)*IntKind.i64.wrap (x3-x0)))+IntKind.i64.wrap (IntKind.i64.wrap (x4-x1)*IntKind.i64.wrap (x4-x1)))+IntKind.i64.wrap (IntKind.i64.wrap (x5-x2)*IntKind.i64.wrap (x5-x2)))),I 2]).bind fun o5=>
 some [I (IntKind.i64.wrap (x0+gA o3 0)),I (IntKind.i64.wrap (x1+gA o4 0)),I (IntKind.i64.wrap (x2+gA o5 0)),B true]:=by kernel_rfl
def GU:=Xj H6
theorem Zjo:Ai PG (Qj4 H6):=Ao rfl ⟨Q05,trivial⟩
theorem Q2a:Al PG (214,Ac Up XY GU):=rw1 (C:=(Qj4 H6)) Zjo
def V3:Sk:=⟨[TS.v true [ci,ci,ci],TS.v true [ci,ci,ci],TS.v true [ci,ci,ci],tf [ci]],[],[]⟩
def X2:Sk:=⟨[tf [ci]],[],[]⟩
def Znv (M:Fn):Nat×Spec:=(213,Ac V3 X2 M)
def Qfo (CH Cl C0:Fn):Cfg:=cf [Qvb CH,Q0z Cl,Qv6 C0]
def Q13:Sk:=⟨[td,td,td,tf [ci],tf [CS.ptr 4 0],tf [CS.ptr 5 0],tf [CS.ptr 6 0],td,td,tf [ci],tf [ci],tf [ci]]++dd 62,[(4,54,[ci,ci,ci]),(5,54,[ci,ci,ci]),(6,54,[ci,ci,ci])],[]⟩
def Qzd:List (Ex×Sk):=[(Ex.exit 0,⟨[td,td,td,td,td,td,td,td,td,td,tf [ci]]++dd 63,[],[]⟩)]
def L6 (CH Cl C0:Fn):Lp:=AN PG (Qfo CH Cl C0) 64 6 (AO PG 213 6) Q13 Qzd
def Q41 (CH Cl C0:Fn) (N6:Lp):Cfg:=(Qfo CH Cl C0).loop 6 Q13 Qzd N6
def Qos (CH Cl C0:Fn) (N6:Lp):Fn:=Am PG (Q41 CH Cl C0 N6) 64 213 V3 X2
theorem Qzs (CH Cl C0:Fn) (v0 v1 v2 v3 v4 v5 v6 v7 v8 v9 v10 v11 v12:Int):L6 CH Cl C0 [I v0,I v1,I v2,I v3,I v4,I v5,I v6,I v7,I v8,I v9,I v10,I v11,I v12]=
 bif decide (v3>0)then
 bif decide (IntKind.i64.wrap (v2+v3)>v1)then
 some (0,[I v0,I v1,I v2,I (v3.fdiv (2^min (Int.toNat 1) IntKind.i64.bits)),I v4,I v5,I v6,I v7,I v8,I v9,I v10,I v11,I v12])
 else
 (Cl [I v7,I v8,I v9,I v4,I v5,I v6,I (IntKind.i64.wrap (v2+v3))]).bind fun o8=>
 (Cl [I v7,I v8,I v9,I v10,I v11,I v12,I (IntKind.i64.wrap (v2+v3))]).bind fun o9=>
 (CH [jA o8 0,jA o8 1,jA o8 2,I v7,I v8,I v9,jA o9 0,jA o9 1,jA o9 2]).bind fun o10=>
 bif decide (gA o10 0<=IntKind.i64.wrap (IntKind.i64.wrap (16*v0)*v0))then
 some (0,[I v0,I v1,I (IntKind.i64.wrap (v2+v3)),I (v3.fdiv (2^min (Int.toNat 1) IntKind.i64.bits)),I v4,I v5,I v6,I v7,I v8,I v9,I v10,I v11,I v12])
 else
 some (0,[I v0,I v1,I v2,I (v3.fdiv (2^min (Int.toNat 1) IntKind.i64.bits)),I v4,I v5,I v6,I v7,I v8,I v9,I v10,I v11,I v12])
 else
 some (1,[I v2]):=by kernel_rfl
theorem Zsi (CH Cl C0:Fn) (N6:Lp) (x0 x1 x2 x3 x4 x5 x6 x7 x8 x9:Int):Qos CH Cl C0 N6 [I x0,I x1,I x2,I x3,I x4,I x5,I x6,I x7,I x8,I x9]=
 bif x0==x3&&(x1==x4&&(x2==x5&&true))then
 some [I 0]
 else
 bif x6==x3&&(x7==x4&&(x8==x5&&true))then
 some [I 0]
 else
 (C0 [I x0,I x1,I x2,I x3,I x4,I x5]).bind fun o11=>
 (C0 [I x3,I x4,I x5,I x6,I x7,I x8]).bind fun o12=>
 (N6 [I x9,I (IntKind.i64.wrap (mn (gA o11 0) (gA o12 0)-2)),I 0,I 16777216,I x0,I x1,I x2,I x3,I x4,I x5,I x6,I x7,I x8]).bind fun o13=>
 bif o13.1.beq 1 then
 bif decide (gA o13.2 0<16)then
 some [I 0]
 else
 some [jA o13.2 0]
 else
 none:=by kernel_rfl
def Q1t:=An (L6 Gq GU IC)
def K_:=Qos Gq GU IC Q1t
theorem Q3b:Ai PG (Qfo Gq GU IC):=Ao rfl ⟨Qs2,Q2a,Qu9,trivial⟩
theorem Q8y:Al PG (213,Ac V3 X2 K_):=rw2 (C:=(Q41 Gq GU IC Q1t)) (fl fb Q3b) Q3b
def Zb:Sk:=⟨[TS.v true [ci,ci,ci],TS.v true [ci,ci,ci],TS.v true [ci,ci,ci],tf [ci]],[],[]⟩
def Qnm:Sk:=⟨[tf [CS.sl kPt]],[],[]⟩
def Zt6 (M:Fn):Nat×Spec:=(208,Ac Zb Qnm M)
def Qa1 (AG G5 Cl GY:Fn):Cfg:={cf [Kx AG,Zk6 G5,Q0z Cl,Znv GY]with unroll:=[13]}
def Qsg:Sk:=⟨[td,td,td,td,td,tf [CS.ptr 5 0],td,td,td,td,tf [CS.ptr 10 0],td,tf [CS.ptr 12 0],td,tf [ci],tf [CS.own 50 3],td,td,td,td,td,td,td,td,td,td,td,td,td,td,td,td,td,td,td,td,td,td,td,td,td,td,td,td,td,td,td,td,td,td,td,td,tf [ci],tf [ci]]++dd 57,[(5,54,[ci,ci,ci]),(10,54,[ci,ci,ci]),(12,54,[ci,ci,ci])],[(50,54,kPt)]⟩
def Qyx:List (Ex×Sk):=[(Ex.exit 0,⟨[td,td,td,td,td,td,td,td,td,td,td,td,td,td,td,tf [CS.own 50 3]]++dd 95,[],[(50,54,kPt)]⟩)]
def NM (AG G5 Cl GY:Fn):Lp:=AN PG (Qa1 AG G5 Cl GY) 64 9 (AO PG 208 9) Qsg Qyx
def Qyi (AG G5 Cl GY:Fn) (N9:Lp):Cfg:=(Qa1 AG G5 Cl GY).loop 9 Qsg Qyx N9
def Qiq (AG G5 Cl GY:Fn) (N9:Lp):Fn:=Am PG (Qyi AG G5 Cl GY N9) 64 208 Zb Qnm
theorem Qpe (AG G5 Cl GY:Fn) (v0:Rw) (v1 v2 v3 v4 v5 v6 v7 v8 v9 v10 v11 v12:Int):NM AG G5 Cl GY [.view kPt v0,I v1,I v2,I v3,I v4,I v5,I v6,I v7,I v8,I v9,I v10,I v11,I v12]=
 bif decide (v3<v2)then
 bif decide (0<=v3)&&decide (v3<(v0.length:Int))then
 (AG [I (IntKind.i64.wrap (IntKind.i64.wrap (IntKind.i64.wrap (IntKind.i64.wrap (v1-v3)*IntKind.i64.wrap (v1-v3))*IntKind.i64.wrap (v7-v4))+IntKind.i64.wrap (IntKind.i64.wrap (v3*v3)*IntKind.i64.wrap (v10-v4)))),I 1,I (IntKind.i64.wrap (v1*v1)),I 2]).bind fun o12=>
 bif decide (0<=v3)&&decide (v3<(v0.length:Int))then
 bif decide (0<=v3)&&decide (v3<(v0.length:Int))then
 (AG [I (IntKind.i64.wrap (IntKind.i64.wrap (IntKind.i64.wrap (IntKind.i64.wrap (v1-v3)*IntKind.i64.wrap (v1-v3))*IntKind.i64.wrap (v8-v5))+IntKind.i64.wrap (IntKind.i64.wrap (v3*v3)*IntKind.i64.wrap (v11-v5)))),I 1,I (IntKind.i64.wrap (v1*v1)),I 2]).bind fun o13=>
 bif decide (0<=v3)&&decide (v3<(v0.length:Int))then
 bif decide (0<=v3)&&decide (v3<(v0.length:Int))then
 (AG [I (IntKind.i64.wrap (IntKind.i64.wrap (IntKind.i64.wrap (IntKind.i64.wrap (v1-v3)*IntKind.i64.wrap (v1-v3))*IntKind.i64.wrap (v9-v6))+IntKind.i64.wrap (IntKind.i64.wrap (v3*v3)*IntKind.i64.wrap (v12-v6)))),I 1,I (IntKind.i64.wrap (v1*v1)),I 2]).bind fun o14=>
 bif decide (0<=v3)&&decide (v3<(v0.length:Int))then
 bif decide (0<=v3)&&decide (v3<(v0.length:Int))then
 some (0,[.view kPt ((((v0.set v3.toNat [I v4,I v5,I v6]).set v3.toNat [I (IntKind.i64.wrap (Af (nth .dead (nth [] (v0.set v3.toNat [I v4,I v5,I v6]) v3.toNat) 0)+gA o12 0)),I (Af (nth .dead (nth [] (v0.set v3.toNat [I v4,I v5,I v6]) v3.toNat) 1)),I (Af (nth .dead (nth [] (v0.set v3.toNat [I v4,I v5,I v6]) v3.toNat) 2))]).set v3.toNat [I (Af (nth .dead (nth [] ((v0.set v3.toNat [I v4,I v5,I v6]).set v3.toNat [I (IntKind.i64.wrap (Af (nth .dead (nth [] (v0.set v3.toNat [I v4,I v5,I v6]) v3.toNat) 0)+gA o12 0)),I (Af (nth .dead (nth [] (v0.set v3.toNat [I v4,I v5,I v6]) v3.toNat) 1)),I (Af (nth .dead (nth [] (v0.set v3.toNat [I v4,I v5,I v6]) v3.toNat) 2))]) v3.toNat) 0)),I (IntKind.i64.wrap (Af (nth .dead (nth [] ((v0.set v3.toNat [I v4,I v5,I v6]).set v3.toNat [I (IntKind.i64.wrap (Af (nth .dead (nth [] (v0.set v3.toNat [I v4,I v5,I v6]) v3.toNat) 0)+gA o12 0)),I (Af (nth .dead (nth [] (v0.set v3.toNat [I v4,I v5,I v6]) v3.toNat) 1)),I (Af (nth .dead (nth [] (v0.set v3.toNat [I v4,I v5,I v6]) v3.toNat) 2))]) v3.toNat) 1)+gA o13 0)),I (Af (nth .dead (nth [] ((v0.set v3.toNat [I v4,I v5,I v6]).set v3.toNat [I (IntKind.i64.wrap (Af (nth .dead (nth [] (v0.set v3.toNat [I v4,I v5,I v6]) v3.toNat) 0)+gA o12 0)),I (Af (nth .dead (nth [] (v0.set v3.toNat [I v4,I v5,I v6]) v3.toNat) 1)),I (Af (nth .dead (nth [] (v0.set v3.toNat [I v4,I v5,I v6]) v3.toNat) 2))]) v3.toNat) 2))]).set v3.toNat [I (Af (nth .dead (nth [] (((v0.set v3.toNat [I v4,I v5,I v6]).set v3.toNat [I (IntKind.i64.wrap (Af (nth .dead (nth [] (v0.set v3.toNat [I v4,I v5,I v6]) v3.toNat) 0)+gA o12 0)),I (Af (nth .dead (nth [] (v0.set v3.toNat [I v4,I v5,I v6]) v3.toNat) 1)),I (Af (nth .dead (nth [] (v0.set v3.toNat [I v4,I v5,I v6]) v3.toNat) 2))]).set v3.toNat [I (Af (nth .dead (nth [] ((v0.set v3.toNat [I v4,I v5,I v6]).set v3.toNat [I (IntKind.i64.wrap (Af (nth .dead (nth [] (v0.set v3.toNat [I v4,I v5,I v6]) v3.toNat) 0)+gA o12 0)),I (Af (nth .dead (nth [] (v0.set v3.toNat [I v4,I v5,I v6]) v3.toNat) 1)),I (Af (nth .dead (nth [] (v0.set v3.toNat [I v4,I v5,I v6]) v3.toNat) 2))]) v3.toNat) 0)),I (IntKind.i64.wrap (Af (nth .dead (nth [] ((v0.set v3.toNat [I v4,I v5,I v6]).set v3.toNat [I (IntKind.i64.wrap (Af (nth .dead (nth [] (v0.set v3.toNat [I v4,I v5,I v6]) v3.toNat) 0)+gA o12 0)),I (Af (nth .dead (nth [] (v0.set v3.toNat [I v4,I v5,I v6]) v3.toNat) 1)),I (Af (nth .dead (nth [] (v0.set v3.toNat [I v4,I v5,I v6]) v3.toNat) 2))]) v3.toNat) 1)+gA o13 0)),I (Af (nth .dead (nth [] ((v0.set v3.toNat [I v4,I v5,I v6]).set v3.toNat [I (IntKind.i64.wrap (Af (nth .dead (nth [] (v0.set v3.toNat [I v4,I v5,I v6]) v3.toNat) 0)+gA o12 0)),I (Af (nth .dead (nth [] (v0.set v3.toNat [I v4,I v5,I v6]) v3.toNat) 1)),I (Af (nth .dead (nth [] (v0.set v3.toNat [I v4,I v5,I v6]) v3.toNat) 2))]) v3.toNat) 2))]) v3.toNat) 0)),I (Af (nth .dead (nth [] (((v0.set v3.toNat [I v4,I v5,I v6]).set v3.toNat [I (IntKind.i64.wrap (Af (nth .dead (nth [] (v0.set v3.toNat [I v4,I v5,I v6]) v3.toNat) 0)+gA o12 0)),I (Af (nth .dead (nth [] (v0.set v3.toNat [I v4,I v5,I v6]) v3.toNat) 1)),I (Af (nth .dead (nth [] (v0.set v3.toNat [I v4,I v5,I v6]) v3.toNat) 2))]).set v3.toNat [I (Af (nth .dead (nth [] ((v0.set v3.toNat [I v4,I v5,I v6]).set v3.toNat [I (IntKind.i64.wrap (Af (nth .dead (nth [] (v0.set v3.toNat [I v4,I v5,I v6]) v3.toNat) 0)+gA o12 0)),I (Af (nth .dead (nth [] (v0.set v3.toNat [I v4,I v5,I v6]) v3.toNat) 1)),I (Af (nth .dead (nth [] (v0.set v3.toNat [I v4,I v5,I v6]) v3.toNat) 2))]) v3.toNat) 0)),I (IntKind.i64.wrap (Af (nth .dead (nth [] ((v0.set v3.toNat [I v4,I v5,I v6]).set v3.toNat [I (IntKind.i64.wrap (Af (nth .dead (nth [] (v0.set v3.toNat [I v4,I v5,I v6]) v3.toNat) 0)+gA o12 0)),I (Af (nth .dead (nth [] (v0.set v3.toNat [I v4,I v5,I v6]) v3.toNat) 1)),I (Af (nth .dead (nth [] (v0.set v3.toNat [I v4,I v5,I v6]) v3.toNat) 2))]) v3.toNat) 1)+gA o13 0)),I (Af (nth .dead (nth [] ((v0.set v3.toNat [I v4,I v5,I v6]).set v3.toNat [I (IntKind.i64.wrap (Af (nth .dead (nth [] (v0.set v3.toNat [I v4,I v5,I v6]) v3.toNat) 0)+gA o12 0)),I (Af (nth .dead (nth [] (v0.set v3.toNat [I v4,I v5,I v6]) v3.toNat) 1)),I (Af (nth .dead (nth [] (v0.set v3.toNat [I v4,I v5,I v6]) v3.toNat) 2))]) v3.toNat) 2))]) v3.toNat) 1)),I (IntKind.i64.wrap (Af (nth .dead (nth [] (((v0.set v3.toNat [I v4,I v5,I v6]).set v3.toNat [I (IntKind.i64.wrap (Af (nth .dead (nth [] (v0.set v3.toNat [I v4,I v5,I v6]) v3.toNat) 0)+gA o12 0)),I (Af (nth .dead (nth [] (v0.set v3.toNat [I v4,I v5,I v6]) v3.toNat) 1)),I (Af (nth .dead (nth [] (v0.set v3.toNat [I v4,I v5,I v6]) v3.toNat) 2))]).set v3.toNat [I (Af (nth .dead (nth [] ((v0.set v3.toNat [I v4,I v5,I v6]).set v3.toNat [I (IntKind.i64.wrap (Af (nth .dead (nth [] (v0.set v3.toNat [I v4,I v5,I v6]) v3.toNat) 0)+gA o12 0)),I (Af (nth .dead (nth [] (v0.set v3.toNat [I v4,I v5,I v6]) v3.toNat) 1)),I (Af (nth .dead (nth [] (v0.set v3.toNat [I v4,I v5,I v6]) v3.toNat) 2))]) v3.toNat) 0)),I (IntKind.i64.wrap (Af (nth .dead (nth [] ((v0.set v3.toNat [I v4,I v5,I v6]).set v3.toNat [I (IntKind.i64.wrap (Af (nth .dead (nth [] (v0.set v3.toNat [I v4,I v5,I v6]) v3.toNat) 0)+gA o12 0)),I (Af (nth .dead (nth [] (v0.set v3.toNat [I v4,I v5,I v6]) v3.toNat) 1)),I (Af (nth .dead (nth [] (v0.set v3.toNat [I v4,I v5,I v6]) v3.toNat) 2))]) v3.toNat) 1)+gA o13 0)),I (Af (nth .dead (nth [] ((v0.set v3.toNat [I v4,I v5,I v6]).set v3.toNat [I (IntKind.i64.wrap (Af (nth .dead (nth [] (v0.set v3.toNat [I v4,I v5,I v6]) v3.toNat) 0)+gA o12 0)),I (Af (nth .dead (nth [] (v0.set v3.toNat [I v4,I v5,I v6]) v3.toNat) 1)),I (Af (nth .dead (nth [] (v0.set v3.toNat [I v4,I v5,I v6]) v3.toNat) 2))]) v3.toNat) 2))]) v3.toNat) 2)+gA o14 0))]),I v1,I v2,I (IntKind.i64.wrap (v3+1)),I v4,I v5,I v6,I v7,I v8,I v9,I v10,I v11,I v12])
 else
 none
 else
 none
 else
 none
 else
 none
 else
 none
 else
 none
 else
 none
 else
 some (1,[.view kPt v0]):=by kernel_rfl
theorem Q09 (AG G5 Cl GY:Fn) (N9:Lp) (x0 x1 x2 x3 x4 x5 x6 x7 x8 x9:Int):Qiq AG G5 Cl GY N9 [I x0,I x1,I x2,I x3,I x4,I x5,I x6,I x7,I x8,I x9]=
 (GY [I x0,I x1,I x2,I x3,I x4,I x5,I x6,I x7,I x8,I x9]).bind fun o15=>
 bif gA o15 0==0 then
 some [.view kPt [[I x3,I x4,I x5]]]
 else
 (Cl [I x3,I x4,I x5,I x0,I x1,I x2,jA o15 0]).bind fun o16=>
 (Cl [I x3,I x4,I x5,I x6,I x7,I x8,jA o15 0]).bind fun o17=>
 (G5 [jA o16 0,jA o16 1,jA o16 2,I x3,I x4,I x5,jA o17 0,jA o17 1,jA o17 2]).bind fun o18=>
 bif decide (IntKind.i64.wrap (gA o18 0+1)=IntKind.i64.wrap (gA o18 0+1))then
 bif decide (0<=IntKind.i64.wrap (gA o18 0+1))&&decide (IntKind.i64.wrap (gA o18 0+1)*(↑24:Int)<=140737488355328)then
 (N9 [.view kPt (List.replicate (IntKind.i64.wrap (gA o18 0+1)).toNat [I 0,I 0,I 0]),jA o18 0,I (↑(List.replicate (IntKind.i64.wrap (gA o18 0+1)).toNat [I 0,I 0,I 0]).length:Int),I 0,I x3,I x4,I x5,jA o16 0,jA o16 1,jA o16 2,jA o17 0,jA o17 1,jA o17 2]).bind fun o19=>
 bif o19.1.beq 1 then
 some [.view kPt (wA o19.2 0)]
 else
 none
 else
 none
 else
 none:=by kernel_rfl
def Q77:=An (NM Bq J5 GU K_)
def Qk:=Qiq Bq J5 GU K_ Q77
theorem Qwn:Ai PG (Qa1 Bq J5 GU K_):=Ao rfl ⟨Lt,Zo9,Q2a,Q8y,trivial⟩
theorem Zm5:Al PG (208,Ac Zb Qnm Qk):=rw2 (C:=(Qyi Bq J5 GU K_ Q77)) (fl fb Qwn) Qwn
def Qbv:Sk:=⟨[TS.v true [ci,ci,ci]],[],[]⟩
def Qfl:Sk:=⟨[TS.v true [ci,ci,ci]],[],[]⟩
def Zi7 (M:Fn):Nat×Spec:=(209,Ac Qbv Qfl M)
def ZI:Cfg:=cf []
def Qsh:Fn:=Am PG ZI 64 209 Qbv Qfl
theorem Zgr (x0 x1 x2:Int):Qsh [I x0,I x1,I x2]=
 some [I (IntKind.i64.wrap (x0*16)),I (IntKind.i64.wrap (x1*16)),I (IntKind.i64.wrap (x2*16))]:=by kernel_rfl
def NP:=Qsh
theorem Zua:Ai PG (ZI):=Ao rfl trivial
theorem Zyh:Al PG (209,Ac Qbv Qfl NP):=rw1 (C:=ZI) Zua
def Qiv:Sk:=⟨[TS.v true [ci,ci,ci,ci,ci,ci,ci,ci,ci,ci,ci,ci,ci,CS.bool,ci,CS.bool,ci,ci,ci,ci,ci,CS.bool],TS.v true [ci,ci,ci,ci,ci,ci,ci,ci,ci,ci,ci,ci,ci,CS.bool,ci,CS.bool,ci,ci,ci,ci,ci,CS.bool]],[],[]⟩
def Qod:Sk:=⟨[TS.tup [(false,[CS.sl kPt]),(false,[CS.sl kPt])]],[],[]⟩
def Zmx (M:Fn):Nat×Spec:=(194,Ac Qiv Qod M)
def Qkq (Oo Mm B0:Fn):Cfg:=cf [Zt6 Oo,Zi7 Mm,Qc9 B0]
def Qjk (Oo Mm B0:Fn):Fn:=Am PG (Qkq Oo Mm B0) 64 194 Qiv Qod
theorem Zak (Oo Mm B0:Fn) (x0 x1 x2 x3 x4 x5 x6 x7 x8 x9 x10 x11 x12:Int) (x13:Bool) (x14:Int) (x15:Bool) (x16 x17 x18 x19 x20:Int) (x21:Bool) (x22 x23 x24 x25 x26 x27 x28 x29 x30 x31 x32 x33 x34:Int) (x35:Bool) (x36:Int) (x37:Bool) (x38 x39 x40 x41 x42:Int) (x43:Bool):Qjk Oo Mm B0 [I x0,I x1,I x2,I x3,I x4,I x5,I x6,I x7,I x8,I x9,I x10,I x11,I x12,B x13,I x14,B x15,I x16,I x17,I x18,I x19,I x20,B x21,I x22,I x23,I x24,I x25,I x26,I x27,I x28,I x29,I x30,I x31,I x32,I x33,I x34,B x35,I x36,B x37,I x38,I x39,I x40,I x41,I x42,B x43]=
 (B0 [I x0,I x1,I x2,I x3,I x4,I x5,I x6,I x7,I x8,I x9,I x10,I x11,I x12,B x13,I x14,B x15,I x16,I x17,I x18,I x19,I x20,B x21]).bind fun o4=>
 (Mm [I x5,I x6,I x7]).bind fun o5=>
 (B0 [I x22,I x23,I x24,I x25,I x26,I x27,I x28,I x29,I x30,I x31,I x32,I x33,I x34,B x35,I x36,B x37,I x38,I x39,I x40,I x41,I x42,B x43]).bind fun o6=>
 (Oo [jA o4 0,jA o4 1,jA o4 2,jA o5 0,jA o5 1,jA o5 2,jA o6 0,jA o6 1,jA o6 2,I (IntKind.i64.wrap (x18*16))]).bind fun o7=>
 bif decide (0<=IntKind.i64.wrap (IntKind.i64.wrap ((IntKind.i64.wrap ((↑(wA o7 0).length:Int)-1)).tdiv 2)+1))&&decide (IntKind.i64.wrap (IntKind.i64.wrap ((IntKind.i64.wrap ((↑(wA o7 0).length:Int)-1)).tdiv 2)+1)<=(↑(wA o7 0).length:Int))then
 bif decide (0<=IntKind.i64.wrap ((IntKind.i64.wrap ((↑(wA o7 0).length:Int)-1)).tdiv 2))&&decide (IntKind.i64.wrap ((IntKind.i64.wrap ((↑(wA o7 0).length:Int)-1)).tdiv 2)<=(↑(wA o7 0).length:Int))then
 some [.view kPt (List.take (IntKind.i64.wrap (IntKind.i64.wrap ((IntKind.i64.wrap ((↑(wA o7 0).length:Int)-1)).tdiv 2)+1)).toNat (wA o7 0)), .view kPt (List.drop (IntKind.i64.wrap ((IntKind.i64.wrap ((↑(wA o7 0).length:Int)-1)).tdiv 2)).toNat (wA o7 0))]
 else
 none
 else
 none:=by kernel_rfl
def Qo:=Qjk Qk NP FX
theorem Ztl:Ai PG (Qkq Qk NP FX):=Ao rfl ⟨Zm5,Zyh,Qha,trivial⟩
theorem Zml:Al PG (194,Ac Qiv Qod Qo):=rw1 (C:=(Qkq Qk NP FX)) Ztl
def VB:Sk:=⟨[tf [ci]],[],[]⟩
def Qnr:Sk:=⟨[TS.tup [(false,[ci]),(false,[ci]),(false,[ci]),(false,[CS.bool])]],[],[]⟩
def UH (M:Fn):Nat×Spec:=(188,Ac VB Qnr M)
def Qen:Cfg:=cf []
def Qxa:Fn:=Am PG Qen 64 188 VB Qnr
theorem Zdz (x0:Int):Qxa [I x0]=
 bif x0==17 then
 some [I 0,I 1,I 2,B true]
 else
 bif x0==18 then
 some [I 2,I 0,I 1,B true]
 else
 bif x0==19 then
 some [I 1,I 2,I 0,B true]
 else
 some [I 0,I 0,I 0,B false]:=by kernel_rfl
def FK:=Qxa
theorem Zn9:Ai PG (Qen):=Ao rfl trivial
theorem Qh9:Al PG (188,Ac VB Qnr FK):=rw1 (C:=Qen) Zn9
def Uj:Sk:=⟨[tf [ci],tf [ci],tf [ci],tf [ci]],[],[]⟩
def TY:Sk:=⟨[TS.v true [ci,ci,ci]],[],[]⟩
def Zmi (M:Fn):Nat×Spec:=(207,Ac Uj TY M)
def Qay (DL:Fn):Cfg:=cf [UH DL]
def Qeo (DL:Fn):Fn:=Am PG (Qay DL) 64 207 Uj TY
abbrev Re (o1:List AC) (x2:Int) (h2_0 h2_1 h2_2:AC):Option (List AC):=
 bif decide (gA o1 2=(↑0:Int))then
 some [I x2,h2_0,h2_1]
 else
 bif decide (gA o1 2=(↑(0+1):Int))then
 some [h2_2,I x2,h2_1]
 else
 bif decide (gA o1 2=(↑(0+1+1):Int))then
 some [h2_2,h2_0,I x2]
 else
 none
attribute [go_sem] Re
abbrev S_ (o1:List AC) (x2 x1:Int) (h1_0 h1_1 h1_2:AC):Option (List AC):=
 bif decide (gA o1 1=(↑0:Int))then
 Re o1 x2 h1_0 h1_1 (I x1)
 else
 bif decide (gA o1 1=(↑(0+1):Int))then
 Re o1 x2 (I x1) h1_1 h1_2
 else
 bif decide (gA o1 1=(↑(0+1+1):Int))then
 Re o1 x2 h1_0 (I x1) h1_2
 else
 none
attribute [go_sem] S_
theorem Zct (DL:Fn) (x0 x1 x2 x3:Int):Qeo DL [I x0,I x1,I x2,I x3]=
 (DL [I x3]).bind fun o1=>
 bif bA o1 3 then
 bif decide (gA o1 0=(↑0:Int))then
 S_ o1 x2 x1 (I 0) (I 0) (I x0)
 else
 bif decide (gA o1 0=(↑(0+1):Int))then
 S_ o1 x2 x1 (I x0) (I 0) (I 0)
 else
 bif decide (gA o1 0=(↑(0+1+1):Int))then
 S_ o1 x2 x1 (I 0) (I x0) (I 0)
 else
 none
 else
 some [I 0,I 0,I 0]:=by kernel_rfl
def Nw:=Qeo FK
theorem Zyk:Ai PG (Qay FK):=Ao rfl ⟨Qh9,trivial⟩
theorem Zuv:Al PG (207,Ac Uj TY Nw):=rw1 (C:=(Qay FK)) Zyk
def Zd:Sk:=⟨[TS.v true [ci,ci,ci],tf [ci]],[],[]⟩
def Qes:Sk:=⟨[TS.tup [(false,[ci]),(false,[ci]),(false,[ci])]],[],[]⟩
def Q50 (M:Fn):Nat×Spec:=(203,Ac Zd Qes M)
def YV (DL:Fn):Cfg:=cf [UH DL]
def Qhq (DL:Fn):Fn:=Am PG (YV DL) 64 203 Zd Qes
abbrev Sq (o1:List AC) (h1_0:AC) (x0 x1 x2:Int) (h2_0:AC):Option (List AC):=
 bif decide (gA o1 2=(↑0:Int))then
 some [h1_0,h2_0,I x0]
 else
 bif decide (gA o1 2=(↑(0+1):Int))then
 some [h1_0,h2_0,I x1]
 else
 bif decide (gA o1 2=(↑(0+1+1):Int))then
 some [h1_0,h2_0,I x2]
 else
 none
attribute [go_sem] Sq
abbrev QS (o1:List AC) (x0 x1 x2:Int) (h1_0:AC):Option (List AC):=
 bif decide (gA o1 1=(↑0:Int))then
 Sq o1 h1_0 x0 x1 x2 (I x0)
 else
 bif decide (gA o1 1=(↑(0+1):Int))then
 Sq o1 h1_0 x0 x1 x2 (I x1)
 else
 bif decide (gA o1 1=(↑(0+1+1):Int))then
 Sq o1 h1_0 x0 x1 x2 (I x2)
 else
 none
attribute [go_sem] QS
theorem Ztf (DL:Fn) (x0 x1 x2 x3:Int):Qhq DL [I x0,I x1,I x2,I x3]=
 (DL [I x3]).bind fun o1=>
 bif !bA o1 3 then
 some [I 0,I 0,I 0]
 else
 bif decide (gA o1 0=(↑0:Int))then
 QS o1 x0 x1 x2 (I x0)
 else
 bif decide (gA o1 0=(↑(0+1):Int))then
 QS o1 x0 x1 x2 (I x1)
 else
 bif decide (gA o1 0=(↑(0+1+1):Int))then
 QS o1 x0 x1 x2 (I x2)
 else
 none:=by kernel_rfl
def Io:=Qhq FK
theorem Zxl:Ai PG (YV FK):=Ao rfl ⟨Qh9,trivial⟩
theorem Q21:Al PG (203,Ac Zd Qes Io):=rw1 (C:=(YV FK)) Zxl
def Qoc:Sk:=⟨[TS.v true [ci,ci,ci]],[],[]⟩
def Zn:Sk:=⟨[TS.v true [ci,ci,ci]],[],[]⟩
def Qta (M:Fn):Nat×Spec:=(204,Ac Qoc Zn M)
def Zt:Cfg:=cf []
def Q3j:Fn:=Am PG Zt 64 204 Qoc Zn
theorem Zod (x0 x1 x2:Int):Q3j [I x0,I x1,I x2]=
 some [I (IntKind.i64.wrap (x0*16)),I (IntKind.i64.wrap (x1*16)),I (IntKind.i64.wrap (x2*16))]:=by kernel_rfl
def HH:=Q3j
theorem Zk3:Ai PG (Zt):=Ao rfl trivial
theorem Q29:Al PG (204,Ac Qoc Zn HH):=rw1 (C:=Zt) Zk3
def Qox:Sk:=⟨[TS.v true [ci,ci,ci,ci],TS.v true [ci,ci,ci,ci]],[],[]⟩
def Qkz:Sk:=⟨[tf [ci]],[],[]⟩
def Qcz (M:Fn):Nat×Spec:=(192,Ac Qox Qkz M)
def Qmw:Cfg:=cf []
def Qwu:Fn:=Am PG Qmw 64 192 Qox Qkz
theorem Zw9 (x0 x1 x2 x3 x4 x5 x6 x7:Int):Qwu [I x0,I x1,I x2,I x3,I x4,I x5,I x6,I x7]=
 some [I (IntKind.i64.wrap (IntKind.i64.wrap (x0*x5)-IntKind.i64.wrap (x1*x4)))]:=by kernel_rfl
def G6:=Qwu
theorem Zlm:Ai PG (Qmw):=Ao rfl trivial
theorem Qco:Al PG (192,Ac Qox Qkz G6):=rw1 (C:=Qmw) Zlm
def Qia:Sk:=⟨[TS.v true [ci,ci,ci,ci],TS.v true [ci,ci,ci,ci]],[],[]⟩
def Qg5:Sk:=⟨[tf [ci]],[],[]⟩
def VP (M:Fn):Nat×Spec:=(190,Ac Qia Qg5 M)
def Qaz:Cfg:=cf []
def Q1f:Fn:=Am PG Qaz 64 190 Qia Qg5
theorem Zli (x0 x1 x2 x3 x4 x5 x6 x7:Int):Q1f [I x0,I x1,I x2,I x3,I x4,I x5,I x6,I x7]=
 some [I (IntKind.i64.wrap (IntKind.i64.wrap (x0*x4)+IntKind.i64.wrap (x1*x5)))]:=by kernel_rfl
def Gr:=Q1f
theorem Z01:Ai PG (Qaz):=Ao rfl trivial
theorem YC:Al PG (190,Ac Qia Qg5 Gr):=rw1 (C:=Qaz) Z01
def Qfq:Sk:=⟨[TS.v true [ci,ci,ci,ci],TS.v true [ci,ci,ci,ci],tf [ci],tf [CS.bool]],[],[]⟩
def Qjs:Sk:=⟨[TS.tup [(true,[ci,ci,ci,ci]),(false,[CS.bool])]],[],[]⟩
def Z3t (M:Fn):Nat×Spec:=(218,Ac Qfq Qjs M)
def Qd9 (Ck Cx B9:Fn):Cfg:=cf [Q75 Ck,Qcz Cx,VP B9]
def Qak (Ck Cx B9:Fn):Fn:=Am PG (Qd9 Ck Cx B9) 64 218 Qfq Qjs
abbrev Qm4 (Ck:Fn) (h1_2:AC) (x2 x6:Int) (h1_3 h1_4:AC) (x3 x7:Int):Option (List AC):=
 (Ck [h1_2,I ((IntKind.i64.wrap (IntKind.i64.wrap (x2+x6)+1)).fdiv (2^min (Int.toNat 1) IntKind.i64.bits)),h1_3,I 2]).bind fun o36=>
 (Ck [h1_4,I ((IntKind.i64.wrap (IntKind.i64.wrap (x2+x6)+1)).fdiv (2^min (Int.toNat 1) IntKind.i64.bits)),h1_3,I 2]).bind fun o37=>
 some [jA o36 0,jA o37 0,I ((IntKind.i64.wrap (IntKind.i64.wrap (x2+x6)+1)).fdiv (2^min (Int.toNat 1) IntKind.i64.bits)),I ((IntKind.i64.wrap (IntKind.i64.wrap (x3+x7)+1)).fdiv (2^min (Int.toNat 1) IntKind.i64.bits)),B true]
attribute [go_sem] Qm4
abbrev Pw (Ck:Fn) (x2 x6 x3 x7:Int) (h1_0 h1_1:Bool) (h1_2 h1_3 h1_4:AC):Option (List AC):=
 bif h1_0 then
 bif h1_1 then
 some [I 0,I 0,I 0,I 0,B false]
 else
 Qm4 Ck h1_2 x2 x6 h1_3 h1_4 x3 x7
 else
 Qm4 Ck h1_2 x2 x6 h1_3 h1_4 x3 x7
attribute [go_sem] Pw
abbrev Qa5 (x9:Bool) (Ck:Fn) (x2 x6 x3 x7 x0 x1:Int) (B9:Fn) (x4 x5 x8:Int) (Cx:Fn):Option (List AC):=
 bif x9 then
 Pw Ck x2 x6 x3 x7 (IntKind.i64.wrap (0-x0)==0) (IntKind.i64.wrap (0-x1)==0) (I (IntKind.i64.wrap (0-x0))) (I (IntKind.i64.wrap (IntKind.i64.wrap (IntKind.i64.wrap (0-x0)*IntKind.i64.wrap (0-x0))+IntKind.i64.wrap (IntKind.i64.wrap (0-x1)*IntKind.i64.wrap (0-x1))))) (I (IntKind.i64.wrap (0-x1)))
 else
 (B9 [I x0,I x1,I x2,I x3,I x4,I x5,I x6,I x7]).bind fun o40=>
 bif decide (gA o40 0<=0)then
 Pw Ck x2 x6 x3 x7 (IntKind.i64.wrap (x8*IntKind.i64.wrap (x5-x1))==0) (IntKind.i64.wrap (x8*IntKind.i64.wrap (x0-x4))==0) (I (IntKind.i64.wrap (x8*IntKind.i64.wrap (x5-x1)))) (I (IntKind.i64.wrap (IntKind.i64.wrap (IntKind.i64.wrap (x8*IntKind.i64.wrap (x5-x1))*IntKind.i64.wrap (x8*IntKind.i64.wrap (x5-x1)))+IntKind.i64.wrap (IntKind.i64.wrap (x8*IntKind.i64.wrap (x0-x4))*IntKind.i64.wrap (x8*IntKind.i64.wrap (x0-x4)))))) (I (IntKind.i64.wrap (x8*IntKind.i64.wrap (x0-x4))))
 else
 (Cx [I x0,I x1,I x2,I x3,I x4,I x5,I x6,I x7]).bind fun o45=>
 bif decide (IntKind.i64.wrap (gA o45 0*x8)<=0)then
 Pw Ck x2 x6 x3 x7 (IntKind.i64.wrap (0-IntKind.i64.wrap (x0+x4))==0) (IntKind.i64.wrap (0-IntKind.i64.wrap (x1+x5))==0) (I (IntKind.i64.wrap (0-IntKind.i64.wrap (x0+x4)))) (I (IntKind.i64.wrap (IntKind.i64.wrap (IntKind.i64.wrap (0-IntKind.i64.wrap (x0+x4))*IntKind.i64.wrap (0-IntKind.i64.wrap (x0+x4)))+IntKind.i64.wrap (IntKind.i64.wrap (0-IntKind.i64.wrap (x1+x5))*IntKind.i64.wrap (0-IntKind.i64.wrap (x1+x5)))))) (I (IntKind.i64.wrap (0-IntKind.i64.wrap (x1+x5))))
 else
 Pw Ck x2 x6 x3 x7 (IntKind.i64.wrap (x0+x4)==0) (IntKind.i64.wrap (x1+x5)==0) (I (IntKind.i64.wrap (x0+x4))) (I (IntKind.i64.wrap (IntKind.i64.wrap (IntKind.i64.wrap (x0+x4)*IntKind.i64.wrap (x0+x4))+IntKind.i64.wrap (IntKind.i64.wrap (x1+x5)*IntKind.i64.wrap (x1+x5))))) (I (IntKind.i64.wrap (x1+x5)))
attribute [go_sem] Qa5
theorem Zbi (Ck Cx B9:Fn) (x0 x1 x2 x3 x4 x5 x6 x7 x8:Int) (x9:Bool):Qak Ck Cx B9 [I x0,I x1,I x2,I x3,I x4,I x5,I x6,I x7,I x8,B x9]=
 bif x8 !=1 then
 bif x8 != -1 then
 some [I 0,I 0,I 0,I 0,B false]
 else
 Qa5 x9 Ck x2 x6 x3 x7 x0 x1 B9 x4 x5 x8 Cx
 else
 Qa5 x9 Ck x2 x6 x3 x7 x0 x1 B9 x4 x5 x8 Cx:=by kernel_rfl
def KW:=Qak H6 G6 Gr
theorem Zsf:Ai PG (Qd9 H6 G6 Gr):=Ao rfl ⟨Q05,Qco,YC,trivial⟩
theorem Zsc:Al PG (218,Ac Qfq Qjs KW):=rw1 (C:=(Qd9 H6 G6 Gr)) Zsf
def Qeh:Sk:=⟨[tf [ci],tf [ci]],[],[]⟩
def VN:Sk:=⟨[tf [CS.bool]],[],[]⟩
def Zse (M:Fn):Nat×Spec:=(223,Ac Qeh VN M)
def Qej:Cfg:=cf []
def Qw8:Fn:=Am PG Qej 64 223 Qeh VN
theorem Zdd (x0 x1:Int):Qw8 [I x0,I x1]=
 some [B (decide (x1<=IntKind.i64.wrap (IntKind.i64.wrap (IntKind.i64.wrap (8*x0)*4)-64)))]:=by kernel_rfl
def Mb:=Qw8
theorem Q8t:Ai PG (Qej):=Ao rfl trivial
theorem Zk1:Al PG (223,Ac Qeh VN Mb):=rw1 (C:=Qej) Q8t
def ZE:Sk:=⟨[tf [CS.ptr 20000 0],TS.v true [ci,ci,ci,ci],TS.v true [ci,ci,ci,ci],tf [CS.bool]],[(20000,254,[ci,CS.own 20000 4])],[(20000,231,[kI,kI,kI,kI])]⟩
def Ub:Sk:=⟨[tf [CS.bool]],[(20000,254,[ci,CS.own 20000 4])],[(20000,231,[kI,kI,kI,kI])]⟩
def Zxz (M:Fn):Nat×Spec:=(217,Ac ZE Ub M)
def Qhj (Nr Cx:Fn):Cfg:=cf [Zse Nr,Qcz Cx]
def Qfv (Nr Cx:Fn):Fn:=Am PG (Qhj Nr Cx) 64 217 ZE Ub
theorem Zfa (Nr Cx:Fn) (x0:Rw) (x1 x2 x3 x4 x5 x6 x7 x8:Int) (x9:Bool) (x10:Int):Qfv Nr Cx [.view [kI,kI,kI,kI] x0,I x1,I x2,I x3,I x4,I x5,I x6,I x7,I x8,B x9,I x10]=
 bif !x9 then
 (Cx [I x1,I x2,I x3,I x4,I x5,I x6,I x7,I x8]).bind fun o2=>
 bif decide (IntKind.i64.wrap (gA o2 0*x10)>0)then
 (Nr [I (mn x3 x7),I (IntKind.i64.wrap (IntKind.i64.wrap (IntKind.i64.wrap (x1-x5)*IntKind.i64.wrap (x1-x5))+IntKind.i64.wrap (IntKind.i64.wrap (x2-x6)*IntKind.i64.wrap (x2-x6))))]).bind fun o3=>
 some [.view [kI,kI,kI,kI] x0,B (bA o3 0),I x10]
 else
 some [.view [kI,kI,kI,kI] x0,B false,I x10]
 else
 some [.view [kI,kI,kI,kI] x0,B false,I x10]:=by kernel_rfl
def Lj:=Qfv Mb G6
theorem Zzz:Ai PG (Qhj Mb G6):=Ao rfl ⟨Zk1,Qco,trivial⟩
theorem Zw5:Al PG (217,Ac ZE Ub Lj):=rw1 (C:=(Qhj Mb G6)) Zzz
def Q5d:Nat:=20
def KL:Sk:=⟨[tf [CS.ptr 20000 0],TS.v true [ci,ci,ci,ci],TS.v true [ci,ci,ci,ci],tf [CS.bool],tf [ci]],[(20000,254,[ci,CS.own 20000 4])],[(20000,231,[kI,kI,kI,kI])]⟩
def Lm:Sk:=⟨[TS.tup []],[(20000,254,[ci,CS.own 20000 4])],[(20000,231,[kI,kI,kI,kI])]⟩
def Q1v (M:Fn):Nat×Spec:=(212,Ac KL Lm M)
def Qnl (FL NA Oa:Fn):Cfg:=cp [Q1v FL,Z3t NA,Zxz Oa] [212,217]
def QI (FL NA Oa:Fn):Fn:=Am PG (Qnl FL NA Oa) 64 212 KL Lm
theorem Qs8 (FL NA Oa:Fn) (x0:Rw) (x1 x2 x3 x4 x5 x6 x7 x8:Int) (x9:Bool) (x10 x11:Int):QI FL NA Oa [.view [kI,kI,kI,kI] x0,I x1,I x2,I x3,I x4,I x5,I x6,I x7,I x8,B x9,I x10,I x11]=
 bif decide (x10<16)then
 (Oa [.view [kI,kI,kI,kI] x0,I x1,I x2,I x3,I x4,I x5,I x6,I x7,I x8,B x9,I x11]).bind fun o4=>
 bif !bA o4 1 then
 (NA [I x1,I x2,I x3,I x4,I x5,I x6,I x7,I x8,jA o4 2,B x9]).bind fun o5=>
 bif bA o5 4 then
 (FL [.view [kI,kI,kI,kI] (wA o4 0),I x1,I x2,I x3,I x4,jA o5 0,jA o5 1,jA o5 2,jA o5 3,B false,I (IntKind.i64.wrap (x10+1)),jA o4 2]).bind fun o6=>
 (FL [.view [kI,kI,kI,kI] (wA o6 0),jA o5 0,jA o5 1,jA o5 2,jA o5 3,I x5,I x6,I x7,I x8,B false,I (IntKind.i64.wrap (x10+1)),jA o6 1]).bind fun o7=>
 some [.view [kI,kI,kI,kI] (wA o7 0),jA o7 1]
 else
 bif((wA o4 0++[[I x5,I x6,I x7,I x8]]).length*32).ble 140737488355328 then
 some [.view [kI,kI,kI,kI] (wA o4 0++[[I x5,I x6,I x7,I x8]]),jA o4 2]
 else
 none
 else
 bif((wA o4 0++[[I x5,I x6,I x7,I x8]]).length*32).ble 140737488355328 then
 some [.view [kI,kI,kI,kI] (wA o4 0++[[I x5,I x6,I x7,I x8]]),jA o4 2]
 else
 none
 else
 bif((x0++[[I x5,I x6,I x7,I x8]]).length*32).ble 140737488355328 then
 some [.view [kI,kI,kI,kI] (x0++[[I x5,I x6,I x7,I x8]]),I x11]
 else
 none:=by kernel_rfl
def Qza (M:Fn):Fn:=QI M KW Lj
def Mi:Nat->Fn
 |0=>fun _=>none
 |n+1=>Qza (Mi n)
theorem Zo0 {M:Fn} (h:Al PG (212,Ac KL Lm M)):Ai PG (Qnl M KW Lj):=Ao rfl ⟨h,Zsc,Zw5,trivial⟩
theorem Zqc {M:Fn} (h:Al PG (212,Ac KL Lm M)):Al PG (212,Ac KL Lm (Qza M)):=Qc4 (C:=(Qnl M KW Lj)) (L:=64) (by kernel_rfl) (FnOK.bare rfl rfl rfl) (Zo0 h) eqOk Hh (by kernel_rfl) (by kernel_rfl)
theorem Q5q:∀n,Al PG (212,Ac KL Lm (Mi n))
 |0=>Zm1
 |n+1=>Zqc (Q5q n)
def S8:=Mi Q5d
theorem Zsk:Al PG (212,Ac KL Lm S8):=Q5q Q5d
def US:Sk:=⟨[TS.v true [ci,ci,ci,ci,ci,ci,ci,ci,ci,ci,ci,ci,ci,CS.bool,ci,CS.bool,ci,ci,ci,ci,ci,CS.bool]],[],[]⟩
def Qm6:Sk:=⟨[TS.tup [(true,[ci,ci,ci,ci]),(true,[ci,ci,ci,ci])]],[],[]⟩
def Q6w (M:Fn):Nat×Spec:=(189,Ac US Qm6 M)
def Qbj (B1 BT:Fn):Cfg:=cf [Q50 B1,Qta BT]
def Q0c:Sk:=⟨[td,tf [CS.ptr 1 0],tf [CS.ptr 2 0],tf [CS.ptr 3 0],tf [CS.ptr 4 0],tf [ci],tf [ci],td,td,td,td,td,td,td,td,td,td,td,td,td,td,td,td,td,td,td,td,TS.v true [ci,ci,ci,ci,ci,ci],tf [ci]]++dd 27,[(1,74,[ci,ci,ci,ci,ci,ci,ci,ci,ci,ci,ci,ci,ci,CS.bool,ci,CS.bool,ci,ci,ci,ci,ci,CS.bool]),(2,231,[ci,ci,ci,ci]),(3,231,[ci,ci,ci,ci]),(4,242,[ci,ci,ci,ci,ci,ci,ci,ci])],[]⟩
def Q5n:List (Ex×Sk):=[(Ex.exit 0,⟨[td,td,tf [CS.ptr 2 0],tf [CS.ptr 3 0],tf [CS.ptr 4 0]]++dd 51,[(2,231,[ci,ci,ci,ci]),(3,231,[ci,ci,ci,ci]),(4,242,[ci,ci,ci,ci,ci,ci,ci,ci])],[]⟩)]
def UN (B1 BT:Fn):Lp:=AN PG (Qbj B1 BT) 64 4 (AO PG 189 4) Q0c Q5n
def Q59 (B1 BT:Fn) (N4:Lp):Cfg:=(Qbj B1 BT).loop 4 Q0c Q5n N4
def Qk5 (B1 BT:Fn) (N4:Lp):Fn:=Am PG (Q59 B1 BT N4) 64 189 US Qm6
abbrev We (BT B1:Fn) (v17 v8 v0 v1 v2 v3 v4 v5 v6 v7 v9 v10 v11 v12 v13 v14 v15 v16 v18 v19 v20 v21:Int) (v22:Bool) (v23:Int) (v24:Bool) (v25 v26 v27 v28 v29:Int) (v30:Bool) (v31 v32 v33 v34 v35 v36 v37 v38 v43 v44 v45 v46 v39 v40 v41 v42:Int) (h1_0 h1_1 h1_2:AC):Option (Nat×List AC):=
 (BT [h1_0,h1_1,h1_2]).bind fun o9=>
 (B1 [jA o9 0,jA o9 1,jA o9 2,I v17]).bind fun o10=>
 bif decide (v8=(↑0:Int))then
 some (0,[I v0,I v1,I v2,I v3,I v4,I v5,I v6,I v7,I (IntKind.i64.wrap (v8+1)),I v9,I v10,I v11,I v12,I v13,I v14,I v15,I v16,I v17,I v18,I v19,I v20,I v21,B v22,I v23,B v24,I v25,I v26,I v27,I v28,I v29,B v30,I v31,I v32,I v33,I v34,I v35,I v36,I v37,I v38,I (IntKind.i64.wrap (gA o10 0-v0)),I (IntKind.i64.wrap (gA o10 1-v1)),I 0,jA o10 2,I v43,I v44,I v45,I v46])
 else
 bif decide (v8=(↑(0+1):Int))then
 some (0,[I v0,I v1,I v2,I v3,I v4,I v5,I v6,I v7,I (IntKind.i64.wrap (v8+1)),I v9,I v10,I v11,I v12,I v13,I v14,I v15,I v16,I v17,I v18,I v19,I v20,I v21,B v22,I v23,B v24,I v25,I v26,I v27,I v28,I v29,B v30,I v31,I v32,I v33,I v34,I v35,I v36,I v37,I v38,I v39,I v40,I v41,I v42,I (IntKind.i64.wrap (gA o10 0-v0)),I (IntKind.i64.wrap (gA o10 1-v1)),I 0,jA o10 2])
 else
 none
attribute [go_sem] We
theorem Yg (B1 BT:Fn) (v0 v1 v2 v3 v4 v5 v6 v7 v8 v9 v10 v11 v12 v13 v14 v15 v16 v17 v18 v19 v20 v21:Int) (v22:Bool) (v23:Int) (v24:Bool) (v25 v26 v27 v28 v29:Int) (v30:Bool) (v31 v32 v33 v34 v35 v36 v37 v38 v39 v40 v41 v42 v43 v44 v45 v46:Int):UN B1 BT [I v0,I v1,I v2,I v3,I v4,I v5,I v6,I v7,I v8,I v9,I v10,I v11,I v12,I v13,I v14,I v15,I v16,I v17,I v18,I v19,I v20,I v21,B v22,I v23,B v24,I v25,I v26,I v27,I v28,I v29,B v30,I v31,I v32,I v33,I v34,I v35,I v36,I v37,I v38,I v39,I v40,I v41,I v42,I v43,I v44,I v45,I v46]=
 bif decide (v8<2)then
 bif decide (v8=(↑0:Int))then
 We BT B1 v17 v8 v0 v1 v2 v3 v4 v5 v6 v7 v9 v10 v11 v12 v13 v14 v15 v16 v18 v19 v20 v21 v22 v23 v24 v25 v26 v27 v28 v29 v30 v31 v32 v33 v34 v35 v36 v37 v38 v43 v44 v45 v46 v39 v40 v41 v42 (I v2) (I v3) (I v4)
 else
 bif decide (v8=(↑(0+1):Int))then
 We BT B1 v17 v8 v0 v1 v2 v3 v4 v5 v6 v7 v9 v10 v11 v12 v13 v14 v15 v16 v18 v19 v20 v21 v22 v23 v24 v25 v26 v27 v28 v29 v30 v31 v32 v33 v34 v35 v36 v37 v38 v43 v44 v45 v46 v39 v40 v41 v42 (I v5) (I v6) (I v7)
 else
 none
 else
 some (1,[I v31,I v32,I v33,I v34,I v35,I v36,I v37,I v38,I v39,I v40,I v41,I v42,I v43,I v44,I v45,I v46]):=by kernel_rfl
theorem Zov (B1 BT:Fn) (N4:Lp) (x0 x1 x2 x3 x4 x5 x6 x7 x8 x9 x10 x11 x12:Int) (x13:Bool) (x14:Int) (x15:Bool) (x16 x17 x18 x19 x20:Int) (x21:Bool):Qk5 B1 BT N4 [I x0,I x1,I x2,I x3,I x4,I x5,I x6,I x7,I x8,I x9,I x10,I x11,I x12,B x13,I x14,B x15,I x16,I x17,I x18,I x19,I x20,B x21]=
 (BT [I x9,I x10,I x11]).bind fun o13=>
 (B1 [jA o13 0,jA o13 1,jA o13 2,I x8]).bind fun o14=>
 (N4 [jA o14 0,jA o14 1,I x2,I x3,I x4,I x5,I x6,I x7,I 0,I x0,I x1,I x2,I x3,I x4,I x5,I x6,I x7,I x8,I x9,I x10,I x11,I x12,B x13,I x14,B x15,I x16,I x17,I x18,I x19,I x20,B x21,I 0,I 0,I 0,I 0,I 0,I 0,I 0,I 0,I 0,I 0,I 0,I 0,I 0,I 0,I 0,I 0]).bind fun o15=>
 bif o15.1.beq 1 then
 some [jA o15.2 8,jA o15.2 9,jA o15.2 10,jA o15.2 11,jA o15.2 12,jA o15.2 13,jA o15.2 14,jA o15.2 15]
 else
 none:=by kernel_rfl
def Qps:=An (UN Io HH)
def JQ:=Qk5 Io HH Qps
theorem Qx1:Ai PG (Qbj Io HH):=Ao rfl ⟨Q21,Q29,trivial⟩
theorem Q5v:Al PG (189,Ac US Qm6 JQ):=rw2 (C:=(Q59 Io HH Qps)) (fl fb Qx1) Qx1
def XO:Sk:=⟨[tf [ci],tf [ci],tf [ci],tf [ci]],[],[]⟩
def Qbt:Sk:=⟨[tf [ci]],[],[]⟩
def Zyy (M:Fn):Nat×Spec:=(205,Ac XO Qbt M)
def W3 (DU BB Cb C4:Fn):Cfg:=cf [Qzy DU,QZ BB,Y0 Cb,Qno C4]
def Yn (DU BB Cb C4:Fn):Fn:=Am PG (W3 DU BB Cb C4) 64 205 XO Qbt
theorem Zwk (DU BB Cb C4:Fn) (x0 x1 x2 x3:Int):Yn DU BB Cb C4 [I x0,I x1,I x2,I x3]=
 (C4 [I x0,I x1]).bind fun o9=>
 (C4 [I x2,I x3]).bind fun o10=>
 bif gA o9 0 !=gA o10 0 then
 bif decide (gA o9 0<gA o10 0)then
 some [I (-1)]
 else
 some [I 1]
 else
 (Cb [I x0]).bind fun o11=>
 (Cb [I x1]).bind fun o12=>
 (BB [U (gA o11 0),U (gA o12 0)]).bind fun o13=>
 (Cb [I x2]).bind fun o14=>
 (Cb [I x3]).bind fun o15=>
 (BB [U (gA o14 0),U (gA o15 0)]).bind fun o16=>
 (DU [U (gA o13 0),U (gA o13 1),U (gA o16 0),U (gA o16 1)]).bind fun o17=>
 some [I (IntKind.i64.wrap (gA o9 0*gA o17 0))]:=by kernel_rfl
def N_:=Yn HO Ef Gb Fz
theorem Zs9:Ai PG (W3 HO Ef Gb Fz):=Ao rfl ⟨Qu1,TD,Qnn,YZ,trivial⟩
theorem Zdo:Al PG (205,Ac XO Qbt N_):=rw1 (C:=(W3 HO Ef Gb Fz)) Zs9
def Xo:Sk:=⟨[tf [ci],tf [ci]],[],[]⟩
def Qkk:Sk:=⟨[tf [CS.bool]],[],[]⟩
def Zv5 (M:Fn):Nat×Spec:=(191,Ac Xo Qkk M)
def ZU (Ni:Fn):Cfg:=cf [Zyy Ni]
def Qig (Ni:Fn):Fn:=Am PG (ZU Ni) 64 191 Xo Qkk
theorem Zqe (Ni:Fn) (x0 x1:Int):Qig Ni [I x0,I x1]=
 bif decide (IntKind.i64.wrap (IntKind.i64.wrap (mx x0 x1-mn x0 x1)-16)<=0)then
 some [B true]
 else
 (Ni [I (IntKind.i64.wrap (IntKind.i64.wrap (mx x0 x1-mn x0 x1)-16)),I (IntKind.i64.wrap (IntKind.i64.wrap (mx x0 x1-mn x0 x1)-16)),I 64,I (mn x0 x1)]).bind fun o1=>
 some [B (decide (gA o1 0<=0))]:=by kernel_rfl
def OO:=Qig N_
theorem Zsa:Ai PG (ZU N_):=Ao rfl ⟨Zdo,trivial⟩
theorem Zv1:Al PG (191,Ac Xo Qkk OO):=rw1 (C:=(ZU N_)) Zsa
def Qfu:Sk:=⟨[TS.v true [ci,ci,ci]],[],[]⟩
def VR:Sk:=⟨[tf [CS.bool]],[],[]⟩
def Zkd (M:Fn):Nat×Spec:=(187,Ac Qfu VR M)
def Qmn:Cfg:={cf []with unroll:=[2]}
def Qp0:Fn:=Am PG Qmn 64 187 Qfu VR
theorem Znk (x0 x1 x2:Int):Qp0 [I x0,I x1,I x2]=
 bif decide (x0< -1048576)then
 some [B false]
 else
 bif decide (x0>1048576)then
 some [B false]
 else
 bif decide (x1< -1048576)then
 some [B false]
 else
 bif decide (x1>1048576)then
 some [B false]
 else
 bif decide (x2< -1048576)then
 some [B false]
 else
 bif decide (x2>1048576)then
 some [B false]
 else
 some [B true]:=by kernel_rfl
def Oh:=Qp0
theorem Zsn:Ai PG (Qmn):=Ao rfl trivial
theorem Zab:Al PG (187,Ac Qfu VR Oh):=rw1 (C:=Qmn) Zsn
def V1:Sk:=⟨[TS.v true [ci,ci,ci,ci,ci,ci,ci,ci,ci,ci,ci,ci,ci,CS.bool,ci,CS.bool,ci,ci,ci,ci,ci,CS.bool]],[],[]⟩
def T0:Sk:=⟨[tf [CS.bool]],[],[]⟩
def Qk3 (M:Fn):Nat×Spec:=(167,Ac V1 T0 M)
def Qhw (Cx I_ B9 E5 DL Hq:Fn):Cfg:=cf [Qcz Cx,Zv5 I_,VP B9,Q6w E5,UH DL,Zkd Hq]
def Wh (Cx I_ B9 E5 DL Hq:Fn):Fn:=Am PG (Qhw Cx I_ B9 E5 DL Hq) 64 167 V1 T0
abbrev Qhm (Hq:Fn) (x9 x10 x11:Int) (E5:Fn) (x0 x1 x2 x3 x4 x5 x6 x7 x8 x12:Int) (x13:Bool) (x14:Int) (x15:Bool) (x16 x17 x18 x19 x20:Int) (x21:Bool) (B9 I_ Cx:Fn):Option (List AC):=
 (Hq [I x9,I x10,I x11]).bind fun o20=>
 bif !bA o20 0 then
 some [B false]
 else
 (E5 [I x0,I x1,I x2,I x3,I x4,I x5,I x6,I x7,I x8,I x9,I x10,I x11,I x12,B x13,I x14,B x15,I x16,I x17,I x18,I x19,I x20,B x21]).bind fun o21=>
 (B9 [jA o21 0,jA o21 1,jA o21 2,jA o21 3,jA o21 0,jA o21 1,jA o21 2,jA o21 3]).bind fun o22=>
 (B9 [jA o21 4,jA o21 5,jA o21 6,jA o21 7,jA o21 4,jA o21 5,jA o21 6,jA o21 7]).bind fun o23=>
 bif decide (gA o22 0<IntKind.i64.wrap (128*128))then
 some [B false]
 else
 bif decide (gA o23 0<IntKind.i64.wrap (128*128))then
 some [B false]
 else
 (I_ [I (IntKind.i64.wrap ((gA o22 0).tdiv 256)),I (IntKind.i64.wrap ((gA o23 0).tdiv 256))]).bind fun o24=>
 bif !bA o24 0 then
 some [B false]
 else
 bif x13 then
 bif gA o21 0==gA o21 4 then
 some [B (gA o21 1==gA o21 5)]
 else
 some [B false]
 else
 (Cx [jA o21 0,jA o21 1,jA o21 2,jA o21 3,jA o21 4,jA o21 5,jA o21 6,jA o21 7]).bind fun o25=>
 bif gA o25 0 !=0 then
 some [B true]
 else
 (B9 [jA o21 0,jA o21 1,jA o21 2,jA o21 3,jA o21 4,jA o21 5,jA o21 6,jA o21 7]).bind fun o26=>
 some [B (decide (gA o26 0<0))]
attribute [go_sem] Qhm
theorem Ze5 (Cx I_ B9 E5 DL Hq:Fn) (x0 x1 x2 x3 x4 x5 x6 x7 x8 x9 x10 x11 x12:Int) (x13:Bool) (x14:Int) (x15:Bool) (x16 x17 x18 x19 x20:Int) (x21:Bool):Wh Cx I_ B9 E5 DL Hq [I x0,I x1,I x2,I x3,I x4,I x5,I x6,I x7,I x8,I x9,I x10,I x11,I x12,B x13,I x14,B x15,I x16,I x17,I x18,I x19,I x20,B x21]=
 bif decide (x0<1)then
 some [B false]
 else
 bif decide (x0>6)then
 some [B false]
 else
 (Hq [I x2,I x3,I x4]).bind fun o17=>
 bif !bA o17 0 then
 some [B false]
 else
 (Hq [I x5,I x6,I x7]).bind fun o18=>
 bif !bA o18 0 then
 some [B false]
 else
 bif x0 !=3 then
 some [B true]
 else
 (DL [I x8]).bind fun o19=>
 bif !bA o19 3 then
 some [B false]
 else
 bif x12 !=1 then
 bif x12 != -1 then
 some [B false]
 else
 Qhm Hq x9 x10 x11 E5 x0 x1 x2 x3 x4 x5 x6 x7 x8 x12 x13 x14 x15 x16 x17 x18 x19 x20 x21 B9 I_ Cx
 else
 Qhm Hq x9 x10 x11 E5 x0 x1 x2 x3 x4 x5 x6 x7 x8 x12 x13 x14 x15 x16 x17 x18 x19 x20 x21 B9 I_ Cx:=by kernel_rfl
def GM:=Wh G6 OO Gr JQ FK Oh
theorem Zaf:Ai PG (Qhw G6 OO Gr JQ FK Oh):=Ao rfl ⟨Qco,Zv1,YC,Q5v,Qh9,Zab,trivial⟩
theorem Qjm:Al PG (167,Ac V1 T0 GM):=rw1 (C:=(Qhw G6 OO Gr JQ FK Oh)) Zaf
def Qaw:Sk:=⟨[TS.v true [ci,ci,ci,ci,ci,ci,ci,ci,ci,ci,ci,ci,ci,CS.bool,ci,CS.bool,ci,ci,ci,ci,ci,CS.bool]],[],[]⟩
def Qf1:Sk:=⟨[TS.tup [(false,[CS.sl [kI,kI,kI,kI]]),(false,[CS.bool])]],[],[]⟩
def Zmk (M:Fn):Nat×Spec:=(206,Ac Qaw Qf1 M)
def WT (FL Ft B9 E5 Cy:Fn):Cfg:={cp [Q1v FL,Qro Ft,VP B9,Q6w E5,Qk3 Cy] [212]with rowDst:=[39]}
def Qip (FL Ft B9 E5 Cy:Fn):Fn:=Am PG (WT FL Ft B9 E5 Cy) 64 206 Qaw Qf1
theorem Zt2 (FL Ft B9 E5 Cy:Fn) (x0 x1 x2 x3 x4 x5 x6 x7 x8 x9 x10 x11 x12:Int) (x13:Bool) (x14:Int) (x15:Bool) (x16 x17 x18 x19 x20:Int) (x21:Bool):Qip FL Ft B9 E5 Cy [I x0,I x1,I x2,I x3,I x4,I x5,I x6,I x7,I x8,I x9,I x10,I x11,I x12,B x13,I x14,B x15,I x16,I x17,I x18,I x19,I x20,B x21]=
 bif x0 !=3 then
 some [.view [kI,kI,kI,kI] [],B false]
 else
 (Cy [I x0,I x1,I x2,I x3,I x4,I x5,I x6,I x7,I x8,I x9,I x10,I x11,I x12,B x13,I x14,B x15,I x16,I x17,I x18,I x19,I x20,B x21]).bind fun o7=>
 bif !bA o7 0 then
 some [.view [kI,kI,kI,kI] [],B false]
 else
 (E5 [I x0,I x1,I x2,I x3,I x4,I x5,I x6,I x7,I x8,I x9,I x10,I x11,I x12,B x13,I x14,B x15,I x16,I x17,I x18,I x19,I x20,B x21]).bind fun o8=>
 (B9 [jA o8 0,jA o8 1,jA o8 2,jA o8 3,jA o8 0,jA o8 1,jA o8 2,jA o8 3]).bind fun o9=>
 (Ft [jA o9 0,I 2]).bind fun o10=>
 (B9 [jA o8 4,jA o8 5,jA o8 6,jA o8 7,jA o8 4,jA o8 5,jA o8 6,jA o8 7]).bind fun o11=>
 (Ft [jA o11 0,I 2]).bind fun o12=>
 (FL [.view [kI,kI,kI,kI] [[jA o8 0,jA o8 1,jA o10 0,jA o8 3]],jA o8 0,jA o8 1,jA o10 0,jA o8 3,jA o8 4,jA o8 5,jA o12 0,jA o8 7,B x13,I 0,I x12]).bind fun o13=>
 some [.view [kI,kI,kI,kI] (wA o13 0),B true]:=by kernel_rfl
def Mx:=Qip S8 Jf Gr JQ GM
theorem Z31:Ai PG (WT S8 Jf Gr JQ GM):=Ao rfl ⟨Zsk,Qyf,YC,Q5v,Qjm,trivial⟩
theorem Zeb:Al PG (206,Ac Qaw Qf1 Mx):=rw1 (C:=(WT S8 Jf Gr JQ GM)) Z31
def Wy:Sk:=⟨[TS.v true [ci,ci,ci,ci,ci,ci,ci,ci,ci,ci,ci,ci,ci,CS.bool,ci,CS.bool,ci,ci,ci,ci,ci,CS.bool]],[],[]⟩
def UV:Sk:=⟨[TS.tup [(false,[CS.sl kPt]),(false,[CS.bool])]],[],[]⟩
def Zn5 (M:Fn):Nat×Spec:=(193,Ac Wy UV M)
def Qf3 (Ge B1 BT GO Cy:Fn):Cfg:=cf [Zmi Ge,Q50 B1,Qta BT,Zmk GO,Qk3 Cy]
def Q78:Sk:=⟨[td,tf [CS.ptr 1 0],td,td,td,td,tf [ci],tf [ci],td,tf [CS.own 41 3],td,td,td,td,td,td,td,td,td,td,td,td,td,td,td,td,td,td,td,td,td,td,td,td,td,td,td,td,td,td,td,td,tf [CS.sl [kI,kI,kI,kI]],tf [ci],tf [ci]]++dd 22,[(1,74,[ci,ci,ci,ci,ci,ci,ci,ci,ci,ci,ci,ci,ci,CS.bool,ci,CS.bool,ci,ci,ci,ci,ci,CS.bool])],[(41,54,kPt)]⟩
def Q8n:List (Ex×Sk):=[(Ex.exit 0,⟨[td,td,td,td,td,td,td,td,td,tf [CS.own 41 3]]++dd 57,[],[(41,54,kPt)]⟩)]
def Oe (Ge B1 BT GO Cy:Fn):Lp:=AN PG (Qf3 Ge B1 BT GO Cy) 64 9 (AO PG 193 9) Q78 Q8n
def Q4k (Ge B1 BT GO Cy:Fn) (N9:Lp):Cfg:=(Qf3 Ge B1 BT GO Cy).loop 9 Q78 Q8n N9
def Tw (Ge B1 BT GO Cy:Fn) (N9:Lp):Fn:=Am PG (Q4k Ge B1 BT GO Cy N9) 64 193 Wy UV
theorem Qrn (Ge B1 BT GO Cy:Fn) (v0:Rw) (v1 v2:Int) (v3:Rw) (v4 v5 v6 v7 v8 v9 v10 v11 v12 v13 v14 v15 v16 v17 v18:Int) (v19:Bool) (v20:Int) (v21:Bool) (v22 v23 v24 v25 v26:Int) (v27:Bool):Oe Ge B1 BT GO Cy [.view kPt v0,I v1,I v2, .view [kI,kI,kI,kI] v3,I v4,I v5,I v6,I v7,I v8,I v9,I v10,I v11,I v12,I v13,I v14,I v15,I v16,I v17,I v18,B v19,I v20,B v21,I v22,I v23,I v24,I v25,I v26,B v27]=
 bif decide (v5<v4)then
 bif decide (0<=v5)&&decide (v5<(v3.length:Int))then
 (Ge [I (IntKind.i64.wrap (v1+gA (nth [] v3 v5.toNat) 0)),I (IntKind.i64.wrap (v2+gA (nth [] v3 v5.toNat) 1)),jA (nth [] v3 v5.toNat) 3,I v14]).bind fun o14=>
 bif decide (0<=v5)&&decide (v5<(v0.length:Int))then
 some (0,[.view kPt (v0.set v5.toNat [jA o14 0,jA o14 1,jA o14 2]),I v1,I v2, .view [kI,kI,kI,kI] v3,I v4,I (IntKind.i64.wrap (v5+1)),I v6,I v7,I v8,I v9,I v10,I v11,I v12,I v13,I v14,I v15,I v16,I v17,I v18,B v19,I v20,B v21,I v22,I v23,I v24,I v25,I v26,B v27])
 else
 none
 else
 none
 else
 some (1,[.view kPt v0]):=by kernel_rfl
theorem Y_ (Ge B1 BT GO Cy:Fn) (N9:Lp) (x0 x1 x2 x3 x4 x5 x6 x7 x8 x9 x10 x11 x12:Int) (x13:Bool) (x14:Int) (x15:Bool) (x16 x17 x18 x19 x20:Int) (x21:Bool):Tw Ge B1 BT GO Cy N9 [I x0,I x1,I x2,I x3,I x4,I x5,I x6,I x7,I x8,I x9,I x10,I x11,I x12,B x13,I x14,B x15,I x16,I x17,I x18,I x19,I x20,B x21]=
 (Cy [I x0,I x1,I x2,I x3,I x4,I x5,I x6,I x7,I x8,I x9,I x10,I x11,I x12,B x13,I x14,B x15,I x16,I x17,I x18,I x19,I x20,B x21]).bind fun o15=>
 bif !bA o15 0 then
 some [.view kPt [],B false]
 else
 (GO [I x0,I x1,I x2,I x3,I x4,I x5,I x6,I x7,I x8,I x9,I x10,I x11,I x12,B x13,I x14,B x15,I x16,I x17,I x18,I x19,I x20,B x21]).bind fun o16=>
 bif !bA o16 1 then
 (BT [I x2,I x3,I x4]).bind fun o17=>
 (BT [I x5,I x6,I x7]).bind fun o18=>
 some [.view kPt [[jA o17 0,jA o17 1,jA o17 2],[jA o18 0,jA o18 1,jA o18 2]],B true]
 else
 (BT [I x9,I x10,I x11]).bind fun o19=>
 (B1 [jA o19 0,jA o19 1,jA o19 2,I x8]).bind fun o20=>
 bif decide ((↑(wA o16 0).length:Int)=(↑(wA o16 0).length:Int))then
 bif decide (0<=(↑(wA o16 0).length:Int))&&decide ((↑(wA o16 0).length:Int)*(↑24:Int)<=140737488355328)then
 (N9 [.view kPt (List.replicate (↑(wA o16 0).length:Int).toNat [I 0,I 0,I 0]),jA o20 0,jA o20 1, .view [kI,kI,kI,kI] (wA o16 0),I (↑(wA o16 0).length:Int),I 0,I x0,I x1,I x2,I x3,I x4,I x5,I x6,I x7,I x8,I x9,I x10,I x11,I x12,B x13,I x14,B x15,I x16,I x17,I x18,I x19,I x20,B x21]).bind fun o21=>
 bif o21.1.beq 1 then
 some [.view kPt (wA o21.2 0),B true]
 else
 none
 else
 none
 else
 none:=by kernel_rfl
def Qth:=An (Oe Nw Io HH Mx GM)
def OS:=Tw Nw Io HH Mx GM Qth
theorem Q4c:Ai PG (Qf3 Nw Io HH Mx GM):=Ao rfl ⟨Zuv,Q21,Q29,Zeb,Qjm,trivial⟩
theorem Zag:Al PG (193,Ac Wy UV OS):=rw2 (C:=(Q4k Nw Io HH Mx GM Qth)) (fl fb Q4c) Q4c
def Qct:Sk:=⟨[tf [CS.sl Ak],tf [ci],tf [ci]],[],[]⟩
def Qdy:Sk:=⟨[tf [CS.sl kPt]],[],[]⟩
def Z1q (M:Fn):Nat×Spec:=(170,Ac Qct Qdy M)
def Qom (B0 Bp BS J_ Bi NL:Fn):Cfg:=cf [Qc9 B0,Qcc Bp,Q66 BS,Zmx J_,Tz Bi,Zn5 NL]
def Z2 (B0 Bp BS J_ Bi NL:Fn):Fn:=Am PG (Qom B0 Bp BS J_ Bi NL) 64 170 Qct Qdy
theorem Zgh (B0 Bp BS J_ Bi NL:Fn) (x0:Rw) (x1 x2:Int):Z2 B0 Bp BS J_ Bi NL [.view Ak x0,I x1,I x2]=
 bif decide (0<=x1)&&decide (x1<(x0.length:Int))then
 (NL (AJ Ak (nth [] x0 x1.toNat))).bind fun o13=>
 (Bi (AJ Ak (nth [] x0 x1.toNat))).bind fun o14=>
 bif !bA o14 0 then
 some [.view kPt (wA o13 0)]
 else
 bif decide (0<=1)&&decide (1<=(↑(wA o13 0).length:Int))then
 bif decide (0<=IntKind.i64.wrap ((↑(wA o13 0).length:Int)-1))&&decide (IntKind.i64.wrap ((↑(wA o13 0).length:Int)-1)<=(↑(wA o13 0).length:Int))then
 bif decide (x2>=0)then
 bif decide (0<=x2)&&decide (x2<(x0.length:Int))then
 (J_ (AJ Ak (nth [] x0 x2.toNat)++AJ Ak (nth [] x0 x1.toNat))).bind fun o15=>
 (BS [.view Ak x0,I x1]).bind fun o16=>
 bif bA o16 0 then
 (Bp [.view Ak x0,I x1]).bind fun o17=>
 bif decide (0<=gA o17 0)&&decide (gA o17 0<(x0.length:Int))then
 (J_ (AJ Ak (nth [] x0 x1.toNat)++AJ Ak (nth [] x0 (gA o17 0).toNat))).bind fun o18=>
 bif(([]++wA o15 1).length*24).ble 140737488355328 then
 (B0 (AJ Ak (nth [] x0 x1.toNat))).bind fun o19=>
 bif(([]++wA o15 1++[[jA o19 0,jA o19 1,jA o19 2]]).length*24).ble 140737488355328 then
 bif(([]++wA o15 1++[[jA o19 0,jA o19 1,jA o19 2]]++wA o18 0).length*24).ble 140737488355328 then
 some [.view kPt ([]++wA o15 1++[[jA o19 0,jA o19 1,jA o19 2]]++wA o18 0)]
 else
 none
 else
 none
 else
 none
 else
 none
 else
 bif(([]++wA o15 1).length*24).ble 140737488355328 then
 (B0 (AJ Ak (nth [] x0 x1.toNat))).bind fun o20=>
 bif(([]++wA o15 1++[[jA o20 0,jA o20 1,jA o20 2]]).length*24).ble 140737488355328 then
 bif(([]++wA o15 1++[[jA o20 0,jA o20 1,jA o20 2]]++List.drop (IntKind.i64.wrap ((↑(wA o13 0).length:Int)-1)).toNat (wA o13 0)).length*24).ble 140737488355328 then
 some [.view kPt ([]++wA o15 1++[[jA o20 0,jA o20 1,jA o20 2]]++List.drop (IntKind.i64.wrap ((↑(wA o13 0).length:Int)-1)).toNat (wA o13 0))]
 else
 none
 else
 none
 else
 none
 else
 none
 else
 (BS [.view Ak x0,I x1]).bind fun o21=>
 bif bA o21 0 then
 (Bp [.view Ak x0,I x1]).bind fun o22=>
 bif decide (0<=gA o22 0)&&decide (gA o22 0<(x0.length:Int))then
 (J_ (AJ Ak (nth [] x0 x1.toNat)++AJ Ak (nth [] x0 (gA o22 0).toNat))).bind fun o23=>
 bif(([]++List.take (Int.toNat 1) (wA o13 0)).length*24).ble 140737488355328 then
 (B0 (AJ Ak (nth [] x0 x1.toNat))).bind fun o24=>
 bif(([]++List.take (Int.toNat 1) (wA o13 0)++[[jA o24 0,jA o24 1,jA o24 2]]).length*24).ble 140737488355328 then
 bif(([]++List.take (Int.toNat 1) (wA o13 0)++[[jA o24 0,jA o24 1,jA o24 2]]++wA o23 0).length*24).ble 140737488355328 then
 some [.view kPt ([]++List.take (Int.toNat 1) (wA o13 0)++[[jA o24 0,jA o24 1,jA o24 2]]++wA o23 0)]
 else
 none
 else
 none
 else
 none
 else
 none
 else
 bif(([]++List.take (Int.toNat 1) (wA o13 0)).length*24).ble 140737488355328 then
 (B0 (AJ Ak (nth [] x0 x1.toNat))).bind fun o25=>
 bif(([]++List.take (Int.toNat 1) (wA o13 0)++[[jA o25 0,jA o25 1,jA o25 2]]).length*24).ble 140737488355328 then
 bif(([]++List.take (Int.toNat 1) (wA o13 0)++[[jA o25 0,jA o25 1,jA o25 2]]++List.drop (IntKind.i64.wrap ((↑(wA o13 0).length:Int)-1)).toNat (wA o13 0)).length*24).ble 140737488355328 then
 some [.view kPt ([]++List.take (Int.toNat 1) (wA o13 0)++[[jA o25 0,jA o25 1,jA o25 2]]++List.drop (IntKind.i64.wrap ((↑(wA o13 0).length:Int)-1)).toNat (wA o13 0))]
 else
 none
 else
 none
 else
 none
 else
 none
 else
 none
 else
 none:=by kernel_rfl
def Oz:=Z2 FX Fc GP Qo EC OS
theorem Zoq:Ai PG (Qom FX Fc GP Qo EC OS):=Ao rfl ⟨Qha,Qb8,Q48,Zml,RD,Zag,trivial⟩
theorem Ziw:Al PG (170,Ac Qct Qdy Oz):=rw1 (C:=(Qom FX Fc GP Qo EC OS)) Zoq
def Qlt:Sk:=⟨[TS.v true [ci,ci,ci,ci,ci,ci,ci,ci,ci,ci,ci,ci,ci,CS.bool,ci,CS.bool,ci,ci,ci,ci,ci,CS.bool],tf [ci]],[],[]⟩
def Qmh:Sk:=⟨[tf [ci]],[],[]⟩
def Zyr (M:Fn):Nat×Spec:=(168,Ac Qlt Qmh M)
def Xv (AG:Fn):Cfg:=cf [Kx AG]
def Qjy (AG:Fn):Fn:=Am PG (Xv AG) 64 168 Qlt Qmh
theorem Qzf (AG:Fn) (x0 x1 x2 x3 x4 x5 x6 x7 x8 x9 x10 x11 x12:Int) (x13:Bool) (x14:Int) (x15:Bool) (x16 x17 x18 x19 x20:Int) (x21:Bool) (x22:Int):Qjy AG [I x0,I x1,I x2,I x3,I x4,I x5,I x6,I x7,I x8,I x9,I x10,I x11,I x12,B x13,I x14,B x15,I x16,I x17,I x18,I x19,I x20,B x21,I x22]=
 bif x0==1 then
 some [I 0]
 else
 bif x15 then
 (AG [I (mn (IntKind.i64.wrap (x14*mx x22 1)) 60000000),I 4096,I 60000,I 2]).bind fun o2=>
 some [I (mx (gA o2 0) 1)]
 else
 (AG [I (mn x14 60000000),I 4096,I 60000,I 2]).bind fun o3=>
 some [I (mx (gA o3 0) 1)]:=by kernel_rfl
def JH:=Qjy Bq
theorem Zuc:Ai PG (Xv Bq):=Ao rfl ⟨Lt,trivial⟩
theorem Zq5:Al PG (168,Ac Qlt Qmh JH):=rw1 (C:=(Xv Bq)) Zuc
def XH:Sk:=⟨[tf [CS.ptr 20000 0],tf [CS.sl Ak],tf [ci],tf [ci]],[(20000,142,[ci,ci,ci,CS.own 20000 7,CS.own 20001 3,CS.bool,ci,ci,ci])],[(20000,162,Ah),(20001,76,kPt)]⟩
def Qff:Sk:=⟨[tf [CS.bool]],[(20000,142,[ci,ci,ci,CS.own 20000 7,CS.own 20001 3,CS.bool,ci,ci,ci])],[(20000,162,Ah),(20001,76,kPt)]⟩
def Zpz (M:Fn):Nat×Spec:=(126,Ac XH Qff M)
def Y1 (B0 Bi Gu Fg Cu G0:Fn):Cfg:=cp [Qc9 B0,Tz Bi,Zql Gu,Z1q Fg,Q73 Cu,Zyr G0] [171]
def Que:Sk:=⟨[tf [CS.ptr 20000 0],td,td,td,td,td,td,td,td,tf [CS.ptr 9 0],tf [CS.ptr 10 0],td,td,td,td,td,td,td,td,td,td,td,td,td,td,td,td,td,td,td,td,td,td,td,td,tf [CS.sl kPt],tf [ci],tf [ci]]++dd 30,[(9,74,[ci,ci,ci,ci,ci,ci,ci,ci,ci,ci,ci,ci,ci,CS.bool,ci,CS.bool,ci,ci,ci,ci,ci,CS.bool]),(10,162,[ci,ci,ci,ci,ci,ci,ci]),(20000,142,[ci,ci,ci,CS.own 20000 7,CS.own 20001 3,CS.bool,ci,ci,ci])],[(20000,162,Ah),(20001,76,kPt)]⟩
def Qrb:List (Ex×Sk):=[(Ex.exit 0,⟨[tf [CS.ptr 20000 0]]++dd 67,[(20000,142,[ci,ci,ci,CS.own 20000 7,CS.own 20001 3,CS.bool,ci,ci,ci])],[(20000,162,Ah),(20001,76,kPt)]⟩)]
def Lc (B0 Bi Gu Fg Cu G0:Fn):Lp:=AN PG (Y1 B0 Bi Gu Fg Cu G0) 64 6 (AO PG 126 6) Que Qrb
def Q2e (B0 Bi Gu Fg Cu G0:Fn) (N6:Lp):Cfg:=(Y1 B0 Bi Gu Fg Cu G0).loop 6 Que Qrb N6
def VL (B0 Bi Gu Fg Cu G0:Fn) (N6:Lp):Fn:=Am PG (Q2e B0 Bi Gu Fg Cu G0 N6) 64 126 XH Qff
theorem Q15 (B0 Bi Gu Fg Cu G0:Fn) (v0 v1 v2:Rw) (v3 v4 v5 v6 v7 v8 v9 v10 v11 v12 v13 v14 v15 v16 v17:Int) (v18:Bool) (v19:Int) (v20:Bool) (v21 v22 v23 v24 v25:Int) (v26:Bool) (v27 v28 v29 v30 v31 v32 v33 v34 v35 v36:Int) (v37:Bool) (v38 v39 v40:Int):Lc B0 Bi Gu Fg Cu G0 [.view Ah v0, .view kPt v1, .view kPt v2,I v3,I v4,I v5,I v6,I v7,I v8,I v9,I v10,I v11,I v12,I v13,I v14,I v15,I v16,I v17,B v18,I v19,B v20,I v21,I v22,I v23,I v24,I v25,B v26,I v27,I v28,I v29,I v30,I v31,I v32,I v33,I v34,I v35,I v36,B v37,I v38,I v39,I v40]=
 bif decide (v4<v3)then
 bif decide (0<=v4)&&decide (v4<(v2.length:Int))then
 (Gu [.view Ah v0, .view kPt v1,jA (nth [] v2 v4.toNat) 0,jA (nth [] v2 v4.toNat) 1,jA (nth [] v2 v4.toNat) 2,I v27,I v28,I v29,I v30,I v31,I v32,I v33,I v34,I v35,I v36,B v37,I v38,I v39,I v40]).bind fun o12=>
 (Bi [I v5,I v6,I v7,I v8,I v9,I v10,I v11,I v12,I v13,I v14,I v15,I v16,I v17,B v18,I v19,B v20,I v21,I v22,I v23,I v24,I v25,B v26]).bind fun o13=>
 bif bA o13 0 then
 (B0 [I v5,I v6,I v7,I v8,I v9,I v10,I v11,I v12,I v13,I v14,I v15,I v16,I v17,B v18,I v19,B v20,I v21,I v22,I v23,I v24,I v25,B v26]).bind fun o14=>
 bif gA (nth [] v2 v4.toNat) 0==gA o14 0&&(gA (nth [] v2 v4.toNat) 1==gA o14 1&&(gA (nth [] v2 v4.toNat) 2==gA o14 2&&true))then
 some (0,[.view Ah (wA o12 0), .view kPt (wA o12 1), .view kPt v2,I v3,I (IntKind.i64.wrap (v4+1)),I v5,I v6,I v7,I v8,I v9,I v10,I v11,I v12,I v13,I v14,I v15,I v16,I v17,B v18,I v19,B v20,I v21,I v22,I v23,I v24,I v25,B v26,I v27,I v28,I v29,I v30,I v31,I v32,I v33,jA o12 2,jA o12 3,jA o12 4,B (bA o12 5),jA o12 6,jA o12 7,jA o12 6])
 else
 some (0,[.view Ah (wA o12 0), .view kPt (wA o12 1), .view kPt v2,I v3,I (IntKind.i64.wrap (v4+1)),I v5,I v6,I v7,I v8,I v9,I v10,I v11,I v12,I v13,I v14,I v15,I v16,I v17,B v18,I v19,B v20,I v21,I v22,I v23,I v24,I v25,B v26,I v27,I v28,I v29,I v30,I v31,I v32,I v33,jA o12 2,jA o12 3,jA o12 4,B (bA o12 5),jA o12 6,jA o12 7,jA o12 8])
 else
 some (0,[.view Ah (wA o12 0), .view kPt (wA o12 1), .view kPt v2,I v3,I (IntKind.i64.wrap (v4+1)),I v5,I v6,I v7,I v8,I v9,I v10,I v11,I v12,I v13,I v14,I v15,I v16,I v17,B v18,I v19,B v20,I v21,I v22,I v23,I v24,I v25,B v26,I v27,I v28,I v29,I v30,I v31,I v32,I v33,jA o12 2,jA o12 3,jA o12 4,B (bA o12 5),jA o12 6,jA o12 7,jA o12 8])
 else
 none
 else
 some (1,[.view Ah v0, .view kPt v1,I v34,I v35,I v36,B v37,I v38,I v39,I v40]):=by kernel_rfl
abbrev Qa3 (Fg:Fn) (x2:Rw) (x3 x4:Int) (N6:Lp) (x0 x1:Rw) (o15:List AC) (x5 x6 x7:Int) (x8:Bool) (x9 x10 x11:Int) (h1_0:AC):Option (List AC):=
 (Fg [.view Ak x2,I x3,I x4]).bind fun o17=>
 (N6 (.view Ah x0:: .view kPt x1:: .view kPt (wA o17 0)::I (↑(wA o17 0).length:Int)::I 0::(AJ Ak (nth [] x2 x3.toNat)++[I 0,I 0,I 0,I 0,I x3,jA o15 0,h1_0,I x5,I x6,I x7,B x8,I x9,I x10,I x11]))).bind fun o18=>
 bif o18.1.beq 1 then
 some [.view Ah (wA o18.2 0), .view kPt (wA o18.2 1),B (decide ((↑(wA o18.2 0).length:Int)<=1048576)),jA o18.2 2,jA o18.2 3,jA o18.2 4,B (bA o18.2 5),jA o18.2 6,jA o18.2 7,jA o18.2 8]
 else
 none
attribute [go_sem] Qa3
theorem Zhu (B0 Bi Gu Fg Cu G0:Fn) (N6:Lp) (x0 x1 x2:Rw) (x3 x4 x5 x6 x7:Int) (x8:Bool) (x9 x10 x11:Int):VL B0 Bi Gu Fg Cu G0 N6 [.view Ah x0, .view kPt x1, .view Ak x2,I x3,I x4,I x5,I x6,I x7,B x8,I x9,I x10,I x11]=
 bif decide (0<=x3)&&decide (x3<(x2.length:Int))then
 (G0 (AJ Ak (nth [] x2 x3.toNat)++[I x10])).bind fun o15=>
 (Cu (AJ Ak (nth [] x2 x3.toNat))).bind fun o16=>
 bif bA o16 0 then
 Qa3 Fg x2 x3 x4 N6 x0 x1 o15 x5 x6 x7 x8 x9 x10 x11 (I (mn (IntKind.i64.wrap (gA (nth [] x2 x3.toNat) 14*16)) 16777216))
 else
 Qa3 Fg x2 x3 x4 N6 x0 x1 o15 x5 x6 x7 x8 x9 x10 x11 (I 0)
 else
 none:=by kernel_rfl
def Q3e:=An (Lc FX EC NN Oz Hk JH)
def Js:=VL FX EC NN Oz Hk JH Q3e
theorem Qtl:Ai PG (Y1 FX EC NN Oz Hk JH):=Ao rfl ⟨Qha,RD,Zls,Ziw,Qw4,Zq5,trivial⟩
theorem Zdl:Al PG (126,Ac XH Qff Js):=rw2 (C:=(Q2e FX EC NN Oz Hk JH Q3e)) (fl fb Qtl) Qtl
def Y7:Sk:=⟨[TS.v true [ci,ci,ci,ci,ci,ci,ci,ci,ci,ci,ci,ci,ci,CS.bool,ci,CS.bool,ci,ci,ci,ci,ci,CS.bool]],[],[]⟩
def W5:Sk:=⟨[tf [ci]],[],[]⟩
def Zxe (M:Fn):Nat×Spec:=(122,Ac Y7 W5 M)
def Qfh (Cy AL:Fn):Cfg:=cf [Qk3 Cy,R3 AL]
def Qol (Cy AL:Fn):Fn:=Am PG (Qfh Cy AL) 64 122 Y7 W5
abbrev KH (x0 x19 x20:Int):Option (List AC):=
 bif x0==8 then
 bif decide (x19<3)then
 some [I 1]
 else
 bif decide (x19>5)then
 some [I 1]
 else
 bif decide (x20<0)then
 some [I 1]
 else
 bif decide (x20>30000)then
 some [I 1]
 else
 some [I 0]
 else
 some [I 0]
attribute [go_sem] KH
theorem Zzd (Cy AL:Fn) (x0 x1 x2 x3 x4 x5 x6 x7 x8 x9 x10 x11 x12:Int) (x13:Bool) (x14:Int) (x15:Bool) (x16 x17 x18 x19 x20:Int) (x21:Bool):Qol Cy AL [I x0,I x1,I x2,I x3,I x4,I x5,I x6,I x7,I x8,I x9,I x10,I x11,I x12,B x13,I x14,B x15,I x16,I x17,I x18,I x19,I x20,B x21]=
 bif decide (x0<1)then
 some [I 1]
 else
 bif decide (x0>14)then
 some [I 1]
 else
 (AL [I x0]).bind fun o4=>
 bif bA o4 0 then
 (Cy [I x0,I x1,I x2,I x3,I x4,I x5,I x6,I x7,I x8,I x9,I x10,I x11,I x12,B x13,I x14,B x15,I x16,I x17,I x18,I x19,I x20,B x21]).bind fun o5=>
 bif !bA o5 0 then
 some [I 1]
 else
 bif decide (x18<0)then
 some [I 1]
 else
 bif decide (x18>1000)then
 some [I 1]
 else
 (AL [I x0]).bind fun o6=>
 bif bA o6 0 then
 bif x0 !=1 then
 bif decide (x14<1)then
 some [I 1]
 else
 bif decide (x14>60000000)then
 some [I 1]
 else
 KH x0 x19 x20
 else
 KH x0 x19 x20
 else
 KH x0 x19 x20
 else
 (AL [I x0]).bind fun o7=>
 bif bA o7 0 then
 bif x0 !=1 then
 bif decide (x14<1)then
 some [I 1]
 else
 bif decide (x14>60000000)then
 some [I 1]
 else
 KH x0 x19 x20
 else
 KH x0 x19 x20
 else
 KH x0 x19 x20:=by kernel_rfl
def Ix:=Qol GM DH
theorem Zug:Ai PG (Qfh GM DH):=Ao rfl ⟨Qjm,So,trivial⟩
theorem Q9v:Al PG (122,Ac Y7 W5 Ix):=rw1 (C:=(Qfh GM DH)) Zug
def Uo:Sk:=⟨[tf [CS.sl Ak]],[],[]⟩
def Qek:Sk:=⟨[TS.tup [(false,[CS.ptr 13 0]),(false,[ci])]],[(13,142,[ci,ci,ci,CS.own 1013003 7,CS.own 1013004 3,CS.bool,ci,ci,ci])],[(1013003,162,Ah),(1013004,76,kPt)]⟩
def Q26 (M:Fn):Nat×Spec:=(80,Ac Uo Qek M)
def Qbm (B5 Cc Bp BS AL Ep:Fn):Cfg:=cp [Z07 B5,Zpz Cc,Qcc Bp,Q66 BS,R3 AL,Zxe Ep] [127,126]
def Qwp:Sk:=⟨[tf [CS.sl Ak],td,td,td,tf [CS.ptr 13 0],tf [ci],td,td,td,td,td,td,td,td,td,td,td,td,tf [CS.sl Ak],tf [ci],tf [ci]]++dd 87,[(13,142,[ci,ci,ci,CS.own 1013003 7,CS.own 1013004 3,CS.bool,ci,ci,ci])],[(1013003,162,Ah),(1013004,76,kPt)]⟩
def Q0x:List (Ex×Sk):=[(Ex.ret,⟨[td,td,tf [CS.ptr 13 0],tf [ci]]++dd 104,[(13,142,[ci,ci,ci,CS.own 1013003 7,CS.own 1013004 3,CS.bool,ci,ci,ci])],[(1013003,162,Ah),(1013004,76,kPt)]⟩),(Ex.exit 0,⟨[tf [CS.sl Ak],td,td,td,tf [CS.ptr 13 0]]++dd 103,[(13,142,[ci,ci,ci,CS.own 1013003 7,CS.own 1013004 3,CS.bool,ci,ci,ci])],[(1013003,162,Ah),(1013004,76,kPt)]⟩)]
def Pv (B5 Cc Bp BS AL Ep:Fn):Lp:=AN PG (Qbm B5 Cc Bp BS AL Ep) 64 6 (AO PG 80 6) Qwp Q0x
def Qu3 (B5 Cc Bp BS AL Ep:Fn) (N6:Lp):Cfg:=(Qbm B5 Cc Bp BS AL Ep).loop 6 Qwp Q0x N6
def Qsl:Sk:=⟨[tf [CS.sl Ak],td,td,td,tf [CS.ptr 13 0],tf [ci],td,td,td,td,td,td,td,td,td,td,td,td,td,td,td,td,td,td,td,td,td,td,td,td,td,td,td,td,td,td,td,td,td,td,td,td,td,td,td,td,td,td,td,td,tf [CS.sl Ak],tf [ci],tf [ci]]++dd 55,[(13,142,[ci,ci,ci,CS.own 1013003 7,CS.own 1013004 3,CS.bool,ci,ci,ci])],[(1013003,162,Ah),(1013004,76,kPt)]⟩
def Q3u:List (Ex×Sk):=[(Ex.ret,⟨[td,td,tf [CS.ptr 13 0],tf [ci]]++dd 104,[(13,142,[ci,ci,ci,CS.own 1013003 7,CS.own 1013004 3,CS.bool,ci,ci,ci])],[(1013003,162,Ah),(1013004,76,kPt)]⟩),(Ex.exit 2,⟨[td,td,td,td,tf [CS.ptr 13 0]]++dd 103,[(13,142,[ci,ci,ci,CS.own 1013003 7,CS.own 1013004 3,CS.bool,ci,ci,ci])],[(1013003,162,Ah),(1013004,76,kPt)]⟩)]
def Pp (B5 Cc Bp BS AL Ep:Fn) (N6:Lp):Lp:=AN PG (Qu3 B5 Cc Bp BS AL Ep N6) 64 18 (AO PG 80 18) Qsl Q3u
def Qvh (B5 Cc Bp BS AL Ep:Fn) (N6 N18:Lp):Cfg:=(Qu3 B5 Cc Bp BS AL Ep N6).loop 18 Qsl Q3u N18
def Qa2 (B5 Cc Bp BS AL Ep:Fn) (N6 N18:Lp):Fn:=Am PG (Qvh B5 Cc Bp BS AL Ep N6 N18) 64 80 Uo Qek
theorem Q2k (B5 Cc Bp BS AL Ep:Fn) (v0 v1 v2:Rw) (v3:Int) (v4:Rw) (v5 v6 v7 v8 v9:Int) (v10:Bool) (v11 v12 v13:Int):Pv B5 Cc Bp BS AL Ep [.view Ah v0, .view kPt v1, .view Ak v2,I v3, .view Ak v4,I v5,I v6,I v7,I v8,I v9,B v10,I v11,I v12,I v13]=
 bif decide (v6<v5)then
 bif decide (0<=v6)&&decide (v6<(v4.length:Int))then
 (Ep (AJ Ak (nth [] v4 v6.toNat))).bind fun o53=>
 bif gA o53 0 !=0 then
 some (1,[.view Ah v0, .view kPt v1,jA o53 0,I v7,I v8,I v9,B v10,I v11,I v12,I v13])
 else
 (AL [jA (nth [] v4 v6.toNat) 0]).bind fun o54=>
 bif !bA o54 0 then
 some (0,[.view Ah v0, .view kPt v1, .view Ak v2,I v3, .view Ak v4,I v5,I (IntKind.i64.wrap (v6+1)),I v7,I v8,I v9,B v10,I v11,I v12,I v13])
 else
 bif decide (v3>=0)then
 bif decide (0<=v3)&&decide (v3<(v2.length:Int))then
 bif !(gA (nth [] v2 v3.toNat) 5==gA (nth [] v4 v6.toNat) 2&&(gA (nth [] v2 v3.toNat) 6==gA (nth [] v4 v6.toNat) 3&&(gA (nth [] v2 v3.toNat) 7==gA (nth [] v4 v6.toNat) 4&&true)))then
 some (1,[.view Ah v0, .view kPt v1,I 13,I v7,I v8,I v9,B v10,I v11,I v12,I v13])
 else
 some (0,[.view Ah v0, .view kPt v1, .view Ak v2,I v6, .view Ak v4,I v5,I (IntKind.i64.wrap (v6+1)),I v7,I v8,I v9,B v10,I v11,I v12,I v13])
 else
 none
 else
 some (0,[.view Ah v0, .view kPt v1, .view Ak v2,I v6, .view Ak v4,I v5,I (IntKind.i64.wrap (v6+1)),I v7,I v8,I v9,B v10,I v11,I v12,I v13])
 else
 none
 else
 some (2,[.view Ah v0, .view kPt v1, .view Ak v2,I v7,I v8,I v9,B v10,I v11,I v12,I v13]):=by kernel_rfl
abbrev OM (Cc:Fn) (v0 v1 v2:Rw) (v6 v7 v8 v9:Int) (v10:Bool) (v11:Int) (h1_0:AC) (v13:Int) (B5:Fn) (v4:Rw) (v5:Int) (h2_0:AC):Option (Nat×List AC):=
 (Cc [.view Ah v0, .view kPt v1, .view Ak v2,I v6,h2_0,I v7,I v8,I v9,B v10,I v11,h1_0,I v13]).bind fun o57=>
 bif !bA o57 2 then
 some (1,[.view Ah (wA o57 0), .view kPt (wA o57 1),I 10,jA o57 3,jA o57 4,jA o57 5,B (bA o57 6),jA o57 7,jA o57 8,jA o57 9])
 else
 (B5 [.view Ah (wA o57 0), .view kPt (wA o57 1), .view Ak v2,I v6,jA o57 3,jA o57 4,jA o57 5,B (bA o57 6),jA o57 7,jA o57 8,jA o57 9]).bind fun o58=>
 some (0,[.view Ah (wA o58 0), .view kPt (wA o58 1), .view Ak v2,I v6, .view Ak v4,I v5,I (IntKind.i64.wrap (v6+1)),jA o58 2,jA o58 3,jA o58 4,B (bA o58 5),jA o58 6,jA o58 7,jA o58 8])
attribute [go_sem] OM
abbrev P0 (AL:Fn) (v4:Rw) (v6 v3:Int) (BS:Fn) (v2:Rw) (Cc:Fn) (v0 v1:Rw) (v7 v8 v9:Int) (v10:Bool) (v11 v13:Int) (B5:Fn) (v5:Int) (Bp:Fn) (h1_0:AC):Option (Nat×List AC):=
 (AL [jA (nth [] v4 v6.toNat) 0]).bind fun o55=>
 bif bA o55 0 then
 bif decide (v3>=0)then
 (BS [.view Ak v2,I v3]).bind fun o56=>
 bif !bA o56 0 then
 OM Cc v0 v1 v2 v6 v7 v8 v9 v10 v11 h1_0 v13 B5 v4 v5 (I (-1))
 else
 (Bp [.view Ak v2,I v3]).bind fun o59=>
 bif gA o59 0 !=v6 then
 OM Cc v0 v1 v2 v6 v7 v8 v9 v10 v11 h1_0 v13 B5 v4 v5 (I (-1))
 else
 OM Cc v0 v1 v2 v6 v7 v8 v9 v10 v11 h1_0 v13 B5 v4 v5 (I v3)
 else
 OM Cc v0 v1 v2 v6 v7 v8 v9 v10 v11 h1_0 v13 B5 v4 v5 (I v3)
 else
 (B5 [.view Ah v0, .view kPt v1, .view Ak v2,I v6,I v7,I v8,I v9,B v10,I v11,h1_0,I v13]).bind fun o66=>
 some (0,[.view Ah (wA o66 0), .view kPt (wA o66 1), .view Ak v2,I v3, .view Ak v4,I v5,I (IntKind.i64.wrap (v6+1)),jA o66 2,jA o66 3,jA o66 4,B (bA o66 5),jA o66 6,jA o66 7,jA o66 8])
attribute [go_sem] P0
theorem Qvv (B5 Cc Bp BS AL Ep:Fn) (N6:Lp) (v0 v1 v2:Rw) (v3:Int) (v4:Rw) (v5 v6 v7 v8 v9:Int) (v10:Bool) (v11 v12 v13:Int):Pp B5 Cc Bp BS AL Ep N6 [.view Ah v0, .view kPt v1, .view Ak v2,I v3, .view Ak v4,I v5,I v6,I v7,I v8,I v9,B v10,I v11,I v12,I v13]=
 bif decide (v6<v5)then
 bif decide (0<=v6)&&decide (v6<(v4.length:Int))then
 bif gA (nth [] v4 v6.toNat) 0==8 then
 bif gA (nth [] v4 v6.toNat) 19==3 then
 P0 AL v4 v6 v3 BS v2 Cc v0 v1 v7 v8 v9 v10 v11 v13 B5 v5 Bp (jA (nth [] v4 v6.toNat) 20)
 else
 bif gA (nth [] v4 v6.toNat) 19==4 then
 P0 AL v4 v6 v3 BS v2 Cc v0 v1 v7 v8 v9 v10 v11 v13 B5 v5 Bp (jA (nth [] v4 v6.toNat) 20)
 else
 P0 AL v4 v6 v3 BS v2 Cc v0 v1 v7 v8 v9 v10 v11 v13 B5 v5 Bp (I v12)
 else
 P0 AL v4 v6 v3 BS v2 Cc v0 v1 v7 v8 v9 v10 v11 v13 B5 v5 Bp (I v12)
 else
 none
 else
 some (2,[.view Ah v0, .view kPt v1,I v7,I v8,I v9,B v10,I v11,I v12,I v13]):=by kernel_rfl
theorem Zlt (B5 Cc Bp BS AL Ep:Fn) (N6 N18:Lp) (x0:Rw):Qa2 B5 Cc Bp BS AL Ep N6 N18 [.view Ak x0]=
 bif decide ((x0.length:Int)>20000)then
 some [.view Ah [], .view kPt [],I 10,I 0,I 0,I 0,B false,I 0,I 0,I 0]
 else
 (N6 [.view Ah [], .view kPt [], .view Ak x0,I (-1), .view Ak x0,I (x0.length:Int),I 0,I 0,I 0,I 0,B false,I 0,I 0,I 0]).bind fun o103=>
 bif o103.1.beq 1 then
 some [.view Ah (wA o103.2 0), .view kPt (wA o103.2 1),jA o103.2 2,jA o103.2 3,jA o103.2 4,jA o103.2 5,B (bA o103.2 6),jA o103.2 7,jA o103.2 8,jA o103.2 9]
 else
 bif o103.1.beq 2 then
 (N18 [.view Ah (wA o103.2 0), .view kPt (wA o103.2 1), .view Ak (wA o103.2 2),I (-1), .view Ak (wA o103.2 2),I (↑(wA o103.2 2).length:Int),I 0,jA o103.2 3,jA o103.2 4,jA o103.2 5,B (bA o103.2 6),jA o103.2 7,jA o103.2 8,jA o103.2 9]).bind fun o104=>
 bif o104.1.beq 1 then
 some [.view Ah (wA o104.2 0), .view kPt (wA o104.2 1),jA o104.2 2,jA o104.2 3,jA o104.2 4,jA o104.2 5,B (bA o104.2 6),jA o104.2 7,jA o104.2 8,jA o104.2 9]
 else
 bif o104.1.beq 2 then
 some [.view Ah (wA o104.2 0), .view kPt (wA o104.2 1),I 0,jA o104.2 2,jA o104.2 3,jA o104.2 4,B (bA o104.2 5),jA o104.2 6,jA o104.2 7,jA o104.2 8]
 else
 none
 else
 none:=by kernel_rfl
def P2:=An (Pv IL Js Fc GP DH Ix)
def Qum:=An (Pp IL Js Fc GP DH Ix P2)
def IT:=Qa2 IL Js Fc GP DH Ix P2 Qum
theorem Qlk:Ai PG (Qbm IL Js Fc GP DH Ix):=Ao rfl ⟨Zsu,Zdl,Qb8,Q48,So,Q9v,trivial⟩
theorem Qqm:Al PG (80,Ac Uo Qek IT):=rw2 (C:=(Qvh IL Js Fc GP DH Ix P2 Qum)) (fl (fl fb Qlk) Qlk) Qlk
def Qov:Sk:=⟨[tf [CS.sl Ak]],[],[]⟩
def Qhg:Sk:=⟨[tf [ci]],[],[]⟩
def Z0e (M:Fn):Nat×Spec:=(37,Ac Qov Qhg M)
def X8 (Bi DR:Fn):Cfg:=cp [Tz Bi,Q26 DR] [80]
def Qyn:Sk:=⟨[tf [CS.sl Ak],td,td,tf [CS.ptr 100800 0],td,tf [ci]]++dd 47,[(100800,142,[ci,ci,ci,CS.own 100800 7,CS.own 100801 3,CS.bool,ci,ci,ci])],[(100800,162,Ah),(100801,76,kPt)]⟩
def Qr1:List (Ex×Sk):=[(Ex.ret,⟨[td,td,tf [ci]]++dd 50,[],[]⟩),(Ex.exit 0,⟨[td,td,td,tf [CS.ptr 100800 0]]++dd 49,[(100800,142,[ci,ci,ci,CS.own 100800 7,CS.own 100801 3,CS.bool,ci,ci,ci])],[(100800,162,Ah),(100801,76,kPt)]⟩)]
def NK (Bi DR:Fn):Lp:=AN PG (X8 Bi DR) 64 5 (AO PG 37 5) Qyn Qr1
def Qvx (Bi DR:Fn) (N5:Lp):Cfg:=(X8 Bi DR).loop 5 Qyn Qr1 N5
def VF (Bi DR:Fn) (N5:Lp):Fn:=Am PG (Qvx Bi DR N5) 64 37 Qov Qhg
theorem Qx4 (Bi DR:Fn) (v0 v1 v2:Rw) (v3 v4 v5 v6:Int) (v7:Bool) (v8 v9 v10:Int):NK Bi DR [.view Ah v0, .view kPt v1, .view Ak v2,I v3,I v4,I v5,I v6,B v7,I v8,I v9,I v10]=
 bif decide (v3>=0)then
 bif decide (0<=v3)&&decide (v3<(v2.length:Int))then
 bif gA (nth [] v2 v3.toNat) 0==10 then
 some (0,[.view Ah v0, .view kPt v1, .view Ak v2,I (IntKind.i64.wrap (v3-1)),I v4,I v5,I v6,B v7,I v8,I v9,I v10])
 else
 bif decide (0<=v3)&&decide (v3<(v2.length:Int))then
 (Bi (AJ Ak (nth [] v2 v3.toNat))).bind fun o4=>
 bif bA o4 0 then
 bif decide (0<=v3)&&decide (v3<(v2.length:Int))then
 bif gA (nth [] v2 v3.toNat) 18 !=0 then
 some (1,[I v10])
 else
 some (1,[I v8])
 else
 none
 else
 some (1,[I v8])
 else
 none
 else
 none
 else
 some (2,[.view Ah v0, .view kPt v1,I v4,I v5,I v6,B v7,I v8,I v9,I v10]):=by kernel_rfl
theorem Q30 (Bi DR:Fn) (N5:Lp) (x0:Rw):VF Bi DR N5 [.view Ak x0]=
 (DR [.view Ak x0]).bind fun o5=>
 bif gA o5 2 !=0 then
 some [I 0]
 else
 (N5 [.view Ah (wA o5 0), .view kPt (wA o5 1), .view Ak x0,I (IntKind.i64.wrap ((x0.length:Int)-1)),jA o5 3,jA o5 4,jA o5 5,B (bA o5 6),jA o5 7,jA o5 8,jA o5 9]).bind fun o6=>
 bif o6.1.beq 1 then
 some [jA o6.2 0]
 else
 bif o6.1.beq 2 then
 some [jA o6.2 6]
 else
 none:=by kernel_rfl
def Qzw:=An (NK EC IT)
def Oy:=VF EC IT Qzw
theorem Qxs:Ai PG (X8 EC IT):=Ao rfl ⟨RD,Qqm,trivial⟩
theorem Zdi:Al PG (37,Ac Qov Qhg Oy):=rw2 (C:=(Qvx EC IT Qzw)) (fl fb Qxs) Qxs
def Qoq:Sk:=⟨[tf [ci],tf [ci],tf [ci]],[],[]⟩
def YH:Sk:=⟨[tf [CS.bool]],[],[]⟩
def Vw (M:Fn):Nat×Spec:=(140,Ac Qoq YH M)
def Qcs:Cfg:=cf []
def Uf:Fn:=Am PG Qcs 64 140 Qoq YH
theorem Zev (x0 x1 x2:Int):Uf [I x0,I x1,I x2]=
 bif decide (x1<=x0)then
 some [B (decide (x0<=x2))]
 else
 some [B false]:=by kernel_rfl
def GF:=Uf
theorem Zhc:Ai PG (Qcs):=Ao rfl trivial
theorem YA:Al PG (140,Ac Qoq YH GF):=rw1 (C:=Qcs) Zhc
def Qcx:Sk:=⟨[TS.v true [ci,ci,ci,ci,ci,ci,ci,ci,ci,CS.sl Aa],tf [ci]],[],[]⟩
def Qiu:Sk:=⟨[tf [CS.bool]],[],[]⟩
def Zfb (M:Fn):Nat×Spec:=(142,Ac Qcx Qiu M)
def Qim (BH:Fn):Cfg:=cf [Vw BH]
def YR (BH:Fn):Fn:=Am PG (Qim BH) 64 142 Qcx Qiu
theorem Zji (BH:Fn) (x0 x1 x2 x3 x4 x5 x6 x7 x8:Int) (x9:Rw) (x10:Int):YR BH [I x0,I x1,I x2,I x3,I x4,I x5,I x6,I x7,I x8, .view Aa x9,I x10]=
 (BH [I x10,I x4,I x5]).bind fun o1=>
 some [B (bA o1 0)]:=by kernel_rfl
def HD:=YR GF
theorem Zs0:Ai PG (Qim GF):=Ao rfl ⟨YA,trivial⟩
theorem Zlr:Al PG (142,Ac Qcx Qiu HD):=rw1 (C:=(Qim GF)) Zs0
def UR:Sk:=⟨[TS.v true [ci,ci,ci,ci,ci,ci,ci,ci,ci,CS.sl Aa,ci,ci,ci,ci,ci,ci,ci,ci,ci,CS.sl Aa,ci,ci,ci,ci,ci,ci,ci,ci,ci,CS.sl Aa],TS.v true [ci,ci,ci,CS.sl Ah,CS.sl kPt]],[],[]⟩
def YL:Sk:=⟨[tf [CS.bool]],[],[]⟩
def Zp7 (M:Fn):Nat×Spec:=(90,Ac UR YL M)
def Qb3 (DB:Fn):Cfg:={cf [Zfb DB]with rowDst:=[13],unroll:=[11]}
def Q3a:Sk:=⟨[td,td,tf [CS.ptr 2 0],td,td,tf [CS.own 13 3],td,td,td,td,td,td,td,td,td,tf [CS.sl Ah],tf [ci],tf [ci]]++dd 28,[(2,27,[ci,ci,ci,ci,ci,ci,ci,ci,ci,CS.sl Aa,ci,ci,ci,ci,ci,ci,ci,ci,ci,CS.sl Aa,ci,ci,ci,ci,ci,ci,ci,ci,ci,CS.sl Aa])],[(13,54,kPt)]⟩
def Q7e:List (Ex×Sk):=[(Ex.exit 0,⟨[td,td,tf [CS.ptr 2 0],td,td,tf [CS.own 13 3]]++dd 40,[(2,27,[ci,ci,ci,ci,ci,ci,ci,ci,ci,CS.sl Aa,ci,ci,ci,ci,ci,ci,ci,ci,ci,CS.sl Aa,ci,ci,ci,ci,ci,ci,ci,ci,ci,CS.sl Aa])],[(13,54,kPt)]⟩)]
def Qm (DB:Fn):Lp:=AN PG (Qb3 DB) 64 3 (AO PG 90 3) Q3a Q7e
def Qsw (DB:Fn) (N3:Lp):Cfg:=(Qb3 DB).loop 3 Q3a Q7e N3
def Qv4:Sk:=⟨[td,td,tf [CS.ptr 2 0],td,td,td,td,td,td,td,td,td,td,td,td,td,td,td,td,td,td,td,td,td,td,td,td,tf [CS.own 13 3],tf [ci],tf [ci]]++dd 16,[(2,27,[ci,ci,ci,ci,ci,ci,ci,ci,ci,CS.sl Aa,ci,ci,ci,ci,ci,ci,ci,ci,ci,CS.sl Aa,ci,ci,ci,ci,ci,ci,ci,ci,ci,CS.sl Aa])],[(13,54,kPt)]⟩
def Qq9:List (Ex×Sk):=[(Ex.ret,⟨[td,td,td,td,tf [CS.bool]]++dd 41,[],[]⟩),(Ex.exit 2,⟨[td]++dd 45,[],[]⟩)]
def RP (DB:Fn) (N3:Lp):Lp:=AN PG (Qsw DB N3) 64 8 (AO PG 90 8) Qv4 Qq9
def Q4y (DB:Fn) (N3 N8:Lp):Cfg:=(Qsw DB N3).loop 8 Qv4 Qq9 N8
def WG (DB:Fn) (N3 N8:Lp):Fn:=Am PG (Q4y DB N3 N8) 64 90 UR YL
theorem Z33 (DB:Fn) (v0 v1:Rw) (v2 v3 v4 v5 v6 v7 v8 v9 v10 v11 v12:Int) (v13:Rw) (v14 v15 v16 v17 v18 v19 v20 v21 v22:Int) (v23:Rw) (v24 v25 v26 v27 v28 v29 v30 v31 v32:Int) (v33:Rw):Qm DB [.view kPt v0, .view Ah v1,I v2,I v3,I v4,I v5,I v6,I v7,I v8,I v9,I v10,I v11,I v12, .view Aa v13,I v14,I v15,I v16,I v17,I v18,I v19,I v20,I v21,I v22, .view Aa v23,I v24,I v25,I v26,I v27,I v28,I v29,I v30,I v31,I v32, .view Aa v33]=
 bif decide (v3<v2)then
 bif decide (0<=v3)&&decide (v3<(v1.length:Int))then
 bif((v0++[[jA (nth [] v1 v3.toNat) 0,jA (nth [] v1 v3.toNat) 1,jA (nth [] v1 v3.toNat) 2]]).length*24).ble 140737488355328 then
 some (0,[.view kPt (v0++[[jA (nth [] v1 v3.toNat) 0,jA (nth [] v1 v3.toNat) 1,jA (nth [] v1 v3.toNat) 2]]), .view Ah v1,I v2,I (IntKind.i64.wrap (v3+1)),I v4,I v5,I v6,I v7,I v8,I v9,I v10,I v11,I v12, .view Aa v13,I v14,I v15,I v16,I v17,I v18,I v19,I v20,I v21,I v22, .view Aa v23,I v24,I v25,I v26,I v27,I v28,I v29,I v30,I v31,I v32, .view Aa v33])
 else
 none
 else
 none
 else
 some (1,[.view kPt v0,I v4,I v5,I v6,I v7,I v8,I v9,I v10,I v11,I v12, .view Aa v13,I v14,I v15,I v16,I v17,I v18,I v19,I v20,I v21,I v22, .view Aa v23,I v24,I v25,I v26,I v27,I v28,I v29,I v30,I v31,I v32, .view Aa v33]):=by kernel_rfl
theorem Zwi (DB:Fn) (N3:Lp) (v0:Rw) (v1 v2 v3 v4 v5 v6 v7 v8 v9 v10 v11:Int) (v12:Rw) (v13 v14 v15 v16 v17 v18 v19 v20 v21:Int) (v22:Rw) (v23 v24 v25 v26 v27 v28 v29 v30 v31:Int) (v32:Rw):RP DB N3 [.view kPt v0,I v1,I v2,I v3,I v4,I v5,I v6,I v7,I v8,I v9,I v10,I v11, .view Aa v12,I v13,I v14,I v15,I v16,I v17,I v18,I v19,I v20,I v21, .view Aa v22,I v23,I v24,I v25,I v26,I v27,I v28,I v29,I v30,I v31, .view Aa v32]=
 bif decide (v2<v1)then
 bif decide (0<=v2)&&decide (v2<(v0.length:Int))then
 (DB [I v3,I v4,I v5,I v6,I v7,I v8,I v9,I v10,I v11, .view Aa v12,jA (nth [] v0 v2.toNat) 0]).bind fun o6=>
 bif !bA o6 0 then
 some (1,[B false])
 else
 (DB [I v13,I v14,I v15,I v16,I v17,I v18,I v19,I v20,I v21, .view Aa v22,jA (nth [] v0 v2.toNat) 1]).bind fun o7=>
 bif !bA o7 0 then
 some (1,[B false])
 else
 (DB [I v23,I v24,I v25,I v26,I v27,I v28,I v29,I v30,I v31, .view Aa v32,jA (nth [] v0 v2.toNat) 2]).bind fun o8=>
 bif !bA o8 0 then
 some (1,[B false])
 else
 some (0,[.view kPt v0,I v1,I (IntKind.i64.wrap (v2+1)),I v3,I v4,I v5,I v6,I v7,I v8,I v9,I v10,I v11, .view Aa v12,I v13,I v14,I v15,I v16,I v17,I v18,I v19,I v20,I v21, .view Aa v22,I v23,I v24,I v25,I v26,I v27,I v28,I v29,I v30,I v31, .view Aa v32])
 else
 none
 else
 some (2,[]):=by kernel_rfl
theorem Zfy (DB:Fn) (N3 N8:Lp) (x0 x1 x2 x3 x4 x5 x6 x7 x8:Int) (x9:Rw) (x10 x11 x12 x13 x14 x15 x16 x17 x18:Int) (x19:Rw) (x20 x21 x22 x23 x24 x25 x26 x27 x28:Int) (x29:Rw) (x30 x31 x32:Int) (x33 x34:Rw):WG DB N3 N8 [I x0,I x1,I x2,I x3,I x4,I x5,I x6,I x7,I x8, .view Aa x9,I x10,I x11,I x12,I x13,I x14,I x15,I x16,I x17,I x18, .view Aa x19,I x20,I x21,I x22,I x23,I x24,I x25,I x26,I x27,I x28, .view Aa x29,I x30,I x31,I x32, .view Ah x33, .view kPt x34]=
 (N3 [.view kPt [[I x30,I x31,I x32]], .view Ah x33,I (x33.length:Int),I 0,I x0,I x1,I x2,I x3,I x4,I x5,I x6,I x7,I x8, .view Aa x9,I x10,I x11,I x12,I x13,I x14,I x15,I x16,I x17,I x18, .view Aa x19,I x20,I x21,I x22,I x23,I x24,I x25,I x26,I x27,I x28, .view Aa x29]).bind fun o9=>
 bif o9.1.beq 1 then
 (N8 [.view kPt (wA o9.2 0),I (↑(wA o9.2 0).length:Int),I 0,jA o9.2 1,jA o9.2 2,jA o9.2 3,jA o9.2 4,jA o9.2 5,jA o9.2 6,jA o9.2 7,jA o9.2 8,jA o9.2 9, .view Aa (wA o9.2 10),jA o9.2 11,jA o9.2 12,jA o9.2 13,jA o9.2 14,jA o9.2 15,jA o9.2 16,jA o9.2 17,jA o9.2 18,jA o9.2 19, .view Aa (wA o9.2 20),jA o9.2 21,jA o9.2 22,jA o9.2 23,jA o9.2 24,jA o9.2 25,jA o9.2 26,jA o9.2 27,jA o9.2 28,jA o9.2 29, .view Aa (wA o9.2 30)]).bind fun o10=>
 bif o10.1.beq 1 then
 some [B (bA o10.2 0)]
 else
 bif o10.1.beq 2 then
 some [B true]
 else
 none
 else
 none:=by kernel_rfl
def W_:=An (Qm HD)
def Q38:=An (RP HD W_)
def Pj:=WG HD W_ Q38
theorem Qny:Ai PG (Qb3 HD):=Ao rfl ⟨Zlr,trivial⟩
theorem Zrw:Al PG (90,Ac UR YL Pj):=rw2 (C:=(Q4y HD W_ Q38)) (fl (fl fb Qny) Qny) Qny
def Yj:Sk:=⟨[tf [CS.sl Ak]],[],[]⟩
def VK:Sk:=⟨[TS.tup [(true,[ci,ci,ci,CS.sl Ah,CS.sl kPt]),(false,[ci])]],[],[]⟩
def Zj8 (M:Fn):Nat×Spec:=(89,Ac Yj VK M)
def Qbn (DR:Fn):Cfg:=cp [Q26 DR] [80]
def Qoz (DR:Fn):Fn:=Am PG (Qbn DR) 64 89 Yj VK
theorem Zm2 (DR:Fn) (x0:Rw):Qoz DR [.view Ak x0]=
 (DR [.view Ak x0]).bind fun o1=>
 bif gA o1 2 !=0 then
 some [I 0,I 0,I 0, .view Ah [], .view kPt [],jA o1 2]
 else
 some [jA o1 3,jA o1 4,jA o1 5, .view Ah (wA o1 0), .view kPt (wA o1 1),I 0]:=by kernel_rfl
def No:=Qoz IT
theorem Q9m:Ai PG (Qbn IT):=Ao rfl ⟨Qqm,trivial⟩
theorem Zad:Al PG (89,Ac Yj VK No):=rw1 (C:=(Qbn IT)) Q9m
def Qin:Sk:=⟨[tf [CS.ptr 20000 0],tf [CS.sl Ak],tf [CS.bool]],[(20000,119,cS)],[]⟩
def ZV:Sk:=⟨[tf [ci]],[(20000,119,cS)],[]⟩
def Zuy (M:Fn):Nat×Spec:=(57,Ac Qin ZV M)
def Ut (Mn F1 Oj NW:Fn):Cfg:={cf [Z0e Mn,Qsd F1,Zp7 Oj,Zj8 NW]with fstore:=true}
def TJ (Mn F1 Oj NW:Fn):Fn:=Am PG (Ut Mn F1 Oj NW) 64 57 Qin ZV
theorem Zdg (Mn F1 Oj NW:Fn) (x0:Rw) (x1:Bool) (K:Kf) (c:Cv):TJ Mn F1 Oj NW (.view Ak x0::B x1::Ad K c)=
 (NW [.view Ak x0]).bind fun o4=>
 bif gA o4 5 !=0 then
 some (jA o4 5::Ad K c)
 else
 (Oj (AI K.x++[jA o4 0,jA o4 1,jA o4 2, .view Ah (wA o4 3), .view kPt (wA o4 4)])).bind fun o5=>
 bif !bA o5 0 then
 some (I 17::Ad K c)
 else
 bif(x0.length*176).ble 140737488355328 then
 (F1 [jA o4 0,jA o4 1,jA o4 2, .view Ah (wA o4 3), .view kPt (wA o4 4)]).bind fun o6=>
 (Mn [.view Ak x0]).bind fun o7=>
 some (I 0::DW (Ad K c) [(35, .view Ak x0),(36,B x1),(37,jA o4 0),(38,jA o4 1),(39,jA o4 2),(40, .view Ah (wA o4 3)),(41, .view kPt (wA o4 4)),(42,jA o6 0),(43,jA o7 0)])
 else
 none:=by kernel_rfl
def Tm:=TJ Oy IM Pj No
theorem Z3n:Ai PG (Ut Oy IM Pj No):=Ao rfl ⟨Zdi,Q16,Zrw,Zad,trivial⟩
theorem Zmu:Al PG (57,Ac Qin ZV Tm):=rw1 (C:=(Ut Oy IM Pj No)) Z3n
def Yq:Sk:=⟨[],[],[]⟩
def VM:Sk:=⟨[TS.v true [ci,ci,CS.bool,CS.bool,CS.bool]],[],[]⟩
def Zsv (M:Fn):Nat×Spec:=(55,Ac Yq VM M)
def VE:Cfg:=cf []
def Qgq:Fn:=Am PG VE 64 55 Yq VM
theorem Z2a:Qgq []=
 some [I 100,I 100,B false,B false,B false]:=by kernel_rfl
def OX:=Qgq
theorem Zcf:Ai PG (VE):=Ao rfl trivial
theorem Zir:Al PG (55,Ac Yq VM OX):=rw1 (C:=VE) Zcf
def Qm2:Sk:=⟨[TS.v true [ci,ci,ci,ci,ci,ci,ci,ci,ci,CS.sl Aa,ci,ci,ci,ci,ci,ci,ci,ci,ci,CS.sl Aa,ci,ci,ci,ci,ci,ci,ci,ci,ci,CS.sl Aa,ci,ci,ci,ci,ci]],[],[]⟩
def Qi1:Sk:=⟨[TS.v true [ci,ci,ci,ci,ci,ci,ci,ci,ci,CS.sl Aa,ci,ci,ci,ci,ci,ci,ci,ci,ci,CS.sl Aa,ci,ci,ci,ci,ci,ci,ci,ci,ci,CS.sl Aa,ci,ci,ci,ci,ci]],[],[]⟩
def Zk5 (M:Fn):Nat×Spec:=(54,Ac Qm2 Qi1 M)
def Qgp:Cfg:={cf []with fstore:=true,unroll:=[2]}
def Qmx:Fn:=Am PG Qgp 64 54 Qm2 Qi1
theorem Z3k (x0 x1 x2 x3 x4 x5 x6 x7 x8:Int) (x9:Rw) (x10 x11 x12 x13 x14 x15 x16 x17 x18:Int) (x19:Rw) (x20 x21 x22 x23 x24 x25 x26 x27 x28:Int) (x29:Rw) (x30 x31 x32 x33 x34:Int):Qmx [I x0,I x1,I x2,I x3,I x4,I x5,I x6,I x7,I x8, .view Aa x9,I x10,I x11,I x12,I x13,I x14,I x15,I x16,I x17,I x18, .view Aa x19,I x20,I x21,I x22,I x23,I x24,I x25,I x26,I x27,I x28, .view Aa x29,I x30,I x31,I x32,I x33,I x34]=
 bif(x9.length*8).ble 140737488355328 then
 bif(x19.length*8).ble 140737488355328 then
 bif(x29.length*8).ble 140737488355328 then
 some [I x0,I x1,I x2,I x3,I x4,I x5,I x6,I x7,I x8, .view Aa x9,I x10,I x11,I x12,I x13,I x14,I x15,I x16,I x17,I x18, .view Aa x19,I x20,I x21,I x22,I x23,I x24,I x25,I x26,I x27,I x28, .view Aa x29,I x30,I x31,I x32,I x33,I x34]
 else
 none
 else
 none
 else
 none:=by kernel_rfl
def OD:=Qmx
theorem Zx3:Ai PG (Qgp):=Ao rfl trivial
theorem Zco:Al PG (54,Ac Qm2 Qi1 OD):=rw1 (C:=Qgp) Zx3
def Qlw:Sk:=⟨[TS.v true [ci,ci,ci,ci,ci,ci,ci,ci,ci,CS.sl Aa]],[],[]⟩
def Qd5:Sk:=⟨[tf [CS.bool]],[],[]⟩
def Zuu (M:Fn):Nat×Spec:=(141,Ac Qlw Qd5 M)
def Qhb (BH:Fn):Cfg:=cf [Vw BH]
def Qys:Sk:=⟨[td,tf [CS.ptr 1 0],td,td,td,td,td,td,td,td,td,td,td,td,td,td,td,td,td,td,td,td,td,td,td,td,tf [CS.sl Aa],tf [ci],tf [ci]]++dd 29,[(1,26,[ci,ci,ci,ci,ci,ci,ci,ci,ci,CS.sl Aa])],[]⟩
def Qwq:List (Ex×Sk):=[(Ex.ret,⟨[td,td,tf [CS.bool]]++dd 55,[],[]⟩),(Ex.exit 0,⟨[td]++dd 57,[],[]⟩)]
def Qlr (BH:Fn):Lp:=AN PG (Qhb BH) 64 6 (AO PG 141 6) Qys Qwq
def Qyu (BH:Fn) (N6:Lp):Cfg:=(Qhb BH).loop 6 Qys Qwq N6
def Qf4 (BH:Fn) (N6:Lp):Fn:=Am PG (Qyu BH N6) 64 141 Qlw Qd5
theorem Zac (BH:Fn) (v0:Rw) (v1 v2 v3 v4 v5 v6 v7 v8 v9 v10 v11:Int) (v12:Rw):Qlr BH [.view Aa v0,I v1,I v2,I v3,I v4,I v5,I v6,I v7,I v8,I v9,I v10,I v11, .view Aa v12]=
 bif decide (v2<v1)then
 bif decide (0<=v2)&&decide (v2<(v0.length:Int))then
 (BH [jA (nth [] v0 v2.toNat) 0,I (-4096),I 4096]).bind fun o7=>
 bif !bA o7 0 then
 some (1,[B false])
 else
 bif decide (v2>0)then
 bif decide (0<=IntKind.i64.wrap (v2-1))&&decide (IntKind.i64.wrap (v2-1)<(v12.length:Int))then
 (BH [I (IntKind.i64.wrap (gA (nth [] v0 v2.toNat) 0-gA (nth [] v12 (IntKind.i64.wrap (v2-1)).toNat) 0)),I (IntKind.i64.wrap (0-IntKind.i64.wrap (v11.tdiv 4))),I (IntKind.i64.wrap (v11.tdiv 4))]).bind fun o8=>
 bif !bA o8 0 then
 some (1,[B false])
 else
 some (0,[.view Aa v0,I v1,I (IntKind.i64.wrap (v2+1)),I v3,I v4,I v5,I v6,I v7,I v8,I v9,I v10,I v11, .view Aa v12])
 else
 none
 else
 some (0,[.view Aa v0,I v1,I (IntKind.i64.wrap (v2+1)),I v3,I v4,I v5,I v6,I v7,I v8,I v9,I v10,I v11, .view Aa v12])
 else
 none
 else
 some (2,[]):=by kernel_rfl
theorem Zxv (BH:Fn) (N6:Lp) (x0 x1 x2 x3 x4 x5 x6 x7 x8:Int) (x9:Rw):Qf4 BH N6 [I x0,I x1,I x2,I x3,I x4,I x5,I x6,I x7,I x8, .view Aa x9]=
 bif(x9.length:Int)==0 then
 some [B true]
 else
 bif decide ((x9.length:Int)>64)then
 some [B false]
 else
 (BH [I x7,I (-16777216),I 16777216]).bind fun o9=>
 bif !bA o9 0 then
 some [B false]
 else
 (BH [I x8,I 4,I 16777216]).bind fun o10=>
 bif !bA o10 0 then
 some [B false]
 else
 (N6 [.view Aa x9,I (x9.length:Int),I 0,I x0,I x1,I x2,I x3,I x4,I x5,I x6,I x7,I x8, .view Aa x9]).bind fun o11=>
 bif o11.1.beq 1 then
 some [B (bA o11.2 0)]
 else
 bif o11.1.beq 2 then
 some [B true]
 else
 none:=by kernel_rfl
def Qyo:=An (Qlr GF)
def Py:=Qf4 GF Qyo
theorem Qzb:Ai PG (Qhb GF):=Ao rfl ⟨YA,trivial⟩
theorem Z3f:Al PG (141,Ac Qlw Qd5 Py):=rw2 (C:=(Qyu GF Qyo)) (fl fb Qzb) Qzb
def Qfp:Sk:=⟨[TS.v true [ci,ci,ci,ci,ci,ci,ci,ci,ci,CS.sl Aa]],[],[]⟩
def Zu:Sk:=⟨[tf [CS.bool]],[],[]⟩
def Zao (M:Fn):Nat×Spec:=(86,Ac Qfp Zu M)
def Qda (Mu BH:Fn):Cfg:=cf [Zuu Mu,Vw BH]
def Xn (Mu BH:Fn):Fn:=Am PG (Qda Mu BH) 64 86 Qfp Zu
theorem Zg8 (Mu BH:Fn) (x0 x1 x2 x3 x4 x5 x6 x7 x8:Int) (x9:Rw):Xn Mu BH [I x0,I x1,I x2,I x3,I x4,I x5,I x6,I x7,I x8, .view Aa x9]=
 (BH [I x0,I 4,I 4096]).bind fun o6=>
 bif bA o6 0 then
 (BH [I x1,I 1,I 1048576]).bind fun o7=>
 bif bA o7 0 then
 (BH [I x2,I 2,I 1048576]).bind fun o8=>
 bif bA o8 0 then
 (BH [I x3,I 4,I 1048576]).bind fun o9=>
 bif decide (x4>= -16777216)then
 bif decide (x5<=16777216)then
 bif bA o9 0 then
 bif decide (x4<=x5)then
 (BH [I x6,I 0,I 64]).bind fun o10=>
 bif bA o10 0 then
 (Mu [I x0,I x1,I x2,I x3,I x4,I x5,I x6,I x7,I x8, .view Aa x9]).bind fun o11=>
 some [B (bA o11 0)]
 else
 some [B false]
 else
 some [B false]
 else
 some [B false]
 else
 bif bA o9 0 then
 some [B false]
 else
 some [B false]
 else
 bif bA o9 0 then
 some [B false]
 else
 some [B false]
 else
 bif decide (x4>= -16777216)then
 bif decide (x5<=16777216)then
 some [B false]
 else
 some [B false]
 else
 some [B false]
 else
 bif decide (x4>= -16777216)then
 bif decide (x5<=16777216)then
 some [B false]
 else
 some [B false]
 else
 some [B false]
 else
 bif decide (x4>= -16777216)then
 bif decide (x5<=16777216)then
 some [B false]
 else
 some [B false]
 else
 some [B false]:=by kernel_rfl
def O4:=Xn Py GF
theorem Z2d:Ai PG (Qda Py GF):=Ao rfl ⟨Z3f,YA,trivial⟩
theorem Zn0:Al PG (86,Ac Qfp Zu O4):=rw1 (C:=(Qda Py GF)) Z2d
def T_:Sk:=⟨[TS.v true [ci,ci,ci,ci,ci,ci,ci,ci,ci,CS.sl Aa,ci,ci,ci,ci,ci,ci,ci,ci,ci,CS.sl Aa,ci,ci,ci,ci,ci,ci,ci,ci,ci,CS.sl Aa,ci,ci,ci,ci,ci]],[],[]⟩
def Qn1:Sk:=⟨[tf [CS.bool]],[],[]⟩
def Zxm (M:Fn):Nat×Spec:=(53,Ac T_ Qn1 M)
def XC (De BN JC:Fn):Cfg:={cf [Za De,Qal BN,Zao JC]with unroll:=[2]}
def Qe2 (De BN JC:Fn):Fn:=Am PG (XC De BN JC) 64 53 T_ Qn1
theorem Zso (De BN JC:Fn) (x0 x1 x2 x3 x4 x5 x6 x7 x8:Int) (x9:Rw) (x10 x11 x12 x13 x14 x15 x16 x17 x18:Int) (x19:Rw) (x20 x21 x22 x23 x24 x25 x26 x27 x28:Int) (x29:Rw) (x30 x31 x32 x33 x34:Int):Qe2 De BN JC [I x0,I x1,I x2,I x3,I x4,I x5,I x6,I x7,I x8, .view Aa x9,I x10,I x11,I x12,I x13,I x14,I x15,I x16,I x17,I x18, .view Aa x19,I x20,I x21,I x22,I x23,I x24,I x25,I x26,I x27,I x28, .view Aa x29,I x30,I x31,I x32,I x33,I x34]=
 (JC [I x0,I x1,I x2,I x3,I x4,I x5,I x6,I x7,I x8, .view Aa x9]).bind fun o5=>
 bif !bA o5 0 then
 some [B false]
 else
 (JC [I x10,I x11,I x12,I x13,I x14,I x15,I x16,I x17,I x18, .view Aa x19]).bind fun o6=>
 bif !bA o6 0 then
 some [B false]
 else
 (JC [I x20,I x21,I x22,I x23,I x24,I x25,I x26,I x27,I x28, .view Aa x29]).bind fun o7=>
 bif !bA o7 0 then
 some [B false]
 else
 (BN [I x30,I x31,I x32]).bind fun o8=>
 bif bA o8 0 then
 bif decide (x33>=1)then
 (De [I 30000]).bind fun o9=>
 bif decide (x33<=gA o9 0)then
 bif decide (x34>=0)then
 some [B (decide (x34<=1048576))]
 else
 some [B false]
 else
 some [B false]
 else
 some [B false]
 else
 some [B false]:=by kernel_rfl
def O8:=Qe2 E4 E2 O4
theorem Zhb:Ai PG (XC E4 E2 O4):=Ao rfl ⟨U0,Qmj,Zn0,trivial⟩
theorem Zr1:Al PG (53,Ac T_ Qn1 O8):=rw1 (C:=(XC E4 E2 O4)) Zhb
def Qb9:Sk:=⟨[TS.v true [ci,ci,ci,ci,ci,ci,ci,ci,ci,CS.sl Aa,ci,ci,ci,ci,ci,ci,ci,ci,ci,CS.sl Aa,ci,ci,ci,ci,ci,ci,ci,ci,ci,CS.sl Aa,ci,ci,ci,ci,ci],tf [CS.sl Ak],tf [CS.bool]],[],[]⟩
def Qjt:Sk:=⟨[TS.tup [(false,[CS.ptr 19 0]),(false,[ci])]],[(19,119,cS)],[]⟩
def Qtq (M:Fn):Nat×Spec:=(20,Ac Qb9 Qjt M)
def Qj6 (Ey Id Mq Ga Nj N0 Ov:Fn):Cfg:={cp [XR Ey,Qwv Id,Zuy Mq,Qzg Ga,Zsv Nj,Zk5 N0,Zxm Ov] [57]with fstore:=true}
def RO (Ey Id Mq Ga Nj N0 Ov:Fn):Fn:=Am PG (Qj6 Ey Id Mq Ga Nj N0 Ov) 64 20 Qb9 Qjt
theorem Zju (Ey Id Mq Ga Nj N0 Ov:Fn) (x0 x1 x2 x3 x4 x5 x6 x7 x8:Int) (x9:Rw) (x10 x11 x12 x13 x14 x15 x16 x17 x18:Int) (x19:Rw) (x20 x21 x22 x23 x24 x25 x26 x27 x28:Int) (x29:Rw) (x30 x31 x32 x33 x34:Int) (x35:Rw) (x36:Bool):RO Ey Id Mq Ga Nj N0 Ov [I x0,I x1,I x2,I x3,I x4,I x5,I x6,I x7,I x8, .view Aa x9,I x10,I x11,I x12,I x13,I x14,I x15,I x16,I x17,I x18, .view Aa x19,I x20,I x21,I x22,I x23,I x24,I x25,I x26,I x27,I x28, .view Aa x29,I x30,I x31,I x32,I x33,I x34, .view Ak x35,B x36]=
 (Ov [I x0,I x1,I x2,I x3,I x4,I x5,I x6,I x7,I x8, .view Aa x9,I x10,I x11,I x12,I x13,I x14,I x15,I x16,I x17,I x18, .view Aa x19,I x20,I x21,I x22,I x23,I x24,I x25,I x26,I x27,I x28, .view Aa x29,I x30,I x31,I x32,I x33,I x34]).bind fun o7=>
 bif !bA o7 0 then
 none
 else
 (N0 [I x0,I x1,I x2,I x3,I x4,I x5,I x6,I x7,I x8, .view Aa x9,I x10,I x11,I x12,I x13,I x14,I x15,I x16,I x17,I x18, .view Aa x19,I x20,I x21,I x22,I x23,I x24,I x25,I x26,I x27,I x28, .view Aa x29,I x30,I x31,I x32,I x33,I x34]).bind fun o8=>
 (Nj []).bind fun o9=>
 (Ga []).bind fun o10=>
 (Mq [.view Ak x35,B x36,jA o8 0,jA o8 1,jA o8 2,jA o8 3,jA o8 4,jA o8 5,jA o8 6,jA o8 7,jA o8 8, .view Aa (wA o8 9),jA o8 10,jA o8 11,jA o8 12,jA o8 13,jA o8 14,jA o8 15,jA o8 16,jA o8 17,jA o8 18, .view Aa (wA o8 19),jA o8 20,jA o8 21,jA o8 22,jA o8 23,jA o8 24,jA o8 25,jA o8 26,jA o8 27,jA o8 28, .view Aa (wA o8 29),jA o8 30,jA o8 31,jA o8 32,jA o8 33,jA o8 34, .view Ak [],B false,I 0,I 0,I 0, .view Ah [], .view kPt [],I 0,I 0, .view As [],I 0,I 0,I 0,I 0,I 0,I 0,I 0,I 0,I 0,I 0,I 0,jA o9 0,jA o9 1,B (bA o9 2),B (bA o9 3),B (bA o9 4),jA o10 0,jA o10 1,jA o10 2,I 1,I 0,I 0,I 0,I 0,I 0,I 0,I 0,I 0,B false,I 0,B false,I 0,B false,I 0,I (-1),I 0,I 0,I 0,I 0,I 0,I 0,I 0,B false,B false,B false]).bind fun o11=>
 bif gA o11 0 !=0 then
 none
 else
 (Id [jA o11 38,jA o11 39,jA o11 40, .view Ah (wA o11 41), .view kPt (wA o11 42),jA o11 1,jA o11 2,jA o11 3,jA o11 4,jA o11 5,jA o11 6,jA o11 7,jA o11 8,jA o11 9, .view Aa (wA o11 10),jA o11 11,jA o11 12,jA o11 13,jA o11 14,jA o11 15,jA o11 16,jA o11 17,jA o11 18,jA o11 19, .view Aa (wA o11 20),jA o11 21,jA o11 22,jA o11 23,jA o11 24,jA o11 25,jA o11 26,jA o11 27,jA o11 28,jA o11 29, .view Aa (wA o11 30),I 1,I 1,I 1,I 0,jA o11 43]).bind fun o12=>
 (Ey [I 0]).bind fun o13=>
 some (I 0::DW (cR 1 o11) [(44, .view As (wA o12 0)),(45,jA o12 1),(46,jA o12 2),(47,jA o12 3),(48,jA o12 4),(49,jA o12 5),(50,jA o13 0),(51,jA o13 1),(52,jA o13 2),(53,jA o13 3),(54,jA o13 4),(55,jA o13 5)]):=by kernel_rfl
def HF:=RO Gk Jw Tm Ka OX OD O8
theorem Z15:Ai PG (Qj6 Gk Jw Tm Ka OX OD O8):=Ao rfl ⟨U5,Qr6,Zmu,Qwj,Zir,Zco,Zr1,trivial⟩
theorem Qr7:Al PG (20,Ac Qb9 Qjt HF):=rw1 (C:=(Qj6 Gk Jw Tm Ka OX OD O8)) Z15
def Qbb:Sk:=⟨[tf [CS.sl kPt]],[],[]⟩
def Qau:Sk:=⟨[tf [CS.sl kPt]],[],[]⟩
def Z37 (M:Fn):Nat×Spec:=(18,Ac Qbb Qau M)
def C_cncmill_Calm_0:Cfg:={cf []with prom:=fun b=>bif Nat.beq b 3 then [(3,69)]else []}
def Q8e:Sk:=⟨[td,td,td,tf [CS.own 3 3],td,td,tf [CS.sl kPt],tf [ci],tf [ci]]++dd 12,[],[(3,69,kPt)]⟩
def Qxz:List (Ex×Sk):=[(Ex.exit 0,⟨[td,td,td,tf [CS.own 3 3]]++dd 17,[],[(3,69,kPt)]⟩)]
def Sb:Lp:=AN PG C_cncmill_Calm_0 64 3 (AO PG 18 3) Q8e Qxz
def Q32 (N3:Lp):Cfg:=C_cncmill_Calm_0.loop 3 Q8e Qxz N3
def UF (N3:Lp):Fn:=Am PG (Q32 N3) 64 18 Qbb Qau
theorem Q9a (v0 v1:Rw) (v2 v3:Int):Sb [.view kPt v0, .view kPt v1,I v2,I v3]=
 bif decide (v3<v2)then
 bif decide (0<=v3)&&decide (v3<(v1.length:Int))then
 bif decide (gA (nth [] v1 v3.toNat) 1<=6)then
 bif((v0++[[jA (nth [] v1 v3.toNat) 0,jA (nth [] v1 v3.toNat) 1,jA (nth [] v1 v3.toNat) 2]]).length*24).ble 140737488355328 then
 some (0,[.view kPt (v0++[[jA (nth [] v1 v3.toNat) 0,jA (nth [] v1 v3.toNat) 1,jA (nth [] v1 v3.toNat) 2]]), .view kPt v1,I v2,I (IntKind.i64.wrap (v3+1))])
 else
 none
 else
 some (0,[.view kPt v0, .view kPt v1,I v2,I (IntKind.i64.wrap (v3+1))])
 else
 none
 else
 some (1,[.view kPt v0]):=by kernel_rfl
theorem Zff (N3:Lp) (x0:Rw):UF N3 [.view kPt x0]=
 (N3 [.view kPt [], .view kPt x0,I (x0.length:Int),I 0]).bind fun o1=>
 bif o1.1.beq 1 then
 some [.view kPt (wA o1.2 0)]
 else
 none:=by kernel_rfl
def Qt7:=An (Sb)
def K1:=UF Qt7
theorem Qp5:Ai PG (C_cncmill_Calm_0):=Ao rfl trivial
theorem Zlu:Al PG (18,Ac Qbb Qau K1):=rw2 (C:=(Q32 Qt7)) (fl fb Qp5) Qp5
def Qb6:Sk:=⟨[tf [CS.ptr 20000 0],tf [ci]],[(20000,103,[CS.sl Aa,ci])],[]⟩
def W6:Sk:=⟨[tf [ci]],[(20000,103,[CS.sl Aa,ci])],[]⟩
def IQ (M:Fn):Nat×Spec:=(48,Ac Qb6 W6 M)
def Vc (CN:Fn):Cfg:=cf [Q0f CN]
def XU (CN:Fn):Fn:=Am PG (Vc CN) 64 48 Qb6 W6
theorem Zkw (CN:Fn) (x0:Int) (x1:Rw) (x2:Int):XU CN [I x0, .view Aa x1,I x2]=
 bif decide (x2>=(x1.length:Int))then
 some [I 0, .view Aa x1,I x2]
 else
 bif decide (0<=x2)&&decide (x2<(x1.length:Int))then
 (CN [jA (nth [] x1 x2.toNat) 0,I x0]).bind fun o1=>
 some [jA o1 0, .view Aa x1,I (IntKind.i64.wrap (x2+1))]
 else
 none:=by kernel_rfl
def BA:=XU G_
theorem Zs5:Ai PG (Vc G_):=Ao rfl ⟨Q0e,trivial⟩
theorem Jd:Al PG (48,Ac Qb6 W6 BA):=rw1 (C:=(Vc G_)) Zs5
def Xq:Sk:=⟨[tf [CS.ptr 20000 0],tf [ci]],[(20000,103,[CS.sl Aa,ci])],[]⟩
def XF:Sk:=⟨[TS.v true [ci,ci,ci]],[(20000,103,[CS.sl Aa,ci])],[]⟩
def Zlv (M:Fn):Nat×Spec:=(52,Ac Xq XF M)
def Zm (Aq:Fn):Cfg:=cp [IQ Aq] [48]
def Qec (Aq:Fn):Fn:=Am PG (Zm Aq) 64 52 Xq XF
abbrev Ps (Aq:Fn) (o9:List AC) (x0:Int) (h1_0:AC):Option (List AC):=
 (Aq [h1_0, .view Aa (wA o9 1),jA o9 2]).bind fun o10=>
 some [I x0,I (Af (nth .dead (nth [] [[I 4],[I 1],[I 2],[I 3],[I 4],[I 5],[I 6],[I 7],[I 4],[I 8],[I 9],[I 11],[I 12],[I 13],[I 10]] (gA o9 0).toNat) 0)),I (IntKind.i64.wrap (gA o10 0-5)), .view Aa (wA o10 1),jA o10 2]
attribute [go_sem] Ps
theorem Zhp (Aq:Fn) (x0:Int) (x1:Rw) (x2:Int):Qec Aq [I x0, .view Aa x1,I x2]=
 (Aq [I 15, .view Aa x1,I x2]).bind fun o9=>
 bif decide (0<=gA o9 0)&&decide (gA o9 0<(↑[[I 4],[I 1],[I 2],[I 3],[I 4],[I 5],[I 6],[I 7],[I 4],[I 8],[I 9],[I 11],[I 12],[I 13],[I 10]].length:Int))then
 bif Af (nth .dead (nth [] [[I 4],[I 1],[I 2],[I 3],[I 4],[I 5],[I 6],[I 7],[I 4],[I 8],[I 9],[I 11],[I 12],[I 13],[I 10]] (gA o9 0).toNat) 0)==1 then
 Ps Aq o9 x0 (I 220)
 else
 bif Af (nth .dead (nth [] [[I 4],[I 1],[I 2],[I 3],[I 4],[I 5],[I 6],[I 7],[I 4],[I 8],[I 9],[I 11],[I 12],[I 13],[I 10]] (gA o9 0).toNat) 0)==2 then
 Ps Aq o9 x0 (I 220)
 else
 bif Af (nth .dead (nth [] [[I 4],[I 1],[I 2],[I 3],[I 4],[I 5],[I 6],[I 7],[I 4],[I 8],[I 9],[I 11],[I 12],[I 13],[I 10]] (gA o9 0).toNat) 0)==5 then
 (Aq [I 3, .view Aa (wA o9 1),jA o9 2]).bind fun o12=>
 some [I x0,I (Af (nth .dead (nth [] [[I 4],[I 1],[I 2],[I 3],[I 4],[I 5],[I 6],[I 7],[I 4],[I 8],[I 9],[I 11],[I 12],[I 13],[I 10]] (gA o9 0).toNat) 0)),jA o12 0, .view Aa (wA o12 1),jA o12 2]
 else
 bif Af (nth .dead (nth [] [[I 4],[I 1],[I 2],[I 3],[I 4],[I 5],[I 6],[I 7],[I 4],[I 8],[I 9],[I 11],[I 12],[I 13],[I 10]] (gA o9 0).toNat) 0)==6 then
 (Aq [I 3, .view Aa (wA o9 1),jA o9 2]).bind fun o13=>
 some [I x0,I (Af (nth .dead (nth [] [[I 4],[I 1],[I 2],[I 3],[I 4],[I 5],[I 6],[I 7],[I 4],[I 8],[I 9],[I 11],[I 12],[I 13],[I 10]] (gA o9 0).toNat) 0)),jA o13 0, .view Aa (wA o13 1),jA o13 2]
 else
 bif Af (nth .dead (nth [] [[I 4],[I 1],[I 2],[I 3],[I 4],[I 5],[I 6],[I 7],[I 4],[I 8],[I 9],[I 11],[I 12],[I 13],[I 10]] (gA o9 0).toNat) 0)==7 then
 Ps Aq o9 x0 (I 300)
 else
 bif Af (nth .dead (nth [] [[I 4],[I 1],[I 2],[I 3],[I 4],[I 5],[I 6],[I 7],[I 4],[I 8],[I 9],[I 11],[I 12],[I 13],[I 10]] (gA o9 0).toNat) 0)==8 then
 (Aq [I 5, .view Aa (wA o9 1),jA o9 2]).bind fun o15=>
 some [I x0,I (Af (nth .dead (nth [] [[I 4],[I 1],[I 2],[I 3],[I 4],[I 5],[I 6],[I 7],[I 4],[I 8],[I 9],[I 11],[I 12],[I 13],[I 10]] (gA o9 0).toNat) 0)),I (IntKind.i64.wrap (gA o15 0-1)), .view Aa (wA o15 1),jA o15 2]
 else
 bif Af (nth .dead (nth [] [[I 4],[I 1],[I 2],[I 3],[I 4],[I 5],[I 6],[I 7],[I 4],[I 8],[I 9],[I 11],[I 12],[I 13],[I 10]] (gA o9 0).toNat) 0)==13 then
 (Aq [I 4, .view Aa (wA o9 1),jA o9 2]).bind fun o16=>
 (Aq [I 60, .view Aa (wA o16 1),jA o16 2]).bind fun o17=>
 some [I x0,I (Af (nth .dead (nth [] [[I 4],[I 1],[I 2],[I 3],[I 4],[I 5],[I 6],[I 7],[I 4],[I 8],[I 9],[I 11],[I 12],[I 13],[I 10]] (gA o9 0).toNat) 0)),I (IntKind.i64.wrap (IntKind.i64.wrap (gA o16 0*1048576)+gA o17 0)), .view Aa (wA o17 1),jA o17 2]
 else
 some [I x0,I (Af (nth .dead (nth [] [[I 4],[I 1],[I 2],[I 3],[I 4],[I 5],[I 6],[I 7],[I 4],[I 8],[I 9],[I 11],[I 12],[I 13],[I 10]] (gA o9 0).toNat) 0)),I 0, .view Aa (wA o9 1),jA o9 2]
 else
 none:=by kernel_rfl
def LD:=Qec BA
theorem Zup:Ai PG (Zm BA):=Ao rfl ⟨Jd,trivial⟩
theorem Q9x:Al PG (52,Ac Xq XF LD):=rw1 (C:=(Zm BA)) Zup
def Qel:Sk:=⟨[tf [CS.ptr 20000 0]],[(20000,103,[CS.sl Aa,ci])],[]⟩
def Qe8:Sk:=⟨[tf [CS.bool]],[(20000,103,[CS.sl Aa,ci])],[]⟩
def Qpd (M:Fn):Nat×Spec:=(49,Ac Qel Qe8 M)
def ZK:Cfg:=cf []
def Qss:Fn:=Am PG ZK 64 49 Qel Qe8
theorem Zr5 (x0:Rw) (x1:Int):Qss [.view Aa x0,I x1]=
 some [B (decide (x1<(x0.length:Int))), .view Aa x0,I x1]:=by kernel_rfl
def FP:=Qss
theorem Zxn:Ai PG (ZK):=Ao rfl trivial
theorem Qwb:Al PG (49,Ac Qel Qe8 FP):=rw1 (C:=ZK) Zxn
def ZH:Sk:=⟨[tf [CS.sl Aa]],[],[]⟩
def Qie:Sk:=⟨[tf [CS.ptr 5 0]],[(5,103,[CS.sl Aa,ci])],[]⟩
def PN (M:Fn):Nat×Spec:=(45,Ac ZH Qie M)
def Qnt:Cfg:=cf []
def Qwe:Fn:=Am PG Qnt 64 45 ZH Qie
theorem Zfj (x0:Rw):Qwe [.view Aa x0]=
 some [.view Aa x0,I 0]:=by kernel_rfl
def Cs:=Qwe
theorem Zne:Ai PG (Qnt):=Ao rfl trivial
theorem PM:Al PG (45,Ac ZH Qie Cs):=rw1 (C:=Qnt) Zne
def Qjg:Sk:=⟨[tf [CS.sl Aa]],[],[]⟩
def Qhy:Sk:=⟨[tf [CS.sl kPt]],[],[]⟩
def Zwo (M:Fn):Nat×Spec:=(19,Ac Qjg Qhy M)
def Qh7 (GL Aq CO A4:Fn):Cfg:={cp [Zlv GL,IQ Aq,Qpd CO,PN A4] [52,48,49,45]with prom:=fun b=>bif Nat.beq b 4 then [(4,69)]else []}
def Q0a:Sk:=⟨[td,td,td,tf [CS.ptr 100700 0],tf [CS.own 4 3],tf [ci]]++dd 15,[(100700,103,[CS.sl Aa,ci])],[(4,69,kPt)]⟩
def Q6u:List (Ex×Sk):=[(Ex.exit 0,⟨[td,td,td,td,tf [CS.own 4 3]]++dd 16,[],[(4,69,kPt)]⟩)]
def Zc (GL Aq CO A4:Fn):Lp:=AN PG (Qh7 GL Aq CO A4) 64 4 (AO PG 19 4) Q0a Q6u
def Q6c (GL Aq CO A4:Fn) (N4:Lp):Cfg:=(Qh7 GL Aq CO A4).loop 4 Q0a Q6u N4
def Qdc (GL Aq CO A4:Fn) (N4:Lp):Fn:=Am PG (Q6c GL Aq CO A4 N4) 64 19 Qjg Qhy
theorem Zwv (GL Aq CO A4:Fn) (v0:Rw) (v1:Int) (v2:Rw) (v3:Int):Zc GL Aq CO A4 [.view kPt v0,I v1, .view Aa v2,I v3]=
 (CO [.view Aa v2,I v3]).bind fun o10=>
 bif bA o10 0 then
 (Aq [I 40, .view Aa (wA o10 1),jA o10 2]).bind fun o11=>
 (GL [I (IntKind.i64.wrap (v1+gA o11 0)), .view Aa (wA o11 1),jA o11 2]).bind fun o12=>
 bif((v0++[[jA o12 0,jA o12 1,jA o12 2]]).length*24).ble 140737488355328 then
 some (0,[.view kPt (v0++[[jA o12 0,jA o12 1,jA o12 2]]),I (IntKind.i64.wrap (v1+gA o11 0)), .view Aa (wA o12 3),jA o12 4])
 else
 none
 else
 some (1,[.view kPt v0]):=by kernel_rfl
theorem Zoa (GL Aq CO A4:Fn) (N4:Lp) (x0:Rw):Qdc GL Aq CO A4 N4 [.view Aa x0]=
 (A4 [.view Aa x0]).bind fun o13=>
 (N4 [.view kPt [],I 0, .view Aa (wA o13 0),jA o13 1]).bind fun o14=>
 bif o14.1.beq 1 then
 some [.view kPt (wA o14.2 0)]
 else
 none:=by kernel_rfl
def Qpm:=An (Zc LD BA FP Cs)
def KM:=Qdc LD BA FP Cs Qpm
theorem Qyq:Ai PG (Qh7 LD BA FP Cs):=Ao rfl ⟨Q9x,Jd,Qwb,PM,trivial⟩
theorem Zxr:Al PG (19,Ac Qjg Qhy KM):=rw2 (C:=(Q6c LD BA FP Cs Qpm)) (fl fb Qyq) Qyq
def Wu:Sk:=⟨[tf [ci],tf [ci],tf [ci],tf [ci]],[],[]⟩
def Y5:Sk:=⟨[TS.v true [ci,ci,ci]],[],[]⟩
def Zu9 (M:Fn):Nat×Spec:=(139,Ac Wu Y5 M)
def Yd:Cfg:=cf []
def Qy4:Fn:=Am PG Yd 64 139 Wu Y5
theorem Zhg (x0 x1 x2 x3:Int):Qy4 [I x0,I x1,I x2,I x3]=
 bif x3==17 then
 some [I x0,I x1,I x2]
 else
 bif x3==18 then
 some [I x1,I x2,I x0]
 else
 bif x3==19 then
 some [I x2,I x0,I x1]
 else
 some [I 0,I 0,I 0]:=by kernel_rfl
def M9:=Qy4
theorem Zu4:Ai PG (Yd):=Ao rfl trivial
theorem Zly:Al PG (139,Ac Wu Y5 M9):=rw1 (C:=Yd) Zu4
def V7:Sk:=⟨[tf [ci],tf [ci]],[],[]⟩
def UC:Sk:=⟨[TS.tup [(false,[ci]),(false,[ci])]],[],[]⟩
def Zta (M:Fn):Nat×Spec:=(138,Ac V7 UC M)
def WA:Cfg:=cf []
def Qsx:Fn:=Am PG WA 64 138 V7 UC
theorem Znu (x0 x1:Int):Qsx [I x0,I x1]=
 bif decide (0<=x1.tmod 4)&&decide (x1.tmod 4<(↑[[I x0],[I 0],[I (IntKind.i64.wrap (0-x0))],[I 0]].length:Int))then
 bif decide (0<=x1.tmod 4)&&decide (x1.tmod 4<(↑[[I 0],[I x0],[I 0],[I (IntKind.i64.wrap (0-x0))]].length:Int))then
 some [I (Af (nth .dead (nth [] [[I x0],[I 0],[I (IntKind.i64.wrap (0-x0))],[I 0]] (x1.tmod 4).toNat) 0)),I (Af (nth .dead (nth [] [[I 0],[I x0],[I 0],[I (IntKind.i64.wrap (0-x0))]] (x1.tmod 4).toNat) 0))]
 else
 none
 else
 none:=by kernel_rfl
def Mv:=Qsx
theorem Z0k:Ai PG (WA):=Ao rfl trivial
theorem Q98:Al PG (138,Ac V7 UC Mv):=rw1 (C:=WA) Z0k
def Yu:Sk:=⟨[TS.v true [ci,ci,ci],tf [ci]],[],[]⟩
def TZ:Sk:=⟨[TS.tup [(false,[ci]),(false,[ci]),(false,[ci])]],[],[]⟩
def Zs6 (M:Fn):Nat×Spec:=(137,Ac Yu TZ M)
def Qao:Cfg:=cf []
def Q7s:Fn:=Am PG Qao 64 137 Yu TZ
theorem Zst (x0 x1 x2 x3:Int):Q7s [I x0,I x1,I x2,I x3]=
 bif x3==17 then
 some [I x0,I x1,I x2]
 else
 bif x3==18 then
 some [I x2,I x0,I x1]
 else
 bif x3==19 then
 some [I x1,I x2,I x0]
 else
 some [I 0,I 0,I 0]:=by kernel_rfl
def Ot:=Q7s
theorem Zyg:Ai PG (Qao):=Ao rfl trivial
theorem Zsr:Al PG (137,Ac Yu TZ Ot):=rw1 (C:=Qao) Zyg
def Qee:Sk:=⟨[tf [CS.ptr 20000 0],TS.v true [ci,ci,ci],tf [ci]],[(20000,103,[CS.sl Aa,ci])],[]⟩
def YQ:Sk:=⟨[TS.v true [ci,ci,ci,ci,ci,ci,ci,ci,ci,ci,ci,ci,ci,CS.bool,ci,CS.bool,ci,ci,ci,ci,ci,CS.bool]],[(20000,103,[CS.sl Aa,ci])],[]⟩
def Z34 (M:Fn):Nat×Spec:=(85,Ac Qee YQ M)
def Qan (Hf LA NZ Aq:Fn):Cfg:=cp [Zu9 Hf,Zta LA,Zs6 NZ,IQ Aq] [48]
def Qk6 (Hf LA NZ Aq:Fn):Fn:=Am PG (Qan Hf LA NZ Aq) 64 85 Qee YQ
abbrev Td (Aq Hf:Fn) (o23 o18:List AC) (x0 x1 x2:Int) (o26 o19 o22:List AC) (h1_0 h1_1 h1_2 h1_3:AC):Option (List AC):=
 (Aq [I 4,h1_0,h1_1]).bind fun o30=>
 bif decide (0<=gA o30 0)&&decide (gA o30 0<(↑[[I 0],[I 0],[I 7],[I (-12)]].length:Int))then
 (Hf [h1_2,h1_3,I (IntKind.i64.wrap (gA o23 2+Af (nth .dead (nth [] [[I 0],[I 0],[I 7],[I (-12)]] (gA o30 0).toNat) 0))),I (Af (nth .dead (nth [] [[I 17],[I 18],[I 19]] (gA o18 0).toNat) 0))]).bind fun o31=>
 some [I 3,I 0,I x0,I x1,I x2,jA o31 0,jA o31 1,jA o31 2,I (Af (nth .dead (nth [] [[I 17],[I 18],[I 19]] (gA o18 0).toNat) 0)),jA o26 0,jA o26 1,jA o26 2,I (IntKind.i64.wrap (1-IntKind.i64.wrap (gA o19 0*2))),B (gA o22 0==0),I 0,B false,I 0,I 0,I 0,I 0,I 0,B false, .view Aa (wA o30 1),jA o30 2]
 else
 none
attribute [go_sem] Td
theorem Zy9 (Hf LA NZ Aq:Fn) (x0 x1 x2 x3:Int) (x4:Rw) (x5:Int):Qk6 Hf LA NZ Aq [I x0,I x1,I x2,I x3, .view Aa x4,I x5]=
 (Aq [I 3, .view Aa x4,I x5]).bind fun o18=>
 bif decide (0<=gA o18 0)&&decide (gA o18 0<(↑[[I 17],[I 18],[I 19]].length:Int))then
 (Aq [I 2, .view Aa (wA o18 1),jA o18 2]).bind fun o19=>
 (Aq [I x3, .view Aa (wA o19 1),jA o19 2]).bind fun o20=>
 (Aq [I 4, .view Aa (wA o20 1),jA o20 2]).bind fun o21=>
 (Aq [I 4, .view Aa (wA o21 1),jA o21 2]).bind fun o22=>
 (NZ [I x0,I x1,I x2,I (Af (nth .dead (nth [] [[I 17],[I 18],[I 19]] (gA o18 0).toNat) 0))]).bind fun o23=>
 (LA [I (IntKind.i64.wrap (8+gA o20 0)),jA o21 0]).bind fun o24=>
 (LA [I (IntKind.i64.wrap (8+gA o20 0)),I (IntKind.i64.wrap (gA o21 0+gA o22 0))]).bind fun o25=>
 (Hf [I (IntKind.i64.wrap (gA o23 0-gA o24 0)),I (IntKind.i64.wrap (gA o23 1-gA o24 1)),jA o23 2,I (Af (nth .dead (nth [] [[I 17],[I 18],[I 19]] (gA o18 0).toNat) 0))]).bind fun o26=>
 bif decide (gA o22 0>0)then
 (Aq [I 3, .view Aa (wA o22 1),jA o22 2]).bind fun o27=>
 bif gA o27 0==0 then
 bif decide (IntKind.i64.wrap (8+gA o20 0)=0)then
 none
 else
 (Aq [I 5, .view Aa (wA o27 1),jA o27 2]).bind fun o28=>
 bif decide (IntKind.i64.wrap (8+gA o20 0)=0)then
 none
 else
 (Aq [I 5, .view Aa (wA o28 1),jA o28 2]).bind fun o29=>
 Td Aq Hf o23 o18 x0 x1 x2 o26 o19 o22 (.view Aa (wA o29 1)) (jA o29 2) (I (IntKind.i64.wrap (IntKind.i64.wrap (gA o23 0-gA o24 0)+IntKind.i64.wrap (gA o25 0+IntKind.i64.wrap (IntKind.i64.wrap ((gA o25 0).tdiv (IntKind.i64.wrap (8+gA o20 0)))*gA o28 0))))) (I (IntKind.i64.wrap (IntKind.i64.wrap (gA o23 1-gA o24 1)+IntKind.i64.wrap (gA o25 1+IntKind.i64.wrap (IntKind.i64.wrap ((gA o25 1).tdiv (IntKind.i64.wrap (8+gA o20 0)))*gA o29 0)))))
 else
 Td Aq Hf o23 o18 x0 x1 x2 o26 o19 o22 (.view Aa (wA o27 1)) (jA o27 2) (I (IntKind.i64.wrap (IntKind.i64.wrap (gA o23 0-gA o24 0)+gA o25 0))) (I (IntKind.i64.wrap (IntKind.i64.wrap (gA o23 1-gA o24 1)+gA o25 1)))
 else
 Td Aq Hf o23 o18 x0 x1 x2 o26 o19 o22 (.view Aa (wA o22 1)) (jA o22 2) (I (IntKind.i64.wrap (IntKind.i64.wrap (gA o23 0-gA o24 0)+gA o25 0))) (I (IntKind.i64.wrap (IntKind.i64.wrap (gA o23 1-gA o24 1)+gA o25 1)))
 else
 none:=by kernel_rfl
def O0:=Qk6 M9 Mv Ot BA
theorem Zre:Ai PG (Qan M9 Mv Ot BA):=Ao rfl ⟨Zly,Q98,Zsr,Jd,trivial⟩
theorem Zbx:Al PG (85,Ac Qee YQ O0):=rw1 (C:=(Qan M9 Mv Ot BA)) Zre
def Wz:Sk:=⟨[tf [CS.ptr 20000 0],TS.v true [ci,ci,ci],tf [ci]],[(20000,103,[CS.sl Aa,ci])],[]⟩
def Qc5:Sk:=⟨[TS.v true [ci,ci,ci,ci,ci,ci,ci,ci,ci,ci,ci,ci,ci,CS.bool,ci,CS.bool,ci,ci,ci,ci,ci,CS.bool]],[(20000,103,[CS.sl Aa,ci])],[]⟩
def Z3w (M:Fn):Nat×Spec:=(51,Ac Wz Qc5 M)
def Qis (Aq Mp:Fn):Cfg:=cp [IQ Aq,Z34 Mp] [48,85]
def Qix (Aq Mp:Fn):Fn:=Am PG (Qis Aq Mp) 64 51 Wz Qc5
abbrev Qhs (Aq:Fn) (o20:List AC) (x3:Int) (h1_0 h1_1 h1_2 h1_3 h1_4 h1_5 h1_6 h1_7 h1_8 h1_9 h1_10 h1_11 h1_12 h1_13 h1_16 h1_17 h1_20 h1_21:AC):Option (List AC):=
 (Aq [I 60, .view Aa (wA o20 1),jA o20 2]).bind fun o21=>
 bif x3==6 then
 (Aq [I 2, .view Aa (wA o21 1),jA o21 2]).bind fun o22=>
 some [h1_0,h1_1,h1_2,h1_3,h1_4,h1_5,h1_6,h1_7,h1_8,h1_9,h1_10,h1_11,h1_12,h1_13,I (IntKind.i64.wrap (1+gA o21 0)),B true,h1_16,h1_17,I 0,I (IntKind.i64.wrap (3+gA o22 0)),h1_20,h1_21, .view Aa (wA o22 1),jA o22 2]
 else
 some [h1_0,h1_1,h1_2,h1_3,h1_4,h1_5,h1_6,h1_7,h1_8,h1_9,h1_10,h1_11,h1_12,h1_13,I (IntKind.i64.wrap (1+gA o21 0)),B true,h1_16,h1_17,I 0,I 0,h1_20,h1_21, .view Aa (wA o21 1),jA o21 2]
attribute [go_sem] Qhs
abbrev Qjw (x3:Int) (Aq:Fn) (h1_0 h1_1 h1_2 h1_3 h1_4 h1_5 h1_6 h1_7 h1_8 h1_9 h1_10 h1_11 h1_12 h1_13 h1_14 h1_15 h1_16 h1_17 h1_18 h1_19 h1_20 h1_21 h1_22 h1_23:AC):Option (List AC):=
 bif x3==1 then
 some [h1_0,h1_1,h1_2,h1_3,h1_4,h1_5,h1_6,h1_7,h1_8,h1_9,h1_10,h1_11,h1_12,h1_13,h1_14,h1_15,h1_16,h1_17,h1_18,h1_19,h1_20,h1_21,h1_22,h1_23]
 else
 (Aq [I 5,h1_22,h1_23]).bind fun o19=>
 bif decide (0<=gA o19 0)&&decide (gA o19 0<(↑[[I 300000],[I 1],[I 60000],[I 2000000],[I 60000000]].length:Int))then
 (Aq [I 5, .view Aa (wA o19 1),jA o19 2]).bind fun o20=>
 bif decide (0<=gA o20 0)&&decide (gA o20 0<(↑[[I 0],[I 1],[I 2],[I 4],[I 9]].length:Int))then
 bif x3==5 then
 Qhs Aq o20 x3 h1_0 h1_1 h1_2 h1_3 h1_4 h1_5 h1_6 h1_7 h1_8 h1_9 h1_10 h1_11 h1_12 h1_13 h1_16 h1_17 h1_20 h1_21
 else
 bif x3==6 then
 Qhs Aq o20 x3 h1_0 h1_1 h1_2 h1_3 h1_4 h1_5 h1_6 h1_7 h1_8 h1_9 h1_10 h1_11 h1_12 h1_13 h1_16 h1_17 h1_20 h1_21
 else
 bif x3==4 then
 some [h1_0,h1_1,h1_2,h1_3,h1_4,h1_5,h1_6,h1_7,h1_8,h1_9,h1_10,h1_11,h1_12,h1_13,I (Af (nth .dead (nth [] [[I 300000],[I 1],[I 60000],[I 2000000],[I 60000000]] (gA o19 0).toNat) 0)),h1_15,h1_16,h1_17,I 0,h1_19,h1_20,h1_21, .view Aa (wA o20 1),jA o20 2]
 else
 some [h1_0,h1_1,h1_2,h1_3,h1_4,h1_5,h1_6,h1_7,h1_8,h1_9,h1_10,h1_11,h1_12,h1_13,I (Af (nth .dead (nth [] [[I 300000],[I 1],[I 60000],[I 2000000],[I 60000000]] (gA o19 0).toNat) 0)),h1_15,h1_16,h1_17,I (Af (nth .dead (nth [] [[I 0],[I 1],[I 2],[I 4],[I 9]] (gA o20 0).toNat) 0)),h1_19,h1_20,h1_21, .view Aa (wA o20 1),jA o20 2]
 else
 none
 else
 none
attribute [go_sem] Qjw
theorem Zku (Aq Mp:Fn) (x0 x1 x2 x3:Int) (x4:Rw) (x5:Int):Qix Aq Mp [I x0,I x1,I x2,I x3, .view Aa x4,I x5]=
 bif x3==3 then
 (Mp [I x0,I x1,I x2,I 8, .view Aa x4,I x5]).bind fun o18=>
 Qjw x3 Aq (jA o18 0) (jA o18 1) (jA o18 2) (jA o18 3) (jA o18 4) (jA o18 5) (jA o18 6) (jA o18 7) (jA o18 8) (jA o18 9) (jA o18 10) (jA o18 11) (jA o18 12) (B (bA o18 13)) (jA o18 14) (B (bA o18 15)) (jA o18 16) (jA o18 17) (jA o18 18) (jA o18 19) (jA o18 20) (B (bA o18 21)) (.view Aa (wA o18 22)) (jA o18 23)
 else
 (Aq [I 25, .view Aa x4,I x5]).bind fun o25=>
 (Aq [I 25, .view Aa (wA o25 1),jA o25 2]).bind fun o26=>
 (Aq [I 3, .view Aa (wA o26 1),jA o26 2]).bind fun o27=>
 (Aq [I 9, .view Aa (wA o27 1),jA o27 2]).bind fun o28=>
 (Aq [I 2, .view Aa (wA o28 1),jA o28 2]).bind fun o29=>
 Qjw x3 Aq (I x3) (I 0) (I x0) (I x1) (I x2) (I (IntKind.i64.wrap (IntKind.i64.wrap (x0+gA o25 0)-12))) (I (IntKind.i64.wrap (IntKind.i64.wrap (x1+gA o26 0)-12))) (I (IntKind.i64.wrap (IntKind.i64.wrap (x2+IntKind.i64.wrap (gA o27 0*gA o28 0))-IntKind.i64.wrap (8*gA o29 0)))) (I 0) (I 0) (I 0) (I 0) (I 0) (B false) (I 0) (B false) (I 0) (I 0) (I 0) (I 0) (I 0) (B false) (.view Aa (wA o29 1)) (jA o29 2):=by kernel_rfl
def K6:=Qix BA O0
theorem Zh4:Ai PG (Qis BA O0):=Ao rfl ⟨Jd,Zbx,trivial⟩
theorem Zfe:Al PG (51,Ac Wz Qc5 K6):=rw1 (C:=(Qis BA O0)) Zh4
def Ys:Sk:=⟨[tf [CS.ptr 20000 0]],[(20000,103,[CS.sl Aa,ci])],[]⟩
def Wl:Sk:=⟨[TS.v true [ci,ci,ci,ci,ci,ci,ci,ci,ci,ci,ci,ci,ci,CS.bool,ci,CS.bool,ci,ci,ci,ci,ci,CS.bool]],[(20000,103,[CS.sl Aa,ci])],[]⟩
def Zar (M:Fn):Nat×Spec:=(50,Ac Ys Wl M)
def Qfw (Aq:Fn):Cfg:=cp [IQ Aq] [48]
def Qfx (Aq:Fn):Fn:=Am PG (Qfw Aq) 64 50 Ys Wl
abbrev Qn2 (Aq:Fn) (o8:List AC):Option (List AC):=
 (Aq [I 16, .view Aa (wA o8 1),jA o8 2]).bind fun o9=>
 (Aq [I 2, .view Aa (wA o9 1),jA o9 2]).bind fun o10=>
 some [I 10,I 0,I 0,I 0,I 0,I 0,I 0,I 0,I 0,I 0,I 0,I 0,I 0,B false,I 0,B false,I 0,I 0,I 0,jA o9 0,I 0,B (gA o10 0==0), .view Aa (wA o10 1),jA o10 2]
attribute [go_sem] Qn2
theorem Zxd (Aq:Fn) (x0:Rw) (x1:Int):Qfx Aq [.view Aa x0,I x1]=
 (Aq [I 8, .view Aa x0,I x1]).bind fun o8=>
 bif gA o8 0==0 then
 Qn2 Aq o8
 else
 bif gA o8 0==1 then
 Qn2 Aq o8
 else
 bif gA o8 0==2 then
 (Aq [I 5, .view Aa (wA o8 1),jA o8 2]).bind fun o13=>
 some [I 7,I 0,I 0,I 0,I 0,I 0,I 0,I 0,I 0,I 0,I 0,I 0,I 0,B false,I 0,B false,I 0,I 0,I 0,jA o13 0,I 0,B false, .view Aa (wA o13 1),jA o13 2]
 else
 bif gA o8 0==3 then
 (Aq [I 3, .view Aa (wA o8 1),jA o8 2]).bind fun o14=>
 (Aq [I 4000, .view Aa (wA o14 1),jA o14 2]).bind fun o15=>
 some [I 8,I 0,I 0,I 0,I 0,I 0,I 0,I 0,I 0,I 0,I 0,I 0,I 0,B false,I 0,B false,I 0,I 0,I 0,I (IntKind.i64.wrap (3+gA o14 0)),jA o15 0,B false, .view Aa (wA o15 1),jA o15 2]
 else
 bif gA o8 0==4 then
 some [I 9,I 0,I 0,I 0,I 0,I 0,I 0,I 0,I 0,I 0,I 0,I 0,I 0,B false,I 0,B false,I 0,I 0,I 0,I 8,I 0,B true, .view Aa (wA o8 1),jA o8 2]
 else
 bif gA o8 0==5 then
 some [I 13,I 0,I 0,I 0,I 0,I 0,I 0,I 0,I 0,I 0,I 0,I 0,I 0,B false,I 0,B false,I 0,I 0,I 0,I 0,I 0,B false, .view Aa (wA o8 1),jA o8 2]
 else
 bif gA o8 0==6 then
 some [I 12,I 0,I 0,I 0,I 0,I 0,I 0,I 0,I 0,I 0,I 0,I 0,I 0,B false,I 0,B false,I 0,I 0,I 0,I 0,I 0,B false, .view Aa (wA o8 1),jA o8 2]
 else
 some [I 11,I 0,I 0,I 0,I 0,I 0,I 0,I 0,I 0,I 0,I 0,I 0,I 0,B false,I 0,B false,I 0,I 0,I 0,I 1,I 0,B false, .view Aa (wA o8 1),jA o8 2]:=by kernel_rfl
def LW:=Qfx BA
theorem Zdy:Ai PG (Qfw BA):=Ao rfl ⟨Jd,trivial⟩
theorem Zhj:Al PG (50,Ac Ys Wl LW):=rw1 (C:=(Qfw BA)) Zdy
def Qjj:Sk:=⟨[tf [CS.sl Aa],tf [ci],tf [CS.bool]],[],[]⟩
def Zo:Sk:=⟨[tf [CS.sl Ak]],[],[]⟩
def Zme (M:Fn):Nat×Spec:=(16,Ac Qjj Zo M)
def Z3 (GK Gl CO Aq A4:Fn):Cfg:={cp [Z3w GK,Zar Gl,Qpd CO,IQ Aq,PN A4] [51,50,49,48,45]with prom:=fun b=>bif Nat.beq b 4 then [(8,74)]else []}
def Q7n:Sk:=⟨[td,tf [ci],tf [CS.bool],td,td,td,td,tf [CS.ptr 101300 0],tf [CS.own 8 22],tf [CS.ptr 9 0]]++dd 64,[(9,72,[ci,ci,ci]),(101300,103,[CS.sl Aa,ci])],[(8,74,Ak)]⟩
def Q02:List (Ex×Sk):=[(Ex.exit 0,⟨[td,td,tf [CS.bool],td,td,td,td,td,tf [CS.own 8 22]]++dd 65,[],[(8,74,Ak)]⟩)]
def Qmt (GK Gl CO Aq A4:Fn):Lp:=AN PG (Z3 GK Gl CO Aq A4) 64 4 (AO PG 16 4) Q7n Q02
def Q5o (GK Gl CO Aq A4:Fn) (N4:Lp):Cfg:=(Z3 GK Gl CO Aq A4).loop 4 Q7n Q02 N4
def Xa (GK Gl CO Aq A4:Fn) (N4:Lp):Fn:=Am PG (Q5o GK Gl CO Aq A4 N4) 64 16 Qjj Zo
theorem Zyc (GK Gl CO Aq A4:Fn) (v0:Rw) (v1:Int) (v2:Bool) (v3 v4 v5:Int) (v6:Rw) (v7:Int):Qmt GK Gl CO Aq A4 [.view Ak v0,I v1,B v2,I v3,I v4,I v5, .view Aa v6,I v7]=
 bif decide ((v0.length:Int)<v1)then
 (CO [.view Aa v6,I v7]).bind fun o25=>
 bif bA o25 0 then
 (Aq [I 12, .view Aa (wA o25 1),jA o25 2]).bind fun o26=>
 bif decide (gA o26 0<4)then
 (Gl [.view Aa (wA o26 1),jA o26 2]).bind fun o27=>
 bif((v0++[[jA o27 0,jA o27 1,jA o27 2,jA o27 3,jA o27 4,jA o27 5,jA o27 6,jA o27 7,jA o27 8,jA o27 9,jA o27 10,jA o27 11,jA o27 12,B (bA o27 13),jA o27 14,B (bA o27 15),jA o27 16,jA o27 17,jA o27 18,jA o27 19,jA o27 20,B (bA o27 21)]]).length*176).ble 140737488355328 then
 some (0,[.view Ak (v0++[[jA o27 0,jA o27 1,jA o27 2,jA o27 3,jA o27 4,jA o27 5,jA o27 6,jA o27 7,jA o27 8,jA o27 9,jA o27 10,jA o27 11,jA o27 12,B (bA o27 13),jA o27 14,B (bA o27 15),jA o27 16,jA o27 17,jA o27 18,jA o27 19,jA o27 20,B (bA o27 21)]]),I v1,B v2,I v3,I v4,I v5, .view Aa (wA o27 22),jA o27 23])
 else
 none
 else
 bif decide (0<=IntKind.i64.wrap (gA o26 0-4))&&decide (IntKind.i64.wrap (gA o26 0-4)<(↑[[I 2],[I 2],[I 2],[I 3],[I 1],[I 6],[I 5],[I 4]].length:Int))then
 (GK [I v3,I v4,I v5,I (Af (nth .dead (nth [] [[I 2],[I 2],[I 2],[I 3],[I 1],[I 6],[I 5],[I 4]] (IntKind.i64.wrap (gA o26 0-4)).toNat) 0)), .view Aa (wA o26 1),jA o26 2]).bind fun o28=>
 bif gA o28 0==5 then
 (Aq [I 2, .view Aa (wA o28 22),jA o28 23]).bind fun o29=>
 (Aq [I 3000, .view Aa (wA o29 1),jA o29 2]).bind fun o30=>
 bif((v0++[[I 8,I 0,I 0,I 0,I 0,I 0,I 0,I 0,I 0,I 0,I 0,I 0,I 0,B false,I 0,B false,I 0,I 0,I 0,I (IntKind.i64.wrap (3+gA o29 0)),I (IntKind.i64.wrap (200+gA o30 0)),B false]]).length*176).ble 140737488355328 then
 bif((v0++[[I 8,I 0,I 0,I 0,I 0,I 0,I 0,I 0,I 0,I 0,I 0,I 0,I 0,B false,I 0,B false,I 0,I 0,I 0,I (IntKind.i64.wrap (3+gA o29 0)),I (IntKind.i64.wrap (200+gA o30 0)),B false]]++[[jA o28 0,jA o28 1,jA o28 2,jA o28 3,jA o28 4,jA o28 5,jA o28 6,jA o28 7,jA o28 8,jA o28 9,jA o28 10,jA o28 11,jA o28 12,B (bA o28 13),jA o28 14,B (bA o28 15),jA o28 16,jA o28 17,jA o28 18,jA o28 19,jA o28 20,B (bA o28 21)]]).length*176).ble 140737488355328 then
 some (0,[.view Ak (v0++[[I 8,I 0,I 0,I 0,I 0,I 0,I 0,I 0,I 0,I 0,I 0,I 0,I 0,B false,I 0,B false,I 0,I 0,I 0,I (IntKind.i64.wrap (3+gA o29 0)),I (IntKind.i64.wrap (200+gA o30 0)),B false]]++[[jA o28 0,jA o28 1,jA o28 2,jA o28 3,jA o28 4,jA o28 5,jA o28 6,jA o28 7,jA o28 8,jA o28 9,jA o28 10,jA o28 11,jA o28 12,B (bA o28 13),jA o28 14,B (bA o28 15),jA o28 16,jA o28 17,jA o28 18,jA o28 19,jA o28 20,B (bA o28 21)]]),I v1,B v2,jA o28 5,jA o28 6,jA o28 7, .view Aa (wA o30 1),jA o30 2])
 else
 none
 else
 none
 else
 bif((v0++[[jA o28 0,jA o28 1,jA o28 2,jA o28 3,jA o28 4,jA o28 5,jA o28 6,jA o28 7,jA o28 8,jA o28 9,jA o28 10,jA o28 11,jA o28 12,B (bA o28 13),jA o28 14,B (bA o28 15),jA o28 16,jA o28 17,jA o28 18,jA o28 19,jA o28 20,B (bA o28 21)]]).length*176).ble 140737488355328 then
 some (0,[.view Ak (v0++[[jA o28 0,jA o28 1,jA o28 2,jA o28 3,jA o28 4,jA o28 5,jA o28 6,jA o28 7,jA o28 8,jA o28 9,jA o28 10,jA o28 11,jA o28 12,B (bA o28 13),jA o28 14,B (bA o28 15),jA o28 16,jA o28 17,jA o28 18,jA o28 19,jA o28 20,B (bA o28 21)]]),I v1,B v2,jA o28 5,jA o28 6,jA o28 7, .view Aa (wA o28 22),jA o28 23])
 else
 none
 else
 none
 else
 some (1,[.view Ak v0,B v2])
 else
 some (1,[.view Ak v0,B v2]):=by kernel_rfl
theorem Zob (GK Gl CO Aq A4:Fn) (N4:Lp) (x0:Rw) (x1:Int) (x2:Bool):Xa GK Gl CO Aq A4 N4 [.view Aa x0,I x1,B x2]=
 (A4 [.view Aa x0]).bind fun o31=>
 (Aq [I 9, .view Aa (wA o31 0),jA o31 1]).bind fun o32=>
 (Aq [I 9, .view Aa (wA o32 1),jA o32 2]).bind fun o33=>
 (Aq [I 9, .view Aa (wA o33 1),jA o33 2]).bind fun o34=>
 (N4 [.view Ak [],I x1,B x2,I (IntKind.i64.wrap (gA o32 0-4)),I (IntKind.i64.wrap (gA o33 0-4)),I (IntKind.i64.wrap (gA o34 0-4)), .view Aa (wA o34 1),jA o34 2]).bind fun o35=>
 bif o35.1.beq 1 then
 bif bA o35.2 1 then
 bif((wA o35.2 0++[[I 14,I 0,I 0,I 0,I 0,I 0,I 0,I 0,I 0,I 0,I 0,I 0,I 0,B false,I 0,B false,I 0,I 0,I 0,I 0,I 0,B false]]).length*176).ble 140737488355328 then
 some [.view Ak (wA o35.2 0++[[I 14,I 0,I 0,I 0,I 0,I 0,I 0,I 0,I 0,I 0,I 0,I 0,I 0,B false,I 0,B false,I 0,I 0,I 0,I 0,I 0,B false]])]
 else
 none
 else
 some [.view Ak (wA o35.2 0)]
 else
 none:=by kernel_rfl
def Qbc:=An (Qmt K6 LW FP BA Cs)
def JV:=Xa K6 LW FP BA Cs Qbc
theorem Q2m:Ai PG (Z3 K6 LW FP BA Cs):=Ao rfl ⟨Zfe,Zhj,Qwb,Jd,PM,trivial⟩
theorem Z2k:Al PG (16,Ac Qjj Zo JV):=rw2 (C:=(Q5o K6 LW FP BA Cs Qbc)) (fl fb Q2m) Q2m
def VU:Sk:=⟨[tf [CS.sl Aa]],[],[]⟩
def Qgu:Sk:=⟨[TS.v true [ci,ci,ci]],[],[]⟩
def Zyz (M:Fn):Nat×Spec:=(47,Ac VU Qgu M)
def ZW (Aq A4:Fn):Cfg:=cp [IQ Aq,PN A4] [48,45]
def Qh0 (Aq A4:Fn):Fn:=Am PG (ZW Aq A4) 64 47 VU Qgu
theorem Zdk (Aq A4:Fn) (x0:Rw):Qh0 Aq A4 [.view Aa x0]=
 (A4 [.view Aa x0]).bind fun o4=>
 (Aq [I 900, .view Aa (wA o4 0),jA o4 1]).bind fun o5=>
 (Aq [I 200, .view Aa (wA o5 1),jA o5 2]).bind fun o6=>
 (Aq [I 16000, .view Aa (wA o6 1),jA o6 2]).bind fun o7=>
 some [I (IntKind.i64.wrap (1+gA o5 0)),I (IntKind.i64.wrap (2+gA o6 0)),I (IntKind.i64.wrap (1+gA o7 0))]:=by kernel_rfl
def OK:=Qh0 BA Cs
theorem Zhr:Ai PG (ZW BA Cs):=Ao rfl ⟨Jd,PM,trivial⟩
theorem Zij:Al PG (47,Ac VU Qgu OK):=rw1 (C:=(ZW BA Cs)) Zhr
def Xk:Sk:=⟨[tf [CS.ptr 20000 0]],[(20000,103,[CS.sl Aa,ci])],[]⟩
def Qez:Sk:=⟨[TS.v true [ci,ci,ci,ci,ci,ci,ci,ci,ci,CS.sl Aa]],[(20000,103,[CS.sl Aa,ci])],[]⟩
def Zp8 (M:Fn):Nat×Spec:=(84,Ac Xk Qez M)
def Qcd (Aq:Fn):Cfg:={spec:=H2 [IQ Aq],eqOk:=Ju,pure:=fun f=> !(AK [48] f),ownOff:=Zo7}
def Q5e:Sk:=⟨[tf [CS.ptr 20000 0],td,tf [CS.ptr 2 0],tf [CS.ptr 3 0],tf [ci],tf [ci],tf [ci]]++dd 72,[(2,26,[ci,ci,ci,ci,ci,ci,ci,ci,ci,CS.own 1002009 1]),(3,26,[ci,ci,ci,ci,ci,ci,ci,ci,ci,CS.own 1003009 1]),(20000,103,[CS.sl Aa,ci])],[(1002009,3,Aa),(1003009,3,Aa)]⟩
def Qx6:List (Ex×Sk):=[(Ex.exit 0,⟨[td,td,tf [CS.ptr 2 0],tf [CS.ptr 3 0]]++dd 75,[(2,26,[ci,ci,ci,ci,ci,ci,ci,ci,ci,CS.own 1002009 1]),(3,26,[ci,ci,ci,ci,ci,ci,ci,ci,ci,CS.own 1003009 1]),(20000,103,[CS.sl Aa,ci])],[(1002009,3,Aa),(1003009,3,Aa)]⟩)]
def Rb (Aq:Fn):Lp:=AN PG (Qcd Aq) 64 11 (AO PG 84 11) Q5e Qx6
def Qya (Aq:Fn) (N11:Lp):Cfg:=(Qcd Aq).loop 11 Q5e Qx6 N11
def Qnf (Aq:Fn) (N11:Lp):Fn:=Am PG (Qya Aq N11) 64 84 Xk Qez
theorem Q65 (Aq:Fn) (v0 v1:Rw) (v2 v3 v4 v5 v6 v7 v8 v9 v10 v11 v12 v13 v14 v15 v16 v17 v18 v19 v20 v21 v22:Int) (v23:Rw) (v24:Int):Rb Aq [.view Aa v0, .view Aa v1,I v2,I v3,I v4,I v5,I v6,I v7,I v8,I v9,I v10,I v11,I v12,I v13,I v14,I v15,I v16,I v17,I v18,I v19,I v20,I v21,I v22, .view Aa v23,I v24]=
 bif decide (v4<v2)then
 bif((v1++[[I v3]]).length*8).ble 140737488355328 then
 (Aq [I (IntKind.i64.wrap (IntKind.i64.wrap (2*IntKind.i64.wrap (v22.tdiv 4))+1)), .view Aa v23,I v24]).bind fun o20=>
 some (0,[.view Aa v0, .view Aa (v1++[[I v3]]),I v2,I (mn (mx (IntKind.i64.wrap (IntKind.i64.wrap (v3+gA o20 0)-IntKind.i64.wrap (v22.tdiv 4))) (-4096)) 4096),I (IntKind.i64.wrap (v4+1)),I v5,I v6,I v7,I v8,I v9,I v10,I v11,I v12,I v13,I v14,I v15,I v16,I v17,I v18,I v19,I v20,I v21,I v22, .view Aa (wA o20 1),jA o20 2])
 else
 none
 else
 some (1,[.view Aa v0, .view Aa v1,I v5,I v6,I v7,I v8,I v9,I v10,I v11,I v12,I v13,I v14,I v15,I v16,I v17,I v18,I v19,I v20,I v21,I v22, .view Aa v23,I v24]):=by kernel_rfl
theorem Zyn (Aq:Fn) (N11:Lp) (x0:Rw) (x1:Int):Qnf Aq N11 [.view Aa x0,I x1]=
 (Aq [I 6, .view Aa x0,I x1]).bind fun o21=>
 bif decide (0<=gA o21 0)&&decide (gA o21 0<(↑[[I 8],[I 4],[I 5],[I 16],[I 23],[I 64]].length:Int))then
 (Aq [I 4, .view Aa (wA o21 1),jA o21 2]).bind fun o22=>
 bif decide (0<=gA o22 0)&&decide (gA o22 0<(↑[[I 0],[I 1],[I 3],[I 6]].length:Int))then
 (Aq [I 5, .view Aa (wA o22 1),jA o22 2]).bind fun o23=>
 bif decide (0<=gA o23 0)&&decide (gA o23 0<(↑[[I 40],[I 1],[I 3],[I 9],[I 1000]].length:Int))then
 (Aq [I 5, .view Aa (wA o23 1),jA o23 2]).bind fun o24=>
 bif decide (0<=gA o24 0)&&decide (gA o24 0<(↑[[I 20],[I 2],[I 3],[I 5],[I 1000]].length:Int))then
 (Aq [I 5, .view Aa (wA o24 1),jA o24 2]).bind fun o25=>
 bif decide (0<=gA o25 0)&&decide (gA o25 0<(↑[[I 30],[I 4],[I 5],[I 8],[I 1000]].length:Int))then
 (Aq [I 5, .view Aa (wA o25 1),jA o25 2]).bind fun o26=>
 bif gA o26 0==0 then
 some [I (Af (nth .dead (nth [] [[I 8],[I 4],[I 5],[I 16],[I 23],[I 64]] (gA o21 0).toNat) 0)),I (Af (nth .dead (nth [] [[I 40],[I 1],[I 3],[I 9],[I 1000]] (gA o23 0).toNat) 0)),I (Af (nth .dead (nth [] [[I 20],[I 2],[I 3],[I 5],[I 1000]] (gA o24 0).toNat) 0)),I (Af (nth .dead (nth [] [[I 30],[I 4],[I 5],[I 8],[I 1000]] (gA o25 0).toNat) 0)),I (-16777216),I 16777216,I (Af (nth .dead (nth [] [[I 0],[I 1],[I 3],[I 6]] (gA o22 0).toNat) 0)),I 0,I 0, .view Aa [], .view Aa (wA o26 1),jA o26 2]
 else
 (Aq [I 400, .view Aa (wA o26 1),jA o26 2]).bind fun o27=>
 (Aq [I 120, .view Aa (wA o27 1),jA o27 2]).bind fun o28=>
 (Aq [I 9, .view Aa (wA o28 1),jA o28 2]).bind fun o29=>
 (N11 [.view Aa [], .view Aa [],jA o26 0,I (IntKind.i64.wrap (gA o29 0-4)),I 0,I 0,I 0,I 0,I 0,I 0,I 0,I 0,I 0,I 0,I (Af (nth .dead (nth [] [[I 8],[I 4],[I 5],[I 16],[I 23],[I 64]] (gA o21 0).toNat) 0)),I (Af (nth .dead (nth [] [[I 40],[I 1],[I 3],[I 9],[I 1000]] (gA o23 0).toNat) 0)),I (Af (nth .dead (nth [] [[I 20],[I 2],[I 3],[I 5],[I 1000]] (gA o24 0).toNat) 0)),I (Af (nth .dead (nth [] [[I 30],[I 4],[I 5],[I 8],[I 1000]] (gA o25 0).toNat) 0)),I (-16777216),I 16777216,I (Af (nth .dead (nth [] [[I 0],[I 1],[I 3],[I 6]] (gA o22 0).toNat) 0)),I (IntKind.i64.wrap (gA o27 0-200)),I (IntKind.i64.wrap (4+gA o28 0)), .view Aa (wA o29 1),jA o29 2]).bind fun o30=>
 bif o30.1.beq 1 then
 some [jA o30.2 11,jA o30.2 12,jA o30.2 13,jA o30.2 14,jA o30.2 15,jA o30.2 16,jA o30.2 17,jA o30.2 18,jA o30.2 19, .view Aa (wA o30.2 1), .view Aa (wA o30.2 20),jA o30.2 21]
 else
 none
 else
 none
 else
 none
 else
 none
 else
 none
 else
 none:=by kernel_rfl
def Xx:=An (Rb BA)
def Nm:=Qnf BA Xx
theorem Q51:Ai PG (Qcd BA):=Ao rfl ⟨Jd,trivial⟩
theorem Znw:Al PG (84,Ac Xk Qez Nm):=rw2 (C:=(Qya BA Xx)) (fl fb Q51) Q51
def Z_:Sk:=⟨[tf [CS.sl Aa]],[],[]⟩
def Qdt:Sk:=⟨[TS.v true [ci,ci,ci,ci,ci,ci,ci,ci,ci,CS.sl Aa,ci,ci,ci,ci,ci,ci,ci,ci,ci,CS.sl Aa,ci,ci,ci,ci,ci,ci,ci,ci,ci,CS.sl Aa]],[],[]⟩
def Za3 (M:Fn):Nat×Spec:=(46,Ac Z_ Qdt M)
def Qgh (Jm A4:Fn):Cfg:=cp [Zp8 Jm,PN A4] [84,45]
def Qvu (Jm A4:Fn):Fn:=Am PG (Qgh Jm A4) 64 46 Z_ Qdt
theorem Z29 (Jm A4:Fn) (x0:Rw):Qvu Jm A4 [.view Aa x0]=
 (A4 [.view Aa x0]).bind fun o4=>
 (Jm [.view Aa (wA o4 0),jA o4 1]).bind fun o5=>
 (Jm [.view Aa (wA o5 10),jA o5 11]).bind fun o6=>
 (Jm [.view Aa (wA o6 10),jA o6 11]).bind fun o7=>
 some [jA o5 0,jA o5 1,jA o5 2,jA o5 3,jA o5 4,jA o5 5,jA o5 6,jA o5 7,jA o5 8, .view Aa (wA o5 9),jA o6 0,jA o6 1,jA o6 2,jA o6 3,jA o6 4,jA o6 5,jA o6 6,jA o6 7,jA o6 8, .view Aa (wA o6 9),jA o7 0,jA o7 1,jA o7 2,jA o7 3,jA o7 4,jA o7 5,jA o7 6,jA o7 7,jA o7 8, .view Aa (wA o7 9)]:=by kernel_rfl
def Md:=Qvu Nm Cs
theorem Zwm:Ai PG (Qgh Nm Cs):=Ao rfl ⟨Znw,PM,trivial⟩
theorem Zv2:Al PG (46,Ac Z_ Qdt Md):=rw1 (C:=(Qgh Nm Cs)) Zwm
def Qn8:Sk:=⟨[tf [CS.sl Aa],tf [CS.sl Aa]],[],[]⟩
def T8:Sk:=⟨[TS.v true [ci,ci,ci,ci,ci,ci,ci,ci,ci,CS.sl Aa,ci,ci,ci,ci,ci,ci,ci,ci,ci,CS.sl Aa,ci,ci,ci,ci,ci,ci,ci,ci,ci,CS.sl Aa,ci,ci,ci,ci,ci]],[],[]⟩
def Q9y (M:Fn):Nat×Spec:=(15,Ac Qn8 T8 M)
def Qk7 (Aq NU NC A4:Fn):Cfg:=cp [IQ Aq,Zyz NU,Za3 NC,PN A4] [48,45]
def U7 (Aq NU NC A4:Fn):Fn:=Am PG (Qk7 Aq NU NC A4) 64 15 Qn8 T8
theorem Zsp (Aq NU NC A4:Fn) (x0 x1:Rw):U7 Aq NU NC A4 [.view Aa x0, .view Aa x1]=
 (A4 [.view Aa x1]).bind fun o5=>
 (NC [.view Aa x0]).bind fun o6=>
 (NU [.view Aa x1]).bind fun o7=>
 (Aq [I 60000, .view Aa (wA o5 0),I (mn 3 (x1.length:Int))]).bind fun o8=>
 (Aq [I 40, .view Aa (wA o8 1),jA o8 2]).bind fun o9=>
 some [jA o6 0,jA o6 1,jA o6 2,jA o6 3,jA o6 4,jA o6 5,jA o6 6,jA o6 7,jA o6 8, .view Aa (wA o6 9),jA o6 10,jA o6 11,jA o6 12,jA o6 13,jA o6 14,jA o6 15,jA o6 16,jA o6 17,jA o6 18, .view Aa (wA o6 19),jA o6 20,jA o6 21,jA o6 22,jA o6 23,jA o6 24,jA o6 25,jA o6 26,jA o6 27,jA o6 28, .view Aa (wA o6 29),jA o7 0,jA o7 1,jA o7 2,I (IntKind.i64.wrap (1+gA o8 0)),jA o9 0]:=by kernel_rfl
def Kg:=U7 BA OK Md Cs
theorem Z3v:Ai PG (Qk7 BA OK Md Cs):=Ao rfl ⟨Jd,Zij,Zv2,PM,trivial⟩
theorem Zub:Al PG (15,Ac Qn8 T8 Kg):=rw1 (C:=(Qk7 BA OK Md Cs)) Z3v
def Qfb:Sk:=⟨[tf [CS.sl [Kd.sl Aa]]],[],[]⟩
def Qmi:Sk:=⟨[tf [CS.bool]],[],[]⟩
def Zqi (M:Fn):Nat×Spec:=(44,Ac Qfb Qmi M)
def C_cncmill_Few_0:Cfg:=cf []
def Q3t:Sk:=⟨[td,td,td,td,td,tf [CS.sl [Kd.sl Aa]],tf [ci],tf [ci]]++dd 7,[],[]⟩
def Qp3:List (Ex×Sk):=[(Ex.ret,⟨[td,td,tf [CS.bool]]++dd 12,[],[]⟩),(Ex.exit 0,⟨[td]++dd 14,[],[]⟩)]
def QW:Lp:=AN PG C_cncmill_Few_0 64 2 (AO PG 44 2) Q3t Qp3
def Q8c (N2:Lp):Cfg:=C_cncmill_Few_0.loop 2 Q3t Qp3 N2
def Z5 (N2:Lp):Fn:=Am PG (Q8c N2) 64 44 Qfb Qmi
theorem Z1r (v0:Rw) (v1 v2:Int):QW [.view [Kd.sl Aa] v0,I v1,I v2]=
 bif decide (v2<v1)then
 bif decide (0<=v2)&&decide (v2<(v0.length:Int))then
 bif decide ((↑(wA (nth [] v0 v2.toNat) 0).length:Int)>60)then
 some (1,[B false])
 else
 some (0,[.view [Kd.sl Aa] v0,I v1,I (IntKind.i64.wrap (v2+1))])
 else
 none
 else
 some (2,[]):=by kernel_rfl
theorem Q9d (N2:Lp) (x0:Rw):Z5 N2 [.view [Kd.sl Aa] x0]=
 (N2 [.view [Kd.sl Aa] x0,I (x0.length:Int),I 0]).bind fun o1=>
 bif o1.1.beq 1 then
 some [B (bA o1.2 0)]
 else
 bif o1.1.beq 2 then
 some [B true]
 else
 none:=by kernel_rfl
def Qpw:=An (QW)
def Ji:=Z5 Qpw
theorem Qre:Ai PG (C_cncmill_Few_0):=Ao rfl trivial
theorem Zm8:Al PG (44,Ac Qfb Qmi Ji):=rw2 (C:=(Q8c Qpw)) (fl fb Qre) Qre
end Go.Bm
