/- functions of the program and of the references, as models -/
import Derived.Test.YtommijghjlikkaaGreatMx1
set_option linter.unusedSimpArgs false
set_option linter.unusedVariables false
set_option maxRecDepth 100000
noncomputable section
open Go.IntKind (wrap)
namespace Go.Bm
open Go.Proofs
def X3:Sk:=⟨[tf [CS.ptr 20000 0],tf [CS.sl kPt]],[(20000,119,cS)],[]⟩
def Qc2:Sk:=⟨[TS.v true ([CS.sl kPt,CS.sl Aa]++cc 7)],[(20000,119,cS)],[]⟩
def Qyx (M:Fn):Nat×Spec:=(21,Ac X3 Qc2 M)
def Qch (Cp CK Et Ek Eo Ew Eu CY A_ Dm Di Ez:Fn):Cfg:=cr [Zcr Cp,Zx7 CK,Q8e Et,Zv5 Ek,Zf1 Eo,Zx2 Ew,Zov Eu,Zjo CY,RU A_,Zln Dm,Zt3 Di,Zyk Ez] [71,70,69,68,67,66,65,63,61,60] [63,61]
def Qww:Sk:=⟨[tf [CS.ptr 20000 0],td,td,td,tf [CS.ptr 4 0]]++dd 14++[tf [CS.sl kPt],tf [ci],tf [ci]]++dd 93,[(4,46,[CS.sl kPt,CS.sl Aa]++cc 7),(20000,119,cS)],[]⟩
def Qu6:List (Ex×Sk):=[(Ex.exit 0,⟨[tf [CS.ptr 20000 0],td,td,td,tf [CS.ptr 4 0]]++dd 110,[(4,46,[CS.sl kPt,CS.sl Aa]++cc 7),(20000,119,cS)],[]⟩)]
def S_ (Cp CK Et Ek Eo Ew Eu CY A_ Dm Di Ez:Fn):Lp:=A4 PG (Qch Cp CK Et Ek Eo Ew Eu CY A_ Dm Di Ez) 64 3 (A3 PG 21 3) Qww Qu6
def Qx4 (Cp CK Et Ek Eo Ew Eu CY A_ Dm Di Ez:Fn) (N3:Lp):Cfg:=(Qch Cp CK Et Ek Eo Ew Eu CY A_ Dm Di Ez).loop 3 Qww Qu6 N3
def Q5s:Sk:=⟨[tf [CS.ptr 20000 0],td,td,td,tf [CS.ptr 4 0],td,td,tf [ci],tf [CS.ptr 8 0]]++dd 81++[tf [CS.bsl 90 5],tf [ci],tf [ci]]++dd 22,[(4,46,[CS.sl kPt,CS.sl Aa]++cc 7),(8,46,[CS.sl kPt,CS.sl Aa]++cc 7),(90,125,[CS.clo 65 [(20000,0)] [],CS.clo 66 [(20000,0)] [],CS.clo 67 [(20000,0)] [],CS.clo 68 [(20000,0)] [],CS.clo 69 [(20000,0)] []]),(20000,119,cS)],[]⟩
def Q0i:List (Ex×Sk):=[(Ex.exit 2,⟨[tf [CS.ptr 20000 0],td,td,td,tf [CS.ptr 4 0],td,td,tf [ci],tf [CS.ptr 8 0]]++dd 106,[(4,46,[CS.sl kPt,CS.sl Aa]++cc 7),(8,46,[CS.sl kPt,CS.sl Aa]++cc 7),(20000,119,cS)],[]⟩)]
def IQ (Cp CK Et Ek Eo Ew Eu CY A_ Dm Di Ez:Fn) (N3:Lp):Lp:=A4 PG (Qx4 Cp CK Et Ek Eo Ew Eu CY A_ Dm Di Ez N3) 64 16 (A3 PG 21 16) Q5s Q0i
def Q7c (Cp CK Et Ek Eo Ew Eu CY A_ Dm Di Ez:Fn) (N3 N16:Lp):Cfg:=(Qx4 Cp CK Et Ek Eo Ew Eu CY A_ Dm Di Ez N3).loop 16 Q5s Q0i N16
def Qje (Cp CK Et Ek Eo Ew Eu CY A_ Dm Di Ez:Fn) (N3 N16:Lp):Fn:=An PG (Q7c Cp CK Et Ek Eo Ew Eu CY A_ Dm Di Ez N3 N16) 64 21 X3 Qc2
theorem Q82 (Cp CK Et Ek Eo Ew Eu CY A_ Dm Di Ez:Fn) (v0:Rw) (v1 v2:Int) (v3 v4:Rw) (v5 v6 v7 v8 v9 v10 v11:Int) (K:Kf) (c:Cv):S_ Cp CK Et Ek Eo Ew Eu CY A_ Dm Di Ez (.view kPt v0::I v1::I v2:: .view kPt v3:: .view Aa v4::I v5::I v6::I v7::I v8::I v9::I v10::I v11::Ad K c)=
 bif decide (v2<v1)then
 bif decide (0<=v2)&&decide (v2<(v0.length:Int))then
 (Ez (jA (nth [] v0 v2.toNat) 0::jA (nth [] v0 v2.toNat) 1::jA (nth [] v0 v2.toNat) 2::Ad K c)).bind fun o54=>
 some (0,(.view kPt v0::I v1::I (wrap .i64 (v2+1)):: .view kPt v3:: .view Aa v4::I v5::I v6::I v7::I v8::I v9::I v10::I v11::cR 0 o54))
 else
 none
 else
 some (1,(.view kPt v3:: .view Aa v4::I v5::I v6::I v7::I v8::I v9::I v10::I v11::Ad K c)):=by kernel_rfl
abbrev Nv (v0:Int) (v3 v4:Rw) (v5 v6 v7 v8 v9 v10 v11:Int) (v12 v13:Rw) (v15 v16 v17 v18 v19 v20 v1 v2 v14:Int) (h1_0:Bool) (h1_1:AC) (h1_2:List AC):Option (Nat×List AC):=
 bif h1_0 then
 some (1,(I v0:: .view kPt v3:: .view Aa v4::I v5::I v6::I v7::I v8::I v9::I v10::I v11:: .view kPt v12:: .view Aa v13::h1_1::I v15::I v16::I v17::I v18::I v19::I v20::h1_2))
 else
 some (0,(I v0::I v1::I (wrap .i64 (v2+1)):: .view kPt v3:: .view Aa v4::I v5::I v6::I v7::I v8::I v9::I v10::I v11:: .view kPt v12:: .view Aa v13::I v14::I v15::I v16::I v17::I v18::I v19::I v20::h1_2))
attribute [go_sem] Nv
theorem Zb7 (Cp CK Et Ek Eo Ew Eu CY A_ Dm Di Ez:Fn) (N3:Lp) (v0 v1 v2:Int) (v3 v4:Rw) (v5 v6 v7 v8 v9 v10 v11:Int) (v12 v13:Rw) (v14 v15 v16 v17 v18 v19 v20:Int) (K:Kf) (c:Cv):IQ Cp CK Et Ek Eo Ew Eu CY A_ Dm Di Ez N3 (I v0::I v1::I v2:: .view kPt v3:: .view Aa v4::I v5::I v6::I v7::I v8::I v9::I v10::I v11:: .view kPt v12:: .view Aa v13::I v14::I v15::I v16::I v17::I v18::I v19::I v20::Ad K c)=
 bif decide (v2<v1)then
 bif decide (v2=(↑0:Int))then
 (Eu (Ad K c)).bind fun o55=>
 Nv v0 v3 v4 v5 v6 v7 v8 v9 v10 v11 v12 v13 v15 v16 v17 v18 v19 v20 v1 v2 v14 (bA o55 1) (jA o55 0) (cR 2 o55)
 else
 bif decide (v2=(↑(0+1):Int))then
 (Ew (Ad K c)).bind fun o56=>
 Nv v0 v3 v4 v5 v6 v7 v8 v9 v10 v11 v12 v13 v15 v16 v17 v18 v19 v20 v1 v2 v14 (bA o56 1) (jA o56 0) (cR 2 o56)
 else
 bif decide (v2=(↑(0+1+1):Int))then
 (Eo (Ad K c)).bind fun o57=>
 Nv v0 v3 v4 v5 v6 v7 v8 v9 v10 v11 v12 v13 v15 v16 v17 v18 v19 v20 v1 v2 v14 (bA o57 1) (jA o57 0) (cR 2 o57)
 else
 bif decide (v2=(↑(0+1+1+1):Int))then
 (Ek (Ad K c)).bind fun o58=>
 Nv v0 v3 v4 v5 v6 v7 v8 v9 v10 v11 v12 v13 v15 v16 v17 v18 v19 v20 v1 v2 v14 (bA o58 1) (jA o58 0) (cR 2 o58)
 else
 bif decide (v2=(↑(0+1+1+1+1):Int))then
 (Et (Ad K c)).bind fun o59=>
 Nv v0 v3 v4 v5 v6 v7 v8 v9 v10 v11 v12 v13 v15 v16 v17 v18 v19 v20 v1 v2 v14 (bA o59 1) (jA o59 0) (cR 2 o59)
 else
 none
 else
 some (1,(I v0:: .view kPt v3:: .view Aa v4::I v5::I v6::I v7::I v8::I v9::I v10::I v11:: .view kPt v12:: .view Aa v13::I v14::I v15::I v16::I v17::I v18::I v19::I v20::Ad K c)):=by kernel_rfl
abbrev IH (N16:Lp) (o60:Nat×List AC) (CK Cp:Fn) (h1_0:AC) (h1_1:List AC):Option (List AC):=
 (N16 (h1_0::I (↑5:Int)::I 0:: .view kPt (wA o60.2 0):: .view Aa (wA o60.2 1)::jA o60.2 2::jA o60.2 3::jA o60.2 4::jA o60.2 5::jA o60.2 6::jA o60.2 7::jA o60.2 8:: .view kPt []:: .view Aa []::I 0::I 0::I 0::I 0::I 0::I 0::I 0::h1_1)).bind fun o65=>
 bif o65.1.beq 1 then
 bif gA o65.2 12==0 then
 (CK (cR 19 o65.2)).bind fun o66=>
 (Cp (jA o65.2 0::(cR 1 o66++[.view kPt (wA o65.2 10), .view Aa (wA o65.2 11),jA o66 0,jA o65.2 13,jA o65.2 14,jA o65.2 15,jA o65.2 16,jA o65.2 17,jA o65.2 18]))).bind fun o67=>
 some (.view kPt (wA o67 90):: .view Aa (wA o67 91)::jA o67 92::jA o67 93::jA o67 94::jA o67 95::jA o67 96::jA o67 97::jA o67 98::cR 0 o67)
 else
 (Cp (jA o65.2 0::(cR 19 o65.2++[.view kPt (wA o65.2 10), .view Aa (wA o65.2 11),jA o65.2 12,jA o65.2 13,jA o65.2 14,jA o65.2 15,jA o65.2 16,jA o65.2 17,jA o65.2 18]))).bind fun o68=>
 some (.view kPt (wA o68 90):: .view Aa (wA o68 91)::jA o68 92::jA o68 93::jA o68 94::jA o68 95::jA o68 96::jA o68 97::jA o68 98::cR 0 o68)
 else
 none
attribute [go_sem] IH
abbrev Qdf (Di:Fn) (o60:Nat×List AC) (Dm A_ CY:Fn) (N16:Lp) (CK Cp:Fn):Option (List AC):=
 (Di (D_ (cR 9 o60.2) [(58,B true),(86,jA o60.2 76)])).bind fun o61=>
 bif !bA o61 0 then
 (Dm [jA o60.2 73,jA o60.2 74,jA o60.2 75,jA o60.2 76,jA o60.2 42]).bind fun o62=>
 (A_ (D_ (cR 9 o60.2) [(58,B true),(64,jA o62 0),(65,jA o62 1),(66,jA o62 2),(67,jA o62 3),(86,jA o60.2 76)])).bind fun o63=>
 (CY [jA o60.2 59,jA o60.2 60,jA o60.2 61,jA o60.2 62,jA o60.2 63,jA o60.2 64]).bind fun o64=>
 IH N16 o60 CK Cp (jA o63 0) (D_ (cR 9 o60.2) [(58,B true),(64,jA o62 0),(65,jA o62 1),(66,jA o62 2),(67,jA o62 3),(86,jA o60.2 76),(88,B (bA o64 0))])
 else
 (A_ (D_ (cR 9 o60.2) [(58,B true),(86,jA o60.2 76)])).bind fun o69=>
 (CY [jA o60.2 59,jA o60.2 60,jA o60.2 61,jA o60.2 62,jA o60.2 63,jA o60.2 64]).bind fun o70=>
 IH N16 o60 CK Cp (jA o69 0) (D_ (cR 9 o60.2) [(58,B true),(86,jA o60.2 76),(88,B (bA o70 0))])
attribute [go_sem] Qdf
theorem Zzx (Cp CK Et Ek Eo Ew Eu CY A_ Dm Di Ez:Fn) (N3 N16:Lp) (x0:Rw) (K:Kf) (c:Cv):Qje Cp CK Et Ek Eo Ew Eu CY A_ Dm Di Ez N3 N16 (.view kPt x0::Ad K c)=
 (N3 (.view kPt x0::I (x0.length:Int)::I 0:: .view kPt []:: .view Aa []::I 0::I 0::I 0::I 0::I 0::I 0::I 0::Ad K {c with aJ:=false,aL:=false})).bind fun o60=>
 bif o60.1.beq 1 then
 bif bA o60.2 86 then
 Qdf Di o60 Dm A_ CY N16 CK Cp
 else
 bif gA o60.2 70 !=0 then
 Qdf Di o60 Dm A_ CY N16 CK Cp
 else
 (Di (D_ (cR 9 o60.2) [(86,jA o60.2 76)])).bind fun o89=>
 bif !bA o89 0 then
 (Dm [jA o60.2 73,jA o60.2 74,jA o60.2 75,jA o60.2 76,jA o60.2 42]).bind fun o90=>
 (A_ (D_ (cR 9 o60.2) [(64,jA o90 0),(65,jA o90 1),(66,jA o90 2),(67,jA o90 3),(86,jA o60.2 76)])).bind fun o91=>
 (CY [jA o60.2 59,jA o60.2 60,jA o60.2 61,jA o60.2 62,jA o60.2 63,jA o60.2 64]).bind fun o92=>
 IH N16 o60 CK Cp (jA o91 0) (D_ (cR 9 o60.2) [(64,jA o90 0),(65,jA o90 1),(66,jA o90 2),(67,jA o90 3),(86,jA o60.2 76),(88,B (bA o92 0))])
 else
 (A_ (D_ (cR 9 o60.2) [(86,jA o60.2 76)])).bind fun o97=>
 (CY [jA o60.2 59,jA o60.2 60,jA o60.2 61,jA o60.2 62,jA o60.2 63,jA o60.2 64]).bind fun o98=>
 IH N16 o60 CK Cp (jA o97 0) (D_ (cR 9 o60.2) [(86,jA o60.2 76),(88,B (bA o98 0))])
 else
 none:=by kernel_rfl
def Qni:=Am (S_ KQ K1 LG KP KN KV KK LN D6 Lk Lu Lx)
def Qtg:=Am (IQ KQ K1 LG KP KN KV KK LN D6 Lk Lu Lx Qni)
def Ik:=Qje KQ K1 LG KP KN KV KK LN D6 Lk Lu Lx Qni Qtg
theorem Uv:Ai PG (Qch KQ K1 LG KP KN KV KK LN D6 Lk Lu Lx):=IC (rs:=[63,61]) rfl ⟨Zo9,Zrx,Zt0,Zby,Zzm,Ziw,Q71,Zvn,QX,Zg7,Z0z,Z0i,trivial⟩ rfl (CZ rfl (CZ rfl (CZ rfl (CZ rfl (CZ rfl (CZ rfl (CZ rfl (CZ rfl (Hh (CZ rfl (Hh (CZ rfl I9))))))))))))
theorem Q40:Ak PG (21,Ac X3 Qc2 Ik):=rw2 (C:=(Q7c KQ K1 LG KP KN KV KK LN D6 Lk Lu Lx Qni Qtg)) (fl (fl fb Uv) Uv) Uv
def Xj:Sk:=⟨[tf [ci],tf [ci]],[],[]⟩
def WL:Sk:=⟨[tf [ci]],[],[]⟩
def Qwb (M:Fn):Nat×Spec:=(17,Ac Xj WL M)
def Qgr:Cfg:=cf []
def Q62:Fn:=An PG Qgr 64 17 Xj WL
theorem Zgy (x0 x1:Int):Q62 [I x0,I x1]=
 bif decide (x1=0)then
 none
 else
 bif decide (x1=0)then
 none
 else
 some [I ((wrap .i64 (x0.tmod x1+x1)).tmod x1)]:=by kernel_rfl
def Iq:=Q62
theorem Zdv:Ai PG (Qgr):=Ap rfl trivial
theorem Qol:Ak PG (17,Ac Xj WL Iq):=rw1 (C:=Qgr) Zdv
def Qmn:Sk:=⟨[TS.v true (cc 13++[CS.bool,ci,CS.bool]++cc 5++[CS.bool])],[],[]⟩
def Qgo:Sk:=⟨[tf [CS.bool]],[],[]⟩
def SN (M:Fn):Nat×Spec:=(81,Ac Qmn Qgo M)
def Xp:Cfg:=cf []
def Q39:Fn:=An PG Xp 64 81 Qmn Qgo
theorem Zw8 (x0 x1 x2 x3 x4 x5 x6 x7 x8 x9 x10 x11 x12:Int) (x13:Bool) (x14:Int) (x15:Bool) (x16 x17 x18 x19 x20:Int) (x21:Bool):Q39 [I x0,I x1,I x2,I x3,I x4,I x5,I x6,I x7,I x8,I x9,I x10,I x11,I x12,B x13,I x14,B x15,I x16,I x17,I x18,I x19,I x20,B x21]=
 bif x0==2 then
 some [B !(x2==x5&&(x3==x6&&(x4==x7&&true)))]
 else
 some [B false]:=by kernel_rfl
def EG:=Q39
theorem Zlb:Ai PG (Xp):=Ap rfl trivial
theorem Ro:Ak PG (81,Ac Qmn Qgo EG):=rw1 (C:=Xp) Zlb
def Qio:Sk:=⟨[tf [ci]],[],[]⟩
def Qnj:Sk:=⟨[tf [CS.bool]],[],[]⟩
def SO (M:Fn):Nat×Spec:=(123,Ac Qio Qnj M)
def Qnh:Cfg:=cf []
def Q5i:Fn:=An PG Qnh 64 123 Qio Qnj
theorem Zcw (x0:Int):Q5i [I x0]=
 bif decide (x0>=1)then
 some [B (decide (x0<=6))]
 else
 some [B false]:=by kernel_rfl
def DK:=Q5i
theorem Zl2:Ai PG (Qnh):=Ap rfl trivial
theorem Tc:Ak PG (123,Ac Qio Qnj DK):=rw1 (C:=Qnh) Zl2
def Qgh:Sk:=⟨[TS.v true (cc 13++[CS.bool,ci,CS.bool]++cc 5++[CS.bool])],[],[]⟩
def Ya:Sk:=⟨[tf [CS.bool]],[],[]⟩
def Q1s (M:Fn):Nat×Spec:=(169,Ac Qgh Ya M)
def Qhy:Cfg:=cf []
def Qzn:Fn:=An PG Qhy 64 169 Qgh Ya
theorem Q7p (x0 x1 x2 x3 x4 x5 x6 x7 x8 x9 x10 x11 x12:Int) (x13:Bool) (x14:Int) (x15:Bool) (x16 x17 x18 x19 x20:Int) (x21:Bool):Qzn [I x0,I x1,I x2,I x3,I x4,I x5,I x6,I x7,I x8,I x9,I x10,I x11,I x12,B x13,I x14,B x15,I x16,I x17,I x18,I x19,I x20,B x21]=
 bif x0==5 then
 some [B true]
 else
 some [B (x0==6)]:=by kernel_rfl
def Hr:=Qzn
theorem Zpf:Ai PG (Qhy):=Ap rfl trivial
theorem Qq1:Ak PG (169,Ac Qgh Ya Hr):=rw1 (C:=Qhy) Zpf
def Xa:Sk:=⟨[tf [CS.sl Al],tf [ci]],[],[]⟩
def Qc5:Sk:=⟨[tf [CS.bool]],[],[]⟩
def Zsx (M:Fn):Nat×Spec:=(173,Ac Xa Qc5 M)
def V4 (AM CD:Fn):Cfg:=cf [SO AM,Q1s CD]
def Q11:Sk:=⟨dd 23++[tf [CS.sl Al],tf [ci],tf [ci]]++dd 9,[],[]⟩
def Qt5:List (Ex×Sk):=[(Ex.ret,⟨[td,td,td,td,tf [CS.bool]]++dd 30,[],[]⟩),(Ex.exit 0,⟨[td]++dd 34,[],[]⟩)]
def LO (AM CD:Fn):Lp:=A4 PG (V4 AM CD) 64 4 (A3 PG 173 4) Q11 Qt5
def Qw5 (AM CD:Fn) (N4:Lp):Cfg:=(V4 AM CD).loop 4 Q11 Qt5 N4
def Qg2 (AM CD:Fn) (N4:Lp):Fn:=An PG (Qw5 AM CD N4) 64 173 Xa Qc5
theorem Q4x (AM CD:Fn) (v0:Rw) (v1 v2:Int):LO AM CD [.view Al v0,I v1,I v2]=
 bif decide (v2<v1)then
 bif decide (0<=v2)&&decide (v2<(v0.length:Int))then
 (AM [jA (nth [] v0 v2.toNat) 0]).bind fun o5=>
 bif bA o5 0 then
 (CD (AJ Al (nth [] v0 v2.toNat))).bind fun o6=>
 some (1,[B (bA o6 0)])
 else
 some (0,[.view Al v0,I v1,I (wrap .i64 (v2+1))])
 else
 none
 else
 some (2,[]):=by kernel_rfl
theorem Zmd (AM CD:Fn) (N4:Lp) (x0:Rw) (x1:Int):Qg2 AM CD N4 [.view Al x0,I x1]=
 bif decide (0<=x1)&&decide (x1<(x0.length:Int))then
 bif gA (nth [] x0 x1.toNat) 18==0 then
 some [B true]
 else
 bif decide (0<=x1)&&decide (x1<(x0.length:Int))then
 (CD (AJ Al (nth [] x0 x1.toNat))).bind fun o7=>
 bif bA o7 0 then
 some [B true]
 else
 bif decide (0<=wrap .i64 (x1+1))&&decide (wrap .i64 (x1+1)<=(x0.length:Int))then
 (N4 [.view Al (List.drop (wrap .i64 (x1+1)).toNat x0),I (↑(List.drop (wrap .i64 (x1+1)).toNat x0).length:Int),I 0]).bind fun o8=>
 bif o8.1.beq 1 then
 some [B (bA o8.2 0)]
 else
 bif o8.1.beq 2 then
 some [B false]
 else
 none
 else
 none
 else
 none
 else
 none:=by kernel_rfl
def Qtu:=Am (LO DK Hr)
def OW:=Qg2 DK Hr Qtu
theorem Q1q:Ai PG (V4 DK Hr):=Ap rfl ⟨Tc,Qq1,trivial⟩
theorem Zay:Ak PG (173,Ac Xa Qc5 OW):=rw2 (C:=(Qw5 DK Hr Qtu)) (fl fb Q1q) Q1q
def U5:Sk:=⟨[tf [CS.ptr 20000 0],tf [CS.sl Al],tf [ci]],[(20000,142,[ci,ci,ci,CS.own 20000 7,CS.own 20001 3,CS.bool,ci,ci,ci])],[(20000,162,Ag),(20001,76,kPt)]⟩
def Xk:Sk:=⟨[TS.tup []],[(20000,142,[ci,ci,ci,CS.own 20000 7,CS.own 20001 3,CS.bool,ci,ci,ci])],[(20000,162,Ag),(20001,76,kPt)]⟩
def Zil (M:Fn):Nat×Spec:=(127,Ac U5 Xk M)
def Vb (Ng AM:Fn):Cfg:=cf [Zsx Ng,SO AM]
def WK (Ng AM:Fn):Fn:=An PG (Vb Ng AM) 64 127 U5 Xk
abbrev UM (AM:Fn) (x2:Rw) (x3:Int) (x1:Rw) (x8:Int) (x0:Rw) (x4 x5 x6:Int) (x7:Bool) (x9 x10:Int):Option (List AC):=
 (AM [jA (nth [] x2 x3.toNat) 0]).bind fun o6=>
 bif bA o6 0 then
 bif((x1++[[I x8,I 2,I x3]]).length*24).ble 140737488355328 then
 some [.view Ag x0, .view kPt (x1++[[I x8,I 2,I x3]]),I x4,I x5,I x6,B x7,I x8,I x9,I x10]
 else
 none
 else
 bif gA (nth [] x2 x3.toNat) 0==10 then
 bif((x1++[[I x8,I 5,I x3]]).length*24).ble 140737488355328 then
 some [.view Ag x0, .view kPt (x1++[[I x8,I 5,I x3]]),I x4,I x5,I x6,B x7,I x8,I x9,I x10]
 else
 none
 else
 bif gA (nth [] x2 x3.toNat) 0==13 then
 bif((x1++[[I x8,I 4,I x3]]).length*24).ble 140737488355328 then
 some [.view Ag x0, .view kPt (x1++[[I x8,I 4,I x3]]),I x4,I x5,I x6,B x7,I x8,I x9,I x10]
 else
 none
 else
 bif((x1++[[I x8,I 3,I x3]]).length*24).ble 140737488355328 then
 some [.view Ag x0, .view kPt (x1++[[I x8,I 3,I x3]]),I x4,I x5,I x6,B x7,I x8,I x9,I x10]
 else
 none
attribute [go_sem] UM
theorem Zzu (Ng AM:Fn) (x0 x1 x2:Rw) (x3 x4 x5 x6:Int) (x7:Bool) (x8 x9 x10:Int):WK Ng AM [.view Ag x0, .view kPt x1, .view Al x2,I x3,I x4,I x5,I x6,B x7,I x8,I x9,I x10]=
 bif decide (0<=x3)&&decide (x3<(x2.length:Int))then
 bif gA (nth [] x2 x3.toNat) 0==4 then
 bif((x1++[[I x8,I 6,I x3]]).length*24).ble 140737488355328 then
 some [.view Ag x0, .view kPt (x1++[[I x8,I 6,I x3]]),I x4,I x5,I x6,B x7,I x8,I x9,I x10]
 else
 none
 else
 (AM [jA (nth [] x2 x3.toNat) 0]).bind fun o4=>
 bif bA o4 0 then
 (Ng [.view Al x2,I x3]).bind fun o5=>
 bif bA o5 0 then
 bif((x1++[[I x8,I 1,I x3]]).length*24).ble 140737488355328 then
 some [.view Ag x0, .view kPt (x1++[[I x8,I 1,I x3]]),I x4,I x5,I x6,B x7,I x8,I x9,I x10]
 else
 none
 else
 UM AM x2 x3 x1 x8 x0 x4 x5 x6 x7 x9 x10
 else
 UM AM x2 x3 x1 x8 x0 x4 x5 x6 x7 x9 x10
 else
 none:=by kernel_rfl
def ID:=WK OW DK
theorem Zgx:Ai PG (Vb OW DK):=Ap rfl ⟨Zay,Tc,trivial⟩
theorem Znv:Ak PG (127,Ac U5 Xk ID):=rw1 (C:=(Vb OW DK)) Zgx
def Qak:Sk:=⟨[TS.v true (cc 13++[CS.bool,ci,CS.bool]++cc 5++[CS.bool])],[],[]⟩
def Qec:Sk:=⟨[TS.v true [ci,ci,ci]],[],[]⟩
def Qk8 (M:Fn):Nat×Spec:=(172,Ac Qak Qec M)
def VR:Cfg:=cf []
def Qzq:Fn:=An PG VR 64 172 Qak Qec
theorem Zsy (x0 x1 x2 x3 x4 x5 x6 x7 x8 x9 x10 x11 x12:Int) (x13:Bool) (x14:Int) (x15:Bool) (x16 x17 x18 x19 x20:Int) (x21:Bool):Qzq [I x0,I x1,I x2,I x3,I x4,I x5,I x6,I x7,I x8,I x9,I x10,I x11,I x12,B x13,I x14,B x15,I x16,I x17,I x18,I x19,I x20,B x21]=
 some [I (wrap .i64 (wrap .i64 (x2+x5)*8)),I (wrap .i64 (wrap .i64 (x3+x6)*8)),I (wrap .i64 (wrap .i64 (x4+x7)*8))]:=by kernel_rfl
def F5:=Qzq
theorem Zvo:Ai PG (VR):=Ap rfl trivial
theorem Qlw:Ak PG (172,Ac Qak Qec F5):=rw1 (C:=VR) Zvo
def Qfm:Sk:=⟨[TS.v true [CS.int .u64,CS.int .u64],TS.v true [CS.int .u64,CS.int .u64]],[],[]⟩
def Yp:Sk:=⟨[tf [ci]],[],[]⟩
def Q58 (M:Fn):Nat×Spec:=(211,Ac Qfm Yp M)
def Qe1:Cfg:=cf []
def Qt1:Fn:=An PG Qe1 64 211 Qfm Yp
theorem Zii (x0 x1 x2 x3:Int):Qt1 [U x0,U x1,U x2,U x3]=
 bif decide (x0<x2)then
 some [I (-1)]
 else
 bif x0==x2 then
 bif decide (x1<x3)then
 some [I (-1)]
 else
 bif x0==x2&&(x1==x3&&true)then
 some [I 0]
 else
 some [I 1]
 else
 bif x0==x2&&(x1==x3&&true)then
 some [I 0]
 else
 some [I 1]:=by kernel_rfl
def Is:=Qt1
theorem Zp9:Ai PG (Qe1):=Ap rfl trivial
theorem Q4e:Ak PG (211,Ac Qfm Yp Is):=rw1 (C:=Qe1) Zp9
def YF:Sk:=⟨[TS.v true [CS.int .u64,CS.int .u64]],[],[]⟩
def V_:Sk:=⟨[tf [CS.int .u64]],[],[]⟩
def Qyz (M:Fn):Nat×Spec:=(221,Ac YF V_ M)
def UD (DY BE:Fn):Cfg:=cf [Q58 DY,S7 BE]
def Qth:Sk:=⟨[td,tf [CS.ptr 1 0],td,tf [CS.int .u64],tf [CS.int .u64]]++dd 16,[(1,185,[CS.int .u64,CS.int .u64])],[]⟩
def Qsw:List (Ex×Sk):=[(Ex.exit 0,⟨[td,td,td,tf [CS.int .u64]]++dd 17,[],[]⟩)]
def KU (DY BE:Fn):Lp:=A4 PG (UD DY BE) 64 3 (A3 PG 221 3) Qth Qsw
def Qup (DY BE:Fn) (N3:Lp):Cfg:=(UD DY BE).loop 3 Qth Qsw N3
def Qhp (DY BE:Fn) (N3:Lp):Fn:=An PG (Qup DY BE N3) 64 221 YF V_
theorem Qu9 (DY BE:Fn) (v0 v1 v2 v3:Int):KU DY BE [U v0,U v1,U v2,U v3]=
 bif decide (v1>0)then
 (BE [U (wrap .u64 (↑(BitVec.ofInt IntKind.u64.bits v0|||BitVec.ofInt IntKind.u64.bits v1).toNat:Int)),U (wrap .u64 (↑(BitVec.ofInt IntKind.u64.bits v0|||BitVec.ofInt IntKind.u64.bits v1).toNat:Int))]).bind fun o3=>
 (DY [U (gA o3 0),U (gA o3 1),U v2,U v3]).bind fun o4=>
 bif decide (gA o4 0<=0)then
 some (0,[U (wrap .u64 (↑(BitVec.ofInt IntKind.u64.bits v0|||BitVec.ofInt IntKind.u64.bits v1).toNat:Int)),U (v1.fdiv (2^min (Int.toNat 1) IntKind.u64.bits)),U v2,U v3])
 else
 some (0,[U v0,U (v1.fdiv (2^min (Int.toNat 1) IntKind.u64.bits)),U v2,U v3])
 else
 some (1,[U v0]):=by kernel_rfl
theorem Zai (DY BE:Fn) (N3:Lp) (x0 x1:Int):Qhp DY BE N3 [U x0,U x1]=
 (N3 [U 0,U 9223372036854775808,U x0,U x1]).bind fun o5=>
 bif o5.1.beq 1 then
 some [U (gA o5.2 0)]
 else
 none:=by kernel_rfl
def Q6w:=Am (KU Is Ep)
def JW:=Qhp Is Ep Q6w
theorem Qqr:Ai PG (UD Is Ep):=Ap rfl ⟨Q4e,Ti,trivial⟩
theorem Qqe:Ak PG (221,Ac YF V_ JW):=rw2 (C:=(Qup Is Ep Q6w)) (fl fb Qqr) Qqr
def Wf:Sk:=⟨[TS.v true [CS.int .u64,CS.int .u64],tf [ci]],[],[]⟩
def Qk4:Sk:=⟨[TS.tup [(false,[ci]),(false,[CS.bool])]],[],[]⟩
def Zd6 (M:Fn):Nat×Spec:=(216,Ac Wf Qk4 M)
def Qde (Bc Lb FP FW:Fn):Cfg:=cf [UH Bc,(222,Ac Qpq Q0u Lb),(175,Ac Qlt Qa4 FP),Qyz FW]
def W1 (Bc Lb FP FW:Fn):Fn:=An PG (Qde Bc Lb FP FW) 64 216 Wf Qk4
abbrev Qfc (x2:Int) (o17:List AC) (Bc:Fn) (o14 o16:List AC):Option (List AC):=
 bif x2==2 then
 bif decide (gA o17 0>0)then
 (Bc [U (wrap .u64 (gA o14 0+1)),B false]).bind fun o20=>
 some [jA o20 0,B (bA o20 1)]
 else
 bif decide (gA o16 0>gA o14 0)then
 (Bc [U (wrap .u64 (gA o14 0+1)),B false]).bind fun o21=>
 some [jA o21 0,B (bA o21 1)]
 else
 (Bc [U (gA o14 0),B false]).bind fun o22=>
 some [jA o22 0,B (bA o22 1)]
 else
 (Bc [U (gA o14 0),B false]).bind fun o23=>
 some [jA o23 0,B (bA o23 1)]
attribute [go_sem] Qfc
theorem Zw3 (Bc Lb FP FW:Fn) (x0 x1 x2:Int):W1 Bc Lb FP FW [U x0,U x1,I x2]=
 (FW [U x0,U x1]).bind fun o14=>
 (FP [U (gA o14 0),U (gA o14 0)]).bind fun o15=>
 (Lb [U x1,U (gA o15 1),U 0]).bind fun o16=>
 (Lb [U x0,U (gA o15 0),U (gA o16 1)]).bind fun o17=>
 bif x2==1 then
 bif decide (gA o17 0>0)then
 (Bc [U (wrap .u64 (gA o14 0+1)),B false]).bind fun o18=>
 some [jA o18 0,B (bA o18 1)]
 else
 bif decide (gA o16 0>0)then
 (Bc [U (wrap .u64 (gA o14 0+1)),B false]).bind fun o19=>
 some [jA o19 0,B (bA o19 1)]
 else
 Qfc x2 o17 Bc o14 o16
 else
 Qfc x2 o17 Bc o14 o16:=by kernel_rfl
def Td:=W1 E3 JD It JW
theorem Zuu:Ai PG (Qde E3 JD It JW):=Ap rfl ⟨Xg,Zo8,Qpu,Qqe,trivial⟩
theorem Zvv:Ak PG (216,Ac Wf Qk4 Td):=rw1 (C:=(Qde E3 JD It JW)) Zuu
def Z8:Sk:=⟨[tf [ci],tf [ci]],[],[]⟩
def Qhs:Sk:=⟨[TS.tup [(false,[ci]),(false,[CS.bool])]],[],[]⟩
def Q6c (M:Fn):Nat×Spec:=(210,Ac Z8 Qhs M)
def Vq (NL DN:Fn):Cfg:=cf [Zd6 NL,Qj5 DN]
def Qa0 (NL DN:Fn):Fn:=An PG (Vq NL DN) 64 210 Z8 Qhs
theorem Q87 (NL DN:Fn) (x0 x1:Int):Qa0 NL DN [I x0,I x1]=
 bif decide (x0<0)then
 some [I 0,B false]
 else
 (DN [I x1]).bind fun o2=>
 bif !bA o2 0 then
 some [I 0,B false]
 else
 (NL [U 0,U (wrap .u64 x0),I x1]).bind fun o3=>
 some [jA o3 0,B (bA o3 1)]:=by kernel_rfl
def Jf:=Qa0 Td FK
theorem Zgl:Ai PG (Vq Td FK):=Ap rfl ⟨Zvv,Qjw,trivial⟩
theorem Q48:Ak PG (210,Ac Z8 Qhs Jf):=rw1 (C:=(Vq Td FK)) Zgl
def Qkw:Sk:=⟨[TS.v true [ci,ci,ci],TS.v true [ci,ci,ci]],[],[]⟩
def VK:Sk:=⟨[tf [ci]],[],[]⟩
def Qwe (M:Fn):Nat×Spec:=(195,Ac Qkw VK M)
def XP (FD:Fn):Cfg:={cf [Q6c FD]with unroll:=[3]}
def Qcq (FD:Fn):Fn:=An PG (XP FD) 64 195 Qkw VK
theorem Zyh (FD:Fn) (x0 x1 x2 x3 x4 x5:Int):Qcq FD [I x0,I x1,I x2,I x3,I x4,I x5]=
 (FD [I (wrap .i64 (wrap .i64 (wrap .i64 (0+wrap .i64 (wrap .i64 (x0-x3)*wrap .i64 (x0-x3)))+wrap .i64 (wrap .i64 (x1-x4)*wrap .i64 (x1-x4)))+wrap .i64 (wrap .i64 (x2-x5)*wrap .i64 (x2-x5)))),I 1]).bind fun o1=>
 some [jA o1 0]:=by kernel_rfl
def IS:=Qcq Jf
theorem Zuq:Ai PG (XP Jf):=Ap rfl ⟨Q48,trivial⟩
theorem Qxv:Ak PG (195,Ac Qkw VK IS):=rw1 (C:=(XP Jf)) Zuq
def Qju:Sk:=⟨[tf [CS.ptr 20000 0],TS.v true [ci,ci,ci],TS.v true (cc 7)],[(20000,142,[ci,ci,ci,CS.own 20000 7,CS.own 20001 3,CS.bool,ci,ci,ci])],[(20000,162,Ag),(20001,76,kPt)]⟩
def Qmb:Sk:=⟨[TS.tup []],[(20000,142,[ci,ci,ci,CS.own 20000 7,CS.own 20001 3,CS.bool,ci,ci,ci])],[(20000,162,Ag),(20001,76,kPt)]⟩
def Q9j (M:Fn):Nat×Spec:=(171,Ac Qju Qmb M)
def U0 (Da:Fn):Cfg:=cf [Qwe Da]
def Ss (Da:Fn):Fn:=An PG (U0 Da) 64 171 Qju Qmb
abbrev Qm0 (x15:Bool) (x0 x1:Rw) (x2 x3 x4 x16 x17 x18 x12 x13 x14:Int) (Da:Fn) (x9 x10 x11:Int) (h1_0:Bool) (h1_1 h1_2 h1_3:AC):Option (List AC):=
 bif !x15 then
 some [.view Ag x0, .view kPt x1,I x2,I x3,I x4,B true,I x16,I x17,I x18]
 else
 bif h1_0 then
 some [.view Ag x0, .view kPt x1,I x12,I x13,I x14,B x15,I x16,I x17,I x18]
 else
 (Da [h1_1,h1_2,h1_3,I x2,I x3,I x4]).bind fun o2=>
 bif((x0++[[I x2,I x3,I x4,jA o2 0,I x9,I x10,I x11]]).length*56).ble 140737488355328 then
 some [.view Ag (x0++[[I x2,I x3,I x4,jA o2 0,I x9,I x10,I x11]]), .view kPt x1,I x12,I x13,I x14,B x15,I (wrap .i64 (x16+gA o2 0)),I x17,I x18]
 else
 none
attribute [go_sem] Qm0
theorem Qzb (Da:Fn) (x0 x1:Rw) (x2 x3 x4 x5 x6 x7 x8 x9 x10 x11 x12 x13 x14:Int) (x15:Bool) (x16 x17 x18:Int):Ss Da [.view Ag x0, .view kPt x1,I x2,I x3,I x4,I x5,I x6,I x7,I x8,I x9,I x10,I x11,I x12,I x13,I x14,B x15,I x16,I x17,I x18]=
 bif decide ((x0.length:Int)>0)then
 bif decide (0<=wrap .i64 ((x0.length:Int)-1))&&decide (wrap .i64 ((x0.length:Int)-1)<(x0.length:Int))then
 Qm0 x15 x0 x1 x2 x3 x4 x16 x17 x18 x12 x13 x14 Da x9 x10 x11 (x2==gA (nth [] x0 (wrap .i64 ((x0.length:Int)-1)).toNat) 0&&(x3==gA (nth [] x0 (wrap .i64 ((x0.length:Int)-1)).toNat) 1&&(x4==gA (nth [] x0 (wrap .i64 ((x0.length:Int)-1)).toNat) 2&&true))) (jA (nth [] x0 (wrap .i64 ((x0.length:Int)-1)).toNat) 0) (jA (nth [] x0 (wrap .i64 ((x0.length:Int)-1)).toNat) 1) (jA (nth [] x0 (wrap .i64 ((x0.length:Int)-1)).toNat) 2)
 else
 none
 else
 Qm0 x15 x0 x1 x2 x3 x4 x16 x17 x18 x12 x13 x14 Da x9 x10 x11 (x2==x12&&(x3==x13&&(x4==x14&&true))) (I x12) (I x13) (I x14):=by kernel_rfl
def LV:=Ss IS
theorem Zma:Ai PG (U0 IS):=Ap rfl ⟨Qxv,trivial⟩
theorem Za4:Ak PG (171,Ac Qju Qmb LV):=rw1 (C:=(U0 IS)) Zma
def VY:Sk:=⟨[tf [CS.sl Al],tf [ci]],[],[]⟩
def Qaa:Sk:=⟨[tf [ci]],[],[]⟩
def Qmc (M:Fn):Nat×Spec:=(125,Ac VY Qaa M)
def C_path_next_0:Cfg:=cf []
def Qp6:Sk:=⟨[tf [CS.sl Al],tf [ci]]++dd 20,[],[]⟩
def Q3y:List (Ex×Sk):=[(Ex.exit 0,⟨[td,tf [ci]]++dd 20,[],[]⟩)]
def P6:Lp:=A4 PG C_path_next_0 64 2 (A3 PG 125 2) Qp6 Q3y
def Q5v (N2:Lp):Cfg:=C_path_next_0.loop 2 Qp6 Q3y N2
def Qds (N2:Lp):Fn:=An PG (Q5v N2) 64 125 VY Qaa
theorem Q07 (v0:Rw) (v1:Int):P6 [.view Al v0,I v1]=
 bif decide (v1<(v0.length:Int))then
 bif decide (0<=v1)&&decide (v1<(v0.length:Int))then
 bif gA (nth [] v0 v1.toNat) 0==10 then
 some (0,[.view Al v0,I (wrap .i64 (v1+1))])
 else
 some (1,[I v1])
 else
 none
 else
 some (1,[I v1]):=by kernel_rfl
theorem Zlp (N2:Lp) (x0:Rw) (x1:Int):Qds N2 [.view Al x0,I x1]=
 (N2 [.view Al x0,I (wrap .i64 (x1+1))]).bind fun o1=>
 bif o1.1.beq 1 then
 some [jA o1.2 0]
 else
 none:=by kernel_rfl
def Qw4:=Am (P6)
def Fk:=Qds Qw4
theorem Q2o:Ai PG (C_path_next_0):=Ap rfl trivial
theorem VB:Ak PG (125,Ac VY Qaa Fk):=rw2 (C:=(Q5v Qw4)) (fl fb Q2o) Q2o
def Xn:Sk:=⟨[tf [CS.sl Al],tf [ci]],[],[]⟩
def ZK:Sk:=⟨[tf [CS.bool]],[],[]⟩
def Q1t (M:Fn):Nat×Spec:=(124,Ac Xn ZK M)
def Qbg (Bl Bs:Fn):Cfg:=cf [SN Bl,Qmc Bs]
def Qer (Bl Bs:Fn):Fn:=An PG (Qbg Bl Bs) 64 124 Xn ZK
theorem Zlo (Bl Bs:Fn) (x0:Rw) (x1:Int):Qer Bl Bs [.view Al x0,I x1]=
 (Bs [.view Al x0,I x1]).bind fun o3=>
 bif decide (0<=x1)&&decide (x1<(x0.length:Int))then
 (Bl (AJ Al (nth [] x0 x1.toNat))).bind fun o4=>
 bif bA o4 0 then
 bif decide (0<=x1)&&decide (x1<(x0.length:Int))then
 bif gA (nth [] x0 x1.toNat) 18 !=0 then
 bif decide (gA o3 0<(x0.length:Int))then
 bif decide (0<=gA o3 0)&&decide (gA o3 0<(x0.length:Int))then
 (Bl (AJ Al (nth [] x0 (gA o3 0).toNat))).bind fun o5=>
 some [B (bA o5 0)]
 else
 none
 else
 some [B false]
 else
 some [B false]
 else
 none
 else
 some [B false]
 else
 none:=by kernel_rfl
def GX:=Qer EG Fk
theorem Zli:Ai PG (Qbg EG Fk):=Ap rfl ⟨Ro,VB,trivial⟩
theorem Q31:Ak PG (124,Ac Xn ZK GX):=rw1 (C:=(Qbg EG Fk)) Zli
def Qkt:Sk:=⟨[TS.v true [ci,ci,ci],TS.v true [ci,ci,ci],TS.v true [ci,ci,ci]],[],[]⟩
def Qfh:Sk:=⟨[tf [ci]],[],[]⟩
def Qvp (M:Fn):Nat×Spec:=(219,Ac Qkt Qfh M)
def YN:Cfg:={cf []with unroll:=[3]}
def Qyj:Fn:=An PG YN 64 219 Qkt Qfh
theorem Zzt (x0 x1 x2 x3 x4 x5 x6 x7 x8:Int):Qyj [I x0,I x1,I x2,I x3,I x4,I x5,I x6,I x7,I x8]=
 some [I (wrap .i64 (wrap .i64 (wrap .i64 (0+wrap .i64 (wrap .i64 (wrap .i64 (x0+x6)-wrap .i64 (2*x3))*wrap .i64 (wrap .i64 (x0+x6)-wrap .i64 (2*x3))))+wrap .i64 (wrap .i64 (wrap .i64 (x1+x7)-wrap .i64 (2*x4))*wrap .i64 (wrap .i64 (x1+x7)-wrap .i64 (2*x4))))+wrap .i64 (wrap .i64 (wrap .i64 (x2+x8)-wrap .i64 (2*x5))*wrap .i64 (wrap .i64 (x2+x8)-wrap .i64 (2*x5)))))]:=by kernel_rfl
def Gw:=Qyj
theorem Zvg:Ai PG (YN):=Ap rfl trivial
theorem Que:Ak PG (219,Ac Qkt Qfh Gw):=rw1 (C:=YN) Zvg
def Vi:Sk:=⟨[TS.v true [ci,ci,ci],TS.v true [ci,ci,ci],TS.v true [ci,ci,ci]],[],[]⟩
def Qby:Sk:=⟨[tf [ci]],[],[]⟩
def Zg9 (M:Fn):Nat×Spec:=(215,Ac Vi Qby M)
def Qjn (CN:Fn):Cfg:=cf [Qvp CN]
def Qut:Sk:=⟨[td,td,td,tf [CS.ptr 3 0],tf [CS.ptr 4 0],tf [CS.ptr 5 0],td,tf [ci]]++dd 22,[(3,54,[ci,ci,ci]),(4,54,[ci,ci,ci]),(5,54,[ci,ci,ci])],[]⟩
def Q20:List (Ex×Sk):=[(Ex.exit 0,⟨dd 7++[tf [ci]]++dd 22,[],[]⟩)]
def ON (CN:Fn):Lp:=A4 PG (Qjn CN) 64 2 (A3 PG 215 2) Qut Q20
def Qtw (CN:Fn) (N2:Lp):Cfg:=(Qjn CN).loop 2 Qut Q20 N2
def Wj (CN:Fn) (N2:Lp):Fn:=An PG (Qtw CN N2) 64 215 Vi Qby
theorem Znl (CN:Fn) (v0 v1 v2 v3 v4 v5 v6 v7 v8 v9:Int):ON CN [I v0,I v1,I v2,I v3,I v4,I v5,I v6,I v7,I v8,I v9]=
 bif decide (v0<64)then
 (CN [I v1,I v2,I v3,I v4,I v5,I v6,I v7,I v8,I v9]).bind fun o2=>
 bif decide (gA o2 0>wrap .i64 (wrap .i64 (wrap .i64 (wrap .i64 (wrap .i64 (wrap .i64 (16*v0)*v0)*v0)*v0)*4)*4))then
 some (0,[I (wrap .i64 (v0*2)),I v1,I v2,I v3,I v4,I v5,I v6,I v7,I v8,I v9])
 else
 some (1,[I v0])
 else
 some (1,[I v0]):=by kernel_rfl
theorem Zbx (CN:Fn) (N2:Lp) (x0 x1 x2 x3 x4 x5 x6 x7 x8:Int):Wj CN N2 [I x0,I x1,I x2,I x3,I x4,I x5,I x6,I x7,I x8]=
 (N2 [I 2,I x0,I x1,I x2,I x3,I x4,I x5,I x6,I x7,I x8]).bind fun o3=>
 bif o3.1.beq 1 then
 some [jA o3.2 0]
 else
 none:=by kernel_rfl
def Qoo:=Am (ON Gw)
def J1:=Wj Gw Qoo
theorem Q1e:Ai PG (Qjn Gw):=Ap rfl ⟨Que,trivial⟩
theorem Zrn:Ak PG (215,Ac Vi Qby J1):=rw2 (C:=(Qtw Gw Qoo)) (fl fb Q1e) Q1e
def WB:Sk:=⟨[TS.v true [CS.int .u64,CS.int .u64],tf [CS.int .u64]],[],[]⟩
def Qgt:Sk:=⟨[TS.tup [(true,[CS.int .u64,CS.int .u64]),(false,[CS.bool])]],[],[]⟩
def Zcp (M:Fn):Nat×Spec:=(224,Ac WB Qgt M)
def Qbj (FH:Fn):Cfg:=cf [Q3s FH]
def Qh9 (FH:Fn):Fn:=An PG (Qbj FH) 64 224 WB Qgt
theorem Ztm (FH:Fn) (x0 x1 x2:Int):Qh9 FH [U x0,U x1,U x2]=
 (FH [U 0,U x0,U x2]).bind fun o2=>
 (FH [U (gA o2 1),U x1,U x2]).bind fun o3=>
 some [U (gA o2 0),U (gA o3 0),B (decide (gA o3 1>0))]:=by kernel_rfl
def RV:=Qh9 GE
theorem Zvx:Ai PG (Qbj GE):=Ap rfl ⟨Qrf,trivial⟩
theorem Zpz:Ak PG (224,Ac WB Qgt RV):=rw1 (C:=(Qbj GE)) Zvx
def Qke:Sk:=⟨[tf [ci],tf [ci],tf [ci],tf [ci]],[],[]⟩
def Qam:Sk:=⟨[TS.tup [(false,[ci]),(false,[CS.bool])]],[],[]⟩
def Q7g (M:Fn):Nat×Spec:=(220,Ac Qke Qam M)
def XS (Bc CB C9 FW ND BE DN Ch:Fn):Cfg:=cf [UH Bc,Qtj CB,W4 C9,Qyz FW,Zcp ND,S7 BE,Qj5 DN,WS Ch]
def Qd9 (Bc CB C9 FW ND BE DN Ch:Fn):Fn:=An PG (XS Bc CB C9 FW ND BE DN Ch) 64 220 Qke Qam
abbrev OP (CB:Fn) (x3:Int) (Bc:Fn) (o42:List AC) (h1_0:Bool) (h1_1 h1_2 h1_3 h1_4:AC):Option (List AC):=
 bif h1_0 then
 (CB [I x3,h1_1,B true,h1_2]).bind fun o44=>
 bif bA o44 0 then
 (Bc [U (wrap .u64 (wrap .u64 ((gA o42 0).tdiv 2)+1)),h1_2]).bind fun o45=>
 some [jA o45 0,B (bA o45 1)]
 else
 (Bc [U (wrap .u64 ((gA o42 0).tdiv 2)),h1_2]).bind fun o46=>
 some [jA o46 0,B (bA o46 1)]
 else
 (CB [I x3,h1_3,h1_4,h1_2]).bind fun o47=>
 bif bA o47 0 then
 (Bc [U (wrap .u64 (wrap .u64 ((gA o42 0).tdiv 2)+1)),h1_2]).bind fun o48=>
 some [jA o48 0,B (bA o48 1)]
 else
 (Bc [U (wrap .u64 ((gA o42 0).tdiv 2)),h1_2]).bind fun o49=>
 some [jA o49 0,B (bA o49 1)]
attribute [go_sem] OP
theorem Zcc (Bc CB C9 FW ND BE DN Ch:Fn) (x0 x1 x2 x3:Int):Qd9 Bc CB C9 FW ND BE DN Ch [I x0,I x1,I x2,I x3]=
 (Ch [I x0]).bind fun o35=>
 bif decide (gA o35 0>2147483648)then
 some [I 0,B false]
 else
 (Ch [I x1]).bind fun o36=>
 bif decide (gA o36 0>2147483648)then
 some [I 0,B false]
 else
 bif decide (x2<1)then
 some [I 0,B false]
 else
 bif decide (x2>4611686018427387904)then
 some [I 0,B false]
 else
 (DN [I x3]).bind fun o37=>
 bif !bA o37 0 then
 some [I 0,B false]
 else
 (Ch [I x0]).bind fun o38=>
 (Ch [I x1]).bind fun o39=>
 (BE [U (wrap .u64 (2*wrap .u64 (gA o38 0*gA o39 0))),U (wrap .u64 (2*wrap .u64 (gA o38 0*gA o39 0)))]).bind fun o40=>
 (ND [U (gA o40 0),U (gA o40 1),U (wrap .u64 x2)]).bind fun o41=>
 (FW [U (gA o41 0),U (gA o41 1)]).bind fun o42=>
 bif bA o41 2 then
 (C9 [I x0,I x1]).bind fun o43=>
 OP CB x3 Bc o42 ((gA o42 0).tmod 2==1) (I 1) (B (decide (gA o43 0<0))) (I (-1)) (B true)
 else
 (BE [U (gA o42 0),U (gA o42 0)]).bind fun o50=>
 (C9 [I x0,I x1]).bind fun o51=>
 bif(gA o42 0).tmod 2==1 then
 bif !(gA o50 0==gA o41 0&&(gA o50 1==gA o41 1&&true))then
 OP CB x3 Bc o42 (!(gA o50 0==gA o41 0&&(gA o50 1==gA o41 1&&true))) (I 1) (B (decide (gA o51 0<0))) (I 1) (B ((gA o42 0).tmod 2==1))
 else
 OP CB x3 Bc o42 (!(gA o50 0==gA o41 0&&(gA o50 1==gA o41 1&&true))) (I 0) (B (decide (gA o51 0<0))) (I 0) (B ((gA o42 0).tmod 2==1))
 else
 OP CB x3 Bc o42 (!(gA o50 0==gA o41 0&&(gA o50 1==gA o41 1&&true))) (I (-1)) (B (decide (gA o51 0<0))) (I (-1)) (B ((gA o42 0).tmod 2==1)):=by kernel_rfl
def If:=Qd9 E3 Hw Fz JW RV Ep FK F2
theorem Zar:Ai PG (XS E3 Hw Fz JW RV Ep FK F2):=Ap rfl ⟨Xg,Qpe,Qk2,Qqe,Zpz,Ti,Qjw,Vx,trivial⟩
theorem Q51:Ak PG (220,Ac Qke Qam If):=rw1 (C:=(XS E3 Hw Fz JW RV Ep FK F2)) Zar
def Qja:Sk:=⟨[TS.v true [ci,ci,ci],TS.v true [ci,ci,ci],tf [ci]],[],[]⟩
def Qa5:Sk:=⟨[TS.tup [(true,[ci,ci,ci]),(false,[CS.bool])]],[],[]⟩
def Qz6 (M:Fn):Nat×Spec:=(214,Ac Qja Qa5 M)
def Qgx (Ck:Fn):Cfg:={cf [Q7g Ck]with unroll:=[5,10]}
def YL (Ck:Fn):Fn:=An PG (Qgx Ck) 64 214 Qja Qa5
theorem Zcy (Ck:Fn) (x0 x1 x2 x3 x4 x5 x6:Int):YL Ck [I x0,I x1,I x2,I x3,I x4,I x5,I x6]=
 bif x3==x0&&(x4==x1&&(x5==x2&&true))then
 some [I 0,I 0,I 0,B false]
 else
 bif decide (x6<0)then
 some [I 0,I 0,I 0,B false]
 else
 bif decide (x6>33554432)then
 some [I 0,I 0,I 0,B false]
 else
 (Ck [I (wrap .i64 (x3-x0)),I x6,I (wrap .i64 (wrap .i64 (wrap .i64 (0+wrap .i64 (wrap .i64 (x3-x0)*wrap .i64 (x3-x0)))+wrap .i64 (wrap .i64 (x4-x1)*wrap .i64 (x4-x1)))+wrap .i64 (wrap .i64 (x5-x2)*wrap .i64 (x5-x2)))),I 2]).bind fun o3=>
 (Ck [I (wrap .i64 (x4-x1)),I x6,I (wrap .i64 (wrap .i64 (wrap .i64 (0+wrap .i64 (wrap .i64 (x3-x0)*wrap .i64 (x3-x0)))+wrap .i64 (wrap .i64 (x4-x1)*wrap .i64 (x4-x1)))+wrap .i64 (wrap .i64 (x5-x2)*wrap .i64 (x5-x2)))),I 2]).bind fun o4=>
 (Ck [I (wrap .i64 (x5-x2)),I x6,I (wrap .i64 (wrap .i64 (wrap .i64 (0+wrap .i64 (wrap .i64 (x3-x0)*wrap .i64 (x3-x0)))+wrap .i64 (wrap .i64 (x4-x1)*wrap .i64 (x4-x1)))+wrap .i64 (wrap .i64 (x5-x2)*wrap .i64 (x5-x2)))),I 2]).bind fun o5=>
 some [I (wrap .i64 (x0+gA o3 0)),I (wrap .i64 (x1+gA o4 0)),I (wrap .i64 (x2+gA o5 0)),B true]:=by kernel_rfl
def GC:=YL If
theorem Q96:Ai PG (Qgx If):=Ap rfl ⟨Q51,trivial⟩
theorem Qxr:Ak PG (214,Ac Qja Qa5 GC):=rw1 (C:=(Qgx If)) Q96
def Yr:Sk:=⟨[TS.v true [ci,ci,ci],TS.v true [ci,ci,ci],TS.v true [ci,ci,ci],tf [ci]],[],[]⟩
def U_:Sk:=⟨[tf [ci]],[],[]⟩
def Zp1 (M:Fn):Nat×Spec:=(213,Ac Yr U_ M)
def Qd4 (CN Co Da:Fn):Cfg:=cf [Qvp CN,Qz6 Co,Qwe Da]
def Qqs:Sk:=⟨[td,td,td,tf [ci],tf [CS.ptr 4 0],tf [CS.ptr 5 0],tf [CS.ptr 6 0],td,td,tf [ci],tf [ci],tf [ci]]++dd 62,[(4,54,[ci,ci,ci]),(5,54,[ci,ci,ci]),(6,54,[ci,ci,ci])],[]⟩
def Qsj:List (Ex×Sk):=[(Ex.exit 0,⟨dd 10++[tf [ci]]++dd 63,[],[]⟩)]
def Ma (CN Co Da:Fn):Lp:=A4 PG (Qd4 CN Co Da) 64 6 (A3 PG 213 6) Qqs Qsj
def Qqw (CN Co Da:Fn) (N6:Lp):Cfg:=(Qd4 CN Co Da).loop 6 Qqs Qsj N6
def UN (CN Co Da:Fn) (N6:Lp):Fn:=An PG (Qqw CN Co Da N6) 64 213 Yr U_
theorem Q6q (CN Co Da:Fn) (v0 v1 v2 v3 v4 v5 v6 v7 v8 v9 v10 v11 v12:Int):Ma CN Co Da [I v0,I v1,I v2,I v3,I v4,I v5,I v6,I v7,I v8,I v9,I v10,I v11,I v12]=
 bif decide (v3>0)then
 bif decide (wrap .i64 (v2+v3)>v1)then
 some (0,[I v0,I v1,I v2,I (v3.fdiv (2^min (Int.toNat 1) IntKind.i64.bits)),I v4,I v5,I v6,I v7,I v8,I v9,I v10,I v11,I v12])
 else
 (Co [I v7,I v8,I v9,I v4,I v5,I v6,I (wrap .i64 (v2+v3))]).bind fun o8=>
 (Co [I v7,I v8,I v9,I v10,I v11,I v12,I (wrap .i64 (v2+v3))]).bind fun o9=>
 (CN [jA o8 0,jA o8 1,jA o8 2,I v7,I v8,I v9,jA o9 0,jA o9 1,jA o9 2]).bind fun o10=>
 bif decide (gA o10 0<=wrap .i64 (wrap .i64 (16*v0)*v0))then
 some (0,[I v0,I v1,I (wrap .i64 (v2+v3)),I (v3.fdiv (2^min (Int.toNat 1) IntKind.i64.bits)),I v4,I v5,I v6,I v7,I v8,I v9,I v10,I v11,I v12])
 else
 some (0,[I v0,I v1,I v2,I (v3.fdiv (2^min (Int.toNat 1) IntKind.i64.bits)),I v4,I v5,I v6,I v7,I v8,I v9,I v10,I v11,I v12])
 else
 some (1,[I v2]):=by kernel_rfl
theorem Zog (CN Co Da:Fn) (N6:Lp) (x0 x1 x2 x3 x4 x5 x6 x7 x8 x9:Int):UN CN Co Da N6 [I x0,I x1,I x2,I x3,I x4,I x5,I x6,I x7,I x8,I x9]=
 bif x0==x3&&(x1==x4&&(x2==x5&&true))then
 some [I 0]
 else
 bif x6==x3&&(x7==x4&&(x8==x5&&true))then
 some [I 0]
 else
 (Da [I x0,I x1,I x2,I x3,I x4,I x5]).bind fun o11=>
 (Da [I x3,I x4,I x5,I x6,I x7,I x8]).bind fun o12=>
 (N6 [I x9,I (wrap .i64 (mn (gA o11 0) (gA o12 0)-2)),I 0,I 16777216,I x0,I x1,I x2,I x3,I x4,I x5,I x6,I x7,I x8]).bind fun o13=>
 bif o13.1.beq 1 then
 bif decide (gA o13.2 0<16)then
 some [I 0]
 else
 some [jA o13.2 0]
 else
 none:=by kernel_rfl
def Q38:=Am (Ma Gw GC IS)
def K5:=UN Gw GC IS Q38
theorem Q47:Ai PG (Qd4 Gw GC IS):=Ap rfl ⟨Que,Qxr,Qxv,trivial⟩
theorem Z0x:Ak PG (213,Ac Yr U_ K5):=rw2 (C:=(Qqw Gw GC IS Q38)) (fl fb Q47) Q47
def Qgk:Sk:=⟨[TS.v true [ci,ci,ci],TS.v true [ci,ci,ci],TS.v true [ci,ci,ci],tf [ci]],[],[]⟩
def Qm6:Sk:=⟨[tf [CS.sl kPt]],[],[]⟩
def Z1n (M:Fn):Nat×Spec:=(208,Ac Qgk Qm6 M)
def Qle (AI Gq Co G7:Fn):Cfg:={cf [KR AI,Zg9 Gq,Qz6 Co,Zp1 G7]with unroll:=[13]}
def Q6e:Sk:=⟨[td,td,td,td,td,tf [CS.ptr 5 0],td,td,td,td,tf [CS.ptr 10 0],td,tf [CS.ptr 12 0],td,tf [ci],tf [CS.own 50 3]]++dd 36++[tf [ci],tf [ci]]++dd 57,[(5,54,[ci,ci,ci]),(10,54,[ci,ci,ci]),(12,54,[ci,ci,ci])],[(50,54,kPt)]⟩
def Q0r:List (Ex×Sk):=[(Ex.exit 0,⟨dd 15++[tf [CS.own 50 3]]++dd 95,[],[(50,54,kPt)]⟩)]
def LS (AI Gq Co G7:Fn):Lp:=A4 PG (Qle AI Gq Co G7) 64 9 (A3 PG 208 9) Q6e Q0r
def Q5f (AI Gq Co G7:Fn) (N9:Lp):Cfg:=(Qle AI Gq Co G7).loop 9 Q6e Q0r N9
def Vv (AI Gq Co G7:Fn) (N9:Lp):Fn:=An PG (Q5f AI Gq Co G7 N9) 64 208 Qgk Qm6
theorem Q3b (AI Gq Co G7:Fn) (v0:Rw) (v1 v2 v3 v4 v5 v6 v7 v8 v9 v10 v11 v12:Int):LS AI Gq Co G7 [.view kPt v0,I v1,I v2,I v3,I v4,I v5,I v6,I v7,I v8,I v9,I v10,I v11,I v12]=
 bif decide (v3<v2)then
 bif decide (0<=v3)&&decide (v3<(v0.length:Int))then
 (AI [I (wrap .i64 (wrap .i64 (wrap .i64 (wrap .i64 (v1-v3)*wrap .i64 (v1-v3))*wrap .i64 (v7-v4))+wrap .i64 (wrap .i64 (v3*v3)*wrap .i64 (v10-v4)))),I 1,I (wrap .i64 (v1*v1)),I 2]).bind fun o12=>
 bif decide (0<=v3)&&decide (v3<(v0.length:Int))then
 bif decide (0<=v3)&&decide (v3<(v0.length:Int))then
 (AI [I (wrap .i64 (wrap .i64 (wrap .i64 (wrap .i64 (v1-v3)*wrap .i64 (v1-v3))*wrap .i64 (v8-v5))+wrap .i64 (wrap .i64 (v3*v3)*wrap .i64 (v11-v5)))),I 1,I (wrap .i64 (v1*v1)),I 2]).bind fun o13=>
 bif decide (0<=v3)&&decide (v3<(v0.length:Int))then
 bif decide (0<=v3)&&decide (v3<(v0.length:Int))then
 (AI [I (wrap .i64 (wrap .i64 (wrap .i64 (wrap .i64 (v1-v3)*wrap .i64 (v1-v3))*wrap .i64 (v9-v6))+wrap .i64 (wrap .i64 (v3*v3)*wrap .i64 (v12-v6)))),I 1,I (wrap .i64 (v1*v1)),I 2]).bind fun o14=>
 bif decide (0<=v3)&&decide (v3<(v0.length:Int))then
 bif decide (0<=v3)&&decide (v3<(v0.length:Int))then
 some (0,[.view kPt ((((v0.set v3.toNat [I v4,I v5,I v6]).set v3.toNat [I (wrap .i64 (Af (nth .dead (nth [] (v0.set v3.toNat [I v4,I v5,I v6]) v3.toNat) 0)+gA o12 0)),I (Af (nth .dead (nth [] (v0.set v3.toNat [I v4,I v5,I v6]) v3.toNat) 1)),I (Af (nth .dead (nth [] (v0.set v3.toNat [I v4,I v5,I v6]) v3.toNat) 2))]).set v3.toNat [I (Af (nth .dead (nth [] ((v0.set v3.toNat [I v4,I v5,I v6]).set v3.toNat [I (wrap .i64 (Af (nth .dead (nth [] (v0.set v3.toNat [I v4,I v5,I v6]) v3.toNat) 0)+gA o12 0)),I (Af (nth .dead (nth [] (v0.set v3.toNat [I v4,I v5,I v6]) v3.toNat) 1)),I (Af (nth .dead (nth [] (v0.set v3.toNat [I v4,I v5,I v6]) v3.toNat) 2))]) v3.toNat) 0)),I (wrap .i64 (Af (nth .dead (nth [] ((v0.set v3.toNat [I v4,I v5,I v6]).set v3.toNat [I (wrap .i64 (Af (nth .dead (nth [] (v0.set v3.toNat [I v4,I v5,I v6]) v3.toNat) 0)+gA o12 0)),I (Af (nth .dead (nth [] (v0.set v3.toNat [I v4,I v5,I v6]) v3.toNat) 1)),I (Af (nth .dead (nth [] (v0.set v3.toNat [I v4,I v5,I v6]) v3.toNat) 2))]) v3.toNat) 1)+gA o13 0)),I (Af (nth .dead (nth [] ((v0.set v3.toNat [I v4,I v5,I v6]).set v3.toNat [I (wrap .i64 (Af (nth .dead (nth [] (v0.set v3.toNat [I v4,I v5,I v6]) v3.toNat) 0)+gA o12 0)),I (Af (nth .dead (nth [] (v0.set v3.toNat [I v4,I v5,I v6]) v3.toNat) 1)),I (Af (nth .dead (nth [] (v0.set v3.toNat [I v4,I v5,I v6]) v3.toNat) 2))]) v3.toNat) 2))]).set v3.toNat [I (Af (nth .dead (nth [] (((v0.set v3.toNat [I v4,I v5,I v6]).set v3.toNat [I (wrap .i64 (Af (nth .dead (nth [] (v0.set v3.toNat [I v4,I v5,I v6]) v3.toNat) 0)+gA o12 0)),I (Af (nth .dead (nth [] (v0.set v3.toNat [I v4,I v5,I v6]) v3.toNat) 1)),I (Af (nth .dead (nth [] (v0.set v3.toNat [I v4,I v5,I v6]) v3.toNat) 2))]).set v3.toNat [I (Af (nth .dead (nth [] ((v0.set v3.toNat [I v4,I v5,I v6]).set v3.toNat [I (wrap .i64 (Af (nth .dead (nth [] (v0.set v3.toNat [I v4,I v5,I v6]) v3.toNat) 0)+gA o12 0)),I (Af (nth .dead (nth [] (v0.set v3.toNat [I v4,I v5,I v6]) v3.toNat) 1)),I (Af (nth .dead (nth [] (v0.set v3.toNat [I v4,I v5,I v6]) v3.toNat) 2))]) v3.toNat) 0)),I (wrap .i64 (Af (nth .dead (nth [] ((v0.set v3.toNat [I v4,I v5,I v6]).set v3.toNat [I (wrap .i64 (Af (nth .dead (nth [] (v0.set v3.toNat [I v4,I v5,I v6]) v3.toNat) 0)+gA o12 0)),I (Af (nth .dead (nth [] (v0.set v3.toNat [I v4,I v5,I v6]) v3.toNat) 1)),I (Af (nth .dead (nth [] (v0.set v3.toNat [I v4,I v5,I v6]) v3.toNat) 2))]) v3.toNat) 1)+gA o13 0)),I (Af (nth .dead (nth [] ((v0.set v3.toNat [I v4,I v5,I v6]).set v3.toNat [I (wrap .i64 (Af (nth .dead (nth [] (v0.set v3.toNat [I v4,I v5,I v6]) v3.toNat) 0)+gA o12 0)),I (Af (nth .dead (nth [] (v0.set v3.toNat [I v4,I v5,I v6]) v3.toNat) 1)),I (Af (nth .dead (nth [] (v0.set v3.toNat [I v4,I v5,I v6]) v3.toNat) 2))]) v3.toNat) 2))]) v3.toNat) 0)),I (Af (nth .dead (nth [] (((v0.set v3.toNat [I v4,I v5,I v6]).set v3.toNat [I (wrap .i64 (Af (nth .dead (nth [] (v0.set v3.toNat [I v4,I v5,I v6]) v3.toNat) 0)+gA o12 0)),I (Af (nth .dead (nth [] (v0.set v3.toNat [I v4,I v5,I v6]) v3.toNat) 1)),I (Af (nth .dead (nth [] (v0.set v3.toNat [I v4,I v5,I v6]) v3.toNat) 2))]).set v3.toNat [I (Af (nth .dead (nth [] ((v0.set v3.toNat [I v4,I v5,I v6]).set v3.toNat [I (wrap .i64 (Af (nth .dead (nth [] (v0.set v3.toNat [I v4,I v5,I v6]) v3.toNat) 0)+gA o12 0)),I (Af (nth .dead (nth [] (v0.set v3.toNat [I v4,I v5,I v6]) v3.toNat) 1)),I (Af (nth .dead (nth [] (v0.set v3.toNat [I v4,I v5,I v6]) v3.toNat) 2))]) v3.toNat) 0)),I (wrap .i64 (Af (nth .dead (nth [] ((v0.set v3.toNat [I v4,I v5,I v6]).set v3.toNat [I (wrap .i64 (Af (nth .dead (nth [] (v0.set v3.toNat [I v4,I v5,I v6]) v3.toNat) 0)+gA o12 0)),I (Af (nth .dead (nth [] (v0.set v3.toNat [I v4,I v5,I v6]) v3.toNat) 1)),I (Af (nth .dead (nth [] (v0.set v3.toNat [I v4,I v5,I v6]) v3.toNat) 2))]) v3.toNat) 1)+gA o13 0)),I (Af (nth .dead (nth [] ((v0.set v3.toNat [I v4,I v5,I v6]).set v3.toNat [I (wrap .i64 (Af (nth .dead (nth [] (v0.set v3.toNat [I v4,I v5,I v6]) v3.toNat) 0)+gA o12 0)),I (Af (nth .dead (nth [] (v0.set v3.toNat [I v4,I v5,I v6]) v3.toNat) 1)),I (Af (nth .dead (nth [] (v0.set v3.toNat [I v4,I v5,I v6]) v3.toNat) 2))]) v3.toNat) 2))]) v3.toNat) 1)),I (wrap .i64 (Af (nth .dead (nth [] (((v0.set v3.toNat [I v4,I v5,I v6]).set v3.toNat [I (wrap .i64 (Af (nth .dead (nth [] (v0.set v3.toNat [I v4,I v5,I v6]) v3.toNat) 0)+gA o12 0)),I (Af (nth .dead (nth [] (v0.set v3.toNat [I v4,I v5,I v6]) v3.toNat) 1)),I (Af (nth .dead (nth [] (v0.set v3.toNat [I v4,I v5,I v6]) v3.toNat) 2))]).set v3.toNat [I (Af (nth .dead (nth [] ((v0.set v3.toNat [I v4,I v5,I v6]).set v3.toNat [I (wrap .i64 (Af (nth .dead (nth [] (v0.set v3.toNat [I v4,I v5,I v6]) v3.toNat) 0)+gA o12 0)),I (Af (nth .dead (nth [] (v0.set v3.toNat [I v4,I v5,I v6]) v3.toNat) 1)),I (Af (nth .dead (nth [] (v0.set v3.toNat [I v4,I v5,I v6]) v3.toNat) 2))]) v3.toNat) 0)),I (wrap .i64 (Af (nth .dead (nth [] ((v0.set v3.toNat [I v4,I v5,I v6]).set v3.toNat [I (wrap .i64 (Af (nth .dead (nth [] (v0.set v3.toNat [I v4,I v5,I v6]) v3.toNat) 0)+gA o12 0)),I (Af (nth .dead (nth [] (v0.set v3.toNat [I v4,I v5,I v6]) v3.toNat) 1)),I (Af (nth .dead (nth [] (v0.set v3.toNat [I v4,I v5,I v6]) v3.toNat) 2))]) v3.toNat) 1)+gA o13 0)),I (Af (nth .dead (nth [] ((v0.set v3.toNat [I v4,I v5,I v6]).set v3.toNat [I (wrap .i64 (Af (nth .dead (nth [] (v0.set v3.toNat [I v4,I v5,I v6]) v3.toNat) 0)+gA o12 0)),I (Af (nth .dead (nth [] (v0.set v3.toNat [I v4,I v5,I v6]) v3.toNat) 1)),I (Af (nth .dead (nth [] (v0.set v3.toNat [I v4,I v5,I v6]) v3.toNat) 2))]) v3.toNat) 2))]) v3.toNat) 2)+gA o14 0))]),I v1,I v2,I (wrap .i64 (v3+1)),I v4,I v5,I v6,I v7,I v8,I v9,I v10,I v11,I v12])
 else
 none
 else
 none
 else
 none
 else
 none
 else
 none
 else
 none
 else
 none
 else
 some (1,[.view kPt v0]):=by kernel_rfl
theorem Qoz (AI Gq Co G7:Fn) (N9:Lp) (x0 x1 x2 x3 x4 x5 x6 x7 x8 x9:Int):Vv AI Gq Co G7 N9 [I x0,I x1,I x2,I x3,I x4,I x5,I x6,I x7,I x8,I x9]=
 (G7 [I x0,I x1,I x2,I x3,I x4,I x5,I x6,I x7,I x8,I x9]).bind fun o15=>
 bif gA o15 0==0 then
 some [.view kPt [[I x3,I x4,I x5]]]
 else
 (Co [I x3,I x4,I x5,I x0,I x1,I x2,jA o15 0]).bind fun o16=>
 (Co [I x3,I x4,I x5,I x6,I x7,I x8,jA o15 0]).bind fun o17=>
 (Gq [jA o16 0,jA o16 1,jA o16 2,I x3,I x4,I x5,jA o17 0,jA o17 1,jA o17 2]).bind fun o18=>
 bif decide (wrap .i64 (gA o18 0+1)=wrap .i64 (gA o18 0+1))then
 bif decide (0<=wrap .i64 (gA o18 0+1))&&decide (wrap .i64 (gA o18 0+1)*(↑24:Int)<=140737488355328)then
 (N9 [.view kPt (List.replicate (wrap .i64 (gA o18 0+1)).toNat [I 0,I 0,I 0]),jA o18 0,I (↑(List.replicate (wrap .i64 (gA o18 0+1)).toNat [I 0,I 0,I 0]).length:Int),I 0,I x3,I x4,I x5,jA o16 0,jA o16 1,jA o16 2,jA o17 0,jA o17 1,jA o17 2]).bind fun o19=>
 bif o19.1.beq 1 then
 some [.view kPt (wA o19.2 0)]
 else
 none
 else
 none
 else
 none:=by kernel_rfl
def Q35:=Am (LS Bi J1 GC K5)
def OJ:=Vv Bi J1 GC K5 Q35
theorem Q0b:Ai PG (Qle Bi J1 GC K5):=Ap rfl ⟨KG,Zrn,Qxr,Z0x,trivial⟩
theorem Zyu:Ak PG (208,Ac Qgk Qm6 OJ):=rw2 (C:=(Q5f Bi J1 GC K5 Q35)) (fl fb Q0b) Q0b
def Qhx:Sk:=⟨[TS.v true [ci,ci,ci]],[],[]⟩
def Yq:Sk:=⟨[TS.v true [ci,ci,ci]],[],[]⟩
def Zr0 (M:Fn):Nat×Spec:=(209,Ac Qhx Yq M)
def ZI:Cfg:=cf []
def Q1a:Fn:=An PG ZI 64 209 Qhx Yq
theorem Zw1 (x0 x1 x2:Int):Q1a [I x0,I x1,I x2]=
 some [I (wrap .i64 (x0*16)),I (wrap .i64 (x1*16)),I (wrap .i64 (x2*16))]:=by kernel_rfl
def Mq:=Q1a
theorem Zwj:Ai PG (ZI):=Ap rfl trivial
theorem Zw4:Ak PG (209,Ac Qhx Yq Mq):=rw1 (C:=ZI) Zwj
def Qhm:Sk:=⟨[TS.v true (cc 13++[CS.bool,ci,CS.bool]++cc 5++[CS.bool]),TS.v true (cc 13++[CS.bool,ci,CS.bool]++cc 5++[CS.bool])],[],[]⟩
def Xb:Sk:=⟨[TS.tup [(false,[CS.sl kPt]),(false,[CS.sl kPt])]],[],[]⟩
def Zfi (M:Fn):Nat×Spec:=(194,Ac Qhm Xb M)
def Qhk (LR My B6:Fn):Cfg:=cf [Z1n LR,Zr0 My,Qk8 B6]
def Z5 (LR My B6:Fn):Fn:=An PG (Qhk LR My B6) 64 194 Qhm Xb
theorem Zp0 (LR My B6:Fn) (x0 x1 x2 x3 x4 x5 x6 x7 x8 x9 x10 x11 x12:Int) (x13:Bool) (x14:Int) (x15:Bool) (x16 x17 x18 x19 x20:Int) (x21:Bool) (x22 x23 x24 x25 x26 x27 x28 x29 x30 x31 x32 x33 x34:Int) (x35:Bool) (x36:Int) (x37:Bool) (x38 x39 x40 x41 x42:Int) (x43:Bool):Z5 LR My B6 [I x0,I x1,I x2,I x3,I x4,I x5,I x6,I x7,I x8,I x9,I x10,I x11,I x12,B x13,I x14,B x15,I x16,I x17,I x18,I x19,I x20,B x21,I x22,I x23,I x24,I x25,I x26,I x27,I x28,I x29,I x30,I x31,I x32,I x33,I x34,B x35,I x36,B x37,I x38,I x39,I x40,I x41,I x42,B x43]=
 (B6 [I x0,I x1,I x2,I x3,I x4,I x5,I x6,I x7,I x8,I x9,I x10,I x11,I x12,B x13,I x14,B x15,I x16,I x17,I x18,I x19,I x20,B x21]).bind fun o4=>
 (My [I x5,I x6,I x7]).bind fun o5=>
 (B6 [I x22,I x23,I x24,I x25,I x26,I x27,I x28,I x29,I x30,I x31,I x32,I x33,I x34,B x35,I x36,B x37,I x38,I x39,I x40,I x41,I x42,B x43]).bind fun o6=>
 (LR [jA o4 0,jA o4 1,jA o4 2,jA o5 0,jA o5 1,jA o5 2,jA o6 0,jA o6 1,jA o6 2,I (wrap .i64 (x18*16))]).bind fun o7=>
 bif decide (0<=wrap .i64 (wrap .i64 ((wrap .i64 ((↑(wA o7 0).length:Int)-1)).tdiv 2)+1))&&decide (wrap .i64 (wrap .i64 ((wrap .i64 ((↑(wA o7 0).length:Int)-1)).tdiv 2)+1)<=(↑(wA o7 0).length:Int))then
 bif decide (0<=wrap .i64 ((wrap .i64 ((↑(wA o7 0).length:Int)-1)).tdiv 2))&&decide (wrap .i64 ((wrap .i64 ((↑(wA o7 0).length:Int)-1)).tdiv 2)<=(↑(wA o7 0).length:Int))then
 some [.view kPt (List.take (wrap .i64 (wrap .i64 ((wrap .i64 ((↑(wA o7 0).length:Int)-1)).tdiv 2)+1)).toNat (wA o7 0)), .view kPt (List.drop (wrap .i64 ((wrap .i64 ((↑(wA o7 0).length:Int)-1)).tdiv 2)).toNat (wA o7 0))]
 else
 none
 else
 none:=by kernel_rfl
def P4:=Z5 OJ Mq F5
theorem Zq3:Ai PG (Qhk OJ Mq F5):=Ap rfl ⟨Zyu,Zw4,Qlw,trivial⟩
theorem Zd0:Ak PG (194,Ac Qhm Xb P4):=rw1 (C:=(Qhk OJ Mq F5)) Zq3
def XQ:Sk:=⟨[tf [ci]],[],[]⟩
def Qb0:Sk:=⟨[TS.tup [(false,[ci]),(false,[ci]),(false,[ci]),(false,[CS.bool])]],[],[]⟩
def Qig (M:Fn):Nat×Spec:=(188,Ac XQ Qb0 M)
def Qk6:Cfg:=cf []
def Q4n:Fn:=An PG Qk6 64 188 XQ Qb0
theorem Q9i (x0:Int):Q4n [I x0]=
 bif x0==17 then
 some [I 0,I 1,I 2,B true]
 else
 bif x0==18 then
 some [I 2,I 0,I 1,B true]
 else
 bif x0==19 then
 some [I 1,I 2,I 0,B true]
 else
 some [I 0,I 0,I 0,B false]:=by kernel_rfl
def FG:=Q4n
theorem Zk2:Ai PG (Qk6):=Ap rfl trivial
theorem Zt:Ak PG (188,Ac XQ Qb0 FG):=rw1 (C:=Qk6) Zk2
def Qiv:Sk:=⟨[tf [ci],tf [ci],tf [ci],tf [ci]],[],[]⟩
def WT:Sk:=⟨[TS.v true [ci,ci,ci]],[],[]⟩
def Zcl (M:Fn):Nat×Spec:=(207,Ac Qiv WT M)
def Vm (DP:Fn):Cfg:=cf [Qig DP]
def V1 (DP:Fn):Fn:=An PG (Vm DP) 64 207 Qiv WT
abbrev Ta (o1:List AC) (x2:Int) (h2_0 h2_1 h2_2:AC):Option (List AC):=
 bif decide (gA o1 2=(↑0:Int))then
 some [I x2,h2_0,h2_1]
 else
 bif decide (gA o1 2=(↑(0+1):Int))then
 some [h2_2,I x2,h2_1]
 else
 bif decide (gA o1 2=(↑(0+1+1):Int))then
 some [h2_2,h2_0,I x2]
 else
 none
attribute [go_sem] Ta
abbrev Tn (o1:List AC) (x2 x1:Int) (h1_0 h1_1 h1_2:AC):Option (List AC):=
 bif decide (gA o1 1=(↑0:Int))then
 Ta o1 x2 h1_0 h1_1 (I x1)
 else
 bif decide (gA o1 1=(↑(0+1):Int))then
 Ta o1 x2 (I x1) h1_1 h1_2
 else
 bif decide (gA o1 1=(↑(0+1+1):Int))then
 Ta o1 x2 h1_0 (I x1) h1_2
 else
 none
attribute [go_sem] Tn
theorem Zao (DP:Fn) (x0 x1 x2 x3:Int):V1 DP [I x0,I x1,I x2,I x3]=
 (DP [I x3]).bind fun o1=>
 bif bA o1 3 then
 bif decide (gA o1 0=(↑0:Int))then
 Tn o1 x2 x1 (I 0) (I 0) (I x0)
 else
 bif decide (gA o1 0=(↑(0+1):Int))then
 Tn o1 x2 x1 (I x0) (I 0) (I 0)
 else
 bif decide (gA o1 0=(↑(0+1+1):Int))then
 Tn o1 x2 x1 (I 0) (I x0) (I 0)
 else
 none
 else
 some [I 0,I 0,I 0]:=by kernel_rfl
def Of:=V1 FG
theorem Q9e:Ai PG (Vm FG):=Ap rfl ⟨Zt,trivial⟩
theorem Z1t:Ak PG (207,Ac Qiv WT Of):=rw1 (C:=(Vm FG)) Q9e
def Qat:Sk:=⟨[TS.v true [ci,ci,ci],tf [ci]],[],[]⟩
def X8:Sk:=⟨[TS.tup [(false,[ci]),(false,[ci]),(false,[ci])]],[],[]⟩
def Qpa (M:Fn):Nat×Spec:=(203,Ac Qat X8 M)
def Qm7 (DP:Fn):Cfg:=cf [Qig DP]
def Vr (DP:Fn):Fn:=An PG (Qm7 DP) 64 203 Qat X8
abbrev QE (o1:List AC) (h1_0:AC) (x0 x1 x2:Int) (h2_0:AC):Option (List AC):=
 bif decide (gA o1 2=(↑0:Int))then
 some [h1_0,h2_0,I x0]
 else
 bif decide (gA o1 2=(↑(0+1):Int))then
 some [h1_0,h2_0,I x1]
 else
 bif decide (gA o1 2=(↑(0+1+1):Int))then
 some [h1_0,h2_0,I x2]
 else
 none
attribute [go_sem] QE
abbrev Sw (o1:List AC) (x0 x1 x2:Int) (h1_0:AC):Option (List AC):=
 bif decide (gA o1 1=(↑0:Int))then
 QE o1 h1_0 x0 x1 x2 (I x0)
 else
 bif decide (gA o1 1=(↑(0+1):Int))then
 QE o1 h1_0 x0 x1 x2 (I x1)
 else
 bif decide (gA o1 1=(↑(0+1+1):Int))then
 QE o1 h1_0 x0 x1 x2 (I x2)
 else
 none
attribute [go_sem] Sw
theorem Zy8 (DP:Fn) (x0 x1 x2 x3:Int):Vr DP [I x0,I x1,I x2,I x3]=
 (DP [I x3]).bind fun o1=>
 bif !bA o1 3 then
 some [I 0,I 0,I 0]
 else
 bif decide (gA o1 0=(↑0:Int))then
 Sw o1 x0 x1 x2 (I x0)
 else
 bif decide (gA o1 0=(↑(0+1):Int))then
 Sw o1 x0 x1 x2 (I x1)
 else
 bif decide (gA o1 0=(↑(0+1+1):Int))then
 Sw o1 x0 x1 x2 (I x2)
 else
 none:=by kernel_rfl
def HT:=Vr FG
theorem Zdr:Ai PG (Qm7 FG):=Ap rfl ⟨Zt,trivial⟩
theorem Q6b:Ak PG (203,Ac Qat X8 HT):=rw1 (C:=(Qm7 FG)) Zdr
def Zw:Sk:=⟨[TS.v true [ci,ci,ci]],[],[]⟩
def Qkq:Sk:=⟨[TS.v true [ci,ci,ci]],[],[]⟩
def Qrh (M:Fn):Nat×Spec:=(204,Ac Zw Qkq M)
def Qcx:Cfg:=cf []
def Qp8:Fn:=An PG Qcx 64 204 Zw Qkq
theorem Zfc (x0 x1 x2:Int):Qp8 [I x0,I x1,I x2]=
 some [I (wrap .i64 (x0*16)),I (wrap .i64 (x1*16)),I (wrap .i64 (x2*16))]:=by kernel_rfl
def Hz:=Qp8
theorem Zv6:Ai PG (Qcx):=Ap rfl trivial
theorem Qnz:Ak PG (204,Ac Zw Qkq Hz):=rw1 (C:=Qcx) Zv6
def Qb3:Sk:=⟨[TS.v true [ci,ci,ci,ci],TS.v true [ci,ci,ci,ci]],[],[]⟩
def X9:Sk:=⟨[tf [ci]],[],[]⟩
def Uh (M:Fn):Nat×Spec:=(192,Ac Qb3 X9 M)
def YE:Cfg:=cf []
def Qw9:Fn:=An PG YE 64 192 Qb3 X9
theorem Zu9 (x0 x1 x2 x3 x4 x5 x6 x7:Int):Qw9 [I x0,I x1,I x2,I x3,I x4,I x5,I x6,I x7]=
 some [I (wrap .i64 (wrap .i64 (x0*x5)-wrap .i64 (x1*x4)))]:=by kernel_rfl
def G9:=Qw9
theorem Zkt:Ai PG (YE):=Ap rfl trivial
theorem XY:Ak PG (192,Ac Qb3 X9 G9):=rw1 (C:=YE) Zkt
def Qho:Sk:=⟨[TS.v true [ci,ci,ci,ci],TS.v true [ci,ci,ci,ci]],[],[]⟩
def Qc8:Sk:=⟨[tf [ci]],[],[]⟩
def XV (M:Fn):Nat×Spec:=(190,Ac Qho Qc8 M)
def Uf:Cfg:=cf []
def Q0q:Fn:=An PG Uf 64 190 Qho Qc8
theorem Q8l (x0 x1 x2 x3 x4 x5 x6 x7:Int):Q0q [I x0,I x1,I x2,I x3,I x4,I x5,I x6,I x7]=
 some [I (wrap .i64 (wrap .i64 (x0*x4)+wrap .i64 (x1*x5)))]:=by kernel_rfl
def GN:=Q0q
theorem Zjp:Ai PG (Uf):=Ap rfl trivial
theorem T9:Ak PG (190,Ac Qho Qc8 GN):=rw1 (C:=Uf) Zjp
def Qjj:Sk:=⟨[TS.v true [ci,ci,ci,ci],TS.v true [ci,ci,ci,ci],tf [ci],tf [CS.bool]],[],[]⟩
def Qd3:Sk:=⟨[TS.tup [(true,[ci,ci,ci,ci]),(false,[CS.bool])]],[],[]⟩
def Ztw (M:Fn):Nat×Spec:=(218,Ac Qjj Qd3 M)
def Qc3 (Ck CE Cb:Fn):Cfg:=cf [Q7g Ck,Uh CE,XV Cb]
def Qd0 (Ck CE Cb:Fn):Fn:=An PG (Qc3 Ck CE Cb) 64 218 Qjj Qd3
abbrev WW (Ck:Fn) (h1_2:AC) (x2 x6:Int) (h1_3 h1_4:AC) (x3 x7:Int):Option (List AC):=
 (Ck [h1_2,I ((wrap .i64 (wrap .i64 (x2+x6)+1)).fdiv (2^min (Int.toNat 1) IntKind.i64.bits)),h1_3,I 2]).bind fun o36=>
 (Ck [h1_4,I ((wrap .i64 (wrap .i64 (x2+x6)+1)).fdiv (2^min (Int.toNat 1) IntKind.i64.bits)),h1_3,I 2]).bind fun o37=>
 some [jA o36 0,jA o37 0,I ((wrap .i64 (wrap .i64 (x2+x6)+1)).fdiv (2^min (Int.toNat 1) IntKind.i64.bits)),I ((wrap .i64 (wrap .i64 (x3+x7)+1)).fdiv (2^min (Int.toNat 1) IntKind.i64.bits)),B true]
attribute [go_sem] WW
abbrev PP (Ck:Fn) (x2 x6 x3 x7:Int) (h1_0 h1_1:Bool) (h1_2 h1_3 h1_4:AC):Option (List AC):=
 bif h1_0 then
 bif h1_1 then
 some [I 0,I 0,I 0,I 0,B false]
 else
 WW Ck h1_2 x2 x6 h1_3 h1_4 x3 x7
 else
 WW Ck h1_2 x2 x6 h1_3 h1_4 x3 x7
attribute [go_sem] PP
abbrev Wd (x9:Bool) (Ck:Fn) (x2 x6 x3 x7 x0 x1:Int) (Cb:Fn) (x4 x5 x8:Int) (CE:Fn):Option (List AC):=
 bif x9 then
 PP Ck x2 x6 x3 x7 (wrap .i64 (0-x0)==0) (wrap .i64 (0-x1)==0) (I (wrap .i64 (0-x0))) (I (wrap .i64 (wrap .i64 (wrap .i64 (0-x0)*wrap .i64 (0-x0))+wrap .i64 (wrap .i64 (0-x1)*wrap .i64 (0-x1))))) (I (wrap .i64 (0-x1)))
 else
 (Cb [I x0,I x1,I x2,I x3,I x4,I x5,I x6,I x7]).bind fun o40=>
 bif decide (gA o40 0<=0)then
 PP Ck x2 x6 x3 x7 (wrap .i64 (x8*wrap .i64 (x5-x1))==0) (wrap .i64 (x8*wrap .i64 (x0-x4))==0) (I (wrap .i64 (x8*wrap .i64 (x5-x1)))) (I (wrap .i64 (wrap .i64 (wrap .i64 (x8*wrap .i64 (x5-x1))*wrap .i64 (x8*wrap .i64 (x5-x1)))+wrap .i64 (wrap .i64 (x8*wrap .i64 (x0-x4))*wrap .i64 (x8*wrap .i64 (x0-x4)))))) (I (wrap .i64 (x8*wrap .i64 (x0-x4))))
 else
 (CE [I x0,I x1,I x2,I x3,I x4,I x5,I x6,I x7]).bind fun o45=>
 bif decide (wrap .i64 (gA o45 0*x8)<=0)then
 PP Ck x2 x6 x3 x7 (wrap .i64 (0-wrap .i64 (x0+x4))==0) (wrap .i64 (0-wrap .i64 (x1+x5))==0) (I (wrap .i64 (0-wrap .i64 (x0+x4)))) (I (wrap .i64 (wrap .i64 (wrap .i64 (0-wrap .i64 (x0+x4))*wrap .i64 (0-wrap .i64 (x0+x4)))+wrap .i64 (wrap .i64 (0-wrap .i64 (x1+x5))*wrap .i64 (0-wrap .i64 (x1+x5)))))) (I (wrap .i64 (0-wrap .i64 (x1+x5))))
 else
 PP Ck x2 x6 x3 x7 (wrap .i64 (x0+x4)==0) (wrap .i64 (x1+x5)==0) (I (wrap .i64 (x0+x4))) (I (wrap .i64 (wrap .i64 (wrap .i64 (x0+x4)*wrap .i64 (x0+x4))+wrap .i64 (wrap .i64 (x1+x5)*wrap .i64 (x1+x5))))) (I (wrap .i64 (x1+x5)))
attribute [go_sem] Wd
theorem Q8g (Ck CE Cb:Fn) (x0 x1 x2 x3 x4 x5 x6 x7 x8:Int) (x9:Bool):Qd0 Ck CE Cb [I x0,I x1,I x2,I x3,I x4,I x5,I x6,I x7,I x8,B x9]=
 bif x8 !=1 then
 bif x8 != -1 then
 some [I 0,I 0,I 0,I 0,B false]
 else
 Wd x9 Ck x2 x6 x3 x7 x0 x1 Cb x4 x5 x8 CE
 else
 Wd x9 Ck x2 x6 x3 x7 x0 x1 Cb x4 x5 x8 CE:=by kernel_rfl
def Ly:=Qd0 If G9 GN
theorem Zle:Ai PG (Qc3 If G9 GN):=Ap rfl ⟨Q51,XY,T9,trivial⟩
theorem Z0r:Ak PG (218,Ac Qjj Qd3 Ly):=rw1 (C:=(Qc3 If G9 GN)) Zle
def Qib:Sk:=⟨[tf [ci],tf [ci]],[],[]⟩
def Qia:Sk:=⟨[tf [CS.bool]],[],[]⟩
def Zce (M:Fn):Nat×Spec:=(223,Ac Qib Qia M)
def Xx:Cfg:=cf []
def Qy2:Fn:=An PG Xx 64 223 Qib Qia
theorem Zzk (x0 x1:Int):Qy2 [I x0,I x1]=
 some [B (decide (x1<=wrap .i64 (wrap .i64 (wrap .i64 (8*x0)*4)-64)))]:=by kernel_rfl
def Nn:=Qy2
theorem Zqj:Ai PG (Xx):=Ap rfl trivial
theorem Zut:Ak PG (223,Ac Qib Qia Nn):=rw1 (C:=Xx) Zqj
def Zy:Sk:=⟨[tf [CS.ptr 20000 0],TS.v true [ci,ci,ci,ci],TS.v true [ci,ci,ci,ci],tf [CS.bool]],[(20000,254,[ci,CS.own 20000 4])],[(20000,231,[kI,kI,kI,kI])]⟩
def Qct:Sk:=⟨[tf [CS.bool]],[(20000,254,[ci,CS.own 20000 4])],[(20000,231,[kI,kI,kI,kI])]⟩
def Zyd (M:Fn):Nat×Spec:=(217,Ac Zy Qct M)
def Qih (Ot CE:Fn):Cfg:=cf [Zce Ot,Uh CE]
def WU (Ot CE:Fn):Fn:=An PG (Qih Ot CE) 64 217 Zy Qct
theorem Zqr (Ot CE:Fn) (x0:Rw) (x1 x2 x3 x4 x5 x6 x7 x8:Int) (x9:Bool) (x10:Int):WU Ot CE [.view [kI,kI,kI,kI] x0,I x1,I x2,I x3,I x4,I x5,I x6,I x7,I x8,B x9,I x10]=
 bif !x9 then
 (CE [I x1,I x2,I x3,I x4,I x5,I x6,I x7,I x8]).bind fun o2=>
 bif decide (wrap .i64 (gA o2 0*x10)>0)then
 (Ot [I (mn x3 x7),I (wrap .i64 (wrap .i64 (wrap .i64 (x1-x5)*wrap .i64 (x1-x5))+wrap .i64 (wrap .i64 (x2-x6)*wrap .i64 (x2-x6))))]).bind fun o3=>
 some [.view [kI,kI,kI,kI] x0,B (bA o3 0),I x10]
 else
 some [.view [kI,kI,kI,kI] x0,B false,I x10]
 else
 some [.view [kI,kI,kI,kI] x0,B false,I x10]:=by kernel_rfl
def KD:=WU Nn G9
theorem Q8b:Ai PG (Qih Nn G9):=Ap rfl ⟨Zut,XY,trivial⟩
theorem Zvm:Ak PG (217,Ac Zy Qct KD):=rw1 (C:=(Qih Nn G9)) Q8b
def Q41:Nat:=20
def K2:Sk:=⟨[tf [CS.ptr 20000 0],TS.v true [ci,ci,ci,ci],TS.v true [ci,ci,ci,ci],tf [CS.bool],tf [ci]],[(20000,254,[ci,CS.own 20000 4])],[(20000,231,[kI,kI,kI,kI])]⟩
def LJ:Sk:=⟨[TS.tup []],[(20000,254,[ci,CS.own 20000 4])],[(20000,231,[kI,kI,kI,kI])]⟩
def Qw7 (M:Fn):Nat×Spec:=(212,Ac K2 LJ M)
def Qkx (Ft L_ No:Fn):Cfg:=cp [Qw7 Ft,Ztw L_,Zyd No] [212,217]
def R5 (Ft L_ No:Fn):Fn:=An PG (Qkx Ft L_ No) 64 212 K2 LJ
theorem Qzs (Ft L_ No:Fn) (x0:Rw) (x1 x2 x3 x4 x5 x6 x7 x8:Int) (x9:Bool) (x10 x11:Int):R5 Ft L_ No [.view [kI,kI,kI,kI] x0,I x1,I x2,I x3,I x4,I x5,I x6,I x7,I x8,B x9,I x10,I x11]=
 bif decide (x10<16)then
 (No [.view [kI,kI,kI,kI] x0,I x1,I x2,I x3,I x4,I x5,I x6,I x7,I x8,B x9,I x11]).bind fun o4=>
 bif !bA o4 1 then
 (L_ [I x1,I x2,I x3,I x4,I x5,I x6,I x7,I x8,jA o4 2,B x9]).bind fun o5=>
 bif bA o5 4 then
 (Ft [.view [kI,kI,kI,kI] (wA o4 0),I x1,I x2,I x3,I x4,jA o5 0,jA o5 1,jA o5 2,jA o5 3,B false,I (wrap .i64 (x10+1)),jA o4 2]).bind fun o6=>
 (Ft [.view [kI,kI,kI,kI] (wA o6 0),jA o5 0,jA o5 1,jA o5 2,jA o5 3,I x5,I x6,I x7,I x8,B false,I (wrap .i64 (x10+1)),jA o6 1]).bind fun o7=>
 some [.view [kI,kI,kI,kI] (wA o7 0),jA o7 1]
 else
 bif((wA o4 0++[[I x5,I x6,I x7,I x8]]).length*32).ble 140737488355328 then
 some [.view [kI,kI,kI,kI] (wA o4 0++[[I x5,I x6,I x7,I x8]]),jA o4 2]
 else
 none
 else
 bif((wA o4 0++[[I x5,I x6,I x7,I x8]]).length*32).ble 140737488355328 then
 some [.view [kI,kI,kI,kI] (wA o4 0++[[I x5,I x6,I x7,I x8]]),jA o4 2]
 else
 none
 else
 bif((x0++[[I x5,I x6,I x7,I x8]]).length*32).ble 140737488355328 then
 some [.view [kI,kI,kI,kI] (x0++[[I x5,I x6,I x7,I x8]]),I x11]
 else
 none:=by kernel_rfl
def Q0g (M:Fn):Fn:=R5 M Ly KD
def Oj:Nat->Fn
 |0=>fun _=>none
 |n+1=>Q0g (Oj n)
theorem Q88 {M:Fn} (h:Ak PG (212,Ac K2 LJ M)):Ai PG (Qkx M Ly KD):=Ap rfl ⟨h,Z0r,Zvm,trivial⟩
theorem Q8v {M:Fn} (h:Ak PG (212,Ac K2 LJ M)):Ak PG (212,Ac K2 LJ (Q0g M)):=Qmm (C:=(Qkx M Ly KD)) (L:=64) (by kernel_rfl) (FnOK.bare rfl rfl rfl) (Q88 h) eqOk Ii (by kernel_rfl) (by kernel_rfl)
theorem Qu5:∀n,Ak PG (212,Ac K2 LJ (Oj n))
 |0=>OS
 |n+1=>Q8v (Qu5 n)
def Sx:=Oj Q41
theorem Zb8:Ak PG (212,Ac K2 LJ Sx):=Qu5 Q41
def Zq:Sk:=⟨[TS.v true (cc 13++[CS.bool,ci,CS.bool]++cc 5++[CS.bool])],[],[]⟩
def Qac:Sk:=⟨[TS.tup [(true,[ci,ci,ci,ci]),(true,[ci,ci,ci,ci])]],[],[]⟩
def Q7h (M:Fn):Nat×Spec:=(189,Ac Zq Qac M)
def Vz (Cc B1:Fn):Cfg:=cf [Qpa Cc,Qrh B1]
def Qs3:Sk:=⟨[td,tf [CS.ptr 1 0],tf [CS.ptr 2 0],tf [CS.ptr 3 0],tf [CS.ptr 4 0],tf [ci],tf [ci]]++dd 20++[TS.v true (cc 6),tf [ci]]++dd 27,[(1,74,cc 13++[CS.bool,ci,CS.bool]++cc 5++[CS.bool]),(2,231,[ci,ci,ci,ci]),(3,231,[ci,ci,ci,ci]),(4,242,cc 8)],[]⟩
def Q43:List (Ex×Sk):=[(Ex.exit 0,⟨[td,td,tf [CS.ptr 2 0],tf [CS.ptr 3 0],tf [CS.ptr 4 0]]++dd 51,[(2,231,[ci,ci,ci,ci]),(3,231,[ci,ci,ci,ci]),(4,242,cc 8)],[]⟩)]
def Xv (Cc B1:Fn):Lp:=A4 PG (Vz Cc B1) 64 4 (A3 PG 189 4) Qs3 Q43
def Qpf (Cc B1:Fn) (N4:Lp):Cfg:=(Vz Cc B1).loop 4 Qs3 Q43 N4
def Qkf (Cc B1:Fn) (N4:Lp):Fn:=An PG (Qpf Cc B1 N4) 64 189 Zq Qac
abbrev Qf6 (B1 Cc:Fn) (v17 v8 v0 v1 v2 v3 v4 v5 v6 v7 v9 v10 v11 v12 v13 v14 v15 v16 v18 v19 v20 v21:Int) (v22:Bool) (v23:Int) (v24:Bool) (v25 v26 v27 v28 v29:Int) (v30:Bool) (v31 v32 v33 v34 v35 v36 v37 v38 v43 v44 v45 v46 v39 v40 v41 v42:Int) (h1_0 h1_1 h1_2:AC):Option (Nat×List AC):=
 (B1 [h1_0,h1_1,h1_2]).bind fun o9=>
 (Cc [jA o9 0,jA o9 1,jA o9 2,I v17]).bind fun o10=>
 bif decide (v8=(↑0:Int))then
 some (0,[I v0,I v1,I v2,I v3,I v4,I v5,I v6,I v7,I (wrap .i64 (v8+1)),I v9,I v10,I v11,I v12,I v13,I v14,I v15,I v16,I v17,I v18,I v19,I v20,I v21,B v22,I v23,B v24,I v25,I v26,I v27,I v28,I v29,B v30,I v31,I v32,I v33,I v34,I v35,I v36,I v37,I v38,I (wrap .i64 (gA o10 0-v0)),I (wrap .i64 (gA o10 1-v1)),I 0,jA o10 2,I v43,I v44,I v45,I v46])
 else
 bif decide (v8=(↑(0+1):Int))then
 some (0,[I v0,I v1,I v2,I v3,I v4,I v5,I v6,I v7,I (wrap .i64 (v8+1)),I v9,I v10,I v11,I v12,I v13,I v14,I v15,I v16,I v17,I v18,I v19,I v20,I v21,B v22,I v23,B v24,I v25,I v26,I v27,I v28,I v29,B v30,I v31,I v32,I v33,I v34,I v35,I v36,I v37,I v38,I v39,I v40,I v41,I v42,I (wrap .i64 (gA o10 0-v0)),I (wrap .i64 (gA o10 1-v1)),I 0,jA o10 2])
 else
 none
attribute [go_sem] Qf6
theorem T6 (Cc B1:Fn) (v0 v1 v2 v3 v4 v5 v6 v7 v8 v9 v10 v11 v12 v13 v14 v15 v16 v17 v18 v19 v20 v21:Int) (v22:Bool) (v23:Int) (v24:Bool) (v25 v26 v27 v28 v29:Int) (v30:Bool) (v31 v32 v33 v34 v35 v36 v37 v38 v39 v40 v41 v42 v43 v44 v45 v46:Int):Xv Cc B1 [I v0,I v1,I v2,I v3,I v4,I v5,I v6,I v7,I v8,I v9,I v10,I v11,I v12,I v13,I v14,I v15,I v16,I v17,I v18,I v19,I v20,I v21,B v22,I v23,B v24,I v25,I v26,I v27,I v28,I v29,B v30,I v31,I v32,I v33,I v34,I v35,I v36,I v37,I v38,I v39,I v40,I v41,I v42,I v43,I v44,I v45,I v46]=
 bif decide (v8<2)then
 bif decide (v8=(↑0:Int))then
 Qf6 B1 Cc v17 v8 v0 v1 v2 v3 v4 v5 v6 v7 v9 v10 v11 v12 v13 v14 v15 v16 v18 v19 v20 v21 v22 v23 v24 v25 v26 v27 v28 v29 v30 v31 v32 v33 v34 v35 v36 v37 v38 v43 v44 v45 v46 v39 v40 v41 v42 (I v2) (I v3) (I v4)
 else
 bif decide (v8=(↑(0+1):Int))then
 Qf6 B1 Cc v17 v8 v0 v1 v2 v3 v4 v5 v6 v7 v9 v10 v11 v12 v13 v14 v15 v16 v18 v19 v20 v21 v22 v23 v24 v25 v26 v27 v28 v29 v30 v31 v32 v33 v34 v35 v36 v37 v38 v43 v44 v45 v46 v39 v40 v41 v42 (I v5) (I v6) (I v7)
 else
 none
 else
 some (1,[I v31,I v32,I v33,I v34,I v35,I v36,I v37,I v38,I v39,I v40,I v41,I v42,I v43,I v44,I v45,I v46]):=by kernel_rfl
theorem Zdo (Cc B1:Fn) (N4:Lp) (x0 x1 x2 x3 x4 x5 x6 x7 x8 x9 x10 x11 x12:Int) (x13:Bool) (x14:Int) (x15:Bool) (x16 x17 x18 x19 x20:Int) (x21:Bool):Qkf Cc B1 N4 [I x0,I x1,I x2,I x3,I x4,I x5,I x6,I x7,I x8,I x9,I x10,I x11,I x12,B x13,I x14,B x15,I x16,I x17,I x18,I x19,I x20,B x21]=
 (B1 [I x9,I x10,I x11]).bind fun o13=>
 (Cc [jA o13 0,jA o13 1,jA o13 2,I x8]).bind fun o14=>
 (N4 [jA o14 0,jA o14 1,I x2,I x3,I x4,I x5,I x6,I x7,I 0,I x0,I x1,I x2,I x3,I x4,I x5,I x6,I x7,I x8,I x9,I x10,I x11,I x12,B x13,I x14,B x15,I x16,I x17,I x18,I x19,I x20,B x21,I 0,I 0,I 0,I 0,I 0,I 0,I 0,I 0,I 0,I 0,I 0,I 0,I 0,I 0,I 0,I 0]).bind fun o15=>
 bif o15.1.beq 1 then
 some [jA o15.2 8,jA o15.2 9,jA o15.2 10,jA o15.2 11,jA o15.2 12,jA o15.2 13,jA o15.2 14,jA o15.2 15]
 else
 none:=by kernel_rfl
def Q2z:=Am (Xv HT Hz)
def JQ:=Qkf HT Hz Q2z
theorem Q7j:Ai PG (Vz HT Hz):=Ap rfl ⟨Q6b,Qnz,trivial⟩
theorem Q6f:Ak PG (189,Ac Zq Qac JQ):=rw2 (C:=(Qpf HT Hz Q2z)) (fl fb Q7j) Q7j
def Qhl:Sk:=⟨[tf [ci],tf [ci],tf [ci],tf [ci]],[],[]⟩
def Zc:Sk:=⟨[tf [ci]],[],[]⟩
def Zrj (M:Fn):Nat×Spec:=(205,Ac Qhl Zc M)
def Qcz (DY BE Ch C9:Fn):Cfg:=cf [Q58 DY,S7 BE,WS Ch,W4 C9]
def Z0 (DY BE Ch C9:Fn):Fn:=An PG (Qcz DY BE Ch C9) 64 205 Qhl Zc
theorem Zos (DY BE Ch C9:Fn) (x0 x1 x2 x3:Int):Z0 DY BE Ch C9 [I x0,I x1,I x2,I x3]=
 (C9 [I x0,I x1]).bind fun o9=>
 (C9 [I x2,I x3]).bind fun o10=>
 bif gA o9 0 !=gA o10 0 then
 bif decide (gA o9 0<gA o10 0)then
 some [I (-1)]
 else
 some [I 1]
 else
 (Ch [I x0]).bind fun o11=>
 (Ch [I x1]).bind fun o12=>
 (BE [U (gA o11 0),U (gA o12 0)]).bind fun o13=>
 (Ch [I x2]).bind fun o14=>
 (Ch [I x3]).bind fun o15=>
 (BE [U (gA o14 0),U (gA o15 0)]).bind fun o16=>
 (DY [U (gA o13 0),U (gA o13 1),U (gA o16 0),U (gA o16 1)]).bind fun o17=>
 some [I (wrap .i64 (gA o9 0*gA o17 0))]:=by kernel_rfl
def Ni:=Z0 Is Ep F2 Fz
theorem Zja:Ai PG (Qcz Is Ep F2 Fz):=Ap rfl ⟨Q4e,Ti,Vx,Qk2,trivial⟩
theorem Zkr:Ak PG (205,Ac Qhl Zc Ni):=rw1 (C:=(Qcz Is Ep F2 Fz)) Zja
def Qi1:Sk:=⟨[tf [ci],tf [ci]],[],[]⟩
def U2:Sk:=⟨[tf [CS.bool]],[],[]⟩
def Zjz (M:Fn):Nat×Spec:=(191,Ac Qi1 U2 M)
def Qex (NB:Fn):Cfg:=cf [Zrj NB]
def Qi0 (NB:Fn):Fn:=An PG (Qex NB) 64 191 Qi1 U2
theorem Z0o (NB:Fn) (x0 x1:Int):Qi0 NB [I x0,I x1]=
 bif decide (wrap .i64 (wrap .i64 (mx x0 x1-mn x0 x1)-16)<=0)then
 some [B true]
 else
 (NB [I (wrap .i64 (wrap .i64 (mx x0 x1-mn x0 x1)-16)),I (wrap .i64 (wrap .i64 (mx x0 x1-mn x0 x1)-16)),I 64,I (mn x0 x1)]).bind fun o1=>
 some [B (decide (gA o1 0<=0))]:=by kernel_rfl
def OF:=Qi0 Ni
theorem Zom:Ai PG (Qex Ni):=Ap rfl ⟨Zkr,trivial⟩
theorem Zm5:Ak PG (191,Ac Qi1 U2 OF):=rw1 (C:=(Qex Ni)) Zom
def Qk0:Sk:=⟨[TS.v true [ci,ci,ci]],[],[]⟩
def Ql8:Sk:=⟨[tf [CS.bool]],[],[]⟩
def Zyr (M:Fn):Nat×Spec:=(187,Ac Qk0 Ql8 M)
def Qhw:Cfg:={cf []with unroll:=[2]}
def Q16:Fn:=An PG Qhw 64 187 Qk0 Ql8
theorem Zjx (x0 x1 x2:Int):Q16 [I x0,I x1,I x2]=
 bif decide (x0< -1048576)then
 some [B false]
 else
 bif decide (x0>1048576)then
 some [B false]
 else
 bif decide (x1< -1048576)then
 some [B false]
 else
 bif decide (x1>1048576)then
 some [B false]
 else
 bif decide (x2< -1048576)then
 some [B false]
 else
 bif decide (x2>1048576)then
 some [B false]
 else
 some [B true]:=by kernel_rfl
def LU:=Q16
theorem Zyn:Ai PG (Qhw):=Ap rfl trivial
theorem Zqp:Ak PG (187,Ac Qk0 Ql8 LU):=rw1 (C:=Qhw) Zyn
def Qkg:Sk:=⟨[TS.v true (cc 13++[CS.bool,ci,CS.bool]++cc 5++[CS.bool])],[],[]⟩
def Qis:Sk:=⟨[tf [CS.bool]],[],[]⟩
def U9 (M:Fn):Nat×Spec:=(167,Ac Qkg Qis M)
def Qe3 (CE IF Cb EX DP Hc:Fn):Cfg:=cf [Uh CE,Zjz IF,XV Cb,Q7h EX,Qig DP,Zyr Hc]
def Wr (CE IF Cb EX DP Hc:Fn):Fn:=An PG (Qe3 CE IF Cb EX DP Hc) 64 167 Qkg Qis
abbrev YU (Hc:Fn) (x9 x10 x11:Int) (EX:Fn) (x0 x1 x2 x3 x4 x5 x6 x7 x8 x12:Int) (x13:Bool) (x14:Int) (x15:Bool) (x16 x17 x18 x19 x20:Int) (x21:Bool) (Cb IF CE:Fn):Option (List AC):=
 (Hc [I x9,I x10,I x11]).bind fun o20=>
 bif !bA o20 0 then
 some [B false]
 else
 (EX [I x0,I x1,I x2,I x3,I x4,I x5,I x6,I x7,I x8,I x9,I x10,I x11,I x12,B x13,I x14,B x15,I x16,I x17,I x18,I x19,I x20,B x21]).bind fun o21=>
 (Cb [jA o21 0,jA o21 1,jA o21 2,jA o21 3,jA o21 0,jA o21 1,jA o21 2,jA o21 3]).bind fun o22=>
 (Cb [jA o21 4,jA o21 5,jA o21 6,jA o21 7,jA o21 4,jA o21 5,jA o21 6,jA o21 7]).bind fun o23=>
 bif decide (gA o22 0<wrap .i64 (128*128))then
 some [B false]
 else
 bif decide (gA o23 0<wrap .i64 (128*128))then
 some [B false]
 else
 (IF [I (wrap .i64 ((gA o22 0).tdiv 256)),I (wrap .i64 ((gA o23 0).tdiv 256))]).bind fun o24=>
 bif !bA o24 0 then
 some [B false]
 else
 bif x13 then
 bif gA o21 0==gA o21 4 then
 some [B (gA o21 1==gA o21 5)]
 else
 some [B false]
 else
 (CE [jA o21 0,jA o21 1,jA o21 2,jA o21 3,jA o21 4,jA o21 5,jA o21 6,jA o21 7]).bind fun o25=>
 bif gA o25 0 !=0 then
 some [B true]
 else
 (Cb [jA o21 0,jA o21 1,jA o21 2,jA o21 3,jA o21 4,jA o21 5,jA o21 6,jA o21 7]).bind fun o26=>
 some [B (decide (gA o26 0<0))]
attribute [go_sem] YU
theorem Q8i (CE IF Cb EX DP Hc:Fn) (x0 x1 x2 x3 x4 x5 x6 x7 x8 x9 x10 x11 x12:Int) (x13:Bool) (x14:Int) (x15:Bool) (x16 x17 x18 x19 x20:Int) (x21:Bool):Wr CE IF Cb EX DP Hc [I x0,I x1,I x2,I x3,I x4,I x5,I x6,I x7,I x8,I x9,I x10,I x11,I x12,B x13,I x14,B x15,I x16,I x17,I x18,I x19,I x20,B x21]=
 bif decide (x0<1)then
 some [B false]
 else
 bif decide (x0>6)then
 some [B false]
 else
 (Hc [I x2,I x3,I x4]).bind fun o17=>
 bif !bA o17 0 then
 some [B false]
 else
 (Hc [I x5,I x6,I x7]).bind fun o18=>
 bif !bA o18 0 then
 some [B false]
 else
 bif x0 !=3 then
 some [B true]
 else
 (DP [I x8]).bind fun o19=>
 bif !bA o19 3 then
 some [B false]
 else
 bif x12 !=1 then
 bif x12 != -1 then
 some [B false]
 else
 YU Hc x9 x10 x11 EX x0 x1 x2 x3 x4 x5 x6 x7 x8 x12 x13 x14 x15 x16 x17 x18 x19 x20 x21 Cb IF CE
 else
 YU Hc x9 x10 x11 EX x0 x1 x2 x3 x4 x5 x6 x7 x8 x12 x13 x14 x15 x16 x17 x18 x19 x20 x21 Cb IF CE:=by kernel_rfl
def Gl:=Wr G9 OF GN JQ FG LU
theorem Ztn:Ai PG (Qe3 G9 OF GN JQ FG LU):=Ap rfl ⟨XY,Zm5,T9,Q6f,Zt,Zqp,trivial⟩
theorem Ug:Ak PG (167,Ac Qkg Qis Gl):=rw1 (C:=(Qe3 G9 OF GN JQ FG LU)) Ztn
def WR:Sk:=⟨[TS.v true (cc 13++[CS.bool,ci,CS.bool]++cc 5++[CS.bool])],[],[]⟩
def VZ:Sk:=⟨[TS.tup [(false,[CS.sl [kI,kI,kI,kI]]),(false,[CS.bool])]],[],[]⟩
def Ztq (M:Fn):Nat×Spec:=(206,Ac WR VZ M)
def X_ (Ft FD Cb EX CA:Fn):Cfg:={cp [Qw7 Ft,Q6c FD,XV Cb,Q7h EX,U9 CA] [212]with rowDst:=[39]}
def W5 (Ft FD Cb EX CA:Fn):Fn:=An PG (X_ Ft FD Cb EX CA) 64 206 WR VZ
theorem Zxz (Ft FD Cb EX CA:Fn) (x0 x1 x2 x3 x4 x5 x6 x7 x8 x9 x10 x11 x12:Int) (x13:Bool) (x14:Int) (x15:Bool) (x16 x17 x18 x19 x20:Int) (x21:Bool):W5 Ft FD Cb EX CA [I x0,I x1,I x2,I x3,I x4,I x5,I x6,I x7,I x8,I x9,I x10,I x11,I x12,B x13,I x14,B x15,I x16,I x17,I x18,I x19,I x20,B x21]=
 bif x0 !=3 then
 some [.view [kI,kI,kI,kI] [],B false]
 else
 (CA [I x0,I x1,I x2,I x3,I x4,I x5,I x6,I x7,I x8,I x9,I x10,I x11,I x12,B x13,I x14,B x15,I x16,I x17,I x18,I x19,I x20,B x21]).bind fun o7=>
 bif !bA o7 0 then
 some [.view [kI,kI,kI,kI] [],B false]
 else
 (EX [I x0,I x1,I x2,I x3,I x4,I x5,I x6,I x7,I x8,I x9,I x10,I x11,I x12,B x13,I x14,B x15,I x16,I x17,I x18,I x19,I x20,B x21]).bind fun o8=>
 (Cb [jA o8 0,jA o8 1,jA o8 2,jA o8 3,jA o8 0,jA o8 1,jA o8 2,jA o8 3]).bind fun o9=>
 (FD [jA o9 0,I 2]).bind fun o10=>
 (Cb [jA o8 4,jA o8 5,jA o8 6,jA o8 7,jA o8 4,jA o8 5,jA o8 6,jA o8 7]).bind fun o11=>
 (FD [jA o11 0,I 2]).bind fun o12=>
 (Ft [.view [kI,kI,kI,kI] [[jA o8 0,jA o8 1,jA o10 0,jA o8 3]],jA o8 0,jA o8 1,jA o10 0,jA o8 3,jA o8 4,jA o8 5,jA o12 0,jA o8 7,B x13,I 0,I x12]).bind fun o13=>
 some [.view [kI,kI,kI,kI] (wA o13 0),B true]:=by kernel_rfl
def NX:=W5 Sx Jf GN JQ Gl
theorem Zlr:Ai PG (X_ Sx Jf GN JQ Gl):=Ap rfl ⟨Zb8,Q48,T9,Q6f,Ug,trivial⟩
theorem Zq2:Ak PG (206,Ac WR VZ NX):=rw1 (C:=(X_ Sx Jf GN JQ Gl)) Zlr
def Qbi:Sk:=⟨[TS.v true (cc 13++[CS.bool,ci,CS.bool]++cc 5++[CS.bool])],[],[]⟩
def VU:Sk:=⟨[TS.tup [(false,[CS.sl kPt]),(false,[CS.bool])]],[],[]⟩
def Zsi (M:Fn):Nat×Spec:=(193,Ac Qbi VU M)
def Qdn (GH Cc B1 Gu CA:Fn):Cfg:=cf [Zcl GH,Qpa Cc,Qrh B1,Ztq Gu,U9 CA]
def Q7e:Sk:=⟨[td,tf [CS.ptr 1 0],td,td,td,td,tf [ci],tf [ci],td,tf [CS.own 41 3]]++dd 32++[tf [CS.sl [kI,kI,kI,kI]],tf [ci],tf [ci]]++dd 22,[(1,74,cc 13++[CS.bool,ci,CS.bool]++cc 5++[CS.bool])],[(41,54,kPt)]⟩
def Qwz:List (Ex×Sk):=[(Ex.exit 0,⟨dd 9++[tf [CS.own 41 3]]++dd 57,[],[(41,54,kPt)]⟩)]
def Nl (GH Cc B1 Gu CA:Fn):Lp:=A4 PG (Qdn GH Cc B1 Gu CA) 64 9 (A3 PG 193 9) Q7e Qwz
def Q3c (GH Cc B1 Gu CA:Fn) (N9:Lp):Cfg:=(Qdn GH Cc B1 Gu CA).loop 9 Q7e Qwz N9
def RR (GH Cc B1 Gu CA:Fn) (N9:Lp):Fn:=An PG (Q3c GH Cc B1 Gu CA N9) 64 193 Qbi VU
theorem Qpw (GH Cc B1 Gu CA:Fn) (v0:Rw) (v1 v2:Int) (v3:Rw) (v4 v5 v6 v7 v8 v9 v10 v11 v12 v13 v14 v15 v16 v17 v18:Int) (v19:Bool) (v20:Int) (v21:Bool) (v22 v23 v24 v25 v26:Int) (v27:Bool):Nl GH Cc B1 Gu CA [.view kPt v0,I v1,I v2, .view [kI,kI,kI,kI] v3,I v4,I v5,I v6,I v7,I v8,I v9,I v10,I v11,I v12,I v13,I v14,I v15,I v16,I v17,I v18,B v19,I v20,B v21,I v22,I v23,I v24,I v25,I v26,B v27]=
 bif decide (v5<v4)then
 bif decide (0<=v5)&&decide (v5<(v3.length:Int))then
 (GH [I (wrap .i64 (v1+gA (nth [] v3 v5.toNat) 0)),I (wrap .i64 (v2+gA (nth [] v3 v5.toNat) 1)),jA (nth [] v3 v5.toNat) 3,I v14]).bind fun o14=>
 bif decide (0<=v5)&&decide (v5<(v0.length:Int))then
 some (0,[.view kPt (v0.set v5.toNat [jA o14 0,jA o14 1,jA o14 2]),I v1,I v2, .view [kI,kI,kI,kI] v3,I v4,I (wrap .i64 (v5+1)),I v6,I v7,I v8,I v9,I v10,I v11,I v12,I v13,I v14,I v15,I v16,I v17,I v18,B v19,I v20,B v21,I v22,I v23,I v24,I v25,I v26,B v27])
 else
 none
 else
 none
 else
 some (1,[.view kPt v0]):=by kernel_rfl
theorem X1 (GH Cc B1 Gu CA:Fn) (N9:Lp) (x0 x1 x2 x3 x4 x5 x6 x7 x8 x9 x10 x11 x12:Int) (x13:Bool) (x14:Int) (x15:Bool) (x16 x17 x18 x19 x20:Int) (x21:Bool):RR GH Cc B1 Gu CA N9 [I x0,I x1,I x2,I x3,I x4,I x5,I x6,I x7,I x8,I x9,I x10,I x11,I x12,B x13,I x14,B x15,I x16,I x17,I x18,I x19,I x20,B x21]=
 (CA [I x0,I x1,I x2,I x3,I x4,I x5,I x6,I x7,I x8,I x9,I x10,I x11,I x12,B x13,I x14,B x15,I x16,I x17,I x18,I x19,I x20,B x21]).bind fun o15=>
 bif !bA o15 0 then
 some [.view kPt [],B false]
 else
 (Gu [I x0,I x1,I x2,I x3,I x4,I x5,I x6,I x7,I x8,I x9,I x10,I x11,I x12,B x13,I x14,B x15,I x16,I x17,I x18,I x19,I x20,B x21]).bind fun o16=>
 bif !bA o16 1 then
 (B1 [I x2,I x3,I x4]).bind fun o17=>
 (B1 [I x5,I x6,I x7]).bind fun o18=>
 some [.view kPt [[jA o17 0,jA o17 1,jA o17 2],[jA o18 0,jA o18 1,jA o18 2]],B true]
 else
 (B1 [I x9,I x10,I x11]).bind fun o19=>
 (Cc [jA o19 0,jA o19 1,jA o19 2,I x8]).bind fun o20=>
 bif decide ((↑(wA o16 0).length:Int)=(↑(wA o16 0).length:Int))then
 bif decide (0<=(↑(wA o16 0).length:Int))&&decide ((↑(wA o16 0).length:Int)*(↑24:Int)<=140737488355328)then
 (N9 [.view kPt (List.replicate (↑(wA o16 0).length:Int).toNat [I 0,I 0,I 0]),jA o20 0,jA o20 1, .view [kI,kI,kI,kI] (wA o16 0),I (↑(wA o16 0).length:Int),I 0,I x0,I x1,I x2,I x3,I x4,I x5,I x6,I x7,I x8,I x9,I x10,I x11,I x12,B x13,I x14,B x15,I x16,I x17,I x18,I x19,I x20,B x21]).bind fun o21=>
 bif o21.1.beq 1 then
 some [.view kPt (wA o21.2 0),B true]
 else
 none
 else
 none
 else
 none:=by kernel_rfl
def Q21:=Am (Nl Of HT Hz NX Gl)
def Qh:=RR Of HT Hz NX Gl Q21
theorem Q6m:Ai PG (Qdn Of HT Hz NX Gl):=Ap rfl ⟨Z1t,Q6b,Qnz,Zq2,Ug,trivial⟩
theorem Zc7:Ak PG (193,Ac Qbi VU Qh):=rw2 (C:=(Q3c Of HT Hz NX Gl Q21)) (fl fb Q6m) Q6m
def XK:Sk:=⟨[tf [CS.sl Al],tf [ci],tf [ci]],[],[]⟩
def Qil:Sk:=⟨[tf [CS.sl kPt]],[],[]⟩
def Zrm (M:Fn):Nat×Spec:=(170,Ac XK Qil M)
def Qdm (B6 Bs B2 Ka Bl NC:Fn):Cfg:=cf [Qk8 B6,Qmc Bs,Q1t B2,Zfi Ka,SN Bl,Zsi NC]
def Qip (B6 Bs B2 Ka Bl NC:Fn):Fn:=An PG (Qdm B6 Bs B2 Ka Bl NC) 64 170 XK Qil
theorem Zox (B6 Bs B2 Ka Bl NC:Fn) (x0:Rw) (x1 x2:Int):Qip B6 Bs B2 Ka Bl NC [.view Al x0,I x1,I x2]=
 bif decide (0<=x1)&&decide (x1<(x0.length:Int))then
 (NC (AJ Al (nth [] x0 x1.toNat))).bind fun o13=>
 (Bl (AJ Al (nth [] x0 x1.toNat))).bind fun o14=>
 bif !bA o14 0 then
 some [.view kPt (wA o13 0)]
 else
 bif decide (0<=1)&&decide (1<=(↑(wA o13 0).length:Int))then
 bif decide (0<=wrap .i64 ((↑(wA o13 0).length:Int)-1))&&decide (wrap .i64 ((↑(wA o13 0).length:Int)-1)<=(↑(wA o13 0).length:Int))then
 bif decide (x2>=0)then
 bif decide (0<=x2)&&decide (x2<(x0.length:Int))then
 (Ka (AJ Al (nth [] x0 x2.toNat)++AJ Al (nth [] x0 x1.toNat))).bind fun o15=>
 (B2 [.view Al x0,I x1]).bind fun o16=>
 bif bA o16 0 then
 (Bs [.view Al x0,I x1]).bind fun o17=>
 bif decide (0<=gA o17 0)&&decide (gA o17 0<(x0.length:Int))then
 (Ka (AJ Al (nth [] x0 x1.toNat)++AJ Al (nth [] x0 (gA o17 0).toNat))).bind fun o18=>
 bif(([]++wA o15 1).length*24).ble 140737488355328 then
 (B6 (AJ Al (nth [] x0 x1.toNat))).bind fun o19=>
 bif(([]++wA o15 1++[[jA o19 0,jA o19 1,jA o19 2]]).length*24).ble 140737488355328 then
 bif(([]++wA o15 1++[[jA o19 0,jA o19 1,jA o19 2]]++wA o18 0).length*24).ble 140737488355328 then
 some [.view kPt ([]++wA o15 1++[[jA o19 0,jA o19 1,jA o19 2]]++wA o18 0)]
 else
 none
 else
 none
 else
 none
 else
 none
 else
 bif(([]++wA o15 1).length*24).ble 140737488355328 then
 (B6 (AJ Al (nth [] x0 x1.toNat))).bind fun o20=>
 bif(([]++wA o15 1++[[jA o20 0,jA o20 1,jA o20 2]]).length*24).ble 140737488355328 then
 bif(([]++wA o15 1++[[jA o20 0,jA o20 1,jA o20 2]]++List.drop (wrap .i64 ((↑(wA o13 0).length:Int)-1)).toNat (wA o13 0)).length*24).ble 140737488355328 then
 some [.view kPt ([]++wA o15 1++[[jA o20 0,jA o20 1,jA o20 2]]++List.drop (wrap .i64 ((↑(wA o13 0).length:Int)-1)).toNat (wA o13 0))]
 else
 none
 else
 none
 else
 none
 else
 none
 else
 (B2 [.view Al x0,I x1]).bind fun o21=>
 bif bA o21 0 then
 (Bs [.view Al x0,I x1]).bind fun o22=>
 bif decide (0<=gA o22 0)&&decide (gA o22 0<(x0.length:Int))then
 (Ka (AJ Al (nth [] x0 x1.toNat)++AJ Al (nth [] x0 (gA o22 0).toNat))).bind fun o23=>
 bif(([]++List.take (Int.toNat 1) (wA o13 0)).length*24).ble 140737488355328 then
 (B6 (AJ Al (nth [] x0 x1.toNat))).bind fun o24=>
 bif(([]++List.take (Int.toNat 1) (wA o13 0)++[[jA o24 0,jA o24 1,jA o24 2]]).length*24).ble 140737488355328 then
 bif(([]++List.take (Int.toNat 1) (wA o13 0)++[[jA o24 0,jA o24 1,jA o24 2]]++wA o23 0).length*24).ble 140737488355328 then
 some [.view kPt ([]++List.take (Int.toNat 1) (wA o13 0)++[[jA o24 0,jA o24 1,jA o24 2]]++wA o23 0)]
 else
 none
 else
 none
 else
 none
 else
 none
 else
 bif(([]++List.take (Int.toNat 1) (wA o13 0)).length*24).ble 140737488355328 then
 (B6 (AJ Al (nth [] x0 x1.toNat))).bind fun o25=>
 bif(([]++List.take (Int.toNat 1) (wA o13 0)++[[jA o25 0,jA o25 1,jA o25 2]]).length*24).ble 140737488355328 then
 bif(([]++List.take (Int.toNat 1) (wA o13 0)++[[jA o25 0,jA o25 1,jA o25 2]]++List.drop (wrap .i64 ((↑(wA o13 0).length:Int)-1)).toNat (wA o13 0)).length*24).ble 140737488355328 then
 some [.view kPt ([]++List.take (Int.toNat 1) (wA o13 0)++[[jA o25 0,jA o25 1,jA o25 2]]++List.drop (wrap .i64 ((↑(wA o13 0).length:Int)-1)).toNat (wA o13 0))]
 else
 none
 else
 none
 else
 none
 else
 none
 else
 none
 else
 none:=by kernel_rfl
def NU:=Qip F5 Fk GX P4 EG Qh
theorem Zj0:Ai PG (Qdm F5 Fk GX P4 EG Qh):=Ap rfl ⟨Qlw,VB,Q31,Zd0,Ro,Zc7,trivial⟩
theorem Zdd:Ak PG (170,Ac XK Qil NU):=rw1 (C:=(Qdm F5 Fk GX P4 EG Qh)) Zj0
def Qku:Sk:=⟨[TS.v true (cc 13++[CS.bool,ci,CS.bool]++cc 5++[CS.bool]),tf [ci]],[],[]⟩
def VL:Sk:=⟨[tf [ci]],[],[]⟩
def Zjw (M:Fn):Nat×Spec:=(168,Ac Qku VL M)
def X2 (AI:Fn):Cfg:=cf [KR AI]
def Zo (AI:Fn):Fn:=An PG (X2 AI) 64 168 Qku VL
theorem Q5j (AI:Fn) (x0 x1 x2 x3 x4 x5 x6 x7 x8 x9 x10 x11 x12:Int) (x13:Bool) (x14:Int) (x15:Bool) (x16 x17 x18 x19 x20:Int) (x21:Bool) (x22:Int):Zo AI [I x0,I x1,I x2,I x3,I x4,I x5,I x6,I x7,I x8,I x9,I x10,I x11,I x12,B x13,I x14,B x15,I x16,I x17,I x18,I x19,I x20,B x21,I x22]=
 bif x0==1 then
 some [I 0]
 else
 bif x15 then
 (AI [I (mn (wrap .i64 (x14*mx x22 1)) 60000000),I 4096,I 60000,I 2]).bind fun o2=>
 some [I (mx (gA o2 0) 1)]
 else
 (AI [I (mn x14 60000000),I 4096,I 60000,I 2]).bind fun o3=>
 some [I (mx (gA o3 0) 1)]:=by kernel_rfl
def JY:=Zo Bi
theorem Zf4:Ai PG (X2 Bi):=Ap rfl ⟨KG,trivial⟩
theorem Zkv:Ak PG (168,Ac Qku VL JY):=rw1 (C:=(X2 Bi)) Zf4
def Qc0:Sk:=⟨[tf [CS.ptr 20000 0],tf [CS.sl Al],tf [ci],tf [ci]],[(20000,142,[ci,ci,ci,CS.own 20000 7,CS.own 20001 3,CS.bool,ci,ci,ci])],[(20000,162,Ag),(20001,76,kPt)]⟩
def XA:Sk:=⟨[tf [CS.bool]],[(20000,142,[ci,ci,ci,CS.own 20000 7,CS.own 20001 3,CS.bool,ci,ci,ci])],[(20000,162,Ag),(20001,76,kPt)]⟩
def Zpx (M:Fn):Nat×Spec:=(126,Ac Qc0 XA M)
def YB (B6 Bl GG Fo CD GA:Fn):Cfg:=cp [Qk8 B6,SN Bl,Q9j GG,Zrm Fo,Q1s CD,Zjw GA] [171]
def Q3p:Sk:=⟨[tf [CS.ptr 20000 0]]++dd 8++[tf [CS.ptr 9 0],tf [CS.ptr 10 0]]++dd 24++[tf [CS.sl kPt],tf [ci],tf [ci]]++dd 30,[(9,74,cc 13++[CS.bool,ci,CS.bool]++cc 5++[CS.bool]),(10,162,cc 7),(20000,142,[ci,ci,ci,CS.own 20000 7,CS.own 20001 3,CS.bool,ci,ci,ci])],[(20000,162,Ag),(20001,76,kPt)]⟩
def Qyv:List (Ex×Sk):=[(Ex.exit 0,⟨[tf [CS.ptr 20000 0]]++dd 67,[(20000,142,[ci,ci,ci,CS.own 20000 7,CS.own 20001 3,CS.bool,ci,ci,ci])],[(20000,162,Ag),(20001,76,kPt)]⟩)]
def KC (B6 Bl GG Fo CD GA:Fn):Lp:=A4 PG (YB B6 Bl GG Fo CD GA) 64 6 (A3 PG 126 6) Q3p Qyv
def Qrp (B6 Bl GG Fo CD GA:Fn) (N6:Lp):Cfg:=(YB B6 Bl GG Fo CD GA).loop 6 Q3p Qyv N6
def Qi7 (B6 Bl GG Fo CD GA:Fn) (N6:Lp):Fn:=An PG (Qrp B6 Bl GG Fo CD GA N6) 64 126 Qc0 XA
theorem Qzv (B6 Bl GG Fo CD GA:Fn) (v0 v1 v2:Rw) (v3 v4 v5 v6 v7 v8 v9 v10 v11 v12 v13 v14 v15 v16 v17:Int) (v18:Bool) (v19:Int) (v20:Bool) (v21 v22 v23 v24 v25:Int) (v26:Bool) (v27 v28 v29 v30 v31 v32 v33 v34 v35 v36:Int) (v37:Bool) (v38 v39 v40:Int):KC B6 Bl GG Fo CD GA [.view Ag v0, .view kPt v1, .view kPt v2,I v3,I v4,I v5,I v6,I v7,I v8,I v9,I v10,I v11,I v12,I v13,I v14,I v15,I v16,I v17,B v18,I v19,B v20,I v21,I v22,I v23,I v24,I v25,B v26,I v27,I v28,I v29,I v30,I v31,I v32,I v33,I v34,I v35,I v36,B v37,I v38,I v39,I v40]=
 bif decide (v4<v3)then
 bif decide (0<=v4)&&decide (v4<(v2.length:Int))then
 (GG [.view Ag v0, .view kPt v1,jA (nth [] v2 v4.toNat) 0,jA (nth [] v2 v4.toNat) 1,jA (nth [] v2 v4.toNat) 2,I v27,I v28,I v29,I v30,I v31,I v32,I v33,I v34,I v35,I v36,B v37,I v38,I v39,I v40]).bind fun o12=>
 (Bl [I v5,I v6,I v7,I v8,I v9,I v10,I v11,I v12,I v13,I v14,I v15,I v16,I v17,B v18,I v19,B v20,I v21,I v22,I v23,I v24,I v25,B v26]).bind fun o13=>
 bif bA o13 0 then
 (B6 [I v5,I v6,I v7,I v8,I v9,I v10,I v11,I v12,I v13,I v14,I v15,I v16,I v17,B v18,I v19,B v20,I v21,I v22,I v23,I v24,I v25,B v26]).bind fun o14=>
 bif gA (nth [] v2 v4.toNat) 0==gA o14 0&&(gA (nth [] v2 v4.toNat) 1==gA o14 1&&(gA (nth [] v2 v4.toNat) 2==gA o14 2&&true))then
 some (0,[.view Ag (wA o12 0), .view kPt (wA o12 1), .view kPt v2,I v3,I (wrap .i64 (v4+1)),I v5,I v6,I v7,I v8,I v9,I v10,I v11,I v12,I v13,I v14,I v15,I v16,I v17,B v18,I v19,B v20,I v21,I v22,I v23,I v24,I v25,B v26,I v27,I v28,I v29,I v30,I v31,I v32,I v33,jA o12 2,jA o12 3,jA o12 4,B (bA o12 5),jA o12 6,jA o12 7,jA o12 6])
 else
 some (0,[.view Ag (wA o12 0), .view kPt (wA o12 1), .view kPt v2,I v3,I (wrap .i64 (v4+1)),I v5,I v6,I v7,I v8,I v9,I v10,I v11,I v12,I v13,I v14,I v15,I v16,I v17,B v18,I v19,B v20,I v21,I v22,I v23,I v24,I v25,B v26,I v27,I v28,I v29,I v30,I v31,I v32,I v33,jA o12 2,jA o12 3,jA o12 4,B (bA o12 5),jA o12 6,jA o12 7,jA o12 8])
 else
 some (0,[.view Ag (wA o12 0), .view kPt (wA o12 1), .view kPt v2,I v3,I (wrap .i64 (v4+1)),I v5,I v6,I v7,I v8,I v9,I v10,I v11,I v12,I v13,I v14,I v15,I v16,I v17,B v18,I v19,B v20,I v21,I v22,I v23,I v24,I v25,B v26,I v27,I v28,I v29,I v30,I v31,I v32,I v33,jA o12 2,jA o12 3,jA o12 4,B (bA o12 5),jA o12 6,jA o12 7,jA o12 8])
 else
 none
 else
 some (1,[.view Ag v0, .view kPt v1,I v34,I v35,I v36,B v37,I v38,I v39,I v40]):=by kernel_rfl
abbrev Qd8 (Fo:Fn) (x2:Rw) (x3 x4:Int) (N6:Lp) (x0 x1:Rw) (o15:List AC) (x5 x6 x7:Int) (x8:Bool) (x9 x10 x11:Int) (h1_0:AC):Option (List AC):=
 (Fo [.view Al x2,I x3,I x4]).bind fun o17=>
 (N6 (.view Ag x0:: .view kPt x1:: .view kPt (wA o17 0)::I (↑(wA o17 0).length:Int)::I 0::(AJ Al (nth [] x2 x3.toNat)++[I 0,I 0,I 0,I 0,I x3,jA o15 0,h1_0,I x5,I x6,I x7,B x8,I x9,I x10,I x11]))).bind fun o18=>
 bif o18.1.beq 1 then
 some [.view Ag (wA o18.2 0), .view kPt (wA o18.2 1),B (decide ((↑(wA o18.2 0).length:Int)<=1048576)),jA o18.2 2,jA o18.2 3,jA o18.2 4,B (bA o18.2 5),jA o18.2 6,jA o18.2 7,jA o18.2 8]
 else
 none
attribute [go_sem] Qd8
theorem Zan (B6 Bl GG Fo CD GA:Fn) (N6:Lp) (x0 x1 x2:Rw) (x3 x4 x5 x6 x7:Int) (x8:Bool) (x9 x10 x11:Int):Qi7 B6 Bl GG Fo CD GA N6 [.view Ag x0, .view kPt x1, .view Al x2,I x3,I x4,I x5,I x6,I x7,B x8,I x9,I x10,I x11]=
 bif decide (0<=x3)&&decide (x3<(x2.length:Int))then
 (GA (AJ Al (nth [] x2 x3.toNat)++[I x10])).bind fun o15=>
 (CD (AJ Al (nth [] x2 x3.toNat))).bind fun o16=>
 bif bA o16 0 then
 Qd8 Fo x2 x3 x4 N6 x0 x1 o15 x5 x6 x7 x8 x9 x10 x11 (I (mn (wrap .i64 (gA (nth [] x2 x3.toNat) 14*16)) 16777216))
 else
 Qd8 Fo x2 x3 x4 N6 x0 x1 o15 x5 x6 x7 x8 x9 x10 x11 (I 0)
 else
 none:=by kernel_rfl
def Qs9:=Am (KC F5 EG LV NU Hr JY)
def JS:=Qi7 F5 EG LV NU Hr JY Qs9
theorem Q6t:Ai PG (YB F5 EG LV NU Hr JY):=Ap rfl ⟨Qlw,Ro,Za4,Zdd,Qq1,Zkv,trivial⟩
theorem Za0:Ak PG (126,Ac Qc0 XA JS):=rw2 (C:=(Qrp F5 EG LV NU Hr JY Qs9)) (fl fb Q6t) Q6t
def Qkc:Sk:=⟨[TS.v true (cc 13++[CS.bool,ci,CS.bool]++cc 5++[CS.bool])],[],[]⟩
def Qh0:Sk:=⟨[tf [ci]],[],[]⟩
def Ztb (M:Fn):Nat×Spec:=(122,Ac Qkc Qh0 M)
def Y8 (CA AM:Fn):Cfg:=cf [U9 CA,SO AM]
def Qb4 (CA AM:Fn):Fn:=An PG (Y8 CA AM) 64 122 Qkc Qh0
abbrev Ln (x0 x19 x20:Int):Option (List AC):=
 bif x0==8 then
 bif decide (x19<3)then
 some [I 1]
 else
 bif decide (x19>5)then
 some [I 1]
 else
 bif decide (x20<0)then
 some [I 1]
 else
 bif decide (x20>30000)then
 some [I 1]
 else
 some [I 0]
 else
 some [I 0]
attribute [go_sem] Ln
theorem Z1l (CA AM:Fn) (x0 x1 x2 x3 x4 x5 x6 x7 x8 x9 x10 x11 x12:Int) (x13:Bool) (x14:Int) (x15:Bool) (x16 x17 x18 x19 x20:Int) (x21:Bool):Qb4 CA AM [I x0,I x1,I x2,I x3,I x4,I x5,I x6,I x7,I x8,I x9,I x10,I x11,I x12,B x13,I x14,B x15,I x16,I x17,I x18,I x19,I x20,B x21]=
 bif decide (x0<1)then
 some [I 1]
 else
 bif decide (x0>14)then
 some [I 1]
 else
 (AM [I x0]).bind fun o4=>
 bif bA o4 0 then
 (CA [I x0,I x1,I x2,I x3,I x4,I x5,I x6,I x7,I x8,I x9,I x10,I x11,I x12,B x13,I x14,B x15,I x16,I x17,I x18,I x19,I x20,B x21]).bind fun o5=>
 bif !bA o5 0 then
 some [I 1]
 else
 bif decide (x18<0)then
 some [I 1]
 else
 bif decide (x18>1000)then
 some [I 1]
 else
 (AM [I x0]).bind fun o6=>
 bif bA o6 0 then
 bif x0 !=1 then
 bif decide (x14<1)then
 some [I 1]
 else
 bif decide (x14>60000000)then
 some [I 1]
 else
 Ln x0 x19 x20
 else
 Ln x0 x19 x20
 else
 Ln x0 x19 x20
 else
 (AM [I x0]).bind fun o7=>
 bif bA o7 0 then
 bif x0 !=1 then
 bif decide (x14<1)then
 some [I 1]
 else
 bif decide (x14>60000000)then
 some [I 1]
 else
 Ln x0 x19 x20
 else
 Ln x0 x19 x20
 else
 Ln x0 x19 x20:=by kernel_rfl
def IX:=Qb4 Gl DK
theorem Zoa:Ai PG (Y8 Gl DK):=Ap rfl ⟨Ug,Tc,trivial⟩
theorem Zqq:Ak PG (122,Ac Qkc Qh0 IX):=rw1 (C:=(Y8 Gl DK)) Zoa
def Qim:Sk:=⟨[tf [CS.sl Al]],[],[]⟩
def Qgz:Sk:=⟨[TS.tup [(false,[CS.ptr 13 0]),(false,[ci])]],[(13,142,[ci,ci,ci,CS.own 1013003 7,CS.own 1013004 3,CS.bool,ci,ci,ci])],[(1013003,162,Ag),(1013004,76,kPt)]⟩
def Q7f (M:Fn):Nat×Spec:=(80,Ac Qim Qgz M)
def Yt (Cd Cf Bs B2 AM Ey:Fn):Cfg:=cp [Zil Cd,Zpx Cf,Qmc Bs,Q1t B2,SO AM,Ztb Ey] [127,126]
def Qu3:Sk:=⟨[tf [CS.sl Al],td,td,td,tf [CS.ptr 13 0],tf [ci]]++dd 12++[tf [CS.sl Al],tf [ci],tf [ci]]++dd 87,[(13,142,[ci,ci,ci,CS.own 1013003 7,CS.own 1013004 3,CS.bool,ci,ci,ci])],[(1013003,162,Ag),(1013004,76,kPt)]⟩
def Qq2:List (Ex×Sk):=[(Ex.ret,⟨[td,td,tf [CS.ptr 13 0],tf [ci]]++dd 104,[(13,142,[ci,ci,ci,CS.own 1013003 7,CS.own 1013004 3,CS.bool,ci,ci,ci])],[(1013003,162,Ag),(1013004,76,kPt)]⟩),(Ex.exit 0,⟨[tf [CS.sl Al],td,td,td,tf [CS.ptr 13 0]]++dd 103,[(13,142,[ci,ci,ci,CS.own 1013003 7,CS.own 1013004 3,CS.bool,ci,ci,ci])],[(1013003,162,Ag),(1013004,76,kPt)]⟩)]
def Pv (Cd Cf Bs B2 AM Ey:Fn):Lp:=A4 PG (Yt Cd Cf Bs B2 AM Ey) 64 6 (A3 PG 80 6) Qu3 Qq2
def Q5d (Cd Cf Bs B2 AM Ey:Fn) (N6:Lp):Cfg:=(Yt Cd Cf Bs B2 AM Ey).loop 6 Qu3 Qq2 N6
def Qou:Sk:=⟨[tf [CS.sl Al],td,td,td,tf [CS.ptr 13 0],tf [ci]]++dd 44++[tf [CS.sl Al],tf [ci],tf [ci]]++dd 55,[(13,142,[ci,ci,ci,CS.own 1013003 7,CS.own 1013004 3,CS.bool,ci,ci,ci])],[(1013003,162,Ag),(1013004,76,kPt)]⟩
def Qzk:List (Ex×Sk):=[(Ex.ret,⟨[td,td,tf [CS.ptr 13 0],tf [ci]]++dd 104,[(13,142,[ci,ci,ci,CS.own 1013003 7,CS.own 1013004 3,CS.bool,ci,ci,ci])],[(1013003,162,Ag),(1013004,76,kPt)]⟩),(Ex.exit 2,⟨[td,td,td,td,tf [CS.ptr 13 0]]++dd 103,[(13,142,[ci,ci,ci,CS.own 1013003 7,CS.own 1013004 3,CS.bool,ci,ci,ci])],[(1013003,162,Ag),(1013004,76,kPt)]⟩)]
def PD (Cd Cf Bs B2 AM Ey:Fn) (N6:Lp):Lp:=A4 PG (Q5d Cd Cf Bs B2 AM Ey N6) 64 18 (A3 PG 80 18) Qou Qzk
def Q30 (Cd Cf Bs B2 AM Ey:Fn) (N6 N18:Lp):Cfg:=(Q5d Cd Cf Bs B2 AM Ey N6).loop 18 Qou Qzk N18
def Qb5 (Cd Cf Bs B2 AM Ey:Fn) (N6 N18:Lp):Fn:=An PG (Q30 Cd Cf Bs B2 AM Ey N6 N18) 64 80 Qim Qgz
theorem Qti (Cd Cf Bs B2 AM Ey:Fn) (v0 v1 v2:Rw) (v3:Int) (v4:Rw) (v5 v6 v7 v8 v9:Int) (v10:Bool) (v11 v12 v13:Int):Pv Cd Cf Bs B2 AM Ey [.view Ag v0, .view kPt v1, .view Al v2,I v3, .view Al v4,I v5,I v6,I v7,I v8,I v9,B v10,I v11,I v12,I v13]=
 bif decide (v6<v5)then
 bif decide (0<=v6)&&decide (v6<(v4.length:Int))then
 (Ey (AJ Al (nth [] v4 v6.toNat))).bind fun o53=>
 bif gA o53 0 !=0 then
 some (1,[.view Ag v0, .view kPt v1,jA o53 0,I v7,I v8,I v9,B v10,I v11,I v12,I v13])
 else
 (AM [jA (nth [] v4 v6.toNat) 0]).bind fun o54=>
 bif !bA o54 0 then
 some (0,[.view Ag v0, .view kPt v1, .view Al v2,I v3, .view Al v4,I v5,I (wrap .i64 (v6+1)),I v7,I v8,I v9,B v10,I v11,I v12,I v13])
 else
 bif decide (v3>=0)then
 bif decide (0<=v3)&&decide (v3<(v2.length:Int))then
 bif !(gA (nth [] v2 v3.toNat) 5==gA (nth [] v4 v6.toNat) 2&&(gA (nth [] v2 v3.toNat) 6==gA (nth [] v4 v6.toNat) 3&&(gA (nth [] v2 v3.toNat) 7==gA (nth [] v4 v6.toNat) 4&&true)))then
 some (1,[.view Ag v0, .view kPt v1,I 13,I v7,I v8,I v9,B v10,I v11,I v12,I v13])
 else
 some (0,[.view Ag v0, .view kPt v1, .view Al v2,I v6, .view Al v4,I v5,I (wrap .i64 (v6+1)),I v7,I v8,I v9,B v10,I v11,I v12,I v13])
 else
 none
 else
 some (0,[.view Ag v0, .view kPt v1, .view Al v2,I v6, .view Al v4,I v5,I (wrap .i64 (v6+1)),I v7,I v8,I v9,B v10,I v11,I v12,I v13])
 else
 none
 else
 some (2,[.view Ag v0, .view kPt v1, .view Al v2,I v7,I v8,I v9,B v10,I v11,I v12,I v13]):=by kernel_rfl
abbrev PV (Cf:Fn) (v0 v1 v2:Rw) (v6 v7 v8 v9:Int) (v10:Bool) (v11:Int) (h1_0:AC) (v13:Int) (Cd:Fn) (v4:Rw) (v5:Int) (h2_0:AC):Option (Nat×List AC):=
 (Cf [.view Ag v0, .view kPt v1, .view Al v2,I v6,h2_0,I v7,I v8,I v9,B v10,I v11,h1_0,I v13]).bind fun o57=>
 bif !bA o57 2 then
 some (1,[.view Ag (wA o57 0), .view kPt (wA o57 1),I 10,jA o57 3,jA o57 4,jA o57 5,B (bA o57 6),jA o57 7,jA o57 8,jA o57 9])
 else
 (Cd [.view Ag (wA o57 0), .view kPt (wA o57 1), .view Al v2,I v6,jA o57 3,jA o57 4,jA o57 5,B (bA o57 6),jA o57 7,jA o57 8,jA o57 9]).bind fun o58=>
 some (0,[.view Ag (wA o58 0), .view kPt (wA o58 1), .view Al v2,I v6, .view Al v4,I v5,I (wrap .i64 (v6+1)),jA o58 2,jA o58 3,jA o58 4,B (bA o58 5),jA o58 6,jA o58 7,jA o58 8])
attribute [go_sem] PV
abbrev PR (AM:Fn) (v4:Rw) (v6 v3:Int) (B2:Fn) (v2:Rw) (Cf:Fn) (v0 v1:Rw) (v7 v8 v9:Int) (v10:Bool) (v11 v13:Int) (Cd:Fn) (v5:Int) (Bs:Fn) (h1_0:AC):Option (Nat×List AC):=
 (AM [jA (nth [] v4 v6.toNat) 0]).bind fun o55=>
 bif bA o55 0 then
 bif decide (v3>=0)then
 (B2 [.view Al v2,I v3]).bind fun o56=>
 bif !bA o56 0 then
 PV Cf v0 v1 v2 v6 v7 v8 v9 v10 v11 h1_0 v13 Cd v4 v5 (I (-1))
 else
 (Bs [.view Al v2,I v3]).bind fun o59=>
 bif gA o59 0 !=v6 then
 PV Cf v0 v1 v2 v6 v7 v8 v9 v10 v11 h1_0 v13 Cd v4 v5 (I (-1))
 else
 PV Cf v0 v1 v2 v6 v7 v8 v9 v10 v11 h1_0 v13 Cd v4 v5 (I v3)
 else
 PV Cf v0 v1 v2 v6 v7 v8 v9 v10 v11 h1_0 v13 Cd v4 v5 (I v3)
 else
 (Cd [.view Ag v0, .view kPt v1, .view Al v2,I v6,I v7,I v8,I v9,B v10,I v11,h1_0,I v13]).bind fun o66=>
 some (0,[.view Ag (wA o66 0), .view kPt (wA o66 1), .view Al v2,I v3, .view Al v4,I v5,I (wrap .i64 (v6+1)),jA o66 2,jA o66 3,jA o66 4,B (bA o66 5),jA o66 6,jA o66 7,jA o66 8])
attribute [go_sem] PR
theorem Qu0 (Cd Cf Bs B2 AM Ey:Fn) (N6:Lp) (v0 v1 v2:Rw) (v3:Int) (v4:Rw) (v5 v6 v7 v8 v9:Int) (v10:Bool) (v11 v12 v13:Int):PD Cd Cf Bs B2 AM Ey N6 [.view Ag v0, .view kPt v1, .view Al v2,I v3, .view Al v4,I v5,I v6,I v7,I v8,I v9,B v10,I v11,I v12,I v13]=
 bif decide (v6<v5)then
 bif decide (0<=v6)&&decide (v6<(v4.length:Int))then
 bif gA (nth [] v4 v6.toNat) 0==8 then
 bif gA (nth [] v4 v6.toNat) 19==3 then
 PR AM v4 v6 v3 B2 v2 Cf v0 v1 v7 v8 v9 v10 v11 v13 Cd v5 Bs (jA (nth [] v4 v6.toNat) 20)
 else
 bif gA (nth [] v4 v6.toNat) 19==4 then
 PR AM v4 v6 v3 B2 v2 Cf v0 v1 v7 v8 v9 v10 v11 v13 Cd v5 Bs (jA (nth [] v4 v6.toNat) 20)
 else
 PR AM v4 v6 v3 B2 v2 Cf v0 v1 v7 v8 v9 v10 v11 v13 Cd v5 Bs (I v12)
 else
 PR AM v4 v6 v3 B2 v2 Cf v0 v1 v7 v8 v9 v10 v11 v13 Cd v5 Bs (I v12)
 else
 none
 else
 some (2,[.view Ag v0, .view kPt v1,I v7,I v8,I v9,B v10,I v11,I v12,I v13]):=by kernel_rfl
theorem Zwb (Cd Cf Bs B2 AM Ey:Fn) (N6 N18:Lp) (x0:Rw):Qb5 Cd Cf Bs B2 AM Ey N6 N18 [.view Al x0]=
 bif decide ((x0.length:Int)>20000)then
 some [.view Ag [], .view kPt [],I 10,I 0,I 0,I 0,B false,I 0,I 0,I 0]
 else
 (N6 [.view Ag [], .view kPt [], .view Al x0,I (-1), .view Al x0,I (x0.length:Int),I 0,I 0,I 0,I 0,B false,I 0,I 0,I 0]).bind fun o103=>
 bif o103.1.beq 1 then
 some [.view Ag (wA o103.2 0), .view kPt (wA o103.2 1),jA o103.2 2,jA o103.2 3,jA o103.2 4,jA o103.2 5,B (bA o103.2 6),jA o103.2 7,jA o103.2 8,jA o103.2 9]
 else
 bif o103.1.beq 2 then
 (N18 [.view Ag (wA o103.2 0), .view kPt (wA o103.2 1), .view Al (wA o103.2 2),I (-1), .view Al (wA o103.2 2),I (↑(wA o103.2 2).length:Int),I 0,jA o103.2 3,jA o103.2 4,jA o103.2 5,B (bA o103.2 6),jA o103.2 7,jA o103.2 8,jA o103.2 9]).bind fun o104=>
 bif o104.1.beq 1 then
 some [.view Ag (wA o104.2 0), .view kPt (wA o104.2 1),jA o104.2 2,jA o104.2 3,jA o104.2 4,jA o104.2 5,B (bA o104.2 6),jA o104.2 7,jA o104.2 8,jA o104.2 9]
 else
 bif o104.1.beq 2 then
 some [.view Ag (wA o104.2 0), .view kPt (wA o104.2 1),I 0,jA o104.2 2,jA o104.2 3,jA o104.2 4,B (bA o104.2 5),jA o104.2 6,jA o104.2 7,jA o104.2 8]
 else
 none
 else
 none:=by kernel_rfl
def Qo:=Am (Pv ID JS Fk GX DK IX)
def Qyo:=Am (PD ID JS Fk GX DK IX Qo)
def IG:=Qb5 ID JS Fk GX DK IX Qo Qyo
theorem Qbn:Ai PG (Yt ID JS Fk GX DK IX):=Ap rfl ⟨Znv,Za0,VB,Q31,Tc,Zqq,trivial⟩
theorem Q6z:Ak PG (80,Ac Qim Qgz IG):=rw2 (C:=(Q30 ID JS Fk GX DK IX Qo Qyo)) (fl (fl fb Qbn) Qbn) Qbn
def Qez:Sk:=⟨[tf [CS.sl Al]],[],[]⟩
def UQ:Sk:=⟨[tf [ci]],[],[]⟩
def Q8n (M:Fn):Nat×Spec:=(37,Ac Qez UQ M)
def Zr (Bl Ef:Fn):Cfg:=cp [SN Bl,Q7f Ef] [80]
def Qwy:Sk:=⟨[tf [CS.sl Al],td,td,tf [CS.ptr 100800 0],td,tf [ci]]++dd 47,[(100800,142,[ci,ci,ci,CS.own 100800 7,CS.own 100801 3,CS.bool,ci,ci,ci])],[(100800,162,Ag),(100801,76,kPt)]⟩
def Q4h:List (Ex×Sk):=[(Ex.ret,⟨[td,td,tf [ci]]++dd 50,[],[]⟩),(Ex.exit 0,⟨[td,td,td,tf [CS.ptr 100800 0]]++dd 49,[(100800,142,[ci,ci,ci,CS.own 100800 7,CS.own 100801 3,CS.bool,ci,ci,ci])],[(100800,162,Ag),(100801,76,kPt)]⟩)]
def L7 (Bl Ef:Fn):Lp:=A4 PG (Zr Bl Ef) 64 5 (A3 PG 37 5) Qwy Q4h
def Qtn (Bl Ef:Fn) (N5:Lp):Cfg:=(Zr Bl Ef).loop 5 Qwy Q4h N5
def V9 (Bl Ef:Fn) (N5:Lp):Fn:=An PG (Qtn Bl Ef N5) 64 37 Qez UQ
theorem Qsu (Bl Ef:Fn) (v0 v1 v2:Rw) (v3 v4 v5 v6:Int) (v7:Bool) (v8 v9 v10:Int):L7 Bl Ef [.view Ag v0, .view kPt v1, .view Al v2,I v3,I v4,I v5,I v6,B v7,I v8,I v9,I v10]=
 bif decide (v3>=0)then
 bif decide (0<=v3)&&decide (v3<(v2.length:Int))then
 bif gA (nth [] v2 v3.toNat) 0==10 then
 some (0,[.view Ag v0, .view kPt v1, .view Al v2,I (wrap .i64 (v3-1)),I v4,I v5,I v6,B v7,I v8,I v9,I v10])
 else
 bif decide (0<=v3)&&decide (v3<(v2.length:Int))then
 (Bl (AJ Al (nth [] v2 v3.toNat))).bind fun o4=>
 bif bA o4 0 then
 bif decide (0<=v3)&&decide (v3<(v2.length:Int))then
 bif gA (nth [] v2 v3.toNat) 18 !=0 then
 some (1,[I v10])
 else
 some (1,[I v8])
 else
 none
 else
 some (1,[I v8])
 else
 none
 else
 none
 else
 some (2,[.view Ag v0, .view kPt v1,I v4,I v5,I v6,B v7,I v8,I v9,I v10]):=by kernel_rfl
theorem Qyr (Bl Ef:Fn) (N5:Lp) (x0:Rw):V9 Bl Ef N5 [.view Al x0]=
 (Ef [.view Al x0]).bind fun o5=>
 bif gA o5 2 !=0 then
 some [I 0]
 else
 (N5 [.view Ag (wA o5 0), .view kPt (wA o5 1), .view Al x0,I (wrap .i64 ((x0.length:Int)-1)),jA o5 3,jA o5 4,jA o5 5,B (bA o5 6),jA o5 7,jA o5 8,jA o5 9]).bind fun o6=>
 bif o6.1.beq 1 then
 some [jA o6.2 0]
 else
 bif o6.1.beq 2 then
 some [jA o6.2 6]
 else
 none:=by kernel_rfl
def Qph:=Am (L7 EG IG)
def OA:=V9 EG IG Qph
theorem Qok:Ai PG (Zr EG IG):=Ap rfl ⟨Ro,Q6z,trivial⟩
theorem Zmf:Ak PG (37,Ac Qez UQ OA):=rw2 (C:=(Qtn EG IG Qph)) (fl fb Qok) Qok
def Qiw:Sk:=⟨[tf [ci],tf [ci],tf [ci]],[],[]⟩
def Qeo:Sk:=⟨[tf [CS.bool]],[],[]⟩
def Zi (M:Fn):Nat×Spec:=(140,Ac Qiw Qeo M)
def UA:Cfg:=cf []
def XF:Fn:=An PG UA 64 140 Qiw Qeo
theorem Zq9 (x0 x1 x2:Int):XF [I x0,I x1,I x2]=
 bif decide (x1<=x0)then
 some [B (decide (x0<=x2))]
 else
 some [B false]:=by kernel_rfl
def Gj:=XF
theorem Zdw:Ai PG (UA):=Ap rfl trivial
theorem Qm3:Ak PG (140,Ac Qiw Qeo Gj):=rw1 (C:=UA) Zdw
def Wz:Sk:=⟨[TS.v true (cc 9++[CS.sl Aa]),tf [ci]],[],[]⟩
def Qhq:Sk:=⟨[tf [CS.bool]],[],[]⟩
def Zat (M:Fn):Nat×Spec:=(142,Ac Wz Qhq M)
def Qnv (BQ:Fn):Cfg:=cf [Zi BQ]
def Y_ (BQ:Fn):Fn:=An PG (Qnv BQ) 64 142 Wz Qhq
theorem Zt1 (BQ:Fn) (x0 x1 x2 x3 x4 x5 x6 x7 x8:Int) (x9:Rw) (x10:Int):Y_ BQ [I x0,I x1,I x2,I x3,I x4,I x5,I x6,I x7,I x8, .view Aa x9,I x10]=
 (BQ [I x10,I x4,I x5]).bind fun o1=>
 some [B (bA o1 0)]:=by kernel_rfl
def HB:=Y_ Gj
theorem Zl7:Ai PG (Qnv Gj):=Ap rfl ⟨Qm3,trivial⟩
theorem Q99:Ak PG (142,Ac Wz Qhq HB):=rw1 (C:=(Qnv Gj)) Zl7
def W2:Sk:=⟨[TS.v true (cc 9++[CS.sl Aa]++cc 9++[CS.sl Aa]++cc 9++[CS.sl Aa]),TS.v true [ci,ci,ci,CS.sl Ag,CS.sl kPt]],[],[]⟩
def YQ:Sk:=⟨[tf [CS.bool]],[],[]⟩
def Z1h (M:Fn):Nat×Spec:=(90,Ac W2 YQ M)
def XJ (DS:Fn):Cfg:={cf [Zat DS]with rowDst:=[13],unroll:=[11]}
def Quf:Sk:=⟨[td,td,tf [CS.ptr 2 0],td,td,tf [CS.own 13 3]]++dd 9++[tf [CS.sl Ag],tf [ci],tf [ci]]++dd 28,[(2,27,cc 9++[CS.sl Aa]++cc 9++[CS.sl Aa]++cc 9++[CS.sl Aa])],[(13,54,kPt)]⟩
def Q2y:List (Ex×Sk):=[(Ex.exit 0,⟨[td,td,tf [CS.ptr 2 0],td,td,tf [CS.own 13 3]]++dd 40,[(2,27,cc 9++[CS.sl Aa]++cc 9++[CS.sl Aa]++cc 9++[CS.sl Aa])],[(13,54,kPt)]⟩)]
def P_ (DS:Fn):Lp:=A4 PG (XJ DS) 64 3 (A3 PG 90 3) Quf Q2y
def Qwx (DS:Fn) (N3:Lp):Cfg:=(XJ DS).loop 3 Quf Q2y N3
def Qs5:Sk:=⟨[td,td,tf [CS.ptr 2 0]]++dd 24++[tf [CS.own 13 3],tf [ci],tf [ci]]++dd 16,[(2,27,cc 9++[CS.sl Aa]++cc 9++[CS.sl Aa]++cc 9++[CS.sl Aa])],[(13,54,kPt)]⟩
def Qtm:List (Ex×Sk):=[(Ex.ret,⟨[td,td,td,td,tf [CS.bool]]++dd 41,[],[]⟩),(Ex.exit 2,⟨[td]++dd 45,[],[]⟩)]
def RW (DS:Fn) (N3:Lp):Lp:=A4 PG (Qwx DS N3) 64 8 (A3 PG 90 8) Qs5 Qtm
def Qt4 (DS:Fn) (N3 N8:Lp):Cfg:=(Qwx DS N3).loop 8 Qs5 Qtm N8
def W3 (DS:Fn) (N3 N8:Lp):Fn:=An PG (Qt4 DS N3 N8) 64 90 W2 YQ
theorem Q74 (DS:Fn) (v0 v1:Rw) (v2 v3 v4 v5 v6 v7 v8 v9 v10 v11 v12:Int) (v13:Rw) (v14 v15 v16 v17 v18 v19 v20 v21 v22:Int) (v23:Rw) (v24 v25 v26 v27 v28 v29 v30 v31 v32:Int) (v33:Rw):P_ DS [.view kPt v0, .view Ag v1,I v2,I v3,I v4,I v5,I v6,I v7,I v8,I v9,I v10,I v11,I v12, .view Aa v13,I v14,I v15,I v16,I v17,I v18,I v19,I v20,I v21,I v22, .view Aa v23,I v24,I v25,I v26,I v27,I v28,I v29,I v30,I v31,I v32, .view Aa v33]=
 bif decide (v3<v2)then
 bif decide (0<=v3)&&decide (v3<(v1.length:Int))then
 bif((v0++[[jA (nth [] v1 v3.toNat) 0,jA (nth [] v1 v3.toNat) 1,jA (nth [] v1 v3.toNat) 2]]).length*24).ble 140737488355328 then
 some (0,[.view kPt (v0++[[jA (nth [] v1 v3.toNat) 0,jA (nth [] v1 v3.toNat) 1,jA (nth [] v1 v3.toNat) 2]]), .view Ag v1,I v2,I (wrap .i64 (v3+1)),I v4,I v5,I v6,I v7,I v8,I v9,I v10,I v11,I v12, .view Aa v13,I v14,I v15,I v16,I v17,I v18,I v19,I v20,I v21,I v22, .view Aa v23,I v24,I v25,I v26,I v27,I v28,I v29,I v30,I v31,I v32, .view Aa v33])
 else
 none
 else
 none
 else
 some (1,[.view kPt v0,I v4,I v5,I v6,I v7,I v8,I v9,I v10,I v11,I v12, .view Aa v13,I v14,I v15,I v16,I v17,I v18,I v19,I v20,I v21,I v22, .view Aa v23,I v24,I v25,I v26,I v27,I v28,I v29,I v30,I v31,I v32, .view Aa v33]):=by kernel_rfl
theorem Zvi (DS:Fn) (N3:Lp) (v0:Rw) (v1 v2 v3 v4 v5 v6 v7 v8 v9 v10 v11:Int) (v12:Rw) (v13 v14 v15 v16 v17 v18 v19 v20 v21:Int) (v22:Rw) (v23 v24 v25 v26 v27 v28 v29 v30 v31:Int) (v32:Rw):RW DS N3 [.view kPt v0,I v1,I v2,I v3,I v4,I v5,I v6,I v7,I v8,I v9,I v10,I v11, .view Aa v12,I v13,I v14,I v15,I v16,I v17,I v18,I v19,I v20,I v21, .view Aa v22,I v23,I v24,I v25,I v26,I v27,I v28,I v29,I v30,I v31, .view Aa v32]=
 bif decide (v2<v1)then
 bif decide (0<=v2)&&decide (v2<(v0.length:Int))then
 (DS [I v3,I v4,I v5,I v6,I v7,I v8,I v9,I v10,I v11, .view Aa v12,jA (nth [] v0 v2.toNat) 0]).bind fun o6=>
 bif !bA o6 0 then
 some (1,[B false])
 else
 (DS [I v13,I v14,I v15,I v16,I v17,I v18,I v19,I v20,I v21, .view Aa v22,jA (nth [] v0 v2.toNat) 1]).bind fun o7=>
 bif !bA o7 0 then
 some (1,[B false])
 else
 (DS [I v23,I v24,I v25,I v26,I v27,I v28,I v29,I v30,I v31, .view Aa v32,jA (nth [] v0 v2.toNat) 2]).bind fun o8=>
 bif !bA o8 0 then
 some (1,[B false])
 else
 some (0,[.view kPt v0,I v1,I (wrap .i64 (v2+1)),I v3,I v4,I v5,I v6,I v7,I v8,I v9,I v10,I v11, .view Aa v12,I v13,I v14,I v15,I v16,I v17,I v18,I v19,I v20,I v21, .view Aa v22,I v23,I v24,I v25,I v26,I v27,I v28,I v29,I v30,I v31, .view Aa v32])
 else
 none
 else
 some (2,[]):=by kernel_rfl
theorem Zpw (DS:Fn) (N3 N8:Lp) (x0 x1 x2 x3 x4 x5 x6 x7 x8:Int) (x9:Rw) (x10 x11 x12 x13 x14 x15 x16 x17 x18:Int) (x19:Rw) (x20 x21 x22 x23 x24 x25 x26 x27 x28:Int) (x29:Rw) (x30 x31 x32:Int) (x33 x34:Rw):W3 DS N3 N8 [I x0,I x1,I x2,I x3,I x4,I x5,I x6,I x7,I x8, .view Aa x9,I x10,I x11,I x12,I x13,I x14,I x15,I x16,I x17,I x18, .view Aa x19,I x20,I x21,I x22,I x23,I x24,I x25,I x26,I x27,I x28, .view Aa x29,I x30,I x31,I x32, .view Ag x33, .view kPt x34]=
 (N3 [.view kPt [[I x30,I x31,I x32]], .view Ag x33,I (x33.length:Int),I 0,I x0,I x1,I x2,I x3,I x4,I x5,I x6,I x7,I x8, .view Aa x9,I x10,I x11,I x12,I x13,I x14,I x15,I x16,I x17,I x18, .view Aa x19,I x20,I x21,I x22,I x23,I x24,I x25,I x26,I x27,I x28, .view Aa x29]).bind fun o9=>
 bif o9.1.beq 1 then
 (N8 [.view kPt (wA o9.2 0),I (↑(wA o9.2 0).length:Int),I 0,jA o9.2 1,jA o9.2 2,jA o9.2 3,jA o9.2 4,jA o9.2 5,jA o9.2 6,jA o9.2 7,jA o9.2 8,jA o9.2 9, .view Aa (wA o9.2 10),jA o9.2 11,jA o9.2 12,jA o9.2 13,jA o9.2 14,jA o9.2 15,jA o9.2 16,jA o9.2 17,jA o9.2 18,jA o9.2 19, .view Aa (wA o9.2 20),jA o9.2 21,jA o9.2 22,jA o9.2 23,jA o9.2 24,jA o9.2 25,jA o9.2 26,jA o9.2 27,jA o9.2 28,jA o9.2 29, .view Aa (wA o9.2 30)]).bind fun o10=>
 bif o10.1.beq 1 then
 some [B (bA o10.2 0)]
 else
 bif o10.1.beq 2 then
 some [B true]
 else
 none
 else
 none:=by kernel_rfl
def Qm8:=Am (P_ HB)
def Q0w:=Am (RW HB Qm8)
def Px:=W3 HB Qm8 Q0w
theorem Wn:Ai PG (XJ HB):=Ap rfl ⟨Q99,trivial⟩
theorem Zux:Ak PG (90,Ac W2 YQ Px):=rw2 (C:=(Qt4 HB Qm8 Q0w)) (fl (fl fb Wn) Wn) Wn
def Qa1:Sk:=⟨[tf [CS.sl Al]],[],[]⟩
def UE:Sk:=⟨[TS.tup [(true,[ci,ci,ci,CS.sl Ag,CS.sl kPt]),(false,[ci])]],[],[]⟩
def Zta (M:Fn):Nat×Spec:=(89,Ac Qa1 UE M)
def Yk (Ef:Fn):Cfg:=cp [Q7f Ef] [80]
def Qj1 (Ef:Fn):Fn:=An PG (Yk Ef) 64 89 Qa1 UE
theorem Zys (Ef:Fn) (x0:Rw):Qj1 Ef [.view Al x0]=
 (Ef [.view Al x0]).bind fun o1=>
 bif gA o1 2 !=0 then
 some [I 0,I 0,I 0, .view Ag [], .view kPt [],jA o1 2]
 else
 some [jA o1 3,jA o1 4,jA o1 5, .view Ag (wA o1 0), .view kPt (wA o1 1),I 0]:=by kernel_rfl
def L1:=Qj1 IG
theorem Zg0:Ai PG (Yk IG):=Ap rfl ⟨Q6z,trivial⟩
theorem Zgb:Ak PG (89,Ac Qa1 UE L1):=rw1 (C:=(Yk IG)) Zg0
def Qf5:Sk:=⟨[tf [CS.ptr 20000 0],tf [CS.sl Al],tf [CS.bool]],[(20000,119,cS)],[]⟩
def Qg5:Sk:=⟨[tf [ci]],[(20000,119,cS)],[]⟩
def Zjg (M:Fn):Nat×Spec:=(57,Ac Qf5 Qg5 M)
def Uq (Nu F3 LT Oi:Fn):Cfg:={cf [Q8n Nu,Qoj F3,Z1h LT,Zta Oi]with fstore:=true}
def PM (Nu F3 LT Oi:Fn):Fn:=An PG (Uq Nu F3 LT Oi) 64 57 Qf5 Qg5
theorem Ze4 (Nu F3 LT Oi:Fn) (x0:Rw) (x1:Bool) (K:Kf) (c:Cv):PM Nu F3 LT Oi (.view Al x0::B x1::Ad K c)=
 (Oi [.view Al x0]).bind fun o4=>
 bif gA o4 5 !=0 then
 some (jA o4 5::Ad K c)
 else
 (LT (AO K.x++[jA o4 0,jA o4 1,jA o4 2, .view Ag (wA o4 3), .view kPt (wA o4 4)])).bind fun o5=>
 bif !bA o5 0 then
 some (I 17::Ad K c)
 else
 bif(x0.length*176).ble 140737488355328 then
 (F3 [jA o4 0,jA o4 1,jA o4 2, .view Ag (wA o4 3), .view kPt (wA o4 4)]).bind fun o6=>
 (Nu [.view Al x0]).bind fun o7=>
 some (I 0::D_ (Ad K c) [(35, .view Al x0),(36,B x1),(37,jA o4 0),(38,jA o4 1),(39,jA o4 2),(40, .view Ag (wA o4 3)),(41, .view kPt (wA o4 4)),(42,jA o6 0),(43,jA o7 0)])
 else
 none:=by kernel_rfl
def Su:=PM OA I3 Px L1
theorem Zzw:Ai PG (Uq OA I3 Px L1):=Ap rfl ⟨Zmf,Q5n,Zux,Zgb,trivial⟩
theorem Zgc:Ak PG (57,Ac Qf5 Qg5 Su):=rw1 (C:=(Uq OA I3 Px L1)) Zzw
def Qnd:Sk:=⟨[],[],[]⟩
def W6:Sk:=⟨[TS.v true [ci,ci,CS.bool,CS.bool,CS.bool]],[],[]⟩
def Zsk (M:Fn):Nat×Spec:=(55,Ac Qnd W6 M)
def Qlg:Cfg:=cf []
def UJ:Fn:=An PG Qlg 64 55 Qnd W6
theorem Ztx:UJ []=
 some [I 100,I 100,B false,B false,B false]:=by kernel_rfl
def OO:=UJ
theorem Ze2:Ai PG (Qlg):=Ap rfl trivial
theorem Z1j:Ak PG (55,Ac Qnd W6 OO):=rw1 (C:=Qlg) Ze2
def W7:Sk:=⟨[TS.v true (cc 9++[CS.sl Aa]++cc 9++[CS.sl Aa]++cc 9++[CS.sl Aa]++cc 5)],[],[]⟩
def XZ:Sk:=⟨[TS.v true (cc 9++[CS.sl Aa]++cc 9++[CS.sl Aa]++cc 9++[CS.sl Aa]++cc 5)],[],[]⟩
def Q8m (M:Fn):Nat×Spec:=(54,Ac W7 XZ M)
def Qep:Cfg:={cf []with fstore:=true,unroll:=[2]}
def Qk5:Fn:=An PG Qep 64 54 W7 XZ
theorem Zqg (x0 x1 x2 x3 x4 x5 x6 x7 x8:Int) (x9:Rw) (x10 x11 x12 x13 x14 x15 x16 x17 x18:Int) (x19:Rw) (x20 x21 x22 x23 x24 x25 x26 x27 x28:Int) (x29:Rw) (x30 x31 x32 x33 x34:Int):Qk5 [I x0,I x1,I x2,I x3,I x4,I x5,I x6,I x7,I x8, .view Aa x9,I x10,I x11,I x12,I x13,I x14,I x15,I x16,I x17,I x18, .view Aa x19,I x20,I x21,I x22,I x23,I x24,I x25,I x26,I x27,I x28, .view Aa x29,I x30,I x31,I x32,I x33,I x34]=
 bif(x9.length*8).ble 140737488355328 then
 bif(x19.length*8).ble 140737488355328 then
 bif(x29.length*8).ble 140737488355328 then
 some [I x0,I x1,I x2,I x3,I x4,I x5,I x6,I x7,I x8, .view Aa x9,I x10,I x11,I x12,I x13,I x14,I x15,I x16,I x17,I x18, .view Aa x19,I x20,I x21,I x22,I x23,I x24,I x25,I x26,I x27,I x28, .view Aa x29,I x30,I x31,I x32,I x33,I x34]
 else
 none
 else
 none
 else
 none:=by kernel_rfl
def Pb:=Qk5
theorem Zpa:Ai PG (Qep):=Ap rfl trivial
theorem Zf6:Ak PG (54,Ac W7 XZ Pb):=rw1 (C:=Qep) Zpa
def Xc:Sk:=⟨[TS.v true (cc 9++[CS.sl Aa])],[],[]⟩
def W8:Sk:=⟨[tf [CS.bool]],[],[]⟩
def Zdk (M:Fn):Nat×Spec:=(141,Ac Xc W8 M)
def Xt (BQ:Fn):Cfg:=cf [Zi BQ]
def Q0z:Sk:=⟨[td,tf [CS.ptr 1 0]]++dd 24++[tf [CS.sl Aa],tf [ci],tf [ci]]++dd 29,[(1,26,cc 9++[CS.sl Aa])],[]⟩
def Qvb:List (Ex×Sk):=[(Ex.ret,⟨[td,td,tf [CS.bool]]++dd 55,[],[]⟩),(Ex.exit 0,⟨[td]++dd 57,[],[]⟩)]
def Y2 (BQ:Fn):Lp:=A4 PG (Xt BQ) 64 6 (A3 PG 141 6) Q0z Qvb
def Qzg (BQ:Fn) (N6:Lp):Cfg:=(Xt BQ).loop 6 Q0z Qvb N6
def ZL (BQ:Fn) (N6:Lp):Fn:=An PG (Qzg BQ N6) 64 141 Xc W8
theorem Zci (BQ:Fn) (v0:Rw) (v1 v2 v3 v4 v5 v6 v7 v8 v9 v10 v11:Int) (v12:Rw):Y2 BQ [.view Aa v0,I v1,I v2,I v3,I v4,I v5,I v6,I v7,I v8,I v9,I v10,I v11, .view Aa v12]=
 bif decide (v2<v1)then
 bif decide (0<=v2)&&decide (v2<(v0.length:Int))then
 (BQ [jA (nth [] v0 v2.toNat) 0,I (-4096),I 4096]).bind fun o7=>
 bif !bA o7 0 then
 some (1,[B false])
 else
 bif decide (v2>0)then
 bif decide (0<=wrap .i64 (v2-1))&&decide (wrap .i64 (v2-1)<(v12.length:Int))then
 (BQ [I (wrap .i64 (gA (nth [] v0 v2.toNat) 0-gA (nth [] v12 (wrap .i64 (v2-1)).toNat) 0)),I (wrap .i64 (0-wrap .i64 (v11.tdiv 4))),I (wrap .i64 (v11.tdiv 4))]).bind fun o8=>
 bif !bA o8 0 then
 some (1,[B false])
 else
 some (0,[.view Aa v0,I v1,I (wrap .i64 (v2+1)),I v3,I v4,I v5,I v6,I v7,I v8,I v9,I v10,I v11, .view Aa v12])
 else
 none
 else
 some (0,[.view Aa v0,I v1,I (wrap .i64 (v2+1)),I v3,I v4,I v5,I v6,I v7,I v8,I v9,I v10,I v11, .view Aa v12])
 else
 none
 else
 some (2,[]):=by kernel_rfl
theorem Zxu (BQ:Fn) (N6:Lp) (x0 x1 x2 x3 x4 x5 x6 x7 x8:Int) (x9:Rw):ZL BQ N6 [I x0,I x1,I x2,I x3,I x4,I x5,I x6,I x7,I x8, .view Aa x9]=
 bif(x9.length:Int)==0 then
 some [B true]
 else
 bif decide ((x9.length:Int)>64)then
 some [B false]
 else
 (BQ [I x7,I (-16777216),I 16777216]).bind fun o9=>
 bif !bA o9 0 then
 some [B false]
 else
 (BQ [I x8,I 4,I 16777216]).bind fun o10=>
 bif !bA o10 0 then
 some [B false]
 else
 (N6 [.view Aa x9,I (x9.length:Int),I 0,I x0,I x1,I x2,I x3,I x4,I x5,I x6,I x7,I x8, .view Aa x9]).bind fun o11=>
 bif o11.1.beq 1 then
 some [B (bA o11.2 0)]
 else
 bif o11.1.beq 2 then
 some [B true]
 else
 none:=by kernel_rfl
def Qo8:=Am (Y2 Gj)
def Qf:=ZL Gj Qo8
theorem Qwk:Ai PG (Xt Gj):=Ap rfl ⟨Qm3,trivial⟩
theorem Zks:Ak PG (141,Ac Xc W8 Qf):=rw2 (C:=(Qzg Gj Qo8)) (fl fb Qwk) Qwk
def Qfz:Sk:=⟨[TS.v true (cc 9++[CS.sl Aa])],[],[]⟩
def Qlx:Sk:=⟨[tf [CS.bool]],[],[]⟩
def Zku (M:Fn):Nat×Spec:=(86,Ac Qfz Qlx M)
def Qlz (Ou BQ:Fn):Cfg:=cf [Zdk Ou,Zi BQ]
def UB (Ou BQ:Fn):Fn:=An PG (Qlz Ou BQ) 64 86 Qfz Qlx
theorem Zsm (Ou BQ:Fn) (x0 x1 x2 x3 x4 x5 x6 x7 x8:Int) (x9:Rw):UB Ou BQ [I x0,I x1,I x2,I x3,I x4,I x5,I x6,I x7,I x8, .view Aa x9]=
 (BQ [I x0,I 4,I 4096]).bind fun o6=>
 bif bA o6 0 then
 (BQ [I x1,I 1,I 1048576]).bind fun o7=>
 bif bA o7 0 then
 (BQ [I x2,I 2,I 1048576]).bind fun o8=>
 bif bA o8 0 then
 (BQ [I x3,I 4,I 1048576]).bind fun o9=>
 bif decide (x4>= -16777216)then
 bif decide (x5<=16777216)then
 bif bA o9 0 then
 bif decide (x4<=x5)then
 (BQ [I x6,I 0,I 64]).bind fun o10=>
 bif bA o10 0 then
 (Ou [I x0,I x1,I x2,I x3,I x4,I x5,I x6,I x7,I x8, .view Aa x9]).bind fun o11=>
 some [B (bA o11 0)]
 else
 some [B false]
 else
 some [B false]
 else
 some [B false]
 else
 bif bA o9 0 then
 some [B false]
 else
 some [B false]
 else
 bif bA o9 0 then
 some [B false]
 else
 some [B false]
 else
 bif decide (x4>= -16777216)then
 bif decide (x5<=16777216)then
 some [B false]
 else
 some [B false]
 else
 some [B false]
 else
 bif decide (x4>= -16777216)then
 bif decide (x5<=16777216)then
 some [B false]
 else
 some [B false]
 else
 some [B false]
 else
 bif decide (x4>= -16777216)then
 bif decide (x5<=16777216)then
 some [B false]
 else
 some [B false]
 else
 some [B false]:=by kernel_rfl
def Ph:=UB Qf Gj
theorem Zvr:Ai PG (Qlz Qf Gj):=Ap rfl ⟨Zks,Qm3,trivial⟩
theorem Zhi:Ak PG (86,Ac Qfz Qlx Ph):=rw1 (C:=(Qlz Qf Gj)) Zvr
def Qc4:Sk:=⟨[TS.v true (cc 9++[CS.sl Aa]++cc 9++[CS.sl Aa]++cc 9++[CS.sl Aa]++cc 5)],[],[]⟩
def Qff:Sk:=⟨[tf [CS.bool]],[],[]⟩
def Q8c (M:Fn):Nat×Spec:=(53,Ac Qc4 Qff M)
def Qno (Dk BS JA:Fn):Cfg:={cf [Qks Dk,Vy BS,Zku JA]with unroll:=[2]}
def Qin (Dk BS JA:Fn):Fn:=An PG (Qno Dk BS JA) 64 53 Qc4 Qff
theorem Zgg (Dk BS JA:Fn) (x0 x1 x2 x3 x4 x5 x6 x7 x8:Int) (x9:Rw) (x10 x11 x12 x13 x14 x15 x16 x17 x18:Int) (x19:Rw) (x20 x21 x22 x23 x24 x25 x26 x27 x28:Int) (x29:Rw) (x30 x31 x32 x33 x34:Int):Qin Dk BS JA [I x0,I x1,I x2,I x3,I x4,I x5,I x6,I x7,I x8, .view Aa x9,I x10,I x11,I x12,I x13,I x14,I x15,I x16,I x17,I x18, .view Aa x19,I x20,I x21,I x22,I x23,I x24,I x25,I x26,I x27,I x28, .view Aa x29,I x30,I x31,I x32,I x33,I x34]=
 (JA [I x0,I x1,I x2,I x3,I x4,I x5,I x6,I x7,I x8, .view Aa x9]).bind fun o5=>
 bif !bA o5 0 then
 some [B false]
 else
 (JA [I x10,I x11,I x12,I x13,I x14,I x15,I x16,I x17,I x18, .view Aa x19]).bind fun o6=>
 bif !bA o6 0 then
 some [B false]
 else
 (JA [I x20,I x21,I x22,I x23,I x24,I x25,I x26,I x27,I x28, .view Aa x29]).bind fun o7=>
 bif !bA o7 0 then
 some [B false]
 else
 (BS [I x30,I x31,I x32]).bind fun o8=>
 bif bA o8 0 then
 bif decide (x33>=1)then
 (Dk [I 30000]).bind fun o9=>
 bif decide (x33<=gA o9 0)then
 bif decide (x34>=0)then
 some [B (decide (x34<=1048576))]
 else
 some [B false]
 else
 some [B false]
 else
 some [B false]
 else
 some [B false]:=by kernel_rfl
def OH:=Qin EW EV Ph
theorem Zfa:Ai PG (Qno EW EV Ph):=Ap rfl ⟨UC,Qmd,Zhi,trivial⟩
theorem Zaq:Ak PG (53,Ac Qc4 Qff OH):=rw1 (C:=(Qno EW EV Ph)) Zfa
def Qbc:Sk:=⟨[TS.v true (cc 9++[CS.sl Aa]++cc 9++[CS.sl Aa]++cc 9++[CS.sl Aa]++cc 5),tf [CS.sl Al],tf [CS.bool]],[],[]⟩
def Qbf:Sk:=⟨[TS.tup [(false,[CS.ptr 19 0]),(false,[ci])]],[(19,119,cS)],[]⟩
def Qra (M:Fn):Nat×Spec:=(20,Ac Qbc Qbf M)
def Qal (FX Mn Mx F0 NF Oo OB:Fn):Cfg:={cp [Qwa FX,Zqe Mn,Zjg Mx,Q22 F0,Zsk NF,Q8m Oo,Q8c OB] [57]with fstore:=true}
def S5 (FX Mn Mx F0 NF Oo OB:Fn):Fn:=An PG (Qal FX Mn Mx F0 NF Oo OB) 64 20 Qbc Qbf
theorem Z0b (FX Mn Mx F0 NF Oo OB:Fn) (x0 x1 x2 x3 x4 x5 x6 x7 x8:Int) (x9:Rw) (x10 x11 x12 x13 x14 x15 x16 x17 x18:Int) (x19:Rw) (x20 x21 x22 x23 x24 x25 x26 x27 x28:Int) (x29:Rw) (x30 x31 x32 x33 x34:Int) (x35:Rw) (x36:Bool):S5 FX Mn Mx F0 NF Oo OB [I x0,I x1,I x2,I x3,I x4,I x5,I x6,I x7,I x8, .view Aa x9,I x10,I x11,I x12,I x13,I x14,I x15,I x16,I x17,I x18, .view Aa x19,I x20,I x21,I x22,I x23,I x24,I x25,I x26,I x27,I x28, .view Aa x29,I x30,I x31,I x32,I x33,I x34, .view Al x35,B x36]=
 (OB [I x0,I x1,I x2,I x3,I x4,I x5,I x6,I x7,I x8, .view Aa x9,I x10,I x11,I x12,I x13,I x14,I x15,I x16,I x17,I x18, .view Aa x19,I x20,I x21,I x22,I x23,I x24,I x25,I x26,I x27,I x28, .view Aa x29,I x30,I x31,I x32,I x33,I x34]).bind fun o7=>
 bif !bA o7 0 then
 none
 else
 (Oo [I x0,I x1,I x2,I x3,I x4,I x5,I x6,I x7,I x8, .view Aa x9,I x10,I x11,I x12,I x13,I x14,I x15,I x16,I x17,I x18, .view Aa x19,I x20,I x21,I x22,I x23,I x24,I x25,I x26,I x27,I x28, .view Aa x29,I x30,I x31,I x32,I x33,I x34]).bind fun o8=>
 (NF []).bind fun o9=>
 (F0 []).bind fun o10=>
 (Mx [.view Al x35,B x36,jA o8 0,jA o8 1,jA o8 2,jA o8 3,jA o8 4,jA o8 5,jA o8 6,jA o8 7,jA o8 8, .view Aa (wA o8 9),jA o8 10,jA o8 11,jA o8 12,jA o8 13,jA o8 14,jA o8 15,jA o8 16,jA o8 17,jA o8 18, .view Aa (wA o8 19),jA o8 20,jA o8 21,jA o8 22,jA o8 23,jA o8 24,jA o8 25,jA o8 26,jA o8 27,jA o8 28, .view Aa (wA o8 29),jA o8 30,jA o8 31,jA o8 32,jA o8 33,jA o8 34, .view Al [],B false,I 0,I 0,I 0, .view Ag [], .view kPt [],I 0,I 0, .view As [],I 0,I 0,I 0,I 0,I 0,I 0,I 0,I 0,I 0,I 0,I 0,jA o9 0,jA o9 1,B (bA o9 2),B (bA o9 3),B (bA o9 4),jA o10 0,jA o10 1,jA o10 2,I 1,I 0,I 0,I 0,I 0,I 0,I 0,I 0,I 0,B false,I 0,B false,I 0,B false,I 0,I (-1),I 0,I 0,I 0,I 0,I 0,I 0,I 0,B false,B false,B false]).bind fun o11=>
 bif gA o11 0 !=0 then
 none
 else
 (Mn [jA o11 38,jA o11 39,jA o11 40, .view Ag (wA o11 41), .view kPt (wA o11 42),jA o11 1,jA o11 2,jA o11 3,jA o11 4,jA o11 5,jA o11 6,jA o11 7,jA o11 8,jA o11 9, .view Aa (wA o11 10),jA o11 11,jA o11 12,jA o11 13,jA o11 14,jA o11 15,jA o11 16,jA o11 17,jA o11 18,jA o11 19, .view Aa (wA o11 20),jA o11 21,jA o11 22,jA o11 23,jA o11 24,jA o11 25,jA o11 26,jA o11 27,jA o11 28,jA o11 29, .view Aa (wA o11 30),I 1,I 1,I 1,I 0,jA o11 43]).bind fun o12=>
 (FX [I 0]).bind fun o13=>
 some (I 0::D_ (cR 1 o11) [(44, .view As (wA o12 0)),(45,jA o12 1),(46,jA o12 2),(47,jA o12 3),(48,jA o12 4),(49,jA o12 5),(50,jA o13 0),(51,jA o13 1),(52,jA o13 2),(53,jA o13 3),(54,jA o13 4),(55,jA o13 5)]):=by kernel_rfl
def Hk:=S5 IK Qn Su JT OO Pb OH
theorem Zm3:Ai PG (Qal IK Qn Su JT OO Pb OH):=Ap rfl ⟨Qp4,Za1,Zgc,Qqg,Z1j,Zf6,Zaq,trivial⟩
theorem Qyl:Ak PG (20,Ac Qbc Qbf Hk):=rw1 (C:=(Qal IK Qn Su JT OO Pb OH)) Zm3
def Qan:Sk:=⟨[tf [CS.sl kPt]],[],[]⟩
def Qbl:Sk:=⟨[tf [CS.sl kPt]],[],[]⟩
def Zn7 (M:Fn):Nat×Spec:=(18,Ac Qan Qbl M)
def C_cncmill_Calm_0:Cfg:={cf []with prom:=fun b=>bif Nat.beq b 3 then [(3,69)]else []}
def Q5e:Sk:=⟨[td,td,td,tf [CS.own 3 3],td,td,tf [CS.sl kPt],tf [ci],tf [ci]]++dd 12,[],[(3,69,kPt)]⟩
def Qug:List (Ex×Sk):=[(Ex.exit 0,⟨[td,td,td,tf [CS.own 3 3]]++dd 17,[],[(3,69,kPt)]⟩)]
def S1:Lp:=A4 PG C_cncmill_Calm_0 64 3 (A3 PG 18 3) Q5e Qug
def Qv4 (N3:Lp):Cfg:=C_cncmill_Calm_0.loop 3 Q5e Qug N3
def Qjm (N3:Lp):Fn:=An PG (Qv4 N3) 64 18 Qan Qbl
theorem Zuo (v0 v1:Rw) (v2 v3:Int):S1 [.view kPt v0, .view kPt v1,I v2,I v3]=
 bif decide (v3<v2)then
 bif decide (0<=v3)&&decide (v3<(v1.length:Int))then
 bif decide (gA (nth [] v1 v3.toNat) 1<=6)then
 bif((v0++[[jA (nth [] v1 v3.toNat) 0,jA (nth [] v1 v3.toNat) 1,jA (nth [] v1 v3.toNat) 2]]).length*24).ble 140737488355328 then
 some (0,[.view kPt (v0++[[jA (nth [] v1 v3.toNat) 0,jA (nth [] v1 v3.toNat) 1,jA (nth [] v1 v3.toNat) 2]]), .view kPt v1,I v2,I (wrap .i64 (v3+1))])
 else
 none
 else
 some (0,[.view kPt v0, .view kPt v1,I v2,I (wrap .i64 (v3+1))])
 else
 none
 else
 some (1,[.view kPt v0]):=by kernel_rfl
theorem Q7u (N3:Lp) (x0:Rw):Qjm N3 [.view kPt x0]=
 (N3 [.view kPt [], .view kPt x0,I (x0.length:Int),I 0]).bind fun o1=>
 bif o1.1.beq 1 then
 some [.view kPt (wA o1.2 0)]
 else
 none:=by kernel_rfl
def Q5w:=Am (S1)
def L6:=Qjm Q5w
theorem Qye:Ai PG (C_cncmill_Calm_0):=Ap rfl trivial
theorem Zyw:Ak PG (18,Ac Qan Qbl L6):=rw2 (C:=(Qv4 Q5w)) (fl fb Qye) Qye
def Qdp:Sk:=⟨[tf [CS.ptr 20000 0],tf [ci]],[(20000,103,[CS.sl Aa,ci])],[]⟩
def Qbp:Sk:=⟨[tf [ci]],[(20000,103,[CS.sl Aa,ci])],[]⟩
def OC (M:Fn):Nat×Spec:=(48,Ac Qdp Qbp M)
def Qmz (DR:Fn):Cfg:=cf [Qwb DR]
def Qkp (DR:Fn):Fn:=An PG (Qmz DR) 64 48 Qdp Qbp
theorem Zzp (DR:Fn) (x0:Int) (x1:Rw) (x2:Int):Qkp DR [I x0, .view Aa x1,I x2]=
 bif decide (x2>=(x1.length:Int))then
 some [I 0, .view Aa x1,I x2]
 else
 bif decide (0<=x2)&&decide (x2<(x1.length:Int))then
 (DR [jA (nth [] x1 x2.toNat) 0,I x0]).bind fun o1=>
 some [jA o1 0, .view Aa x1,I (wrap .i64 (x2+1))]
 else
 none:=by kernel_rfl
def Df:=Qkp Iq
theorem Q8a:Ai PG (Qmz Iq):=Ap rfl ⟨Qol,trivial⟩
theorem Qb:Ak PG (48,Ac Qdp Qbp Df):=rw1 (C:=(Qmz Iq)) Q8a
def Qix:Sk:=⟨[tf [CS.ptr 20000 0],tf [ci]],[(20000,103,[CS.sl Aa,ci])],[]⟩
def U6:Sk:=⟨[TS.v true [ci,ci,ci]],[(20000,103,[CS.sl Aa,ci])],[]⟩
def Zcm (M:Fn):Nat×Spec:=(52,Ac Qix U6 M)
def Ql6 (Az:Fn):Cfg:=cp [OC Az] [48]
def Qly (Az:Fn):Fn:=An PG (Ql6 Az) 64 52 Qix U6
abbrev PW (Az:Fn) (o9:List AC) (x0:Int) (h1_0:AC):Option (List AC):=
 (Az [h1_0, .view Aa (wA o9 1),jA o9 2]).bind fun o10=>
 some [I x0,I (Af (nth .dead (nth [] [[I 4],[I 1],[I 2],[I 3],[I 4],[I 5],[I 6],[I 7],[I 4],[I 8],[I 9],[I 11],[I 12],[I 13],[I 10]] (gA o9 0).toNat) 0)),I (wrap .i64 (gA o10 0-5)), .view Aa (wA o10 1),jA o10 2]
attribute [go_sem] PW
theorem Zf8 (Az:Fn) (x0:Int) (x1:Rw) (x2:Int):Qly Az [I x0, .view Aa x1,I x2]=
 (Az [I 15, .view Aa x1,I x2]).bind fun o9=>
 bif decide (0<=gA o9 0)&&decide (gA o9 0<(↑[[I 4],[I 1],[I 2],[I 3],[I 4],[I 5],[I 6],[I 7],[I 4],[I 8],[I 9],[I 11],[I 12],[I 13],[I 10]].length:Int))then
 bif Af (nth .dead (nth [] [[I 4],[I 1],[I 2],[I 3],[I 4],[I 5],[I 6],[I 7],[I 4],[I 8],[I 9],[I 11],[I 12],[I 13],[I 10]] (gA o9 0).toNat) 0)==1 then
 PW Az o9 x0 (I 220)
 else
 bif Af (nth .dead (nth [] [[I 4],[I 1],[I 2],[I 3],[I 4],[I 5],[I 6],[I 7],[I 4],[I 8],[I 9],[I 11],[I 12],[I 13],[I 10]] (gA o9 0).toNat) 0)==2 then
 PW Az o9 x0 (I 220)
 else
 bif Af (nth .dead (nth [] [[I 4],[I 1],[I 2],[I 3],[I 4],[I 5],[I 6],[I 7],[I 4],[I 8],[I 9],[I 11],[I 12],[I 13],[I 10]] (gA o9 0).toNat) 0)==5 then
 (Az [I 3, .view Aa (wA o9 1),jA o9 2]).bind fun o12=>
 some [I x0,I (Af (nth .dead (nth [] [[I 4],[I 1],[I 2],[I 3],[I 4],[I 5],[I 6],[I 7],[I 4],[I 8],[I 9],[I 11],[I 12],[I 13],[I 10]] (gA o9 0).toNat) 0)),jA o12 0, .view Aa (wA o12 1),jA o12 2]
 else
 bif Af (nth .dead (nth [] [[I 4],[I 1],[I 2],[I 3],[I 4],[I 5],[I 6],[I 7],[I 4],[I 8],[I 9],[I 11],[I 12],[I 13],[I 10]] (gA o9 0).toNat) 0)==6 then
 (Az [I 3, .view Aa (wA o9 1),jA o9 2]).bind fun o13=>
 some [I x0,I (Af (nth .dead (nth [] [[I 4],[I 1],[I 2],[I 3],[I 4],[I 5],[I 6],[I 7],[I 4],[I 8],[I 9],[I 11],[I 12],[I 13],[I 10]] (gA o9 0).toNat) 0)),jA o13 0, .view Aa (wA o13 1),jA o13 2]
 else
 bif Af (nth .dead (nth [] [[I 4],[I 1],[I 2],[I 3],[I 4],[I 5],[I 6],[I 7],[I 4],[I 8],[I 9],[I 11],[I 12],[I 13],[I 10]] (gA o9 0).toNat) 0)==7 then
 PW Az o9 x0 (I 300)
 else
 bif Af (nth .dead (nth [] [[I 4],[I 1],[I 2],[I 3],[I 4],[I 5],[I 6],[I 7],[I 4],[I 8],[I 9],[I 11],[I 12],[I 13],[I 10]] (gA o9 0).toNat) 0)==8 then
 (Az [I 5, .view Aa (wA o9 1),jA o9 2]).bind fun o15=>
 some [I x0,I (Af (nth .dead (nth [] [[I 4],[I 1],[I 2],[I 3],[I 4],[I 5],[I 6],[I 7],[I 4],[I 8],[I 9],[I 11],[I 12],[I 13],[I 10]] (gA o9 0).toNat) 0)),I (wrap .i64 (gA o15 0-1)), .view Aa (wA o15 1),jA o15 2]
 else
 bif Af (nth .dead (nth [] [[I 4],[I 1],[I 2],[I 3],[I 4],[I 5],[I 6],[I 7],[I 4],[I 8],[I 9],[I 11],[I 12],[I 13],[I 10]] (gA o9 0).toNat) 0)==13 then
 (Az [I 4, .view Aa (wA o9 1),jA o9 2]).bind fun o16=>
 (Az [I 60, .view Aa (wA o16 1),jA o16 2]).bind fun o17=>
 some [I x0,I (Af (nth .dead (nth [] [[I 4],[I 1],[I 2],[I 3],[I 4],[I 5],[I 6],[I 7],[I 4],[I 8],[I 9],[I 11],[I 12],[I 13],[I 10]] (gA o9 0).toNat) 0)),I (wrap .i64 (wrap .i64 (gA o16 0*1048576)+gA o17 0)), .view Aa (wA o17 1),jA o17 2]
 else
 some [I x0,I (Af (nth .dead (nth [] [[I 4],[I 1],[I 2],[I 3],[I 4],[I 5],[I 6],[I 7],[I 4],[I 8],[I 9],[I 11],[I 12],[I 13],[I 10]] (gA o9 0).toNat) 0)),I 0, .view Aa (wA o9 1),jA o9 2]
 else
 none:=by kernel_rfl
def LB:=Qly Df
theorem Zlt:Ai PG (Ql6 Df):=Ap rfl ⟨Qb,trivial⟩
theorem Zd1:Ak PG (52,Ac Qix U6 LB):=rw1 (C:=(Ql6 Df)) Zlt
def WD:Sk:=⟨[tf [CS.ptr 20000 0]],[(20000,103,[CS.sl Aa,ci])],[]⟩
def Qek:Sk:=⟨[tf [CS.bool]],[(20000,103,[CS.sl Aa,ci])],[]⟩
def Zf7 (M:Fn):Nat×Spec:=(49,Ac WD Qek M)
def Zz:Cfg:=cf []
def Q6n:Fn:=An PG Zz 64 49 WD Qek
theorem Zfs (x0:Rw) (x1:Int):Q6n [.view Aa x0,I x1]=
 some [B (decide (x1<(x0.length:Int))), .view Aa x0,I x1]:=by kernel_rfl
def J0:=Q6n
theorem Zm8:Ai PG (Zz):=Ap rfl trivial
theorem Z0n:Ak PG (49,Ac WD Qek J0):=rw1 (C:=Zz) Zm8
def Qaz:Sk:=⟨[tf [CS.sl Aa]],[],[]⟩
def Qli:Sk:=⟨[tf [CS.ptr 5 0]],[(5,103,[CS.sl Aa,ci])],[]⟩
def SZ (M:Fn):Nat×Spec:=(45,Ac Qaz Qli M)
def Yv:Cfg:=cf []
def Qn5:Fn:=An PG Yv 64 45 Qaz Qli
theorem Zl3 (x0:Rw):Qn5 [.view Aa x0]=
 some [.view Aa x0,I 0]:=by kernel_rfl
def Dw:=Qn5
theorem Zdb:Ai PG (Yv):=Ap rfl trivial
theorem Ri:Ak PG (45,Ac Qaz Qli Dw):=rw1 (C:=Yv) Zdb
def Qdt:Sk:=⟨[tf [CS.sl Aa]],[],[]⟩
def Yn:Sk:=⟨[tf [CS.sl kPt]],[],[]⟩
def Znk (M:Fn):Nat×Spec:=(19,Ac Qdt Yn M)
def Qie (GM Az GV BP:Fn):Cfg:={cp [Zcm GM,OC Az,Zf7 GV,SZ BP] [52,48,49,45]with prom:=fun b=>bif Nat.beq b 4 then [(4,69)]else []}
def Qsr:Sk:=⟨[td,td,td,tf [CS.ptr 100700 0],tf [CS.own 4 3],tf [ci]]++dd 15,[(100700,103,[CS.sl Aa,ci])],[(4,69,kPt)]⟩
def Q6a:List (Ex×Sk):=[(Ex.exit 0,⟨[td,td,td,td,tf [CS.own 4 3]]++dd 16,[],[(4,69,kPt)]⟩)]
def Yh (GM Az GV BP:Fn):Lp:=A4 PG (Qie GM Az GV BP) 64 4 (A3 PG 19 4) Qsr Q6a
def Qte (GM Az GV BP:Fn) (N4:Lp):Cfg:=(Qie GM Az GV BP).loop 4 Qsr Q6a N4
def WF (GM Az GV BP:Fn) (N4:Lp):Fn:=An PG (Qte GM Az GV BP N4) 64 19 Qdt Yn
theorem Zy6 (GM Az GV BP:Fn) (v0:Rw) (v1:Int) (v2:Rw) (v3:Int):Yh GM Az GV BP [.view kPt v0,I v1, .view Aa v2,I v3]=
 (GV [.view Aa v2,I v3]).bind fun o10=>
 bif bA o10 0 then
 (Az [I 40, .view Aa (wA o10 1),jA o10 2]).bind fun o11=>
 (GM [I (wrap .i64 (v1+gA o11 0)), .view Aa (wA o11 1),jA o11 2]).bind fun o12=>
 bif((v0++[[jA o12 0,jA o12 1,jA o12 2]]).length*24).ble 140737488355328 then
 some (0,[.view kPt (v0++[[jA o12 0,jA o12 1,jA o12 2]]),I (wrap .i64 (v1+gA o11 0)), .view Aa (wA o12 3),jA o12 4])
 else
 none
 else
 some (1,[.view kPt v0]):=by kernel_rfl
theorem Zte (GM Az GV BP:Fn) (N4:Lp) (x0:Rw):WF GM Az GV BP N4 [.view Aa x0]=
 (BP [.view Aa x0]).bind fun o13=>
 (N4 [.view kPt [],I 0, .view Aa (wA o13 0),jA o13 1]).bind fun o14=>
 bif o14.1.beq 1 then
 some [.view kPt (wA o14.2 0)]
 else
 none:=by kernel_rfl
def Q0m:=Am (Yh LB Df J0 Dw)
def MJ:=WF LB Df J0 Dw Q0m
theorem Q2d:Ai PG (Qie LB Df J0 Dw):=Ap rfl ⟨Zd1,Qb,Z0n,Ri,trivial⟩
theorem Zye:Ak PG (19,Ac Qdt Yn MJ):=rw2 (C:=(Qte LB Df J0 Dw Q0m)) (fl fb Q2d) Q2d
abbrev Zyp (Az Zs7:Fn) (o23 o18:List AC) (x0 x1 x2:Int) (o26 o19 o22:List AC) (h1_0 h1_1 h1_2 h1_3:AC):Option (List AC):=
 (Az [I 4,h1_0,h1_1]).bind fun o30=>
 bif decide (0<=gA o30 0)&&decide (gA o30 0<(↑[[I 0],[I 0],[I 7],[I (-12)]].length:Int))then
 (Zs7 [h1_2,h1_3,I (wrap .i64 (gA o23 2+Af (nth .dead (nth [] [[I 0],[I 0],[I 7],[I (-12)]] (gA o30 0).toNat) 0))),I (Af (nth .dead (nth [] [[I 17],[I 18],[I 19]] (gA o18 0).toNat) 0))]).bind fun o31=>
 some [I 3,I 0,I x0,I x1,I x2,jA o31 0,jA o31 1,jA o31 2,I (Af (nth .dead (nth [] [[I 17],[I 18],[I 19]] (gA o18 0).toNat) 0)),jA o26 0,jA o26 1,jA o26 2,I (wrap .i64 (1-wrap .i64 (gA o19 0*2))),B (gA o22 0==0),I 0,B false,I 0,I 0,I 0,I 0,I 0,B false, .view Aa (wA o30 1),jA o30 2]
 else
 none
attribute [go_sem] Zyp
abbrev Qmg (Az:Fn) (o20:List AC) (x3:Int) (h1_0 h1_1 h1_2 h1_3 h1_4 h1_5 h1_6 h1_7 h1_8 h1_9 h1_10 h1_11 h1_12 h1_13 h1_16 h1_17 h1_20 h1_21:AC):Option (List AC):=
 (Az [I 60, .view Aa (wA o20 1),jA o20 2]).bind fun o21=>
 bif x3==6 then
 (Az [I 2, .view Aa (wA o21 1),jA o21 2]).bind fun o22=>
 some [h1_0,h1_1,h1_2,h1_3,h1_4,h1_5,h1_6,h1_7,h1_8,h1_9,h1_10,h1_11,h1_12,h1_13,I (wrap .i64 (1+gA o21 0)),B true,h1_16,h1_17,I 0,I (wrap .i64 (3+gA o22 0)),h1_20,h1_21, .view Aa (wA o22 1),jA o22 2]
 else
 some [h1_0,h1_1,h1_2,h1_3,h1_4,h1_5,h1_6,h1_7,h1_8,h1_9,h1_10,h1_11,h1_12,h1_13,I (wrap .i64 (1+gA o21 0)),B true,h1_16,h1_17,I 0,I 0,h1_20,h1_21, .view Aa (wA o21 1),jA o21 2]
attribute [go_sem] Qmg
abbrev Zrk (x3:Int) (Az:Fn) (h1_0 h1_1 h1_2 h1_3 h1_4 h1_5 h1_6 h1_7 h1_8 h1_9 h1_10 h1_11 h1_12 h1_13 h1_14 h1_15 h1_16 h1_17 h1_18 h1_19 h1_20 h1_21 h1_22 h1_23:AC):Option (List AC):=
 bif x3==1 then
 some [h1_0,h1_1,h1_2,h1_3,h1_4,h1_5,h1_6,h1_7,h1_8,h1_9,h1_10,h1_11,h1_12,h1_13,h1_14,h1_15,h1_16,h1_17,h1_18,h1_19,h1_20,h1_21,h1_22,h1_23]
 else
 (Az [I 5,h1_22,h1_23]).bind fun o19=>
 bif decide (0<=gA o19 0)&&decide (gA o19 0<(↑[[I 300000],[I 1],[I 60000],[I 2000000],[I 60000000]].length:Int))then
 (Az [I 5, .view Aa (wA o19 1),jA o19 2]).bind fun o20=>
 bif decide (0<=gA o20 0)&&decide (gA o20 0<(↑[[I 0],[I 1],[I 2],[I 4],[I 9]].length:Int))then
 bif x3==5 then
 Qmg Az o20 x3 h1_0 h1_1 h1_2 h1_3 h1_4 h1_5 h1_6 h1_7 h1_8 h1_9 h1_10 h1_11 h1_12 h1_13 h1_16 h1_17 h1_20 h1_21
 else
 bif x3==6 then
 Qmg Az o20 x3 h1_0 h1_1 h1_2 h1_3 h1_4 h1_5 h1_6 h1_7 h1_8 h1_9 h1_10 h1_11 h1_12 h1_13 h1_16 h1_17 h1_20 h1_21
 else
 bif x3==4 then
 some [h1_0,h1_1,h1_2,h1_3,h1_4,h1_5,h1_6,h1_7,h1_8,h1_9,h1_10,h1_11,h1_12,h1_13,I (Af (nth .dead (nth [] [[I 300000],[I 1],[I 60000],[I 2000000],[I 60000000]] (gA o19 0).toNat) 0)),h1_15,h1_16,h1_17,I 0,h1_19,h1_20,h1_21, .view Aa (wA o20 1),jA o20 2]
 else
 some [h1_0,h1_1,h1_2,h1_3,h1_4,h1_5,h1_6,h1_7,h1_8,h1_9,h1_10,h1_11,h1_12,h1_13,I (Af (nth .dead (nth [] [[I 300000],[I 1],[I 60000],[I 2000000],[I 60000000]] (gA o19 0).toNat) 0)),h1_15,h1_16,h1_17,I (Af (nth .dead (nth [] [[I 0],[I 1],[I 2],[I 4],[I 9]] (gA o20 0).toNat) 0)),h1_19,h1_20,h1_21, .view Aa (wA o20 1),jA o20 2]
 else
 none
 else
 none
attribute [go_sem] Zrk
abbrev Zne (Az:Fn) (o8:List AC):Option (List AC):=
 (Az [I 16, .view Aa (wA o8 1),jA o8 2]).bind fun o9=>
 (Az [I 2, .view Aa (wA o9 1),jA o9 2]).bind fun o10=>
 some [I 10,I 0,I 0,I 0,I 0,I 0,I 0,I 0,I 0,I 0,I 0,I 0,I 0,B false,I 0,B false,I 0,I 0,I 0,jA o9 0,I 0,B (gA o10 0==0), .view Aa (wA o10 1),jA o10 2]
attribute [go_sem] Zne
def Qfe:Sk:=⟨[tf [CS.sl Aa]],[],[]⟩
def Xs:Sk:=⟨[TS.v true [ci,ci,ci]],[],[]⟩
def Za5 (M:Fn):Nat×Spec:=(47,Ac Qfe Xs M)
def W9 (Az BP:Fn):Cfg:=cp [OC Az,SZ BP] [48,45]
def W_ (Az BP:Fn):Fn:=An PG (W9 Az BP) 64 47 Qfe Xs
theorem Zfg (Az BP:Fn) (x0:Rw):W_ Az BP [.view Aa x0]=
 (BP [.view Aa x0]).bind fun o4=>
 (Az [I 900, .view Aa (wA o4 0),jA o4 1]).bind fun o5=>
 (Az [I 200, .view Aa (wA o5 1),jA o5 2]).bind fun o6=>
 (Az [I 16000, .view Aa (wA o6 1),jA o6 2]).bind fun o7=>
 some [I (wrap .i64 (1+gA o5 0)),I (wrap .i64 (2+gA o6 0)),I (wrap .i64 (1+gA o7 0))]:=by kernel_rfl
def OY:=W_ Df Dw
theorem Zmm:Ai PG (W9 Df Dw):=Ap rfl ⟨Qb,Ri,trivial⟩
theorem Zso:Ak PG (47,Ac Qfe Xs OY):=rw1 (C:=(W9 Df Dw)) Zmm
def V5:Sk:=⟨[tf [CS.ptr 20000 0]],[(20000,103,[CS.sl Aa,ci])],[]⟩
def Qnq:Sk:=⟨[TS.v true (cc 9++[CS.sl Aa])],[(20000,103,[CS.sl Aa,ci])],[]⟩
def Zdu (M:Fn):Nat×Spec:=(84,Ac V5 Qnq M)
def VM (Az:Fn):Cfg:={spec:=Ie [OC Az],eqOk:=Jy,pure:=fun f=> !(AN [48] f),ownOff:=Zlc}
def Qy4:Sk:=⟨[tf [CS.ptr 20000 0],td,tf [CS.ptr 2 0],tf [CS.ptr 3 0],tf [ci],tf [ci],tf [ci]]++dd 72,[(2,26,cc 9++[CS.own 1002009 1]),(3,26,cc 9++[CS.own 1003009 1]),(20000,103,[CS.sl Aa,ci])],[(1002009,3,Aa),(1003009,3,Aa)]⟩
def Q6o:List (Ex×Sk):=[(Ex.exit 0,⟨[td,td,tf [CS.ptr 2 0],tf [CS.ptr 3 0]]++dd 75,[(2,26,cc 9++[CS.own 1002009 1]),(3,26,cc 9++[CS.own 1003009 1]),(20000,103,[CS.sl Aa,ci])],[(1002009,3,Aa),(1003009,3,Aa)]⟩)]
def QO (Az:Fn):Lp:=A4 PG (VM Az) 64 11 (A3 PG 84 11) Qy4 Q6o
def Q1w (Az:Fn) (N11:Lp):Cfg:=(VM Az).loop 11 Qy4 Q6o N11
def Vt (Az:Fn) (N11:Lp):Fn:=An PG (Q1w Az N11) 64 84 V5 Qnq
theorem Qvd (Az:Fn) (v0 v1:Rw) (v2 v3 v4 v5 v6 v7 v8 v9 v10 v11 v12 v13 v14 v15 v16 v17 v18 v19 v20 v21 v22:Int) (v23:Rw) (v24:Int):QO Az [.view Aa v0, .view Aa v1,I v2,I v3,I v4,I v5,I v6,I v7,I v8,I v9,I v10,I v11,I v12,I v13,I v14,I v15,I v16,I v17,I v18,I v19,I v20,I v21,I v22, .view Aa v23,I v24]=
 bif decide (v4<v2)then
 bif((v1++[[I v3]]).length*8).ble 140737488355328 then
 (Az [I (wrap .i64 (wrap .i64 (2*wrap .i64 (v22.tdiv 4))+1)), .view Aa v23,I v24]).bind fun o20=>
 some (0,[.view Aa v0, .view Aa (v1++[[I v3]]),I v2,I (mn (mx (wrap .i64 (wrap .i64 (v3+gA o20 0)-wrap .i64 (v22.tdiv 4))) (-4096)) 4096),I (wrap .i64 (v4+1)),I v5,I v6,I v7,I v8,I v9,I v10,I v11,I v12,I v13,I v14,I v15,I v16,I v17,I v18,I v19,I v20,I v21,I v22, .view Aa (wA o20 1),jA o20 2])
 else
 none
 else
 some (1,[.view Aa v0, .view Aa v1,I v5,I v6,I v7,I v8,I v9,I v10,I v11,I v12,I v13,I v14,I v15,I v16,I v17,I v18,I v19,I v20,I v21,I v22, .view Aa v23,I v24]):=by kernel_rfl
theorem Zry (Az:Fn) (N11:Lp) (x0:Rw) (x1:Int):Vt Az N11 [.view Aa x0,I x1]=
 (Az [I 6, .view Aa x0,I x1]).bind fun o21=>
 bif decide (0<=gA o21 0)&&decide (gA o21 0<(↑[[I 8],[I 4],[I 5],[I 16],[I 23],[I 64]].length:Int))then
 (Az [I 4, .view Aa (wA o21 1),jA o21 2]).bind fun o22=>
 bif decide (0<=gA o22 0)&&decide (gA o22 0<(↑[[I 0],[I 1],[I 3],[I 6]].length:Int))then
 (Az [I 5, .view Aa (wA o22 1),jA o22 2]).bind fun o23=>
 bif decide (0<=gA o23 0)&&decide (gA o23 0<(↑[[I 40],[I 1],[I 3],[I 9],[I 1000]].length:Int))then
 (Az [I 5, .view Aa (wA o23 1),jA o23 2]).bind fun o24=>
 bif decide (0<=gA o24 0)&&decide (gA o24 0<(↑[[I 20],[I 2],[I 3],[I 5],[I 1000]].length:Int))then
 (Az [I 5, .view Aa (wA o24 1),jA o24 2]).bind fun o25=>
 bif decide (0<=gA o25 0)&&decide (gA o25 0<(↑[[I 30],[I 4],[I 5],[I 8],[I 1000]].length:Int))then
 (Az [I 5, .view Aa (wA o25 1),jA o25 2]).bind fun o26=>
 bif gA o26 0==0 then
 some [I (Af (nth .dead (nth [] [[I 8],[I 4],[I 5],[I 16],[I 23],[I 64]] (gA o21 0).toNat) 0)),I (Af (nth .dead (nth [] [[I 40],[I 1],[I 3],[I 9],[I 1000]] (gA o23 0).toNat) 0)),I (Af (nth .dead (nth [] [[I 20],[I 2],[I 3],[I 5],[I 1000]] (gA o24 0).toNat) 0)),I (Af (nth .dead (nth [] [[I 30],[I 4],[I 5],[I 8],[I 1000]] (gA o25 0).toNat) 0)),I (-16777216),I 16777216,I (Af (nth .dead (nth [] [[I 0],[I 1],[I 3],[I 6]] (gA o22 0).toNat) 0)),I 0,I 0, .view Aa [], .view Aa (wA o26 1),jA o26 2]
 else
 (Az [I 400, .view Aa (wA o26 1),jA o26 2]).bind fun o27=>
 (Az [I 120, .view Aa (wA o27 1),jA o27 2]).bind fun o28=>
 (Az [I 9, .view Aa (wA o28 1),jA o28 2]).bind fun o29=>
 (N11 [.view Aa [], .view Aa [],jA o26 0,I (wrap .i64 (gA o29 0-4)),I 0,I 0,I 0,I 0,I 0,I 0,I 0,I 0,I 0,I 0,I (Af (nth .dead (nth [] [[I 8],[I 4],[I 5],[I 16],[I 23],[I 64]] (gA o21 0).toNat) 0)),I (Af (nth .dead (nth [] [[I 40],[I 1],[I 3],[I 9],[I 1000]] (gA o23 0).toNat) 0)),I (Af (nth .dead (nth [] [[I 20],[I 2],[I 3],[I 5],[I 1000]] (gA o24 0).toNat) 0)),I (Af (nth .dead (nth [] [[I 30],[I 4],[I 5],[I 8],[I 1000]] (gA o25 0).toNat) 0)),I (-16777216),I 16777216,I (Af (nth .dead (nth [] [[I 0],[I 1],[I 3],[I 6]] (gA o22 0).toNat) 0)),I (wrap .i64 (gA o27 0-200)),I (wrap .i64 (4+gA o28 0)), .view Aa (wA o29 1),jA o29 2]).bind fun o30=>
 bif o30.1.beq 1 then
 some [jA o30.2 11,jA o30.2 12,jA o30.2 13,jA o30.2 14,jA o30.2 15,jA o30.2 16,jA o30.2 17,jA o30.2 18,jA o30.2 19, .view Aa (wA o30.2 1), .view Aa (wA o30.2 20),jA o30.2 21]
 else
 none
 else
 none
 else
 none
 else
 none
 else
 none
 else
 none:=by kernel_rfl
def Qgs:=Am (QO Df)
def Ms:=Vt Df Qgs
theorem Q4u:Ai PG (VM Df):=Ap rfl ⟨Qb,trivial⟩
theorem Zff:Ak PG (84,Ac V5 Qnq Ms):=rw2 (C:=(Q1w Df Qgs)) (fl fb Q4u) Q4u
def Qe2:Sk:=⟨[tf [CS.sl Aa]],[],[]⟩
def Qj6:Sk:=⟨[TS.v true (cc 9++[CS.sl Aa]++cc 9++[CS.sl Aa]++cc 9++[CS.sl Aa])],[],[]⟩
def Zi2 (M:Fn):Nat×Spec:=(46,Ac Qe2 Qj6 M)
def Qbs (J5 BP:Fn):Cfg:=cp [Zdu J5,SZ BP] [84,45]
def Qzf (J5 BP:Fn):Fn:=An PG (Qbs J5 BP) 64 46 Qe2 Qj6
theorem Zbs (J5 BP:Fn) (x0:Rw):Qzf J5 BP [.view Aa x0]=
 (BP [.view Aa x0]).bind fun o4=>
 (J5 [.view Aa (wA o4 0),jA o4 1]).bind fun o5=>
 (J5 [.view Aa (wA o5 10),jA o5 11]).bind fun o6=>
 (J5 [.view Aa (wA o6 10),jA o6 11]).bind fun o7=>
 some [jA o5 0,jA o5 1,jA o5 2,jA o5 3,jA o5 4,jA o5 5,jA o5 6,jA o5 7,jA o5 8, .view Aa (wA o5 9),jA o6 0,jA o6 1,jA o6 2,jA o6 3,jA o6 4,jA o6 5,jA o6 6,jA o6 7,jA o6 8, .view Aa (wA o6 9),jA o7 0,jA o7 1,jA o7 2,jA o7 3,jA o7 4,jA o7 5,jA o7 6,jA o7 7,jA o7 8, .view Aa (wA o7 9)]:=by kernel_rfl
def NV:=Qzf Ms Dw
theorem Zxq:Ai PG (Qbs Ms Dw):=Ap rfl ⟨Zff,Ri,trivial⟩
theorem Zfj:Ak PG (46,Ac Qe2 Qj6 NV):=rw1 (C:=(Qbs Ms Dw)) Zxq
def ZN:Sk:=⟨[tf [CS.sl Aa],tf [CS.sl Aa]],[],[]⟩
def Qhi:Sk:=⟨[TS.v true (cc 9++[CS.sl Aa]++cc 9++[CS.sl Aa]++cc 9++[CS.sl Aa]++cc 5)],[],[]⟩
def Za3 (M:Fn):Nat×Spec:=(15,Ac ZN Qhi M)
def WQ (Az Nz NI BP:Fn):Cfg:=cp [OC Az,Za5 Nz,Zi2 NI,SZ BP] [48,45]
def Qf4 (Az Nz NI BP:Fn):Fn:=An PG (WQ Az Nz NI BP) 64 15 ZN Qhi
theorem Zoy (Az Nz NI BP:Fn) (x0 x1:Rw):Qf4 Az Nz NI BP [.view Aa x0, .view Aa x1]=
 (BP [.view Aa x1]).bind fun o5=>
 (NI [.view Aa x0]).bind fun o6=>
 (Nz [.view Aa x1]).bind fun o7=>
 (Az [I 60000, .view Aa (wA o5 0),I (mn 3 (x1.length:Int))]).bind fun o8=>
 (Az [I 40, .view Aa (wA o8 1),jA o8 2]).bind fun o9=>
 some [jA o6 0,jA o6 1,jA o6 2,jA o6 3,jA o6 4,jA o6 5,jA o6 6,jA o6 7,jA o6 8, .view Aa (wA o6 9),jA o6 10,jA o6 11,jA o6 12,jA o6 13,jA o6 14,jA o6 15,jA o6 16,jA o6 17,jA o6 18, .view Aa (wA o6 19),jA o6 20,jA o6 21,jA o6 22,jA o6 23,jA o6 24,jA o6 25,jA o6 26,jA o6 27,jA o6 28, .view Aa (wA o6 29),jA o7 0,jA o7 1,jA o7 2,I (wrap .i64 (1+gA o8 0)),jA o9 0]:=by kernel_rfl
def Lc:=Qf4 Df OY NV Dw
theorem Zb5:Ai PG (WQ Df OY NV Dw):=Ap rfl ⟨Qb,Zso,Zfj,Ri,trivial⟩
theorem Z1u:Ak PG (15,Ac ZN Qhi Lc):=rw1 (C:=(WQ Df OY NV Dw)) Zb5
def Qb6:Sk:=⟨[tf [CS.sl [Kd.sl Aa]]],[],[]⟩
def VT:Sk:=⟨[tf [CS.bool]],[],[]⟩
def Zt5 (M:Fn):Nat×Spec:=(44,Ac Qb6 VT M)
def C_cncmill_Few_0:Cfg:=cf []
def Q15:Sk:=⟨[td,td,td,td,td,tf [CS.sl [Kd.sl Aa]],tf [ci],tf [ci]]++dd 7,[],[]⟩
def Q1u:List (Ex×Sk):=[(Ex.ret,⟨[td,td,tf [CS.bool]]++dd 12,[],[]⟩),(Ex.exit 0,⟨[td]++dd 14,[],[]⟩)]
def Rk:Lp:=A4 PG C_cncmill_Few_0 64 2 (A3 PG 44 2) Q15 Q1u
def Qsh (N2:Lp):Cfg:=C_cncmill_Few_0.loop 2 Q15 Q1u N2
def Qfi (N2:Lp):Fn:=An PG (Qsh N2) 64 44 Qb6 VT
theorem Zc0 (v0:Rw) (v1 v2:Int):Rk [.view [Kd.sl Aa] v0,I v1,I v2]=
 bif decide (v2<v1)then
 bif decide (0<=v2)&&decide (v2<(v0.length:Int))then
 bif decide ((↑(wA (nth [] v0 v2.toNat) 0).length:Int)>60)then
 some (1,[B false])
 else
 some (0,[.view [Kd.sl Aa] v0,I v1,I (wrap .i64 (v2+1))])
 else
 none
 else
 some (2,[]):=by kernel_rfl
theorem Zi1 (N2:Lp) (x0:Rw):Qfi N2 [.view [Kd.sl Aa] x0]=
 (N2 [.view [Kd.sl Aa] x0,I (x0.length:Int),I 0]).bind fun o1=>
 bif o1.1.beq 1 then
 some [B (bA o1.2 0)]
 else
 bif o1.1.beq 2 then
 some [B true]
 else
 none:=by kernel_rfl
def Qz0:=Am (Rk)
def JJ:=Qfi Qz0
theorem Qx1:Ai PG (C_cncmill_Few_0):=Ap rfl trivial
theorem Zzn:Ak PG (44,Ac Qb6 VT JJ):=rw2 (C:=(Qsh Qz0)) (fl fb Qx1) Qx1
def YS:Sk:=⟨[tf [CS.ptr 20000 0]],[(20000,119,cS)],[]⟩
def Qef:Sk:=⟨[TS.v true [ci,ci,ci,ci]],[(20000,119,cS)],[]⟩
def Ze6 (M:Fn):Nat×Spec:=(43,Ac YS Qef M)
def Qlb:Cfg:=cf []
def Q1i:Fn:=An PG Qlb 64 43 YS Qef
theorem Zt4 (K:Kf) (c:Cv):Q1i (Ad K c)=
 some (I c.s0::I c.s1::I c.s2::I c.s3::Ad K c):=by kernel_rfl
def Mw:=Q1i
theorem Zwl:Ai PG (Qlb):=Ap rfl trivial
theorem Znh:Ak PG (43,Ac YS Qef Mw):=rw1 (C:=Qlb) Zwl
abbrev Qrw (x20:Int) (Fl:Fn) (x0 x1 x2 x3 x4 x5 x6 x7 x8:Int) (x9:Rw) (x17 x18 x19:Int):Option (List AC):=
 bif decide (x20=(↑0:Int))then
 (Fl [I x0,I x1,I x2,I x3,I x4,I x5,I x6,I x7,I x8, .view Aa x9,I x17]).bind fun o30=>
 some [jA o30 0]
 else
 bif decide (x20=(↑(0+1):Int))then
 (Fl [I x0,I x1,I x2,I x3,I x4,I x5,I x6,I x7,I x8, .view Aa x9,I x18]).bind fun o31=>
 some [jA o31 0]
 else
 bif decide (x20=(↑(0+1+1):Int))then
 (Fl [I x0,I x1,I x2,I x3,I x4,I x5,I x6,I x7,I x8, .view Aa x9,I x19]).bind fun o32=>
 some [jA o32 0]
 else
 none
attribute [go_sem] Qrw
abbrev To (x21 x10 x6:Int) (h4_0:Bool):Option (List AC):=
 bif h4_0 then
 some [I (wrap .i64 (0-mn (wrap .i64 (x21-x10)) x6))]
 else
 some [I (wrap .i64 (mn (wrap .i64 (x21-x10)) x6-x6))]
attribute [go_sem] To
abbrev SL (x20:Int) (Fl:Fn) (x0 x1 x2 x3 x4 x5 x6 x7 x8:Int) (x9:Rw) (x17 x18 x19 x21 x10:Int) (h1_0:Bool):Option (List AC):=
 bif h1_0 then
 Qrw x20 Fl x0 x1 x2 x3 x4 x5 x6 x7 x8 x9 x17 x18 x19
 else
 bif decide (x20=(↑0:Int))then
 To x21 x10 x6 (x17== -1)
 else
 bif decide (x20=(↑(0+1):Int))then
 To x21 x10 x6 (x18== -1)
 else
 bif decide (x20=(↑(0+1+1):Int))then
 To x21 x10 x6 (x19== -1)
 else
 none
attribute [go_sem] SL
abbrev Q9d (x20:Int) (Fl:Fn) (x0 x1 x2 x3 x4 x5 x6 x7 x8:Int) (x9:Rw) (x17 x18 x19 x21 x10:Int) (h2_0 h2_1 h2_2:Bool):Option (List AC):=
 bif decide (x20=(↑0:Int))then
 SL x20 Fl x0 x1 x2 x3 x4 x5 x6 x7 x8 x9 x17 x18 x19 x21 x10 h2_0
 else
 bif decide (x20=(↑(0+1):Int))then
 SL x20 Fl x0 x1 x2 x3 x4 x5 x6 x7 x8 x9 x17 x18 x19 x21 x10 h2_1
 else
 bif decide (x20=(↑(0+1+1):Int))then
 SL x20 Fl x0 x1 x2 x3 x4 x5 x6 x7 x8 x9 x17 x18 x19 x21 x10 h2_2
 else
 none
attribute [go_sem] Q9d
end Go.Bm
