/- functions of the program and of the references, as models -/
import Derived.Test.YtommijghjlikkaaGreatMx1
set_option linter.unusedSimpArgs false
set_option linter.unusedVariables false
set_option maxRecDepth 100000
noncomputable section
namespace Go.Bm
open Go.Proofs
def XN:Sk:=⟨[tf [CS.ptr 20000 0],TS.v true [ci,ci,ci]],[(20000,119,cS)],[]⟩
def Wq:Sk:=⟨[TS.tup []],[(20000,119,cS)],[]⟩
def Zuz (M:Fn):Nat×Spec:=(60,Ac XN Wq M)
def Qkt (LZ NQ L9 M_ LY:Fn):Cfg:=cp [Zmw LZ,Zbn NQ,Zov L9,Zew M_,Zr0 LY] [101,100,99]
def Zz (LZ NQ L9 M_ LY:Fn):Fn:=Am PG (Qkt LZ NQ L9 M_ LY) 64 60 XN Wq
theorem Zke (LZ NQ L9 M_ LY:Fn) (x0 x1 x2:Int) (K:Kf) (c:Cv):Zz LZ NQ L9 M_ LY (I x0::I x1::I x2::Ad K c)=
 (LY [I c.o0,I c.o1,B c.o2,B c.o3,B c.o4,I x0,I x1,I x2]).bind fun o5=>
 (M_ [I c.g0,I c.g1,I c.g2,I x0,I x1,I x2]).bind fun o6=>
 bif x1==13 then
 (L9 (I x2::Ad K {c with o0:=gA o5 0,o1:=gA o5 1,o2:=bA o5 2,o3:=bA o5 3,o4:=bA o5 4,g0:=gA o6 0,g1:=gA o6 1,g2:=gA o6 2})).bind fun o7=>
 some (cR 0 o7)
 else
 bif x1==11 then
 some (Ad K {c with o0:=gA o5 0,o1:=gA o5 1,o2:=true,o3:=bA o5 3,o4:=bA o5 4,g0:=gA o6 0,g1:=gA o6 1,g2:=gA o6 2})
 else
 bif x1==12 then
 (NQ (Ad K {c with o0:=gA o5 0,o1:=gA o5 1,o2:=bA o5 2,o3:=bA o5 3,o4:=bA o5 4,g0:=gA o6 0,g1:=gA o6 1,g2:=gA o6 2})).bind fun o8=>
 some (cR 0 o8)
 else
 bif x1==7 then
 (LZ (I x2::Ad K {c with o0:=gA o5 0,o1:=gA o5 1,o2:=bA o5 2,o3:=bA o5 3,o4:=bA o5 4,g0:=gA o6 0,g1:=gA o6 1,g2:=gA o6 2})).bind fun o9=>
 some (cR 0 o9)
 else
 bif x1==4 then
 some (Ad K {c with o0:=gA o5 0,o1:=gA o5 1,o2:=bA o5 2,o3:=bA o5 3,o4:=bA o5 4,g0:=gA o6 0,g1:=gA o6 1,g2:=gA o6 2,resumed:=true})
 else
 some (Ad K {c with o0:=gA o5 0,o1:=gA o5 1,o2:=bA o5 2,o3:=bA o5 3,o4:=bA o5 4,g0:=gA o6 0,g1:=gA o6 1,g2:=gA o6 2}):=by kernel_rfl
def Lt:=Zz RZ RX Qm S5 Tc
theorem Zh4:Ai PG (Qkt RZ RX Qm S5 Tc):=Ao rfl ⟨Ztc,Zwh,Zaf,Zdr,Q71,trivial⟩
theorem Zio:Al PG (60,Ac XN Wq Lt):=rw1 (C:=(Qkt RZ RX Qm S5 Tc)) Zh4
def Tr:Sk:=⟨[tf [CS.ptr 20000 0],tf [CS.sl kPt]],[(20000,119,cS)],[]⟩
def WC:Sk:=⟨[TS.v true [CS.sl kPt,CS.sl Aa,ci,ci,ci,ci,ci,ci,ci]],[(20000,119,cS)],[]⟩
def Quf (M:Fn):Nat×Spec:=(21,Ac Tr WC M)
def Ul (B9 Ca DX DR DQ DZ DO B0 AZ C1 C3 DU:Fn):Cfg:=cr [Q8j B9,Q96 Ca,Q66 DX,Q8p DR,Zqg DQ,Zpn DZ,Q7z DO,Qn5 B0,OO AZ,Zz3 C1,Zmc C3,Zuz DU] [71,70,69,68,67,66,65,63,61,60] [63,61]
def Qs2:Sk:=⟨[tf [CS.ptr 20000 0],td,td,td,tf [CS.ptr 4 0],td,td,td,td,td,td,td,td,td,td,td,td,td,td,tf [CS.sl kPt],tf [ci],tf [ci]]++dd 93,[(4,46,[CS.sl kPt,CS.sl Aa,ci,ci,ci,ci,ci,ci,ci]),(20000,119,cS)],[]⟩
def Q50:List (Ex×Sk):=[(Ex.exit 0,⟨[tf [CS.ptr 20000 0],td,td,td,tf [CS.ptr 4 0]]++dd 110,[(4,46,[CS.sl kPt,CS.sl Aa,ci,ci,ci,ci,ci,ci,ci]),(20000,119,cS)],[]⟩)]
def S2 (B9 Ca DX DR DQ DZ DO B0 AZ C1 C3 DU:Fn):Lp:=AP PG (Ul B9 Ca DX DR DQ DZ DO B0 AZ C1 C3 DU) 64 3 (AO PG 21 3) Qs2 Q50
def Qxf (B9 Ca DX DR DQ DZ DO B0 AZ C1 C3 DU:Fn) (N3:Lp):Cfg:=(Ul B9 Ca DX DR DQ DZ DO B0 AZ C1 C3 DU).loop 3 Qs2 Q50 N3
def Q3l:Sk:=⟨[tf [CS.ptr 20000 0],td,td,td,tf [CS.ptr 4 0],td,td,tf [ci],tf [CS.ptr 8 0],td,td,td,td,td,td,td,td,td,td,td,td,td,td,td,td,td,td,td,td,td,td,td,td,td,td,td,td,td,td,td,td,td,td,td,td,td,td,td,td,td,td,td,td,td,td,td,td,td,td,td,td,td,td,td,td,td,td,td,td,td,td,td,td,td,td,td,td,td,td,td,td,td,td,td,td,td,td,td,td,td,tf [CS.bsl 90 5],tf [ci],tf [ci]]++dd 22,[(4,46,[CS.sl kPt,CS.sl Aa,ci,ci,ci,ci,ci,ci,ci]),(8,46,[CS.sl kPt,CS.sl Aa,ci,ci,ci,ci,ci,ci,ci]),(90,125,[CS.clo 65 [(20000,0)] [],CS.clo 66 [(20000,0)] [],CS.clo 67 [(20000,0)] [],CS.clo 68 [(20000,0)] [],CS.clo 69 [(20000,0)] []]),(20000,119,cS)],[]⟩
def Qw7:List (Ex×Sk):=[(Ex.exit 2,⟨[tf [CS.ptr 20000 0],td,td,td,tf [CS.ptr 4 0],td,td,tf [ci],tf [CS.ptr 8 0]]++dd 106,[(4,46,[CS.sl kPt,CS.sl Aa,ci,ci,ci,ci,ci,ci,ci]),(8,46,[CS.sl kPt,CS.sl Aa,ci,ci,ci,ci,ci,ci,ci]),(20000,119,cS)],[]⟩)]
def Iy (B9 Ca DX DR DQ DZ DO B0 AZ C1 C3 DU:Fn) (N3:Lp):Lp:=AP PG (Qxf B9 Ca DX DR DQ DZ DO B0 AZ C1 C3 DU N3) 64 16 (AO PG 21 16) Q3l Qw7
def Qun (B9 Ca DX DR DQ DZ DO B0 AZ C1 C3 DU:Fn) (N3 N16:Lp):Cfg:=(Qxf B9 Ca DX DR DQ DZ DO B0 AZ C1 C3 DU N3).loop 16 Q3l Qw7 N16
def Qgn (B9 Ca DX DR DQ DZ DO B0 AZ C1 C3 DU:Fn) (N3 N16:Lp):Fn:=Am PG (Qun B9 Ca DX DR DQ DZ DO B0 AZ C1 C3 DU N3 N16) 64 21 Tr WC
theorem Zoy (B9 Ca DX DR DQ DZ DO B0 AZ C1 C3 DU:Fn) (v0:Rw) (v1 v2:Int) (v3 v4:Rw) (v5 v6 v7 v8 v9 v10 v11:Int) (K:Kf) (c:Cv):S2 B9 Ca DX DR DQ DZ DO B0 AZ C1 C3 DU (.view kPt v0::I v1::I v2:: .view kPt v3:: .view Aa v4::I v5::I v6::I v7::I v8::I v9::I v10::I v11::Ad K c)=
 bif decide (v2<v1)then
 bif decide (0<=v2)&&decide (v2<(v0.length:Int))then
 (DU (jA (nth [] v0 v2.toNat) 0::jA (nth [] v0 v2.toNat) 1::jA (nth [] v0 v2.toNat) 2::Ad K c)).bind fun o54=>
 some (0,(.view kPt v0::I v1::I (IntKind.i64.wrap (v2+1)):: .view kPt v3:: .view Aa v4::I v5::I v6::I v7::I v8::I v9::I v10::I v11::cR 0 o54))
 else
 none
 else
 some (1,(.view kPt v3:: .view Aa v4::I v5::I v6::I v7::I v8::I v9::I v10::I v11::Ad K c)):=by kernel_rfl
abbrev LK (v0:Int) (v3 v4:Rw) (v5 v6 v7 v8 v9 v10 v11:Int) (v12 v13:Rw) (v15 v16 v17 v18 v19 v20 v1 v2 v14:Int) (h1_0:Bool) (h1_1:AC) (h1_2:List AC):Option (Nat×List AC):=
 bif h1_0 then
 some (1,(I v0:: .view kPt v3:: .view Aa v4::I v5::I v6::I v7::I v8::I v9::I v10::I v11:: .view kPt v12:: .view Aa v13::h1_1::I v15::I v16::I v17::I v18::I v19::I v20::h1_2))
 else
 some (0,(I v0::I v1::I (IntKind.i64.wrap (v2+1)):: .view kPt v3:: .view Aa v4::I v5::I v6::I v7::I v8::I v9::I v10::I v11:: .view kPt v12:: .view Aa v13::I v14::I v15::I v16::I v17::I v18::I v19::I v20::h1_2))
attribute [go_sem] LK
theorem Zsg (B9 Ca DX DR DQ DZ DO B0 AZ C1 C3 DU:Fn) (N3:Lp) (v0 v1 v2:Int) (v3 v4:Rw) (v5 v6 v7 v8 v9 v10 v11:Int) (v12 v13:Rw) (v14 v15 v16 v17 v18 v19 v20:Int) (K:Kf) (c:Cv):Iy B9 Ca DX DR DQ DZ DO B0 AZ C1 C3 DU N3 (I v0::I v1::I v2:: .view kPt v3:: .view Aa v4::I v5::I v6::I v7::I v8::I v9::I v10::I v11:: .view kPt v12:: .view Aa v13::I v14::I v15::I v16::I v17::I v18::I v19::I v20::Ad K c)=
 bif decide (v2<v1)then
 bif decide (v2=(↑0:Int))then
 (DO (Ad K c)).bind fun o55=>
 LK v0 v3 v4 v5 v6 v7 v8 v9 v10 v11 v12 v13 v15 v16 v17 v18 v19 v20 v1 v2 v14 (bA o55 1) (jA o55 0) (cR 2 o55)
 else
 bif decide (v2=(↑(0+1):Int))then
 (DZ (Ad K c)).bind fun o56=>
 LK v0 v3 v4 v5 v6 v7 v8 v9 v10 v11 v12 v13 v15 v16 v17 v18 v19 v20 v1 v2 v14 (bA o56 1) (jA o56 0) (cR 2 o56)
 else
 bif decide (v2=(↑(0+1+1):Int))then
 (DQ (Ad K c)).bind fun o57=>
 LK v0 v3 v4 v5 v6 v7 v8 v9 v10 v11 v12 v13 v15 v16 v17 v18 v19 v20 v1 v2 v14 (bA o57 1) (jA o57 0) (cR 2 o57)
 else
 bif decide (v2=(↑(0+1+1+1):Int))then
 (DR (Ad K c)).bind fun o58=>
 LK v0 v3 v4 v5 v6 v7 v8 v9 v10 v11 v12 v13 v15 v16 v17 v18 v19 v20 v1 v2 v14 (bA o58 1) (jA o58 0) (cR 2 o58)
 else
 bif decide (v2=(↑(0+1+1+1+1):Int))then
 (DX (Ad K c)).bind fun o59=>
 LK v0 v3 v4 v5 v6 v7 v8 v9 v10 v11 v12 v13 v15 v16 v17 v18 v19 v20 v1 v2 v14 (bA o59 1) (jA o59 0) (cR 2 o59)
 else
 none
 else
 some (1,(I v0:: .view kPt v3:: .view Aa v4::I v5::I v6::I v7::I v8::I v9::I v10::I v11:: .view kPt v12:: .view Aa v13::I v14::I v15::I v16::I v17::I v18::I v19::I v20::Ad K c)):=by kernel_rfl
abbrev IB (N16:Lp) (o60:Nat×List AC) (Ca B9:Fn) (h1_0:AC) (h1_1:List AC):Option (List AC):=
 (N16 (h1_0::I (↑5:Int)::I 0:: .view kPt (wA o60.2 0):: .view Aa (wA o60.2 1)::jA o60.2 2::jA o60.2 3::jA o60.2 4::jA o60.2 5::jA o60.2 6::jA o60.2 7::jA o60.2 8:: .view kPt []:: .view Aa []::I 0::I 0::I 0::I 0::I 0::I 0::I 0::h1_1)).bind fun o65=>
 bif o65.1.beq 1 then
 bif gA o65.2 12==0 then
 (Ca (cR 19 o65.2)).bind fun o66=>
 (B9 (jA o65.2 0::(cR 1 o66++[.view kPt (wA o65.2 10), .view Aa (wA o65.2 11),jA o66 0,jA o65.2 13,jA o65.2 14,jA o65.2 15,jA o65.2 16,jA o65.2 17,jA o65.2 18]))).bind fun o67=>
 some (.view kPt (wA o67 90):: .view Aa (wA o67 91)::jA o67 92::jA o67 93::jA o67 94::jA o67 95::jA o67 96::jA o67 97::jA o67 98::cR 0 o67)
 else
 (B9 (jA o65.2 0::(cR 19 o65.2++[.view kPt (wA o65.2 10), .view Aa (wA o65.2 11),jA o65.2 12,jA o65.2 13,jA o65.2 14,jA o65.2 15,jA o65.2 16,jA o65.2 17,jA o65.2 18]))).bind fun o68=>
 some (.view kPt (wA o68 90):: .view Aa (wA o68 91)::jA o68 92::jA o68 93::jA o68 94::jA o68 95::jA o68 96::jA o68 97::jA o68 98::cR 0 o68)
 else
 none
attribute [go_sem] IB
abbrev Qmq (C3:Fn) (o60:Nat×List AC) (C1 AZ B0:Fn) (N16:Lp) (Ca B9:Fn):Option (List AC):=
 (C3 (DI (cR 9 o60.2) [(58,B true),(86,jA o60.2 76)])).bind fun o61=>
 bif !bA o61 0 then
 (C1 [jA o60.2 73,jA o60.2 74,jA o60.2 75,jA o60.2 76,jA o60.2 42]).bind fun o62=>
 (AZ (DI (cR 9 o60.2) [(58,B true),(64,jA o62 0),(65,jA o62 1),(66,jA o62 2),(67,jA o62 3),(86,jA o60.2 76)])).bind fun o63=>
 (B0 [jA o60.2 59,jA o60.2 60,jA o60.2 61,jA o60.2 62,jA o60.2 63,jA o60.2 64]).bind fun o64=>
 IB N16 o60 Ca B9 (jA o63 0) (DI (cR 9 o60.2) [(58,B true),(64,jA o62 0),(65,jA o62 1),(66,jA o62 2),(67,jA o62 3),(86,jA o60.2 76),(88,B (bA o64 0))])
 else
 (AZ (DI (cR 9 o60.2) [(58,B true),(86,jA o60.2 76)])).bind fun o69=>
 (B0 [jA o60.2 59,jA o60.2 60,jA o60.2 61,jA o60.2 62,jA o60.2 63,jA o60.2 64]).bind fun o70=>
 IB N16 o60 Ca B9 (jA o69 0) (DI (cR 9 o60.2) [(58,B true),(86,jA o60.2 76),(88,B (bA o70 0))])
attribute [go_sem] Qmq
theorem Zqc (B9 Ca DX DR DQ DZ DO B0 AZ C1 C3 DU:Fn) (N3 N16:Lp) (x0:Rw) (K:Kf) (c:Cv):Qgn B9 Ca DX DR DQ DZ DO B0 AZ C1 C3 DU N3 N16 (.view kPt x0::Ad K c)=
 (N3 (.view kPt x0::I (x0.length:Int)::I 0:: .view kPt []:: .view Aa []::I 0::I 0::I 0::I 0::I 0::I 0::I 0::Ad K {c with resumed:=false,changed:=false})).bind fun o60=>
 bif o60.1.beq 1 then
 bif bA o60.2 86 then
 Qmq C3 o60 C1 AZ B0 N16 Ca B9
 else
 bif gA o60.2 70 !=0 then
 Qmq C3 o60 C1 AZ B0 N16 Ca B9
 else
 (C3 (DI (cR 9 o60.2) [(86,jA o60.2 76)])).bind fun o89=>
 bif !bA o89 0 then
 (C1 [jA o60.2 73,jA o60.2 74,jA o60.2 75,jA o60.2 76,jA o60.2 42]).bind fun o90=>
 (AZ (DI (cR 9 o60.2) [(64,jA o90 0),(65,jA o90 1),(66,jA o90 2),(67,jA o90 3),(86,jA o60.2 76)])).bind fun o91=>
 (B0 [jA o60.2 59,jA o60.2 60,jA o60.2 61,jA o60.2 62,jA o60.2 63,jA o60.2 64]).bind fun o92=>
 IB N16 o60 Ca B9 (jA o91 0) (DI (cR 9 o60.2) [(64,jA o90 0),(65,jA o90 1),(66,jA o90 2),(67,jA o90 3),(86,jA o60.2 76),(88,B (bA o92 0))])
 else
 (AZ (DI (cR 9 o60.2) [(86,jA o60.2 76)])).bind fun o97=>
 (B0 [jA o60.2 59,jA o60.2 60,jA o60.2 61,jA o60.2 62,jA o60.2 63,jA o60.2 64]).bind fun o98=>
 IB N16 o60 Ca B9 (jA o97 0) (DI (cR 9 o60.2) [(86,jA o60.2 76),(88,B (bA o98 0))])
 else
 none:=by kernel_rfl
def Qdt:=An (S2 K1 KY KS Km Kh La Ly HO C7 Ln KA Lt)
def Q3s:=An (Iy K1 KY KS Km Kh La Ly HO C7 Ln KA Lt Qdt)
def Ib:=Qgn K1 KY KS Km Kh La Ly HO C7 Ln KA Lt Qdt Q3s
theorem Qfz:Ai PG (Ul K1 KY KS Km Kh La Ly HO C7 Ln KA Lt):=Gc (rs:=[63,61]) rfl ⟨Zrj,Zc8,Za1,Z0n,Zup,Zrv,Zy6,Qsh,OY,Zv5,Zzy,Zio,trivial⟩ rfl (BZ rfl (BZ rfl (BZ rfl (BZ rfl (BZ rfl (BZ rfl (BZ rfl (BZ rfl (EA (BZ rfl (EA (BZ rfl F_))))))))))))
theorem Qux:Al PG (21,Ac Tr WC Ib):=rw2 (C:=(Qun K1 KY KS Km Kh La Ly HO C7 Ln KA Lt Qdt Q3s)) (fl (fl fb Qfz) Qfz) Qfz
def Xa:Sk:=⟨[tf [ci],tf [ci]],[],[]⟩
def WD:Sk:=⟨[tf [ci]],[],[]⟩
def Qr4 (M:Fn):Nat×Spec:=(17,Ac Xa WD M)
def Qde:Cfg:=cf []
def Q54:Fn:=Am PG Qde 64 17 Xa WD
theorem Zv6 (x0 x1:Int):Q54 [I x0,I x1]=
 bif decide (x1=0)then
 none
 else
 bif decide (x1=0)then
 none
 else
 some [I ((IntKind.i64.wrap (x0.tmod x1+x1)).tmod x1)]:=by kernel_rfl
def HS:=Q54
theorem Zra:Ai PG (Qde):=Ao rfl trivial
theorem Qr1:Al PG (17,Ac Xa WD HS):=rw1 (C:=Qde) Zra
def Qf7:Sk:=⟨[TS.v true [ci,ci,ci,ci,ci,ci,ci,ci,ci,ci,ci,ci,ci,CS.bool,ci,CS.bool,ci,ci,ci,ci,ci,CS.bool]],[],[]⟩
def Wy:Sk:=⟨[tf [CS.bool]],[],[]⟩
def Qt (M:Fn):Nat×Spec:=(81,Ac Qf7 Wy M)
def Qd0:Cfg:=cf []
def Qtj:Fn:=Am PG Qd0 64 81 Qf7 Wy
theorem Zrt (x0 x1 x2 x3 x4 x5 x6 x7 x8 x9 x10 x11 x12:Int) (x13:Bool) (x14:Int) (x15:Bool) (x16 x17 x18 x19 x20:Int) (x21:Bool):Qtj [I x0,I x1,I x2,I x3,I x4,I x5,I x6,I x7,I x8,I x9,I x10,I x11,I x12,B x13,I x14,B x15,I x16,I x17,I x18,I x19,I x20,B x21]=
 bif x0==2 then
 some [B !(x2==x5&&(x3==x6&&(x4==x7&&true)))]
 else
 some [B false]:=by kernel_rfl
def Ej:=Qtj
theorem Zto:Ai PG (Qd0):=Ao rfl trivial
theorem SC:Al PG (81,Ac Qf7 Wy Ej):=rw1 (C:=Qd0) Zto
def WS:Sk:=⟨[tf [ci]],[],[]⟩
def Qjg:Sk:=⟨[tf [CS.bool]],[],[]⟩
def QF (M:Fn):Nat×Spec:=(123,Ac WS Qjg M)
def XF:Cfg:=cf []
def Q0s:Fn:=Am PG XF 64 123 WS Qjg
theorem Zii (x0:Int):Q0s [I x0]=
 bif decide (x0>=1)then
 some [B (decide (x0<=6))]
 else
 some [B false]:=by kernel_rfl
def Di:=Q0s
theorem Zel:Ai PG (XF):=Ao rfl trivial
theorem Qw:Al PG (123,Ac WS Qjg Di):=rw1 (C:=XF) Zel
def Qgu:Sk:=⟨[TS.v true [ci,ci,ci,ci,ci,ci,ci,ci,ci,ci,ci,ci,ci,CS.bool,ci,CS.bool,ci,ci,ci,ci,ci,CS.bool]],[],[]⟩
def Qg0:Sk:=⟨[tf [CS.bool]],[],[]⟩
def Q0m (M:Fn):Nat×Spec:=(169,Ac Qgu Qg0 M)
def Qfl:Cfg:=cf []
def Qqd:Fn:=Am PG Qfl 64 169 Qgu Qg0
theorem Zst (x0 x1 x2 x3 x4 x5 x6 x7 x8 x9 x10 x11 x12:Int) (x13:Bool) (x14:Int) (x15:Bool) (x16 x17 x18 x19 x20:Int) (x21:Bool):Qqd [I x0,I x1,I x2,I x3,I x4,I x5,I x6,I x7,I x8,I x9,I x10,I x11,I x12,B x13,I x14,B x15,I x16,I x17,I x18,I x19,I x20,B x21]=
 bif x0==5 then
 some [B true]
 else
 some [B (x0==6)]:=by kernel_rfl
def Hg:=Qqd
theorem Zoo:Ai PG (Qfl):=Ao rfl trivial
theorem Qsg:Al PG (169,Ac Qgu Qg0 Hg):=rw1 (C:=Qfl) Zoo
def Ve:Sk:=⟨[tf [CS.sl Ak],tf [ci]],[],[]⟩
def Qkw:Sk:=⟨[tf [CS.bool]],[],[]⟩
def Zcr (M:Fn):Nat×Spec:=(173,Ac Ve Qkw M)
def Qe5 (AG Cb:Fn):Cfg:=cf [QF AG,Q0m Cb]
def Q2l:Sk:=⟨[td,td,td,td,td,td,td,td,td,td,td,td,td,td,td,td,td,td,td,td,td,td,td,tf [CS.sl Ak],tf [ci],tf [ci]]++dd 9,[],[]⟩
def Q4d:List (Ex×Sk):=[(Ex.ret,⟨[td,td,td,td,tf [CS.bool]]++dd 30,[],[]⟩),(Ex.exit 0,⟨[td]++dd 34,[],[]⟩)]
def Kl (AG Cb:Fn):Lp:=AP PG (Qe5 AG Cb) 64 4 (AO PG 173 4) Q2l Q4d
def Qz4 (AG Cb:Fn) (N4:Lp):Cfg:=(Qe5 AG Cb).loop 4 Q2l Q4d N4
def Qdu (AG Cb:Fn) (N4:Lp):Fn:=Am PG (Qz4 AG Cb N4) 64 173 Ve Qkw
theorem Q26 (AG Cb:Fn) (v0:Rw) (v1 v2:Int):Kl AG Cb [.view Ak v0,I v1,I v2]=
 bif decide (v2<v1)then
 bif decide (0<=v2)&&decide (v2<(v0.length:Int))then
 (AG [jA (nth [] v0 v2.toNat) 0]).bind fun o5=>
 bif bA o5 0 then
 (Cb (AK Ak (nth [] v0 v2.toNat))).bind fun o6=>
 some (1,[B (bA o6 0)])
 else
 some (0,[.view Ak v0,I v1,I (IntKind.i64.wrap (v2+1))])
 else
 none
 else
 some (2,[]):=by kernel_rfl
theorem Zn5 (AG Cb:Fn) (N4:Lp) (x0:Rw) (x1:Int):Qdu AG Cb N4 [.view Ak x0,I x1]=
 bif decide (0<=x1)&&decide (x1<(x0.length:Int))then
 bif gA (nth [] x0 x1.toNat) 18==0 then
 some [B true]
 else
 bif decide (0<=x1)&&decide (x1<(x0.length:Int))then
 (Cb (AK Ak (nth [] x0 x1.toNat))).bind fun o7=>
 bif bA o7 0 then
 some [B true]
 else
 bif decide (0<=IntKind.i64.wrap (x1+1))&&decide (IntKind.i64.wrap (x1+1)<=(x0.length:Int))then
 (N4 [.view Ak (List.drop (IntKind.i64.wrap (x1+1)).toNat x0),I (↑(List.drop (IntKind.i64.wrap (x1+1)).toNat x0).length:Int),I 0]).bind fun o8=>
 bif o8.1.beq 1 then
 some [B (bA o8.2 0)]
 else
 bif o8.1.beq 2 then
 some [B false]
 else
 none
 else
 none
 else
 none
 else
 none:=by kernel_rfl
def Q1w:=An (Kl Di Hg)
def Ps:=Qdu Di Hg Q1w
theorem Qyw:Ai PG (Qe5 Di Hg):=Ao rfl ⟨Qw,Qsg,trivial⟩
theorem Zhv:Al PG (173,Ac Ve Qkw Ps):=rw2 (C:=(Qz4 Di Hg Q1w)) (fl fb Qyw) Qyw
def Ty:Sk:=⟨[tf [CS.ptr 20000 0],tf [CS.sl Ak],tf [ci]],[(20000,142,[ci,ci,ci,CS.own 20000 7,CS.own 20001 3,CS.bool,ci,ci,ci])],[(20000,162,Ah),(20001,76,kPt)]⟩
def VW:Sk:=⟨[TS.tup []],[(20000,142,[ci,ci,ci,CS.own 20000 7,CS.own 20001 3,CS.bool,ci,ci,ci])],[(20000,162,Ah),(20001,76,kPt)]⟩
def Zvt (M:Fn):Nat×Spec:=(127,Ac Ty VW M)
def Qhy (LI AG:Fn):Cfg:=cf [Zcr LI,QF AG]
def Qe2 (LI AG:Fn):Fn:=Am PG (Qhy LI AG) 64 127 Ty VW
abbrev V2 (AG:Fn) (x2:Rw) (x3:Int) (x1:Rw) (x8:Int) (x0:Rw) (x4 x5 x6:Int) (x7:Bool) (x9 x10:Int):Option (List AC):=
 (AG [jA (nth [] x2 x3.toNat) 0]).bind fun o6=>
 bif bA o6 0 then
 bif((x1++[[I x8,I 2,I x3]]).length*24).ble 140737488355328 then
 some [.view Ah x0, .view kPt (x1++[[I x8,I 2,I x3]]),I x4,I x5,I x6,B x7,I x8,I x9,I x10]
 else
 none
 else
 bif gA (nth [] x2 x3.toNat) 0==10 then
 bif((x1++[[I x8,I 5,I x3]]).length*24).ble 140737488355328 then
 some [.view Ah x0, .view kPt (x1++[[I x8,I 5,I x3]]),I x4,I x5,I x6,B x7,I x8,I x9,I x10]
 else
 none
 else
 bif gA (nth [] x2 x3.toNat) 0==13 then
 bif((x1++[[I x8,I 4,I x3]]).length*24).ble 140737488355328 then
 some [.view Ah x0, .view kPt (x1++[[I x8,I 4,I x3]]),I x4,I x5,I x6,B x7,I x8,I x9,I x10]
 else
 none
 else
 bif((x1++[[I x8,I 3,I x3]]).length*24).ble 140737488355328 then
 some [.view Ah x0, .view kPt (x1++[[I x8,I 3,I x3]]),I x4,I x5,I x6,B x7,I x8,I x9,I x10]
 else
 none
attribute [go_sem] V2
theorem Zem (LI AG:Fn) (x0 x1 x2:Rw) (x3 x4 x5 x6:Int) (x7:Bool) (x8 x9 x10:Int):Qe2 LI AG [.view Ah x0, .view kPt x1, .view Ak x2,I x3,I x4,I x5,I x6,B x7,I x8,I x9,I x10]=
 bif decide (0<=x3)&&decide (x3<(x2.length:Int))then
 bif gA (nth [] x2 x3.toNat) 0==4 then
 bif((x1++[[I x8,I 6,I x3]]).length*24).ble 140737488355328 then
 some [.view Ah x0, .view kPt (x1++[[I x8,I 6,I x3]]),I x4,I x5,I x6,B x7,I x8,I x9,I x10]
 else
 none
 else
 (AG [jA (nth [] x2 x3.toNat) 0]).bind fun o4=>
 bif bA o4 0 then
 (LI [.view Ak x2,I x3]).bind fun o5=>
 bif bA o5 0 then
 bif((x1++[[I x8,I 1,I x3]]).length*24).ble 140737488355328 then
 some [.view Ah x0, .view kPt (x1++[[I x8,I 1,I x3]]),I x4,I x5,I x6,B x7,I x8,I x9,I x10]
 else
 none
 else
 V2 AG x2 x3 x1 x8 x0 x4 x5 x6 x7 x9 x10
 else
 V2 AG x2 x3 x1 x8 x0 x4 x5 x6 x7 x9 x10
 else
 none:=by kernel_rfl
def IJ:=Qe2 Ps Di
theorem Zx1:Ai PG (Qhy Ps Di):=Ao rfl ⟨Zhv,Qw,trivial⟩
theorem Zkj:Al PG (127,Ac Ty VW IJ):=rw1 (C:=(Qhy Ps Di)) Zx1
def Qmv:Sk:=⟨[TS.v true [ci,ci,ci,ci,ci,ci,ci,ci,ci,ci,ci,ci,ci,CS.bool,ci,CS.bool,ci,ci,ci,ci,ci,CS.bool]],[],[]⟩
def Wx:Sk:=⟨[TS.v true [ci,ci,ci]],[],[]⟩
def ZL (M:Fn):Nat×Spec:=(172,Ac Qmv Wx M)
def Qag:Cfg:=cf []
def Qpr:Fn:=Am PG Qag 64 172 Qmv Wx
theorem Zai (x0 x1 x2 x3 x4 x5 x6 x7 x8 x9 x10 x11 x12:Int) (x13:Bool) (x14:Int) (x15:Bool) (x16 x17 x18 x19 x20:Int) (x21:Bool):Qpr [I x0,I x1,I x2,I x3,I x4,I x5,I x6,I x7,I x8,I x9,I x10,I x11,I x12,B x13,I x14,B x15,I x16,I x17,I x18,I x19,I x20,B x21]=
 some [I (IntKind.i64.wrap (IntKind.i64.wrap (x2+x5)*8)),I (IntKind.i64.wrap (IntKind.i64.wrap (x3+x6)*8)),I (IntKind.i64.wrap (IntKind.i64.wrap (x4+x7)*8))]:=by kernel_rfl
def FG:=Qpr
theorem Zlm:Ai PG (Qag):=Ao rfl trivial
theorem Wm:Al PG (172,Ac Qmv Wx FG):=rw1 (C:=Qag) Zlm
def XU:Sk:=⟨[TS.v true [CS.int .u64,CS.int .u64],TS.v true [CS.int .u64,CS.int .u64]],[],[]⟩
def Qj2:Sk:=⟨[tf [ci]],[],[]⟩
def Qqx (M:Fn):Nat×Spec:=(211,Ac XU Qj2 M)
def Xp:Cfg:=cf []
def Qu6:Fn:=Am PG Xp 64 211 XU Qj2
theorem Ziy (x0 x1 x2 x3:Int):Qu6 [U x0,U x1,U x2,U x3]=
 bif decide (x0<x2)then
 some [I (-1)]
 else
 bif x0==x2 then
 bif decide (x1<x3)then
 some [I (-1)]
 else
 bif x0==x2&&(x1==x3&&true)then
 some [I 0]
 else
 some [I 1]
 else
 bif x0==x2&&(x1==x3&&true)then
 some [I 0]
 else
 some [I 1]:=by kernel_rfl
def H2:=Qu6
theorem Zoq:Ai PG (Xp):=Ao rfl trivial
theorem Q0n:Al PG (211,Ac XU Qj2 H2):=rw1 (C:=Xp) Zoq
def UF:Sk:=⟨[TS.v true [CS.int .u64,CS.int .u64]],[],[]⟩
def Qjh:Sk:=⟨[tf [CS.int .u64]],[],[]⟩
def Qr3 (M:Fn):Nat×Spec:=(221,Ac UF Qjh M)
def Qc8 (DA Bp:Fn):Cfg:=cf [Qqx DA,RA Bp]
def Qt0:Sk:=⟨[td,tf [CS.ptr 1 0],td,tf [CS.int .u64],tf [CS.int .u64]]++dd 16,[(1,185,[CS.int .u64,CS.int .u64])],[]⟩
def Qt6:List (Ex×Sk):=[(Ex.exit 0,⟨[td,td,td,tf [CS.int .u64]]++dd 17,[],[]⟩)]
def Lw (DA Bp:Fn):Lp:=AP PG (Qc8 DA Bp) 64 3 (AO PG 221 3) Qt0 Qt6
def Qph (DA Bp:Fn) (N3:Lp):Cfg:=(Qc8 DA Bp).loop 3 Qt0 Qt6 N3
def WT (DA Bp:Fn) (N3:Lp):Fn:=Am PG (Qph DA Bp N3) 64 221 UF Qjh
theorem Qqs (DA Bp:Fn) (v0 v1 v2 v3:Int):Lw DA Bp [U v0,U v1,U v2,U v3]=
 bif decide (v1>0)then
 (Bp [U (IntKind.u64.wrap (↑(BitVec.ofInt IntKind.u64.bits v0|||BitVec.ofInt IntKind.u64.bits v1).toNat:Int)),U (IntKind.u64.wrap (↑(BitVec.ofInt IntKind.u64.bits v0|||BitVec.ofInt IntKind.u64.bits v1).toNat:Int))]).bind fun o3=>
 (DA [U (gA o3 0),U (gA o3 1),U v2,U v3]).bind fun o4=>
 bif decide (gA o4 0<=0)then
 some (0,[U (IntKind.u64.wrap (↑(BitVec.ofInt IntKind.u64.bits v0|||BitVec.ofInt IntKind.u64.bits v1).toNat:Int)),U (v1.fdiv (2^min (Int.toNat 1) IntKind.u64.bits)),U v2,U v3])
 else
 some (0,[U v0,U (v1.fdiv (2^min (Int.toNat 1) IntKind.u64.bits)),U v2,U v3])
 else
 some (1,[U v0]):=by kernel_rfl
theorem Z07 (DA Bp:Fn) (N3:Lp) (x0 x1:Int):WT DA Bp N3 [U x0,U x1]=
 (N3 [U 0,U 9223372036854775808,U x0,U x1]).bind fun o5=>
 bif o5.1.beq 1 then
 some [U (gA o5.2 0)]
 else
 none:=by kernel_rfl
def Qo1:=An (Lw H2 DV)
def Jn:=WT H2 DV Qo1
theorem Q19:Ai PG (Qc8 H2 DV):=Ao rfl ⟨Q0n,RS,trivial⟩
theorem Qvq:Al PG (221,Ac UF Qjh Jn):=rw2 (C:=(Qph H2 DV Qo1)) (fl fb Q19) Q19
def YS:Sk:=⟨[TS.v true [CS.int .u64,CS.int .u64],tf [ci]],[],[]⟩
def TE:Sk:=⟨[TS.tup [(false,[ci]),(false,[CS.bool])]],[],[]⟩
def Zw0 (M:Fn):Nat×Spec:=(216,Ac YS TE M)
def Qei (A4 Kx FM Fqs:Fn):Cfg:=cf [Qmy A4,(222,Ac Qq7 Q58 Kx),(175,Ac WE Qip FM),Qr3 Fqs]
def Qd2 (A4 Kx FM Fqs:Fn):Fn:=Am PG (Qei A4 Kx FM Fqs) 64 216 YS TE
abbrev TX (x2:Int) (o17:List AC) (A4:Fn) (o14 o16:List AC):Option (List AC):=
 bif x2==2 then
 bif decide (gA o17 0>0)then
 (A4 [U (IntKind.u64.wrap (gA o14 0+1)),B false]).bind fun o20=>
 some [jA o20 0,B (bA o20 1)]
 else
 bif decide (gA o16 0>gA o14 0)then
 (A4 [U (IntKind.u64.wrap (gA o14 0+1)),B false]).bind fun o21=>
 some [jA o21 0,B (bA o21 1)]
 else
 (A4 [U (gA o14 0),B false]).bind fun o22=>
 some [jA o22 0,B (bA o22 1)]
 else
 (A4 [U (gA o14 0),B false]).bind fun o23=>
 some [jA o23 0,B (bA o23 1)]
attribute [go_sem] TX
theorem Zs1 (A4 Kx FM Fqs:Fn) (x0 x1 x2:Int):Qd2 A4 Kx FM Fqs [U x0,U x1,I x2]=
 (Fqs [U x0,U x1]).bind fun o14=>
 (FM [U (gA o14 0),U (gA o14 0)]).bind fun o15=>
 (Kx [U x1,U (gA o15 1),U 0]).bind fun o16=>
 (Kx [U x0,U (gA o15 0),U (gA o16 1)]).bind fun o17=>
 bif x2==1 then
 bif decide (gA o17 0>0)then
 (A4 [U (IntKind.u64.wrap (gA o14 0+1)),B false]).bind fun o18=>
 some [jA o18 0,B (bA o18 1)]
 else
 bif decide (gA o16 0>0)then
 (A4 [U (IntKind.u64.wrap (gA o14 0+1)),B false]).bind fun o19=>
 some [jA o19 0,B (bA o19 1)]
 else
 TX x2 o17 A4 o14 o16
 else
 TX x2 o17 A4 o14 o16:=by kernel_rfl
def RY:=Qd2 Ew Ji HH Jn
theorem Q7l:Ai PG (Qei Ew Ji HH Jn):=Ao rfl ⟨Qfr,Zj5,Qyg,Qvq,trivial⟩
theorem Ze7:Al PG (216,Ac YS TE RY):=rw1 (C:=(Qei Ew Ji HH Jn)) Q7l
def VD:Sk:=⟨[tf [ci],tf [ci]],[],[]⟩
def Zs:Sk:=⟨[TS.tup [(false,[ci]),(false,[CS.bool])]],[],[]⟩
def Qto (M:Fn):Nat×Spec:=(210,Ac VD Zs M)
def Qi5 (NN Dv:Fn):Cfg:=cf [Zw0 NN,Qef Dv]
def Z1 (NN Dv:Fn):Fn:=Am PG (Qi5 NN Dv) 64 210 VD Zs
theorem Zqt (NN Dv:Fn) (x0 x1:Int):Z1 NN Dv [I x0,I x1]=
 bif decide (x0<0)then
 some [I 0,B false]
 else
 (Dv [I x1]).bind fun o2=>
 bif !bA o2 0 then
 some [I 0,B false]
 else
 (NN [U 0,U (IntKind.u64.wrap x0),I x1]).bind fun o3=>
 some [jA o3 0,B (bA o3 1)]:=by kernel_rfl
def Ij:=Z1 RY Fd
theorem Q8w:Ai PG (Qi5 RY Fd):=Ao rfl ⟨Ze7,TA,trivial⟩
theorem Qzg:Al PG (210,Ac VD Zs Ij):=rw1 (C:=(Qi5 RY Fd)) Q8w
def Qhx:Sk:=⟨[TS.v true [ci,ci,ci],TS.v true [ci,ci,ci]],[],[]⟩
def Qbi:Sk:=⟨[tf [ci]],[],[]⟩
def Q5u (M:Fn):Nat×Spec:=(195,Ac Qhx Qbi M)
def Qf8 (E5:Fn):Cfg:={cf [Qto E5]with unroll:=[3]}
def Qne (E5:Fn):Fn:=Am PG (Qf8 E5) 64 195 Qhx Qbi
theorem Zwq (E5:Fn) (x0 x1 x2 x3 x4 x5:Int):Qne E5 [I x0,I x1,I x2,I x3,I x4,I x5]=
 (E5 [I (IntKind.i64.wrap (IntKind.i64.wrap (IntKind.i64.wrap (0+IntKind.i64.wrap (IntKind.i64.wrap (x0-x3)*IntKind.i64.wrap (x0-x3)))+IntKind.i64.wrap (IntKind.i64.wrap (x1-x4)*IntKind.i64.wrap (x1-x4)))+IntKind.i64.wrap (IntKind.i64.wrap (x2-x5)*IntKind.i64.wrap (x2-x5)))),I 1]).bind fun o1=>
 some [jA o1 0]:=by kernel_rfl
def Ie:=Qne Ij
theorem Zhj:Ai PG (Qf8 Ij):=Ao rfl ⟨Qzg,trivial⟩
theorem Q3u:Al PG (195,Ac Qhx Qbi Ie):=rw1 (C:=(Qf8 Ij)) Zhj
def UP:Sk:=⟨[tf [CS.ptr 20000 0],TS.v true [ci,ci,ci],TS.v true [ci,ci,ci,ci,ci,ci,ci]],[(20000,142,[ci,ci,ci,CS.own 20000 7,CS.own 20001 3,CS.bool,ci,ci,ci])],[(20000,162,Ah),(20001,76,kPt)]⟩
def Qga:Sk:=⟨[TS.tup []],[(20000,142,[ci,ci,ci,CS.own 20000 7,CS.own 20001 3,CS.bool,ci,ci,ci])],[(20000,162,Ah),(20001,76,kPt)]⟩
def Zxl (M:Fn):Nat×Spec:=(171,Ac UP Qga M)
def Wj (CX:Fn):Cfg:=cf [Q5u CX]
def RE (CX:Fn):Fn:=Am PG (Wj CX) 64 171 UP Qga
abbrev Yt (x15:Bool) (x0 x1:Rw) (x2 x3 x4 x16 x17 x18 x12 x13 x14:Int) (CX:Fn) (x9 x10 x11:Int) (h1_0:Bool) (h1_1 h1_2 h1_3:AC):Option (List AC):=
 bif !x15 then
 some [.view Ah x0, .view kPt x1,I x2,I x3,I x4,B true,I x16,I x17,I x18]
 else
 bif h1_0 then
 some [.view Ah x0, .view kPt x1,I x12,I x13,I x14,B x15,I x16,I x17,I x18]
 else
 (CX [h1_1,h1_2,h1_3,I x2,I x3,I x4]).bind fun o2=>
 bif((x0++[[I x2,I x3,I x4,jA o2 0,I x9,I x10,I x11]]).length*56).ble 140737488355328 then
 some [.view Ah (x0++[[I x2,I x3,I x4,jA o2 0,I x9,I x10,I x11]]), .view kPt x1,I x12,I x13,I x14,B x15,I (IntKind.i64.wrap (x16+gA o2 0)),I x17,I x18]
 else
 none
attribute [go_sem] Yt
theorem Q2w (CX:Fn) (x0 x1:Rw) (x2 x3 x4 x5 x6 x7 x8 x9 x10 x11 x12 x13 x14:Int) (x15:Bool) (x16 x17 x18:Int):RE CX [.view Ah x0, .view kPt x1,I x2,I x3,I x4,I x5,I x6,I x7,I x8,I x9,I x10,I x11,I x12,I x13,I x14,B x15,I x16,I x17,I x18]=
 bif decide ((x0.length:Int)>0)then
 bif decide (0<=IntKind.i64.wrap ((x0.length:Int)-1))&&decide (IntKind.i64.wrap ((x0.length:Int)-1)<(x0.length:Int))then
 Yt x15 x0 x1 x2 x3 x4 x16 x17 x18 x12 x13 x14 CX x9 x10 x11 (x2==gA (nth [] x0 (IntKind.i64.wrap ((x0.length:Int)-1)).toNat) 0&&(x3==gA (nth [] x0 (IntKind.i64.wrap ((x0.length:Int)-1)).toNat) 1&&(x4==gA (nth [] x0 (IntKind.i64.wrap ((x0.length:Int)-1)).toNat) 2&&true))) (jA (nth [] x0 (IntKind.i64.wrap ((x0.length:Int)-1)).toNat) 0) (jA (nth [] x0 (IntKind.i64.wrap ((x0.length:Int)-1)).toNat) 1) (jA (nth [] x0 (IntKind.i64.wrap ((x0.length:Int)-1)).toNat) 2)
 else
 none
 else
 Yt x15 x0 x1 x2 x3 x4 x16 x17 x18 x12 x13 x14 CX x9 x10 x11 (x2==x12&&(x3==x13&&(x4==x14&&true))) (I x12) (I x13) (I x14):=by kernel_rfl
def Ml:=RE Ie
theorem Zok:Ai PG (Wj Ie):=Ao rfl ⟨Q3u,trivial⟩
theorem Zh7:Al PG (171,Ac UP Qga Ml):=rw1 (C:=(Wj Ie)) Zok
def Qft:Sk:=⟨[tf [CS.sl Ak],tf [ci]],[],[]⟩
def Qmz:Sk:=⟨[tf [ci]],[],[]⟩
def Qi7 (M:Fn):Nat×Spec:=(125,Ac Qft Qmz M)
def C_path_next_0:Cfg:=cf []
def Q5v:Sk:=⟨[tf [CS.sl Ak],tf [ci]]++dd 20,[],[]⟩
def Qwz:List (Ex×Sk):=[(Ex.exit 0,⟨[td,tf [ci]]++dd 20,[],[]⟩)]
def Qb:Lp:=AP PG C_path_next_0 64 2 (AO PG 125 2) Q5v Qwz
def Que (N2:Lp):Cfg:=C_path_next_0.loop 2 Q5v Qwz N2
def Qba (N2:Lp):Fn:=Am PG (Que N2) 64 125 Qft Qmz
theorem Q3a (v0:Rw) (v1:Int):Qb [.view Ak v0,I v1]=
 bif decide (v1<(v0.length:Int))then
 bif decide (0<=v1)&&decide (v1<(v0.length:Int))then
 bif gA (nth [] v0 v1.toNat) 0==10 then
 some (0,[.view Ak v0,I (IntKind.i64.wrap (v1+1))])
 else
 some (1,[I v1])
 else
 none
 else
 some (1,[I v1]):=by kernel_rfl
theorem Znn (N2:Lp) (x0:Rw) (x1:Int):Qba N2 [.view Ak x0,I x1]=
 (N2 [.view Ak x0,I (IntKind.i64.wrap (x1+1))]).bind fun o1=>
 bif o1.1.beq 1 then
 some [jA o1.2 0]
 else
 none:=by kernel_rfl
def Qpp:=An (Qb)
def ER:=Qba Qpp
theorem Qpy:Ai PG (C_path_next_0):=Ao rfl trivial
theorem YT:Al PG (125,Ac Qft Qmz ER):=rw2 (C:=(Que Qpp)) (fl fb Qpy) Qpy
def Ug:Sk:=⟨[tf [CS.sl Ak],tf [ci]],[],[]⟩
def Qmx:Sk:=⟨[tf [CS.bool]],[],[]⟩
def Qtl (M:Fn):Nat×Spec:=(124,Ac Ug Qmx M)
def Qcy (Bc Bg:Fn):Cfg:=cf [Qt Bc,Qi7 Bg]
def Tm (Bc Bg:Fn):Fn:=Am PG (Qcy Bc Bg) 64 124 Ug Qmx
theorem Zqn (Bc Bg:Fn) (x0:Rw) (x1:Int):Tm Bc Bg [.view Ak x0,I x1]=
 (Bg [.view Ak x0,I x1]).bind fun o3=>
 bif decide (0<=x1)&&decide (x1<(x0.length:Int))then
 (Bc (AK Ak (nth [] x0 x1.toNat))).bind fun o4=>
 bif bA o4 0 then
 bif decide (0<=x1)&&decide (x1<(x0.length:Int))then
 bif gA (nth [] x0 x1.toNat) 18 !=0 then
 bif decide (gA o3 0<(x0.length:Int))then
 bif decide (0<=gA o3 0)&&decide (gA o3 0<(x0.length:Int))then
 (Bc (AK Ak (nth [] x0 (gA o3 0).toNat))).bind fun o5=>
 some [B (bA o5 0)]
 else
 none
 else
 some [B false]
 else
 some [B false]
 else
 none
 else
 some [B false]
 else
 none:=by kernel_rfl
def Gk:=Tm Ej ER
theorem Zir:Ai PG (Qcy Ej ER):=Ao rfl ⟨SC,YT,trivial⟩
theorem Q4a:Al PG (124,Ac Ug Qmx Gk):=rw1 (C:=(Qcy Ej ER)) Zir
def Xt:Sk:=⟨[TS.v true [ci,ci,ci],TS.v true [ci,ci,ci],TS.v true [ci,ci,ci]],[],[]⟩
def Xv:Sk:=⟨[tf [ci]],[],[]⟩
def Qxq (M:Fn):Nat×Spec:=(219,Ac Xt Xv M)
def Qdl:Cfg:={cf []with unroll:=[3]}
def Qqh:Fn:=Am PG Qdl 64 219 Xt Xv
theorem Zas (x0 x1 x2 x3 x4 x5 x6 x7 x8:Int):Qqh [I x0,I x1,I x2,I x3,I x4,I x5,I x6,I x7,I x8]=
 some [I (IntKind.i64.wrap (IntKind.i64.wrap (IntKind.i64.wrap (0+IntKind.i64.wrap (IntKind.i64.wrap (IntKind.i64.wrap (x0+x6)-IntKind.i64.wrap (2*x3))*IntKind.i64.wrap (IntKind.i64.wrap (x0+x6)-IntKind.i64.wrap (2*x3))))+IntKind.i64.wrap (IntKind.i64.wrap (IntKind.i64.wrap (x1+x7)-IntKind.i64.wrap (2*x4))*IntKind.i64.wrap (IntKind.i64.wrap (x1+x7)-IntKind.i64.wrap (2*x4))))+IntKind.i64.wrap (IntKind.i64.wrap (IntKind.i64.wrap (x2+x8)-IntKind.i64.wrap (2*x5))*IntKind.i64.wrap (IntKind.i64.wrap (x2+x8)-IntKind.i64.wrap (2*x5)))))]:=by kernel_rfl
def F3:=Qqh
theorem Zu2:Ai PG (Qdl):=Ao rfl trivial
theorem Q2r:Al PG (219,Ac Xt Xv F3):=rw1 (C:=Qdl) Zu2
def Qk8:Sk:=⟨[TS.v true [ci,ci,ci],TS.v true [ci,ci,ci],TS.v true [ci,ci,ci]],[],[]⟩
def YH:Sk:=⟨[tf [ci]],[],[]⟩
def Q69 (M:Fn):Nat×Spec:=(215,Ac Qk8 YH M)
def TY (Cx:Fn):Cfg:=cf [Qxq Cx]
def Qpx:Sk:=⟨[td,td,td,tf [CS.ptr 3 0],tf [CS.ptr 4 0],tf [CS.ptr 5 0],td,tf [ci]]++dd 22,[(3,54,[ci,ci,ci]),(4,54,[ci,ci,ci]),(5,54,[ci,ci,ci])],[]⟩
def Qvh:List (Ex×Sk):=[(Ex.exit 0,⟨[td,td,td,td,td,td,td,tf [ci]]++dd 22,[],[]⟩)]
def OM (Cx:Fn):Lp:=AP PG (TY Cx) 64 2 (AO PG 215 2) Qpx Qvh
def Qrk (Cx:Fn) (N2:Lp):Cfg:=(TY Cx).loop 2 Qpx Qvh N2
def Qdv (Cx:Fn) (N2:Lp):Fn:=Am PG (Qrk Cx N2) 64 215 Qk8 YH
theorem Zuu (Cx:Fn) (v0 v1 v2 v3 v4 v5 v6 v7 v8 v9:Int):OM Cx [I v0,I v1,I v2,I v3,I v4,I v5,I v6,I v7,I v8,I v9]=
 bif decide (v0<64)then
 (Cx [I v1,I v2,I v3,I v4,I v5,I v6,I v7,I v8,I v9]).bind fun o2=>
 bif decide (gA o2 0>IntKind.i64.wrap (IntKind.i64.wrap (IntKind.i64.wrap (IntKind.i64.wrap (IntKind.i64.wrap (IntKind.i64.wrap (16*v0)*v0)*v0)*v0)*4)*4))then
 some (0,[I (IntKind.i64.wrap (v0*2)),I v1,I v2,I v3,I v4,I v5,I v6,I v7,I v8,I v9])
 else
 some (1,[I v0])
 else
 some (1,[I v0]):=by kernel_rfl
theorem Zdv (Cx:Fn) (N2:Lp) (x0 x1 x2 x3 x4 x5 x6 x7 x8:Int):Qdv Cx N2 [I x0,I x1,I x2,I x3,I x4,I x5,I x6,I x7,I x8]=
 (N2 [I 2,I x0,I x1,I x2,I x3,I x4,I x5,I x6,I x7,I x8]).bind fun o3=>
 bif o3.1.beq 1 then
 some [jA o3.2 0]
 else
 none:=by kernel_rfl
def Q3m:=An (OM F3)
def JI:=Qdv F3 Q3m
theorem Qvi:Ai PG (TY F3):=Ao rfl ⟨Q2r,trivial⟩
theorem Zwn:Al PG (215,Ac Qk8 YH JI):=rw2 (C:=(Qrk F3 Q3m)) (fl fb Qvi) Qvi
def Qco:Sk:=⟨[TS.v true [CS.int .u64,CS.int .u64],tf [CS.int .u64]],[],[]⟩
def T2:Sk:=⟨[TS.tup [(true,[CS.int .u64,CS.int .u64]),(false,[CS.bool])]],[],[]⟩
def Zsr (M:Fn):Nat×Spec:=(224,Ac Qco T2 M)
def Qgy (Fe:Fn):Cfg:=cf [Q5b Fe]
def Tj (Fe:Fn):Fn:=Am PG (Qgy Fe) 64 224 Qco T2
theorem Q7f (Fe:Fn) (x0 x1 x2:Int):Tj Fe [U x0,U x1,U x2]=
 (Fe [U 0,U x0,U x2]).bind fun o2=>
 (Fe [U (gA o2 1),U x1,U x2]).bind fun o3=>
 some [U (gA o2 0),U (gA o3 0),B (decide (gA o3 1>0))]:=by kernel_rfl
def Rs:=Tj F6
theorem Zb6:Ai PG (Qgy F6):=Ao rfl ⟨Qpq,trivial⟩
theorem Zi7:Al PG (224,Ac Qco T2 Rs):=rw1 (C:=(Qgy F6)) Zb6
def Qav:Sk:=⟨[tf [ci],tf [ci],tf [ci],tf [ci]],[],[]⟩
def Qbm:Sk:=⟨[TS.tup [(false,[ci]),(false,[CS.bool])]],[],[]⟩
def Qyk (M:Fn):Nat×Spec:=(220,Ac Qav Qbm M)
def Zi (A4 Cg CV Fqs LD Bp Dv B2:Fn):Cfg:=cf [Qmy A4,Q6a Cg,ZG CV,Qr3 Fqs,Zsr LD,RA Bp,Qef Dv,Qbk B2]
def ZN (A4 Cg CV Fqs LD Bp Dv B2:Fn):Fn:=Am PG (Zi A4 Cg CV Fqs LD Bp Dv B2) 64 220 Qav Qbm
abbrev Px (Cg:Fn) (x3:Int) (A4:Fn) (o42:List AC) (h1_0:Bool) (h1_1 h1_2 h1_3 h1_4:AC):Option (List AC):=
 bif h1_0 then
 (Cg [I x3,h1_1,B true,h1_2]).bind fun o44=>
 bif bA o44 0 then
 (A4 [U (IntKind.u64.wrap (IntKind.u64.wrap ((gA o42 0).tdiv 2)+1)),h1_2]).bind fun o45=>
 some [jA o45 0,B (bA o45 1)]
 else
 (A4 [U (IntKind.u64.wrap ((gA o42 0).tdiv 2)),h1_2]).bind fun o46=>
 some [jA o46 0,B (bA o46 1)]
 else
 (Cg [I x3,h1_3,h1_4,h1_2]).bind fun o47=>
 bif bA o47 0 then
 (A4 [U (IntKind.u64.wrap (IntKind.u64.wrap ((gA o42 0).tdiv 2)+1)),h1_2]).bind fun o48=>
 some [jA o48 0,B (bA o48 1)]
 else
 (A4 [U (IntKind.u64.wrap ((gA o42 0).tdiv 2)),h1_2]).bind fun o49=>
 some [jA o49 0,B (bA o49 1)]
attribute [go_sem] Px
theorem Zg4 (A4 Cg CV Fqs LD Bp Dv B2:Fn) (x0 x1 x2 x3:Int):ZN A4 Cg CV Fqs LD Bp Dv B2 [I x0,I x1,I x2,I x3]=
 (B2 [I x0]).bind fun o35=>
 bif decide (gA o35 0>2147483648)then
 some [I 0,B false]
 else
 (B2 [I x1]).bind fun o36=>
 bif decide (gA o36 0>2147483648)then
 some [I 0,B false]
 else
 bif decide (x2<1)then
 some [I 0,B false]
 else
 bif decide (x2>4611686018427387904)then
 some [I 0,B false]
 else
 (Dv [I x3]).bind fun o37=>
 bif !bA o37 0 then
 some [I 0,B false]
 else
 (B2 [I x0]).bind fun o38=>
 (B2 [I x1]).bind fun o39=>
 (Bp [U (IntKind.u64.wrap (2*IntKind.u64.wrap (gA o38 0*gA o39 0))),U (IntKind.u64.wrap (2*IntKind.u64.wrap (gA o38 0*gA o39 0)))]).bind fun o40=>
 (LD [U (gA o40 0),U (gA o40 1),U (IntKind.u64.wrap x2)]).bind fun o41=>
 (Fqs [U (gA o41 0),U (gA o41 1)]).bind fun o42=>
 bif bA o41 2 then
 (CV [I x0,I x1]).bind fun o43=>
 Px Cg x3 A4 o42 ((gA o42 0).tmod 2==1) (I 1) (B (decide (gA o43 0<0))) (I (-1)) (B true)
 else
 (Bp [U (gA o42 0),U (gA o42 0)]).bind fun o50=>
 (CV [I x0,I x1]).bind fun o51=>
 bif(gA o42 0).tmod 2==1 then
 bif !(gA o50 0==gA o41 0&&(gA o50 1==gA o41 1&&true))then
 Px Cg x3 A4 o42 (!(gA o50 0==gA o41 0&&(gA o50 1==gA o41 1&&true))) (I 1) (B (decide (gA o51 0<0))) (I 1) (B ((gA o42 0).tmod 2==1))
 else
 Px Cg x3 A4 o42 (!(gA o50 0==gA o41 0&&(gA o50 1==gA o41 1&&true))) (I 0) (B (decide (gA o51 0<0))) (I 0) (B ((gA o42 0).tmod 2==1))
 else
 Px Cg x3 A4 o42 (!(gA o50 0==gA o41 0&&(gA o50 1==gA o41 1&&true))) (I (-1)) (B (decide (gA o51 0<0))) (I (-1)) (B ((gA o42 0).tmod 2==1)):=by kernel_rfl
def HM:=ZN Ew GZ Fi Jn Rs DV Fd FF
theorem Zfz:Ai PG (Zi Ew GZ Fi Jn Rs DV Fd FF):=Ao rfl ⟨Qfr,Qxu,X2,Qvq,Zi7,RS,TA,Qll,trivial⟩
theorem Qo7:Al PG (220,Ac Qav Qbm HM):=rw1 (C:=(Zi Ew GZ Fi Jn Rs DV Fd FF)) Zfz
def Vf:Sk:=⟨[TS.v true [ci,ci,ci],TS.v true [ci,ci,ci],tf [ci]],[],[]⟩
def Zl:Sk:=⟨[TS.tup [(true,[ci,ci,ci]),(false,[CS.bool])]],[],[]⟩
def Q1z (M:Fn):Nat×Spec:=(214,Ac Vf Zl M)
def Qk2 (B7:Fn):Cfg:={cf [Qyk B7]with unroll:=[5,10]}
def Qiy (B7:Fn):Fn:=Am PG (Qk2 B7) 64 214 Vf Zl
theorem Zr4 (B7:Fn) (x0 x1 x2 x3 x4 x5 x6:Int):Qiy B7 [I x0,I x1,I x2,I x3,I x4,I x5,I x6]=
 bif x3==x0&&(x4==x1&&(x5==x2&&true))then
 some [I 0,I 0,I 0,B false]
 else
 bif decide (x6<0)then
 some [I 0,I 0,I 0,B false]
 else
 bif decide (x6>33554432)then
 some [I 0,I 0,I 0,B false]
 else
 (B7 [I (IntKind.i64.wrap (x3-x0)),I x6,I (IntKind.i64.wrap (IntKind.i64.wrap (IntKind.i64.wrap (0+IntKind.i64.wrap (IntKind.i64.wrap (x3-x0)*IntKind.i64.wrap (x3-x0)))+IntKind.i64.wrap (IntKind.i64.wrap (x4-x1)*IntKind.i64.wrap (x4-x1)))+IntKind.i64.wrap (IntKind.i64.wrap (x5-x2)*IntKind.i64.wrap (x5-x2)))),I 2]).bind fun o3=>
 (B7 [I (IntKind.i64.wrap (x4-x1)),I x6,I (IntKind.i64.wrap (IntKind.i64.wrap (IntKind.i64.wrap (0+IntKind.i64.wrap (IntKind.i64.wrap (x3-x0)*IntKind.i64.wrap (x3-x0)))+IntKind.i64.wrap (IntKind.i64.wrap (x4-x1)*IntKind.i64.wrap (x4-x1)))+IntKind.i64.wrap (IntKind.i64.wrap (x5-x2)*IntKind.i64.wrap (x5-x2)))),I 2]).bind fun o4=>
 (B7 [I (IntKind.i64.wrap (x5-x2)),I x6,I (IntKind.i64.wrap (IntKind.i64.wrap (IntKind.i64.wrap (0+IntKind.i64.wrap (IntKind.i64.wrap (x3-x0)*IntKind.i64.wrap (x3-x0)))+IntKind.i64.wrap (IntKind.i64.wrap (x4-x1)*IntKind.i64.wrap (x4-x1)))+IntKind.i64.wrap (IntKind.i64.wrap (x5-x2)*IntKind.i64.wrap (x5-x2)))),I 2]).bind fun o5=>
 some [I (IntKind.i64.wrap (x0+gA o3 0)),I (IntKind.i64.wrap (x1+gA o4 0)),I (IntKind.i64.wrap (x2+gA o5 0)),B true]:=by kernel_rfl
def Gj:=Qiy HM
theorem Zch:Ai PG (Qk2 HM):=Ao rfl ⟨Qo7,trivial⟩
theorem Q37:Al PG (214,Ac Vf Zl Gj):=rw1 (C:=(Qk2 HM)) Zch
def Zc:Sk:=⟨[TS.v true [ci,ci,ci],TS.v true [ci,ci,ci],TS.v true [ci,ci,ci],tf [ci]],[],[]⟩
def Qaj:Sk:=⟨[tf [ci]],[],[]⟩
def Za2 (M:Fn):Nat×Spec:=(213,Ac Zc Qaj M)
def ZT (Cx B5 CX:Fn):Cfg:=cf [Qxq Cx,Q1z B5,Q5u CX]
def Q5l:Sk:=⟨[td,td,td,tf [ci],tf [CS.ptr 4 0],tf [CS.ptr 5 0],tf [CS.ptr 6 0],td,td,tf [ci],tf [ci],tf [ci]]++dd 62,[(4,54,[ci,ci,ci]),(5,54,[ci,ci,ci]),(6,54,[ci,ci,ci])],[]⟩
def Qqk:List (Ex×Sk):=[(Ex.exit 0,⟨[td,td,td,td,td,td,td,td,td,td,tf [ci]]++dd 63,[],[]⟩)]
def LQ (Cx B5 CX:Fn):Lp:=AP PG (ZT Cx B5 CX) 64 6 (AO PG 213 6) Q5l Qqk
def Qpc (Cx B5 CX:Fn) (N6:Lp):Cfg:=(ZT Cx B5 CX).loop 6 Q5l Qqk N6
def Th (Cx B5 CX:Fn) (N6:Lp):Fn:=Am PG (Qpc Cx B5 CX N6) 64 213 Zc Qaj
theorem Q0y (Cx B5 CX:Fn) (v0 v1 v2 v3 v4 v5 v6 v7 v8 v9 v10 v11 v12:Int):LQ Cx B5 CX [I v0,I v1,I v2,I v3,I v4,I v5,I v6,I v7,I v8,I v9,I v10,I v11,I v12]=
 bif decide (v3>0)then
 bif decide (IntKind.i64.wrap (v2+v3)>v1)then
 some (0,[I v0,I v1,I v2,I (v3.fdiv (2^min (Int.toNat 1) IntKind.i64.bits)),I v4,I v5,I v6,I v7,I v8,I v9,I v10,I v11,I v12])
 else
 (B5 [I v7,I v8,I v9,I v4,I v5,I v6,I (IntKind.i64.wrap (v2+v3))]).bind fun o8=>
 (B5 [I v7,I v8,I v9,I v10,I v11,I v12,I (IntKind.i64.wrap (v2+v3))]).bind fun o9=>
 (Cx [jA o8 0,jA o8 1,jA o8 2,I v7,I v8,I v9,jA o9 0,jA o9 1,jA o9 2]).bind fun o10=>
 bif decide (gA o10 0<=IntKind.i64.wrap (IntKind.i64.wrap (16*v0)*v0))then
 some (0,[I v0,I v1,I (IntKind.i64.wrap (v2+v3)),I (v3.fdiv (2^min (Int.toNat 1) IntKind.i64.bits)),I v4,I v5,I v6,I v7,I v8,I v9,I v10,I v11,I v12])
 else
 some (0,[I v0,I v1,I v2,I (v3.fdiv (2^min (Int.toNat 1) IntKind.i64.bits)),I v4,I v5,I v6,I v7,I v8,I v9,I v10,I v11,I v12])
 else
 some (1,[I v2]):=by kernel_rfl
theorem Zak (Cx B5 CX:Fn) (N6:Lp) (x0 x1 x2 x3 x4 x5 x6 x7 x8 x9:Int):Th Cx B5 CX N6 [I x0,I x1,I x2,I x3,I x4,I x5,I x6,I x7,I x8,I x9]=
 bif x0==x3&&(x1==x4&&(x2==x5&&true))then
 some [I 0]
 else
 bif x6==x3&&(x7==x4&&(x8==x5&&true))then
 some [I 0]
 else
 (CX [I x0,I x1,I x2,I x3,I x4,I x5]).bind fun o11=>
 (CX [I x3,I x4,I x5,I x6,I x7,I x8]).bind fun o12=>
 (N6 [I x9,I (IntKind.i64.wrap (mn (gA o11 0) (gA o12 0)-2)),I 0,I 16777216,I x0,I x1,I x2,I x3,I x4,I x5,I x6,I x7,I x8]).bind fun o13=>
 bif o13.1.beq 1 then
 bif decide (gA o13.2 0<16)then
 some [I 0]
 else
 some [jA o13.2 0]
 else
 none:=by kernel_rfl
def Qz0:=An (LQ F3 Gj Ie)
def Kt:=Th F3 Gj Ie Qz0
theorem Qw2:Ai PG (ZT F3 Gj Ie):=Ao rfl ⟨Q2r,Q37,Q3u,trivial⟩
theorem Ztz:Al PG (213,Ac Zc Qaj Kt):=rw2 (C:=(Qpc F3 Gj Ie Qz0)) (fl fb Qw2) Qw2
def VF:Sk:=⟨[TS.v true [ci,ci,ci],TS.v true [ci,ci,ci],TS.v true [ci,ci,ci],tf [ci]],[],[]⟩
def Ql9:Sk:=⟨[tf [CS.sl kPt]],[],[]⟩
def Zmh (M:Fn):Nat×Spec:=(208,Ac VF Ql9 M)
def Tu (AE FY B5 Gt:Fn):Cfg:={cf [Kc AE,Q69 FY,Q1z B5,Za2 Gt]with unroll:=[13]}
def Qwl:Sk:=⟨[td,td,td,td,td,tf [CS.ptr 5 0],td,td,td,td,tf [CS.ptr 10 0],td,tf [CS.ptr 12 0],td,tf [ci],tf [CS.own 50 3],td,td,td,td,td,td,td,td,td,td,td,td,td,td,td,td,td,td,td,td,td,td,td,td,td,td,td,td,td,td,td,td,td,td,td,td,tf [ci],tf [ci]]++dd 57,[(5,54,[ci,ci,ci]),(10,54,[ci,ci,ci]),(12,54,[ci,ci,ci])],[(50,54,kPt)]⟩
def Qys:List (Ex×Sk):=[(Ex.exit 0,⟨[td,td,td,td,td,td,td,td,td,td,td,td,td,td,td,tf [CS.own 50 3]]++dd 95,[],[(50,54,kPt)]⟩)]
def L3 (AE FY B5 Gt:Fn):Lp:=AP PG (Tu AE FY B5 Gt) 64 9 (AO PG 208 9) Qwl Qys
def Q1t (AE FY B5 Gt:Fn) (N9:Lp):Cfg:=(Tu AE FY B5 Gt).loop 9 Qwl Qys N9
def WN (AE FY B5 Gt:Fn) (N9:Lp):Fn:=Am PG (Q1t AE FY B5 Gt N9) 64 208 VF Ql9
theorem Qrt (AE FY B5 Gt:Fn) (v0:Rw) (v1 v2 v3 v4 v5 v6 v7 v8 v9 v10 v11 v12:Int):L3 AE FY B5 Gt [.view kPt v0,I v1,I v2,I v3,I v4,I v5,I v6,I v7,I v8,I v9,I v10,I v11,I v12]=
 bif decide (v3<v2)then
 bif decide (0<=v3)&&decide (v3<(v0.length:Int))then
 (AE [I (IntKind.i64.wrap (IntKind.i64.wrap (IntKind.i64.wrap (IntKind.i64.wrap (v1-v3)*IntKind.i64.wrap (v1-v3))*IntKind.i64.wrap (v7-v4))+IntKind.i64.wrap (IntKind.i64.wrap (v3*v3)*IntKind.i64.wrap (v10-v4)))),I 1,I (IntKind.i64.wrap (v1*v1)),I 2]).bind fun o12=>
 bif decide (0<=v3)&&decide (v3<(v0.length:Int))then
 bif decide (0<=v3)&&decide (v3<(v0.length:Int))then
 (AE [I (IntKind.i64.wrap (IntKind.i64.wrap (IntKind.i64.wrap (IntKind.i64.wrap (v1-v3)*IntKind.i64.wrap (v1-v3))*IntKind.i64.wrap (v8-v5))+IntKind.i64.wrap (IntKind.i64.wrap (v3*v3)*IntKind.i64.wrap (v11-v5)))),I 1,I (IntKind.i64.wrap (v1*v1)),I 2]).bind fun o13=>
 bif decide (0<=v3)&&decide (v3<(v0.length:Int))then
 bif decide (0<=v3)&&decide (v3<(v0.length:Int))then
 (AE [I (IntKind.i64.wrap (IntKind.i64.wrap (IntKind.i64.wrap (IntKind.i64.wrap (v1-v3)*IntKind.i64.wrap (v1-v3))*IntKind.i64.wrap (v9-v6))+IntKind.i64.wrap (IntKind.i64.wrap (v3*v3)*IntKind.i64.wrap (v12-v6)))),I 1,I (IntKind.i64.wrap (v1*v1)),I 2]).bind fun o14=>
 bif decide (0<=v3)&&decide (v3<(v0.length:Int))then
 bif decide (0<=v3)&&decide (v3<(v0.length:Int))then
 some (0,[.view kPt ((((v0.set v3.toNat [I v4,I v5,I v6]).set v3.toNat [I (IntKind.i64.wrap (Af (nth .dead (nth [] (v0.set v3.toNat [I v4,I v5,I v6]) v3.toNat) 0)+gA o12 0)),I (Af (nth .dead (nth [] (v0.set v3.toNat [I v4,I v5,I v6]) v3.toNat) 1)),I (Af (nth .dead (nth [] (v0.set v3.toNat [I v4,I v5,I v6]) v3.toNat) 2))]).set v3.toNat [I (Af (nth .dead (nth [] ((v0.set v3.toNat [I v4,I v5,I v6]).set v3.toNat [I (IntKind.i64.wrap (Af (nth .dead (nth [] (v0.set v3.toNat [I v4,I v5,I v6]) v3.toNat) 0)+gA o12 0)),I (Af (nth .dead (nth [] (v0.set v3.toNat [I v4,I v5,I v6]) v3.toNat) 1)),I (Af (nth .dead (nth [] (v0.set v3.toNat [I v4,I v5,I v6]) v3.toNat) 2))]) v3.toNat) 0)),I (IntKind.i64.wrap (Af (nth .dead (nth [] ((v0.set v3.toNat [I v4,I v5,I v6]).set v3.toNat [I (IntKind.i64.wrap (Af (nth .dead (nth [] (v0.set v3.toNat [I v4,I v5,I v6]) v3.toNat) 0)+gA o12 0)),I (Af (nth .dead (nth [] (v0.set v3.toNat [I v4,I v5,I v6]) v3.toNat) 1)),I (Af (nth .dead (nth [] (v0.set v3.toNat [I v4,I v5,I v6]) v3.toNat) 2))]) v3.toNat) 1)+gA o13 0)),I (Af (nth .dead (nth [] ((v0.set v3.toNat [I v4,I v5,I v6]).set v3.toNat [I (IntKind.i64.wrap (Af (nth .dead (nth [] (v0.set v3.toNat [I v4,I v5,I v6]) v3.toNat) 0)+gA o12 0)),I (Af (nth .dead (nth [] (v0.set v3.toNat [I v4,I v5,I v6]) v3.toNat) 1)),I (Af (nth .dead (nth [] (v0.set v3.toNat [I v4,I v5,I v6]) v3.toNat) 2))]) v3.toNat) 2))]).set v3.toNat [I (Af (nth .dead (nth [] (((v0.set v3.toNat [I v4,I v5,I v6]).set v3.toNat [I (IntKind.i64.wrap (Af (nth .dead (nth [] (v0.set v3.toNat [I v4,I v5,I v6]) v3.toNat) 0)+gA o12 0)),I (Af (nth .dead (nth [] (v0.set v3.toNat [I v4,I v5,I v6]) v3.toNat) 1)),I (Af (nth .dead (nth [] (v0.set v3.toNat [I v4,I v5,I v6]) v3.toNat) 2))]).set v3.toNat [I (Af (nth .dead (nth [] ((v0.set v3.toNat [I v4,I v5,I v6]).set v3.toNat [I (IntKind.i64.wrap (Af (nth .dead (nth [] (v0.set v3.toNat [I v4,I v5,I v6]) v3.toNat) 0)+gA o12 0)),I (Af (nth .dead (nth [] (v0.set v3.toNat [I v4,I v5,I v6]) v3.toNat) 1)),I (Af (nth .dead (nth [] (v0.set v3.toNat [I v4,I v5,I v6]) v3.toNat) 2))]) v3.toNat) 0)),I (IntKind.i64.wrap (Af (nth .dead (nth [] ((v0.set v3.toNat [I v4,I v5,I v6]).set v3.toNat [I (IntKind.i64.wrap (Af (nth .dead (nth [] (v0.set v3.toNat [I v4,I v5,I v6]) v3.toNat) 0)+gA o12 0)),I (Af (nth .dead (nth [] (v0.set v3.toNat [I v4,I v5,I v6]) v3.toNat) 1)),I (Af (nth .dead (nth [] (v0.set v3.toNat [I v4,I v5,I v6]) v3.toNat) 2))]) v3.toNat) 1)+gA o13 0)),I (Af (nth .dead (nth [] ((v0.set v3.toNat [I v4,I v5,I v6]).set v3.toNat [I (IntKind.i64.wrap (Af (nth .dead (nth [] (v0.set v3.toNat [I v4,I v5,I v6]) v3.toNat) 0)+gA o12 0)),I (Af (nth .dead (nth [] (v0.set v3.toNat [I v4,I v5,I v6]) v3.toNat) 1)),I (Af (nth .dead (nth [] (v0.set v3.toNat [I v4,I v5,I v6]) v3.toNat) 2))]) v3.toNat) 2))]) v3.toNat) 0)),I (Af (nth .dead (nth [] (((v0.set v3.toNat [I v4,I v5,I v6]).set v3.toNat [I (IntKind.i64.wrap (Af (nth .dead (nth [] (v0.set v3.toNat [I v4,I v5,I v6]) v3.toNat) 0)+gA o12 0)),I (Af (nth .dead (nth [] (v0.set v3.toNat [I v4,I v5,I v6]) v3.toNat) 1)),I (Af (nth .dead (nth [] (v0.set v3.toNat [I v4,I v5,I v6]) v3.toNat) 2))]).set v3.toNat [I (Af (nth .dead (nth [] ((v0.set v3.toNat [I v4,I v5,I v6]).set v3.toNat [I (IntKind.i64.wrap (Af (nth .dead (nth [] (v0.set v3.toNat [I v4,I v5,I v6]) v3.toNat) 0)+gA o12 0)),I (Af (nth .dead (nth [] (v0.set v3.toNat [I v4,I v5,I v6]) v3.toNat) 1)),I (Af (nth .dead (nth [] (v0.set v3.toNat [I v4,I v5,I v6]) v3.toNat) 2))]) v3.toNat) 0)),I (IntKind.i64.wrap (Af (nth .dead (nth [] ((v0.set v3.toNat [I v4,I v5,I v6]).set v3.toNat [I (IntKind.i64.wrap (Af (nth .dead (nth [] (v0.set v3.toNat [I v4,I v5,I v6]) v3.toNat) 0)+gA o12 0)),I (Af (nth .dead (nth [] (v0.set v3.toNat [I v4,I v5,I v6]) v3.toNat) 1)),I (Af (nth .dead (nth [] (v0.set v3.toNat [I v4,I v5,I v6]) v3.toNat) 2))]) v3.toNat) 1)+gA o13 0)),I (Af (nth .dead (nth [] ((v0.set v3.toNat [I v4,I v5,I v6]).set v3.toNat [I (IntKind.i64.wrap (Af (nth .dead (nth [] (v0.set v3.toNat [I v4,I v5,I v6]) v3.toNat) 0)+gA o12 0)),I (Af (nth .dead (nth [] (v0.set v3.toNat [I v4,I v5,I v6]) v3.toNat) 1)),I (Af (nth .dead (nth [] (v0.set v3.toNat [I v4,I v5,I v6]) v3.toNat) 2))]) v3.toNat) 2))]) v3.toNat) 1)),I (IntKind.i64.wrap (Af (nth .dead (nth [] (((v0.set v3.toNat [I v4,I v5,I v6]).set v3.toNat [I (IntKind.i64.wrap (Af (nth .dead (nth [] (v0.set v3.toNat [I v4,I v5,I v6]) v3.toNat) 0)+gA o12 0)),I (Af (nth .dead (nth [] (v0.set v3.toNat [I v4,I v5,I v6]) v3.toNat) 1)),I (Af (nth .dead (nth [] (v0.set v3.toNat [I v4,I v5,I v6]) v3.toNat) 2))]).set v3.toNat [I (Af (nth .dead (nth [] ((v0.set v3.toNat [I v4,I v5,I v6]).set v3.toNat [I (IntKind.i64.wrap (Af (nth .dead (nth [] (v0.set v3.toNat [I v4,I v5,I v6]) v3.toNat) 0)+gA o12 0)),I (Af (nth .dead (nth [] (v0.set v3.toNat [I v4,I v5,I v6]) v3.toNat) 1)),I (Af (nth .dead (nth [] (v0.set v3.toNat [I v4,I v5,I v6]) v3.toNat) 2))]) v3.toNat) 0)),I (IntKind.i64.wrap (Af (nth .dead (nth [] ((v0.set v3.toNat [I v4,I v5,I v6]).set v3.toNat [I (IntKind.i64.wrap (Af (nth .dead (nth [] (v0.set v3.toNat [I v4,I v5,I v6]) v3.toNat) 0)+gA o12 0)),I (Af (nth .dead (nth [] (v0.set v3.toNat [I v4,I v5,I v6]) v3.toNat) 1)),I (Af (nth .dead (nth [] (v0.set v3.toNat [I v4,I v5,I v6]) v3.toNat) 2))]) v3.toNat) 1)+gA o13 0)),I (Af (nth .dead (nth [] ((v0.set v3.toNat [I v4,I v5,I v6]).set v3.toNat [I (IntKind.i64.wrap (Af (nth .dead (nth [] (v0.set v3.toNat [I v4,I v5,I v6]) v3.toNat) 0)+gA o12 0)),I (Af (nth .dead (nth [] (v0.set v3.toNat [I v4,I v5,I v6]) v3.toNat) 1)),I (Af (nth .dead (nth [] (v0.set v3.toNat [I v4,I v5,I v6]) v3.toNat) 2))]) v3.toNat) 2))]) v3.toNat) 2)+gA o14 0))]),I v1,I v2,I (IntKind.i64.wrap (v3+1)),I v4,I v5,I v6,I v7,I v8,I v9,I v10,I v11,I v12])
 else
 none
 else
 none
 else
 none
 else
 none
 else
 none
 else
 none
 else
 none
 else
 some (1,[.view kPt v0]):=by kernel_rfl
theorem Q18 (AE FY B5 Gt:Fn) (N9:Lp) (x0 x1 x2 x3 x4 x5 x6 x7 x8 x9:Int):WN AE FY B5 Gt N9 [I x0,I x1,I x2,I x3,I x4,I x5,I x6,I x7,I x8,I x9]=
 (Gt [I x0,I x1,I x2,I x3,I x4,I x5,I x6,I x7,I x8,I x9]).bind fun o15=>
 bif gA o15 0==0 then
 some [.view kPt [[I x3,I x4,I x5]]]
 else
 (B5 [I x3,I x4,I x5,I x0,I x1,I x2,jA o15 0]).bind fun o16=>
 (B5 [I x3,I x4,I x5,I x6,I x7,I x8,jA o15 0]).bind fun o17=>
 (FY [jA o16 0,jA o16 1,jA o16 2,I x3,I x4,I x5,jA o17 0,jA o17 1,jA o17 2]).bind fun o18=>
 bif decide (IntKind.i64.wrap (gA o18 0+1)=IntKind.i64.wrap (gA o18 0+1))then
 bif decide (0<=IntKind.i64.wrap (gA o18 0+1))&&decide (IntKind.i64.wrap (gA o18 0+1)*(↑24:Int)<=140737488355328)then
 (N9 [.view kPt (List.replicate (IntKind.i64.wrap (gA o18 0+1)).toNat [I 0,I 0,I 0]),jA o18 0,I (↑(List.replicate (IntKind.i64.wrap (gA o18 0+1)).toNat [I 0,I 0,I 0]).length:Int),I 0,I x3,I x4,I x5,jA o16 0,jA o16 1,jA o16 2,jA o17 0,jA o17 1,jA o17 2]).bind fun o19=>
 bif o19.1.beq 1 then
 some [.view kPt (wA o19.2 0)]
 else
 none
 else
 none
 else
 none:=by kernel_rfl
def Qqq:=An (L3 Be JI Gj Kt)
def PL:=WN Be JI Gj Kt Qqq
theorem Qwf:Ai PG (Tu Be JI Gj Kt):=Ao rfl ⟨K3,Zwn,Q37,Ztz,trivial⟩
theorem Z0a:Al PG (208,Ac VF Ql9 PL):=rw2 (C:=(Q1t Be JI Gj Kt Qqq)) (fl fb Qwf) Qwf
def Qea:Sk:=⟨[TS.v true [ci,ci,ci]],[],[]⟩
def UV:Sk:=⟨[TS.v true [ci,ci,ci]],[],[]⟩
def Zo8 (M:Fn):Nat×Spec:=(209,Ac Qea UV M)
def ZD:Cfg:=cf []
def Q00:Fn:=Am PG ZD 64 209 Qea UV
theorem Ztk (x0 x1 x2:Int):Q00 [I x0,I x1,I x2]=
 some [I (IntKind.i64.wrap (x0*16)),I (IntKind.i64.wrap (x1*16)),I (IntKind.i64.wrap (x2*16))]:=by kernel_rfl
def L7:=Q00
theorem Ztl:Ai PG (ZD):=Ao rfl trivial
theorem Zkb:Al PG (209,Ac Qea UV L7):=rw1 (C:=ZD) Ztl
def Qff:Sk:=⟨[TS.v true [ci,ci,ci,ci,ci,ci,ci,ci,ci,ci,ci,ci,ci,CS.bool,ci,CS.bool,ci,ci,ci,ci,ci,CS.bool],TS.v true [ci,ci,ci,ci,ci,ci,ci,ci,ci,ci,ci,ci,ci,CS.bool,ci,CS.bool,ci,ci,ci,ci,ci,CS.bool]],[],[]⟩
def Qjz:Sk:=⟨[TS.tup [(false,[CS.sl kPt]),(false,[CS.sl kPt])]],[],[]⟩
def Q70 (M:Fn):Nat×Spec:=(194,Ac Qff Qjz M)
def Qfs (Ob Nu BP:Fn):Cfg:=cf [Zmh Ob,Zo8 Nu,ZL BP]
def Qmw (Ob Nu BP:Fn):Fn:=Am PG (Qfs Ob Nu BP) 64 194 Qff Qjz
theorem Zf2 (Ob Nu BP:Fn) (x0 x1 x2 x3 x4 x5 x6 x7 x8 x9 x10 x11 x12:Int) (x13:Bool) (x14:Int) (x15:Bool) (x16 x17 x18 x19 x20:Int) (x21:Bool) (x22 x23 x24 x25 x26 x27 x28 x29 x30 x31 x32 x33 x34:Int) (x35:Bool) (x36:Int) (x37:Bool) (x38 x39 x40 x41 x42:Int) (x43:Bool):Qmw Ob Nu BP [I x0,I x1,I x2,I x3,I x4,I x5,I x6,I x7,I x8,I x9,I x10,I x11,I x12,B x13,I x14,B x15,I x16,I x17,I x18,I x19,I x20,B x21,I x22,I x23,I x24,I x25,I x26,I x27,I x28,I x29,I x30,I x31,I x32,I x33,I x34,B x35,I x36,B x37,I x38,I x39,I x40,I x41,I x42,B x43]=
 (BP [I x0,I x1,I x2,I x3,I x4,I x5,I x6,I x7,I x8,I x9,I x10,I x11,I x12,B x13,I x14,B x15,I x16,I x17,I x18,I x19,I x20,B x21]).bind fun o4=>
 (Nu [I x5,I x6,I x7]).bind fun o5=>
 (BP [I x22,I x23,I x24,I x25,I x26,I x27,I x28,I x29,I x30,I x31,I x32,I x33,I x34,B x35,I x36,B x37,I x38,I x39,I x40,I x41,I x42,B x43]).bind fun o6=>
 (Ob [jA o4 0,jA o4 1,jA o4 2,jA o5 0,jA o5 1,jA o5 2,jA o6 0,jA o6 1,jA o6 2,I (IntKind.i64.wrap (x18*16))]).bind fun o7=>
 bif decide (0<=IntKind.i64.wrap (IntKind.i64.wrap ((IntKind.i64.wrap ((↑(wA o7 0).length:Int)-1)).tdiv 2)+1))&&decide (IntKind.i64.wrap (IntKind.i64.wrap ((IntKind.i64.wrap ((↑(wA o7 0).length:Int)-1)).tdiv 2)+1)<=(↑(wA o7 0).length:Int))then
 bif decide (0<=IntKind.i64.wrap ((IntKind.i64.wrap ((↑(wA o7 0).length:Int)-1)).tdiv 2))&&decide (IntKind.i64.wrap ((IntKind.i64.wrap ((↑(wA o7 0).length:Int)-1)).tdiv 2)<=(↑(wA o7 0).length:Int))then
 some [.view kPt (List.take (IntKind.i64.wrap (IntKind.i64.wrap ((IntKind.i64.wrap ((↑(wA o7 0).length:Int)-1)).tdiv 2)+1)).toNat (wA o7 0)), .view kPt (List.drop (IntKind.i64.wrap ((IntKind.i64.wrap ((↑(wA o7 0).length:Int)-1)).tdiv 2)).toNat (wA o7 0))]
 else
 none
 else
 none:=by kernel_rfl
def O0:=Qmw PL L7 FG
theorem Zm7:Ai PG (Qfs PL L7 FG):=Ao rfl ⟨Z0a,Zkb,Wm,trivial⟩
theorem Zaz:Al PG (194,Ac Qff Qjz O0):=rw1 (C:=(Qfs PL L7 FG)) Zm7
def Xe:Sk:=⟨[tf [ci]],[],[]⟩
def Qic:Sk:=⟨[TS.tup [(false,[ci]),(false,[ci]),(false,[ci]),(false,[CS.bool])]],[],[]⟩
def T1 (M:Fn):Nat×Spec:=(188,Ac Xe Qic M)
def Qf1:Cfg:=cf []
def Qog:Fn:=Am PG Qf1 64 188 Xe Qic
theorem Zou (x0:Int):Qog [I x0]=
 bif x0==17 then
 some [I 0,I 1,I 2,B true]
 else
 bif x0==18 then
 some [I 2,I 0,I 1,B true]
 else
 bif x0==19 then
 some [I 1,I 2,I 0,B true]
 else
 some [I 0,I 0,I 0,B false]:=by kernel_rfl
def Ft:=Qog
theorem Zys:Ai PG (Qf1):=Ao rfl trivial
theorem Qk4:Al PG (188,Ac Xe Qic Ft):=rw1 (C:=Qf1) Zys
def Qeg:Sk:=⟨[tf [ci],tf [ci],tf [ci],tf [ci]],[],[]⟩
def Qgo:Sk:=⟨[TS.v true [ci,ci,ci]],[],[]⟩
def Zu6 (M:Fn):Nat×Spec:=(207,Ac Qeg Qgo M)
def Y7 (Do:Fn):Cfg:=cf [T1 Do]
def Qhq (Do:Fn):Fn:=Am PG (Y7 Do) 64 207 Qeg Qgo
abbrev Qx (o1:List AC) (x2:Int) (h2_0 h2_1 h2_2:AC):Option (List AC):=
 bif decide (gA o1 2=(↑0:Int))then
 some [I x2,h2_0,h2_1]
 else
 bif decide (gA o1 2=(↑(0+1):Int))then
 some [h2_2,I x2,h2_1]
 else
 bif decide (gA o1 2=(↑(0+1+1):Int))then
 some [h2_2,h2_0,I x2]
 else
 none
attribute [go_sem] Qx
abbrev SJ (o1:List AC) (x2 x1:Int) (h1_0 h1_1 h1_2:AC):Option (List AC):=
 bif decide (gA o1 1=(↑0:Int))then
 Qx o1 x2 h1_0 h1_1 (I x1)
 else
 bif decide (gA o1 1=(↑(0+1):Int))then
 Qx o1 x2 (I x1) h1_1 h1_2
 else
 bif decide (gA o1 1=(↑(0+1+1):Int))then
 Qx o1 x2 h1_0 (I x1) h1_2
 else
 none
attribute [go_sem] SJ
theorem Zmk (Do:Fn) (x0 x1 x2 x3:Int):Qhq Do [I x0,I x1,I x2,I x3]=
 (Do [I x3]).bind fun o1=>
 bif bA o1 3 then
 bif decide (gA o1 0=(↑0:Int))then
 SJ o1 x2 x1 (I 0) (I 0) (I x0)
 else
 bif decide (gA o1 0=(↑(0+1):Int))then
 SJ o1 x2 x1 (I x0) (I 0) (I 0)
 else
 bif decide (gA o1 0=(↑(0+1+1):Int))then
 SJ o1 x2 x1 (I 0) (I x0) (I 0)
 else
 none
 else
 some [I 0,I 0,I 0]:=by kernel_rfl
def NT:=Qhq Ft
theorem Zsb:Ai PG (Y7 Ft):=Ao rfl ⟨Qk4,trivial⟩
theorem Zj3:Al PG (207,Ac Qeg Qgo NT):=rw1 (C:=(Y7 Ft)) Zsb
def Qfj:Sk:=⟨[TS.v true [ci,ci,ci],tf [ci]],[],[]⟩
def Qbq:Sk:=⟨[TS.tup [(false,[ci]),(false,[ci]),(false,[ci])]],[],[]⟩
def Qu3 (M:Fn):Nat×Spec:=(203,Ac Qfj Qbq M)
def Zn (Do:Fn):Cfg:=cf [T1 Do]
def XP (Do:Fn):Fn:=Am PG (Zn Do) 64 203 Qfj Qbq
abbrev RT (o1:List AC) (h1_0:AC) (x0 x1 x2:Int) (h2_0:AC):Option (List AC):=
 bif decide (gA o1 2=(↑0:Int))then
 some [h1_0,h2_0,I x0]
 else
 bif decide (gA o1 2=(↑(0+1):Int))then
 some [h1_0,h2_0,I x1]
 else
 bif decide (gA o1 2=(↑(0+1+1):Int))then
 some [h1_0,h2_0,I x2]
 else
 none
attribute [go_sem] RT
abbrev QH (o1:List AC) (x0 x1 x2:Int) (h1_0:AC):Option (List AC):=
 bif decide (gA o1 1=(↑0:Int))then
 RT o1 h1_0 x0 x1 x2 (I x0)
 else
 bif decide (gA o1 1=(↑(0+1):Int))then
 RT o1 h1_0 x0 x1 x2 (I x1)
 else
 bif decide (gA o1 1=(↑(0+1+1):Int))then
 RT o1 h1_0 x0 x1 x2 (I x2)
 else
 none
attribute [go_sem] QH
theorem Znp (Do:Fn) (x0 x1 x2 x3:Int):XP Do [I x0,I x1,I x2,I x3]=
 (Do [I x3]).bind fun o1=>
 bif !bA o1 3 then
 some [I 0,I 0,I 0]
 else
 bif decide (gA o1 0=(↑0:Int))then
 QH o1 x0 x1 x2 (I x0)
 else
 bif decide (gA o1 0=(↑(0+1):Int))then
 QH o1 x0 x1 x2 (I x1)
 else
 bif decide (gA o1 0=(↑(0+1+1):Int))then
 QH o1 x0 x1 x2 (I x2)
 else
 none:=by kernel_rfl
def Ht:=XP Ft
theorem Zwo:Ai PG (Zn Ft):=Ao rfl ⟨Qk4,trivial⟩
theorem Q2h:Al PG (203,Ac Qfj Qbq Ht):=rw1 (C:=(Zn Ft)) Zwo
def Qh3:Sk:=⟨[TS.v true [ci,ci,ci]],[],[]⟩
def Uu:Sk:=⟨[TS.v true [ci,ci,ci]],[],[]⟩
def Q4t (M:Fn):Nat×Spec:=(204,Ac Qh3 Uu M)
def WU:Cfg:=cf []
def Q3t:Fn:=Am PG WU 64 204 Qh3 Uu
theorem Zom (x0 x1 x2:Int):Q3t [I x0,I x1,I x2]=
 some [I (IntKind.i64.wrap (x0*16)),I (IntKind.i64.wrap (x1*16)),I (IntKind.i64.wrap (x2*16))]:=by kernel_rfl
def Ha:=Q3t
theorem Zrl:Ai PG (WU):=Ao rfl trivial
theorem Qwu:Al PG (204,Ac Qh3 Uu Ha):=rw1 (C:=WU) Zrl
def Qc9:Sk:=⟨[TS.v true [ci,ci,ci,ci],TS.v true [ci,ci,ci,ci]],[],[]⟩
def Qih:Sk:=⟨[tf [ci]],[],[]⟩
def YL (M:Fn):Nat×Spec:=(192,Ac Qc9 Qih M)
def Qdp:Cfg:=cf []
def Qzr:Fn:=Am PG Qdp 64 192 Qc9 Qih
theorem Zg1 (x0 x1 x2 x3 x4 x5 x6 x7:Int):Qzr [I x0,I x1,I x2,I x3,I x4,I x5,I x6,I x7]=
 some [I (IntKind.i64.wrap (IntKind.i64.wrap (x0*x5)-IntKind.i64.wrap (x1*x4)))]:=by kernel_rfl
def Ge:=Qzr
theorem Q8h:Ai PG (Qdp):=Ao rfl trivial
theorem Qm0:Al PG (192,Ac Qc9 Qih Ge):=rw1 (C:=Qdp) Q8h
def Qfi:Sk:=⟨[TS.v true [ci,ci,ci,ci],TS.v true [ci,ci,ci,ci]],[],[]⟩
def VV:Sk:=⟨[tf [ci]],[],[]⟩
def Qkr (M:Fn):Nat×Spec:=(190,Ac Qfi VV M)
def Qdm:Cfg:=cf []
def Q1s:Fn:=Am PG Qdm 64 190 Qfi VV
theorem Zi9 (x0 x1 x2 x3 x4 x5 x6 x7:Int):Q1s [I x0,I x1,I x2,I x3,I x4,I x5,I x6,I x7]=
 some [I (IntKind.i64.wrap (IntKind.i64.wrap (x0*x4)+IntKind.i64.wrap (x1*x5)))]:=by kernel_rfl
def GU:=Q1s
theorem Z0o:Ai PG (Qdm):=Ao rfl trivial
theorem Qby:Al PG (190,Ac Qfi VV GU):=rw1 (C:=Qdm) Z0o
def Qkg:Sk:=⟨[TS.v true [ci,ci,ci,ci],TS.v true [ci,ci,ci,ci],tf [ci],tf [CS.bool]],[],[]⟩
def X_:Sk:=⟨[TS.tup [(true,[ci,ci,ci,ci]),(false,[CS.bool])]],[],[]⟩
def Zeu (M:Fn):Nat×Spec:=(218,Ac Qkg X_ M)
def Qet (B7 Cm BT:Fn):Cfg:=cf [Qyk B7,YL Cm,Qkr BT]
def Qma (B7 Cm BT:Fn):Fn:=Am PG (Qet B7 Cm BT) 64 218 Qkg X_
abbrev Qbb (B7:Fn) (h1_2:AC) (x2 x6:Int) (h1_3 h1_4:AC) (x3 x7:Int):Option (List AC):=
 (B7 [h1_2,I ((IntKind.i64.wrap (IntKind.i64.wrap (x2+x6)+1)).fdiv (2^min (Int.toNat 1) IntKind.i64.bits)),h1_3,I 2]).bind fun o36=>
 (B7 [h1_4,I ((IntKind.i64.wrap (IntKind.i64.wrap (x2+x6)+1)).fdiv (2^min (Int.toNat 1) IntKind.i64.bits)),h1_3,I 2]).bind fun o37=>
 some [jA o36 0,jA o37 0,I ((IntKind.i64.wrap (IntKind.i64.wrap (x2+x6)+1)).fdiv (2^min (Int.toNat 1) IntKind.i64.bits)),I ((IntKind.i64.wrap (IntKind.i64.wrap (x3+x7)+1)).fdiv (2^min (Int.toNat 1) IntKind.i64.bits)),B true]
attribute [go_sem] Qbb
abbrev PA (B7:Fn) (x2 x6 x3 x7:Int) (h1_0 h1_1:Bool) (h1_2 h1_3 h1_4:AC):Option (List AC):=
 bif h1_0 then
 bif h1_1 then
 some [I 0,I 0,I 0,I 0,B false]
 else
 Qbb B7 h1_2 x2 x6 h1_3 h1_4 x3 x7
 else
 Qbb B7 h1_2 x2 x6 h1_3 h1_4 x3 x7
attribute [go_sem] PA
abbrev U2 (x9:Bool) (B7:Fn) (x2 x6 x3 x7 x0 x1:Int) (BT:Fn) (x4 x5 x8:Int) (Cm:Fn):Option (List AC):=
 bif x9 then
 PA B7 x2 x6 x3 x7 (IntKind.i64.wrap (0-x0)==0) (IntKind.i64.wrap (0-x1)==0) (I (IntKind.i64.wrap (0-x0))) (I (IntKind.i64.wrap (IntKind.i64.wrap (IntKind.i64.wrap (0-x0)*IntKind.i64.wrap (0-x0))+IntKind.i64.wrap (IntKind.i64.wrap (0-x1)*IntKind.i64.wrap (0-x1))))) (I (IntKind.i64.wrap (0-x1)))
 else
 (BT [I x0,I x1,I x2,I x3,I x4,I x5,I x6,I x7]).bind fun o40=>
 bif decide (gA o40 0<=0)then
 PA B7 x2 x6 x3 x7 (IntKind.i64.wrap (x8*IntKind.i64.wrap (x5-x1))==0) (IntKind.i64.wrap (x8*IntKind.i64.wrap (x0-x4))==0) (I (IntKind.i64.wrap (x8*IntKind.i64.wrap (x5-x1)))) (I (IntKind.i64.wrap (IntKind.i64.wrap (IntKind.i64.wrap (x8*IntKind.i64.wrap (x5-x1))*IntKind.i64.wrap (x8*IntKind.i64.wrap (x5-x1)))+IntKind.i64.wrap (IntKind.i64.wrap (x8*IntKind.i64.wrap (x0-x4))*IntKind.i64.wrap (x8*IntKind.i64.wrap (x0-x4)))))) (I (IntKind.i64.wrap (x8*IntKind.i64.wrap (x0-x4))))
 else
 (Cm [I x0,I x1,I x2,I x3,I x4,I x5,I x6,I x7]).bind fun o45=>
 bif decide (IntKind.i64.wrap (gA o45 0*x8)<=0)then
 PA B7 x2 x6 x3 x7 (IntKind.i64.wrap (0-IntKind.i64.wrap (x0+x4))==0) (IntKind.i64.wrap (0-IntKind.i64.wrap (x1+x5))==0) (I (IntKind.i64.wrap (0-IntKind.i64.wrap (x0+x4)))) (I (IntKind.i64.wrap (IntKind.i64.wrap (IntKind.i64.wrap (0-IntKind.i64.wrap (x0+x4))*IntKind.i64.wrap (0-IntKind.i64.wrap (x0+x4)))+IntKind.i64.wrap (IntKind.i64.wrap (0-IntKind.i64.wrap (x1+x5))*IntKind.i64.wrap (0-IntKind.i64.wrap (x1+x5)))))) (I (IntKind.i64.wrap (0-IntKind.i64.wrap (x1+x5))))
 else
 PA B7 x2 x6 x3 x7 (IntKind.i64.wrap (x0+x4)==0) (IntKind.i64.wrap (x1+x5)==0) (I (IntKind.i64.wrap (x0+x4))) (I (IntKind.i64.wrap (IntKind.i64.wrap (IntKind.i64.wrap (x0+x4)*IntKind.i64.wrap (x0+x4))+IntKind.i64.wrap (IntKind.i64.wrap (x1+x5)*IntKind.i64.wrap (x1+x5))))) (I (IntKind.i64.wrap (x1+x5)))
attribute [go_sem] U2
theorem Zc0 (B7 Cm BT:Fn) (x0 x1 x2 x3 x4 x5 x6 x7 x8:Int) (x9:Bool):Qma B7 Cm BT [I x0,I x1,I x2,I x3,I x4,I x5,I x6,I x7,I x8,B x9]=
 bif x8 !=1 then
 bif x8 != -1 then
 some [I 0,I 0,I 0,I 0,B false]
 else
 U2 x9 B7 x2 x6 x3 x7 x0 x1 BT x4 x5 x8 Cm
 else
 U2 x9 B7 x2 x6 x3 x7 x0 x1 BT x4 x5 x8 Cm:=by kernel_rfl
def Lb:=Qma HM Ge GU
theorem Zqk:Ai PG (Qet HM Ge GU):=Ao rfl ⟨Qo7,Qm0,Qby,trivial⟩
theorem Zl2:Al PG (218,Ac Qkg X_ Lb):=rw1 (C:=(Qet HM Ge GU)) Zqk
def Qcl:Sk:=⟨[tf [ci],tf [ci]],[],[]⟩
def Qix:Sk:=⟨[tf [CS.bool]],[],[]⟩
def Q60 (M:Fn):Nat×Spec:=(223,Ac Qcl Qix M)
def Qni:Cfg:=cf []
def Qqb:Fn:=Am PG Qni 64 223 Qcl Qix
theorem Zv8 (x0 x1:Int):Qqb [I x0,I x1]=
 some [B (decide (x1<=IntKind.i64.wrap (IntKind.i64.wrap (IntKind.i64.wrap (8*x0)*4)-64)))]:=by kernel_rfl
def LH:=Qqb
theorem Zni:Ai PG (Qni):=Ao rfl trivial
theorem Zks:Al PG (223,Ac Qcl Qix LH):=rw1 (C:=Qni) Zni
def Qd4:Sk:=⟨[tf [CS.ptr 20000 0],TS.v true [ci,ci,ci,ci],TS.v true [ci,ci,ci,ci],tf [CS.bool]],[(20000,254,[ci,CS.own 20000 4])],[(20000,231,[kI,kI,kI,kI])]⟩
def Qcg:Sk:=⟨[tf [CS.bool]],[(20000,254,[ci,CS.own 20000 4])],[(20000,231,[kI,kI,kI,kI])]⟩
def Zr2 (M:Fn):Nat×Spec:=(217,Ac Qd4 Qcg M)
def Qfh (Mp Cm:Fn):Cfg:=cf [Q60 Mp,YL Cm]
def U3 (Mp Cm:Fn):Fn:=Am PG (Qfh Mp Cm) 64 217 Qd4 Qcg
theorem Zid (Mp Cm:Fn) (x0:Rw) (x1 x2 x3 x4 x5 x6 x7 x8:Int) (x9:Bool) (x10:Int):U3 Mp Cm [.view [kI,kI,kI,kI] x0,I x1,I x2,I x3,I x4,I x5,I x6,I x7,I x8,B x9,I x10]=
 bif !x9 then
 (Cm [I x1,I x2,I x3,I x4,I x5,I x6,I x7,I x8]).bind fun o2=>
 bif decide (IntKind.i64.wrap (gA o2 0*x10)>0)then
 (Mp [I (mn x3 x7),I (IntKind.i64.wrap (IntKind.i64.wrap (IntKind.i64.wrap (x1-x5)*IntKind.i64.wrap (x1-x5))+IntKind.i64.wrap (IntKind.i64.wrap (x2-x6)*IntKind.i64.wrap (x2-x6))))]).bind fun o3=>
 some [.view [kI,kI,kI,kI] x0,B (bA o3 0),I x10]
 else
 some [.view [kI,kI,kI,kI] x0,B false,I x10]
 else
 some [.view [kI,kI,kI,kI] x0,B false,I x10]:=by kernel_rfl
def K5:=U3 LH Ge
theorem Ze3:Ai PG (Qfh LH Ge):=Ao rfl ⟨Zks,Qm0,trivial⟩
theorem Zrr:Al PG (217,Ac Qd4 Qcg K5):=rw1 (C:=(Qfh LH Ge)) Ze3
def Q48:Nat:=20
def KX:Sk:=⟨[tf [CS.ptr 20000 0],TS.v true [ci,ci,ci,ci],TS.v true [ci,ci,ci,ci],tf [CS.bool],tf [ci]],[(20000,254,[ci,CS.own 20000 4])],[(20000,231,[kI,kI,kI,kI])]⟩
def KF:Sk:=⟨[TS.tup []],[(20000,254,[ci,CS.own 20000 4])],[(20000,231,[kI,kI,kI,kI])]⟩
def Q3r (M:Fn):Nat×Spec:=(212,Ac KX KF M)
def Qhm (Fa Mq Mn:Fn):Cfg:=cp [Q3r Fa,Zeu Mq,Zr2 Mn] [212,217]
def QA (Fa Mq Mn:Fn):Fn:=Am PG (Qhm Fa Mq Mn) 64 212 KX KF
theorem Q0d (Fa Mq Mn:Fn) (x0:Rw) (x1 x2 x3 x4 x5 x6 x7 x8:Int) (x9:Bool) (x10 x11:Int):QA Fa Mq Mn [.view [kI,kI,kI,kI] x0,I x1,I x2,I x3,I x4,I x5,I x6,I x7,I x8,B x9,I x10,I x11]=
 bif decide (x10<16)then
 (Mn [.view [kI,kI,kI,kI] x0,I x1,I x2,I x3,I x4,I x5,I x6,I x7,I x8,B x9,I x11]).bind fun o4=>
 bif !bA o4 1 then
 (Mq [I x1,I x2,I x3,I x4,I x5,I x6,I x7,I x8,jA o4 2,B x9]).bind fun o5=>
 bif bA o5 4 then
 (Fa [.view [kI,kI,kI,kI] (wA o4 0),I x1,I x2,I x3,I x4,jA o5 0,jA o5 1,jA o5 2,jA o5 3,B false,I (IntKind.i64.wrap (x10+1)),jA o4 2]).bind fun o6=>
 (Fa [.view [kI,kI,kI,kI] (wA o6 0),jA o5 0,jA o5 1,jA o5 2,jA o5 3,I x5,I x6,I x7,I x8,B false,I (IntKind.i64.wrap (x10+1)),jA o6 1]).bind fun o7=>
 some [.view [kI,kI,kI,kI] (wA o7 0),jA o7 1]
 else
 bif((wA o4 0++[[I x5,I x6,I x7,I x8]]).length*32).ble 140737488355328 then
 some [.view [kI,kI,kI,kI] (wA o4 0++[[I x5,I x6,I x7,I x8]]),jA o4 2]
 else
 none
 else
 bif((wA o4 0++[[I x5,I x6,I x7,I x8]]).length*32).ble 140737488355328 then
 some [.view [kI,kI,kI,kI] (wA o4 0++[[I x5,I x6,I x7,I x8]]),jA o4 2]
 else
 none
 else
 bif((x0++[[I x5,I x6,I x7,I x8]]).length*32).ble 140737488355328 then
 some [.view [kI,kI,kI,kI] (x0++[[I x5,I x6,I x7,I x8]]),I x11]
 else
 none:=by kernel_rfl
def Q17 (M:Fn):Fn:=QA M Lb K5
def LT:Nat->Fn
 |0=>fun _=>none
 |n+1=>Q17 (LT n)
theorem Q94 {M:Fn} (h:Al PG (212,Ac KX KF M)):Ai PG (Qhm M Lb K5):=Ao rfl ⟨h,Zl2,Zrr,trivial⟩
theorem Zb5 {M:Fn} (h:Al PG (212,Ac KX KF M)):Al PG (212,Ac KX KF (Q17 M)):=Ui (C:=(Qhm M Lb K5)) (L:=64) (by kernel_rfl) (FnOK.bare rfl rfl rfl) (Q94 h) eqOk H6 (by kernel_rfl) (by kernel_rfl)
theorem Qxj:∀n,Al PG (212,Ac KX KF (LT n))
 |0=>Zrc
 |n+1=>Zb5 (Qxj n)
def Qe:=LT Q48
theorem Zjj:Al PG (212,Ac KX KF Qe):=Qxj Q48
def VK:Sk:=⟨[TS.v true [ci,ci,ci,ci,ci,ci,ci,ci,ci,ci,ci,ci,ci,CS.bool,ci,CS.bool,ci,ci,ci,ci,ci,CS.bool]],[],[]⟩
def Qiq:Sk:=⟨[TS.tup [(true,[ci,ci,ci,ci]),(true,[ci,ci,ci,ci])]],[],[]⟩
def Qpg (M:Fn):Nat×Spec:=(189,Ac VK Qiq M)
def Uq (BU BH:Fn):Cfg:=cf [Qu3 BU,Q4t BH]
def Qwo:Sk:=⟨[td,tf [CS.ptr 1 0],tf [CS.ptr 2 0],tf [CS.ptr 3 0],tf [CS.ptr 4 0],tf [ci],tf [ci],td,td,td,td,td,td,td,td,td,td,td,td,td,td,td,td,td,td,td,td,TS.v true [ci,ci,ci,ci,ci,ci],tf [ci]]++dd 27,[(1,74,[ci,ci,ci,ci,ci,ci,ci,ci,ci,ci,ci,ci,ci,CS.bool,ci,CS.bool,ci,ci,ci,ci,ci,CS.bool]),(2,231,[ci,ci,ci,ci]),(3,231,[ci,ci,ci,ci]),(4,242,[ci,ci,ci,ci,ci,ci,ci,ci])],[]⟩
def Qrd:List (Ex×Sk):=[(Ex.exit 0,⟨[td,td,tf [CS.ptr 2 0],tf [CS.ptr 3 0],tf [CS.ptr 4 0]]++dd 51,[(2,231,[ci,ci,ci,ci]),(3,231,[ci,ci,ci,ci]),(4,242,[ci,ci,ci,ci,ci,ci,ci,ci])],[]⟩)]
def UE (BU BH:Fn):Lp:=AP PG (Uq BU BH) 64 4 (AO PG 189 4) Qwo Qrd
def Q0j (BU BH:Fn) (N4:Lp):Cfg:=(Uq BU BH).loop 4 Qwo Qrd N4
def Qcp (BU BH:Fn) (N4:Lp):Fn:=Am PG (Q0j BU BH N4) 64 189 VK Qiq
abbrev Qca (BH BU:Fn) (v17 v8 v0 v1 v2 v3 v4 v5 v6 v7 v9 v10 v11 v12 v13 v14 v15 v16 v18 v19 v20 v21:Int) (v22:Bool) (v23:Int) (v24:Bool) (v25 v26 v27 v28 v29:Int) (v30:Bool) (v31 v32 v33 v34 v35 v36 v37 v38 v43 v44 v45 v46 v39 v40 v41 v42:Int) (h1_0 h1_1 h1_2:AC):Option (Nat×List AC):=
 (BH [h1_0,h1_1,h1_2]).bind fun o9=>
 (BU [jA o9 0,jA o9 1,jA o9 2,I v17]).bind fun o10=>
 bif decide (v8=(↑0:Int))then
 some (0,[I v0,I v1,I v2,I v3,I v4,I v5,I v6,I v7,I (IntKind.i64.wrap (v8+1)),I v9,I v10,I v11,I v12,I v13,I v14,I v15,I v16,I v17,I v18,I v19,I v20,I v21,B v22,I v23,B v24,I v25,I v26,I v27,I v28,I v29,B v30,I v31,I v32,I v33,I v34,I v35,I v36,I v37,I v38,I (IntKind.i64.wrap (gA o10 0-v0)),I (IntKind.i64.wrap (gA o10 1-v1)),I 0,jA o10 2,I v43,I v44,I v45,I v46])
 else
 bif decide (v8=(↑(0+1):Int))then
 some (0,[I v0,I v1,I v2,I v3,I v4,I v5,I v6,I v7,I (IntKind.i64.wrap (v8+1)),I v9,I v10,I v11,I v12,I v13,I v14,I v15,I v16,I v17,I v18,I v19,I v20,I v21,B v22,I v23,B v24,I v25,I v26,I v27,I v28,I v29,B v30,I v31,I v32,I v33,I v34,I v35,I v36,I v37,I v38,I v39,I v40,I v41,I v42,I (IntKind.i64.wrap (gA o10 0-v0)),I (IntKind.i64.wrap (gA o10 1-v1)),I 0,jA o10 2])
 else
 none
attribute [go_sem] Qca
theorem VA (BU BH:Fn) (v0 v1 v2 v3 v4 v5 v6 v7 v8 v9 v10 v11 v12 v13 v14 v15 v16 v17 v18 v19 v20 v21:Int) (v22:Bool) (v23:Int) (v24:Bool) (v25 v26 v27 v28 v29:Int) (v30:Bool) (v31 v32 v33 v34 v35 v36 v37 v38 v39 v40 v41 v42 v43 v44 v45 v46:Int):UE BU BH [I v0,I v1,I v2,I v3,I v4,I v5,I v6,I v7,I v8,I v9,I v10,I v11,I v12,I v13,I v14,I v15,I v16,I v17,I v18,I v19,I v20,I v21,B v22,I v23,B v24,I v25,I v26,I v27,I v28,I v29,B v30,I v31,I v32,I v33,I v34,I v35,I v36,I v37,I v38,I v39,I v40,I v41,I v42,I v43,I v44,I v45,I v46]=
 bif decide (v8<2)then
 bif decide (v8=(↑0:Int))then
 Qca BH BU v17 v8 v0 v1 v2 v3 v4 v5 v6 v7 v9 v10 v11 v12 v13 v14 v15 v16 v18 v19 v20 v21 v22 v23 v24 v25 v26 v27 v28 v29 v30 v31 v32 v33 v34 v35 v36 v37 v38 v43 v44 v45 v46 v39 v40 v41 v42 (I v2) (I v3) (I v4)
 else
 bif decide (v8=(↑(0+1):Int))then
 Qca BH BU v17 v8 v0 v1 v2 v3 v4 v5 v6 v7 v9 v10 v11 v12 v13 v14 v15 v16 v18 v19 v20 v21 v22 v23 v24 v25 v26 v27 v28 v29 v30 v31 v32 v33 v34 v35 v36 v37 v38 v43 v44 v45 v46 v39 v40 v41 v42 (I v5) (I v6) (I v7)
 else
 none
 else
 some (1,[I v31,I v32,I v33,I v34,I v35,I v36,I v37,I v38,I v39,I v40,I v41,I v42,I v43,I v44,I v45,I v46]):=by kernel_rfl
theorem Zaw (BU BH:Fn) (N4:Lp) (x0 x1 x2 x3 x4 x5 x6 x7 x8 x9 x10 x11 x12:Int) (x13:Bool) (x14:Int) (x15:Bool) (x16 x17 x18 x19 x20:Int) (x21:Bool):Qcp BU BH N4 [I x0,I x1,I x2,I x3,I x4,I x5,I x6,I x7,I x8,I x9,I x10,I x11,I x12,B x13,I x14,B x15,I x16,I x17,I x18,I x19,I x20,B x21]=
 (BH [I x9,I x10,I x11]).bind fun o13=>
 (BU [jA o13 0,jA o13 1,jA o13 2,I x8]).bind fun o14=>
 (N4 [jA o14 0,jA o14 1,I x2,I x3,I x4,I x5,I x6,I x7,I 0,I x0,I x1,I x2,I x3,I x4,I x5,I x6,I x7,I x8,I x9,I x10,I x11,I x12,B x13,I x14,B x15,I x16,I x17,I x18,I x19,I x20,B x21,I 0,I 0,I 0,I 0,I 0,I 0,I 0,I 0,I 0,I 0,I 0,I 0,I 0,I 0,I 0,I 0]).bind fun o15=>
 bif o15.1.beq 1 then
 some [jA o15.2 8,jA o15.2 9,jA o15.2 10,jA o15.2 11,jA o15.2 12,jA o15.2 13,jA o15.2 14,jA o15.2 15]
 else
 none:=by kernel_rfl
def Q6b:=An (UE Ht Ha)
def JP:=Qcp Ht Ha Q6b
theorem Quz:Ai PG (Uq Ht Ha):=Ao rfl ⟨Q2h,Qwu,trivial⟩
theorem Qww:Al PG (189,Ac VK Qiq JP):=rw2 (C:=(Q0j Ht Ha Q6b)) (fl fb Quz) Quz
def Qku:Sk:=⟨[tf [ci],tf [ci],tf [ci],tf [ci]],[],[]⟩
def Xw:Sk:=⟨[tf [ci]],[],[]⟩
def Zob (M:Fn):Nat×Spec:=(205,Ac Qku Xw M)
def Qbz (DA Bp B2 CV:Fn):Cfg:=cf [Qqx DA,RA Bp,Qbk B2,ZG CV]
def Uj (DA Bp B2 CV:Fn):Fn:=Am PG (Qbz DA Bp B2 CV) 64 205 Qku Xw
theorem Zfi (DA Bp B2 CV:Fn) (x0 x1 x2 x3:Int):Uj DA Bp B2 CV [I x0,I x1,I x2,I x3]=
 (CV [I x0,I x1]).bind fun o9=>
 (CV [I x2,I x3]).bind fun o10=>
 bif gA o9 0 !=gA o10 0 then
 bif decide (gA o9 0<gA o10 0)then
 some [I (-1)]
 else
 some [I 1]
 else
 (B2 [I x0]).bind fun o11=>
 (B2 [I x1]).bind fun o12=>
 (Bp [U (gA o11 0),U (gA o12 0)]).bind fun o13=>
 (B2 [I x2]).bind fun o14=>
 (B2 [I x3]).bind fun o15=>
 (Bp [U (gA o14 0),U (gA o15 0)]).bind fun o16=>
 (DA [U (gA o13 0),U (gA o13 1),U (gA o16 0),U (gA o16 1)]).bind fun o17=>
 some [I (IntKind.i64.wrap (gA o9 0*gA o17 0))]:=by kernel_rfl
def Nx:=Uj H2 DV FF Fi
theorem Znk:Ai PG (Qbz H2 DV FF Fi):=Ao rfl ⟨Q0n,RS,Qll,X2,trivial⟩
theorem Zq6:Al PG (205,Ac Qku Xw Nx):=rw1 (C:=(Qbz H2 DV FF Fi)) Znk
def Tx:Sk:=⟨[tf [ci],tf [ci]],[],[]⟩
def XH:Sk:=⟨[tf [CS.bool]],[],[]⟩
def Q6m (M:Fn):Nat×Spec:=(191,Ac Tx XH M)
def Qec (Nk:Fn):Cfg:=cf [Zob Nk]
def Qiz (Nk:Fn):Fn:=Am PG (Qec Nk) 64 191 Tx XH
theorem Zsv (Nk:Fn) (x0 x1:Int):Qiz Nk [I x0,I x1]=
 bif decide (IntKind.i64.wrap (IntKind.i64.wrap (mx x0 x1-mn x0 x1)-16)<=0)then
 some [B true]
 else
 (Nk [I (IntKind.i64.wrap (IntKind.i64.wrap (mx x0 x1-mn x0 x1)-16)),I (IntKind.i64.wrap (IntKind.i64.wrap (mx x0 x1-mn x0 x1)-16)),I 64,I (mn x0 x1)]).bind fun o1=>
 some [B (decide (gA o1 0<=0))]:=by kernel_rfl
def OE:=Qiz Nx
theorem Zq2:Ai PG (Qec Nx):=Ao rfl ⟨Zq6,trivial⟩
theorem Zlp:Al PG (191,Ac Tx XH OE):=rw1 (C:=(Qec Nx)) Zq2
def Qmu:Sk:=⟨[TS.v true [ci,ci,ci]],[],[]⟩
def Qao:Sk:=⟨[tf [CS.bool]],[],[]⟩
def Zt4 (M:Fn):Nat×Spec:=(187,Ac Qmu Qao M)
def Y9:Cfg:={cf []with unroll:=[2]}
def Q4f:Fn:=Am PG Y9 64 187 Qmu Qao
theorem Zky (x0 x1 x2:Int):Q4f [I x0,I x1,I x2]=
 bif decide (x0< -1048576)then
 some [B false]
 else
 bif decide (x0>1048576)then
 some [B false]
 else
 bif decide (x1< -1048576)then
 some [B false]
 else
 bif decide (x1>1048576)then
 some [B false]
 else
 bif decide (x2< -1048576)then
 some [B false]
 else
 bif decide (x2>1048576)then
 some [B false]
 else
 some [B true]:=by kernel_rfl
def Mf:=Q4f
theorem Zkc:Ai PG (Y9):=Ao rfl trivial
theorem Zo4:Al PG (187,Ac Qmu Qao Mf):=rw1 (C:=Y9) Zkc
def XW:Sk:=⟨[TS.v true [ci,ci,ci,ci,ci,ci,ci,ci,ci,ci,ci,ci,ci,CS.bool,ci,CS.bool,ci,ci,ci,ci,ci,CS.bool]],[],[]⟩
def Qjq:Sk:=⟨[tf [CS.bool]],[],[]⟩
def Qdi (M:Fn):Nat×Spec:=(167,Ac XW Qjq M)
def Qhw (Cm Iz BT EE Do G4:Fn):Cfg:=cf [YL Cm,Q6m Iz,Qkr BT,Qpg EE,T1 Do,Zt4 G4]
def Vn (Cm Iz BT EE Do G4:Fn):Fn:=Am PG (Qhw Cm Iz BT EE Do G4) 64 167 XW Qjq
abbrev T9 (G4:Fn) (x9 x10 x11:Int) (EE:Fn) (x0 x1 x2 x3 x4 x5 x6 x7 x8 x12:Int) (x13:Bool) (x14:Int) (x15:Bool) (x16 x17 x18 x19 x20:Int) (x21:Bool) (BT Iz Cm:Fn):Option (List AC):=
 (G4 [I x9,I x10,I x11]).bind fun o20=>
 bif !bA o20 0 then
 some [B false]
 else
 (EE [I x0,I x1,I x2,I x3,I x4,I x5,I x6,I x7,I x8,I x9,I x10,I x11,I x12,B x13,I x14,B x15,I x16,I x17,I x18,I x19,I x20,B x21]).bind fun o21=>
 (BT [jA o21 0,jA o21 1,jA o21 2,jA o21 3,jA o21 0,jA o21 1,jA o21 2,jA o21 3]).bind fun o22=>
 (BT [jA o21 4,jA o21 5,jA o21 6,jA o21 7,jA o21 4,jA o21 5,jA o21 6,jA o21 7]).bind fun o23=>
 bif decide (gA o22 0<IntKind.i64.wrap (128*128))then
 some [B false]
 else
 bif decide (gA o23 0<IntKind.i64.wrap (128*128))then
 some [B false]
 else
 (Iz [I (IntKind.i64.wrap ((gA o22 0).tdiv 256)),I (IntKind.i64.wrap ((gA o23 0).tdiv 256))]).bind fun o24=>
 bif !bA o24 0 then
 some [B false]
 else
 bif x13 then
 bif gA o21 0==gA o21 4 then
 some [B (gA o21 1==gA o21 5)]
 else
 some [B false]
 else
 (Cm [jA o21 0,jA o21 1,jA o21 2,jA o21 3,jA o21 4,jA o21 5,jA o21 6,jA o21 7]).bind fun o25=>
 bif gA o25 0 !=0 then
 some [B true]
 else
 (BT [jA o21 0,jA o21 1,jA o21 2,jA o21 3,jA o21 4,jA o21 5,jA o21 6,jA o21 7]).bind fun o26=>
 some [B (decide (gA o26 0<0))]
attribute [go_sem] T9
theorem Zwj (Cm Iz BT EE Do G4:Fn) (x0 x1 x2 x3 x4 x5 x6 x7 x8 x9 x10 x11 x12:Int) (x13:Bool) (x14:Int) (x15:Bool) (x16 x17 x18 x19 x20:Int) (x21:Bool):Vn Cm Iz BT EE Do G4 [I x0,I x1,I x2,I x3,I x4,I x5,I x6,I x7,I x8,I x9,I x10,I x11,I x12,B x13,I x14,B x15,I x16,I x17,I x18,I x19,I x20,B x21]=
 bif decide (x0<1)then
 some [B false]
 else
 bif decide (x0>6)then
 some [B false]
 else
 (G4 [I x2,I x3,I x4]).bind fun o17=>
 bif !bA o17 0 then
 some [B false]
 else
 (G4 [I x5,I x6,I x7]).bind fun o18=>
 bif !bA o18 0 then
 some [B false]
 else
 bif x0 !=3 then
 some [B true]
 else
 (Do [I x8]).bind fun o19=>
 bif !bA o19 3 then
 some [B false]
 else
 bif x12 !=1 then
 bif x12 != -1 then
 some [B false]
 else
 T9 G4 x9 x10 x11 EE x0 x1 x2 x3 x4 x5 x6 x7 x8 x12 x13 x14 x15 x16 x17 x18 x19 x20 x21 BT Iz Cm
 else
 T9 G4 x9 x10 x11 EE x0 x1 x2 x3 x4 x5 x6 x7 x8 x12 x13 x14 x15 x16 x17 x18 x19 x20 x21 BT Iz Cm:=by kernel_rfl
def GG:=Vn Ge OE GU JP Ft Mf
theorem Zub:Ai PG (Qhw Ge OE GU JP Ft Mf):=Ao rfl ⟨Qm0,Zlp,Qby,Qww,Qk4,Zo4,trivial⟩
theorem Qg7:Al PG (167,Ac XW Qjq GG):=rw1 (C:=(Qhw Ge OE GU JP Ft Mf)) Zub
def Qju:Sk:=⟨[TS.v true [ci,ci,ci,ci,ci,ci,ci,ci,ci,ci,ci,ci,ci,CS.bool,ci,CS.bool,ci,ci,ci,ci,ci,CS.bool]],[],[]⟩
def Zp:Sk:=⟨[TS.tup [(false,[CS.sl [kI,kI,kI,kI]]),(false,[CS.bool])]],[],[]⟩
def Zkd (M:Fn):Nat×Spec:=(206,Ac Qju Zp M)
def Vg (Fa E5 BT EE Ci:Fn):Cfg:={cp [Q3r Fa,Qto E5,Qkr BT,Qpg EE,Qdi Ci] [212]with rowDst:=[39]}
def Qdc (Fa E5 BT EE Ci:Fn):Fn:=Am PG (Vg Fa E5 BT EE Ci) 64 206 Qju Zp
theorem Zxb (Fa E5 BT EE Ci:Fn) (x0 x1 x2 x3 x4 x5 x6 x7 x8 x9 x10 x11 x12:Int) (x13:Bool) (x14:Int) (x15:Bool) (x16 x17 x18 x19 x20:Int) (x21:Bool):Qdc Fa E5 BT EE Ci [I x0,I x1,I x2,I x3,I x4,I x5,I x6,I x7,I x8,I x9,I x10,I x11,I x12,B x13,I x14,B x15,I x16,I x17,I x18,I x19,I x20,B x21]=
 bif x0 !=3 then
 some [.view [kI,kI,kI,kI] [],B false]
 else
 (Ci [I x0,I x1,I x2,I x3,I x4,I x5,I x6,I x7,I x8,I x9,I x10,I x11,I x12,B x13,I x14,B x15,I x16,I x17,I x18,I x19,I x20,B x21]).bind fun o7=>
 bif !bA o7 0 then
 some [.view [kI,kI,kI,kI] [],B false]
 else
 (EE [I x0,I x1,I x2,I x3,I x4,I x5,I x6,I x7,I x8,I x9,I x10,I x11,I x12,B x13,I x14,B x15,I x16,I x17,I x18,I x19,I x20,B x21]).bind fun o8=>
 (BT [jA o8 0,jA o8 1,jA o8 2,jA o8 3,jA o8 0,jA o8 1,jA o8 2,jA o8 3]).bind fun o9=>
 (E5 [jA o9 0,I 2]).bind fun o10=>
 (BT [jA o8 4,jA o8 5,jA o8 6,jA o8 7,jA o8 4,jA o8 5,jA o8 6,jA o8 7]).bind fun o11=>
 (E5 [jA o11 0,I 2]).bind fun o12=>
 (Fa [.view [kI,kI,kI,kI] [[jA o8 0,jA o8 1,jA o10 0,jA o8 3]],jA o8 0,jA o8 1,jA o10 0,jA o8 3,jA o8 4,jA o8 5,jA o12 0,jA o8 7,B x13,I 0,I x12]).bind fun o13=>
 some [.view [kI,kI,kI,kI] (wA o13 0),B true]:=by kernel_rfl
def My:=Qdc Qe Ij GU JP GG
theorem Zsw:Ai PG (Vg Qe Ij GU JP GG):=Ao rfl ⟨Zjj,Qzg,Qby,Qww,Qg7,trivial⟩
theorem Zq7:Al PG (206,Ac Qju Zp My):=rw1 (C:=(Vg Qe Ij GU JP GG)) Zsw
def YB:Sk:=⟨[TS.v true [ci,ci,ci,ci,ci,ci,ci,ci,ci,ci,ci,ci,ci,CS.bool,ci,CS.bool,ci,ci,ci,ci,ci,CS.bool]],[],[]⟩
def Vu:Sk:=⟨[TS.tup [(false,[CS.sl kPt]),(false,[CS.bool])]],[],[]⟩
def Zwb (M:Fn):Nat×Spec:=(193,Ac YB Vu M)
def Qbx (Gq BU BH GT Ci:Fn):Cfg:=cf [Zu6 Gq,Qu3 BU,Q4t BH,Zkd GT,Qdi Ci]
def Q5f:Sk:=⟨[td,tf [CS.ptr 1 0],td,td,td,td,tf [ci],tf [ci],td,tf [CS.own 41 3],td,td,td,td,td,td,td,td,td,td,td,td,td,td,td,td,td,td,td,td,td,td,td,td,td,td,td,td,td,td,td,td,tf [CS.sl [kI,kI,kI,kI]],tf [ci],tf [ci]]++dd 22,[(1,74,[ci,ci,ci,ci,ci,ci,ci,ci,ci,ci,ci,ci,ci,CS.bool,ci,CS.bool,ci,ci,ci,ci,ci,CS.bool])],[(41,54,kPt)]⟩
def Q2n:List (Ex×Sk):=[(Ex.exit 0,⟨[td,td,td,td,td,td,td,td,td,tf [CS.own 41 3]]++dd 57,[],[(41,54,kPt)]⟩)]
def Nf (Gq BU BH GT Ci:Fn):Lp:=AP PG (Qbx Gq BU BH GT Ci) 64 9 (AO PG 193 9) Q5f Q2n
def Q16 (Gq BU BH GT Ci:Fn) (N9:Lp):Cfg:=(Qbx Gq BU BH GT Ci).loop 9 Q5f Q2n N9
def Sg (Gq BU BH GT Ci:Fn) (N9:Lp):Fn:=Am PG (Q16 Gq BU BH GT Ci N9) 64 193 YB Vu
theorem Qxr (Gq BU BH GT Ci:Fn) (v0:Rw) (v1 v2:Int) (v3:Rw) (v4 v5 v6 v7 v8 v9 v10 v11 v12 v13 v14 v15 v16 v17 v18:Int) (v19:Bool) (v20:Int) (v21:Bool) (v22 v23 v24 v25 v26:Int) (v27:Bool):Nf Gq BU BH GT Ci [.view kPt v0,I v1,I v2, .view [kI,kI,kI,kI] v3,I v4,I v5,I v6,I v7,I v8,I v9,I v10,I v11,I v12,I v13,I v14,I v15,I v16,I v17,I v18,B v19,I v20,B v21,I v22,I v23,I v24,I v25,I v26,B v27]=
 bif decide (v5<v4)then
 bif decide (0<=v5)&&decide (v5<(v3.length:Int))then
 (Gq [I (IntKind.i64.wrap (v1+gA (nth [] v3 v5.toNat) 0)),I (IntKind.i64.wrap (v2+gA (nth [] v3 v5.toNat) 1)),jA (nth [] v3 v5.toNat) 3,I v14]).bind fun o14=>
 bif decide (0<=v5)&&decide (v5<(v0.length:Int))then
 some (0,[.view kPt (v0.set v5.toNat [jA o14 0,jA o14 1,jA o14 2]),I v1,I v2, .view [kI,kI,kI,kI] v3,I v4,I (IntKind.i64.wrap (v5+1)),I v6,I v7,I v8,I v9,I v10,I v11,I v12,I v13,I v14,I v15,I v16,I v17,I v18,B v19,I v20,B v21,I v22,I v23,I v24,I v25,I v26,B v27])
 else
 none
 else
 none
 else
 some (1,[.view kPt v0]):=by kernel_rfl
theorem W0 (Gq BU BH GT Ci:Fn) (N9:Lp) (x0 x1 x2 x3 x4 x5 x6 x7 x8 x9 x10 x11 x12:Int) (x13:Bool) (x14:Int) (x15:Bool) (x16 x17 x18 x19 x20:Int) (x21:Bool):Sg Gq BU BH GT Ci N9 [I x0,I x1,I x2,I x3,I x4,I x5,I x6,I x7,I x8,I x9,I x10,I x11,I x12,B x13,I x14,B x15,I x16,I x17,I x18,I x19,I x20,B x21]=
 (Ci [I x0,I x1,I x2,I x3,I x4,I x5,I x6,I x7,I x8,I x9,I x10,I x11,I x12,B x13,I x14,B x15,I x16,I x17,I x18,I x19,I x20,B x21]).bind fun o15=>
 bif !bA o15 0 then
 some [.view kPt [],B false]
 else
 (GT [I x0,I x1,I x2,I x3,I x4,I x5,I x6,I x7,I x8,I x9,I x10,I x11,I x12,B x13,I x14,B x15,I x16,I x17,I x18,I x19,I x20,B x21]).bind fun o16=>
 bif !bA o16 1 then
 (BH [I x2,I x3,I x4]).bind fun o17=>
 (BH [I x5,I x6,I x7]).bind fun o18=>
 some [.view kPt [[jA o17 0,jA o17 1,jA o17 2],[jA o18 0,jA o18 1,jA o18 2]],B true]
 else
 (BH [I x9,I x10,I x11]).bind fun o19=>
 (BU [jA o19 0,jA o19 1,jA o19 2,I x8]).bind fun o20=>
 bif decide ((↑(wA o16 0).length:Int)=(↑(wA o16 0).length:Int))then
 bif decide (0<=(↑(wA o16 0).length:Int))&&decide ((↑(wA o16 0).length:Int)*(↑24:Int)<=140737488355328)then
 (N9 [.view kPt (List.replicate (↑(wA o16 0).length:Int).toNat [I 0,I 0,I 0]),jA o20 0,jA o20 1, .view [kI,kI,kI,kI] (wA o16 0),I (↑(wA o16 0).length:Int),I 0,I x0,I x1,I x2,I x3,I x4,I x5,I x6,I x7,I x8,I x9,I x10,I x11,I x12,B x13,I x14,B x15,I x16,I x17,I x18,I x19,I x20,B x21]).bind fun o21=>
 bif o21.1.beq 1 then
 some [.view kPt (wA o21.2 0),B true]
 else
 none
 else
 none
 else
 none:=by kernel_rfl
def Q25:=An (Nf NT Ht Ha My GG)
def Ov:=Sg NT Ht Ha My GG Q25
theorem Q5t:Ai PG (Qbx NT Ht Ha My GG):=Ao rfl ⟨Zj3,Q2h,Qwu,Zq7,Qg7,trivial⟩
theorem Zek:Al PG (193,Ac YB Vu Ov):=rw2 (C:=(Q16 NT Ht Ha My GG Q25)) (fl fb Q5t) Q5t
def Qdf:Sk:=⟨[tf [CS.sl Ak],tf [ci],tf [ci]],[],[]⟩
def Xk:Sk:=⟨[tf [CS.sl kPt]],[],[]⟩
def Zje (M:Fn):Nat×Spec:=(170,Ac Qdf Xk M)
def Qeq (BP Bg BM Js Bc Mx:Fn):Cfg:=cf [ZL BP,Qi7 Bg,Qtl BM,Q70 Js,Qt Bc,Zwb Mx]
def Qf4 (BP Bg BM Js Bc Mx:Fn):Fn:=Am PG (Qeq BP Bg BM Js Bc Mx) 64 170 Qdf Xk
theorem Zvl (BP Bg BM Js Bc Mx:Fn) (x0:Rw) (x1 x2:Int):Qf4 BP Bg BM Js Bc Mx [.view Ak x0,I x1,I x2]=
 bif decide (0<=x1)&&decide (x1<(x0.length:Int))then
 (Mx (AK Ak (nth [] x0 x1.toNat))).bind fun o13=>
 (Bc (AK Ak (nth [] x0 x1.toNat))).bind fun o14=>
 bif !bA o14 0 then
 some [.view kPt (wA o13 0)]
 else
 bif decide (0<=1)&&decide (1<=(↑(wA o13 0).length:Int))then
 bif decide (0<=IntKind.i64.wrap ((↑(wA o13 0).length:Int)-1))&&decide (IntKind.i64.wrap ((↑(wA o13 0).length:Int)-1)<=(↑(wA o13 0).length:Int))then
 bif decide (x2>=0)then
 bif decide (0<=x2)&&decide (x2<(x0.length:Int))then
 (Js (AK Ak (nth [] x0 x2.toNat)++AK Ak (nth [] x0 x1.toNat))).bind fun o15=>
 (BM [.view Ak x0,I x1]).bind fun o16=>
 bif bA o16 0 then
 (Bg [.view Ak x0,I x1]).bind fun o17=>
 bif decide (0<=gA o17 0)&&decide (gA o17 0<(x0.length:Int))then
 (Js (AK Ak (nth [] x0 x1.toNat)++AK Ak (nth [] x0 (gA o17 0).toNat))).bind fun o18=>
 bif(([]++wA o15 1).length*24).ble 140737488355328 then
 (BP (AK Ak (nth [] x0 x1.toNat))).bind fun o19=>
 bif(([]++wA o15 1++[[jA o19 0,jA o19 1,jA o19 2]]).length*24).ble 140737488355328 then
 bif(([]++wA o15 1++[[jA o19 0,jA o19 1,jA o19 2]]++wA o18 0).length*24).ble 140737488355328 then
 some [.view kPt ([]++wA o15 1++[[jA o19 0,jA o19 1,jA o19 2]]++wA o18 0)]
 else
 none
 else
 none
 else
 none
 else
 none
 else
 bif(([]++wA o15 1).length*24).ble 140737488355328 then
 (BP (AK Ak (nth [] x0 x1.toNat))).bind fun o20=>
 bif(([]++wA o15 1++[[jA o20 0,jA o20 1,jA o20 2]]).length*24).ble 140737488355328 then
 bif(([]++wA o15 1++[[jA o20 0,jA o20 1,jA o20 2]]++List.drop (IntKind.i64.wrap ((↑(wA o13 0).length:Int)-1)).toNat (wA o13 0)).length*24).ble 140737488355328 then
 some [.view kPt ([]++wA o15 1++[[jA o20 0,jA o20 1,jA o20 2]]++List.drop (IntKind.i64.wrap ((↑(wA o13 0).length:Int)-1)).toNat (wA o13 0))]
 else
 none
 else
 none
 else
 none
 else
 none
 else
 (BM [.view Ak x0,I x1]).bind fun o21=>
 bif bA o21 0 then
 (Bg [.view Ak x0,I x1]).bind fun o22=>
 bif decide (0<=gA o22 0)&&decide (gA o22 0<(x0.length:Int))then
 (Js (AK Ak (nth [] x0 x1.toNat)++AK Ak (nth [] x0 (gA o22 0).toNat))).bind fun o23=>
 bif(([]++List.take (Int.toNat 1) (wA o13 0)).length*24).ble 140737488355328 then
 (BP (AK Ak (nth [] x0 x1.toNat))).bind fun o24=>
 bif(([]++List.take (Int.toNat 1) (wA o13 0)++[[jA o24 0,jA o24 1,jA o24 2]]).length*24).ble 140737488355328 then
 bif(([]++List.take (Int.toNat 1) (wA o13 0)++[[jA o24 0,jA o24 1,jA o24 2]]++wA o23 0).length*24).ble 140737488355328 then
 some [.view kPt ([]++List.take (Int.toNat 1) (wA o13 0)++[[jA o24 0,jA o24 1,jA o24 2]]++wA o23 0)]
 else
 none
 else
 none
 else
 none
 else
 none
 else
 bif(([]++List.take (Int.toNat 1) (wA o13 0)).length*24).ble 140737488355328 then
 (BP (AK Ak (nth [] x0 x1.toNat))).bind fun o25=>
 bif(([]++List.take (Int.toNat 1) (wA o13 0)++[[jA o25 0,jA o25 1,jA o25 2]]).length*24).ble 140737488355328 then
 bif(([]++List.take (Int.toNat 1) (wA o13 0)++[[jA o25 0,jA o25 1,jA o25 2]]++List.drop (IntKind.i64.wrap ((↑(wA o13 0).length:Int)-1)).toNat (wA o13 0)).length*24).ble 140737488355328 then
 some [.view kPt ([]++List.take (Int.toNat 1) (wA o13 0)++[[jA o25 0,jA o25 1,jA o25 2]]++List.drop (IntKind.i64.wrap ((↑(wA o13 0).length:Int)-1)).toNat (wA o13 0))]
 else
 none
 else
 none
 else
 none
 else
 none
 else
 none
 else
 none:=by kernel_rfl
def LG:=Qf4 FG ER Gk O0 Ej Ov
theorem Ze6:Ai PG (Qeq FG ER Gk O0 Ej Ov):=Ao rfl ⟨Wm,YT,Q4a,Zaz,SC,Zek,trivial⟩
theorem Zc1:Al PG (170,Ac Qdf Xk LG):=rw1 (C:=(Qeq FG ER Gk O0 Ej Ov)) Ze6
def UA:Sk:=⟨[TS.v true [ci,ci,ci,ci,ci,ci,ci,ci,ci,ci,ci,ci,ci,CS.bool,ci,CS.bool,ci,ci,ci,ci,ci,CS.bool],tf [ci]],[],[]⟩
def WL:Sk:=⟨[tf [ci]],[],[]⟩
def Zve (M:Fn):Nat×Spec:=(168,Ac UA WL M)
def Yl (AE:Fn):Cfg:=cf [Kc AE]
def Ql4 (AE:Fn):Fn:=Am PG (Yl AE) 64 168 UA WL
theorem Qn8 (AE:Fn) (x0 x1 x2 x3 x4 x5 x6 x7 x8 x9 x10 x11 x12:Int) (x13:Bool) (x14:Int) (x15:Bool) (x16 x17 x18 x19 x20:Int) (x21:Bool) (x22:Int):Ql4 AE [I x0,I x1,I x2,I x3,I x4,I x5,I x6,I x7,I x8,I x9,I x10,I x11,I x12,B x13,I x14,B x15,I x16,I x17,I x18,I x19,I x20,B x21,I x22]=
 bif x0==1 then
 some [I 0]
 else
 bif x15 then
 (AE [I (mn (IntKind.i64.wrap (x14*mx x22 1)) 60000000),I 4096,I 60000,I 2]).bind fun o2=>
 some [I (mx (gA o2 0) 1)]
 else
 (AE [I (mn x14 60000000),I 4096,I 60000,I 2]).bind fun o3=>
 some [I (mx (gA o3 0) 1)]:=by kernel_rfl
def JJ:=Ql4 Be
theorem Zw6:Ai PG (Yl Be):=Ao rfl ⟨K3,trivial⟩
theorem Z03:Al PG (168,Ac UA WL JJ):=rw1 (C:=(Yl Be)) Zw6
def Qke:Sk:=⟨[tf [CS.ptr 20000 0],tf [CS.sl Ak],tf [ci],tf [ci]],[(20000,142,[ci,ci,ci,CS.own 20000 7,CS.own 20001 3,CS.bool,ci,ci,ci])],[(20000,162,Ah),(20001,76,kPt)]⟩
def Qlk:Sk:=⟨[tf [CS.bool]],[(20000,142,[ci,ci,ci,CS.own 20000 7,CS.own 20001 3,CS.bool,ci,ci,ci])],[(20000,162,Ah),(20001,76,kPt)]⟩
def Z00 (M:Fn):Nat×Spec:=(126,Ac Qke Qlk M)
def W_ (BP Bc FV EW Cb Gs:Fn):Cfg:=cp [ZL BP,Qt Bc,Zxl FV,Zje EW,Q0m Cb,Zve Gs] [171]
def Q2p:Sk:=⟨[tf [CS.ptr 20000 0],td,td,td,td,td,td,td,td,tf [CS.ptr 9 0],tf [CS.ptr 10 0],td,td,td,td,td,td,td,td,td,td,td,td,td,td,td,td,td,td,td,td,td,td,td,td,tf [CS.sl kPt],tf [ci],tf [ci]]++dd 30,[(9,74,[ci,ci,ci,ci,ci,ci,ci,ci,ci,ci,ci,ci,ci,CS.bool,ci,CS.bool,ci,ci,ci,ci,ci,CS.bool]),(10,162,[ci,ci,ci,ci,ci,ci,ci]),(20000,142,[ci,ci,ci,CS.own 20000 7,CS.own 20001 3,CS.bool,ci,ci,ci])],[(20000,162,Ah),(20001,76,kPt)]⟩
def Qsv:List (Ex×Sk):=[(Ex.exit 0,⟨[tf [CS.ptr 20000 0]]++dd 67,[(20000,142,[ci,ci,ci,CS.own 20000 7,CS.own 20001 3,CS.bool,ci,ci,ci])],[(20000,162,Ah),(20001,76,kPt)]⟩)]
def KE (BP Bc FV EW Cb Gs:Fn):Lp:=AP PG (W_ BP Bc FV EW Cb Gs) 64 6 (AO PG 126 6) Q2p Qsv
def Qwm (BP Bc FV EW Cb Gs:Fn) (N6:Lp):Cfg:=(W_ BP Bc FV EW Cb Gs).loop 6 Q2p Qsv N6
def Qb3 (BP Bc FV EW Cb Gs:Fn) (N6:Lp):Fn:=Am PG (Qwm BP Bc FV EW Cb Gs N6) 64 126 Qke Qlk
theorem Qzn (BP Bc FV EW Cb Gs:Fn) (v0 v1 v2:Rw) (v3 v4 v5 v6 v7 v8 v9 v10 v11 v12 v13 v14 v15 v16 v17:Int) (v18:Bool) (v19:Int) (v20:Bool) (v21 v22 v23 v24 v25:Int) (v26:Bool) (v27 v28 v29 v30 v31 v32 v33 v34 v35 v36:Int) (v37:Bool) (v38 v39 v40:Int):KE BP Bc FV EW Cb Gs [.view Ah v0, .view kPt v1, .view kPt v2,I v3,I v4,I v5,I v6,I v7,I v8,I v9,I v10,I v11,I v12,I v13,I v14,I v15,I v16,I v17,B v18,I v19,B v20,I v21,I v22,I v23,I v24,I v25,B v26,I v27,I v28,I v29,I v30,I v31,I v32,I v33,I v34,I v35,I v36,B v37,I v38,I v39,I v40]=
 bif decide (v4<v3)then
 bif decide (0<=v4)&&decide (v4<(v2.length:Int))then
 (FV [.view Ah v0, .view kPt v1,jA (nth [] v2 v4.toNat) 0,jA (nth [] v2 v4.toNat) 1,jA (nth [] v2 v4.toNat) 2,I v27,I v28,I v29,I v30,I v31,I v32,I v33,I v34,I v35,I v36,B v37,I v38,I v39,I v40]).bind fun o12=>
 (Bc [I v5,I v6,I v7,I v8,I v9,I v10,I v11,I v12,I v13,I v14,I v15,I v16,I v17,B v18,I v19,B v20,I v21,I v22,I v23,I v24,I v25,B v26]).bind fun o13=>
 bif bA o13 0 then
 (BP [I v5,I v6,I v7,I v8,I v9,I v10,I v11,I v12,I v13,I v14,I v15,I v16,I v17,B v18,I v19,B v20,I v21,I v22,I v23,I v24,I v25,B v26]).bind fun o14=>
 bif gA (nth [] v2 v4.toNat) 0==gA o14 0&&(gA (nth [] v2 v4.toNat) 1==gA o14 1&&(gA (nth [] v2 v4.toNat) 2==gA o14 2&&true))then
 some (0,[.view Ah (wA o12 0), .view kPt (wA o12 1), .view kPt v2,I v3,I (IntKind.i64.wrap (v4+1)),I v5,I v6,I v7,I v8,I v9,I v10,I v11,I v12,I v13,I v14,I v15,I v16,I v17,B v18,I v19,B v20,I v21,I v22,I v23,I v24,I v25,B v26,I v27,I v28,I v29,I v30,I v31,I v32,I v33,jA o12 2,jA o12 3,jA o12 4,B (bA o12 5),jA o12 6,jA o12 7,jA o12 6])
 else
 some (0,[.view Ah (wA o12 0), .view kPt (wA o12 1), .view kPt v2,I v3,I (IntKind.i64.wrap (v4+1)),I v5,I v6,I v7,I v8,I v9,I v10,I v11,I v12,I v13,I v14,I v15,I v16,I v17,B v18,I v19,B v20,I v21,I v22,I v23,I v24,I v25,B v26,I v27,I v28,I v29,I v30,I v31,I v32,I v33,jA o12 2,jA o12 3,jA o12 4,B (bA o12 5),jA o12 6,jA o12 7,jA o12 8])
 else
 some (0,[.view Ah (wA o12 0), .view kPt (wA o12 1), .view kPt v2,I v3,I (IntKind.i64.wrap (v4+1)),I v5,I v6,I v7,I v8,I v9,I v10,I v11,I v12,I v13,I v14,I v15,I v16,I v17,B v18,I v19,B v20,I v21,I v22,I v23,I v24,I v25,B v26,I v27,I v28,I v29,I v30,I v31,I v32,I v33,jA o12 2,jA o12 3,jA o12 4,B (bA o12 5),jA o12 6,jA o12 7,jA o12 8])
 else
 none
 else
 some (1,[.view Ah v0, .view kPt v1,I v34,I v35,I v36,B v37,I v38,I v39,I v40]):=by kernel_rfl
abbrev Qjs (EW:Fn) (x2:Rw) (x3 x4:Int) (N6:Lp) (x0 x1:Rw) (o15:List AC) (x5 x6 x7:Int) (x8:Bool) (x9 x10 x11:Int) (h1_0:AC):Option (List AC):=
 (EW [.view Ak x2,I x3,I x4]).bind fun o17=>
 (N6 (.view Ah x0:: .view kPt x1:: .view kPt (wA o17 0)::I (↑(wA o17 0).length:Int)::I 0::(AK Ak (nth [] x2 x3.toNat)++[I 0,I 0,I 0,I 0,I x3,jA o15 0,h1_0,I x5,I x6,I x7,B x8,I x9,I x10,I x11]))).bind fun o18=>
 bif o18.1.beq 1 then
 some [.view Ah (wA o18.2 0), .view kPt (wA o18.2 1),B (decide ((↑(wA o18.2 0).length:Int)<=1048576)),jA o18.2 2,jA o18.2 3,jA o18.2 4,B (bA o18.2 5),jA o18.2 6,jA o18.2 7,jA o18.2 8]
 else
 none
attribute [go_sem] Qjs
theorem Ztr (BP Bc FV EW Cb Gs:Fn) (N6:Lp) (x0 x1 x2:Rw) (x3 x4 x5 x6 x7:Int) (x8:Bool) (x9 x10 x11:Int):Qb3 BP Bc FV EW Cb Gs N6 [.view Ah x0, .view kPt x1, .view Ak x2,I x3,I x4,I x5,I x6,I x7,B x8,I x9,I x10,I x11]=
 bif decide (0<=x3)&&decide (x3<(x2.length:Int))then
 (Gs (AK Ak (nth [] x2 x3.toNat)++[I x10])).bind fun o15=>
 (Cb (AK Ak (nth [] x2 x3.toNat))).bind fun o16=>
 bif bA o16 0 then
 Qjs EW x2 x3 x4 N6 x0 x1 o15 x5 x6 x7 x8 x9 x10 x11 (I (mn (IntKind.i64.wrap (gA (nth [] x2 x3.toNat) 14*16)) 16777216))
 else
 Qjs EW x2 x3 x4 N6 x0 x1 o15 x5 x6 x7 x8 x9 x10 x11 (I 0)
 else
 none:=by kernel_rfl
def Q14:=An (KE FG Ej Ml LG Hg JJ)
def Jx:=Qb3 FG Ej Ml LG Hg JJ Q14
theorem Qxd:Ai PG (W_ FG Ej Ml LG Hg JJ):=Ao rfl ⟨Wm,SC,Zh7,Zc1,Qsg,Z03,trivial⟩
theorem Zp6:Al PG (126,Ac Qke Qlk Jx):=rw2 (C:=(Qwm FG Ej Ml LG Hg JJ Q14)) (fl fb Qxd) Qxd
def Y2:Sk:=⟨[TS.v true [ci,ci,ci,ci,ci,ci,ci,ci,ci,ci,ci,ci,ci,CS.bool,ci,CS.bool,ci,ci,ci,ci,ci,CS.bool]],[],[]⟩
def Qhp:Sk:=⟨[tf [ci]],[],[]⟩
def Zlj (M:Fn):Nat×Spec:=(122,Ac Y2 Qhp M)
def Qa7 (Ci AG:Fn):Cfg:=cf [Qdi Ci,QF AG]
def Ql3 (Ci AG:Fn):Fn:=Am PG (Qa7 Ci AG) 64 122 Y2 Qhp
abbrev Ll (x0 x19 x20:Int):Option (List AC):=
 bif x0==8 then
 bif decide (x19<3)then
 some [I 1]
 else
 bif decide (x19>5)then
 some [I 1]
 else
 bif decide (x20<0)then
 some [I 1]
 else
 bif decide (x20>30000)then
 some [I 1]
 else
 some [I 0]
 else
 some [I 0]
attribute [go_sem] Ll
theorem Zxi (Ci AG:Fn) (x0 x1 x2 x3 x4 x5 x6 x7 x8 x9 x10 x11 x12:Int) (x13:Bool) (x14:Int) (x15:Bool) (x16 x17 x18 x19 x20:Int) (x21:Bool):Ql3 Ci AG [I x0,I x1,I x2,I x3,I x4,I x5,I x6,I x7,I x8,I x9,I x10,I x11,I x12,B x13,I x14,B x15,I x16,I x17,I x18,I x19,I x20,B x21]=
 bif decide (x0<1)then
 some [I 1]
 else
 bif decide (x0>14)then
 some [I 1]
 else
 (AG [I x0]).bind fun o4=>
 bif bA o4 0 then
 (Ci [I x0,I x1,I x2,I x3,I x4,I x5,I x6,I x7,I x8,I x9,I x10,I x11,I x12,B x13,I x14,B x15,I x16,I x17,I x18,I x19,I x20,B x21]).bind fun o5=>
 bif !bA o5 0 then
 some [I 1]
 else
 bif decide (x18<0)then
 some [I 1]
 else
 bif decide (x18>1000)then
 some [I 1]
 else
 (AG [I x0]).bind fun o6=>
 bif bA o6 0 then
 bif x0 !=1 then
 bif decide (x14<1)then
 some [I 1]
 else
 bif decide (x14>60000000)then
 some [I 1]
 else
 Ll x0 x19 x20
 else
 Ll x0 x19 x20
 else
 Ll x0 x19 x20
 else
 (AG [I x0]).bind fun o7=>
 bif bA o7 0 then
 bif x0 !=1 then
 bif decide (x14<1)then
 some [I 1]
 else
 bif decide (x14>60000000)then
 some [I 1]
 else
 Ll x0 x19 x20
 else
 Ll x0 x19 x20
 else
 Ll x0 x19 x20:=by kernel_rfl
def I2:=Ql3 GG Di
theorem Zgm:Ai PG (Qa7 GG Di):=Ao rfl ⟨Qg7,Qw,trivial⟩
theorem Zns:Al PG (122,Ac Y2 Qhp I2):=rw1 (C:=(Qa7 GG Di)) Zgm
def Qkp:Sk:=⟨[tf [CS.sl Ak]],[],[]⟩
def Wz:Sk:=⟨[TS.tup [(false,[CS.ptr 13 0]),(false,[ci])]],[(13,142,[ci,ci,ci,CS.own 1013003 7,CS.own 1013004 3,CS.bool,ci,ci,ci])],[(1013003,162,Ah),(1013004,76,kPt)]⟩
def Qvn (M:Fn):Nat×Spec:=(80,Ac Qkp Wz M)
def Qhe (BY B3 Bg BM AG D6:Fn):Cfg:=cp [Zvt BY,Z00 B3,Qi7 Bg,Qtl BM,QF AG,Zlj D6] [127,126]
def Qv2:Sk:=⟨[tf [CS.sl Ak],td,td,td,tf [CS.ptr 13 0],tf [ci],td,td,td,td,td,td,td,td,td,td,td,td,tf [CS.sl Ak],tf [ci],tf [ci]]++dd 87,[(13,142,[ci,ci,ci,CS.own 1013003 7,CS.own 1013004 3,CS.bool,ci,ci,ci])],[(1013003,162,Ah),(1013004,76,kPt)]⟩
def Qnz:List (Ex×Sk):=[(Ex.ret,⟨[td,td,tf [CS.ptr 13 0],tf [ci]]++dd 104,[(13,142,[ci,ci,ci,CS.own 1013003 7,CS.own 1013004 3,CS.bool,ci,ci,ci])],[(1013003,162,Ah),(1013004,76,kPt)]⟩),(Ex.exit 0,⟨[tf [CS.sl Ak],td,td,td,tf [CS.ptr 13 0]]++dd 103,[(13,142,[ci,ci,ci,CS.own 1013003 7,CS.own 1013004 3,CS.bool,ci,ci,ci])],[(1013003,162,Ah),(1013004,76,kPt)]⟩)]
def O_ (BY B3 Bg BM AG D6:Fn):Lp:=AP PG (Qhe BY B3 Bg BM AG D6) 64 6 (AO PG 80 6) Qv2 Qnz
def Qpt (BY B3 Bg BM AG D6:Fn) (N6:Lp):Cfg:=(Qhe BY B3 Bg BM AG D6).loop 6 Qv2 Qnz N6
def Qoa:Sk:=⟨[tf [CS.sl Ak],td,td,td,tf [CS.ptr 13 0],tf [ci],td,td,td,td,td,td,td,td,td,td,td,td,td,td,td,td,td,td,td,td,td,td,td,td,td,td,td,td,td,td,td,td,td,td,td,td,td,td,td,td,td,td,td,td,tf [CS.sl Ak],tf [ci],tf [ci]]++dd 55,[(13,142,[ci,ci,ci,CS.own 1013003 7,CS.own 1013004 3,CS.bool,ci,ci,ci])],[(1013003,162,Ah),(1013004,76,kPt)]⟩
def Q4j:List (Ex×Sk):=[(Ex.ret,⟨[td,td,tf [CS.ptr 13 0],tf [ci]]++dd 104,[(13,142,[ci,ci,ci,CS.own 1013003 7,CS.own 1013004 3,CS.bool,ci,ci,ci])],[(1013003,162,Ah),(1013004,76,kPt)]⟩),(Ex.exit 2,⟨[td,td,td,td,tf [CS.ptr 13 0]]++dd 103,[(13,142,[ci,ci,ci,CS.own 1013003 7,CS.own 1013004 3,CS.bool,ci,ci,ci])],[(1013003,162,Ah),(1013004,76,kPt)]⟩)]
def Ot (BY B3 Bg BM AG D6:Fn) (N6:Lp):Lp:=AP PG (Qpt BY B3 Bg BM AG D6 N6) 64 18 (AO PG 80 18) Qoa Q4j
def Q5g (BY B3 Bg BM AG D6:Fn) (N6 N18:Lp):Cfg:=(Qpt BY B3 Bg BM AG D6 N6).loop 18 Qoa Q4j N18
def X8 (BY B3 Bg BM AG D6:Fn) (N6 N18:Lp):Fn:=Am PG (Q5g BY B3 Bg BM AG D6 N6 N18) 64 80 Qkp Wz
theorem Qs9 (BY B3 Bg BM AG D6:Fn) (v0 v1 v2:Rw) (v3:Int) (v4:Rw) (v5 v6 v7 v8 v9:Int) (v10:Bool) (v11 v12 v13:Int):O_ BY B3 Bg BM AG D6 [.view Ah v0, .view kPt v1, .view Ak v2,I v3, .view Ak v4,I v5,I v6,I v7,I v8,I v9,B v10,I v11,I v12,I v13]=
 bif decide (v6<v5)then
 bif decide (0<=v6)&&decide (v6<(v4.length:Int))then
 (D6 (AK Ak (nth [] v4 v6.toNat))).bind fun o53=>
 bif gA o53 0 !=0 then
 some (1,[.view Ah v0, .view kPt v1,jA o53 0,I v7,I v8,I v9,B v10,I v11,I v12,I v13])
 else
 (AG [jA (nth [] v4 v6.toNat) 0]).bind fun o54=>
 bif !bA o54 0 then
 some (0,[.view Ah v0, .view kPt v1, .view Ak v2,I v3, .view Ak v4,I v5,I (IntKind.i64.wrap (v6+1)),I v7,I v8,I v9,B v10,I v11,I v12,I v13])
 else
 bif decide (v3>=0)then
 bif decide (0<=v3)&&decide (v3<(v2.length:Int))then
 bif !(gA (nth [] v2 v3.toNat) 5==gA (nth [] v4 v6.toNat) 2&&(gA (nth [] v2 v3.toNat) 6==gA (nth [] v4 v6.toNat) 3&&(gA (nth [] v2 v3.toNat) 7==gA (nth [] v4 v6.toNat) 4&&true)))then
 some (1,[.view Ah v0, .view kPt v1,I 13,I v7,I v8,I v9,B v10,I v11,I v12,I v13])
 else
 some (0,[.view Ah v0, .view kPt v1, .view Ak v2,I v6, .view Ak v4,I v5,I (IntKind.i64.wrap (v6+1)),I v7,I v8,I v9,B v10,I v11,I v12,I v13])
 else
 none
 else
 some (0,[.view Ah v0, .view kPt v1, .view Ak v2,I v6, .view Ak v4,I v5,I (IntKind.i64.wrap (v6+1)),I v7,I v8,I v9,B v10,I v11,I v12,I v13])
 else
 none
 else
 some (2,[.view Ah v0, .view kPt v1, .view Ak v2,I v7,I v8,I v9,B v10,I v11,I v12,I v13]):=by kernel_rfl
abbrev Pg (B3:Fn) (v0 v1 v2:Rw) (v6 v7 v8 v9:Int) (v10:Bool) (v11:Int) (h1_0:AC) (v13:Int) (BY:Fn) (v4:Rw) (v5:Int) (h2_0:AC):Option (Nat×List AC):=
 (B3 [.view Ah v0, .view kPt v1, .view Ak v2,I v6,h2_0,I v7,I v8,I v9,B v10,I v11,h1_0,I v13]).bind fun o57=>
 bif !bA o57 2 then
 some (1,[.view Ah (wA o57 0), .view kPt (wA o57 1),I 10,jA o57 3,jA o57 4,jA o57 5,B (bA o57 6),jA o57 7,jA o57 8,jA o57 9])
 else
 (BY [.view Ah (wA o57 0), .view kPt (wA o57 1), .view Ak v2,I v6,jA o57 3,jA o57 4,jA o57 5,B (bA o57 6),jA o57 7,jA o57 8,jA o57 9]).bind fun o58=>
 some (0,[.view Ah (wA o58 0), .view kPt (wA o58 1), .view Ak v2,I v6, .view Ak v4,I v5,I (IntKind.i64.wrap (v6+1)),jA o58 2,jA o58 3,jA o58 4,B (bA o58 5),jA o58 6,jA o58 7,jA o58 8])
attribute [go_sem] Pg
abbrev PY (AG:Fn) (v4:Rw) (v6 v3:Int) (BM:Fn) (v2:Rw) (B3:Fn) (v0 v1:Rw) (v7 v8 v9:Int) (v10:Bool) (v11 v13:Int) (BY:Fn) (v5:Int) (Bg:Fn) (h1_0:AC):Option (Nat×List AC):=
 (AG [jA (nth [] v4 v6.toNat) 0]).bind fun o55=>
 bif bA o55 0 then
 bif decide (v3>=0)then
 (BM [.view Ak v2,I v3]).bind fun o56=>
 bif !bA o56 0 then
 Pg B3 v0 v1 v2 v6 v7 v8 v9 v10 v11 h1_0 v13 BY v4 v5 (I (-1))
 else
 (Bg [.view Ak v2,I v3]).bind fun o59=>
 bif gA o59 0 !=v6 then
 Pg B3 v0 v1 v2 v6 v7 v8 v9 v10 v11 h1_0 v13 BY v4 v5 (I (-1))
 else
 Pg B3 v0 v1 v2 v6 v7 v8 v9 v10 v11 h1_0 v13 BY v4 v5 (I v3)
 else
 Pg B3 v0 v1 v2 v6 v7 v8 v9 v10 v11 h1_0 v13 BY v4 v5 (I v3)
 else
 (BY [.view Ah v0, .view kPt v1, .view Ak v2,I v6,I v7,I v8,I v9,B v10,I v11,h1_0,I v13]).bind fun o66=>
 some (0,[.view Ah (wA o66 0), .view kPt (wA o66 1), .view Ak v2,I v3, .view Ak v4,I v5,I (IntKind.i64.wrap (v6+1)),jA o66 2,jA o66 3,jA o66 4,B (bA o66 5),jA o66 6,jA o66 7,jA o66 8])
attribute [go_sem] PY
theorem Q3k (BY B3 Bg BM AG D6:Fn) (N6:Lp) (v0 v1 v2:Rw) (v3:Int) (v4:Rw) (v5 v6 v7 v8 v9:Int) (v10:Bool) (v11 v12 v13:Int):Ot BY B3 Bg BM AG D6 N6 [.view Ah v0, .view kPt v1, .view Ak v2,I v3, .view Ak v4,I v5,I v6,I v7,I v8,I v9,B v10,I v11,I v12,I v13]=
 bif decide (v6<v5)then
 bif decide (0<=v6)&&decide (v6<(v4.length:Int))then
 bif gA (nth [] v4 v6.toNat) 0==8 then
 bif gA (nth [] v4 v6.toNat) 19==3 then
 PY AG v4 v6 v3 BM v2 B3 v0 v1 v7 v8 v9 v10 v11 v13 BY v5 Bg (jA (nth [] v4 v6.toNat) 20)
 else
 bif gA (nth [] v4 v6.toNat) 19==4 then
 PY AG v4 v6 v3 BM v2 B3 v0 v1 v7 v8 v9 v10 v11 v13 BY v5 Bg (jA (nth [] v4 v6.toNat) 20)
 else
 PY AG v4 v6 v3 BM v2 B3 v0 v1 v7 v8 v9 v10 v11 v13 BY v5 Bg (I v12)
 else
 PY AG v4 v6 v3 BM v2 B3 v0 v1 v7 v8 v9 v10 v11 v13 BY v5 Bg (I v12)
 else
 none
 else
 some (2,[.view Ah v0, .view kPt v1,I v7,I v8,I v9,B v10,I v11,I v12,I v13]):=by kernel_rfl
theorem Q7r (BY B3 Bg BM AG D6:Fn) (N6 N18:Lp) (x0:Rw):X8 BY B3 Bg BM AG D6 N6 N18 [.view Ak x0]=
 bif decide ((x0.length:Int)>20000)then
 some [.view Ah [], .view kPt [],I 10,I 0,I 0,I 0,B false,I 0,I 0,I 0]
 else
 (N6 [.view Ah [], .view kPt [], .view Ak x0,I (-1), .view Ak x0,I (x0.length:Int),I 0,I 0,I 0,I 0,B false,I 0,I 0,I 0]).bind fun o103=>
 bif o103.1.beq 1 then
 some [.view Ah (wA o103.2 0), .view kPt (wA o103.2 1),jA o103.2 2,jA o103.2 3,jA o103.2 4,jA o103.2 5,B (bA o103.2 6),jA o103.2 7,jA o103.2 8,jA o103.2 9]
 else
 bif o103.1.beq 2 then
 (N18 [.view Ah (wA o103.2 0), .view kPt (wA o103.2 1), .view Ak (wA o103.2 2),I (-1), .view Ak (wA o103.2 2),I (↑(wA o103.2 2).length:Int),I 0,jA o103.2 3,jA o103.2 4,jA o103.2 5,B (bA o103.2 6),jA o103.2 7,jA o103.2 8,jA o103.2 9]).bind fun o104=>
 bif o104.1.beq 1 then
 some [.view Ah (wA o104.2 0), .view kPt (wA o104.2 1),jA o104.2 2,jA o104.2 3,jA o104.2 4,jA o104.2 5,B (bA o104.2 6),jA o104.2 7,jA o104.2 8,jA o104.2 9]
 else
 bif o104.1.beq 2 then
 some [.view Ah (wA o104.2 0), .view kPt (wA o104.2 1),I 0,jA o104.2 2,jA o104.2 3,jA o104.2 4,B (bA o104.2 5),jA o104.2 6,jA o104.2 7,jA o104.2 8]
 else
 none
 else
 none:=by kernel_rfl
def Pr:=An (O_ IJ Jx ER Gk Di I2)
def Qxv:=An (Ot IJ Jx ER Gk Di I2 Pr)
def IN:=X8 IJ Jx ER Gk Di I2 Pr Qxv
theorem Yc:Ai PG (Qhe IJ Jx ER Gk Di I2):=Ao rfl ⟨Zkj,Zp6,YT,Q4a,Qw,Zns,trivial⟩
theorem Qxk:Al PG (80,Ac Qkp Wz IN):=rw2 (C:=(Q5g IJ Jx ER Gk Di I2 Pr Qxv)) (fl (fl fb Yc) Yc) Yc
def Yi:Sk:=⟨[tf [CS.sl Ak]],[],[]⟩
def Qiv:Sk:=⟨[tf [ci]],[],[]⟩
def Zh3 (M:Fn):Nat×Spec:=(37,Ac Yi Qiv M)
def Qat (Bc DK:Fn):Cfg:=cp [Qt Bc,Qvn DK] [80]
def Qn7:Sk:=⟨[tf [CS.sl Ak],td,td,tf [CS.ptr 100800 0],td,tf [ci]]++dd 47,[(100800,142,[ci,ci,ci,CS.own 100800 7,CS.own 100801 3,CS.bool,ci,ci,ci])],[(100800,162,Ah),(100801,76,kPt)]⟩
def Qzf:List (Ex×Sk):=[(Ex.ret,⟨[td,td,tf [ci]]++dd 50,[],[]⟩),(Ex.exit 0,⟨[td,td,td,tf [CS.ptr 100800 0]]++dd 49,[(100800,142,[ci,ci,ci,CS.own 100800 7,CS.own 100801 3,CS.bool,ci,ci,ci])],[(100800,162,Ah),(100801,76,kPt)]⟩)]
def L1 (Bc DK:Fn):Lp:=AP PG (Qat Bc DK) 64 5 (AO PG 37 5) Qn7 Qzf
def Qp7 (Bc DK:Fn) (N5:Lp):Cfg:=(Qat Bc DK).loop 5 Qn7 Qzf N5
def Vv (Bc DK:Fn) (N5:Lp):Fn:=Am PG (Qp7 Bc DK N5) 64 37 Yi Qiv
theorem Qrs (Bc DK:Fn) (v0 v1 v2:Rw) (v3 v4 v5 v6:Int) (v7:Bool) (v8 v9 v10:Int):L1 Bc DK [.view Ah v0, .view kPt v1, .view Ak v2,I v3,I v4,I v5,I v6,B v7,I v8,I v9,I v10]=
 bif decide (v3>=0)then
 bif decide (0<=v3)&&decide (v3<(v2.length:Int))then
 bif gA (nth [] v2 v3.toNat) 0==10 then
 some (0,[.view Ah v0, .view kPt v1, .view Ak v2,I (IntKind.i64.wrap (v3-1)),I v4,I v5,I v6,B v7,I v8,I v9,I v10])
 else
 bif decide (0<=v3)&&decide (v3<(v2.length:Int))then
 (Bc (AK Ak (nth [] v2 v3.toNat))).bind fun o4=>
 bif bA o4 0 then
 bif decide (0<=v3)&&decide (v3<(v2.length:Int))then
 bif gA (nth [] v2 v3.toNat) 18 !=0 then
 some (1,[I v10])
 else
 some (1,[I v8])
 else
 none
 else
 some (1,[I v8])
 else
 none
 else
 none
 else
 some (2,[.view Ah v0, .view kPt v1,I v4,I v5,I v6,B v7,I v8,I v9,I v10]):=by kernel_rfl
theorem Qow (Bc DK:Fn) (N5:Lp) (x0:Rw):Vv Bc DK N5 [.view Ak x0]=
 (DK [.view Ak x0]).bind fun o5=>
 bif gA o5 2 !=0 then
 some [I 0]
 else
 (N5 [.view Ah (wA o5 0), .view kPt (wA o5 1), .view Ak x0,I (IntKind.i64.wrap ((x0.length:Int)-1)),jA o5 3,jA o5 4,jA o5 5,B (bA o5 6),jA o5 7,jA o5 8,jA o5 9]).bind fun o6=>
 bif o6.1.beq 1 then
 some [jA o6.2 0]
 else
 bif o6.1.beq 2 then
 some [jA o6.2 6]
 else
 none:=by kernel_rfl
def Qoo:=An (L1 Ej IN)
def Mz:=Vv Ej IN Qoo
theorem Qo8:Ai PG (Qat Ej IN):=Ao rfl ⟨SC,Qxk,trivial⟩
theorem Zqj:Al PG (37,Ac Yi Qiv Mz):=rw2 (C:=(Qp7 Ej IN Qoo)) (fl fb Qo8) Qo8
def Qle:Sk:=⟨[tf [ci],tf [ci],tf [ci]],[],[]⟩
def ZM:Sk:=⟨[tf [CS.bool]],[],[]⟩
def YG (M:Fn):Nat×Spec:=(140,Ac Qle ZM M)
def Qc5:Cfg:=cf []
def X1:Fn:=Am PG Qc5 64 140 Qle ZM
theorem Q8x (x0 x1 x2:Int):X1 [I x0,I x1,I x2]=
 bif decide (x1<=x0)then
 some [B (decide (x0<=x2))]
 else
 some [B false]:=by kernel_rfl
def Gh:=X1
theorem Zl4:Ai PG (Qc5):=Ao rfl trivial
theorem Qm6:Al PG (140,Ac Qle ZM Gh):=rw1 (C:=Qc5) Zl4
def YM:Sk:=⟨[TS.v true [ci,ci,ci,ci,ci,ci,ci,ci,ci,CS.sl Aa],tf [ci]],[],[]⟩
def TM:Sk:=⟨[tf [CS.bool]],[],[]⟩
def Zfg (M:Fn):Nat×Spec:=(142,Ac YM TM M)
def Qdq (By:Fn):Cfg:=cf [YG By]
def Qc7 (By:Fn):Fn:=Am PG (Qdq By) 64 142 YM TM
theorem Zcz (By:Fn) (x0 x1 x2 x3 x4 x5 x6 x7 x8:Int) (x9:Rw) (x10:Int):Qc7 By [I x0,I x1,I x2,I x3,I x4,I x5,I x6,I x7,I x8, .view Aa x9,I x10]=
 (By [I x10,I x4,I x5]).bind fun o1=>
 some [B (bA o1 0)]:=by kernel_rfl
def Hq:=Qc7 Gh
theorem Zcx:Ai PG (Qdq Gh):=Ao rfl ⟨Qm6,trivial⟩
theorem Q9i:Al PG (142,Ac YM TM Hq):=rw1 (C:=(Qdq Gh)) Zcx
def Ya:Sk:=⟨[TS.v true [ci,ci,ci,ci,ci,ci,ci,ci,ci,CS.sl Aa,ci,ci,ci,ci,ci,ci,ci,ci,ci,CS.sl Aa,ci,ci,ci,ci,ci,ci,ci,ci,ci,CS.sl Aa],TS.v true [ci,ci,ci,CS.sl Ah,CS.sl kPt]],[],[]⟩
def Qdy:Sk:=⟨[tf [CS.bool]],[],[]⟩
def Q8z (M:Fn):Nat×Spec:=(90,Ac Ya Qdy M)
def Qeo (Ds:Fn):Cfg:={cf [Zfg Ds]with rowDst:=[13],unroll:=[11]}
def Q1n:Sk:=⟨[td,td,tf [CS.ptr 2 0],td,td,tf [CS.own 13 3],td,td,td,td,td,td,td,td,td,tf [CS.sl Ah],tf [ci],tf [ci]]++dd 28,[(2,27,[ci,ci,ci,ci,ci,ci,ci,ci,ci,CS.sl Aa,ci,ci,ci,ci,ci,ci,ci,ci,ci,CS.sl Aa,ci,ci,ci,ci,ci,ci,ci,ci,ci,CS.sl Aa])],[(13,54,kPt)]⟩
def Qv6:List (Ex×Sk):=[(Ex.exit 0,⟨[td,td,tf [CS.ptr 2 0],td,td,tf [CS.own 13 3]]++dd 40,[(2,27,[ci,ci,ci,ci,ci,ci,ci,ci,ci,CS.sl Aa,ci,ci,ci,ci,ci,ci,ci,ci,ci,CS.sl Aa,ci,ci,ci,ci,ci,ci,ci,ci,ci,CS.sl Aa])],[(13,54,kPt)]⟩)]
def PF (Ds:Fn):Lp:=AP PG (Qeo Ds) 64 3 (AO PG 90 3) Q1n Qv6
def Qwb (Ds:Fn) (N3:Lp):Cfg:=(Qeo Ds).loop 3 Q1n Qv6 N3
def Qyh:Sk:=⟨[td,td,tf [CS.ptr 2 0],td,td,td,td,td,td,td,td,td,td,td,td,td,td,td,td,td,td,td,td,td,td,td,td,tf [CS.own 13 3],tf [ci],tf [ci]]++dd 16,[(2,27,[ci,ci,ci,ci,ci,ci,ci,ci,ci,CS.sl Aa,ci,ci,ci,ci,ci,ci,ci,ci,ci,CS.sl Aa,ci,ci,ci,ci,ci,ci,ci,ci,ci,CS.sl Aa])],[(13,54,kPt)]⟩
def Qqw:List (Ex×Sk):=[(Ex.ret,⟨[td,td,td,td,tf [CS.bool]]++dd 41,[],[]⟩),(Ex.exit 2,⟨[td]++dd 45,[],[]⟩)]
def Si (Ds:Fn) (N3:Lp):Lp:=AP PG (Qwb Ds N3) 64 8 (AO PG 90 8) Qyh Qqw
def Q1r (Ds:Fn) (N3 N8:Lp):Cfg:=(Qwb Ds N3).loop 8 Qyh Qqw N8
def Z9 (Ds:Fn) (N3 N8:Lp):Fn:=Am PG (Q1r Ds N3 N8) 64 90 Ya Qdy
theorem Zal (Ds:Fn) (v0 v1:Rw) (v2 v3 v4 v5 v6 v7 v8 v9 v10 v11 v12:Int) (v13:Rw) (v14 v15 v16 v17 v18 v19 v20 v21 v22:Int) (v23:Rw) (v24 v25 v26 v27 v28 v29 v30 v31 v32:Int) (v33:Rw):PF Ds [.view kPt v0, .view Ah v1,I v2,I v3,I v4,I v5,I v6,I v7,I v8,I v9,I v10,I v11,I v12, .view Aa v13,I v14,I v15,I v16,I v17,I v18,I v19,I v20,I v21,I v22, .view Aa v23,I v24,I v25,I v26,I v27,I v28,I v29,I v30,I v31,I v32, .view Aa v33]=
 bif decide (v3<v2)then
 bif decide (0<=v3)&&decide (v3<(v1.length:Int))then
 bif((v0++[[jA (nth [] v1 v3.toNat) 0,jA (nth [] v1 v3.toNat) 1,jA (nth [] v1 v3.toNat) 2]]).length*24).ble 140737488355328 then
 some (0,[.view kPt (v0++[[jA (nth [] v1 v3.toNat) 0,jA (nth [] v1 v3.toNat) 1,jA (nth [] v1 v3.toNat) 2]]), .view Ah v1,I v2,I (IntKind.i64.wrap (v3+1)),I v4,I v5,I v6,I v7,I v8,I v9,I v10,I v11,I v12, .view Aa v13,I v14,I v15,I v16,I v17,I v18,I v19,I v20,I v21,I v22, .view Aa v23,I v24,I v25,I v26,I v27,I v28,I v29,I v30,I v31,I v32, .view Aa v33])
 else
 none
 else
 none
 else
 some (1,[.view kPt v0,I v4,I v5,I v6,I v7,I v8,I v9,I v10,I v11,I v12, .view Aa v13,I v14,I v15,I v16,I v17,I v18,I v19,I v20,I v21,I v22, .view Aa v23,I v24,I v25,I v26,I v27,I v28,I v29,I v30,I v31,I v32, .view Aa v33]):=by kernel_rfl
theorem Zlc (Ds:Fn) (N3:Lp) (v0:Rw) (v1 v2 v3 v4 v5 v6 v7 v8 v9 v10 v11:Int) (v12:Rw) (v13 v14 v15 v16 v17 v18 v19 v20 v21:Int) (v22:Rw) (v23 v24 v25 v26 v27 v28 v29 v30 v31:Int) (v32:Rw):Si Ds N3 [.view kPt v0,I v1,I v2,I v3,I v4,I v5,I v6,I v7,I v8,I v9,I v10,I v11, .view Aa v12,I v13,I v14,I v15,I v16,I v17,I v18,I v19,I v20,I v21, .view Aa v22,I v23,I v24,I v25,I v26,I v27,I v28,I v29,I v30,I v31, .view Aa v32]=
 bif decide (v2<v1)then
 bif decide (0<=v2)&&decide (v2<(v0.length:Int))then
 (Ds [I v3,I v4,I v5,I v6,I v7,I v8,I v9,I v10,I v11, .view Aa v12,jA (nth [] v0 v2.toNat) 0]).bind fun o6=>
 bif !bA o6 0 then
 some (1,[B false])
 else
 (Ds [I v13,I v14,I v15,I v16,I v17,I v18,I v19,I v20,I v21, .view Aa v22,jA (nth [] v0 v2.toNat) 1]).bind fun o7=>
 bif !bA o7 0 then
 some (1,[B false])
 else
 (Ds [I v23,I v24,I v25,I v26,I v27,I v28,I v29,I v30,I v31, .view Aa v32,jA (nth [] v0 v2.toNat) 2]).bind fun o8=>
 bif !bA o8 0 then
 some (1,[B false])
 else
 some (0,[.view kPt v0,I v1,I (IntKind.i64.wrap (v2+1)),I v3,I v4,I v5,I v6,I v7,I v8,I v9,I v10,I v11, .view Aa v12,I v13,I v14,I v15,I v16,I v17,I v18,I v19,I v20,I v21, .view Aa v22,I v23,I v24,I v25,I v26,I v27,I v28,I v29,I v30,I v31, .view Aa v32])
 else
 none
 else
 some (2,[]):=by kernel_rfl
theorem Q9o (Ds:Fn) (N3 N8:Lp) (x0 x1 x2 x3 x4 x5 x6 x7 x8:Int) (x9:Rw) (x10 x11 x12 x13 x14 x15 x16 x17 x18:Int) (x19:Rw) (x20 x21 x22 x23 x24 x25 x26 x27 x28:Int) (x29:Rw) (x30 x31 x32:Int) (x33 x34:Rw):Z9 Ds N3 N8 [I x0,I x1,I x2,I x3,I x4,I x5,I x6,I x7,I x8, .view Aa x9,I x10,I x11,I x12,I x13,I x14,I x15,I x16,I x17,I x18, .view Aa x19,I x20,I x21,I x22,I x23,I x24,I x25,I x26,I x27,I x28, .view Aa x29,I x30,I x31,I x32, .view Ah x33, .view kPt x34]=
 (N3 [.view kPt [[I x30,I x31,I x32]], .view Ah x33,I (x33.length:Int),I 0,I x0,I x1,I x2,I x3,I x4,I x5,I x6,I x7,I x8, .view Aa x9,I x10,I x11,I x12,I x13,I x14,I x15,I x16,I x17,I x18, .view Aa x19,I x20,I x21,I x22,I x23,I x24,I x25,I x26,I x27,I x28, .view Aa x29]).bind fun o9=>
 bif o9.1.beq 1 then
 (N8 [.view kPt (wA o9.2 0),I (↑(wA o9.2 0).length:Int),I 0,jA o9.2 1,jA o9.2 2,jA o9.2 3,jA o9.2 4,jA o9.2 5,jA o9.2 6,jA o9.2 7,jA o9.2 8,jA o9.2 9, .view Aa (wA o9.2 10),jA o9.2 11,jA o9.2 12,jA o9.2 13,jA o9.2 14,jA o9.2 15,jA o9.2 16,jA o9.2 17,jA o9.2 18,jA o9.2 19, .view Aa (wA o9.2 20),jA o9.2 21,jA o9.2 22,jA o9.2 23,jA o9.2 24,jA o9.2 25,jA o9.2 26,jA o9.2 27,jA o9.2 28,jA o9.2 29, .view Aa (wA o9.2 30)]).bind fun o10=>
 bif o10.1.beq 1 then
 some [B (bA o10.2 0)]
 else
 bif o10.1.beq 2 then
 some [B true]
 else
 none
 else
 none:=by kernel_rfl
def YK:=An (PF Hq)
def Qq3:=An (Si Hq YK)
def PX:=Z9 Hq YK Qq3
theorem Wf:Ai PG (Qeo Hq):=Ao rfl ⟨Q9i,trivial⟩
theorem Zfc:Al PG (90,Ac Ya Qdy PX):=rw2 (C:=(Q1r Hq YK Qq3)) (fl (fl fb Wf) Wf) Wf
def Qa2:Sk:=⟨[tf [CS.sl Ak]],[],[]⟩
def Qgl:Sk:=⟨[TS.tup [(true,[ci,ci,ci,CS.sl Ah,CS.sl kPt]),(false,[ci])]],[],[]⟩
def Zv3 (M:Fn):Nat×Spec:=(89,Ac Qa2 Qgl M)
def Qad (DK:Fn):Cfg:=cp [Qvn DK] [80]
def Qha (DK:Fn):Fn:=Am PG (Qad DK) 64 89 Qa2 Qgl
theorem Zyk (DK:Fn) (x0:Rw):Qha DK [.view Ak x0]=
 (DK [.view Ak x0]).bind fun o1=>
 bif gA o1 2 !=0 then
 some [I 0,I 0,I 0, .view Ah [], .view kPt [],jA o1 2]
 else
 some [jA o1 3,jA o1 4,jA o1 5, .view Ah (wA o1 0), .view kPt (wA o1 1),I 0]:=by kernel_rfl
def Md:=Qha IN
theorem Zc9:Ai PG (Qad IN):=Ao rfl ⟨Qxk,trivial⟩
theorem Q7h:Al PG (89,Ac Qa2 Qgl Md):=rw1 (C:=(Qad IN)) Zc9
def T4:Sk:=⟨[tf [CS.ptr 20000 0],tf [CS.sl Ak],tf [CS.bool]],[(20000,119,cS)],[]⟩
def Qkh:Sk:=⟨[tf [ci]],[(20000,119,cS)],[]⟩
def Zhl (M:Fn):Nat×Spec:=(57,Ac T4 Qkh M)
def Yy (NW FC LM NM:Fn):Cfg:={cf [Zh3 NW,Qrb FC,Q8z LM,Zv3 NM]with fstore:=true}
def Q1 (NW FC LM NM:Fn):Fn:=Am PG (Yy NW FC LM NM) 64 57 T4 Qkh
theorem Zlq (NW FC LM NM:Fn) (x0:Rw) (x1:Bool) (K:Kf) (c:Cv):Q1 NW FC LM NM (.view Ak x0::B x1::Ad K c)=
 (NM [.view Ak x0]).bind fun o4=>
 bif gA o4 5 !=0 then
 some (jA o4 5::Ad K c)
 else
 (LM (AJ K.x++[jA o4 0,jA o4 1,jA o4 2, .view Ah (wA o4 3), .view kPt (wA o4 4)])).bind fun o5=>
 bif !bA o5 0 then
 some (I 17::Ad K c)
 else
 bif(x0.length*176).ble 140737488355328 then
 (FC [jA o4 0,jA o4 1,jA o4 2, .view Ah (wA o4 3), .view kPt (wA o4 4)]).bind fun o6=>
 (NW [.view Ak x0]).bind fun o7=>
 some (I 0::DI (Ad K c) [(35, .view Ak x0),(36,B x1),(37,jA o4 0),(38,jA o4 1),(39,jA o4 2),(40, .view Ah (wA o4 3)),(41, .view kPt (wA o4 4)),(42,jA o6 0),(43,jA o7 0)])
 else
 none:=by kernel_rfl
def SD:=Q1 Mz If PX Md
theorem Zig:Ai PG (Yy Mz If PX Md):=Ao rfl ⟨Zqj,Qzu,Zfc,Q7h,trivial⟩
theorem Zps:Al PG (57,Ac T4 Qkh SD):=rw1 (C:=(Yy Mz If PX Md)) Zig
def Xr:Sk:=⟨[],[],[]⟩
def Qlp:Sk:=⟨[TS.v true [ci,ci,CS.bool,CS.bool,CS.bool]],[],[]⟩
def Zc6 (M:Fn):Nat×Spec:=(55,Ac Xr Qlp M)
def XG:Cfg:=cf []
def ZO:Fn:=Am PG XG 64 55 Xr Qlp
theorem Zrx:ZO []=
 some [I 100,I 100,B false,B false,B false]:=by kernel_rfl
def Pj:=ZO
theorem Zpz:Ai PG (XG):=Ao rfl trivial
theorem Zw3:Al PG (55,Ac Xr Qlp Pj):=rw1 (C:=XG) Zpz
def Zw:Sk:=⟨[TS.v true [ci,ci,ci,ci,ci,ci,ci,ci,ci,CS.sl Aa,ci,ci,ci,ci,ci,ci,ci,ci,ci,CS.sl Aa,ci,ci,ci,ci,ci,ci,ci,ci,ci,CS.sl Aa,ci,ci,ci,ci,ci]],[],[]⟩
def We:Sk:=⟨[TS.v true [ci,ci,ci,ci,ci,ci,ci,ci,ci,CS.sl Aa,ci,ci,ci,ci,ci,ci,ci,ci,ci,CS.sl Aa,ci,ci,ci,ci,ci,ci,ci,ci,ci,CS.sl Aa,ci,ci,ci,ci,ci]],[],[]⟩
def Zld (M:Fn):Nat×Spec:=(54,Ac Zw We M)
def Qg3:Cfg:={cf []with fstore:=true,unroll:=[2]}
def Qdw:Fn:=Am PG Qg3 64 54 Zw We
theorem Znc (x0 x1 x2 x3 x4 x5 x6 x7 x8:Int) (x9:Rw) (x10 x11 x12 x13 x14 x15 x16 x17 x18:Int) (x19:Rw) (x20 x21 x22 x23 x24 x25 x26 x27 x28:Int) (x29:Rw) (x30 x31 x32 x33 x34:Int):Qdw [I x0,I x1,I x2,I x3,I x4,I x5,I x6,I x7,I x8, .view Aa x9,I x10,I x11,I x12,I x13,I x14,I x15,I x16,I x17,I x18, .view Aa x19,I x20,I x21,I x22,I x23,I x24,I x25,I x26,I x27,I x28, .view Aa x29,I x30,I x31,I x32,I x33,I x34]=
 bif(x9.length*8).ble 140737488355328 then
 bif(x19.length*8).ble 140737488355328 then
 bif(x29.length*8).ble 140737488355328 then
 some [I x0,I x1,I x2,I x3,I x4,I x5,I x6,I x7,I x8, .view Aa x9,I x10,I x11,I x12,I x13,I x14,I x15,I x16,I x17,I x18, .view Aa x19,I x20,I x21,I x22,I x23,I x24,I x25,I x26,I x27,I x28, .view Aa x29,I x30,I x31,I x32,I x33,I x34]
 else
 none
 else
 none
 else
 none:=by kernel_rfl
def Pw:=Qdw
theorem Zql:Ai PG (Qg3):=Ao rfl trivial
theorem Zwd:Al PG (54,Ac Zw We Pw):=rw1 (C:=Qg3) Zql
def Z0:Sk:=⟨[TS.v true [ci,ci,ci,ci,ci,ci,ci,ci,ci,CS.sl Aa]],[],[]⟩
def Vr:Sk:=⟨[tf [CS.bool]],[],[]⟩
def Zcb (M:Fn):Nat×Spec:=(141,Ac Z0 Vr M)
def Qnl (By:Fn):Cfg:=cf [YG By]
def Q2c:Sk:=⟨[td,tf [CS.ptr 1 0],td,td,td,td,td,td,td,td,td,td,td,td,td,td,td,td,td,td,td,td,td,td,td,td,tf [CS.sl Aa],tf [ci],tf [ci]]++dd 29,[(1,26,[ci,ci,ci,ci,ci,ci,ci,ci,ci,CS.sl Aa])],[]⟩
def Q5z:List (Ex×Sk):=[(Ex.ret,⟨[td,td,tf [CS.bool]]++dd 55,[],[]⟩),(Ex.exit 0,⟨[td]++dd 57,[],[]⟩)]
def Yz (By:Fn):Lp:=AP PG (Qnl By) 64 6 (AO PG 141 6) Q2c Q5z
def Qw3 (By:Fn) (N6:Lp):Cfg:=(Qnl By).loop 6 Q2c Q5z N6
def Qlj (By:Fn) (N6:Lp):Fn:=Am PG (Qw3 By N6) 64 141 Z0 Vr
theorem Zfy (By:Fn) (v0:Rw) (v1 v2 v3 v4 v5 v6 v7 v8 v9 v10 v11:Int) (v12:Rw):Yz By [.view Aa v0,I v1,I v2,I v3,I v4,I v5,I v6,I v7,I v8,I v9,I v10,I v11, .view Aa v12]=
 bif decide (v2<v1)then
 bif decide (0<=v2)&&decide (v2<(v0.length:Int))then
 (By [jA (nth [] v0 v2.toNat) 0,I (-4096),I 4096]).bind fun o7=>
 bif !bA o7 0 then
 some (1,[B false])
 else
 bif decide (v2>0)then
 bif decide (0<=IntKind.i64.wrap (v2-1))&&decide (IntKind.i64.wrap (v2-1)<(v12.length:Int))then
 (By [I (IntKind.i64.wrap (gA (nth [] v0 v2.toNat) 0-gA (nth [] v12 (IntKind.i64.wrap (v2-1)).toNat) 0)),I (IntKind.i64.wrap (0-IntKind.i64.wrap (v11.tdiv 4))),I (IntKind.i64.wrap (v11.tdiv 4))]).bind fun o8=>
 bif !bA o8 0 then
 some (1,[B false])
 else
 some (0,[.view Aa v0,I v1,I (IntKind.i64.wrap (v2+1)),I v3,I v4,I v5,I v6,I v7,I v8,I v9,I v10,I v11, .view Aa v12])
 else
 none
 else
 some (0,[.view Aa v0,I v1,I (IntKind.i64.wrap (v2+1)),I v3,I v4,I v5,I v6,I v7,I v8,I v9,I v10,I v11, .view Aa v12])
 else
 none
 else
 some (2,[]):=by kernel_rfl
theorem Zat (By:Fn) (N6:Lp) (x0 x1 x2 x3 x4 x5 x6 x7 x8:Int) (x9:Rw):Qlj By N6 [I x0,I x1,I x2,I x3,I x4,I x5,I x6,I x7,I x8, .view Aa x9]=
 bif(x9.length:Int)==0 then
 some [B true]
 else
 bif decide ((x9.length:Int)>64)then
 some [B false]
 else
 (By [I x7,I (-16777216),I 16777216]).bind fun o9=>
 bif !bA o9 0 then
 some [B false]
 else
 (By [I x8,I 4,I 16777216]).bind fun o10=>
 bif !bA o10 0 then
 some [B false]
 else
 (N6 [.view Aa x9,I (x9.length:Int),I 0,I x0,I x1,I x2,I x3,I x4,I x5,I x6,I x7,I x8, .view Aa x9]).bind fun o11=>
 bif o11.1.beq 1 then
 some [B (bA o11.2 0)]
 else
 bif o11.1.beq 2 then
 some [B true]
 else
 none:=by kernel_rfl
def Qyi:=An (Yz Gh)
def Oi:=Qlj Gh Qyi
theorem Qyt:Ai PG (Qnl Gh):=Ao rfl ⟨Qm6,trivial⟩
theorem Zqf:Al PG (141,Ac Z0 Vr Oi):=rw2 (C:=(Qw3 Gh Qyi)) (fl fb Qyt) Qyt
def Qjp:Sk:=⟨[TS.v true [ci,ci,ci,ci,ci,ci,ci,ci,ci,CS.sl Aa]],[],[]⟩
def Qi9:Sk:=⟨[tf [CS.bool]],[],[]⟩
def Zb7 (M:Fn):Nat×Spec:=(86,Ac Qjp Qi9 M)
def Qkb (LS By:Fn):Cfg:=cf [Zcb LS,YG By]
def Qd6 (LS By:Fn):Fn:=Am PG (Qkb LS By) 64 86 Qjp Qi9
theorem Zik (LS By:Fn) (x0 x1 x2 x3 x4 x5 x6 x7 x8:Int) (x9:Rw):Qd6 LS By [I x0,I x1,I x2,I x3,I x4,I x5,I x6,I x7,I x8, .view Aa x9]=
 (By [I x0,I 4,I 4096]).bind fun o6=>
 bif bA o6 0 then
 (By [I x1,I 1,I 1048576]).bind fun o7=>
 bif bA o7 0 then
 (By [I x2,I 2,I 1048576]).bind fun o8=>
 bif bA o8 0 then
 (By [I x3,I 4,I 1048576]).bind fun o9=>
 bif decide (x4>= -16777216)then
 bif decide (x5<=16777216)then
 bif bA o9 0 then
 bif decide (x4<=x5)then
 (By [I x6,I 0,I 64]).bind fun o10=>
 bif bA o10 0 then
 (LS [I x0,I x1,I x2,I x3,I x4,I x5,I x6,I x7,I x8, .view Aa x9]).bind fun o11=>
 some [B (bA o11 0)]
 else
 some [B false]
 else
 some [B false]
 else
 some [B false]
 else
 bif bA o9 0 then
 some [B false]
 else
 some [B false]
 else
 bif bA o9 0 then
 some [B false]
 else
 some [B false]
 else
 bif decide (x4>= -16777216)then
 bif decide (x5<=16777216)then
 some [B false]
 else
 some [B false]
 else
 some [B false]
 else
 bif decide (x4>= -16777216)then
 bif decide (x5<=16777216)then
 some [B false]
 else
 some [B false]
 else
 some [B false]
 else
 bif decide (x4>= -16777216)then
 bif decide (x5<=16777216)then
 some [B false]
 else
 some [B false]
 else
 some [B false]:=by kernel_rfl
def PH:=Qd6 Oi Gh
theorem Z0e:Ai PG (Qkb Oi Gh):=Ao rfl ⟨Zqf,Qm6,trivial⟩
theorem Zkw:Al PG (86,Ac Qjp Qi9 PH):=rw1 (C:=(Qkb Oi Gh)) Z0e
def Zj:Sk:=⟨[TS.v true [ci,ci,ci,ci,ci,ci,ci,ci,ci,CS.sl Aa,ci,ci,ci,ci,ci,ci,ci,ci,ci,CS.sl Aa,ci,ci,ci,ci,ci,ci,ci,ci,ci,CS.sl Aa,ci,ci,ci,ci,ci]],[],[]⟩
def Tg:Sk:=⟨[tf [CS.bool]],[],[]⟩
def Q7m (M:Fn):Nat×Spec:=(53,Ac Zj Tg M)
def Qb6 (C4 BF JS:Fn):Cfg:={cf [Qai C4,Qgd BF,Zb7 JS]with unroll:=[2]}
def Qkj (C4 BF JS:Fn):Fn:=Am PG (Qb6 C4 BF JS) 64 53 Zj Tg
theorem Q61 (C4 BF JS:Fn) (x0 x1 x2 x3 x4 x5 x6 x7 x8:Int) (x9:Rw) (x10 x11 x12 x13 x14 x15 x16 x17 x18:Int) (x19:Rw) (x20 x21 x22 x23 x24 x25 x26 x27 x28:Int) (x29:Rw) (x30 x31 x32 x33 x34:Int):Qkj C4 BF JS [I x0,I x1,I x2,I x3,I x4,I x5,I x6,I x7,I x8, .view Aa x9,I x10,I x11,I x12,I x13,I x14,I x15,I x16,I x17,I x18, .view Aa x19,I x20,I x21,I x22,I x23,I x24,I x25,I x26,I x27,I x28, .view Aa x29,I x30,I x31,I x32,I x33,I x34]=
 (JS [I x0,I x1,I x2,I x3,I x4,I x5,I x6,I x7,I x8, .view Aa x9]).bind fun o5=>
 bif !bA o5 0 then
 some [B false]
 else
 (JS [I x10,I x11,I x12,I x13,I x14,I x15,I x16,I x17,I x18, .view Aa x19]).bind fun o6=>
 bif !bA o6 0 then
 some [B false]
 else
 (JS [I x20,I x21,I x22,I x23,I x24,I x25,I x26,I x27,I x28, .view Aa x29]).bind fun o7=>
 bif !bA o7 0 then
 some [B false]
 else
 (BF [I x30,I x31,I x32]).bind fun o8=>
 bif bA o8 0 then
 bif decide (x33>=1)then
 (C4 [I 30000]).bind fun o9=>
 bif decide (x33<=gA o9 0)then
 bif decide (x34>=0)then
 some [B (decide (x34<=1048576))]
 else
 some [B false]
 else
 some [B false]
 else
 some [B false]
 else
 some [B false]:=by kernel_rfl
def PM:=Qkj Es ES PH
theorem Zrb:Ai PG (Qb6 Es ES PH):=Ao rfl ⟨Y0,WP,Zkw,trivial⟩
theorem Zg5:Al PG (53,Ac Zj Tg PM):=rw1 (C:=(Qb6 Es ES PH)) Zrb
def Uy:Sk:=⟨[TS.v true [ci,ci,ci,ci,ci,ci,ci,ci,ci,CS.sl Aa,ci,ci,ci,ci,ci,ci,ci,ci,ci,CS.sl Aa,ci,ci,ci,ci,ci,ci,ci,ci,ci,CS.sl Aa,ci,ci,ci,ci,ci],tf [CS.sl Ak],tf [CS.bool]],[],[]⟩
def Qab:Sk:=⟨[TS.tup [(false,[CS.ptr 19 0]),(false,[ci])]],[(19,119,cS)],[]⟩
def Qyu (M:Fn):Nat×Spec:=(20,Ac Uy Qab M)
def Xh (Ea Ia LE Fw Oh NR Nd:Fn):Cfg:={cp [Qbl Ea,Qxl Ia,Zhl LE,Qxp Fw,Zc6 Oh,Zld NR,Q7m Nd] [57]with fstore:=true}
def Sf (Ea Ia LE Fw Oh NR Nd:Fn):Fn:=Am PG (Xh Ea Ia LE Fw Oh NR Nd) 64 20 Uy Qab
theorem Zbh (Ea Ia LE Fw Oh NR Nd:Fn) (x0 x1 x2 x3 x4 x5 x6 x7 x8:Int) (x9:Rw) (x10 x11 x12 x13 x14 x15 x16 x17 x18:Int) (x19:Rw) (x20 x21 x22 x23 x24 x25 x26 x27 x28:Int) (x29:Rw) (x30 x31 x32 x33 x34:Int) (x35:Rw) (x36:Bool):Sf Ea Ia LE Fw Oh NR Nd [I x0,I x1,I x2,I x3,I x4,I x5,I x6,I x7,I x8, .view Aa x9,I x10,I x11,I x12,I x13,I x14,I x15,I x16,I x17,I x18, .view Aa x19,I x20,I x21,I x22,I x23,I x24,I x25,I x26,I x27,I x28, .view Aa x29,I x30,I x31,I x32,I x33,I x34, .view Ak x35,B x36]=
 (Nd [I x0,I x1,I x2,I x3,I x4,I x5,I x6,I x7,I x8, .view Aa x9,I x10,I x11,I x12,I x13,I x14,I x15,I x16,I x17,I x18, .view Aa x19,I x20,I x21,I x22,I x23,I x24,I x25,I x26,I x27,I x28, .view Aa x29,I x30,I x31,I x32,I x33,I x34]).bind fun o7=>
 bif !bA o7 0 then
 none
 else
 (NR [I x0,I x1,I x2,I x3,I x4,I x5,I x6,I x7,I x8, .view Aa x9,I x10,I x11,I x12,I x13,I x14,I x15,I x16,I x17,I x18, .view Aa x19,I x20,I x21,I x22,I x23,I x24,I x25,I x26,I x27,I x28, .view Aa x29,I x30,I x31,I x32,I x33,I x34]).bind fun o8=>
 (Oh []).bind fun o9=>
 (Fw []).bind fun o10=>
 (LE [.view Ak x35,B x36,jA o8 0,jA o8 1,jA o8 2,jA o8 3,jA o8 4,jA o8 5,jA o8 6,jA o8 7,jA o8 8, .view Aa (wA o8 9),jA o8 10,jA o8 11,jA o8 12,jA o8 13,jA o8 14,jA o8 15,jA o8 16,jA o8 17,jA o8 18, .view Aa (wA o8 19),jA o8 20,jA o8 21,jA o8 22,jA o8 23,jA o8 24,jA o8 25,jA o8 26,jA o8 27,jA o8 28, .view Aa (wA o8 29),jA o8 30,jA o8 31,jA o8 32,jA o8 33,jA o8 34, .view Ak [],B false,I 0,I 0,I 0, .view Ah [], .view kPt [],I 0,I 0, .view Aq [],I 0,I 0,I 0,I 0,I 0,I 0,I 0,I 0,I 0,I 0,I 0,jA o9 0,jA o9 1,B (bA o9 2),B (bA o9 3),B (bA o9 4),jA o10 0,jA o10 1,jA o10 2,I 1,I 0,I 0,I 0,I 0,I 0,I 0,I 0,I 0,B false,I 0,B false,I 0,B false,I 0,I (-1),I 0,I 0,I 0,I 0,I 0,I 0,I 0,B false,B false,B false]).bind fun o11=>
 bif gA o11 0 !=0 then
 none
 else
 (Ia [jA o11 38,jA o11 39,jA o11 40, .view Ah (wA o11 41), .view kPt (wA o11 42),jA o11 1,jA o11 2,jA o11 3,jA o11 4,jA o11 5,jA o11 6,jA o11 7,jA o11 8,jA o11 9, .view Aa (wA o11 10),jA o11 11,jA o11 12,jA o11 13,jA o11 14,jA o11 15,jA o11 16,jA o11 17,jA o11 18,jA o11 19, .view Aa (wA o11 20),jA o11 21,jA o11 22,jA o11 23,jA o11 24,jA o11 25,jA o11 26,jA o11 27,jA o11 28,jA o11 29, .view Aa (wA o11 30),I 1,I 1,I 1,I 0,jA o11 43]).bind fun o12=>
 (Ea [I 0]).bind fun o13=>
 some (I 0::DI (cR 1 o11) [(44, .view Aq (wA o12 0)),(45,jA o12 1),(46,jA o12 2),(47,jA o12 3),(48,jA o12 4),(49,jA o12 5),(50,jA o13 0),(51,jA o13 1),(52,jA o13 2),(53,jA o13 3),(54,jA o13 4),(55,jA o13 5)]):=by kernel_rfl
def H8:=Sf GD Ju SD JC Pj Pw PM
theorem Zz2:Ai PG (Xh GD Ju SD JC Pj Pw PM):=Ao rfl ⟨Qaa,Qtv,Zps,Q3b,Zw3,Zwd,Zg5,trivial⟩
theorem Qse:Al PG (20,Ac Uy Qab H8):=rw1 (C:=(Xh GD Ju SD JC Pj Pw PM)) Zz2
def Qnc:Sk:=⟨[tf [CS.sl kPt]],[],[]⟩
def Qmb:Sk:=⟨[tf [CS.sl kPt]],[],[]⟩
def Ziv (M:Fn):Nat×Spec:=(18,Ac Qnc Qmb M)
def C_cncmill_Calm_0:Cfg:={cf []with prom:=fun b=>bif Nat.beq b 3 then [(3,69)]else []}
def Qym:Sk:=⟨[td,td,td,tf [CS.own 3 3],td,td,tf [CS.sl kPt],tf [ci],tf [ci]]++dd 12,[],[(3,69,kPt)]⟩
def Qxt:List (Ex×Sk):=[(Ex.exit 0,⟨[td,td,td,tf [CS.own 3 3]]++dd 17,[],[(3,69,kPt)]⟩)]
def Qu:Lp:=AP PG C_cncmill_Calm_0 64 3 (AO PG 18 3) Qym Qxt
def Q04 (N3:Lp):Cfg:=C_cncmill_Calm_0.loop 3 Qym Qxt N3
def Qeb (N3:Lp):Fn:=Am PG (Q04 N3) 64 18 Qnc Qmb
theorem Zfe (v0 v1:Rw) (v2 v3:Int):Qu [.view kPt v0, .view kPt v1,I v2,I v3]=
 bif decide (v3<v2)then
 bif decide (0<=v3)&&decide (v3<(v1.length:Int))then
 bif decide (gA (nth [] v1 v3.toNat) 1<=6)then
 bif((v0++[[jA (nth [] v1 v3.toNat) 0,jA (nth [] v1 v3.toNat) 1,jA (nth [] v1 v3.toNat) 2]]).length*24).ble 140737488355328 then
 some (0,[.view kPt (v0++[[jA (nth [] v1 v3.toNat) 0,jA (nth [] v1 v3.toNat) 1,jA (nth [] v1 v3.toNat) 2]]), .view kPt v1,I v2,I (IntKind.i64.wrap (v3+1))])
 else
 none
 else
 some (0,[.view kPt v0, .view kPt v1,I v2,I (IntKind.i64.wrap (v3+1))])
 else
 none
 else
 some (1,[.view kPt v0]):=by kernel_rfl
theorem Zn3 (N3:Lp) (x0:Rw):Qeb N3 [.view kPt x0]=
 (N3 [.view kPt [], .view kPt x0,I (x0.length:Int),I 0]).bind fun o1=>
 bif o1.1.beq 1 then
 some [.view kPt (wA o1.2 0)]
 else
 none:=by kernel_rfl
def Q08:=An (Qu)
def Mh:=Qeb Q08
theorem Qyb:Ai PG (C_cncmill_Calm_0):=Ao rfl trivial
theorem Zmi:Al PG (18,Ac Qnc Qmb Mh):=rw2 (C:=(Q04 Q08)) (fl fb Qyb) Qyb
def Tv:Sk:=⟨[tf [CS.ptr 20000 0],tf [ci]],[(20000,103,[CS.sl Aa,ci])],[]⟩
def Qnm:Sk:=⟨[tf [ci]],[(20000,103,[CS.sl Aa,ci])],[]⟩
def Id (M:Fn):Nat×Spec:=(48,Ac Tv Qnm M)
def US (DC:Fn):Cfg:=cf [Qr4 DC]
def UI (DC:Fn):Fn:=Am PG (US DC) 64 48 Tv Qnm
theorem Zsl (DC:Fn) (x0:Int) (x1:Rw) (x2:Int):UI DC [I x0, .view Aa x1,I x2]=
 bif decide (x2>=(x1.length:Int))then
 some [I 0, .view Aa x1,I x2]
 else
 bif decide (0<=x2)&&decide (x2<(x1.length:Int))then
 (DC [jA (nth [] x1 x2.toNat) 0,I x0]).bind fun o1=>
 some [jA o1 0, .view Aa x1,I (IntKind.i64.wrap (x2+1))]
 else
 none:=by kernel_rfl
def Bs:=UI HS
theorem Zbf:Ai PG (US HS):=Ao rfl ⟨Qr1,trivial⟩
theorem In:Al PG (48,Ac Tv Qnm Bs):=rw1 (C:=(US HS)) Zbf
def Qlo:Sk:=⟨[tf [CS.ptr 20000 0],tf [ci]],[(20000,103,[CS.sl Aa,ci])],[]⟩
def UT:Sk:=⟨[TS.v true [ci,ci,ci]],[(20000,103,[CS.sl Aa,ci])],[]⟩
def Zvb (M:Fn):Nat×Spec:=(52,Ac Qlo UT M)
def Qe3 (Ap:Fn):Cfg:=cp [Id Ap] [48]
def Qep (Ap:Fn):Fn:=Am PG (Qe3 Ap) 64 52 Qlo UT
abbrev P9 (Ap:Fn) (o9:List AC) (x0:Int) (h1_0:AC):Option (List AC):=
 (Ap [h1_0, .view Aa (wA o9 1),jA o9 2]).bind fun o10=>
 some [I x0,I (Af (nth .dead (nth [] [[I 4],[I 1],[I 2],[I 3],[I 4],[I 5],[I 6],[I 7],[I 4],[I 8],[I 9],[I 11],[I 12],[I 13],[I 10]] (gA o9 0).toNat) 0)),I (IntKind.i64.wrap (gA o10 0-5)), .view Aa (wA o10 1),jA o10 2]
attribute [go_sem] P9
theorem Zqv (Ap:Fn) (x0:Int) (x1:Rw) (x2:Int):Qep Ap [I x0, .view Aa x1,I x2]=
 (Ap [I 15, .view Aa x1,I x2]).bind fun o9=>
 bif decide (0<=gA o9 0)&&decide (gA o9 0<(↑[[I 4],[I 1],[I 2],[I 3],[I 4],[I 5],[I 6],[I 7],[I 4],[I 8],[I 9],[I 11],[I 12],[I 13],[I 10]].length:Int))then
 bif Af (nth .dead (nth [] [[I 4],[I 1],[I 2],[I 3],[I 4],[I 5],[I 6],[I 7],[I 4],[I 8],[I 9],[I 11],[I 12],[I 13],[I 10]] (gA o9 0).toNat) 0)==1 then
 P9 Ap o9 x0 (I 220)
 else
 bif Af (nth .dead (nth [] [[I 4],[I 1],[I 2],[I 3],[I 4],[I 5],[I 6],[I 7],[I 4],[I 8],[I 9],[I 11],[I 12],[I 13],[I 10]] (gA o9 0).toNat) 0)==2 then
 P9 Ap o9 x0 (I 220)
 else
 bif Af (nth .dead (nth [] [[I 4],[I 1],[I 2],[I 3],[I 4],[I 5],[I 6],[I 7],[I 4],[I 8],[I 9],[I 11],[I 12],[I 13],[I 10]] (gA o9 0).toNat) 0)==5 then
 (Ap [I 3, .view Aa (wA o9 1),jA o9 2]).bind fun o12=>
 some [I x0,I (Af (nth .dead (nth [] [[I 4],[I 1],[I 2],[I 3],[I 4],[I 5],[I 6],[I 7],[I 4],[I 8],[I 9],[I 11],[I 12],[I 13],[I 10]] (gA o9 0).toNat) 0)),jA o12 0, .view Aa (wA o12 1),jA o12 2]
 else
 bif Af (nth .dead (nth [] [[I 4],[I 1],[I 2],[I 3],[I 4],[I 5],[I 6],[I 7],[I 4],[I 8],[I 9],[I 11],[I 12],[I 13],[I 10]] (gA o9 0).toNat) 0)==6 then
 (Ap [I 3, .view Aa (wA o9 1),jA o9 2]).bind fun o13=>
 some [I x0,I (Af (nth .dead (nth [] [[I 4],[I 1],[I 2],[I 3],[I 4],[I 5],[I 6],[I 7],[I 4],[I 8],[I 9],[I 11],[I 12],[I 13],[I 10]] (gA o9 0).toNat) 0)),jA o13 0, .view Aa (wA o13 1),jA o13 2]
 else
 bif Af (nth .dead (nth [] [[I 4],[I 1],[I 2],[I 3],[I 4],[I 5],[I 6],[I 7],[I 4],[I 8],[I 9],[I 11],[I 12],[I 13],[I 10]] (gA o9 0).toNat) 0)==7 then
 P9 Ap o9 x0 (I 300)
 else
 bif Af (nth .dead (nth [] [[I 4],[I 1],[I 2],[I 3],[I 4],[I 5],[I 6],[I 7],[I 4],[I 8],[I 9],[I 11],[I 12],[I 13],[I 10]] (gA o9 0).toNat) 0)==8 then
 (Ap [I 5, .view Aa (wA o9 1),jA o9 2]).bind fun o15=>
 some [I x0,I (Af (nth .dead (nth [] [[I 4],[I 1],[I 2],[I 3],[I 4],[I 5],[I 6],[I 7],[I 4],[I 8],[I 9],[I 11],[I 12],[I 13],[I 10]] (gA o9 0).toNat) 0)),I (IntKind.i64.wrap (gA o15 0-1)), .view Aa (wA o15 1),jA o15 2]
 else
 bif Af (nth .dead (nth [] [[I 4],[I 1],[I 2],[I 3],[I 4],[I 5],[I 6],[I 7],[I 4],[I 8],[I 9],[I 11],[I 12],[I 13],[I 10]] (gA o9 0).toNat) 0)==13 then
 (Ap [I 4, .view Aa (wA o9 1),jA o9 2]).bind fun o16=>
 (Ap [I 60, .view Aa (wA o16 1),jA o16 2]).bind fun o17=>
 some [I x0,I (Af (nth .dead (nth [] [[I 4],[I 1],[I 2],[I 3],[I 4],[I 5],[I 6],[I 7],[I 4],[I 8],[I 9],[I 11],[I 12],[I 13],[I 10]] (gA o9 0).toNat) 0)),I (IntKind.i64.wrap (IntKind.i64.wrap (gA o16 0*1048576)+gA o17 0)), .view Aa (wA o17 1),jA o17 2]
 else
 some [I x0,I (Af (nth .dead (nth [] [[I 4],[I 1],[I 2],[I 3],[I 4],[I 5],[I 6],[I 7],[I 4],[I 8],[I 9],[I 11],[I 12],[I 13],[I 10]] (gA o9 0).toNat) 0)),I 0, .view Aa (wA o9 1),jA o9 2]
 else
 none:=by kernel_rfl
def Ky:=Qep Bs
theorem Zm3:Ai PG (Qe3 Bs):=Ao rfl ⟨In,trivial⟩
theorem Zrm:Al PG (52,Ac Qlo UT Ky):=rw1 (C:=(Qe3 Bs)) Zm3
def Qbc:Sk:=⟨[tf [CS.ptr 20000 0]],[(20000,103,[CS.sl Aa,ci])],[]⟩
def Yq:Sk:=⟨[tf [CS.bool]],[(20000,103,[CS.sl Aa,ci])],[]⟩
def Quk (M:Fn):Nat×Spec:=(49,Ac Qbc Yq M)
def Qj7:Cfg:=cf []
def Qu9:Fn:=Am PG Qj7 64 49 Qbc Yq
theorem Znq (x0:Rw) (x1:Int):Qu9 [.view Aa x0,I x1]=
 some [B (decide (x1<(x0.length:Int))), .view Aa x0,I x1]:=by kernel_rfl
def FD:=Qu9
theorem Zn2:Ai PG (Qj7):=Ao rfl trivial
theorem Q1d:Al PG (49,Ac Qbc Yq FD):=rw1 (C:=Qj7) Zn2
def Uh:Sk:=⟨[tf [CS.sl Aa]],[],[]⟩
def Qi4:Sk:=⟨[tf [CS.ptr 5 0]],[(5,103,[CS.sl Aa,ci])],[]⟩
def Pq (M:Fn):Nat×Spec:=(45,Ac Uh Qi4 M)
def Uf:Cfg:=cf []
def Qrz:Fn:=Am PG Uf 64 45 Uh Qi4
theorem Zx3 (x0:Rw):Qrz [.view Aa x0]=
 some [.view Aa x0,I 0]:=by kernel_rfl
def Ce:=Qrz
theorem Zhg:Ai PG (Uf):=Ao rfl trivial
theorem Pi:Al PG (45,Ac Uh Qi4 Ce):=rw1 (C:=Uf) Zhg
def Qhd:Sk:=⟨[tf [CS.sl Aa]],[],[]⟩
def Qhk:Sk:=⟨[tf [CS.sl kPt]],[],[]⟩
def Zdi (M:Fn):Nat×Spec:=(19,Ac Qhd Qhk M)
def V1 (GF Ap Cq A1:Fn):Cfg:={cp [Zvb GF,Id Ap,Quk Cq,Pq A1] [52,48,49,45]with prom:=fun b=>bif Nat.beq b 4 then [(4,69)]else []}
def Q1h:Sk:=⟨[td,td,td,tf [CS.ptr 100700 0],tf [CS.own 4 3],tf [ci]]++dd 15,[(100700,103,[CS.sl Aa,ci])],[(4,69,kPt)]⟩
def Q0w:List (Ex×Sk):=[(Ex.exit 0,⟨[td,td,td,td,tf [CS.own 4 3]]++dd 16,[],[(4,69,kPt)]⟩)]
def Qhz (GF Ap Cq A1:Fn):Lp:=AP PG (V1 GF Ap Cq A1) 64 4 (AO PG 19 4) Q1h Q0w
def Qom (GF Ap Cq A1:Fn) (N4:Lp):Cfg:=(V1 GF Ap Cq A1).loop 4 Q1h Q0w N4
def ZS (GF Ap Cq A1:Fn) (N4:Lp):Fn:=Am PG (Qom GF Ap Cq A1 N4) 64 19 Qhd Qhk
theorem Zqo (GF Ap Cq A1:Fn) (v0:Rw) (v1:Int) (v2:Rw) (v3:Int):Qhz GF Ap Cq A1 [.view kPt v0,I v1, .view Aa v2,I v3]=
 (Cq [.view Aa v2,I v3]).bind fun o10=>
 bif bA o10 0 then
 (Ap [I 40, .view Aa (wA o10 1),jA o10 2]).bind fun o11=>
 (GF [I (IntKind.i64.wrap (v1+gA o11 0)), .view Aa (wA o11 1),jA o11 2]).bind fun o12=>
 bif((v0++[[jA o12 0,jA o12 1,jA o12 2]]).length*24).ble 140737488355328 then
 some (0,[.view kPt (v0++[[jA o12 0,jA o12 1,jA o12 2]]),I (IntKind.i64.wrap (v1+gA o11 0)), .view Aa (wA o12 3),jA o12 4])
 else
 none
 else
 some (1,[.view kPt v0]):=by kernel_rfl
theorem Zcl (GF Ap Cq A1:Fn) (N4:Lp) (x0:Rw):ZS GF Ap Cq A1 N4 [.view Aa x0]=
 (A1 [.view Aa x0]).bind fun o13=>
 (N4 [.view kPt [],I 0, .view Aa (wA o13 0),jA o13 1]).bind fun o14=>
 bif o14.1.beq 1 then
 some [.view kPt (wA o14.2 0)]
 else
 none:=by kernel_rfl
def Qy8:=An (Qhz Ky Bs FD Ce)
def N_:=ZS Ky Bs FD Ce Qy8
theorem Q6i:Ai PG (V1 Ky Bs FD Ce):=Ao rfl ⟨Zrm,In,Q1d,Pi,trivial⟩
theorem Ziw:Al PG (19,Ac Qhd Qhk N_):=rw2 (C:=(Qom Ky Bs FD Ce Qy8)) (fl fb Q6i) Q6i
def Qce:Sk:=⟨[tf [ci],tf [ci],tf [ci],tf [ci]],[],[]⟩
def Qdr:Sk:=⟨[TS.v true [ci,ci,ci]],[],[]⟩
def Zbz (M:Fn):Nat×Spec:=(139,Ac Qce Qdr M)
def Qml:Cfg:=cf []
def Qum:Fn:=Am PG Qml 64 139 Qce Qdr
theorem Zhf (x0 x1 x2 x3:Int):Qum [I x0,I x1,I x2,I x3]=
 bif x3==17 then
 some [I x0,I x1,I x2]
 else
 bif x3==18 then
 some [I x1,I x2,I x0]
 else
 bif x3==19 then
 some [I x2,I x0,I x1]
 else
 some [I 0,I 0,I 0]:=by kernel_rfl
def N0:=Qum
theorem Q8c:Ai PG (Qml):=Ao rfl trivial
theorem Q7d:Al PG (139,Ac Qce Qdr N0):=rw1 (C:=Qml) Q8c
def Tn:Sk:=⟨[tf [ci],tf [ci]],[],[]⟩
def VN:Sk:=⟨[TS.tup [(false,[ci]),(false,[ci])]],[],[]⟩
def Zt5 (M:Fn):Nat×Spec:=(138,Ac Tn VN M)
def V_:Cfg:=cf []
def Q03:Fn:=Am PG V_ 64 138 Tn VN
theorem Q93 (x0 x1:Int):Q03 [I x0,I x1]=
 bif decide (0<=x1.tmod 4)&&decide (x1.tmod 4<(↑[[I x0],[I 0],[I (IntKind.i64.wrap (0-x0))],[I 0]].length:Int))then
 bif decide (0<=x1.tmod 4)&&decide (x1.tmod 4<(↑[[I 0],[I x0],[I 0],[I (IntKind.i64.wrap (0-x0))]].length:Int))then
 some [I (Af (nth .dead (nth [] [[I x0],[I 0],[I (IntKind.i64.wrap (0-x0))],[I 0]] (x1.tmod 4).toNat) 0)),I (Af (nth .dead (nth [] [[I 0],[I x0],[I 0],[I (IntKind.i64.wrap (0-x0))]] (x1.tmod 4).toNat) 0))]
 else
 none
 else
 none:=by kernel_rfl
def Mi:=Q03
theorem Zor:Ai PG (V_):=Ao rfl trivial
theorem Zvm:Al PG (138,Ac Tn VN Mi):=rw1 (C:=V_) Zor
def Uk:Sk:=⟨[TS.v true [ci,ci,ci],tf [ci]],[],[]⟩
def Wg:Sk:=⟨[TS.tup [(false,[ci]),(false,[ci]),(false,[ci])]],[],[]⟩
def Ztm (M:Fn):Nat×Spec:=(137,Ac Uk Wg M)
def Qj1:Cfg:=cf []
def Q6c:Fn:=Am PG Qj1 64 137 Uk Wg
theorem Ztd (x0 x1 x2 x3:Int):Q6c [I x0,I x1,I x2,I x3]=
 bif x3==17 then
 some [I x0,I x1,I x2]
 else
 bif x3==18 then
 some [I x2,I x0,I x1]
 else
 bif x3==19 then
 some [I x1,I x2,I x0]
 else
 some [I 0,I 0,I 0]:=by kernel_rfl
def NZ:=Q6c
theorem Zti:Ai PG (Qj1):=Ao rfl trivial
theorem Zcf:Al PG (137,Ac Uk Wg NZ):=rw1 (C:=Qj1) Zti
def Qkz:Sk:=⟨[tf [CS.ptr 20000 0],TS.v true [ci,ci,ci],tf [ci]],[(20000,103,[CS.sl Aa,ci])],[]⟩
def Qaw:Sk:=⟨[TS.v true [ci,ci,ci,ci,ci,ci,ci,ci,ci,ci,ci,ci,ci,CS.bool,ci,CS.bool,ci,ci,ci,ci,ci,CS.bool]],[(20000,103,[CS.sl Aa,ci])],[]⟩
def Zja (M:Fn):Nat×Spec:=(85,Ac Qkz Qaw M)
def Qm4 (G5 KN Mb Ap:Fn):Cfg:=cp [Zbz G5,Zt5 KN,Ztm Mb,Id Ap] [48]
def Vb (G5 KN Mb Ap:Fn):Fn:=Am PG (Qm4 G5 KN Mb Ap) 64 85 Qkz Qaw
abbrev Sn (Ap G5:Fn) (o23 o18:List AC) (x0 x1 x2:Int) (o26 o19 o22:List AC) (h1_0 h1_1 h1_2 h1_3:AC):Option (List AC):=
 (Ap [I 4,h1_0,h1_1]).bind fun o30=>
 bif decide (0<=gA o30 0)&&decide (gA o30 0<(↑[[I 0],[I 0],[I 7],[I (-12)]].length:Int))then
 (G5 [h1_2,h1_3,I (IntKind.i64.wrap (gA o23 2+Af (nth .dead (nth [] [[I 0],[I 0],[I 7],[I (-12)]] (gA o30 0).toNat) 0))),I (Af (nth .dead (nth [] [[I 17],[I 18],[I 19]] (gA o18 0).toNat) 0))]).bind fun o31=>
 some [I 3,I 0,I x0,I x1,I x2,jA o31 0,jA o31 1,jA o31 2,I (Af (nth .dead (nth [] [[I 17],[I 18],[I 19]] (gA o18 0).toNat) 0)),jA o26 0,jA o26 1,jA o26 2,I (IntKind.i64.wrap (1-IntKind.i64.wrap (gA o19 0*2))),B (gA o22 0==0),I 0,B false,I 0,I 0,I 0,I 0,I 0,B false, .view Aa (wA o30 1),jA o30 2]
 else
 none
attribute [go_sem] Sn
theorem Zah (G5 KN Mb Ap:Fn) (x0 x1 x2 x3:Int) (x4:Rw) (x5:Int):Vb G5 KN Mb Ap [I x0,I x1,I x2,I x3, .view Aa x4,I x5]=
 (Ap [I 3, .view Aa x4,I x5]).bind fun o18=>
 bif decide (0<=gA o18 0)&&decide (gA o18 0<(↑[[I 17],[I 18],[I 19]].length:Int))then
 (Ap [I 2, .view Aa (wA o18 1),jA o18 2]).bind fun o19=>
 (Ap [I x3, .view Aa (wA o19 1),jA o19 2]).bind fun o20=>
 (Ap [I 4, .view Aa (wA o20 1),jA o20 2]).bind fun o21=>
 (Ap [I 4, .view Aa (wA o21 1),jA o21 2]).bind fun o22=>
 (Mb [I x0,I x1,I x2,I (Af (nth .dead (nth [] [[I 17],[I 18],[I 19]] (gA o18 0).toNat) 0))]).bind fun o23=>
 (KN [I (IntKind.i64.wrap (8+gA o20 0)),jA o21 0]).bind fun o24=>
 (KN [I (IntKind.i64.wrap (8+gA o20 0)),I (IntKind.i64.wrap (gA o21 0+gA o22 0))]).bind fun o25=>
 (G5 [I (IntKind.i64.wrap (gA o23 0-gA o24 0)),I (IntKind.i64.wrap (gA o23 1-gA o24 1)),jA o23 2,I (Af (nth .dead (nth [] [[I 17],[I 18],[I 19]] (gA o18 0).toNat) 0))]).bind fun o26=>
 bif decide (gA o22 0>0)then
 (Ap [I 3, .view Aa (wA o22 1),jA o22 2]).bind fun o27=>
 bif gA o27 0==0 then
 bif decide (IntKind.i64.wrap (8+gA o20 0)=0)then
 none
 else
 (Ap [I 5, .view Aa (wA o27 1),jA o27 2]).bind fun o28=>
 bif decide (IntKind.i64.wrap (8+gA o20 0)=0)then
 none
 else
 (Ap [I 5, .view Aa (wA o28 1),jA o28 2]).bind fun o29=>
 Sn Ap G5 o23 o18 x0 x1 x2 o26 o19 o22 (.view Aa (wA o29 1)) (jA o29 2) (I (IntKind.i64.wrap (IntKind.i64.wrap (gA o23 0-gA o24 0)+IntKind.i64.wrap (gA o25 0+IntKind.i64.wrap (IntKind.i64.wrap ((gA o25 0).tdiv (IntKind.i64.wrap (8+gA o20 0)))*gA o28 0))))) (I (IntKind.i64.wrap (IntKind.i64.wrap (gA o23 1-gA o24 1)+IntKind.i64.wrap (gA o25 1+IntKind.i64.wrap (IntKind.i64.wrap ((gA o25 1).tdiv (IntKind.i64.wrap (8+gA o20 0)))*gA o29 0)))))
 else
 Sn Ap G5 o23 o18 x0 x1 x2 o26 o19 o22 (.view Aa (wA o27 1)) (jA o27 2) (I (IntKind.i64.wrap (IntKind.i64.wrap (gA o23 0-gA o24 0)+gA o25 0))) (I (IntKind.i64.wrap (IntKind.i64.wrap (gA o23 1-gA o24 1)+gA o25 1)))
 else
 Sn Ap G5 o23 o18 x0 x1 x2 o26 o19 o22 (.view Aa (wA o22 1)) (jA o22 2) (I (IntKind.i64.wrap (IntKind.i64.wrap (gA o23 0-gA o24 0)+gA o25 0))) (I (IntKind.i64.wrap (IntKind.i64.wrap (gA o23 1-gA o24 1)+gA o25 1)))
 else
 none:=by kernel_rfl
def PE:=Vb N0 Mi NZ Bs
theorem Q7g:Ai PG (Qm4 N0 Mi NZ Bs):=Ao rfl ⟨Q7d,Zvm,Zcf,In,trivial⟩
theorem Zo6:Al PG (85,Ac Qkz Qaw PE):=rw1 (C:=(Qm4 N0 Mi NZ Bs)) Q7g
def W3:Sk:=⟨[tf [CS.ptr 20000 0],TS.v true [ci,ci,ci],tf [ci]],[(20000,103,[CS.sl Aa,ci])],[]⟩
def Qjx:Sk:=⟨[TS.v true [ci,ci,ci,ci,ci,ci,ci,ci,ci,ci,ci,ci,ci,CS.bool,ci,CS.bool,ci,ci,ci,ci,ci,CS.bool]],[(20000,103,[CS.sl Aa,ci])],[]⟩
def Zgu (M:Fn):Nat×Spec:=(51,Ac W3 Qjx M)
def Zt (Ap Nq:Fn):Cfg:=cp [Id Ap,Zja Nq] [48,85]
def Qfv (Ap Nq:Fn):Fn:=Am PG (Zt Ap Nq) 64 51 W3 Qjx
abbrev Z_ (Ap:Fn) (o20:List AC) (x3:Int) (h1_0 h1_1 h1_2 h1_3 h1_4 h1_5 h1_6 h1_7 h1_8 h1_9 h1_10 h1_11 h1_12 h1_13 h1_16 h1_17 h1_20 h1_21:AC):Option (List AC):=
 (Ap [I 60, .view Aa (wA o20 1),jA o20 2]).bind fun o21=>
 bif x3==6 then
 (Ap [I 2, .view Aa (wA o21 1),jA o21 2]).bind fun o22=>
 some [h1_0,h1_1,h1_2,h1_3,h1_4,h1_5,h1_6,h1_7,h1_8,h1_9,h1_10,h1_11,h1_12,h1_13,I (IntKind.i64.wrap (1+gA o21 0)),B true,h1_16,h1_17,I 0,I (IntKind.i64.wrap (3+gA o22 0)),h1_20,h1_21, .view Aa (wA o22 1),jA o22 2]
 else
 some [h1_0,h1_1,h1_2,h1_3,h1_4,h1_5,h1_6,h1_7,h1_8,h1_9,h1_10,h1_11,h1_12,h1_13,I (IntKind.i64.wrap (1+gA o21 0)),B true,h1_16,h1_17,I 0,I 0,h1_20,h1_21, .view Aa (wA o21 1),jA o21 2]
attribute [go_sem] Z_
abbrev Qb8 (x3:Int) (Ap:Fn) (h1_0 h1_1 h1_2 h1_3 h1_4 h1_5 h1_6 h1_7 h1_8 h1_9 h1_10 h1_11 h1_12 h1_13 h1_14 h1_15 h1_16 h1_17 h1_18 h1_19 h1_20 h1_21 h1_22 h1_23:AC):Option (List AC):=
 bif x3==1 then
 some [h1_0,h1_1,h1_2,h1_3,h1_4,h1_5,h1_6,h1_7,h1_8,h1_9,h1_10,h1_11,h1_12,h1_13,h1_14,h1_15,h1_16,h1_17,h1_18,h1_19,h1_20,h1_21,h1_22,h1_23]
 else
 (Ap [I 5,h1_22,h1_23]).bind fun o19=>
 bif decide (0<=gA o19 0)&&decide (gA o19 0<(↑[[I 300000],[I 1],[I 60000],[I 2000000],[I 60000000]].length:Int))then
 (Ap [I 5, .view Aa (wA o19 1),jA o19 2]).bind fun o20=>
 bif decide (0<=gA o20 0)&&decide (gA o20 0<(↑[[I 0],[I 1],[I 2],[I 4],[I 9]].length:Int))then
 bif x3==5 then
 Z_ Ap o20 x3 h1_0 h1_1 h1_2 h1_3 h1_4 h1_5 h1_6 h1_7 h1_8 h1_9 h1_10 h1_11 h1_12 h1_13 h1_16 h1_17 h1_20 h1_21
 else
 bif x3==6 then
 Z_ Ap o20 x3 h1_0 h1_1 h1_2 h1_3 h1_4 h1_5 h1_6 h1_7 h1_8 h1_9 h1_10 h1_11 h1_12 h1_13 h1_16 h1_17 h1_20 h1_21
 else
 bif x3==4 then
 some [h1_0,h1_1,h1_2,h1_3,h1_4,h1_5,h1_6,h1_7,h1_8,h1_9,h1_10,h1_11,h1_12,h1_13,I (Af (nth .dead (nth [] [[I 300000],[I 1],[I 60000],[I 2000000],[I 60000000]] (gA o19 0).toNat) 0)),h1_15,h1_16,h1_17,I 0,h1_19,h1_20,h1_21, .view Aa (wA o20 1),jA o20 2]
 else
 some [h1_0,h1_1,h1_2,h1_3,h1_4,h1_5,h1_6,h1_7,h1_8,h1_9,h1_10,h1_11,h1_12,h1_13,I (Af (nth .dead (nth [] [[I 300000],[I 1],[I 60000],[I 2000000],[I 60000000]] (gA o19 0).toNat) 0)),h1_15,h1_16,h1_17,I (Af (nth .dead (nth [] [[I 0],[I 1],[I 2],[I 4],[I 9]] (gA o20 0).toNat) 0)),h1_19,h1_20,h1_21, .view Aa (wA o20 1),jA o20 2]
 else
 none
 else
 none
attribute [go_sem] Qb8
theorem Zgf (Ap Nq:Fn) (x0 x1 x2 x3:Int) (x4:Rw) (x5:Int):Qfv Ap Nq [I x0,I x1,I x2,I x3, .view Aa x4,I x5]=
 bif x3==3 then
 (Nq [I x0,I x1,I x2,I 8, .view Aa x4,I x5]).bind fun o18=>
 Qb8 x3 Ap (jA o18 0) (jA o18 1) (jA o18 2) (jA o18 3) (jA o18 4) (jA o18 5) (jA o18 6) (jA o18 7) (jA o18 8) (jA o18 9) (jA o18 10) (jA o18 11) (jA o18 12) (B (bA o18 13)) (jA o18 14) (B (bA o18 15)) (jA o18 16) (jA o18 17) (jA o18 18) (jA o18 19) (jA o18 20) (B (bA o18 21)) (.view Aa (wA o18 22)) (jA o18 23)
 else
 (Ap [I 25, .view Aa x4,I x5]).bind fun o25=>
 (Ap [I 25, .view Aa (wA o25 1),jA o25 2]).bind fun o26=>
 (Ap [I 3, .view Aa (wA o26 1),jA o26 2]).bind fun o27=>
 (Ap [I 9, .view Aa (wA o27 1),jA o27 2]).bind fun o28=>
 (Ap [I 2, .view Aa (wA o28 1),jA o28 2]).bind fun o29=>
 Qb8 x3 Ap (I x3) (I 0) (I x0) (I x1) (I x2) (I (IntKind.i64.wrap (IntKind.i64.wrap (x0+gA o25 0)-12))) (I (IntKind.i64.wrap (IntKind.i64.wrap (x1+gA o26 0)-12))) (I (IntKind.i64.wrap (IntKind.i64.wrap (x2+IntKind.i64.wrap (gA o27 0*gA o28 0))-IntKind.i64.wrap (8*gA o29 0)))) (I 0) (I 0) (I 0) (I 0) (I 0) (B false) (I 0) (B false) (I 0) (I 0) (I 0) (I 0) (I 0) (B false) (.view Aa (wA o29 1)) (jA o29 2):=by kernel_rfl
def J7:=Qfv Bs PE
theorem Zyz:Ai PG (Zt Bs PE):=Ao rfl ⟨In,Zo6,trivial⟩
theorem Zp5:Al PG (51,Ac W3 Qjx J7):=rw1 (C:=(Zt Bs PE)) Zyz
def Qig:Sk:=⟨[tf [CS.ptr 20000 0]],[(20000,103,[CS.sl Aa,ci])],[]⟩
def Qa9:Sk:=⟨[TS.v true [ci,ci,ci,ci,ci,ci,ci,ci,ci,ci,ci,ci,ci,CS.bool,ci,CS.bool,ci,ci,ci,ci,ci,CS.bool]],[(20000,103,[CS.sl Aa,ci])],[]⟩
def Z0z (M:Fn):Nat×Spec:=(50,Ac Qig Qa9 M)
def Qil (Ap:Fn):Cfg:=cp [Id Ap] [48]
def Z2 (Ap:Fn):Fn:=Am PG (Qil Ap) 64 50 Qig Qa9
abbrev VU (Ap:Fn) (o8:List AC):Option (List AC):=
 (Ap [I 16, .view Aa (wA o8 1),jA o8 2]).bind fun o9=>
 (Ap [I 2, .view Aa (wA o9 1),jA o9 2]).bind fun o10=>
 some [I 10,I 0,I 0,I 0,I 0,I 0,I 0,I 0,I 0,I 0,I 0,I 0,I 0,B false,I 0,B false,I 0,I 0,I 0,jA o9 0,I 0,B (gA o10 0==0), .view Aa (wA o10 1),jA o10 2]
attribute [go_sem] VU
theorem Ze5 (Ap:Fn) (x0:Rw) (x1:Int):Z2 Ap [.view Aa x0,I x1]=
 (Ap [I 8, .view Aa x0,I x1]).bind fun o8=>
 bif gA o8 0==0 then
 VU Ap o8
 else
 bif gA o8 0==1 then
 VU Ap o8
 else
 bif gA o8 0==2 then
 (Ap [I 5, .view Aa (wA o8 1),jA o8 2]).bind fun o13=>
 some [I 7,I 0,I 0,I 0,I 0,I 0,I 0,I 0,I 0,I 0,I 0,I 0,I 0,B false,I 0,B false,I 0,I 0,I 0,jA o13 0,I 0,B false, .view Aa (wA o13 1),jA o13 2]
 else
 bif gA o8 0==3 then
 (Ap [I 3, .view Aa (wA o8 1),jA o8 2]).bind fun o14=>
 (Ap [I 4000, .view Aa (wA o14 1),jA o14 2]).bind fun o15=>
 some [I 8,I 0,I 0,I 0,I 0,I 0,I 0,I 0,I 0,I 0,I 0,I 0,I 0,B false,I 0,B false,I 0,I 0,I 0,I (IntKind.i64.wrap (3+gA o14 0)),jA o15 0,B false, .view Aa (wA o15 1),jA o15 2]
 else
 bif gA o8 0==4 then
 some [I 9,I 0,I 0,I 0,I 0,I 0,I 0,I 0,I 0,I 0,I 0,I 0,I 0,B false,I 0,B false,I 0,I 0,I 0,I 8,I 0,B true, .view Aa (wA o8 1),jA o8 2]
 else
 bif gA o8 0==5 then
 some [I 13,I 0,I 0,I 0,I 0,I 0,I 0,I 0,I 0,I 0,I 0,I 0,I 0,B false,I 0,B false,I 0,I 0,I 0,I 0,I 0,B false, .view Aa (wA o8 1),jA o8 2]
 else
 bif gA o8 0==6 then
 some [I 12,I 0,I 0,I 0,I 0,I 0,I 0,I 0,I 0,I 0,I 0,I 0,I 0,B false,I 0,B false,I 0,I 0,I 0,I 0,I 0,B false, .view Aa (wA o8 1),jA o8 2]
 else
 some [I 11,I 0,I 0,I 0,I 0,I 0,I 0,I 0,I 0,I 0,I 0,I 0,I 0,B false,I 0,B false,I 0,I 0,I 0,I 1,I 0,B false, .view Aa (wA o8 1),jA o8 2]:=by kernel_rfl
def Kv:=Z2 Bs
theorem Zqs:Ai PG (Qil Bs):=Ao rfl ⟨In,trivial⟩
theorem Zk5:Al PG (50,Ac Qig Qa9 Kv):=rw1 (C:=(Qil Bs)) Zqs
def T8:Sk:=⟨[tf [CS.sl Aa],tf [ci],tf [CS.bool]],[],[]⟩
def To:Sk:=⟨[tf [CS.sl Ak]],[],[]⟩
def Z0u (M:Fn):Nat×Spec:=(16,Ac T8 To M)
def Qbj (GO GJ Cq Ap A1:Fn):Cfg:={cp [Zgu GO,Z0z GJ,Quk Cq,Id Ap,Pq A1] [51,50,49,48,45]with prom:=fun b=>bif Nat.beq b 4 then [(8,74)]else []}
def Q1o:Sk:=⟨[td,tf [ci],tf [CS.bool],td,td,td,td,tf [CS.ptr 101300 0],tf [CS.own 8 22],tf [CS.ptr 9 0]]++dd 64,[(9,72,[ci,ci,ci]),(101300,103,[CS.sl Aa,ci])],[(8,74,Ak)]⟩
def Q22:List (Ex×Sk):=[(Ex.exit 0,⟨[td,td,tf [CS.bool],td,td,td,td,td,tf [CS.own 8 22]]++dd 65,[],[(8,74,Ak)]⟩)]
def Qdh (GO GJ Cq Ap A1:Fn):Lp:=AP PG (Qbj GO GJ Cq Ap A1) 64 4 (AO PG 16 4) Q1o Q22
def Qx3 (GO GJ Cq Ap A1:Fn) (N4:Lp):Cfg:=(Qbj GO GJ Cq Ap A1).loop 4 Q1o Q22 N4
def Qkf (GO GJ Cq Ap A1:Fn) (N4:Lp):Fn:=Am PG (Qx3 GO GJ Cq Ap A1 N4) 64 16 T8 To
theorem Zjb (GO GJ Cq Ap A1:Fn) (v0:Rw) (v1:Int) (v2:Bool) (v3 v4 v5:Int) (v6:Rw) (v7:Int):Qdh GO GJ Cq Ap A1 [.view Ak v0,I v1,B v2,I v3,I v4,I v5, .view Aa v6,I v7]=
 bif decide ((v0.length:Int)<v1)then
 (Cq [.view Aa v6,I v7]).bind fun o25=>
 bif bA o25 0 then
 (Ap [I 12, .view Aa (wA o25 1),jA o25 2]).bind fun o26=>
 bif decide (gA o26 0<4)then
 (GJ [.view Aa (wA o26 1),jA o26 2]).bind fun o27=>
 bif((v0++[[jA o27 0,jA o27 1,jA o27 2,jA o27 3,jA o27 4,jA o27 5,jA o27 6,jA o27 7,jA o27 8,jA o27 9,jA o27 10,jA o27 11,jA o27 12,B (bA o27 13),jA o27 14,B (bA o27 15),jA o27 16,jA o27 17,jA o27 18,jA o27 19,jA o27 20,B (bA o27 21)]]).length*176).ble 140737488355328 then
 some (0,[.view Ak (v0++[[jA o27 0,jA o27 1,jA o27 2,jA o27 3,jA o27 4,jA o27 5,jA o27 6,jA o27 7,jA o27 8,jA o27 9,jA o27 10,jA o27 11,jA o27 12,B (bA o27 13),jA o27 14,B (bA o27 15),jA o27 16,jA o27 17,jA o27 18,jA o27 19,jA o27 20,B (bA o27 21)]]),I v1,B v2,I v3,I v4,I v5, .view Aa (wA o27 22),jA o27 23])
 else
 none
 else
 bif decide (0<=IntKind.i64.wrap (gA o26 0-4))&&decide (IntKind.i64.wrap (gA o26 0-4)<(↑[[I 2],[I 2],[I 2],[I 3],[I 1],[I 6],[I 5],[I 4]].length:Int))then
 (GO [I v3,I v4,I v5,I (Af (nth .dead (nth [] [[I 2],[I 2],[I 2],[I 3],[I 1],[I 6],[I 5],[I 4]] (IntKind.i64.wrap (gA o26 0-4)).toNat) 0)), .view Aa (wA o26 1),jA o26 2]).bind fun o28=>
 bif gA o28 0==5 then
 (Ap [I 2, .view Aa (wA o28 22),jA o28 23]).bind fun o29=>
 (Ap [I 3000, .view Aa (wA o29 1),jA o29 2]).bind fun o30=>
 bif((v0++[[I 8,I 0,I 0,I 0,I 0,I 0,I 0,I 0,I 0,I 0,I 0,I 0,I 0,B false,I 0,B false,I 0,I 0,I 0,I (IntKind.i64.wrap (3+gA o29 0)),I (IntKind.i64.wrap (200+gA o30 0)),B false]]).length*176).ble 140737488355328 then
 bif((v0++[[I 8,I 0,I 0,I 0,I 0,I 0,I 0,I 0,I 0,I 0,I 0,I 0,I 0,B false,I 0,B false,I 0,I 0,I 0,I (IntKind.i64.wrap (3+gA o29 0)),I (IntKind.i64.wrap (200+gA o30 0)),B false]]++[[jA o28 0,jA o28 1,jA o28 2,jA o28 3,jA o28 4,jA o28 5,jA o28 6,jA o28 7,jA o28 8,jA o28 9,jA o28 10,jA o28 11,jA o28 12,B (bA o28 13),jA o28 14,B (bA o28 15),jA o28 16,jA o28 17,jA o28 18,jA o28 19,jA o28 20,B (bA o28 21)]]).length*176).ble 140737488355328 then
 some (0,[.view Ak (v0++[[I 8,I 0,I 0,I 0,I 0,I 0,I 0,I 0,I 0,I 0,I 0,I 0,I 0,B false,I 0,B false,I 0,I 0,I 0,I (IntKind.i64.wrap (3+gA o29 0)),I (IntKind.i64.wrap (200+gA o30 0)),B false]]++[[jA o28 0,jA o28 1,jA o28 2,jA o28 3,jA o28 4,jA o28 5,jA o28 6,jA o28 7,jA o28 8,jA o28 9,jA o28 10,jA o28 11,jA o28 12,B (bA o28 13),jA o28 14,B (bA o28 15),jA o28 16,jA o28 17,jA o28 18,jA o28 19,jA o28 20,B (bA o28 21)]]),I v1,B v2,jA o28 5,jA o28 6,jA o28 7, .view Aa (wA o30 1),jA o30 2])
 else
 none
 else
 none
 else
 bif((v0++[[jA o28 0,jA o28 1,jA o28 2,jA o28 3,jA o28 4,jA o28 5,jA o28 6,jA o28 7,jA o28 8,jA o28 9,jA o28 10,jA o28 11,jA o28 12,B (bA o28 13),jA o28 14,B (bA o28 15),jA o28 16,jA o28 17,jA o28 18,jA o28 19,jA o28 20,B (bA o28 21)]]).length*176).ble 140737488355328 then
 some (0,[.view Ak (v0++[[jA o28 0,jA o28 1,jA o28 2,jA o28 3,jA o28 4,jA o28 5,jA o28 6,jA o28 7,jA o28 8,jA o28 9,jA o28 10,jA o28 11,jA o28 12,B (bA o28 13),jA o28 14,B (bA o28 15),jA o28 16,jA o28 17,jA o28 18,jA o28 19,jA o28 20,B (bA o28 21)]]),I v1,B v2,jA o28 5,jA o28 6,jA o28 7, .view Aa (wA o28 22),jA o28 23])
 else
 none
 else
 none
 else
 some (1,[.view Ak v0,B v2])
 else
 some (1,[.view Ak v0,B v2]):=by kernel_rfl
theorem Zfu (GO GJ Cq Ap A1:Fn) (N4:Lp) (x0:Rw) (x1:Int) (x2:Bool):Qkf GO GJ Cq Ap A1 N4 [.view Aa x0,I x1,B x2]=
 (A1 [.view Aa x0]).bind fun o31=>
 (Ap [I 9, .view Aa (wA o31 0),jA o31 1]).bind fun o32=>
 (Ap [I 9, .view Aa (wA o32 1),jA o32 2]).bind fun o33=>
 (Ap [I 9, .view Aa (wA o33 1),jA o33 2]).bind fun o34=>
 (N4 [.view Ak [],I x1,B x2,I (IntKind.i64.wrap (gA o32 0-4)),I (IntKind.i64.wrap (gA o33 0-4)),I (IntKind.i64.wrap (gA o34 0-4)), .view Aa (wA o34 1),jA o34 2]).bind fun o35=>
 bif o35.1.beq 1 then
 bif bA o35.2 1 then
 bif((wA o35.2 0++[[I 14,I 0,I 0,I 0,I 0,I 0,I 0,I 0,I 0,I 0,I 0,I 0,I 0,B false,I 0,B false,I 0,I 0,I 0,I 0,I 0,B false]]).length*176).ble 140737488355328 then
 some [.view Ak (wA o35.2 0++[[I 14,I 0,I 0,I 0,I 0,I 0,I 0,I 0,I 0,I 0,I 0,I 0,I 0,B false,I 0,B false,I 0,I 0,I 0,I 0,I 0,B false]])]
 else
 none
 else
 some [.view Ak (wA o35.2 0)]
 else
 none:=by kernel_rfl
def Qbo:=An (Qdh J7 Kv FD Bs Ce)
def Lr:=Qkf J7 Kv FD Bs Ce Qbo
theorem Qwk:Ai PG (Qbj J7 Kv FD Bs Ce):=Ao rfl ⟨Zp5,Zk5,Q1d,In,Pi,trivial⟩
theorem Zvr:Al PG (16,Ac T8 To Lr):=rw2 (C:=(Qx3 J7 Kv FD Bs Ce Qbo)) (fl fb Qwk) Qwk
def Ql2:Sk:=⟨[tf [CS.sl Aa]],[],[]⟩
def Qee:Sk:=⟨[TS.v true [ci,ci,ci]],[],[]⟩
def Q7s (M:Fn):Nat×Spec:=(47,Ac Ql2 Qee M)
def XK (Ap A1:Fn):Cfg:=cp [Id Ap,Pq A1] [48,45]
def Qin (Ap A1:Fn):Fn:=Am PG (XK Ap A1) 64 47 Ql2 Qee
theorem Zvq (Ap A1:Fn) (x0:Rw):Qin Ap A1 [.view Aa x0]=
 (A1 [.view Aa x0]).bind fun o4=>
 (Ap [I 900, .view Aa (wA o4 0),jA o4 1]).bind fun o5=>
 (Ap [I 200, .view Aa (wA o5 1),jA o5 2]).bind fun o6=>
 (Ap [I 16000, .view Aa (wA o6 1),jA o6 2]).bind fun o7=>
 some [I (IntKind.i64.wrap (1+gA o5 0)),I (IntKind.i64.wrap (2+gA o6 0)),I (IntKind.i64.wrap (1+gA o7 0))]:=by kernel_rfl
def OS:=Qin Bs Ce
theorem Zfd:Ai PG (XK Bs Ce):=Ao rfl ⟨In,Pi,trivial⟩
theorem Zaq:Al PG (47,Ac Ql2 Qee OS):=rw1 (C:=(XK Bs Ce)) Zfd
def Qb1:Sk:=⟨[tf [CS.ptr 20000 0]],[(20000,103,[CS.sl Aa,ci])],[]⟩
def Qh1:Sk:=⟨[TS.v true [ci,ci,ci,ci,ci,ci,ci,ci,ci,CS.sl Aa]],[(20000,103,[CS.sl Aa,ci])],[]⟩
def Zzn (M:Fn):Nat×Spec:=(84,Ac Qb1 Qh1 M)
def Qcn (Ap:Fn):Cfg:={spec:=H_ [Id Ap],eqOk:=JW,pure:=fun f=> !(AH [48] f),ownOff:=Q6n}
def Qzt:Sk:=⟨[tf [CS.ptr 20000 0],td,tf [CS.ptr 2 0],tf [CS.ptr 3 0],tf [ci],tf [ci],tf [ci]]++dd 72,[(2,26,[ci,ci,ci,ci,ci,ci,ci,ci,ci,CS.own 1002009 1]),(3,26,[ci,ci,ci,ci,ci,ci,ci,ci,ci,CS.own 1003009 1]),(20000,103,[CS.sl Aa,ci])],[(1002009,3,Aa),(1003009,3,Aa)]⟩
def Q3x:List (Ex×Sk):=[(Ex.exit 0,⟨[td,td,tf [CS.ptr 2 0],tf [CS.ptr 3 0]]++dd 75,[(2,26,[ci,ci,ci,ci,ci,ci,ci,ci,ci,CS.own 1002009 1]),(3,26,[ci,ci,ci,ci,ci,ci,ci,ci,ci,CS.own 1003009 1]),(20000,103,[CS.sl Aa,ci])],[(1002009,3,Aa),(1003009,3,Aa)]⟩)]
def S3 (Ap:Fn):Lp:=AP PG (Qcn Ap) 64 11 (AO PG 84 11) Qzt Q3x
def Q5a (Ap:Fn) (N11:Lp):Cfg:=(Qcn Ap).loop 11 Qzt Q3x N11
def Up (Ap:Fn) (N11:Lp):Fn:=Am PG (Q5a Ap N11) 64 84 Qb1 Qh1
theorem Qp4 (Ap:Fn) (v0 v1:Rw) (v2 v3 v4 v5 v6 v7 v8 v9 v10 v11 v12 v13 v14 v15 v16 v17 v18 v19 v20 v21 v22:Int) (v23:Rw) (v24:Int):S3 Ap [.view Aa v0, .view Aa v1,I v2,I v3,I v4,I v5,I v6,I v7,I v8,I v9,I v10,I v11,I v12,I v13,I v14,I v15,I v16,I v17,I v18,I v19,I v20,I v21,I v22, .view Aa v23,I v24]=
 bif decide (v4<v2)then
 bif((v1++[[I v3]]).length*8).ble 140737488355328 then
 (Ap [I (IntKind.i64.wrap (IntKind.i64.wrap (2*IntKind.i64.wrap (v22.tdiv 4))+1)), .view Aa v23,I v24]).bind fun o20=>
 some (0,[.view Aa v0, .view Aa (v1++[[I v3]]),I v2,I (mn (mx (IntKind.i64.wrap (IntKind.i64.wrap (v3+gA o20 0)-IntKind.i64.wrap (v22.tdiv 4))) (-4096)) 4096),I (IntKind.i64.wrap (v4+1)),I v5,I v6,I v7,I v8,I v9,I v10,I v11,I v12,I v13,I v14,I v15,I v16,I v17,I v18,I v19,I v20,I v21,I v22, .view Aa (wA o20 1),jA o20 2])
 else
 none
 else
 some (1,[.view Aa v0, .view Aa v1,I v5,I v6,I v7,I v8,I v9,I v10,I v11,I v12,I v13,I v14,I v15,I v16,I v17,I v18,I v19,I v20,I v21,I v22, .view Aa v23,I v24]):=by kernel_rfl
theorem Q86 (Ap:Fn) (N11:Lp) (x0:Rw) (x1:Int):Up Ap N11 [.view Aa x0,I x1]=
 (Ap [I 6, .view Aa x0,I x1]).bind fun o21=>
 bif decide (0<=gA o21 0)&&decide (gA o21 0<(↑[[I 8],[I 4],[I 5],[I 16],[I 23],[I 64]].length:Int))then
 (Ap [I 4, .view Aa (wA o21 1),jA o21 2]).bind fun o22=>
 bif decide (0<=gA o22 0)&&decide (gA o22 0<(↑[[I 0],[I 1],[I 3],[I 6]].length:Int))then
 (Ap [I 5, .view Aa (wA o22 1),jA o22 2]).bind fun o23=>
 bif decide (0<=gA o23 0)&&decide (gA o23 0<(↑[[I 40],[I 1],[I 3],[I 9],[I 1000]].length:Int))then
 (Ap [I 5, .view Aa (wA o23 1),jA o23 2]).bind fun o24=>
 bif decide (0<=gA o24 0)&&decide (gA o24 0<(↑[[I 20],[I 2],[I 3],[I 5],[I 1000]].length:Int))then
 (Ap [I 5, .view Aa (wA o24 1),jA o24 2]).bind fun o25=>
 bif decide (0<=gA o25 0)&&decide (gA o25 0<(↑[[I 30],[I 4],[I 5],[I 8],[I 1000]].length:Int))then
 (Ap [I 5, .view Aa (wA o25 1),jA o25 2]).bind fun o26=>
 bif gA o26 0==0 then
 some [I (Af (nth .dead (nth [] [[I 8],[I 4],[I 5],[I 16],[I 23],[I 64]] (gA o21 0).toNat) 0)),I (Af (nth .dead (nth [] [[I 40],[I 1],[I 3],[I 9],[I 1000]] (gA o23 0).toNat) 0)),I (Af (nth .dead (nth [] [[I 20],[I 2],[I 3],[I 5],[I 1000]] (gA o24 0).toNat) 0)),I (Af (nth .dead (nth [] [[I 30],[I 4],[I 5],[I 8],[I 1000]] (gA o25 0).toNat) 0)),I (-16777216),I 16777216,I (Af (nth .dead (nth [] [[I 0],[I 1],[I 3],[I 6]] (gA o22 0).toNat) 0)),I 0,I 0, .view Aa [], .view Aa (wA o26 1),jA o26 2]
 else
 (Ap [I 400, .view Aa (wA o26 1),jA o26 2]).bind fun o27=>
 (Ap [I 120, .view Aa (wA o27 1),jA o27 2]).bind fun o28=>
 (Ap [I 9, .view Aa (wA o28 1),jA o28 2]).bind fun o29=>
 (N11 [.view Aa [], .view Aa [],jA o26 0,I (IntKind.i64.wrap (gA o29 0-4)),I 0,I 0,I 0,I 0,I 0,I 0,I 0,I 0,I 0,I 0,I (Af (nth .dead (nth [] [[I 8],[I 4],[I 5],[I 16],[I 23],[I 64]] (gA o21 0).toNat) 0)),I (Af (nth .dead (nth [] [[I 40],[I 1],[I 3],[I 9],[I 1000]] (gA o23 0).toNat) 0)),I (Af (nth .dead (nth [] [[I 20],[I 2],[I 3],[I 5],[I 1000]] (gA o24 0).toNat) 0)),I (Af (nth .dead (nth [] [[I 30],[I 4],[I 5],[I 8],[I 1000]] (gA o25 0).toNat) 0)),I (-16777216),I 16777216,I (Af (nth .dead (nth [] [[I 0],[I 1],[I 3],[I 6]] (gA o22 0).toNat) 0)),I (IntKind.i64.wrap (gA o27 0-200)),I (IntKind.i64.wrap (4+gA o28 0)), .view Aa (wA o29 1),jA o29 2]).bind fun o30=>
 bif o30.1.beq 1 then
 some [jA o30.2 11,jA o30.2 12,jA o30.2 13,jA o30.2 14,jA o30.2 15,jA o30.2 16,jA o30.2 17,jA o30.2 18,jA o30.2 19, .view Aa (wA o30.2 1), .view Aa (wA o30.2 20),jA o30.2 21]
 else
 none
 else
 none
 else
 none
 else
 none
 else
 none
 else
 none:=by kernel_rfl
def Um:=An (S3 Bs)
def Ms:=Up Bs Um
theorem Qwc:Ai PG (Qcn Bs):=Ao rfl ⟨In,trivial⟩
theorem Zpt:Al PG (84,Ac Qb1 Qh1 Ms):=rw2 (C:=(Q5a Bs Um)) (fl fb Qwc) Qwc
def Qms:Sk:=⟨[tf [CS.sl Aa]],[],[]⟩
def Uw:Sk:=⟨[TS.v true [ci,ci,ci,ci,ci,ci,ci,ci,ci,CS.sl Aa,ci,ci,ci,ci,ci,ci,ci,ci,ci,CS.sl Aa,ci,ci,ci,ci,ci,ci,ci,ci,ci,CS.sl Aa]],[],[]⟩
def Z0d (M:Fn):Nat×Spec:=(46,Ac Qms Uw M)
def Qb2 (I8 A1:Fn):Cfg:=cp [Zzn I8,Pq A1] [84,45]
def Qty (I8 A1:Fn):Fn:=Am PG (Qb2 I8 A1) 64 46 Qms Uw
theorem Zbr (I8 A1:Fn) (x0:Rw):Qty I8 A1 [.view Aa x0]=
 (A1 [.view Aa x0]).bind fun o4=>
 (I8 [.view Aa (wA o4 0),jA o4 1]).bind fun o5=>
 (I8 [.view Aa (wA o5 10),jA o5 11]).bind fun o6=>
 (I8 [.view Aa (wA o6 10),jA o6 11]).bind fun o7=>
 some [jA o5 0,jA o5 1,jA o5 2,jA o5 3,jA o5 4,jA o5 5,jA o5 6,jA o5 7,jA o5 8, .view Aa (wA o5 9),jA o6 0,jA o6 1,jA o6 2,jA o6 3,jA o6 4,jA o6 5,jA o6 6,jA o6 7,jA o6 8, .view Aa (wA o6 9),jA o7 0,jA o7 1,jA o7 2,jA o7 3,jA o7 4,jA o7 5,jA o7 6,jA o7 7,jA o7 8, .view Aa (wA o7 9)]:=by kernel_rfl
def LW:=Qty Ms Ce
theorem Zmo:Ai PG (Qb2 Ms Ce):=Ao rfl ⟨Zpt,Pi,trivial⟩
theorem Zh8:Al PG (46,Ac Qms Uw LW):=rw1 (C:=(Qb2 Ms Ce)) Zmo
def Zd:Sk:=⟨[tf [CS.sl Aa],tf [CS.sl Aa]],[],[]⟩
def Xs:Sk:=⟨[TS.v true [ci,ci,ci,ci,ci,ci,ci,ci,ci,CS.sl Aa,ci,ci,ci,ci,ci,ci,ci,ci,ci,CS.sl Aa,ci,ci,ci,ci,ci,ci,ci,ci,ci,CS.sl Aa,ci,ci,ci,ci,ci]],[],[]⟩
def Zer (M:Fn):Nat×Spec:=(15,Ac Zd Xs M)
def VT (Ap Mu Nt A1:Fn):Cfg:=cp [Id Ap,Q7s Mu,Z0d Nt,Pq A1] [48,45]
def Qlf (Ap Mu Nt A1:Fn):Fn:=Am PG (VT Ap Mu Nt A1) 64 15 Zd Xs
theorem Zcu (Ap Mu Nt A1:Fn) (x0 x1:Rw):Qlf Ap Mu Nt A1 [.view Aa x0, .view Aa x1]=
 (A1 [.view Aa x1]).bind fun o5=>
 (Nt [.view Aa x0]).bind fun o6=>
 (Mu [.view Aa x1]).bind fun o7=>
 (Ap [I 60000, .view Aa (wA o5 0),I (mn 3 (x1.length:Int))]).bind fun o8=>
 (Ap [I 40, .view Aa (wA o8 1),jA o8 2]).bind fun o9=>
 some [jA o6 0,jA o6 1,jA o6 2,jA o6 3,jA o6 4,jA o6 5,jA o6 6,jA o6 7,jA o6 8, .view Aa (wA o6 9),jA o6 10,jA o6 11,jA o6 12,jA o6 13,jA o6 14,jA o6 15,jA o6 16,jA o6 17,jA o6 18, .view Aa (wA o6 19),jA o6 20,jA o6 21,jA o6 22,jA o6 23,jA o6 24,jA o6 25,jA o6 26,jA o6 27,jA o6 28, .view Aa (wA o6 29),jA o7 0,jA o7 1,jA o7 2,I (IntKind.i64.wrap (1+gA o8 0)),jA o9 0]:=by kernel_rfl
def Ls:=Qlf Bs OS LW Ce
theorem Zsx:Ai PG (VT Bs OS LW Ce):=Ao rfl ⟨In,Zaq,Zh8,Pi,trivial⟩
theorem Zlg:Al PG (15,Ac Zd Xs Ls):=rw1 (C:=(VT Bs OS LW Ce)) Zsx
def XB:Sk:=⟨[tf [CS.sl [Kd.sl Aa]]],[],[]⟩
def W6:Sk:=⟨[tf [CS.bool]],[],[]⟩
def Zki (M:Fn):Nat×Spec:=(44,Ac XB W6 M)
def C_cncmill_Few_0:Cfg:=cf []
def Q1m:Sk:=⟨[td,td,td,td,td,tf [CS.sl [Kd.sl Aa]],tf [ci],tf [ci]]++dd 7,[],[]⟩
def Qsy:List (Ex×Sk):=[(Ex.ret,⟨[td,td,tf [CS.bool]]++dd 12,[],[]⟩),(Ex.exit 0,⟨[td]++dd 14,[],[]⟩)]
def SL:Lp:=AP PG C_cncmill_Few_0 64 2 (AO PG 44 2) Q1m Qsy
def Q0x (N2:Lp):Cfg:=C_cncmill_Few_0.loop 2 Q1m Qsy N2
def T0 (N2:Lp):Fn:=Am PG (Q0x N2) 64 44 XB W6
theorem Q8q (v0:Rw) (v1 v2:Int):SL [.view [Kd.sl Aa] v0,I v1,I v2]=
 bif decide (v2<v1)then
 bif decide (0<=v2)&&decide (v2<(v0.length:Int))then
 bif decide ((↑(wA (nth [] v0 v2.toNat) 0).length:Int)>60)then
 some (1,[B false])
 else
 some (0,[.view [Kd.sl Aa] v0,I v1,I (IntKind.i64.wrap (v2+1))])
 else
 none
 else
 some (2,[]):=by kernel_rfl
theorem Q8b (N2:Lp) (x0:Rw):T0 N2 [.view [Kd.sl Aa] x0]=
 (N2 [.view [Kd.sl Aa] x0,I (x0.length:Int),I 0]).bind fun o1=>
 bif o1.1.beq 1 then
 some [B (bA o1.2 0)]
 else
 bif o1.1.beq 2 then
 some [B true]
 else
 none:=by kernel_rfl
def Q39:=An (SL)
def JY:=T0 Q39
theorem Qr0:Ai PG (C_cncmill_Few_0):=Ao rfl trivial
theorem Zkt:Al PG (44,Ac XB W6 JY):=rw2 (C:=(Q0x Q39)) (fl fb Qr0) Qr0
end Go.Bm
