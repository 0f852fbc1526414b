/- functions of the program and of the references, as models -/
import Derived.Test.YtommijghjlikkaaGreatMx1
set_option linter.unusedSimpArgs false
set_option linter.unusedVariables false
set_option maxRecDepth 100000
noncomputable section
open Go.IntKind (wrap)
namespace Go.Bm
open Go.Proofs
def Zn6 (M:Fn):Nat×Spec:=(99,Ad Qhl Qj5 M)
def UQ (Hn AO AZ:Fn):Cfg:=cr [Zu2 Hn,Pz AO,Qp AZ] [63] [63]
def Qls (Hn AO AZ:Fn):Fn:=Am PG (UQ Hn AO AZ) 64 99 Qhl Qj5
abbrev Px (x0:Int) (Hn:Fn) (c:Cv) (K:Kf) (o12:List AC) (h1_0:AC):Option (List AC):=
 bif decide (wrap .i64 (x0.tdiv 1048576)=(↑0:Int))then
 (Hn [I c.g0,I c.g1,I c.g2,I K.lag,jA o12 0,jA o12 1,jA o12 2,h1_0,jA o12 1,jA o12 2]).bind λo13=>
 some (Ab K {c with g0:=gA o13 0,g1:=gA o13 1,g2:=gA o13 2})
 else
 bif decide (wrap .i64 (x0.tdiv 1048576)=(↑(0+1):Int))then
 (Hn [I c.g0,I c.g1,I c.g2,I K.lag,jA o12 0,jA o12 1,jA o12 2,jA o12 0,h1_0,jA o12 2]).bind λo14=>
 some (Ab K {c with g0:=gA o14 0,g1:=gA o14 1,g2:=gA o14 2})
 else
 bif decide (wrap .i64 (x0.tdiv 1048576)=(↑(0+1+1):Int))then
 (Hn [I c.g0,I c.g1,I c.g2,I K.lag,jA o12 0,jA o12 1,jA o12 2,jA o12 0,jA o12 1,h1_0]).bind λo15=>
 some (Ab K {c with g0:=gA o15 0,g1:=gA o15 1,g2:=gA o15 2})
 else
 none
theorem Zxz (Hn AO AZ:Fn) (x0:Int) (K:Kf) (c:Cv):Qls Hn AO AZ (I x0::Ab K c)=
 bif decide (x0<0)then
 some (Ab K c)
 else
 bif decide (wrap .i64 (x0.tdiv 1048576)>2)then
 some (Ab K c)
 else
 (AZ (Ab K c)).bind λo11=>
 (AO (pxt K.p K.x K.t [jA o11 0])).bind λo12=>
 bif decide (wrap .i64 (x0.tdiv 1048576)=(↑0:Int))then
 Px x0 Hn c K o12 (I (wrap .i64 (gA o12 0-x0.tmod 1048576)))
 else
 bif decide (wrap .i64 (x0.tdiv 1048576)=(↑(0+1):Int))then
 Px x0 Hn c K o12 (I (wrap .i64 (gA o12 1-x0.tmod 1048576)))
 else
 bif decide (wrap .i64 (x0.tdiv 1048576)=(↑(0+1+1):Int))then
 Px x0 Hn c K o12 (I (wrap .i64 (gA o12 2-x0.tmod 1048576)))
 else
 none:=by kernel_rfl
def I3:=Qls OJ C8 C0
theorem Z4y:Ai PG (UQ OJ C8 C0):=Hf (rs:=[63]) rfl ⟨Zdk,PR,QW,trivial⟩ rfl (Ci rfl (Ci rfl (ER GA)))
theorem Z53:Al PG (99,Ad Qhl Qj5 I3):=rw1 (C:=(UQ OJ C8 C0)) Z4y
def Qlr:Sk:=⟨[],[],[]⟩
def Q4h (M:Fn):Nat×Spec:=(56,Ad Qlr WK M)
def Pw:Fn:=Am PG C_pulse_Sum_0 64 56 Qlr WK
theorem Zi:Pw []=
 some [I 0,I 0,I (-1)]:=by kernel_rfl
def Kt:=Pw
theorem Zp7:Ai PG (C_pulse_Sum_0):=Ao rfl trivial
theorem Qyr:Al PG (56,Ad Qlr WK Kt):=rw1 (C:=C_pulse_Sum_0) Zp7
def Zgc (M:Fn):Nat×Spec:=(144,Ad Qao WK M)
def Qpw:Fn:=Am PG C_pulse_Sum_0 64 144 Qao WK
theorem Zjp (x0 x1 x2 x3 x4:Int):Qpw [I x0,I x1,I x2,I x3,I x4]=
 bif x0==2 then
 some [I x0,I x1,I x2]
 else
 bif x1==0 then
 some [I 1,I x3,I x4]
 else
 some [I 1,I x1,I x2]:=by kernel_rfl
def Po:=Qpw
theorem Zn1:Ai PG (C_pulse_Sum_0):=Ao rfl trivial
theorem Zyt:Al PG (144,Ad Qao WK Po):=rw1 (C:=C_pulse_Sum_0) Zn1
def Qmz:Sk:=⟨[TS.v true [ci,ci,ci],TS.v true [ci,ci,ci]],[],[]⟩
def Z6g (M:Fn):Nat×Spec:=(98,Ad Qmz WK M)
def Qh9 (F8 K6:Fn):Cfg:=cf [Q4h F8,Zgc K6]
def Qoi (F8 K6:Fn):Fn:=Am PG (Qh9 F8 K6) 64 98 Qmz WK
theorem Zxb (F8 K6:Fn) (x0 x1 x2 x3 x4 x5:Int):Qoi F8 K6 [I x0,I x1,I x2,I x3,I x4,I x5]=
 bif x4==10 then
 some [I 2,I 22,I (-1)]
 else
 bif x4==9 then
 (K6 [I x0,I x1,I x2,I 21,I (-1)]).bind λo3=>
 some [jA o3 0,jA o3 1,jA o3 2]
 else
 bif x4==8 then
 bif decide (x5>=0)then
 bif decide (x5<=2)then
 (K6 [I x0,I x1,I x2,I 20,I x5]).bind λo4=>
 some [jA o4 0,jA o4 1,jA o4 2]
 else
 some [I x0,I x1,I x2]
 else
 some [I x0,I x1,I x2]
 else
 bif x4==11 then
 (F8 []).bind λo5=>
 some [jA o5 0,jA o5 1,jA o5 2]
 else
 some [I x0,I x1,I x2]:=by kernel_rfl
def Ui:=Qoi Kt Po
theorem Zf3:Ai PG (Qh9 Kt Po):=Ao rfl ⟨Qyr,Zyt,trivial⟩
theorem Zii:Al PG (98,Ad Qmz WK Ui):=rw1 (C:=(Qh9 Kt Po)) Zf3
def Qoy:Sk:=⟨[tf [CS.bool],tf [ci]],[],[]⟩
def Z0d (M:Fn):Nat×Spec:=(143,Ad Qoy Xp M)
def Qcg:Fn:=Am PG C_pulse_Sum_0 64 143 Qoy Xp
theorem Zgv (x0:Bool) (x1:Int):Qcg [B x0,I x1]=
 bif x1==0 then
 some [B false]
 else
 bif x1==1 then
 some [B true]
 else
 some [B x0]:=by kernel_rfl
def Qd:=Qcg
theorem Znf:Ai PG (C_pulse_Sum_0):=Ao rfl trivial
theorem Zc6:Al PG (143,Ad Qoy Xp Qd):=rw1 (C:=C_pulse_Sum_0) Znf
def Qj2:Sk:=⟨[TS.v true [ci,ci,CS.bool,CS.bool,CS.bool],TS.v true [ci,ci,ci]],[],[]⟩
def Qqe:Sk:=⟨[TS.v true [ci,ci,CS.bool,CS.bool,CS.bool]],[],[]⟩
def Zy3 (M:Fn):Nat×Spec:=(97,Ad Qj2 Qqe M)
def Qp1 (Le:Fn):Cfg:=cf [Z0d Le]
def UF (Le:Fn):Fn:=Am PG (Qp1 Le) 64 97 Qj2 Qqe
theorem Q95 (Le:Fn) (x0 x1:Int) (x2 x3 x4:Bool) (x5 x6 x7:Int):UF Le [I x0,I x1,B x2,B x3,B x4,I x5,I x6,I x7]=
 bif x6==1 then
 bif decide (0<=x7)then
 bif decide (x7<=200)then
 some [I x7,I x1,B x2,B x3,B x4]
 else
 some [I x0,I x1,B x2,B x3,B x4]
 else
 some [I x0,I x1,B x2,B x3,B x4]
 else
 bif x6==2 then
 bif decide (0<=x7)then
 bif decide (x7<=100)then
 some [I x0,I x7,B x2,B x3,B x4]
 else
 some [I x0,I x1,B x2,B x3,B x4]
 else
 some [I x0,I x1,B x2,B x3,B x4]
 else
 bif x6==3 then
 some [I x0,I x1,B true,B x3,B x4]
 else
 bif x6==4 then
 some [I x0,I x1,B false,B x3,B x4]
 else
 bif x6==5 then
 (Le [B x3,I x7]).bind λo2=>
 some [I x0,I x1,B x2,B (bA o2 0),B x4]
 else
 bif x6==6 then
 (Le [B x4,I x7]).bind λo3=>
 some [I x0,I x1,B x2,B x3,B (bA o3 0)]
 else
 some [I x0,I x1,B x2,B x3,B x4]:=by kernel_rfl
def Sx:=UF Qd
theorem Zud:Ai PG (Qp1 Qd):=Ao rfl ⟨Zc6,trivial⟩
theorem Z1c:Al PG (97,Ad Qj2 Qqe Sx):=rw1 (C:=(Qp1 Qd)) Zud
def WE:Sk:=⟨[tf [CS.ptr 20000 0],TS.v true [ci,ci,ci]],[(20000,119,cS)],[]⟩
def Z29 (M:Fn):Nat×Spec:=(60,Ad WE Qj5 M)
def Qb7 (Ol NM Ng OW O2:Fn):Cfg:=cp [Zm1 Ol,Zgj NM,Zn6 Ng,Z6g OW,Zy3 O2] [101,100,99]
def Uh (Ol NM Ng OW O2:Fn):Fn:=Am PG (Qb7 Ol NM Ng OW O2) 64 60 WE Qj5
theorem Q1e (Ol NM Ng OW O2:Fn) (x0 x1 x2:Int) (K:Kf) (c:Cv):Uh Ol NM Ng OW O2 (I x0::I x1::I x2::Ab K c)=
 (O2 [I c.o0,I c.o1,B c.o2,B c.o3,B c.o4,I x0,I x1,I x2]).bind λo5=>
 (OW [I c.g0,I c.g1,I c.g2,I x0,I x1,I x2]).bind λo6=>
 bif x1==13 then
 (Ng (I x2::Ab K {c with o0:=gA o5 0,o1:=gA o5 1,o2:=bA o5 2,o3:=bA o5 3,o4:=bA o5 4,g0:=gA o6 0,g1:=gA o6 1,g2:=gA o6 2})).bind λo7=>
 some (cR 0 o7)
 else
 bif x1==11 then
 some (Ab K {c with o0:=gA o5 0,o1:=gA o5 1,o2:=true,o3:=bA o5 3,o4:=bA o5 4,g0:=gA o6 0,g1:=gA o6 1,g2:=gA o6 2})
 else
 bif x1==12 then
 (NM (Ab K {c with o0:=gA o5 0,o1:=gA o5 1,o2:=bA o5 2,o3:=bA o5 3,o4:=bA o5 4,g0:=gA o6 0,g1:=gA o6 1,g2:=gA o6 2})).bind λo8=>
 some (cR 0 o8)
 else
 bif x1==7 then
 (Ol (I x2::Ab K {c with o0:=gA o5 0,o1:=gA o5 1,o2:=bA o5 2,o3:=bA o5 3,o4:=bA o5 4,g0:=gA o6 0,g1:=gA o6 1,g2:=gA o6 2})).bind λo9=>
 some (cR 0 o9)
 else
 bif x1==4 then
 some (Ab K {c with o0:=gA o5 0,o1:=gA o5 1,o2:=bA o5 2,o3:=bA o5 3,o4:=bA o5 4,g0:=gA o6 0,g1:=gA o6 1,g2:=gA o6 2,aJ:=true})
 else
 some (Ab K {c with o0:=gA o5 0,o1:=gA o5 1,o2:=bA o5 2,o3:=bA o5 3,o4:=bA o5 4,g0:=gA o6 0,g1:=gA o6 1,g2:=gA o6 2}):=by kernel_rfl
def JL:=Uh Q3 L5 I3 Ui Sx
theorem Zqz:Ai PG (Qb7 Q3 L5 I3 Ui Sx):=Ao rfl ⟨Z4q,Zwx,Z53,Zii,Z1c,trivial⟩
theorem Z1o:Al PG (60,Ad WE Qj5 JL):=rw1 (C:=(Qb7 Q3 L5 I3 Ui Sx)) Zqz
def Qhe:Sk:=⟨[tf [CS.ptr 20000 0],tf [CS.sl kPt]],[(20000,119,cS)],[]⟩
def Qm9:Sk:=⟨[TS.v true ([CS.sl kPt,CS.sl Aa]++cc 7)],[(20000,119,cS)],[]⟩
def Q5y (M:Fn):Nat×Spec:=(21,Ad Qhe Qm9 M)
def Xx (Cr CA EF Ep EB Ey Ez BZ AZ Di Dk Eu:Fn):Cfg:=cr [Znc Cr,Zrn CA,Zc2 EF,Zu9 Ep,Zto EB,Zmo Ey,Zo6 Ez,Qyv BZ,Qp AZ,Z3n Di,Zcm Dk,Z29 Eu] [71,70,69,68,67,66,65,63,61,60] [63,61]
def Q6t:Sk:=⟨[tf [CS.ptr 20000 0],td,td,td,tf [CS.ptr 4 0]]++dd 14++[tf [CS.sl kPt],tf [ci],tf [ci]]++dd 93,[(4,46,[CS.sl kPt,CS.sl Aa]++cc 7),(20000,119,cS)],[]⟩
def Qub:List (Ex×Sk):=[(Ex.exit 0,⟨[tf [CS.ptr 20000 0],td,td,td,tf [CS.ptr 4 0]]++dd 110,[(4,46,[CS.sl kPt,CS.sl Aa]++cc 7),(20000,119,cS)],[]⟩)]
def O8 (Cr CA EF Ep EB Ey Ez BZ AZ Di Dk Eu:Fn):Lp:=AS PG (Xx Cr CA EF Ep EB Ey Ez BZ AZ Di Dk Eu) 64 3 (AV PG 21 3) Q6t Qub
def Qrg (Cr CA EF Ep EB Ey Ez BZ AZ Di Dk Eu:Fn) (N3:Lp):Cfg:=(Xx Cr CA EF Ep EB Ey Ez BZ AZ Di Dk Eu).loop 3 Q6t Qub N3
def Q91:Sk:=⟨[tf [CS.ptr 20000 0],td,td,td,tf [CS.ptr 4 0],td,td,tf [ci],tf [CS.ptr 8 0]]++dd 81++[tf [CS.bsl 90 5],tf [ci],tf [ci]]++dd 22,[(4,46,[CS.sl kPt,CS.sl Aa]++cc 7),(8,46,[CS.sl kPt,CS.sl Aa]++cc 7),(90,125,[CS.clo 65 [(20000,0)] [],CS.clo 66 [(20000,0)] [],CS.clo 67 [(20000,0)] [],CS.clo 68 [(20000,0)] [],CS.clo 69 [(20000,0)] []]),(20000,119,cS)],[]⟩
def Qq2:List (Ex×Sk):=[(Ex.exit 2,⟨[tf [CS.ptr 20000 0],td,td,td,tf [CS.ptr 4 0],td,td,tf [ci],tf [CS.ptr 8 0]]++dd 106,[(4,46,[CS.sl kPt,CS.sl Aa]++cc 7),(8,46,[CS.sl kPt,CS.sl Aa]++cc 7),(20000,119,cS)],[]⟩)]
def EO (Cr CA EF Ep EB Ey Ez BZ AZ Di Dk Eu:Fn) (N3:Lp):Lp:=AS PG (Qrg Cr CA EF Ep EB Ey Ez BZ AZ Di Dk Eu N3) 64 16 (AV PG 21 16) Q91 Qq2
def Qtb (Cr CA EF Ep EB Ey Ez BZ AZ Di Dk Eu:Fn) (N3 N16:Lp):Cfg:=(Qrg Cr CA EF Ep EB Ey Ez BZ AZ Di Dk Eu N3).loop 16 Q91 Qq2 N16
def RI (Cr CA EF Ep EB Ey Ez BZ AZ Di Dk Eu:Fn) (N3 N16:Lp):Fn:=Am PG (Qtb Cr CA EF Ep EB Ey Ez BZ AZ Di Dk Eu N3 N16) 64 21 Qhe Qm9
theorem Q0v (Cr CA EF Ep EB Ey Ez BZ AZ Di Dk Eu:Fn) (v0:Rw) (v1 v2:Int) (v3 v4:Rw) (v5 v6 v7 v8 v9 v10 v11:Int) (K:Kf) (c:Cv):O8 Cr CA EF Ep EB Ey Ez BZ AZ Di Dk Eu (.view kPt v0::I v1::I v2:: .view kPt v3:: .view Aa v4::I v5::I v6::I v7::I v8::I v9::I v10::I v11::Ab K c)=
 bif decide (v2<v1)then
 bif decide (0<=v2)&&decide (v2<(v0.length:Int))then
 (Eu (jA (nth [] v0 v2.toNat) 0::jA (nth [] v0 v2.toNat) 1::jA (nth [] v0 v2.toNat) 2::Ab K c)).bind λo54=>
 some (0,(.view kPt v0::I v1::I (wrap .i64 (v2+1)):: .view kPt v3:: .view Aa v4::I v5::I v6::I v7::I v8::I v9::I v10::I v11::cR 0 o54))
 else
 none
 else
 some (1,(.view kPt v3:: .view Aa v4::I v5::I v6::I v7::I v8::I v9::I v10::I v11::Ab K c)):=by kernel_rfl
abbrev OX (v0:Int) (v3 v4:Rw) (v5 v6 v7 v8 v9 v10 v11:Int) (v12 v13:Rw) (v15 v16 v17 v18 v19 v20 v1 v2 v14:Int) (h1_0:Bool) (h1_1:AC) (h1_2:List AC):Option (Nat×List AC):=
 bif h1_0 then
 some (1,(I v0:: .view kPt v3:: .view Aa v4::I v5::I v6::I v7::I v8::I v9::I v10::I v11:: .view kPt v12:: .view Aa v13::h1_1::I v15::I v16::I v17::I v18::I v19::I v20::h1_2))
 else
 some (0,(I v0::I v1::I (wrap .i64 (v2+1)):: .view kPt v3:: .view Aa v4::I v5::I v6::I v7::I v8::I v9::I v10::I v11:: .view kPt v12:: .view Aa v13::I v14::I v15::I v16::I v17::I v18::I v19::I v20::h1_2))
theorem Qtu (Cr CA EF Ep EB Ey Ez BZ AZ Di Dk Eu:Fn) (N3:Lp) (v0 v1 v2:Int) (v3 v4:Rw) (v5 v6 v7 v8 v9 v10 v11:Int) (v12 v13:Rw) (v14 v15 v16 v17 v18 v19 v20:Int) (K:Kf) (c:Cv):EO Cr CA EF Ep EB Ey Ez BZ AZ Di Dk Eu N3 (I v0::I v1::I v2:: .view kPt v3:: .view Aa v4::I v5::I v6::I v7::I v8::I v9::I v10::I v11:: .view kPt v12:: .view Aa v13::I v14::I v15::I v16::I v17::I v18::I v19::I v20::Ab K c)=
 bif decide (v2<v1)then
 bif decide (v2=(↑0:Int))then
 (Ez (Ab K c)).bind λo55=>
 OX v0 v3 v4 v5 v6 v7 v8 v9 v10 v11 v12 v13 v15 v16 v17 v18 v19 v20 v1 v2 v14 (bA o55 1) (jA o55 0) (cR 2 o55)
 else
 bif decide (v2=(↑(0+1):Int))then
 (Ey (Ab K c)).bind λo56=>
 OX v0 v3 v4 v5 v6 v7 v8 v9 v10 v11 v12 v13 v15 v16 v17 v18 v19 v20 v1 v2 v14 (bA o56 1) (jA o56 0) (cR 2 o56)
 else
 bif decide (v2=(↑(0+1+1):Int))then
 (EB (Ab K c)).bind λo57=>
 OX v0 v3 v4 v5 v6 v7 v8 v9 v10 v11 v12 v13 v15 v16 v17 v18 v19 v20 v1 v2 v14 (bA o57 1) (jA o57 0) (cR 2 o57)
 else
 bif decide (v2=(↑(0+1+1+1):Int))then
 (Ep (Ab K c)).bind λo58=>
 OX v0 v3 v4 v5 v6 v7 v8 v9 v10 v11 v12 v13 v15 v16 v17 v18 v19 v20 v1 v2 v14 (bA o58 1) (jA o58 0) (cR 2 o58)
 else
 bif decide (v2=(↑(0+1+1+1+1):Int))then
 (EF (Ab K c)).bind λo59=>
 OX v0 v3 v4 v5 v6 v7 v8 v9 v10 v11 v12 v13 v15 v16 v17 v18 v19 v20 v1 v2 v14 (bA o59 1) (jA o59 0) (cR 2 o59)
 else
 none
 else
 some (1,(I v0:: .view kPt v3:: .view Aa v4::I v5::I v6::I v7::I v8::I v9::I v10::I v11:: .view kPt v12:: .view Aa v13::I v14::I v15::I v16::I v17::I v18::I v19::I v20::Ab K c)):=by kernel_rfl
abbrev Gl (N16:Lp) (o60:Nat×List AC) (CA Cr:Fn) (h1_0:AC) (h1_1:List AC):Option (List AC):=
 (N16 (h1_0::I (↑5:Int)::I 0:: .view kPt (wA o60.2 0):: .view Aa (wA o60.2 1)::jA o60.2 2::jA o60.2 3::jA o60.2 4::jA o60.2 5::jA o60.2 6::jA o60.2 7::jA o60.2 8:: .view kPt []:: .view Aa []::I 0::I 0::I 0::I 0::I 0::I 0::I 0::h1_1)).bind λo65=>
 bif o65.1.beq 1 then
 bif gA o65.2 12==0 then
 (CA (cR 19 o65.2)).bind λo66=>
 (Cr (jA o65.2 0::(cR 1 o66++[.view kPt (wA o65.2 10), .view Aa (wA o65.2 11),jA o66 0,jA o65.2 13,jA o65.2 14,jA o65.2 15,jA o65.2 16,jA o65.2 17,jA o65.2 18]))).bind λo67=>
 some (.view kPt (wA o67 90):: .view Aa (wA o67 91)::jA o67 92::jA o67 93::jA o67 94::jA o67 95::jA o67 96::jA o67 97::jA o67 98::cR 0 o67)
 else
 (Cr (jA o65.2 0::(cR 19 o65.2++[.view kPt (wA o65.2 10), .view Aa (wA o65.2 11),jA o65.2 12,jA o65.2 13,jA o65.2 14,jA o65.2 15,jA o65.2 16,jA o65.2 17,jA o65.2 18]))).bind λo68=>
 some (.view kPt (wA o68 90):: .view Aa (wA o68 91)::jA o68 92::jA o68 93::jA o68 94::jA o68 95::jA o68 96::jA o68 97::jA o68 98::cR 0 o68)
 else
 none
abbrev Qkz (Dk:Fn) (o60:Nat×List AC) (Di AZ BZ:Fn) (N16:Lp) (CA Cr:Fn):Option (List AC):=
 (Dk (Dp (cR 9 o60.2) [(58,B true),(86,jA o60.2 76)])).bind λo61=>
 bif !bA o61 0 then
 (Di [jA o60.2 73,jA o60.2 74,jA o60.2 75,jA o60.2 76,jA o60.2 42]).bind λo62=>
 (AZ (Dp (cR 9 o60.2) [(58,B true),(64,jA o62 0),(65,jA o62 1),(66,jA o62 2),(67,jA o62 3),(86,jA o60.2 76)])).bind λo63=>
 (BZ [jA o60.2 59,jA o60.2 60,jA o60.2 61,jA o60.2 62,jA o60.2 63,jA o60.2 64]).bind λo64=>
 Gl N16 o60 CA Cr (jA o63 0) (Dp (cR 9 o60.2) [(58,B true),(64,jA o62 0),(65,jA o62 1),(66,jA o62 2),(67,jA o62 3),(86,jA o60.2 76),(88,B (bA o64 0))])
 else
 (AZ (Dp (cR 9 o60.2) [(58,B true),(86,jA o60.2 76)])).bind λo69=>
 (BZ [jA o60.2 59,jA o60.2 60,jA o60.2 61,jA o60.2 62,jA o60.2 63,jA o60.2 64]).bind λo70=>
 Gl N16 o60 CA Cr (jA o69 0) (Dp (cR 9 o60.2) [(58,B true),(86,jA o60.2 76),(88,B (bA o70 0))])
theorem Q75 (Cr CA EF Ep EB Ey Ez BZ AZ Di Dk Eu:Fn) (N3 N16:Lp) (x0:Rw) (K:Kf) (c:Cv):RI Cr CA EF Ep EB Ey Ez BZ AZ Di Dk Eu N3 N16 (.view kPt x0::Ab K c)=
 (N3 (.view kPt x0::I (x0.length:Int)::I 0:: .view kPt []:: .view Aa []::I 0::I 0::I 0::I 0::I 0::I 0::I 0::Ab K {c with aJ:=false,aL:=false})).bind λo60=>
 bif o60.1.beq 1 then
 bif bA o60.2 86 then
 Qkz Dk o60 Di AZ BZ N16 CA Cr
 else
 bif gA o60.2 70 !=0 then
 Qkz Dk o60 Di AZ BZ N16 CA Cr
 else
 (Dk (Dp (cR 9 o60.2) [(86,jA o60.2 76)])).bind λo89=>
 bif !bA o89 0 then
 (Di [jA o60.2 73,jA o60.2 74,jA o60.2 75,jA o60.2 76,jA o60.2 42]).bind λo90=>
 (AZ (Dp (cR 9 o60.2) [(64,jA o90 0),(65,jA o90 1),(66,jA o90 2),(67,jA o90 3),(86,jA o60.2 76)])).bind λo91=>
 (BZ [jA o60.2 59,jA o60.2 60,jA o60.2 61,jA o60.2 62,jA o60.2 63,jA o60.2 64]).bind λo92=>
 Gl N16 o60 CA Cr (jA o91 0) (Dp (cR 9 o60.2) [(64,jA o90 0),(65,jA o90 1),(66,jA o90 2),(67,jA o90 3),(86,jA o60.2 76),(88,B (bA o92 0))])
 else
 (AZ (Dp (cR 9 o60.2) [(86,jA o60.2 76)])).bind λo97=>
 (BZ [jA o60.2 59,jA o60.2 60,jA o60.2 61,jA o60.2 62,jA o60.2 63,jA o60.2 64]).bind λo98=>
 Gl N16 o60 CA Cr (jA o97 0) (Dp (cR 9 o60.2) [(86,jA o60.2 76),(88,B (bA o98 0))])
 else
 none:=by kernel_rfl
def RK:=An (O8 KL JT IV Kn Lr La Lv Ht C0 JW Kx JL)
def Qwd:=An (EO KL JT IV Kn Lr La Lv Ht C0 JW Kx JL RK)
def HR:=RI KL JT IV Kn Lr La Lv Ht C0 JW Kx JL RK Qwd
theorem U5:Ai PG (Xx KL JT IV Kn Lr La Lv Ht C0 JW Kx JL):=Hf (rs:=[63,61]) rfl ⟨Zpr,Zkl,Zbc,Zrd,Zuc,Z39,Zlr,Qwt,QW,Zx8,Z56,Z1o,trivial⟩ rfl (Ci rfl (Ci rfl (Ci rfl (Ci rfl (Ci rfl (Ci rfl (Ci rfl (Ci rfl (ER (Ci rfl (ER (Ci rfl GA))))))))))))
theorem Q3m:Al PG (21,Ad Qhe Qm9 HR):=rw2 (C:=(Qtb KL JT IV Kn Lr La Lv Ht C0 JW Kx JL RK Qwd)) (fl (fl fb U5) U5) U5
def Qp4:Sk:=⟨[TS.v true ([CS.sl Ap]++cc 5)],[(20000,119,cS)],[]⟩
def Zei (M:Fn):Nat×Spec:=(27,Ad Qpm Qp4 M)
def Qsm:Fn:=Am PG C_pulse_Sum_0 64 27 Qpm Qp4
theorem Zp1 (K:Kf) (c:Cv):Qsm (Ab K c)=
 bif((K.t.aE.map AB).length*80).ble 140737488355328 then
 some (AW K.t++Ab K c)
 else
 none:=by kernel_rfl
def Nv:=Qsm
theorem Zqk:Ai PG (C_pulse_Sum_0):=Ao rfl trivial
theorem Ztw:Al PG (27,Ad Qpm Qp4 Nv):=rw1 (C:=C_pulse_Sum_0) Zqk
def Xd:Sk:=⟨[TS.v true [ci,ci,ci,CS.sl Ag,CS.sl kPt]],[(20000,119,cS)],[]⟩
def Zqf (M:Fn):Nat×Spec:=(26,Ad Qpm Xd M)
def Q7t:Fn:=Am PG C_pulse_Sum_0 64 26 Qpm Xd
theorem Zoe (K:Kf) (c:Cv):Q7t (Ab K c)=
 bif((K.p.aF.map Au).length*56).ble 140737488355328 then
 bif((K.p.aD.map At).length*24).ble 140737488355328 then
 some (Bj K.p++Ab K c)
 else
 none
 else
 none:=by kernel_rfl
def OI:=Q7t
theorem Zw6:Ai PG (C_pulse_Sum_0):=Ao rfl trivial
theorem Z5i:Al PG (26,Ad Qpm Xd OI):=rw1 (C:=C_pulse_Sum_0) Zw6
def Qbr:Sk:=⟨[TS.v true (cc 13++[CS.bool,ci,CS.bool]++cc 5++[CS.bool])],[],[]⟩
def UG (M:Fn):Nat×Spec:=(81,Ad Qbr Xp M)
def Qr5:Fn:=Am PG C_pulse_Sum_0 64 81 Qbr Xp
theorem Z3e (x0 x1 x2 x3 x4 x5 x6 x7 x8 x9 x10 x11 x12:Int) (x13:Bool) (x14:Int) (x15:Bool) (x16 x17 x18 x19 x20:Int) (x21:Bool):Qr5 [I x0,I x1,I x2,I x3,I x4,I x5,I x6,I x7,I x8,I x9,I x10,I x11,I x12,B x13,I x14,B x15,I x16,I x17,I x18,I x19,I x20,B x21]=
 bif x0==2 then
 some [B !(x2==x5&&(x3==x6&&(x4==x7&&true)))]
 else
 some [B false]:=by kernel_rfl
def EM:=Qr5
theorem Zta:Ai PG (C_pulse_Sum_0):=Ao rfl trivial
theorem RH:Al PG (81,Ad Qbr Xp EM):=rw1 (C:=C_pulse_Sum_0) Zta
def SU (M:Fn):Nat×Spec:=(123,Ad Qik Xp M)
def Qs4:Fn:=Am PG C_pulse_Sum_0 64 123 Qik Xp
theorem Zv1 (x0:Int):Qs4 [I x0]=
 bif decide (x0>=1)then
 some [B (decide (x0<=6))]
 else
 some [B false]:=by kernel_rfl
def DQ:=Qs4
theorem Znr:Ai PG (C_pulse_Sum_0):=Ao rfl trivial
theorem SH:Al PG (123,Ad Qik Xp DQ):=rw1 (C:=C_pulse_Sum_0) Znr
def Q2x (M:Fn):Nat×Spec:=(169,Ad Qbr Xp M)
def Q4d:Fn:=Am PG C_pulse_Sum_0 64 169 Qbr Xp
theorem Zzm (x0 x1 x2 x3 x4 x5 x6 x7 x8 x9 x10 x11 x12:Int) (x13:Bool) (x14:Int) (x15:Bool) (x16 x17 x18 x19 x20:Int) (x21:Bool):Q4d [I x0,I x1,I x2,I x3,I x4,I x5,I x6,I x7,I x8,I x9,I x10,I x11,I x12,B x13,I x14,B x15,I x16,I x17,I x18,I x19,I x20,B x21]=
 bif x0==5 then
 some [B true]
 else
 some [B (x0==6)]:=by kernel_rfl
def HT:=Q4d
theorem Zxr:Ai PG (C_pulse_Sum_0):=Ao rfl trivial
theorem Quu:Al PG (169,Ad Qbr Xp HT):=rw1 (C:=C_pulse_Sum_0) Zxr
def U4:Sk:=⟨[tf [CS.sl Aj],tf [ci]],[],[]⟩
def Zjy (M:Fn):Nat×Spec:=(173,Ad U4 Xp M)
def ZK (AQ CF:Fn):Cfg:=cf [SU AQ,Q2x CF]
def Qvm:Sk:=⟨dd 23++[tf [CS.sl Aj],tf [ci],tf [ci]]++dd 9,[],[]⟩
def Q08:List (Ex×Sk):=[(Ex.ret,⟨[td,td,td,td,tf [CS.bool]]++dd 30,[],[]⟩),(Ex.exit 0,⟨[td]++dd 34,[],[]⟩)]
def LQ (AQ CF:Fn):Lp:=AS PG (ZK AQ CF) 64 4 (AV PG 173 4) Qvm Q08
def Quk (AQ CF:Fn) (N4:Lp):Cfg:=(ZK AQ CF).loop 4 Qvm Q08 N4
def XX (AQ CF:Fn) (N4:Lp):Fn:=Am PG (Quk AQ CF N4) 64 173 U4 Xp
theorem Q74 (AQ CF:Fn) (v0:Rw) (v1 v2:Int):LQ AQ CF [.view Aj v0,I v1,I v2]=
 bif decide (v2<v1)then
 bif decide (0<=v2)&&decide (v2<(v0.length:Int))then
 (AQ [jA (nth [] v0 v2.toNat) 0]).bind λo5=>
 bif bA o5 0 then
 (CF (AN Aj (nth [] v0 v2.toNat))).bind λo6=>
 some (1,[B (bA o6 0)])
 else
 some (0,[.view Aj v0,I v1,I (wrap .i64 (v2+1))])
 else
 none
 else
 some (2,[]):=by kernel_rfl
theorem Zv7 (AQ CF:Fn) (N4:Lp) (x0:Rw) (x1:Int):XX AQ CF N4 [.view Aj x0,I x1]=
 bif decide (0<=x1)&&decide (x1<(x0.length:Int))then
 bif gA (nth [] x0 x1.toNat) 18==0 then
 some [B true]
 else
 bif decide (0<=x1)&&decide (x1<(x0.length:Int))then
 (CF (AN Aj (nth [] x0 x1.toNat))).bind λo7=>
 bif bA o7 0 then
 some [B true]
 else
 bif decide (0<=wrap .i64 (x1+1))&&decide (wrap .i64 (x1+1)<=(x0.length:Int))then
 (N4 [.view Aj (List.drop (wrap .i64 (x1+1)).toNat x0),I (↑(List.drop (wrap .i64 (x1+1)).toNat x0).length:Int),I 0]).bind λo8=>
 bif o8.1.beq 1 then
 some [B (bA o8.2 0)]
 else
 bif o8.1.beq 2 then
 some [B false]
 else
 none
 else
 none
 else
 none
 else
 none:=by kernel_rfl
def Q1y:=An (LQ DQ HT)
def PT:=XX DQ HT Q1y
theorem Qt3:Ai PG (ZK DQ HT):=Ao rfl ⟨SH,Quu,trivial⟩
theorem Zb1:Al PG (173,Ad U4 Xp PT):=rw2 (C:=(Quk DQ HT Q1y)) (fl fb Qt3) Qt3
def Qho:Sk:=⟨[tf [CS.ptr 20000 0],tf [CS.sl Aj],tf [ci]],[(20000,142,[ci,ci,ci,CS.own 20000 7,CS.own 20001 3,CS.bool,ci,ci,ci])],[(20000,162,Ag),(20001,76,kPt)]⟩
def Qj0:Sk:=⟨[TS.tup []],[(20000,142,[ci,ci,ci,CS.own 20000 7,CS.own 20001 3,CS.bool,ci,ci,ci])],[(20000,162,Ag),(20001,76,kPt)]⟩
def Z3g (M:Fn):Nat×Spec:=(127,Ad Qho Qj0 M)
def Qab (NN AQ:Fn):Cfg:=cf [Zjy NN,SU AQ]
def Qeo (NN AQ:Fn):Fn:=Am PG (Qab NN AQ) 64 127 Qho Qj0
abbrev Qb4 (AQ:Fn) (x2:Rw) (x3:Int) (x1:Rw) (x8:Int) (x0:Rw) (x4 x5 x6:Int) (x7:Bool) (x9 x10:Int):Option (List AC):=
 (AQ [jA (nth [] x2 x3.toNat) 0]).bind λo6=>
 bif bA o6 0 then
 bif((x1++[[I x8,I 2,I x3]]).length*24).ble 140737488355328 then
 some [.view Ag x0, .view kPt (x1++[[I x8,I 2,I x3]]),I x4,I x5,I x6,B x7,I x8,I x9,I x10]
 else
 none
 else
 bif gA (nth [] x2 x3.toNat) 0==10 then
 bif((x1++[[I x8,I 5,I x3]]).length*24).ble 140737488355328 then
 some [.view Ag x0, .view kPt (x1++[[I x8,I 5,I x3]]),I x4,I x5,I x6,B x7,I x8,I x9,I x10]
 else
 none
 else
 bif gA (nth [] x2 x3.toNat) 0==13 then
 bif((x1++[[I x8,I 4,I x3]]).length*24).ble 140737488355328 then
 some [.view Ag x0, .view kPt (x1++[[I x8,I 4,I x3]]),I x4,I x5,I x6,B x7,I x8,I x9,I x10]
 else
 none
 else
 bif((x1++[[I x8,I 3,I x3]]).length*24).ble 140737488355328 then
 some [.view Ag x0, .view kPt (x1++[[I x8,I 3,I x3]]),I x4,I x5,I x6,B x7,I x8,I x9,I x10]
 else
 none
theorem Z4p (NN AQ:Fn) (x0 x1 x2:Rw) (x3 x4 x5 x6:Int) (x7:Bool) (x8 x9 x10:Int):Qeo NN AQ [.view Ag x0, .view kPt x1, .view Aj x2,I x3,I x4,I x5,I x6,B x7,I x8,I x9,I x10]=
 bif decide (0<=x3)&&decide (x3<(x2.length:Int))then
 bif gA (nth [] x2 x3.toNat) 0==4 then
 bif((x1++[[I x8,I 6,I x3]]).length*24).ble 140737488355328 then
 some [.view Ag x0, .view kPt (x1++[[I x8,I 6,I x3]]),I x4,I x5,I x6,B x7,I x8,I x9,I x10]
 else
 none
 else
 (AQ [jA (nth [] x2 x3.toNat) 0]).bind λo4=>
 bif bA o4 0 then
 (NN [.view Aj x2,I x3]).bind λo5=>
 bif bA o5 0 then
 bif((x1++[[I x8,I 1,I x3]]).length*24).ble 140737488355328 then
 some [.view Ag x0, .view kPt (x1++[[I x8,I 1,I x3]]),I x4,I x5,I x6,B x7,I x8,I x9,I x10]
 else
 none
 else
 Qb4 AQ x2 x3 x1 x8 x0 x4 x5 x6 x7 x9 x10
 else
 Qb4 AQ x2 x3 x1 x8 x0 x4 x5 x6 x7 x9 x10
 else
 none:=by kernel_rfl
def Jc:=Qeo PT DQ
theorem Zwm:Ai PG (Qab PT DQ):=Ao rfl ⟨Zb1,SH,trivial⟩
theorem Zeh:Al PG (127,Ad Qho Qj0 Jc):=rw1 (C:=(Qab PT DQ)) Zwm
def Vs (M:Fn):Nat×Spec:=(172,Ad Qbr WK M)
def Q2w:Fn:=Am PG C_pulse_Sum_0 64 172 Qbr WK
theorem Zlb (x0 x1 x2 x3 x4 x5 x6 x7 x8 x9 x10 x11 x12:Int) (x13:Bool) (x14:Int) (x15:Bool) (x16 x17 x18 x19 x20:Int) (x21:Bool):Q2w [I x0,I x1,I x2,I x3,I x4,I x5,I x6,I x7,I x8,I x9,I x10,I x11,I x12,B x13,I x14,B x15,I x16,I x17,I x18,I x19,I x20,B x21]=
 some [I (wrap .i64 (wrap .i64 (x2+x5)*8)),I (wrap .i64 (wrap .i64 (x3+x6)*8)),I (wrap .i64 (wrap .i64 (x4+x7)*8))]:=by kernel_rfl
def Gi:=Q2w
theorem Z4t:Ai PG (C_pulse_Sum_0):=Ao rfl trivial
theorem Qja:Al PG (172,Ad Qbr WK Gi):=rw1 (C:=C_pulse_Sum_0) Z4t
def Qlv:Sk:=⟨[TS.v true [CS.int .u64,CS.int .u64],TS.v true [CS.int .u64,CS.int .u64]],[],[]⟩
def Qrl (M:Fn):Nat×Spec:=(211,Ad Qlv Qik M)
def Qst:Fn:=Am PG C_pulse_Sum_0 64 211 Qlv Qik
theorem Zc0 (x0 x1 x2 x3:Int):Qst [U x0,U x1,U x2,U x3]=
 bif decide (x0<x2)then
 some [I (-1)]
 else
 bif x0==x2 then
 bif decide (x1<x3)then
 some [I (-1)]
 else
 bif x0==x2&&(x1==x3&&true)then
 some [I 0]
 else
 some [I 1]
 else
 bif x0==x2&&(x1==x3&&true)then
 some [I 0]
 else
 some [I 1]:=by kernel_rfl
def Ii:=Qst
theorem Zr5:Ai PG (C_pulse_Sum_0):=Ao rfl trivial
theorem Qrt:Al PG (211,Ad Qlv Qik Ii):=rw1 (C:=C_pulse_Sum_0) Zr5
def Qt1 (M:Fn):Nat×Spec:=(221,Ad Qp0 Qn8 M)
def WU (Eb BI:Fn):Cfg:=cf [Qrl Eb,T8 BI]
def Q2j:Sk:=⟨[td,tf [CS.ptr 1 0],td,tf [CS.int .u64],tf [CS.int .u64]]++dd 16,[(1,185,[CS.int .u64,CS.int .u64])],[]⟩
def Q2d:List (Ex×Sk):=[(Ex.exit 0,⟨[td,td,td,tf [CS.int .u64]]++dd 17,[],[]⟩)]
def Mu (Eb BI:Fn):Lp:=AS PG (WU Eb BI) 64 3 (AV PG 221 3) Q2j Q2d
def Qr9 (Eb BI:Fn) (N3:Lp):Cfg:=(WU Eb BI).loop 3 Q2j Q2d N3
def Qdh (Eb BI:Fn) (N3:Lp):Fn:=Am PG (Qr9 Eb BI N3) 64 221 Qp0 Qn8
theorem Q1p (Eb BI:Fn) (v0 v1 v2 v3:Int):Mu Eb BI [U v0,U v1,U v2,U v3]=
 bif decide (v1>0)then
 (BI [U (wrap .u64 (↑(BitVec.ofInt IntKind.u64.bits v0|||BitVec.ofInt IntKind.u64.bits v1).toNat:Int)),U (wrap .u64 (↑(BitVec.ofInt IntKind.u64.bits v0|||BitVec.ofInt IntKind.u64.bits v1).toNat:Int))]).bind λo3=>
 (Eb [U (gA o3 0),U (gA o3 1),U v2,U v3]).bind λo4=>
 bif decide (gA o4 0<=0)then
 some (0,[U (wrap .u64 (↑(BitVec.ofInt IntKind.u64.bits v0|||BitVec.ofInt IntKind.u64.bits v1).toNat:Int)),U (v1.fdiv (2^min (Int.toNat 1) IntKind.u64.bits)),U v2,U v3])
 else
 some (0,[U v0,U (v1.fdiv (2^min (Int.toNat 1) IntKind.u64.bits)),U v2,U v3])
 else
 some (1,[U v0]):=by kernel_rfl
theorem Ztf (Eb BI:Fn) (N3:Lp) (x0 x1:Int):Qdh Eb BI N3 [U x0,U x1]=
 (N3 [U 0,U 9223372036854775808,U x0,U x1]).bind λo5=>
 bif o5.1.beq 1 then
 some [U (gA o5.2 0)]
 else
 none:=by kernel_rfl
def Q24:=An (Mu Ii Et)
def Kb:=Qdh Ii Et Q24
theorem Qv9:Ai PG (WU Ii Et):=Ao rfl ⟨Qrt,Tl,trivial⟩
theorem Qza:Al PG (221,Ad Qp0 Qn8 Kb):=rw2 (C:=(Qr9 Ii Et Q24)) (fl fb Qv9) Qv9
def Qdm:Sk:=⟨[TS.v true [CS.int .u64,CS.int .u64],tf [ci]],[],[]⟩
def Zg7 (M:Fn):Nat×Spec:=(216,Ad Qdm Zb M)
def Qn0 (Bf LR Gb Gj:Fn):Cfg:=cf [Yk Bf,(222,Ad Q65 Qv2 LR),(175,Ad Wc Qll Gb),Qt1 Gj]
def Qgg (Bf LR Gb Gj:Fn):Fn:=Am PG (Qn0 Bf LR Gb Gj) 64 216 Qdm Zb
abbrev Qbe (x2:Int) (o17:List AC) (Bf:Fn) (o14 o16:List AC):Option (List AC):=
 bif x2==2 then
 bif decide (gA o17 0>0)then
 (Bf [U (wrap .u64 (gA o14 0+1)),B false]).bind λo20=>
 some [jA o20 0,B (bA o20 1)]
 else
 bif decide (gA o16 0>gA o14 0)then
 (Bf [U (wrap .u64 (gA o14 0+1)),B false]).bind λo21=>
 some [jA o21 0,B (bA o21 1)]
 else
 (Bf [U (gA o14 0),B false]).bind λo22=>
 some [jA o22 0,B (bA o22 1)]
 else
 (Bf [U (gA o14 0),B false]).bind λo23=>
 some [jA o23 0,B (bA o23 1)]
theorem Z09 (Bf LR Gb Gj:Fn) (x0 x1 x2:Int):Qgg Bf LR Gb Gj [U x0,U x1,I x2]=
 (Gj [U x0,U x1]).bind λo14=>
 (Gb [U (gA o14 0),U (gA o14 0)]).bind λo15=>
 (LR [U x1,U (gA o15 1),U 0]).bind λo16=>
 (LR [U x0,U (gA o15 0),U (gA o16 1)]).bind λo17=>
 bif x2==1 then
 bif decide (gA o17 0>0)then
 (Bf [U (wrap .u64 (gA o14 0+1)),B false]).bind λo18=>
 some [jA o18 0,B (bA o18 1)]
 else
 bif decide (gA o16 0>0)then
 (Bf [U (wrap .u64 (gA o14 0+1)),B false]).bind λo19=>
 some [jA o19 0,B (bA o19 1)]
 else
 Qbe x2 o17 Bf o14 o16
 else
 Qbe x2 o17 Bf o14 o16:=by kernel_rfl
def Sa:=Qgg Fc KS Ia Kb
theorem Zv5:Ai PG (Qn0 Fc KS Ia Kb):=Ao rfl ⟨Qos,Z3u,Qyy,Qza,trivial⟩
theorem Zt1:Al PG (216,Ad Qdm Zb Sa):=rw1 (C:=(Qn0 Fc KS Ia Kb)) Zv5
def Qrz (M:Fn):Nat×Spec:=(210,Ad Qe3 Zb M)
def Qqa (OF DI:Fn):Cfg:=cf [Zg7 OF,Qaf DI]
def Qcp (OF DI:Fn):Fn:=Am PG (Qqa OF DI) 64 210 Qe3 Zb
theorem Zpx (OF DI:Fn) (x0 x1:Int):Qcp OF DI [I x0,I x1]=
 bif decide (x0<0)then
 some [I 0,B false]
 else
 (DI [I x1]).bind λo2=>
 bif !bA o2 0 then
 some [I 0,B false]
 else
 (OF [U 0,U (wrap .u64 x0),I x1]).bind λo3=>
 some [jA o3 0,B (bA o3 1)]:=by kernel_rfl
def IY:=Qcp Sa FT
theorem Zi7:Ai PG (Qqa Sa FT):=Ao rfl ⟨Zt1,Qir,trivial⟩
theorem Q4f:Al PG (210,Ad Qe3 Zb IY):=rw1 (C:=(Qqa Sa FT)) Zi7
def Q5h (M:Fn):Nat×Spec:=(195,Ad Qmz Qik M)
def Qo6 (FI:Fn):Cfg:={cf [Qrz FI]with unroll:=[3]}
def Qlg (FI:Fn):Fn:=Am PG (Qo6 FI) 64 195 Qmz Qik
theorem Zet (FI:Fn) (x0 x1 x2 x3 x4 x5:Int):Qlg FI [I x0,I x1,I x2,I x3,I x4,I x5]=
 (FI [I (wrap .i64 (wrap .i64 (wrap .i64 (0+wrap .i64 (wrap .i64 (x0-x3)*wrap .i64 (x0-x3)))+wrap .i64 (wrap .i64 (x1-x4)*wrap .i64 (x1-x4)))+wrap .i64 (wrap .i64 (x2-x5)*wrap .i64 (x2-x5)))),I 1]).bind λo1=>
 some [jA o1 0]:=by kernel_rfl
def I9:=Qlg IY
theorem Zf2:Ai PG (Qo6 IY):=Ao rfl ⟨Q4f,trivial⟩
theorem Qq7:Al PG (195,Ad Qmz Qik I9):=rw1 (C:=(Qo6 IY)) Zf2
def ZZ:Sk:=⟨[tf [CS.ptr 20000 0],TS.v true [ci,ci,ci],TS.v true (cc 7)],[(20000,142,[ci,ci,ci,CS.own 20000 7,CS.own 20001 3,CS.bool,ci,ci,ci])],[(20000,162,Ag),(20001,76,kPt)]⟩
def Zel (M:Fn):Nat×Spec:=(171,Ad ZZ Qj0 M)
def Qlj (Dg:Fn):Cfg:=cf [Q5h Dg]
def S4 (Dg:Fn):Fn:=Am PG (Qlj Dg) 64 171 ZZ Qj0
abbrev Qiv (x15:Bool) (x0 x1:Rw) (x2 x3 x4 x16 x17 x18 x12 x13 x14:Int) (Dg:Fn) (x9 x10 x11:Int) (h1_0:Bool) (h1_1 h1_2 h1_3:AC):Option (List AC):=
 bif !x15 then
 some [.view Ag x0, .view kPt x1,I x2,I x3,I x4,B true,I x16,I x17,I x18]
 else
 bif h1_0 then
 some [.view Ag x0, .view kPt x1,I x12,I x13,I x14,B x15,I x16,I x17,I x18]
 else
 (Dg [h1_1,h1_2,h1_3,I x2,I x3,I x4]).bind λo2=>
 bif((x0++[[I x2,I x3,I x4,jA o2 0,I x9,I x10,I x11]]).length*56).ble 140737488355328 then
 some [.view Ag (x0++[[I x2,I x3,I x4,jA o2 0,I x9,I x10,I x11]]), .view kPt x1,I x12,I x13,I x14,B x15,I (wrap .i64 (x16+gA o2 0)),I x17,I x18]
 else
 none
theorem Q7l (Dg:Fn) (x0 x1:Rw) (x2 x3 x4 x5 x6 x7 x8 x9 x10 x11 x12 x13 x14:Int) (x15:Bool) (x16 x17 x18:Int):S4 Dg [.view Ag x0, .view kPt x1,I x2,I x3,I x4,I x5,I x6,I x7,I x8,I x9,I x10,I x11,I x12,I x13,I x14,B x15,I x16,I x17,I x18]=
 bif decide ((x0.length:Int)>0)then
 bif decide (0<=wrap .i64 ((x0.length:Int)-1))&&decide (wrap .i64 ((x0.length:Int)-1)<(x0.length:Int))then
 Qiv x15 x0 x1 x2 x3 x4 x16 x17 x18 x12 x13 x14 Dg x9 x10 x11 (x2==gA (nth [] x0 (wrap .i64 ((x0.length:Int)-1)).toNat) 0&&(x3==gA (nth [] x0 (wrap .i64 ((x0.length:Int)-1)).toNat) 1&&(x4==gA (nth [] x0 (wrap .i64 ((x0.length:Int)-1)).toNat) 2&&true))) (jA (nth [] x0 (wrap .i64 ((x0.length:Int)-1)).toNat) 0) (jA (nth [] x0 (wrap .i64 ((x0.length:Int)-1)).toNat) 1) (jA (nth [] x0 (wrap .i64 ((x0.length:Int)-1)).toNat) 2)
 else
 none
 else
 Qiv x15 x0 x1 x2 x3 x4 x16 x17 x18 x12 x13 x14 Dg x9 x10 x11 (x2==x12&&(x3==x13&&(x4==x14&&true))) (I x12) (I x13) (I x14):=by kernel_rfl
def Od:=S4 I9
theorem Z1r:Ai PG (Qlj I9):=Ao rfl ⟨Qq7,trivial⟩
theorem Zh3:Al PG (171,Ad ZZ Qj0 Od):=rw1 (C:=(Qlj I9)) Z1r
def XN (M:Fn):Nat×Spec:=(125,Ad U4 Qik M)
def Q6f:Sk:=⟨[tf [CS.sl Aj],tf [ci]]++dd 20,[],[]⟩
def Qy6:List (Ex×Sk):=[(Ex.exit 0,⟨[td,tf [ci]]++dd 20,[],[]⟩)]
def Qb:Lp:=AS PG C_pulse_Sum_0 64 2 (AV PG 125 2) Q6f Qy6
def Q53 (N2:Lp):Cfg:=C_pulse_Sum_0.loop 2 Q6f Qy6 N2
def WC (N2:Lp):Fn:=Am PG (Q53 N2) 64 125 U4 Qik
theorem Qu7 (v0:Rw) (v1:Int):Qb [.view Aj v0,I v1]=
 bif decide (v1<(v0.length:Int))then
 bif decide (0<=v1)&&decide (v1<(v0.length:Int))then
 bif gA (nth [] v0 v1.toNat) 0==10 then
 some (0,[.view Aj v0,I (wrap .i64 (v1+1))])
 else
 some (1,[I v1])
 else
 none
 else
 some (1,[I v1]):=by kernel_rfl
theorem Z6m (N2:Lp) (x0:Rw) (x1:Int):WC N2 [.view Aj x0,I x1]=
 (N2 [.view Aj x0,I (wrap .i64 (x1+1))]).bind λo1=>
 bif o1.1.beq 1 then
 some [jA o1.2 0]
 else
 none:=by kernel_rfl
def Qw3:=An (Qb)
def Ff:=WC Qw3
theorem Q1l:Ai PG (C_pulse_Sum_0):=Ao rfl trivial
theorem Qdp:Al PG (125,Ad U4 Qik Ff):=rw2 (C:=(Q53 Qw3)) (fl fb Q1l) Q1l
def Q5k (M:Fn):Nat×Spec:=(124,Ad U4 Xp M)
def Wp (Bs BB:Fn):Cfg:=cf [UG Bs,XN BB]
def Qb8 (Bs BB:Fn):Fn:=Am PG (Wp Bs BB) 64 124 U4 Xp
theorem Z6w (Bs BB:Fn) (x0:Rw) (x1:Int):Qb8 Bs BB [.view Aj x0,I x1]=
 (BB [.view Aj x0,I x1]).bind λo3=>
 bif decide (0<=x1)&&decide (x1<(x0.length:Int))then
 (Bs (AN Aj (nth [] x0 x1.toNat))).bind λo4=>
 bif bA o4 0 then
 bif decide (0<=x1)&&decide (x1<(x0.length:Int))then
 bif gA (nth [] x0 x1.toNat) 18 !=0 then
 bif decide (gA o3 0<(x0.length:Int))then
 bif decide (0<=gA o3 0)&&decide (gA o3 0<(x0.length:Int))then
 (Bs (AN Aj (nth [] x0 (gA o3 0).toNat))).bind λo5=>
 some [B (bA o5 0)]
 else
 none
 else
 some [B false]
 else
 some [B false]
 else
 none
 else
 some [B false]
 else
 none:=by kernel_rfl
def GU:=Qb8 EM Ff
theorem Zfv:Ai PG (Wp EM Ff):=Ao rfl ⟨RH,Qdp,trivial⟩
theorem Quj:Al PG (124,Ad U4 Xp GU):=rw1 (C:=(Wp EM Ff)) Zfv
def Qe8:Sk:=⟨[TS.v true [ci,ci,ci],TS.v true [ci,ci,ci],TS.v true [ci,ci,ci]],[],[]⟩
def Q8a (M:Fn):Nat×Spec:=(219,Ad Qe8 Qik M)
def Qwq:Fn:=Am PG VN 64 219 Qe8 Qik
theorem Zll (x0 x1 x2 x3 x4 x5 x6 x7 x8:Int):Qwq [I x0,I x1,I x2,I x3,I x4,I x5,I x6,I x7,I x8]=
 some [I (wrap .i64 (wrap .i64 (wrap .i64 (0+wrap .i64 (wrap .i64 (wrap .i64 (x0+x6)-wrap .i64 (2*x3))*wrap .i64 (wrap .i64 (x0+x6)-wrap .i64 (2*x3))))+wrap .i64 (wrap .i64 (wrap .i64 (x1+x7)-wrap .i64 (2*x4))*wrap .i64 (wrap .i64 (x1+x7)-wrap .i64 (2*x4))))+wrap .i64 (wrap .i64 (wrap .i64 (x2+x8)-wrap .i64 (2*x5))*wrap .i64 (wrap .i64 (x2+x8)-wrap .i64 (2*x5)))))]:=by kernel_rfl
def GS:=Qwq
theorem Zip:Ai PG (VN):=Ao rfl trivial
theorem Zau:Al PG (219,Ad Qe8 Qik GS):=rw1 (C:=VN) Zip
def Zh6 (M:Fn):Nat×Spec:=(215,Ad Qe8 Qik M)
def Qn1 (CY:Fn):Cfg:=cf [Q8a CY]
def Q52:Sk:=⟨[td,td,td,tf [CS.ptr 3 0],tf [CS.ptr 4 0],tf [CS.ptr 5 0],td,tf [ci]]++dd 22,[(3,54,[ci,ci,ci]),(4,54,[ci,ci,ci]),(5,54,[ci,ci,ci])],[]⟩
def Q3k:List (Ex×Sk):=[(Ex.exit 0,⟨dd 7++[tf [ci]]++dd 22,[],[]⟩)]
def Qm (CY:Fn):Lp:=AS PG (Qn1 CY) 64 2 (AV PG 215 2) Q52 Q3k
def Q83 (CY:Fn) (N2:Lp):Cfg:=(Qn1 CY).loop 2 Q52 Q3k N2
def Qj4 (CY:Fn) (N2:Lp):Fn:=Am PG (Q83 CY N2) 64 215 Qe8 Qik
theorem Z64 (CY:Fn) (v0 v1 v2 v3 v4 v5 v6 v7 v8 v9:Int):Qm CY [I v0,I v1,I v2,I v3,I v4,I v5,I v6,I v7,I v8,I v9]=
 bif decide (v0<64)then
 (CY [I v1,I v2,I v3,I v4,I v5,I v6,I v7,I v8,I v9]).bind λo2=>
 bif decide (gA o2 0>wrap .i64 (wrap .i64 (wrap .i64 (wrap .i64 (wrap .i64 (wrap .i64 (16*v0)*v0)*v0)*v0)*4)*4))then
 some (0,[I (wrap .i64 (v0*2)),I v1,I v2,I v3,I v4,I v5,I v6,I v7,I v8,I v9])
 else
 some (1,[I v0])
 else
 some (1,[I v0]):=by kernel_rfl
theorem Zie (CY:Fn) (N2:Lp) (x0 x1 x2 x3 x4 x5 x6 x7 x8:Int):Qj4 CY N2 [I x0,I x1,I x2,I x3,I x4,I x5,I x6,I x7,I x8]=
 (N2 [I 2,I x0,I x1,I x2,I x3,I x4,I x5,I x6,I x7,I x8]).bind λo3=>
 bif o3.1.beq 1 then
 some [jA o3.2 0]
 else
 none:=by kernel_rfl
def Q33:=An (Qm GS)
def JV:=Qj4 GS Q33
theorem Qq6:Ai PG (Qn1 GS):=Ao rfl ⟨Zau,trivial⟩
theorem Za8:Al PG (215,Ad Qe8 Qik JV):=rw2 (C:=(Q83 GS Q33)) (fl fb Qq6) Qq6
def Vy:Sk:=⟨[TS.v true [CS.int .u64,CS.int .u64],tf [CS.int .u64]],[],[]⟩
def Yz:Sk:=⟨[TS.tup [(true,[CS.int .u64,CS.int .u64]),(false,[CS.bool])]],[],[]⟩
def Zbo (M:Fn):Nat×Spec:=(224,Ad Vy Yz M)
def Qkw (FD:Fn):Cfg:=cf [Q8p FD]
def XS (FD:Fn):Fn:=Am PG (Qkw FD) 64 224 Vy Yz
theorem Z0l (FD:Fn) (x0 x1 x2:Int):XS FD [U x0,U x1,U x2]=
 (FD [U 0,U x0,U x2]).bind λo2=>
 (FD [U (gA o2 1),U x1,U x2]).bind λo3=>
 some [U (gA o2 0),U (gA o3 0),B (decide (gA o3 1>0))]:=by kernel_rfl
def Sp:=XS GE
theorem Zha:Ai PG (Qkw GE):=Ao rfl ⟨Qw0,trivial⟩
theorem Zyd:Al PG (224,Ad Vy Yz Sp):=rw1 (C:=(Qkw GE)) Zha
def Qrw (M:Fn):Nat×Spec:=(220,Ad Qji Zb M)
def VY (Bf CN C9 Gj Oo BI DI Cj:Fn):Cfg:=cf [Yk Bf,Qsn CN,Qkl C9,Qt1 Gj,Zbo Oo,T8 BI,Qaf DI,Qe4 Cj]
def ZQ (Bf CN C9 Gj Oo BI DI Cj:Fn):Fn:=Am PG (VY Bf CN C9 Gj Oo BI DI Cj) 64 220 Qji Zb
abbrev Qu (CN:Fn) (x3:Int) (Bf:Fn) (o42:List AC) (h1_0:Bool) (h1_1 h1_2 h1_3 h1_4:AC):Option (List AC):=
 bif h1_0 then
 (CN [I x3,h1_1,B true,h1_2]).bind λo44=>
 bif bA o44 0 then
 (Bf [U (wrap .u64 (wrap .u64 ((gA o42 0).tdiv 2)+1)),h1_2]).bind λo45=>
 some [jA o45 0,B (bA o45 1)]
 else
 (Bf [U (wrap .u64 ((gA o42 0).tdiv 2)),h1_2]).bind λo46=>
 some [jA o46 0,B (bA o46 1)]
 else
 (CN [I x3,h1_3,h1_4,h1_2]).bind λo47=>
 bif bA o47 0 then
 (Bf [U (wrap .u64 (wrap .u64 ((gA o42 0).tdiv 2)+1)),h1_2]).bind λo48=>
 some [jA o48 0,B (bA o48 1)]
 else
 (Bf [U (wrap .u64 ((gA o42 0).tdiv 2)),h1_2]).bind λo49=>
 some [jA o49 0,B (bA o49 1)]
theorem Z52 (Bf CN C9 Gj Oo BI DI Cj:Fn) (x0 x1 x2 x3:Int):ZQ Bf CN C9 Gj Oo BI DI Cj [I x0,I x1,I x2,I x3]=
 (Cj [I x0]).bind λo35=>
 bif decide (gA o35 0>2147483648)then
 some [I 0,B false]
 else
 (Cj [I x1]).bind λo36=>
 bif decide (gA o36 0>2147483648)then
 some [I 0,B false]
 else
 bif decide (x2<1)then
 some [I 0,B false]
 else
 bif decide (x2>4611686018427387904)then
 some [I 0,B false]
 else
 (DI [I x3]).bind λo37=>
 bif !bA o37 0 then
 some [I 0,B false]
 else
 (Cj [I x0]).bind λo38=>
 (Cj [I x1]).bind λo39=>
 (BI [U (wrap .u64 (2*wrap .u64 (gA o38 0*gA o39 0))),U (wrap .u64 (2*wrap .u64 (gA o38 0*gA o39 0)))]).bind λo40=>
 (Oo [U (gA o40 0),U (gA o40 1),U (wrap .u64 x2)]).bind λo41=>
 (Gj [U (gA o41 0),U (gA o41 1)]).bind λo42=>
 bif bA o41 2 then
 (C9 [I x0,I x1]).bind λo43=>
 Qu CN x3 Bf o42 ((gA o42 0).tmod 2==1) (I 1) (B (decide (gA o43 0<0))) (I (-1)) (B true)
 else
 (BI [U (gA o42 0),U (gA o42 0)]).bind λo50=>
 (C9 [I x0,I x1]).bind λo51=>
 bif(gA o42 0).tmod 2==1 then
 bif !(gA o50 0==gA o41 0&&(gA o50 1==gA o41 1&&true))then
 Qu CN x3 Bf o42 (!(gA o50 0==gA o41 0&&(gA o50 1==gA o41 1&&true))) (I 1) (B (decide (gA o51 0<0))) (I 1) (B ((gA o42 0).tmod 2==1))
 else
 Qu CN x3 Bf o42 (!(gA o50 0==gA o41 0&&(gA o50 1==gA o41 1&&true))) (I 0) (B (decide (gA o51 0<0))) (I 0) (B ((gA o42 0).tmod 2==1))
 else
 Qu CN x3 Bf o42 (!(gA o50 0==gA o41 0&&(gA o50 1==gA o41 1&&true))) (I (-1)) (B (decide (gA o51 0<0))) (I (-1)) (B ((gA o42 0).tmod 2==1)):=by kernel_rfl
def If:=ZQ Fc HJ FB Kb Sp Et FT Gc
theorem Znw:Ai PG (VY Fc HJ FB Kb Sp Et FT Gc):=Ao rfl ⟨Qos,Za0,Z3,Qza,Zyd,Tl,Qir,Zr,trivial⟩
theorem Qs6:Al PG (220,Ad Qji Zb If):=rw1 (C:=(VY Fc HJ FB Kb Sp Et FT Gc)) Znw
def Qbu:Sk:=⟨[TS.v true [ci,ci,ci],TS.v true [ci,ci,ci],tf [ci]],[],[]⟩
def Qap:Sk:=⟨[TS.tup [(true,[ci,ci,ci]),(false,[CS.bool])]],[],[]⟩
def Qyd (M:Fn):Nat×Spec:=(214,Ad Qbu Qap M)
def Wj (Cq:Fn):Cfg:={cf [Qrw Cq]with unroll:=[5,10]}
def Qok (Cq:Fn):Fn:=Am PG (Wj Cq) 64 214 Qbu Qap
theorem Zur (Cq:Fn) (x0 x1 x2 x3 x4 x5 x6:Int):Qok Cq [I x0,I x1,I x2,I x3,I x4,I x5,I x6]=
 bif x3==x0&&(x4==x1&&(x5==x2&&true))then
 some [I 0,I 0,I 0,B false]
 else
 bif decide (x6<0)then
 some [I 0,I 0,I 0,B false]
 else
 bif decide (x6>33554432)then
 some [I 0,I 0,I 0,B false]
 else
 (Cq [I (wrap .i64 (x3-x0)),I x6,I (wrap .i64 (wrap .i64 (wrap .i64 (0+wrap .i64 (wrap .i64 (x3-x0)*wrap .i64 (x3-x0)))+wrap .i64 (wrap .i64 (x4-x1)*wrap .i64 (x4-x1)))+wrap .i64 (wrap .i64 (x5-x2)*wrap .i64 (x5-x2)))),I 2]).bind λo3=>
 (Cq [I (wrap .i64 (x4-x1)),I x6,I (wrap .i64 (wrap .i64 (wrap .i64 (0+wrap .i64 (wrap .i64 (x3-x0)*wrap .i64 (x3-x0)))+wrap .i64 (wrap .i64 (x4-x1)*wrap .i64 (x4-x1)))+wrap .i64 (wrap .i64 (x5-x2)*wrap .i64 (x5-x2)))),I 2]).bind λo4=>
 (Cq [I (wrap .i64 (x5-x2)),I x6,I (wrap .i64 (wrap .i64 (wrap .i64 (0+wrap .i64 (wrap .i64 (x3-x0)*wrap .i64 (x3-x0)))+wrap .i64 (wrap .i64 (x4-x1)*wrap .i64 (x4-x1)))+wrap .i64 (wrap .i64 (x5-x2)*wrap .i64 (x5-x2)))),I 2]).bind λo5=>
 some [I (wrap .i64 (x0+gA o3 0)),I (wrap .i64 (x1+gA o4 0)),I (wrap .i64 (x2+gA o5 0)),B true]:=by kernel_rfl
def Hp:=Qok If
theorem Znm:Ai PG (Wj If):=Ao rfl ⟨Qs6,trivial⟩
theorem Qvr:Al PG (214,Ad Qbu Qap Hp):=rw1 (C:=(Wj If)) Znm
def Zvy (M:Fn):Nat×Spec:=(213,Ad XY Qik M)
def WN (CY Cz Dg:Fn):Cfg:=cf [Q8a CY,Qyd Cz,Q5h Dg]
def Q6p:Sk:=⟨[td,td,td,tf [ci],tf [CS.ptr 4 0],tf [CS.ptr 5 0],tf [CS.ptr 6 0],td,td,tf [ci],tf [ci],tf [ci]]++dd 62,[(4,54,[ci,ci,ci]),(5,54,[ci,ci,ci]),(6,54,[ci,ci,ci])],[]⟩
def Qyq:List (Ex×Sk):=[(Ex.exit 0,⟨dd 10++[tf [ci]]++dd 63,[],[]⟩)]
def Nr (CY Cz Dg:Fn):Lp:=AS PG (WN CY Cz Dg) 64 6 (AV PG 213 6) Q6p Qyq
def Qxs (CY Cz Dg:Fn) (N6:Lp):Cfg:=(WN CY Cz Dg).loop 6 Q6p Qyq N6
def Xh (CY Cz Dg:Fn) (N6:Lp):Fn:=Am PG (Qxs CY Cz Dg N6) 64 213 XY Qik
theorem Qtl (CY Cz Dg:Fn) (v0 v1 v2 v3 v4 v5 v6 v7 v8 v9 v10 v11 v12:Int):Nr CY Cz Dg [I v0,I v1,I v2,I v3,I v4,I v5,I v6,I v7,I v8,I v9,I v10,I v11,I v12]=
 bif decide (v3>0)then
 bif decide (wrap .i64 (v2+v3)>v1)then
 some (0,[I v0,I v1,I v2,I (v3.fdiv (2^min (Int.toNat 1) IntKind.i64.bits)),I v4,I v5,I v6,I v7,I v8,I v9,I v10,I v11,I v12])
 else
 (Cz [I v7,I v8,I v9,I v4,I v5,I v6,I (wrap .i64 (v2+v3))]).bind λo8=>
 (Cz [I v7,I v8,I v9,I v10,I v11,I v12,I (wrap .i64 (v2+v3))]).bind λo9=>
 (CY [jA o8 0,jA o8 1,jA o8 2,I v7,I v8,I v9,jA o9 0,jA o9 1,jA o9 2]).bind λo10=>
 bif decide (gA o10 0<=wrap .i64 (wrap .i64 (16*v0)*v0))then
 some (0,[I v0,I v1,I (wrap .i64 (v2+v3)),I (v3.fdiv (2^min (Int.toNat 1) IntKind.i64.bits)),I v4,I v5,I v6,I v7,I v8,I v9,I v10,I v11,I v12])
 else
 some (0,[I v0,I v1,I v2,I (v3.fdiv (2^min (Int.toNat 1) IntKind.i64.bits)),I v4,I v5,I v6,I v7,I v8,I v9,I v10,I v11,I v12])
 else
 some (1,[I v2]):=by kernel_rfl
theorem Zo5 (CY Cz Dg:Fn) (N6:Lp) (x0 x1 x2 x3 x4 x5 x6 x7 x8 x9:Int):Xh CY Cz Dg N6 [I x0,I x1,I x2,I x3,I x4,I x5,I x6,I x7,I x8,I x9]=
 bif x0==x3&&(x1==x4&&(x2==x5&&true))then
 some [I 0]
 else
 bif x6==x3&&(x7==x4&&(x8==x5&&true))then
 some [I 0]
 else
 (Dg [I x0,I x1,I x2,I x3,I x4,I x5]).bind λo11=>
 (Dg [I x3,I x4,I x5,I x6,I x7,I x8]).bind λo12=>
 (N6 [I x9,I (wrap .i64 (mn (gA o11 0) (gA o12 0)-2)),I 0,I 16777216,I x0,I x1,I x2,I x3,I x4,I x5,I x6,I x7,I x8]).bind λo13=>
 bif o13.1.beq 1 then
 bif decide (gA o13.2 0<16)then
 some [I 0]
 else
 some [jA o13.2 0]
 else
 none:=by kernel_rfl
def Qyp:=An (Nr GS Hp I9)
def LD:=Xh GS Hp I9 Qyp
theorem Qxy:Ai PG (WN GS Hp I9):=Ao rfl ⟨Zau,Qvr,Qq7,trivial⟩
theorem Zbh:Al PG (213,Ad XY Qik LD):=rw2 (C:=(Qxs GS Hp I9 Qyp)) (fl fb Qxy) Qxy
def Z0k (M:Fn):Nat×Spec:=(208,Ad XY Ww M)
def YU (AH Gw Cz GY:Fn):Cfg:={cf [Ml AH,Zh6 Gw,Qyd Cz,Zvy GY]with unroll:=[13]}
def Qqt:Sk:=⟨[td,td,td,td,td,tf [CS.ptr 5 0],td,td,td,td,tf [CS.ptr 10 0],td,tf [CS.ptr 12 0],td,tf [ci],tf [CS.own 50 3]]++dd 36++[tf [ci],tf [ci]]++dd 57,[(5,54,[ci,ci,ci]),(10,54,[ci,ci,ci]),(12,54,[ci,ci,ci])],[(50,54,kPt)]⟩
def Qyl:List (Ex×Sk):=[(Ex.exit 0,⟨dd 15++[tf [CS.own 50 3]]++dd 95,[],[(50,54,kPt)]⟩)]
def Nu (AH Gw Cz GY:Fn):Lp:=AS PG (YU AH Gw Cz GY) 64 9 (AV PG 208 9) Qqt Qyl
def Qtw (AH Gw Cz GY:Fn) (N9:Lp):Cfg:=(YU AH Gw Cz GY).loop 9 Qqt Qyl N9
def Qi5 (AH Gw Cz GY:Fn) (N9:Lp):Fn:=Am PG (Qtw AH Gw Cz GY N9) 64 208 XY Ww
theorem Q35 (AH Gw Cz GY:Fn) (v0:Rw) (v1 v2 v3 v4 v5 v6 v7 v8 v9 v10 v11 v12:Int):Nu AH Gw Cz GY [.view kPt v0,I v1,I v2,I v3,I v4,I v5,I v6,I v7,I v8,I v9,I v10,I v11,I v12]=
 bif decide (v3<v2)then
 bif decide (0<=v3)&&decide (v3<(v0.length:Int))then
 (AH [I (wrap .i64 (wrap .i64 (wrap .i64 (wrap .i64 (v1-v3)*wrap .i64 (v1-v3))*wrap .i64 (v7-v4))+wrap .i64 (wrap .i64 (v3*v3)*wrap .i64 (v10-v4)))),I 1,I (wrap .i64 (v1*v1)),I 2]).bind λo12=>
 bif decide (0<=v3)&&decide (v3<(v0.length:Int))then
 bif decide (0<=v3)&&decide (v3<(v0.length:Int))then
 (AH [I (wrap .i64 (wrap .i64 (wrap .i64 (wrap .i64 (v1-v3)*wrap .i64 (v1-v3))*wrap .i64 (v8-v5))+wrap .i64 (wrap .i64 (v3*v3)*wrap .i64 (v11-v5)))),I 1,I (wrap .i64 (v1*v1)),I 2]).bind λo13=>
 bif decide (0<=v3)&&decide (v3<(v0.length:Int))then
 bif decide (0<=v3)&&decide (v3<(v0.length:Int))then
 (AH [I (wrap .i64 (wrap .i64 (wrap .i64 (wrap .i64 (v1-v3)*wrap .i64 (v1-v3))*wrap .i64 (v9-v6))+wrap .i64 (wrap .i64 (v3*v3)*wrap .i64 (v12-v6)))),I 1,I (wrap .i64 (v1*v1)),I 2]).bind λo14=>
 bif decide (0<=v3)&&decide (v3<(v0.length:Int))then
 bif decide (0<=v3)&&decide (v3<(v0.length:Int))then
 some (0,[.view kPt ((((v0.set v3.toNat [I v4,I v5,I v6]).set v3.toNat [I (wrap .i64 (Af (nth .dead (nth [] (v0.set v3.toNat [I v4,I v5,I v6]) v3.toNat) 0)+gA o12 0)),I (Af (nth .dead (nth [] (v0.set v3.toNat [I v4,I v5,I v6]) v3.toNat) 1)),I (Af (nth .dead (nth [] (v0.set v3.toNat [I v4,I v5,I v6]) v3.toNat) 2))]).set v3.toNat [I (Af (nth .dead (nth [] ((v0.set v3.toNat [I v4,I v5,I v6]).set v3.toNat [I (wrap .i64 (Af (nth .dead (nth [] (v0.set v3.toNat [I v4,I v5,I v6]) v3.toNat) 0)+gA o12 0)),I (Af (nth .dead (nth [] (v0.set v3.toNat [I v4,I v5,I v6]) v3.toNat) 1)),I (Af (nth .dead (nth [] (v0.set v3.toNat [I v4,I v5,I v6]) v3.toNat) 2))]) v3.toNat) 0)),I (wrap .i64 (Af (nth .dead (nth [] ((v0.set v3.toNat [I v4,I v5,I v6]).set v3.toNat [I (wrap .i64 (Af (nth .dead (nth [] (v0.set v3.toNat [I v4,I v5,I v6]) v3.toNat) 0)+gA o12 0)),I (Af (nth .dead (nth [] (v0.set v3.toNat [I v4,I v5,I v6]) v3.toNat) 1)),I (Af (nth .dead (nth [] (v0.set v3.toNat [I v4,I v5,I v6]) v3.toNat) 2))]) v3.toNat) 1)+gA o13 0)),I (Af (nth .dead (nth [] ((v0.set v3.toNat [I v4,I v5,I v6]).set v3.toNat [I (wrap .i64 (Af (nth .dead (nth [] (v0.set v3.toNat [I v4,I v5,I v6]) v3.toNat) 0)+gA o12 0)),I (Af (nth .dead (nth [] (v0.set v3.toNat [I v4,I v5,I v6]) v3.toNat) 1)),I (Af (nth .dead (nth [] (v0.set v3.toNat [I v4,I v5,I v6]) v3.toNat) 2))]) v3.toNat) 2))]).set v3.toNat [I (Af (nth .dead (nth [] (((v0.set v3.toNat [I v4,I v5,I v6]).set v3.toNat [I (wrap .i64 (Af (nth .dead (nth [] (v0.set v3.toNat [I v4,I v5,I v6]) v3.toNat) 0)+gA o12 0)),I (Af (nth .dead (nth [] (v0.set v3.toNat [I v4,I v5,I v6]) v3.toNat) 1)),I (Af (nth .dead (nth [] (v0.set v3.toNat [I v4,I v5,I v6]) v3.toNat) 2))]).set v3.toNat [I (Af (nth .dead (nth [] ((v0.set v3.toNat [I v4,I v5,I v6]).set v3.toNat [I (wrap .i64 (Af (nth .dead (nth [] (v0.set v3.toNat [I v4,I v5,I v6]) v3.toNat) 0)+gA o12 0)),I (Af (nth .dead (nth [] (v0.set v3.toNat [I v4,I v5,I v6]) v3.toNat) 1)),I (Af (nth .dead (nth [] (v0.set v3.toNat [I v4,I v5,I v6]) v3.toNat) 2))]) v3.toNat) 0)),I (wrap .i64 (Af (nth .dead (nth [] ((v0.set v3.toNat [I v4,I v5,I v6]).set v3.toNat [I (wrap .i64 (Af (nth .dead (nth [] (v0.set v3.toNat [I v4,I v5,I v6]) v3.toNat) 0)+gA o12 0)),I (Af (nth .dead (nth [] (v0.set v3.toNat [I v4,I v5,I v6]) v3.toNat) 1)),I (Af (nth .dead (nth [] (v0.set v3.toNat [I v4,I v5,I v6]) v3.toNat) 2))]) v3.toNat) 1)+gA o13 0)),I (Af (nth .dead (nth [] ((v0.set v3.toNat [I v4,I v5,I v6]).set v3.toNat [I (wrap .i64 (Af (nth .dead (nth [] (v0.set v3.toNat [I v4,I v5,I v6]) v3.toNat) 0)+gA o12 0)),I (Af (nth .dead (nth [] (v0.set v3.toNat [I v4,I v5,I v6]) v3.toNat) 1)),I (Af (nth .dead (nth [] (v0.set v3.toNat [I v4,I v5,I v6]) v3.toNat) 2))]) v3.toNat) 2))]) v3.toNat) 0)),I (Af (nth .dead (nth [] (((v0.set v3.toNat [I v4,I v5,I v6]).set v3.toNat [I (wrap .i64 (Af (nth .dead (nth [] (v0.set v3.toNat [I v4,I v5,I v6]) v3.toNat) 0)+gA o12 0)),I (Af (nth .dead (nth [] (v0.set v3.toNat [I v4,I v5,I v6]) v3.toNat) 1)),I (Af (nth .dead (nth [] (v0.set v3.toNat [I v4,I v5,I v6]) v3.toNat) 2))]).set v3.toNat [I (Af (nth .dead (nth [] ((v0.set v3.toNat [I v4,I v5,I v6]).set v3.toNat [I (wrap .i64 (Af (nth .dead (nth [] (v0.set v3.toNat [I v4,I v5,I v6]) v3.toNat) 0)+gA o12 0)),I (Af (nth .dead (nth [] (v0.set v3.toNat [I v4,I v5,I v6]) v3.toNat) 1)),I (Af (nth .dead (nth [] (v0.set v3.toNat [I v4,I v5,I v6]) v3.toNat) 2))]) v3.toNat) 0)),I (wrap .i64 (Af (nth .dead (nth [] ((v0.set v3.toNat [I v4,I v5,I v6]).set v3.toNat [I (wrap .i64 (Af (nth .dead (nth [] (v0.set v3.toNat [I v4,I v5,I v6]) v3.toNat) 0)+gA o12 0)),I (Af (nth .dead (nth [] (v0.set v3.toNat [I v4,I v5,I v6]) v3.toNat) 1)),I (Af (nth .dead (nth [] (v0.set v3.toNat [I v4,I v5,I v6]) v3.toNat) 2))]) v3.toNat) 1)+gA o13 0)),I (Af (nth .dead (nth [] ((v0.set v3.toNat [I v4,I v5,I v6]).set v3.toNat [I (wrap .i64 (Af (nth .dead (nth [] (v0.set v3.toNat [I v4,I v5,I v6]) v3.toNat) 0)+gA o12 0)),I (Af (nth .dead (nth [] (v0.set v3.toNat [I v4,I v5,I v6]) v3.toNat) 1)),I (Af (nth .dead (nth [] (v0.set v3.toNat [I v4,I v5,I v6]) v3.toNat) 2))]) v3.toNat) 2))]) v3.toNat) 1)),I (wrap .i64 (Af (nth .dead (nth [] (((v0.set v3.toNat [I v4,I v5,I v6]).set v3.toNat [I (wrap .i64 (Af (nth .dead (nth [] (v0.set v3.toNat [I v4,I v5,I v6]) v3.toNat) 0)+gA o12 0)),I (Af (nth .dead (nth [] (v0.set v3.toNat [I v4,I v5,I v6]) v3.toNat) 1)),I (Af (nth .dead (nth [] (v0.set v3.toNat [I v4,I v5,I v6]) v3.toNat) 2))]).set v3.toNat [I (Af (nth .dead (nth [] ((v0.set v3.toNat [I v4,I v5,I v6]).set v3.toNat [I (wrap .i64 (Af (nth .dead (nth [] (v0.set v3.toNat [I v4,I v5,I v6]) v3.toNat) 0)+gA o12 0)),I (Af (nth .dead (nth [] (v0.set v3.toNat [I v4,I v5,I v6]) v3.toNat) 1)),I (Af (nth .dead (nth [] (v0.set v3.toNat [I v4,I v5,I v6]) v3.toNat) 2))]) v3.toNat) 0)),I (wrap .i64 (Af (nth .dead (nth [] ((v0.set v3.toNat [I v4,I v5,I v6]).set v3.toNat [I (wrap .i64 (Af (nth .dead (nth [] (v0.set v3.toNat [I v4,I v5,I v6]) v3.toNat) 0)+gA o12 0)),I (Af (nth .dead (nth [] (v0.set v3.toNat [I v4,I v5,I v6]) v3.toNat) 1)),I (Af (nth .dead (nth [] (v0.set v3.toNat [I v4,I v5,I v6]) v3.toNat) 2))]) v3.toNat) 1)+gA o13 0)),I (Af (nth .dead (nth [] ((v0.set v3.toNat [I v4,I v5,I v6]).set v3.toNat [I (wrap .i64 (Af (nth .dead (nth [] (v0.set v3.toNat [I v4,I v5,I v6]) v3.toNat) 0)+gA o12 0)),I (Af (nth .dead (nth [] (v0.set v3.toNat [I v4,I v5,I v6]) v3.toNat) 1)),I (Af (nth .dead (nth [] (v0.set v3.toNat [I v4,I v5,I v6]) v3.toNat) 2))]) v3.toNat) 2))]) v3.toNat) 2)+gA o14 0))]),I v1,I v2,I (wrap .i64 (v3+1)),I v4,I v5,I v6,I v7,I v8,I v9,I v10,I v11,I v12])
 else
 none
 else
 none
 else
 none
 else
 none
 else
 none
 else
 none
 else
 none
 else
 some (1,[.view kPt v0]):=by kernel_rfl
theorem Qwy (AH Gw Cz GY:Fn) (N9:Lp) (x0 x1 x2 x3 x4 x5 x6 x7 x8 x9:Int):Qi5 AH Gw Cz GY N9 [I x0,I x1,I x2,I x3,I x4,I x5,I x6,I x7,I x8,I x9]=
 (GY [I x0,I x1,I x2,I x3,I x4,I x5,I x6,I x7,I x8,I x9]).bind λo15=>
 bif gA o15 0==0 then
 some [.view kPt [[I x3,I x4,I x5]]]
 else
 (Cz [I x3,I x4,I x5,I x0,I x1,I x2,jA o15 0]).bind λo16=>
 (Cz [I x3,I x4,I x5,I x6,I x7,I x8,jA o15 0]).bind λo17=>
 (Gw [jA o16 0,jA o16 1,jA o16 2,I x3,I x4,I x5,jA o17 0,jA o17 1,jA o17 2]).bind λo18=>
 bif decide (wrap .i64 (gA o18 0+1)=wrap .i64 (gA o18 0+1))then
 bif decide (0<=wrap .i64 (gA o18 0+1))&&decide (wrap .i64 (gA o18 0+1)*(↑24:Int)<=140737488355328)then
 (N9 [.view kPt (List.replicate (wrap .i64 (gA o18 0+1)).toNat [I 0,I 0,I 0]),jA o18 0,I (↑(List.replicate (wrap .i64 (gA o18 0+1)).toNat [I 0,I 0,I 0]).length:Int),I 0,I x3,I x4,I x5,jA o16 0,jA o16 1,jA o16 2,jA o17 0,jA o17 1,jA o17 2]).bind λo19=>
 bif o19.1.beq 1 then
 some [.view kPt (wA o19.2 0)]
 else
 none
 else
 none
 else
 none:=by kernel_rfl
def Q2k:=An (Nu Bz JV Hp LD)
def Q2:=Qi5 Bz JV Hp LD Q2k
theorem Qt7:Ai PG (YU Bz JV Hp LD):=Ao rfl ⟨Ls,Za8,Qvr,Zbh,trivial⟩
theorem Zke:Al PG (208,Ad XY Ww Q2):=rw2 (C:=(Qtw Bz JV Hp LD Q2k)) (fl fb Qt7) Qt7
def Zr9 (M:Fn):Nat×Spec:=(209,Ad WK WK M)
def Q6j:Fn:=Am PG C_pulse_Sum_0 64 209 WK WK
theorem Z54 (x0 x1 x2:Int):Q6j [I x0,I x1,I x2]=
 some [I (wrap .i64 (x0*16)),I (wrap .i64 (x1*16)),I (wrap .i64 (x2*16))]:=by kernel_rfl
def On:=Q6j
theorem Z1v:Ai PG (C_pulse_Sum_0):=Ao rfl trivial
theorem Zu5:Al PG (209,Ad WK WK On):=rw1 (C:=C_pulse_Sum_0) Z1v
def Qk4:Sk:=⟨[TS.v true (cc 13++[CS.bool,ci,CS.bool]++cc 5++[CS.bool]),TS.v true (cc 13++[CS.bool,ci,CS.bool]++cc 5++[CS.bool])],[],[]⟩
def Qcq:Sk:=⟨[TS.tup [(false,[CS.sl kPt]),(false,[CS.sl kPt])]],[],[]⟩
def Ze0 (M:Fn):Nat×Spec:=(194,Ad Qk4 Qcq M)
def ZX (NA NX B8:Fn):Cfg:=cf [Z0k NA,Zr9 NX,Vs B8]
def Qem (NA NX B8:Fn):Fn:=Am PG (ZX NA NX B8) 64 194 Qk4 Qcq
theorem Zpw (NA NX B8:Fn) (x0 x1 x2 x3 x4 x5 x6 x7 x8 x9 x10 x11 x12:Int) (x13:Bool) (x14:Int) (x15:Bool) (x16 x17 x18 x19 x20:Int) (x21:Bool) (x22 x23 x24 x25 x26 x27 x28 x29 x30 x31 x32 x33 x34:Int) (x35:Bool) (x36:Int) (x37:Bool) (x38 x39 x40 x41 x42:Int) (x43:Bool):Qem NA NX B8 [I x0,I x1,I x2,I x3,I x4,I x5,I x6,I x7,I x8,I x9,I x10,I x11,I x12,B x13,I x14,B x15,I x16,I x17,I x18,I x19,I x20,B x21,I x22,I x23,I x24,I x25,I x26,I x27,I x28,I x29,I x30,I x31,I x32,I x33,I x34,B x35,I x36,B x37,I x38,I x39,I x40,I x41,I x42,B x43]=
 (B8 [I x0,I x1,I x2,I x3,I x4,I x5,I x6,I x7,I x8,I x9,I x10,I x11,I x12,B x13,I x14,B x15,I x16,I x17,I x18,I x19,I x20,B x21]).bind λo4=>
 (NX [I x5,I x6,I x7]).bind λo5=>
 (B8 [I x22,I x23,I x24,I x25,I x26,I x27,I x28,I x29,I x30,I x31,I x32,I x33,I x34,B x35,I x36,B x37,I x38,I x39,I x40,I x41,I x42,B x43]).bind λo6=>
 (NA [jA o4 0,jA o4 1,jA o4 2,jA o5 0,jA o5 1,jA o5 2,jA o6 0,jA o6 1,jA o6 2,I (wrap .i64 (x18*16))]).bind λo7=>
 bif decide (0<=wrap .i64 (wrap .i64 ((wrap .i64 ((↑(wA o7 0).length:Int)-1)).tdiv 2)+1))&&decide (wrap .i64 (wrap .i64 ((wrap .i64 ((↑(wA o7 0).length:Int)-1)).tdiv 2)+1)<=(↑(wA o7 0).length:Int))then
 bif decide (0<=wrap .i64 ((wrap .i64 ((↑(wA o7 0).length:Int)-1)).tdiv 2))&&decide (wrap .i64 ((wrap .i64 ((↑(wA o7 0).length:Int)-1)).tdiv 2)<=(↑(wA o7 0).length:Int))then
 some [.view kPt (List.take (wrap .i64 (wrap .i64 ((wrap .i64 ((↑(wA o7 0).length:Int)-1)).tdiv 2)+1)).toNat (wA o7 0)), .view kPt (List.drop (wrap .i64 ((wrap .i64 ((↑(wA o7 0).length:Int)-1)).tdiv 2)).toNat (wA o7 0))]
 else
 none
 else
 none:=by kernel_rfl
def Rp:=Qem Q2 On Gi
theorem Zlf:Ai PG (ZX Q2 On Gi):=Ao rfl ⟨Zke,Zu5,Qja,trivial⟩
theorem Zya:Al PG (194,Ad Qk4 Qcq Rp):=rw1 (C:=(ZX Q2 On Gi)) Zlf
def Vv:Sk:=⟨[TS.tup [(false,[ci]),(false,[ci]),(false,[ci]),(false,[CS.bool])]],[],[]⟩
def U9 (M:Fn):Nat×Spec:=(188,Ad Qik Vv M)
def Que:Fn:=Am PG C_pulse_Sum_0 64 188 Qik Vv
theorem Zlw (x0:Int):Que [I x0]=
 bif x0==17 then
 some [I 0,I 1,I 2,B true]
 else
 bif x0==18 then
 some [I 2,I 0,I 1,B true]
 else
 bif x0==19 then
 some [I 1,I 2,I 0,B true]
 else
 some [I 0,I 0,I 0,B false]:=by kernel_rfl
def FL:=Que
theorem Zhi:Ai PG (C_pulse_Sum_0):=Ao rfl trivial
theorem Qqg:Al PG (188,Ad Qik Vv FL):=rw1 (C:=C_pulse_Sum_0) Zhi
def Z06 (M:Fn):Nat×Spec:=(207,Ad Qji WK M)
def Qlb (DL:Fn):Cfg:=cf [U9 DL]
def Qch (DL:Fn):Fn:=Am PG (Qlb DL) 64 207 Qji WK
abbrev SI (o1:List AC) (x2:Int) (h2_0 h2_1 h2_2:AC):Option (List AC):=
 bif decide (gA o1 2=(↑0:Int))then
 some [I x2,h2_0,h2_1]
 else
 bif decide (gA o1 2=(↑(0+1):Int))then
 some [h2_2,I x2,h2_1]
 else
 bif decide (gA o1 2=(↑(0+1+1):Int))then
 some [h2_2,h2_0,I x2]
 else
 none
abbrev RQ (o1:List AC) (x2 x1:Int) (h1_0 h1_1 h1_2:AC):Option (List AC):=
 bif decide (gA o1 1=(↑0:Int))then
 SI o1 x2 h1_0 h1_1 (I x1)
 else
 bif decide (gA o1 1=(↑(0+1):Int))then
 SI o1 x2 (I x1) h1_1 h1_2
 else
 bif decide (gA o1 1=(↑(0+1+1):Int))then
 SI o1 x2 h1_0 (I x1) h1_2
 else
 none
theorem Z3o (DL:Fn) (x0 x1 x2 x3:Int):Qch DL [I x0,I x1,I x2,I x3]=
 (DL [I x3]).bind λo1=>
 bif bA o1 3 then
 bif decide (gA o1 0=(↑0:Int))then
 RQ o1 x2 x1 (I 0) (I 0) (I x0)
 else
 bif decide (gA o1 0=(↑(0+1):Int))then
 RQ o1 x2 x1 (I x0) (I 0) (I 0)
 else
 bif decide (gA o1 0=(↑(0+1+1):Int))then
 RQ o1 x2 x1 (I 0) (I x0) (I 0)
 else
 none
 else
 some [I 0,I 0,I 0]:=by kernel_rfl
def Oe:=Qch FL
theorem Z13:Ai PG (Qlb FL):=Ao rfl ⟨Qqg,trivial⟩
theorem Zbp:Al PG (207,Ad Qji WK Oe):=rw1 (C:=(Qlb FL)) Z13
def ZR:Sk:=⟨[TS.tup [(false,[ci]),(false,[ci]),(false,[ci])]],[],[]⟩
def Q1h (M:Fn):Nat×Spec:=(203,Ad X8 ZR M)
def Ye (DL:Fn):Cfg:=cf [U9 DL]
def Qol (DL:Fn):Fn:=Am PG (Ye DL) 64 203 X8 ZR
abbrev RZ (o1:List AC) (h1_0:AC) (x0 x1 x2:Int) (h2_0:AC):Option (List AC):=
 bif decide (gA o1 2=(↑0:Int))then
 some [h1_0,h2_0,I x0]
 else
 bif decide (gA o1 2=(↑(0+1):Int))then
 some [h1_0,h2_0,I x1]
 else
 bif decide (gA o1 2=(↑(0+1+1):Int))then
 some [h1_0,h2_0,I x2]
 else
 none
abbrev Tp (o1:List AC) (x0 x1 x2:Int) (h1_0:AC):Option (List AC):=
 bif decide (gA o1 1=(↑0:Int))then
 RZ o1 h1_0 x0 x1 x2 (I x0)
 else
 bif decide (gA o1 1=(↑(0+1):Int))then
 RZ o1 h1_0 x0 x1 x2 (I x1)
 else
 bif decide (gA o1 1=(↑(0+1+1):Int))then
 RZ o1 h1_0 x0 x1 x2 (I x2)
 else
 none
theorem Zuq (DL:Fn) (x0 x1 x2 x3:Int):Qol DL [I x0,I x1,I x2,I x3]=
 (DL [I x3]).bind λo1=>
 bif !bA o1 3 then
 some [I 0,I 0,I 0]
 else
 bif decide (gA o1 0=(↑0:Int))then
 Tp o1 x0 x1 x2 (I x0)
 else
 bif decide (gA o1 0=(↑(0+1):Int))then
 Tp o1 x0 x1 x2 (I x1)
 else
 bif decide (gA o1 0=(↑(0+1+1):Int))then
 Tp o1 x0 x1 x2 (I x2)
 else
 none:=by kernel_rfl
def Ih:=Qol FL
theorem Zyo:Ai PG (Ye FL):=Ao rfl ⟨Qqg,trivial⟩
theorem Q0g:Al PG (203,Ad X8 ZR Ih):=rw1 (C:=(Ye FL)) Zyo
def Qxk (M:Fn):Nat×Spec:=(204,Ad WK WK M)
def Qy2:Fn:=Am PG C_pulse_Sum_0 64 204 WK WK
theorem Zhu (x0 x1 x2:Int):Qy2 [I x0,I x1,I x2]=
 some [I (wrap .i64 (x0*16)),I (wrap .i64 (x1*16)),I (wrap .i64 (x2*16))]:=by kernel_rfl
def H2:=Qy2
theorem Zz7:Ai PG (C_pulse_Sum_0):=Ao rfl trivial
theorem Q3t:Al PG (204,Ad WK WK H2):=rw1 (C:=C_pulse_Sum_0) Zz7
def VD:Sk:=⟨[TS.v true [ci,ci,ci,ci],TS.v true [ci,ci,ci,ci]],[],[]⟩
def Yd (M:Fn):Nat×Spec:=(192,Ad VD Qik M)
def Qxb:Fn:=Am PG C_pulse_Sum_0 64 192 VD Qik
theorem Zx4 (x0 x1 x2 x3 x4 x5 x6 x7:Int):Qxb [I x0,I x1,I x2,I x3,I x4,I x5,I x6,I x7]=
 some [I (wrap .i64 (wrap .i64 (x0*x5)-wrap .i64 (x1*x4)))]:=by kernel_rfl
def G3:=Qxb
theorem Z2s:Ai PG (C_pulse_Sum_0):=Ao rfl trivial
theorem Qfi:Al PG (192,Ad VD Qik G3):=rw1 (C:=C_pulse_Sum_0) Z2s
def Qf8 (M:Fn):Nat×Spec:=(190,Ad VD Qik M)
def Q31:Fn:=Am PG C_pulse_Sum_0 64 190 VD Qik
theorem Ziu (x0 x1 x2 x3 x4 x5 x6 x7:Int):Q31 [I x0,I x1,I x2,I x3,I x4,I x5,I x6,I x7]=
 some [I (wrap .i64 (wrap .i64 (x0*x4)+wrap .i64 (x1*x5)))]:=by kernel_rfl
def Gz:=Q31
theorem Zxg:Ai PG (C_pulse_Sum_0):=Ao rfl trivial
theorem Qaq:Al PG (190,Ad VD Qik Gz):=rw1 (C:=C_pulse_Sum_0) Zxg
def Qkd:Sk:=⟨[TS.v true [ci,ci,ci,ci],TS.v true [ci,ci,ci,ci],tf [ci],tf [CS.bool]],[],[]⟩
def Qqm:Sk:=⟨[TS.tup [(true,[ci,ci,ci,ci]),(false,[CS.bool])]],[],[]⟩
def Zb4 (M:Fn):Nat×Spec:=(218,Ad Qkd Qqm M)
def Xr (Cq CM Ca:Fn):Cfg:=cf [Qrw Cq,Yd CM,Qf8 Ca]
def X5 (Cq CM Ca:Fn):Fn:=Am PG (Xr Cq CM Ca) 64 218 Qkd Qqm
abbrev Qbz (Cq:Fn) (h1_2:AC) (x2 x6:Int) (h1_3 h1_4:AC) (x3 x7:Int):Option (List AC):=
 (Cq [h1_2,I ((wrap .i64 (wrap .i64 (x2+x6)+1)).fdiv (2^min (Int.toNat 1) IntKind.i64.bits)),h1_3,I 2]).bind λo36=>
 (Cq [h1_4,I ((wrap .i64 (wrap .i64 (x2+x6)+1)).fdiv (2^min (Int.toNat 1) IntKind.i64.bits)),h1_3,I 2]).bind λo37=>
 some [jA o36 0,jA o37 0,I ((wrap .i64 (wrap .i64 (x2+x6)+1)).fdiv (2^min (Int.toNat 1) IntKind.i64.bits)),I ((wrap .i64 (wrap .i64 (x3+x7)+1)).fdiv (2^min (Int.toNat 1) IntKind.i64.bits)),B true]
abbrev P7 (Cq:Fn) (x2 x6 x3 x7:Int) (h1_0 h1_1:Bool) (h1_2 h1_3 h1_4:AC):Option (List AC):=
 bif h1_0 then
 bif h1_1 then
 some [I 0,I 0,I 0,I 0,B false]
 else
 Qbz Cq h1_2 x2 x6 h1_3 h1_4 x3 x7
 else
 Qbz Cq h1_2 x2 x6 h1_3 h1_4 x3 x7
abbrev Qci (x9:Bool) (Cq:Fn) (x2 x6 x3 x7 x0 x1:Int) (Ca:Fn) (x4 x5 x8:Int) (CM:Fn):Option (List AC):=
 bif x9 then
 P7 Cq x2 x6 x3 x7 (wrap .i64 (0-x0)==0) (wrap .i64 (0-x1)==0) (I (wrap .i64 (0-x0))) (I (wrap .i64 (wrap .i64 (wrap .i64 (0-x0)*wrap .i64 (0-x0))+wrap .i64 (wrap .i64 (0-x1)*wrap .i64 (0-x1))))) (I (wrap .i64 (0-x1)))
 else
 (Ca [I x0,I x1,I x2,I x3,I x4,I x5,I x6,I x7]).bind λo40=>
 bif decide (gA o40 0<=0)then
 P7 Cq x2 x6 x3 x7 (wrap .i64 (x8*wrap .i64 (x5-x1))==0) (wrap .i64 (x8*wrap .i64 (x0-x4))==0) (I (wrap .i64 (x8*wrap .i64 (x5-x1)))) (I (wrap .i64 (wrap .i64 (wrap .i64 (x8*wrap .i64 (x5-x1))*wrap .i64 (x8*wrap .i64 (x5-x1)))+wrap .i64 (wrap .i64 (x8*wrap .i64 (x0-x4))*wrap .i64 (x8*wrap .i64 (x0-x4)))))) (I (wrap .i64 (x8*wrap .i64 (x0-x4))))
 else
 (CM [I x0,I x1,I x2,I x3,I x4,I x5,I x6,I x7]).bind λo45=>
 bif decide (wrap .i64 (gA o45 0*x8)<=0)then
 P7 Cq x2 x6 x3 x7 (wrap .i64 (0-wrap .i64 (x0+x4))==0) (wrap .i64 (0-wrap .i64 (x1+x5))==0) (I (wrap .i64 (0-wrap .i64 (x0+x4)))) (I (wrap .i64 (wrap .i64 (wrap .i64 (0-wrap .i64 (x0+x4))*wrap .i64 (0-wrap .i64 (x0+x4)))+wrap .i64 (wrap .i64 (0-wrap .i64 (x1+x5))*wrap .i64 (0-wrap .i64 (x1+x5)))))) (I (wrap .i64 (0-wrap .i64 (x1+x5))))
 else
 P7 Cq x2 x6 x3 x7 (wrap .i64 (x0+x4)==0) (wrap .i64 (x1+x5)==0) (I (wrap .i64 (x0+x4))) (I (wrap .i64 (wrap .i64 (wrap .i64 (x0+x4)*wrap .i64 (x0+x4))+wrap .i64 (wrap .i64 (x1+x5)*wrap .i64 (x1+x5))))) (I (wrap .i64 (x1+x5)))
theorem Zrj (Cq CM Ca:Fn) (x0 x1 x2 x3 x4 x5 x6 x7 x8:Int) (x9:Bool):X5 Cq CM Ca [I x0,I x1,I x2,I x3,I x4,I x5,I x6,I x7,I x8,B x9]=
 bif x8 !=1 then
 bif x8 != -1 then
 some [I 0,I 0,I 0,I 0,B false]
 else
 Qci x9 Cq x2 x6 x3 x7 x0 x1 Ca x4 x5 x8 CM
 else
 Qci x9 Cq x2 x6 x3 x7 x0 x1 Ca x4 x5 x8 CM:=by kernel_rfl
def LC:=X5 If G3 Gz
theorem Zui:Ai PG (Xr If G3 Gz):=Ao rfl ⟨Qs6,Qfi,Qaq,trivial⟩
theorem Z5w:Al PG (218,Ad Qkd Qqm LC):=rw1 (C:=(Xr If G3 Gz)) Zui
def Ze1 (M:Fn):Nat×Spec:=(223,Ad Qe3 Xp M)
def Qym:Fn:=Am PG C_pulse_Sum_0 64 223 Qe3 Xp
theorem Zcu (x0 x1:Int):Qym [I x0,I x1]=
 some [B (decide (x1<=wrap .i64 (wrap .i64 (wrap .i64 (8*x0)*4)-64)))]:=by kernel_rfl
def OH:=Qym
theorem Z5a:Ai PG (C_pulse_Sum_0):=Ao rfl trivial
theorem Zmh:Al PG (223,Ad Qe3 Xp OH):=rw1 (C:=C_pulse_Sum_0) Z5a
def Za:Sk:=⟨[tf [CS.ptr 20000 0],TS.v true [ci,ci,ci,ci],TS.v true [ci,ci,ci,ci],tf [CS.bool]],[(20000,254,[ci,CS.own 20000 4])],[(20000,231,[kI,kI,kI,kI])]⟩
def Zq:Sk:=⟨[tf [CS.bool]],[(20000,254,[ci,CS.own 20000 4])],[(20000,231,[kI,kI,kI,kI])]⟩
def Zvt (M:Fn):Nat×Spec:=(217,Ad Za Zq M)
def Qkq (Pi CM:Fn):Cfg:=cf [Ze1 Pi,Yd CM]
def Qbj (Pi CM:Fn):Fn:=Am PG (Qkq Pi CM) 64 217 Za Zq
theorem Zdw (Pi CM:Fn) (x0:Rw) (x1 x2 x3 x4 x5 x6 x7 x8:Int) (x9:Bool) (x10:Int):Qbj Pi CM [.view [kI,kI,kI,kI] x0,I x1,I x2,I x3,I x4,I x5,I x6,I x7,I x8,B x9,I x10]=
 bif !x9 then
 (CM [I x1,I x2,I x3,I x4,I x5,I x6,I x7,I x8]).bind λo2=>
 bif decide (wrap .i64 (gA o2 0*x10)>0)then
 (Pi [I (mn x3 x7),I (wrap .i64 (wrap .i64 (wrap .i64 (x1-x5)*wrap .i64 (x1-x5))+wrap .i64 (wrap .i64 (x2-x6)*wrap .i64 (x2-x6))))]).bind λo3=>
 some [.view [kI,kI,kI,kI] x0,B (bA o3 0),I x10]
 else
 some [.view [kI,kI,kI,kI] x0,B false,I x10]
 else
 some [.view [kI,kI,kI,kI] x0,B false,I x10]:=by kernel_rfl
def Mf:=Qbj OH G3
theorem Zxq:Ai PG (Qkq OH G3):=Ao rfl ⟨Zmh,Qfi,trivial⟩
theorem Z04:Al PG (217,Ad Za Zq Mf):=rw1 (C:=(Qkq OH G3)) Zxq
def Qx2:Nat:=20
def LG:Sk:=⟨[tf [CS.ptr 20000 0],TS.v true [ci,ci,ci,ci],TS.v true [ci,ci,ci,ci],tf [CS.bool],tf [ci]],[(20000,254,[ci,CS.own 20000 4])],[(20000,231,[kI,kI,kI,kI])]⟩
def Li:Sk:=⟨[TS.tup []],[(20000,254,[ci,CS.own 20000 4])],[(20000,231,[kI,kI,kI,kI])]⟩
def Qt6 (M:Fn):Nat×Spec:=(212,Ad LG Li M)
def Qn3 (FN Ox NG:Fn):Cfg:=cp [Qt6 FN,Zb4 Ox,Zvt NG] [212,217]
def Uq (FN Ox NG:Fn):Fn:=Am PG (Qn3 FN Ox NG) 64 212 LG Li
theorem Qx4 (FN Ox NG:Fn) (x0:Rw) (x1 x2 x3 x4 x5 x6 x7 x8:Int) (x9:Bool) (x10 x11:Int):Uq FN Ox NG [.view [kI,kI,kI,kI] x0,I x1,I x2,I x3,I x4,I x5,I x6,I x7,I x8,B x9,I x10,I x11]=
 bif decide (x10<16)then
 (NG [.view [kI,kI,kI,kI] x0,I x1,I x2,I x3,I x4,I x5,I x6,I x7,I x8,B x9,I x11]).bind λo4=>
 bif !bA o4 1 then
 (Ox [I x1,I x2,I x3,I x4,I x5,I x6,I x7,I x8,jA o4 2,B x9]).bind λo5=>
 bif bA o5 4 then
 (FN [.view [kI,kI,kI,kI] (wA o4 0),I x1,I x2,I x3,I x4,jA o5 0,jA o5 1,jA o5 2,jA o5 3,B false,I (wrap .i64 (x10+1)),jA o4 2]).bind λo6=>
 (FN [.view [kI,kI,kI,kI] (wA o6 0),jA o5 0,jA o5 1,jA o5 2,jA o5 3,I x5,I x6,I x7,I x8,B false,I (wrap .i64 (x10+1)),jA o6 1]).bind λo7=>
 some [.view [kI,kI,kI,kI] (wA o7 0),jA o7 1]
 else
 bif((wA o4 0++[[I x5,I x6,I x7,I x8]]).length*32).ble 140737488355328 then
 some [.view [kI,kI,kI,kI] (wA o4 0++[[I x5,I x6,I x7,I x8]]),jA o4 2]
 else
 none
 else
 bif((wA o4 0++[[I x5,I x6,I x7,I x8]]).length*32).ble 140737488355328 then
 some [.view [kI,kI,kI,kI] (wA o4 0++[[I x5,I x6,I x7,I x8]]),jA o4 2]
 else
 none
 else
 bif((x0++[[I x5,I x6,I x7,I x8]]).length*32).ble 140737488355328 then
 some [.view [kI,kI,kI,kI] (x0++[[I x5,I x6,I x7,I x8]]),I x11]
 else
 none:=by kernel_rfl
def Q5b (M:Fn):Fn:=Uq M LC Mf
def Pc:Nat->Fn
 |0=>λ_=>none
 |n+1=>Q5b (Pc n)
theorem Zkd {M:Fn} (h:Al PG (212,Ad LG Li M)):Ai PG (Qn3 M LC Mf):=Ao rfl ⟨h,Z5w,Z04,trivial⟩
theorem Zoa {M:Fn} (h:Al PG (212,Ad LG Li M)):Al PG (212,Ad LG Li (Q5b M)):=Qgy (C:=(Qn3 M LC Mf)) (L:=64) (by kernel_rfl) (FnOK.bare rfl rfl rfl) (Zkd h) eqOk GH (by kernel_rfl) (by kernel_rfl)
theorem Q42:∀n,Al PG (212,Ad LG Li (Pc n))
 |0=>Zbm
 |n+1=>Zoa (Q42 n)
def Sz:=Pc Qx2
theorem Zov:Al PG (212,Ad LG Li Sz):=Q42 Qx2
def Qn2:Sk:=⟨[TS.tup [(true,[ci,ci,ci,ci]),(true,[ci,ci,ci,ci])]],[],[]⟩
def Q4l (M:Fn):Nat×Spec:=(189,Ad Qbr Qn2 M)
def Qan (Ce BU:Fn):Cfg:=cf [Q1h Ce,Qxk BU]
def Q37:Sk:=⟨[td,tf [CS.ptr 1 0],tf [CS.ptr 2 0],tf [CS.ptr 3 0],tf [CS.ptr 4 0],tf [ci],tf [ci]]++dd 20++[TS.v true (cc 6),tf [ci]]++dd 27,[(1,74,cc 13++[CS.bool,ci,CS.bool]++cc 5++[CS.bool]),(2,231,[ci,ci,ci,ci]),(3,231,[ci,ci,ci,ci]),(4,242,cc 8)],[]⟩
def Qxr:List (Ex×Sk):=[(Ex.exit 0,⟨[td,td,tf [CS.ptr 2 0],tf [CS.ptr 3 0],tf [CS.ptr 4 0]]++dd 51,[(2,231,[ci,ci,ci,ci]),(3,231,[ci,ci,ci,ci]),(4,242,cc 8)],[]⟩)]
def V4 (Ce BU:Fn):Lp:=AS PG (Qan Ce BU) 64 4 (AV PG 189 4) Q37 Qxr
def Q99 (Ce BU:Fn) (N4:Lp):Cfg:=(Qan Ce BU).loop 4 Q37 Qxr N4
def Qpi (Ce BU:Fn) (N4:Lp):Fn:=Am PG (Q99 Ce BU N4) 64 189 Qbr Qn2
abbrev Qjc (BU Ce:Fn) (v17 v8 v0 v1 v2 v3 v4 v5 v6 v7 v9 v10 v11 v12 v13 v14 v15 v16 v18 v19 v20 v21:Int) (v22:Bool) (v23:Int) (v24:Bool) (v25 v26 v27 v28 v29:Int) (v30:Bool) (v31 v32 v33 v34 v35 v36 v37 v38 v43 v44 v45 v46 v39 v40 v41 v42:Int) (h1_0 h1_1 h1_2:AC):Option (Nat×List AC):=
 (BU [h1_0,h1_1,h1_2]).bind λo9=>
 (Ce [jA o9 0,jA o9 1,jA o9 2,I v17]).bind λo10=>
 bif decide (v8=(↑0:Int))then
 some (0,[I v0,I v1,I v2,I v3,I v4,I v5,I v6,I v7,I (wrap .i64 (v8+1)),I v9,I v10,I v11,I v12,I v13,I v14,I v15,I v16,I v17,I v18,I v19,I v20,I v21,B v22,I v23,B v24,I v25,I v26,I v27,I v28,I v29,B v30,I v31,I v32,I v33,I v34,I v35,I v36,I v37,I v38,I (wrap .i64 (gA o10 0-v0)),I (wrap .i64 (gA o10 1-v1)),I 0,jA o10 2,I v43,I v44,I v45,I v46])
 else
 bif decide (v8=(↑(0+1):Int))then
 some (0,[I v0,I v1,I v2,I v3,I v4,I v5,I v6,I v7,I (wrap .i64 (v8+1)),I v9,I v10,I v11,I v12,I v13,I v14,I v15,I v16,I v17,I v18,I v19,I v20,I v21,B v22,I v23,B v24,I v25,I v26,I v27,I v28,I v29,B v30,I v31,I v32,I v33,I v34,I v35,I v36,I v37,I v38,I v39,I v40,I v41,I v42,I (wrap .i64 (gA o10 0-v0)),I (wrap .i64 (gA o10 1-v1)),I 0,jA o10 2])
 else
 none
theorem Qd3 (Ce BU:Fn) (v0 v1 v2 v3 v4 v5 v6 v7 v8 v9 v10 v11 v12 v13 v14 v15 v16 v17 v18 v19 v20 v21:Int) (v22:Bool) (v23:Int) (v24:Bool) (v25 v26 v27 v28 v29:Int) (v30:Bool) (v31 v32 v33 v34 v35 v36 v37 v38 v39 v40 v41 v42 v43 v44 v45 v46:Int):V4 Ce BU [I v0,I v1,I v2,I v3,I v4,I v5,I v6,I v7,I v8,I v9,I v10,I v11,I v12,I v13,I v14,I v15,I v16,I v17,I v18,I v19,I v20,I v21,B v22,I v23,B v24,I v25,I v26,I v27,I v28,I v29,B v30,I v31,I v32,I v33,I v34,I v35,I v36,I v37,I v38,I v39,I v40,I v41,I v42,I v43,I v44,I v45,I v46]=
 bif decide (v8<2)then
 bif decide (v8=(↑0:Int))then
 Qjc BU Ce v17 v8 v0 v1 v2 v3 v4 v5 v6 v7 v9 v10 v11 v12 v13 v14 v15 v16 v18 v19 v20 v21 v22 v23 v24 v25 v26 v27 v28 v29 v30 v31 v32 v33 v34 v35 v36 v37 v38 v43 v44 v45 v46 v39 v40 v41 v42 (I v2) (I v3) (I v4)
 else
 bif decide (v8=(↑(0+1):Int))then
 Qjc BU Ce v17 v8 v0 v1 v2 v3 v4 v5 v6 v7 v9 v10 v11 v12 v13 v14 v15 v16 v18 v19 v20 v21 v22 v23 v24 v25 v26 v27 v28 v29 v30 v31 v32 v33 v34 v35 v36 v37 v38 v43 v44 v45 v46 v39 v40 v41 v42 (I v5) (I v6) (I v7)
 else
 none
 else
 some (1,[I v31,I v32,I v33,I v34,I v35,I v36,I v37,I v38,I v39,I v40,I v41,I v42,I v43,I v44,I v45,I v46]):=by kernel_rfl
theorem Zgq (Ce BU:Fn) (N4:Lp) (x0 x1 x2 x3 x4 x5 x6 x7 x8 x9 x10 x11 x12:Int) (x13:Bool) (x14:Int) (x15:Bool) (x16 x17 x18 x19 x20:Int) (x21:Bool):Qpi Ce BU N4 [I x0,I x1,I x2,I x3,I x4,I x5,I x6,I x7,I x8,I x9,I x10,I x11,I x12,B x13,I x14,B x15,I x16,I x17,I x18,I x19,I x20,B x21]=
 (BU [I x9,I x10,I x11]).bind λo13=>
 (Ce [jA o13 0,jA o13 1,jA o13 2,I x8]).bind λo14=>
 (N4 [jA o14 0,jA o14 1,I x2,I x3,I x4,I x5,I x6,I x7,I 0,I x0,I x1,I x2,I x3,I x4,I x5,I x6,I x7,I x8,I x9,I x10,I x11,I x12,B x13,I x14,B x15,I x16,I x17,I x18,I x19,I x20,B x21,I 0,I 0,I 0,I 0,I 0,I 0,I 0,I 0,I 0,I 0,I 0,I 0,I 0,I 0,I 0,I 0]).bind λo15=>
 bif o15.1.beq 1 then
 some [jA o15.2 8,jA o15.2 9,jA o15.2 10,jA o15.2 11,jA o15.2 12,jA o15.2 13,jA o15.2 14,jA o15.2 15]
 else
 none:=by kernel_rfl
def Q9o:=An (V4 Ih H2)
def J0:=Qpi Ih H2 Q9o
theorem Qrf:Ai PG (Qan Ih H2):=Ao rfl ⟨Q0g,Q3t,trivial⟩
theorem Q8h:Al PG (189,Ad Qbr Qn2 J0):=rw2 (C:=(Q99 Ih H2 Q9o)) (fl fb Qrf) Qrf
def Zsk (M:Fn):Nat×Spec:=(205,Ad Qji Qik M)
def YX (Eb BI Cj C9:Fn):Cfg:=cf [Qrl Eb,T8 BI,Qe4 Cj,Qkl C9]
def US (Eb BI Cj C9:Fn):Fn:=Am PG (YX Eb BI Cj C9) 64 205 Qji Qik
theorem Zw0 (Eb BI Cj C9:Fn) (x0 x1 x2 x3:Int):US Eb BI Cj C9 [I x0,I x1,I x2,I x3]=
 (C9 [I x0,I x1]).bind λo9=>
 (C9 [I x2,I x3]).bind λo10=>
 bif gA o9 0 !=gA o10 0 then
 bif decide (gA o9 0<gA o10 0)then
 some [I (-1)]
 else
 some [I 1]
 else
 (Cj [I x0]).bind λo11=>
 (Cj [I x1]).bind λo12=>
 (BI [U (gA o11 0),U (gA o12 0)]).bind λo13=>
 (Cj [I x2]).bind λo14=>
 (Cj [I x3]).bind λo15=>
 (BI [U (gA o14 0),U (gA o15 0)]).bind λo16=>
 (Eb [U (gA o13 0),U (gA o13 1),U (gA o16 0),U (gA o16 1)]).bind λo17=>
 some [I (wrap .i64 (gA o9 0*gA o17 0))]:=by kernel_rfl
def NB:=US Ii Et Gc FB
theorem Z2y:Ai PG (YX Ii Et Gc FB):=Ao rfl ⟨Qrt,Tl,Zr,Z3,trivial⟩
theorem Zig:Al PG (205,Ad Qji Qik NB):=rw1 (C:=(YX Ii Et Gc FB)) Z2y
def Zw5 (M:Fn):Nat×Spec:=(191,Ad Qe3 Xp M)
def Qbk (OY:Fn):Cfg:=cf [Zsk OY]
def Qi2 (OY:Fn):Fn:=Am PG (Qbk OY) 64 191 Qe3 Xp
theorem Zvz (OY:Fn) (x0 x1:Int):Qi2 OY [I x0,I x1]=
 bif decide (wrap .i64 (wrap .i64 (mx x0 x1-mn x0 x1)-16)<=0)then
 some [B true]
 else
 (OY [I (wrap .i64 (wrap .i64 (mx x0 x1-mn x0 x1)-16)),I (wrap .i64 (wrap .i64 (mx x0 x1-mn x0 x1)-16)),I 64,I (mn x0 x1)]).bind λo1=>
 some [B (decide (gA o1 0<=0))]:=by kernel_rfl
def Q9:=Qi2 NB
theorem Ztp:Ai PG (Qbk NB):=Ao rfl ⟨Zig,trivial⟩
theorem Z10:Al PG (191,Ad Qe3 Xp Q9):=rw1 (C:=(Qbk NB)) Ztp
def Zzi (M:Fn):Nat×Spec:=(187,Ad WK Xp M)
def Q6o:Fn:=Am PG VO 64 187 WK Xp
theorem Z0u (x0 x1 x2:Int):Q6o [I x0,I x1,I x2]=
 bif decide (x0< -1048576)then
 some [B false]
 else
 bif decide (x0>1048576)then
 some [B false]
 else
 bif decide (x1< -1048576)then
 some [B false]
 else
 bif decide (x1>1048576)then
 some [B false]
 else
 bif decide (x2< -1048576)then
 some [B false]
 else
 bif decide (x2>1048576)then
 some [B false]
 else
 some [B true]:=by kernel_rfl
def O0:=Q6o
theorem Zvs:Ai PG (VO):=Ao rfl trivial
theorem Zbu:Al PG (187,Ad WK Xp O0):=rw1 (C:=VO) Zvs
def Qgd (M:Fn):Nat×Spec:=(167,Ad Qbr Xp M)
def WP (CM JG Ca Fb DL Hy:Fn):Cfg:=cf [Yd CM,Zw5 JG,Qf8 Ca,Q4l Fb,U9 DL,Zzi Hy]
def Qhj (CM JG Ca Fb DL Hy:Fn):Fn:=Am PG (WP CM JG Ca Fb DL Hy) 64 167 Qbr Xp
abbrev Qii (Hy:Fn) (x9 x10 x11:Int) (Fb:Fn) (x0 x1 x2 x3 x4 x5 x6 x7 x8 x12:Int) (x13:Bool) (x14:Int) (x15:Bool) (x16 x17 x18 x19 x20:Int) (x21:Bool) (Ca JG CM:Fn):Option (List AC):=
 (Hy [I x9,I x10,I x11]).bind λo20=>
 bif !bA o20 0 then
 some [B false]
 else
 (Fb [I x0,I x1,I x2,I x3,I x4,I x5,I x6,I x7,I x8,I x9,I x10,I x11,I x12,B x13,I x14,B x15,I x16,I x17,I x18,I x19,I x20,B x21]).bind λo21=>
 (Ca [jA o21 0,jA o21 1,jA o21 2,jA o21 3,jA o21 0,jA o21 1,jA o21 2,jA o21 3]).bind λo22=>
 (Ca [jA o21 4,jA o21 5,jA o21 6,jA o21 7,jA o21 4,jA o21 5,jA o21 6,jA o21 7]).bind λo23=>
 bif decide (gA o22 0<wrap .i64 (128*128))then
 some [B false]
 else
 bif decide (gA o23 0<wrap .i64 (128*128))then
 some [B false]
 else
 (JG [I (wrap .i64 ((gA o22 0).tdiv 256)),I (wrap .i64 ((gA o23 0).tdiv 256))]).bind λo24=>
 bif !bA o24 0 then
 some [B false]
 else
 bif x13 then
 bif gA o21 0==gA o21 4 then
 some [B (gA o21 1==gA o21 5)]
 else
 some [B false]
 else
 (CM [jA o21 0,jA o21 1,jA o21 2,jA o21 3,jA o21 4,jA o21 5,jA o21 6,jA o21 7]).bind λo25=>
 bif gA o25 0 !=0 then
 some [B true]
 else
 (Ca [jA o21 0,jA o21 1,jA o21 2,jA o21 3,jA o21 4,jA o21 5,jA o21 6,jA o21 7]).bind λo26=>
 some [B (decide (gA o26 0<0))]
theorem Zkn (CM JG Ca Fb DL Hy:Fn) (x0 x1 x2 x3 x4 x5 x6 x7 x8 x9 x10 x11 x12:Int) (x13:Bool) (x14:Int) (x15:Bool) (x16 x17 x18 x19 x20:Int) (x21:Bool):Qhj CM JG Ca Fb DL Hy [I x0,I x1,I x2,I x3,I x4,I x5,I x6,I x7,I x8,I x9,I x10,I x11,I x12,B x13,I x14,B x15,I x16,I x17,I x18,I x19,I x20,B x21]=
 bif decide (x0<1)then
 some [B false]
 else
 bif decide (x0>6)then
 some [B false]
 else
 (Hy [I x2,I x3,I x4]).bind λo17=>
 bif !bA o17 0 then
 some [B false]
 else
 (Hy [I x5,I x6,I x7]).bind λo18=>
 bif !bA o18 0 then
 some [B false]
 else
 bif x0 !=3 then
 some [B true]
 else
 (DL [I x8]).bind λo19=>
 bif !bA o19 3 then
 some [B false]
 else
 bif x12 !=1 then
 bif x12 != -1 then
 some [B false]
 else
 Qii Hy x9 x10 x11 Fb x0 x1 x2 x3 x4 x5 x6 x7 x8 x12 x13 x14 x15 x16 x17 x18 x19 x20 x21 Ca JG CM
 else
 Qii Hy x9 x10 x11 Fb x0 x1 x2 x3 x4 x5 x6 x7 x8 x12 x13 x14 x15 x16 x17 x18 x19 x20 x21 Ca JG CM:=by kernel_rfl
def GV:=Qhj G3 Q9 Gz J0 FL O0
theorem Zjw:Ai PG (WP G3 Q9 Gz J0 FL O0):=Ao rfl ⟨Qfi,Z10,Qaq,Q8h,Qqg,Zbu,trivial⟩
theorem Qga:Al PG (167,Ad Qbr Xp GV):=rw1 (C:=(WP G3 Q9 Gz J0 FL O0)) Zjw
def Qb9:Sk:=⟨[TS.tup [(false,[CS.sl [kI,kI,kI,kI]]),(false,[CS.bool])]],[],[]⟩
def Zzo (M:Fn):Nat×Spec:=(206,Ad Qbr Qb9 M)
def VS (FN FI Ca Fb CO:Fn):Cfg:={cp [Qt6 FN,Qrz FI,Qf8 Ca,Q4l Fb,Qgd CO] [212]with rowDst:=[39]}
def YO (FN FI Ca Fb CO:Fn):Fn:=Am PG (VS FN FI Ca Fb CO) 64 206 Qbr Qb9
theorem Ziy (FN FI Ca Fb CO:Fn) (x0 x1 x2 x3 x4 x5 x6 x7 x8 x9 x10 x11 x12:Int) (x13:Bool) (x14:Int) (x15:Bool) (x16 x17 x18 x19 x20:Int) (x21:Bool):YO FN FI Ca Fb CO [I x0,I x1,I x2,I x3,I x4,I x5,I x6,I x7,I x8,I x9,I x10,I x11,I x12,B x13,I x14,B x15,I x16,I x17,I x18,I x19,I x20,B x21]=
 bif x0 !=3 then
 some [.view [kI,kI,kI,kI] [],B false]
 else
 (CO [I x0,I x1,I x2,I x3,I x4,I x5,I x6,I x7,I x8,I x9,I x10,I x11,I x12,B x13,I x14,B x15,I x16,I x17,I x18,I x19,I x20,B x21]).bind λo7=>
 bif !bA o7 0 then
 some [.view [kI,kI,kI,kI] [],B false]
 else
 (Fb [I x0,I x1,I x2,I x3,I x4,I x5,I x6,I x7,I x8,I x9,I x10,I x11,I x12,B x13,I x14,B x15,I x16,I x17,I x18,I x19,I x20,B x21]).bind λo8=>
 (Ca [jA o8 0,jA o8 1,jA o8 2,jA o8 3,jA o8 0,jA o8 1,jA o8 2,jA o8 3]).bind λo9=>
 (FI [jA o9 0,I 2]).bind λo10=>
 (Ca [jA o8 4,jA o8 5,jA o8 6,jA o8 7,jA o8 4,jA o8 5,jA o8 6,jA o8 7]).bind λo11=>
 (FI [jA o11 0,I 2]).bind λo12=>
 (FN [.view [kI,kI,kI,kI] [[jA o8 0,jA o8 1,jA o10 0,jA o8 3]],jA o8 0,jA o8 1,jA o10 0,jA o8 3,jA o8 4,jA o8 5,jA o12 0,jA o8 7,B x13,I 0,I x12]).bind λo13=>
 some [.view [kI,kI,kI,kI] (wA o13 0),B true]:=by kernel_rfl
def OS:=YO Sz IY Gz J0 GV
theorem Zdc:Ai PG (VS Sz IY Gz J0 GV):=Ao rfl ⟨Zov,Q4f,Qaq,Q8h,Qga,trivial⟩
theorem Z42:Al PG (206,Ad Qbr Qb9 OS):=rw1 (C:=(VS Sz IY Gz J0 GV)) Zdc
def ZT:Sk:=⟨[TS.tup [(false,[CS.sl kPt]),(false,[CS.bool])]],[],[]⟩
def Zep (M:Fn):Nat×Spec:=(193,Ad Qbr ZT M)
def Qqd (GB Ce BU GW CO:Fn):Cfg:=cf [Z06 GB,Q1h Ce,Qxk BU,Zzo GW,Qgd CO]
def Qw6:Sk:=⟨[td,tf [CS.ptr 1 0],td,td,td,td,tf [ci],tf [ci],td,tf [CS.own 41 3]]++dd 32++[tf [CS.sl [kI,kI,kI,kI]],tf [ci],tf [ci]]++dd 22,[(1,74,cc 13++[CS.bool,ci,CS.bool]++cc 5++[CS.bool])],[(41,54,kPt)]⟩
def Q5x:List (Ex×Sk):=[(Ex.exit 0,⟨dd 9++[tf [CS.own 41 3]]++dd 57,[],[(41,54,kPt)]⟩)]
def Ph (GB Ce BU GW CO:Fn):Lp:=AS PG (Qqd GB Ce BU GW CO) 64 9 (AV PG 193 9) Qw6 Q5x
def Q25 (GB Ce BU GW CO:Fn) (N9:Lp):Cfg:=(Qqd GB Ce BU GW CO).loop 9 Qw6 Q5x N9
def Tv (GB Ce BU GW CO:Fn) (N9:Lp):Fn:=Am PG (Q25 GB Ce BU GW CO N9) 64 193 Qbr ZT
theorem Zai (GB Ce BU GW CO:Fn) (v0:Rw) (v1 v2:Int) (v3:Rw) (v4 v5 v6 v7 v8 v9 v10 v11 v12 v13 v14 v15 v16 v17 v18:Int) (v19:Bool) (v20:Int) (v21:Bool) (v22 v23 v24 v25 v26:Int) (v27:Bool):Ph GB Ce BU GW CO [.view kPt v0,I v1,I v2, .view [kI,kI,kI,kI] v3,I v4,I v5,I v6,I v7,I v8,I v9,I v10,I v11,I v12,I v13,I v14,I v15,I v16,I v17,I v18,B v19,I v20,B v21,I v22,I v23,I v24,I v25,I v26,B v27]=
 bif decide (v5<v4)then
 bif decide (0<=v5)&&decide (v5<(v3.length:Int))then
 (GB [I (wrap .i64 (v1+gA (nth [] v3 v5.toNat) 0)),I (wrap .i64 (v2+gA (nth [] v3 v5.toNat) 1)),jA (nth [] v3 v5.toNat) 3,I v14]).bind λo14=>
 bif decide (0<=v5)&&decide (v5<(v0.length:Int))then
 some (0,[.view kPt (v0.set v5.toNat [jA o14 0,jA o14 1,jA o14 2]),I v1,I v2, .view [kI,kI,kI,kI] v3,I v4,I (wrap .i64 (v5+1)),I v6,I v7,I v8,I v9,I v10,I v11,I v12,I v13,I v14,I v15,I v16,I v17,I v18,B v19,I v20,B v21,I v22,I v23,I v24,I v25,I v26,B v27])
 else
 none
 else
 none
 else
 some (1,[.view kPt v0]):=by kernel_rfl
theorem Qi0 (GB Ce BU GW CO:Fn) (N9:Lp) (x0 x1 x2 x3 x4 x5 x6 x7 x8 x9 x10 x11 x12:Int) (x13:Bool) (x14:Int) (x15:Bool) (x16 x17 x18 x19 x20:Int) (x21:Bool):Tv GB Ce BU GW CO N9 [I x0,I x1,I x2,I x3,I x4,I x5,I x6,I x7,I x8,I x9,I x10,I x11,I x12,B x13,I x14,B x15,I x16,I x17,I x18,I x19,I x20,B x21]=
 (CO [I x0,I x1,I x2,I x3,I x4,I x5,I x6,I x7,I x8,I x9,I x10,I x11,I x12,B x13,I x14,B x15,I x16,I x17,I x18,I x19,I x20,B x21]).bind λo15=>
 bif !bA o15 0 then
 some [.view kPt [],B false]
 else
 (GW [I x0,I x1,I x2,I x3,I x4,I x5,I x6,I x7,I x8,I x9,I x10,I x11,I x12,B x13,I x14,B x15,I x16,I x17,I x18,I x19,I x20,B x21]).bind λo16=>
 bif !bA o16 1 then
 (BU [I x2,I x3,I x4]).bind λo17=>
 (BU [I x5,I x6,I x7]).bind λo18=>
 some [.view kPt [[jA o17 0,jA o17 1,jA o17 2],[jA o18 0,jA o18 1,jA o18 2]],B true]
 else
 (BU [I x9,I x10,I x11]).bind λo19=>
 (Ce [jA o19 0,jA o19 1,jA o19 2,I x8]).bind λo20=>
 bif decide ((↑(wA o16 0).length:Int)=(↑(wA o16 0).length:Int))then
 bif decide (0<=(↑(wA o16 0).length:Int))&&decide ((↑(wA o16 0).length:Int)*(↑24:Int)<=140737488355328)then
 (N9 [.view kPt (List.replicate (↑(wA o16 0).length:Int).toNat [I 0,I 0,I 0]),jA o20 0,jA o20 1, .view [kI,kI,kI,kI] (wA o16 0),I (↑(wA o16 0).length:Int),I 0,I x0,I x1,I x2,I x3,I x4,I x5,I x6,I x7,I x8,I x9,I x10,I x11,I x12,B x13,I x14,B x15,I x16,I x17,I x18,I x19,I x20,B x21]).bind λo21=>
 bif o21.1.beq 1 then
 some [.view kPt (wA o21.2 0),B true]
 else
 none
 else
 none
 else
 none:=by kernel_rfl
def Q73:=An (Ph Oe Ih H2 OS GV)
def Qq:=Tv Oe Ih H2 OS GV Q73
theorem Qtx:Ai PG (Qqd Oe Ih H2 OS GV):=Ao rfl ⟨Zbp,Q0g,Q3t,Z42,Qga,trivial⟩
theorem Z3b:Al PG (193,Ad Qbr ZT Qq):=rw2 (C:=(Q25 Oe Ih H2 OS GV Q73)) (fl fb Qtx) Qtx
def Qqk:Sk:=⟨[tf [CS.sl Aj],tf [ci],tf [ci]],[],[]⟩
def Z5l (M:Fn):Nat×Spec:=(170,Ad Qqk Ww M)
def Qek (B8 BB B0 JZ Bs NO:Fn):Cfg:=cf [Vs B8,XN BB,Q5k B0,Ze0 JZ,UG Bs,Zep NO]
def Qjt (B8 BB B0 JZ Bs NO:Fn):Fn:=Am PG (Qek B8 BB B0 JZ Bs NO) 64 170 Qqk Ww
theorem Zl5 (B8 BB B0 JZ Bs NO:Fn) (x0:Rw) (x1 x2:Int):Qjt B8 BB B0 JZ Bs NO [.view Aj x0,I x1,I x2]=
 bif decide (0<=x1)&&decide (x1<(x0.length:Int))then
 (NO (AN Aj (nth [] x0 x1.toNat))).bind λo13=>
 (Bs (AN Aj (nth [] x0 x1.toNat))).bind λo14=>
 bif !bA o14 0 then
 some [.view kPt (wA o13 0)]
 else
 bif decide (0<=1)&&decide (1<=(↑(wA o13 0).length:Int))then
 bif decide (0<=wrap .i64 ((↑(wA o13 0).length:Int)-1))&&decide (wrap .i64 ((↑(wA o13 0).length:Int)-1)<=(↑(wA o13 0).length:Int))then
 bif decide (x2>=0)then
 bif decide (0<=x2)&&decide (x2<(x0.length:Int))then
 (JZ (AN Aj (nth [] x0 x2.toNat)++AN Aj (nth [] x0 x1.toNat))).bind λo15=>
 (B0 [.view Aj x0,I x1]).bind λo16=>
 bif bA o16 0 then
 (BB [.view Aj x0,I x1]).bind λo17=>
 bif decide (0<=gA o17 0)&&decide (gA o17 0<(x0.length:Int))then
 (JZ (AN Aj (nth [] x0 x1.toNat)++AN Aj (nth [] x0 (gA o17 0).toNat))).bind λo18=>
 bif(([]++wA o15 1).length*24).ble 140737488355328 then
 (B8 (AN Aj (nth [] x0 x1.toNat))).bind λo19=>
 bif(([]++wA o15 1++[[jA o19 0,jA o19 1,jA o19 2]]).length*24).ble 140737488355328 then
 bif(([]++wA o15 1++[[jA o19 0,jA o19 1,jA o19 2]]++wA o18 0).length*24).ble 140737488355328 then
 some [.view kPt ([]++wA o15 1++[[jA o19 0,jA o19 1,jA o19 2]]++wA o18 0)]
 else
 none
 else
 none
 else
 none
 else
 none
 else
 bif(([]++wA o15 1).length*24).ble 140737488355328 then
 (B8 (AN Aj (nth [] x0 x1.toNat))).bind λo20=>
 bif(([]++wA o15 1++[[jA o20 0,jA o20 1,jA o20 2]]).length*24).ble 140737488355328 then
 bif(([]++wA o15 1++[[jA o20 0,jA o20 1,jA o20 2]]++List.drop (wrap .i64 ((↑(wA o13 0).length:Int)-1)).toNat (wA o13 0)).length*24).ble 140737488355328 then
 some [.view kPt ([]++wA o15 1++[[jA o20 0,jA o20 1,jA o20 2]]++List.drop (wrap .i64 ((↑(wA o13 0).length:Int)-1)).toNat (wA o13 0))]
 else
 none
 else
 none
 else
 none
 else
 none
 else
 (B0 [.view Aj x0,I x1]).bind λo21=>
 bif bA o21 0 then
 (BB [.view Aj x0,I x1]).bind λo22=>
 bif decide (0<=gA o22 0)&&decide (gA o22 0<(x0.length:Int))then
 (JZ (AN Aj (nth [] x0 x1.toNat)++AN Aj (nth [] x0 (gA o22 0).toNat))).bind λo23=>
 bif(([]++List.take (Int.toNat 1) (wA o13 0)).length*24).ble 140737488355328 then
 (B8 (AN Aj (nth [] x0 x1.toNat))).bind λo24=>
 bif(([]++List.take (Int.toNat 1) (wA o13 0)++[[jA o24 0,jA o24 1,jA o24 2]]).length*24).ble 140737488355328 then
 bif(([]++List.take (Int.toNat 1) (wA o13 0)++[[jA o24 0,jA o24 1,jA o24 2]]++wA o23 0).length*24).ble 140737488355328 then
 some [.view kPt ([]++List.take (Int.toNat 1) (wA o13 0)++[[jA o24 0,jA o24 1,jA o24 2]]++wA o23 0)]
 else
 none
 else
 none
 else
 none
 else
 none
 else
 bif(([]++List.take (Int.toNat 1) (wA o13 0)).length*24).ble 140737488355328 then
 (B8 (AN Aj (nth [] x0 x1.toNat))).bind λo25=>
 bif(([]++List.take (Int.toNat 1) (wA o13 0)++[[jA o25 0,jA o25 1,jA o25 2]]).length*24).ble 140737488355328 then
 bif(([]++List.take (Int.toNat 1) (wA o13 0)++[[jA o25 0,jA o25 1,jA o25 2]]++List.drop (wrap .i64 ((↑(wA o13 0).length:Int)-1)).toNat (wA o13 0)).length*24).ble 140737488355328 then
 some [.view kPt ([]++List.take (Int.toNat 1) (wA o13 0)++[[jA o25 0,jA o25 1,jA o25 2]]++List.drop (wrap .i64 ((↑(wA o13 0).length:Int)-1)).toNat (wA o13 0))]
 else
 none
 else
 none
 else
 none
 else
 none
 else
 none
 else
 none:=by kernel_rfl
def OE:=Qjt Gi Ff GU Rp EM Qq
theorem Zlp:Ai PG (Qek Gi Ff GU Rp EM Qq):=Ao rfl ⟨Qja,Qdp,Quj,Zya,RH,Z3b,trivial⟩
theorem Zg6:Al PG (170,Ad Qqk Ww OE):=rw1 (C:=(Qek Gi Ff GU Rp EM Qq)) Zlp
def WX:Sk:=⟨[TS.v true (cc 13++[CS.bool,ci,CS.bool]++cc 5++[CS.bool]),tf [ci]],[],[]⟩
def Zi1 (M:Fn):Nat×Spec:=(168,Ad WX Qik M)
def Qf6 (AH:Fn):Cfg:=cf [Ml AH]
def Qnz (AH:Fn):Fn:=Am PG (Qf6 AH) 64 168 WX Qik
theorem Q7g (AH:Fn) (x0 x1 x2 x3 x4 x5 x6 x7 x8 x9 x10 x11 x12:Int) (x13:Bool) (x14:Int) (x15:Bool) (x16 x17 x18 x19 x20:Int) (x21:Bool) (x22:Int):Qnz AH [I x0,I x1,I x2,I x3,I x4,I x5,I x6,I x7,I x8,I x9,I x10,I x11,I x12,B x13,I x14,B x15,I x16,I x17,I x18,I x19,I x20,B x21,I x22]=
 bif x0==1 then
 some [I 0]
 else
 bif x15 then
 (AH [I (mn (wrap .i64 (x14*mx x22 1)) 60000000),I 4096,I 60000,I 2]).bind λo2=>
 some [I (mx (gA o2 0) 1)]
 else
 (AH [I (mn x14 60000000),I 4096,I 60000,I 2]).bind λo3=>
 some [I (mx (gA o3 0) 1)]:=by kernel_rfl
def KP:=Qnz Bz
theorem Zz8:Ai PG (Qf6 Bz):=Ao rfl ⟨Ls,trivial⟩
theorem Zbt:Al PG (168,Ad WX Qik KP):=rw1 (C:=(Qf6 Bz)) Zz8
def Qgw:Sk:=⟨[tf [CS.ptr 20000 0],tf [CS.sl Aj],tf [ci],tf [ci]],[(20000,142,[ci,ci,ci,CS.own 20000 7,CS.own 20001 3,CS.bool,ci,ci,ci])],[(20000,162,Ag),(20001,76,kPt)]⟩
def VK:Sk:=⟨[tf [CS.bool]],[(20000,142,[ci,ci,ci,CS.own 20000 7,CS.own 20001 3,CS.bool,ci,ci,ci])],[(20000,162,Ag),(20001,76,kPt)]⟩
def Zve (M:Fn):Nat×Spec:=(126,Ad Qgw VK M)
def UU (B8 Bs G0 Fk CF GN:Fn):Cfg:=cp [Vs B8,UG Bs,Zel G0,Z5l Fk,Q2x CF,Zi1 GN] [171]
def Q0j:Sk:=⟨[tf [CS.ptr 20000 0]]++dd 8++[tf [CS.ptr 9 0],tf [CS.ptr 10 0]]++dd 24++[tf [CS.sl kPt],tf [ci],tf [ci]]++dd 30,[(9,74,cc 13++[CS.bool,ci,CS.bool]++cc 5++[CS.bool]),(10,162,cc 7),(20000,142,[ci,ci,ci,CS.own 20000 7,CS.own 20001 3,CS.bool,ci,ci,ci])],[(20000,162,Ag),(20001,76,kPt)]⟩
def Qzn:List (Ex×Sk):=[(Ex.exit 0,⟨[tf [CS.ptr 20000 0]]++dd 67,[(20000,142,[ci,ci,ci,CS.own 20000 7,CS.own 20001 3,CS.bool,ci,ci,ci])],[(20000,162,Ag),(20001,76,kPt)]⟩)]
def LY (B8 Bs G0 Fk CF GN:Fn):Lp:=AS PG (UU B8 Bs G0 Fk CF GN) 64 6 (AV PG 126 6) Q0j Qzn
def Q3g (B8 Bs G0 Fk CF GN:Fn) (N6:Lp):Cfg:=(UU B8 Bs G0 Fk CF GN).loop 6 Q0j Qzn N6
def Qdu (B8 Bs G0 Fk CF GN:Fn) (N6:Lp):Fn:=Am PG (Q3g B8 Bs G0 Fk CF GN N6) 64 126 Qgw VK
theorem Qt5 (B8 Bs G0 Fk CF GN:Fn) (v0 v1 v2:Rw) (v3 v4 v5 v6 v7 v8 v9 v10 v11 v12 v13 v14 v15 v16 v17:Int) (v18:Bool) (v19:Int) (v20:Bool) (v21 v22 v23 v24 v25:Int) (v26:Bool) (v27 v28 v29 v30 v31 v32 v33 v34 v35 v36:Int) (v37:Bool) (v38 v39 v40:Int):LY B8 Bs G0 Fk CF GN [.view Ag v0, .view kPt v1, .view kPt v2,I v3,I v4,I v5,I v6,I v7,I v8,I v9,I v10,I v11,I v12,I v13,I v14,I v15,I v16,I v17,B v18,I v19,B v20,I v21,I v22,I v23,I v24,I v25,B v26,I v27,I v28,I v29,I v30,I v31,I v32,I v33,I v34,I v35,I v36,B v37,I v38,I v39,I v40]=
 bif decide (v4<v3)then
 bif decide (0<=v4)&&decide (v4<(v2.length:Int))then
 (G0 [.view Ag v0, .view kPt v1,jA (nth [] v2 v4.toNat) 0,jA (nth [] v2 v4.toNat) 1,jA (nth [] v2 v4.toNat) 2,I v27,I v28,I v29,I v30,I v31,I v32,I v33,I v34,I v35,I v36,B v37,I v38,I v39,I v40]).bind λo12=>
 (Bs [I v5,I v6,I v7,I v8,I v9,I v10,I v11,I v12,I v13,I v14,I v15,I v16,I v17,B v18,I v19,B v20,I v21,I v22,I v23,I v24,I v25,B v26]).bind λo13=>
 bif bA o13 0 then
 (B8 [I v5,I v6,I v7,I v8,I v9,I v10,I v11,I v12,I v13,I v14,I v15,I v16,I v17,B v18,I v19,B v20,I v21,I v22,I v23,I v24,I v25,B v26]).bind λo14=>
 bif gA (nth [] v2 v4.toNat) 0==gA o14 0&&(gA (nth [] v2 v4.toNat) 1==gA o14 1&&(gA (nth [] v2 v4.toNat) 2==gA o14 2&&true))then
 some (0,[.view Ag (wA o12 0), .view kPt (wA o12 1), .view kPt v2,I v3,I (wrap .i64 (v4+1)),I v5,I v6,I v7,I v8,I v9,I v10,I v11,I v12,I v13,I v14,I v15,I v16,I v17,B v18,I v19,B v20,I v21,I v22,I v23,I v24,I v25,B v26,I v27,I v28,I v29,I v30,I v31,I v32,I v33,jA o12 2,jA o12 3,jA o12 4,B (bA o12 5),jA o12 6,jA o12 7,jA o12 6])
 else
 some (0,[.view Ag (wA o12 0), .view kPt (wA o12 1), .view kPt v2,I v3,I (wrap .i64 (v4+1)),I v5,I v6,I v7,I v8,I v9,I v10,I v11,I v12,I v13,I v14,I v15,I v16,I v17,B v18,I v19,B v20,I v21,I v22,I v23,I v24,I v25,B v26,I v27,I v28,I v29,I v30,I v31,I v32,I v33,jA o12 2,jA o12 3,jA o12 4,B (bA o12 5),jA o12 6,jA o12 7,jA o12 8])
 else
 some (0,[.view Ag (wA o12 0), .view kPt (wA o12 1), .view kPt v2,I v3,I (wrap .i64 (v4+1)),I v5,I v6,I v7,I v8,I v9,I v10,I v11,I v12,I v13,I v14,I v15,I v16,I v17,B v18,I v19,B v20,I v21,I v22,I v23,I v24,I v25,B v26,I v27,I v28,I v29,I v30,I v31,I v32,I v33,jA o12 2,jA o12 3,jA o12 4,B (bA o12 5),jA o12 6,jA o12 7,jA o12 8])
 else
 none
 else
 some (1,[.view Ag v0, .view kPt v1,I v34,I v35,I v36,B v37,I v38,I v39,I v40]):=by kernel_rfl
abbrev YD (Fk:Fn) (x2:Rw) (x3 x4:Int) (N6:Lp) (x0 x1:Rw) (o15:List AC) (x5 x6 x7:Int) (x8:Bool) (x9 x10 x11:Int) (h1_0:AC):Option (List AC):=
 (Fk [.view Aj x2,I x3,I x4]).bind λo17=>
 (N6 (.view Ag x0:: .view kPt x1:: .view kPt (wA o17 0)::I (↑(wA o17 0).length:Int)::I 0::(AN Aj (nth [] x2 x3.toNat)++[I 0,I 0,I 0,I 0,I x3,jA o15 0,h1_0,I x5,I x6,I x7,B x8,I x9,I x10,I x11]))).bind λo18=>
 bif o18.1.beq 1 then
 some [.view Ag (wA o18.2 0), .view kPt (wA o18.2 1),B (decide ((↑(wA o18.2 0).length:Int)<=1048576)),jA o18.2 2,jA o18.2 3,jA o18.2 4,B (bA o18.2 5),jA o18.2 6,jA o18.2 7,jA o18.2 8]
 else
 none
theorem Zkc (B8 Bs G0 Fk CF GN:Fn) (N6:Lp) (x0 x1 x2:Rw) (x3 x4 x5 x6 x7:Int) (x8:Bool) (x9 x10 x11:Int):Qdu B8 Bs G0 Fk CF GN N6 [.view Ag x0, .view kPt x1, .view Aj x2,I x3,I x4,I x5,I x6,I x7,B x8,I x9,I x10,I x11]=
 bif decide (0<=x3)&&decide (x3<(x2.length:Int))then
 (GN (AN Aj (nth [] x2 x3.toNat)++[I x10])).bind λo15=>
 (CF (AN Aj (nth [] x2 x3.toNat))).bind λo16=>
 bif bA o16 0 then
 YD Fk x2 x3 x4 N6 x0 x1 o15 x5 x6 x7 x8 x9 x10 x11 (I (mn (wrap .i64 (gA (nth [] x2 x3.toNat) 14*16)) 16777216))
 else
 YD Fk x2 x3 x4 N6 x0 x1 o15 x5 x6 x7 x8 x9 x10 x11 (I 0)
 else
 none:=by kernel_rfl
def Qul:=An (LY Gi EM Od OE HT KP)
def Kj:=Qdu Gi EM Od OE HT KP Qul
theorem Qwk:Ai PG (UU Gi EM Od OE HT KP):=Ao rfl ⟨Qja,RH,Zh3,Zg6,Quu,Zbt,trivial⟩
theorem Zcb:Al PG (126,Ad Qgw VK Kj):=rw2 (C:=(Q3g Gi EM Od OE HT KP Qul)) (fl fb Qwk) Qwk
def Zb6 (M:Fn):Nat×Spec:=(122,Ad Qbr Qik M)
def Zl (CO AQ:Fn):Cfg:=cf [Qgd CO,SU AQ]
def Qpx (CO AQ:Fn):Fn:=Am PG (Zl CO AQ) 64 122 Qbr Qik
abbrev L0 (x0 x19 x20:Int):Option (List AC):=
 bif x0==8 then
 bif decide (x19<3)then
 some [I 1]
 else
 bif decide (x19>5)then
 some [I 1]
 else
 bif decide (x20<0)then
 some [I 1]
 else
 bif decide (x20>30000)then
 some [I 1]
 else
 some [I 0]
 else
 some [I 0]
theorem Z36 (CO AQ:Fn) (x0 x1 x2 x3 x4 x5 x6 x7 x8 x9 x10 x11 x12:Int) (x13:Bool) (x14:Int) (x15:Bool) (x16 x17 x18 x19 x20:Int) (x21:Bool):Qpx CO AQ [I x0,I x1,I x2,I x3,I x4,I x5,I x6,I x7,I x8,I x9,I x10,I x11,I x12,B x13,I x14,B x15,I x16,I x17,I x18,I x19,I x20,B x21]=
 bif decide (x0<1)then
 some [I 1]
 else
 bif decide (x0>14)then
 some [I 1]
 else
 (AQ [I x0]).bind λo4=>
 bif bA o4 0 then
 (CO [I x0,I x1,I x2,I x3,I x4,I x5,I x6,I x7,I x8,I x9,I x10,I x11,I x12,B x13,I x14,B x15,I x16,I x17,I x18,I x19,I x20,B x21]).bind λo5=>
 bif !bA o5 0 then
 some [I 1]
 else
 bif decide (x18<0)then
 some [I 1]
 else
 bif decide (x18>1000)then
 some [I 1]
 else
 (AQ [I x0]).bind λo6=>
 bif bA o6 0 then
 bif x0 !=1 then
 bif decide (x14<1)then
 some [I 1]
 else
 bif decide (x14>60000000)then
 some [I 1]
 else
 L0 x0 x19 x20
 else
 L0 x0 x19 x20
 else
 L0 x0 x19 x20
 else
 (AQ [I x0]).bind λo7=>
 bif bA o7 0 then
 bif x0 !=1 then
 bif decide (x14<1)then
 some [I 1]
 else
 bif decide (x14>60000000)then
 some [I 1]
 else
 L0 x0 x19 x20
 else
 L0 x0 x19 x20
 else
 L0 x0 x19 x20:=by kernel_rfl
def I2:=Qpx GV DQ
theorem Za6:Ai PG (Zl GV DQ):=Ao rfl ⟨Qga,SH,trivial⟩
theorem Z4b:Al PG (122,Ad Qbr Qik I2):=rw1 (C:=(Zl GV DQ)) Za6
def U3:Sk:=⟨[tf [CS.sl Aj]],[],[]⟩
def Qd5:Sk:=⟨[TS.tup [(false,[CS.ptr 13 0]),(false,[ci])]],[(13,142,[ci,ci,ci,CS.own 1013003 7,CS.own 1013004 3,CS.bool,ci,ci,ci])],[(1013003,162,Ag),(1013004,76,kPt)]⟩
def Q10 (M:Fn):Nat×Spec:=(80,Ad U3 Qd5 M)
def VB (Cc Cl BB B0 AQ EA:Fn):Cfg:=cp [Z3g Cc,Zve Cl,XN BB,Q5k B0,SU AQ,Zb6 EA] [127,126]
def Q07:Sk:=⟨[tf [CS.sl Aj],td,td,td,tf [CS.ptr 13 0],tf [ci]]++dd 12++[tf [CS.sl Aj],tf [ci],tf [ci]]++dd 87,[(13,142,[ci,ci,ci,CS.own 1013003 7,CS.own 1013004 3,CS.bool,ci,ci,ci])],[(1013003,162,Ag),(1013004,76,kPt)]⟩
def Qr2:List (Ex×Sk):=[(Ex.ret,⟨[td,td,tf [CS.ptr 13 0],tf [ci]]++dd 104,[(13,142,[ci,ci,ci,CS.own 1013003 7,CS.own 1013004 3,CS.bool,ci,ci,ci])],[(1013003,162,Ag),(1013004,76,kPt)]⟩),(Ex.exit 0,⟨[tf [CS.sl Aj],td,td,td,tf [CS.ptr 13 0]]++dd 103,[(13,142,[ci,ci,ci,CS.own 1013003 7,CS.own 1013004 3,CS.bool,ci,ci,ci])],[(1013003,162,Ag),(1013004,76,kPt)]⟩)]
def Rg (Cc Cl BB B0 AQ EA:Fn):Lp:=AS PG (VB Cc Cl BB B0 AQ EA) 64 6 (AV PG 80 6) Q07 Qr2
def Qrs (Cc Cl BB B0 AQ EA:Fn) (N6:Lp):Cfg:=(VB Cc Cl BB B0 AQ EA).loop 6 Q07 Qr2 N6
def Q2c:Sk:=⟨[tf [CS.sl Aj],td,td,td,tf [CS.ptr 13 0],tf [ci]]++dd 44++[tf [CS.sl Aj],tf [ci],tf [ci]]++dd 55,[(13,142,[ci,ci,ci,CS.own 1013003 7,CS.own 1013004 3,CS.bool,ci,ci,ci])],[(1013003,162,Ag),(1013004,76,kPt)]⟩
def Q1b:List (Ex×Sk):=[(Ex.ret,⟨[td,td,tf [CS.ptr 13 0],tf [ci]]++dd 104,[(13,142,[ci,ci,ci,CS.own 1013003 7,CS.own 1013004 3,CS.bool,ci,ci,ci])],[(1013003,162,Ag),(1013004,76,kPt)]⟩),(Ex.exit 2,⟨[td,td,td,td,tf [CS.ptr 13 0]]++dd 103,[(13,142,[ci,ci,ci,CS.own 1013003 7,CS.own 1013004 3,CS.bool,ci,ci,ci])],[(1013003,162,Ag),(1013004,76,kPt)]⟩)]
def Qw (Cc Cl BB B0 AQ EA:Fn) (N6:Lp):Lp:=AS PG (Qrs Cc Cl BB B0 AQ EA N6) 64 18 (AV PG 80 18) Q2c Q1b
def Q9y (Cc Cl BB B0 AQ EA:Fn) (N6 N18:Lp):Cfg:=(Qrs Cc Cl BB B0 AQ EA N6).loop 18 Q2c Q1b N18
def Qeg (Cc Cl BB B0 AQ EA:Fn) (N6 N18:Lp):Fn:=Am PG (Q9y Cc Cl BB B0 AQ EA N6 N18) 64 80 U3 Qd5
theorem Q62 (Cc Cl BB B0 AQ EA:Fn) (v0 v1 v2:Rw) (v3:Int) (v4:Rw) (v5 v6 v7 v8 v9:Int) (v10:Bool) (v11 v12 v13:Int):Rg Cc Cl BB B0 AQ EA [.view Ag v0, .view kPt v1, .view Aj v2,I v3, .view Aj v4,I v5,I v6,I v7,I v8,I v9,B v10,I v11,I v12,I v13]=
 bif decide (v6<v5)then
 bif decide (0<=v6)&&decide (v6<(v4.length:Int))then
 (EA (AN Aj (nth [] v4 v6.toNat))).bind λo53=>
 bif gA o53 0 !=0 then
 some (1,[.view Ag v0, .view kPt v1,jA o53 0,I v7,I v8,I v9,B v10,I v11,I v12,I v13])
 else
 (AQ [jA (nth [] v4 v6.toNat) 0]).bind λo54=>
 bif !bA o54 0 then
 some (0,[.view Ag v0, .view kPt v1, .view Aj v2,I v3, .view Aj v4,I v5,I (wrap .i64 (v6+1)),I v7,I v8,I v9,B v10,I v11,I v12,I v13])
 else
 bif decide (v3>=0)then
 bif decide (0<=v3)&&decide (v3<(v2.length:Int))then
 bif !(gA (nth [] v2 v3.toNat) 5==gA (nth [] v4 v6.toNat) 2&&(gA (nth [] v2 v3.toNat) 6==gA (nth [] v4 v6.toNat) 3&&(gA (nth [] v2 v3.toNat) 7==gA (nth [] v4 v6.toNat) 4&&true)))then
 some (1,[.view Ag v0, .view kPt v1,I 13,I v7,I v8,I v9,B v10,I v11,I v12,I v13])
 else
 some (0,[.view Ag v0, .view kPt v1, .view Aj v2,I v6, .view Aj v4,I v5,I (wrap .i64 (v6+1)),I v7,I v8,I v9,B v10,I v11,I v12,I v13])
 else
 none
 else
 some (0,[.view Ag v0, .view kPt v1, .view Aj v2,I v6, .view Aj v4,I v5,I (wrap .i64 (v6+1)),I v7,I v8,I v9,B v10,I v11,I v12,I v13])
 else
 none
 else
 some (2,[.view Ag v0, .view kPt v1, .view Aj v2,I v7,I v8,I v9,B v10,I v11,I v12,I v13]):=by kernel_rfl
abbrev PM (Cl:Fn) (v0 v1 v2:Rw) (v6 v7 v8 v9:Int) (v10:Bool) (v11:Int) (h1_0:AC) (v13:Int) (Cc:Fn) (v4:Rw) (v5:Int) (h2_0:AC):Option (Nat×List AC):=
 (Cl [.view Ag v0, .view kPt v1, .view Aj v2,I v6,h2_0,I v7,I v8,I v9,B v10,I v11,h1_0,I v13]).bind λo57=>
 bif !bA o57 2 then
 some (1,[.view Ag (wA o57 0), .view kPt (wA o57 1),I 10,jA o57 3,jA o57 4,jA o57 5,B (bA o57 6),jA o57 7,jA o57 8,jA o57 9])
 else
 (Cc [.view Ag (wA o57 0), .view kPt (wA o57 1), .view Aj v2,I v6,jA o57 3,jA o57 4,jA o57 5,B (bA o57 6),jA o57 7,jA o57 8,jA o57 9]).bind λo58=>
 some (0,[.view Ag (wA o58 0), .view kPt (wA o58 1), .view Aj v2,I v6, .view Aj v4,I v5,I (wrap .i64 (v6+1)),jA o58 2,jA o58 3,jA o58 4,B (bA o58 5),jA o58 6,jA o58 7,jA o58 8])
abbrev P_ (AQ:Fn) (v4:Rw) (v6 v3:Int) (B0:Fn) (v2:Rw) (Cl:Fn) (v0 v1:Rw) (v7 v8 v9:Int) (v10:Bool) (v11 v13:Int) (Cc:Fn) (v5:Int) (BB:Fn) (h1_0:AC):Option (Nat×List AC):=
 (AQ [jA (nth [] v4 v6.toNat) 0]).bind λo55=>
 bif bA o55 0 then
 bif decide (v3>=0)then
 (B0 [.view Aj v2,I v3]).bind λo56=>
 bif !bA o56 0 then
 PM Cl v0 v1 v2 v6 v7 v8 v9 v10 v11 h1_0 v13 Cc v4 v5 (I (-1))
 else
 (BB [.view Aj v2,I v3]).bind λo59=>
 bif gA o59 0 !=v6 then
 PM Cl v0 v1 v2 v6 v7 v8 v9 v10 v11 h1_0 v13 Cc v4 v5 (I (-1))
 else
 PM Cl v0 v1 v2 v6 v7 v8 v9 v10 v11 h1_0 v13 Cc v4 v5 (I v3)
 else
 PM Cl v0 v1 v2 v6 v7 v8 v9 v10 v11 h1_0 v13 Cc v4 v5 (I v3)
 else
 (Cc [.view Ag v0, .view kPt v1, .view Aj v2,I v6,I v7,I v8,I v9,B v10,I v11,h1_0,I v13]).bind λo66=>
 some (0,[.view Ag (wA o66 0), .view kPt (wA o66 1), .view Aj v2,I v3, .view Aj v4,I v5,I (wrap .i64 (v6+1)),jA o66 2,jA o66 3,jA o66 4,B (bA o66 5),jA o66 6,jA o66 7,jA o66 8])
theorem Qr8 (Cc Cl BB B0 AQ EA:Fn) (N6:Lp) (v0 v1 v2:Rw) (v3:Int) (v4:Rw) (v5 v6 v7 v8 v9:Int) (v10:Bool) (v11 v12 v13:Int):Qw Cc Cl BB B0 AQ EA N6 [.view Ag v0, .view kPt v1, .view Aj v2,I v3, .view Aj v4,I v5,I v6,I v7,I v8,I v9,B v10,I v11,I v12,I v13]=
 bif decide (v6<v5)then
 bif decide (0<=v6)&&decide (v6<(v4.length:Int))then
 bif gA (nth [] v4 v6.toNat) 0==8 then
 bif gA (nth [] v4 v6.toNat) 19==3 then
 P_ AQ v4 v6 v3 B0 v2 Cl v0 v1 v7 v8 v9 v10 v11 v13 Cc v5 BB (jA (nth [] v4 v6.toNat) 20)
 else
 bif gA (nth [] v4 v6.toNat) 19==4 then
 P_ AQ v4 v6 v3 B0 v2 Cl v0 v1 v7 v8 v9 v10 v11 v13 Cc v5 BB (jA (nth [] v4 v6.toNat) 20)
 else
 P_ AQ v4 v6 v3 B0 v2 Cl v0 v1 v7 v8 v9 v10 v11 v13 Cc v5 BB (I v12)
 else
 P_ AQ v4 v6 v3 B0 v2 Cl v0 v1 v7 v8 v9 v10 v11 v13 Cc v5 BB (I v12)
 else
 none
 else
 some (2,[.view Ag v0, .view kPt v1,I v7,I v8,I v9,B v10,I v11,I v12,I v13]):=by kernel_rfl
theorem Zmp (Cc Cl BB B0 AQ EA:Fn) (N6 N18:Lp) (x0:Rw):Qeg Cc Cl BB B0 AQ EA N6 N18 [.view Aj x0]=
 bif decide ((x0.length:Int)>20000)then
 some [.view Ag [], .view kPt [],I 10,I 0,I 0,I 0,B false,I 0,I 0,I 0]
 else
 (N6 [.view Ag [], .view kPt [], .view Aj x0,I (-1), .view Aj x0,I (x0.length:Int),I 0,I 0,I 0,I 0,B false,I 0,I 0,I 0]).bind λo103=>
 bif o103.1.beq 1 then
 some [.view Ag (wA o103.2 0), .view kPt (wA o103.2 1),jA o103.2 2,jA o103.2 3,jA o103.2 4,jA o103.2 5,B (bA o103.2 6),jA o103.2 7,jA o103.2 8,jA o103.2 9]
 else
 bif o103.1.beq 2 then
 (N18 [.view Ag (wA o103.2 0), .view kPt (wA o103.2 1), .view Aj (wA o103.2 2),I (-1), .view Aj (wA o103.2 2),I (↑(wA o103.2 2).length:Int),I 0,jA o103.2 3,jA o103.2 4,jA o103.2 5,B (bA o103.2 6),jA o103.2 7,jA o103.2 8,jA o103.2 9]).bind λo104=>
 bif o104.1.beq 1 then
 some [.view Ag (wA o104.2 0), .view kPt (wA o104.2 1),jA o104.2 2,jA o104.2 3,jA o104.2 4,jA o104.2 5,B (bA o104.2 6),jA o104.2 7,jA o104.2 8,jA o104.2 9]
 else
 bif o104.1.beq 2 then
 some [.view Ag (wA o104.2 0), .view kPt (wA o104.2 1),I 0,jA o104.2 2,jA o104.2 3,jA o104.2 4,B (bA o104.2 5),jA o104.2 6,jA o104.2 7,jA o104.2 8]
 else
 none
 else
 none:=by kernel_rfl
def Rk:=An (Rg Jc Kj Ff GU DQ I2)
def Q17:=An (Qw Jc Kj Ff GU DQ I2 Rk)
def Jh:=Qeg Jc Kj Ff GU DQ I2 Rk Q17
theorem Zg:Ai PG (VB Jc Kj Ff GU DQ I2):=Ao rfl ⟨Zeh,Zcb,Qdp,Quj,SH,Z4b,trivial⟩
theorem Q64:Al PG (80,Ad U3 Qd5 Jh):=rw2 (C:=(Q9y Jc Kj Ff GU DQ I2 Rk Q17)) (fl (fl fb Zg) Zg) Zg
def Zg8 (M:Fn):Nat×Spec:=(37,Ad U3 Qik M)
def Qia (Bs Ef:Fn):Cfg:=cp [UG Bs,Q10 Ef] [80]
def Qts:Sk:=⟨[tf [CS.sl Aj],td,td,tf [CS.ptr 100800 0],td,tf [ci]]++dd 47,[(100800,142,[ci,ci,ci,CS.own 100800 7,CS.own 100801 3,CS.bool,ci,ci,ci])],[(100800,162,Ag),(100801,76,kPt)]⟩
def Q78:List (Ex×Sk):=[(Ex.ret,⟨[td,td,tf [ci]]++dd 50,[],[]⟩),(Ex.exit 0,⟨[td,td,td,tf [CS.ptr 100800 0]]++dd 49,[(100800,142,[ci,ci,ci,CS.own 100800 7,CS.own 100801 3,CS.bool,ci,ci,ci])],[(100800,162,Ag),(100801,76,kPt)]⟩)]
def NQ (Bs Ef:Fn):Lp:=AS PG (Qia Bs Ef) 64 5 (AV PG 37 5) Qts Q78
def Zaw (Bs Ef:Fn) (N5:Lp):Cfg:=(Qia Bs Ef).loop 5 Qts Q78 N5
def Qi9 (Bs Ef:Fn) (N5:Lp):Fn:=Am PG (Zaw Bs Ef N5) 64 37 U3 Qik
theorem Q2r (Bs Ef:Fn) (v0 v1 v2:Rw) (v3 v4 v5 v6:Int) (v7:Bool) (v8 v9 v10:Int):NQ Bs Ef [.view Ag v0, .view kPt v1, .view Aj v2,I v3,I v4,I v5,I v6,B v7,I v8,I v9,I v10]=
 bif decide (v3>=0)then
 bif decide (0<=v3)&&decide (v3<(v2.length:Int))then
 bif gA (nth [] v2 v3.toNat) 0==10 then
 some (0,[.view Ag v0, .view kPt v1, .view Aj v2,I (wrap .i64 (v3-1)),I v4,I v5,I v6,B v7,I v8,I v9,I v10])
 else
 bif decide (0<=v3)&&decide (v3<(v2.length:Int))then
 (Bs (AN Aj (nth [] v2 v3.toNat))).bind λo4=>
 bif bA o4 0 then
 bif decide (0<=v3)&&decide (v3<(v2.length:Int))then
 bif gA (nth [] v2 v3.toNat) 18 !=0 then
 some (1,[I v10])
 else
 some (1,[I v8])
 else
 none
 else
 some (1,[I v8])
 else
 none
 else
 none
 else
 some (2,[.view Ag v0, .view kPt v1,I v4,I v5,I v6,B v7,I v8,I v9,I v10]):=by kernel_rfl
theorem Qro (Bs Ef:Fn) (N5:Lp) (x0:Rw):Qi9 Bs Ef N5 [.view Aj x0]=
 (Ef [.view Aj x0]).bind λo5=>
 bif gA o5 2 !=0 then
 some [I 0]
 else
 (N5 [.view Ag (wA o5 0), .view kPt (wA o5 1), .view Aj x0,I (wrap .i64 ((x0.length:Int)-1)),jA o5 3,jA o5 4,jA o5 5,B (bA o5 6),jA o5 7,jA o5 8,jA o5 9]).bind λo6=>
 bif o6.1.beq 1 then
 some [jA o6.2 0]
 else
 bif o6.1.beq 2 then
 some [jA o6.2 6]
 else
 none:=by kernel_rfl
def Qyf:=An (NQ EM Jh)
def Nb:=Qi9 EM Jh Qyf
theorem Q71:Ai PG (Qia EM Jh):=Ao rfl ⟨RH,Q64,trivial⟩
theorem Zvl:Al PG (37,Ad U3 Qik Nb):=rw2 (C:=(Zaw EM Jh Qyf)) (fl fb Q71) Q71
def Ve:Sk:=⟨[tf [ci],tf [ci],tf [ci]],[],[]⟩
def Wz (M:Fn):Nat×Spec:=(140,Ad Ve Xp M)
def Wo:Fn:=Am PG C_pulse_Sum_0 64 140 Ve Xp
theorem Zwc (x0 x1 x2:Int):Wo [I x0,I x1,I x2]=
 bif decide (x1<=x0)then
 some [B (decide (x0<=x2))]
 else
 some [B false]:=by kernel_rfl
def GG:=Wo
theorem Zld:Ai PG (C_pulse_Sum_0):=Ao rfl trivial
theorem Qnx:Al PG (140,Ad Ve Xp GG):=rw1 (C:=C_pulse_Sum_0) Zld
def Zx9 (M:Fn):Nat×Spec:=(142,Ad Qfp Xp M)
def Qdt (BP:Fn):Cfg:=cf [Wz BP]
def Vo (BP:Fn):Fn:=Am PG (Qdt BP) 64 142 Qfp Xp
theorem Zfh (BP:Fn) (x0 x1 x2 x3 x4 x5 x6 x7 x8:Int) (x9:Rw) (x10:Int):Vo BP [I x0,I x1,I x2,I x3,I x4,I x5,I x6,I x7,I x8, .view Aa x9,I x10]=
 (BP [I x10,I x4,I x5]).bind λo1=>
 some [B (bA o1 0)]:=by kernel_rfl
def HQ:=Vo GG
theorem Zf6:Ai PG (Qdt GG):=Ao rfl ⟨Qnx,trivial⟩
theorem Zkq:Al PG (142,Ad Qfp Xp HQ):=rw1 (C:=(Qdt GG)) Zf6
def V7:Sk:=⟨[TS.v true (cc 9++[CS.sl Aa]++cc 9++[CS.sl Aa]++cc 9++[CS.sl Aa]),TS.v true [ci,ci,ci,CS.sl Ag,CS.sl kPt]],[],[]⟩
def Zv4 (M:Fn):Nat×Spec:=(90,Ad V7 Xp M)
def Yv (DO:Fn):Cfg:={cf [Zx9 DO]with rowDst:=[13],unroll:=[11]}
def Q8f:Sk:=⟨[td,td,tf [CS.ptr 2 0],td,td,tf [CS.own 13 3]]++dd 9++[tf [CS.sl Ag],tf [ci],tf [ci]]++dd 28,[(2,27,cc 9++[CS.sl Aa]++cc 9++[CS.sl Aa]++cc 9++[CS.sl Aa])],[(13,54,kPt)]⟩
def Q0r:List (Ex×Sk):=[(Ex.exit 0,⟨[td,td,tf [CS.ptr 2 0],td,td,tf [CS.own 13 3]]++dd 40,[(2,27,cc 9++[CS.sl Aa]++cc 9++[CS.sl Aa]++cc 9++[CS.sl Aa])],[(13,54,kPt)]⟩)]
def QV (DO:Fn):Lp:=AS PG (Yv DO) 64 3 (AV PG 90 3) Q8f Q0r
def Q5i (DO:Fn) (N3:Lp):Cfg:=(Yv DO).loop 3 Q8f Q0r N3
def Q3u:Sk:=⟨[td,td,tf [CS.ptr 2 0]]++dd 24++[tf [CS.own 13 3],tf [ci],tf [ci]]++dd 16,[(2,27,cc 9++[CS.sl Aa]++cc 9++[CS.sl Aa]++cc 9++[CS.sl Aa])],[(13,54,kPt)]⟩
def Zab:List (Ex×Sk):=[(Ex.ret,⟨[td,td,td,td,tf [CS.bool]]++dd 41,[],[]⟩),(Ex.exit 2,⟨[td]++dd 45,[],[]⟩)]
def Ux (DO:Fn) (N3:Lp):Lp:=AS PG (Q5i DO N3) 64 8 (AV PG 90 8) Q3u Zab
def Q41 (DO:Fn) (N3 N8:Lp):Cfg:=(Q5i DO N3).loop 8 Q3u Zab N8
def W0 (DO:Fn) (N3 N8:Lp):Fn:=Am PG (Q41 DO N3 N8) 64 90 V7 Xp
theorem Z67 (DO:Fn) (v0 v1:Rw) (v2 v3 v4 v5 v6 v7 v8 v9 v10 v11 v12:Int) (v13:Rw) (v14 v15 v16 v17 v18 v19 v20 v21 v22:Int) (v23:Rw) (v24 v25 v26 v27 v28 v29 v30 v31 v32:Int) (v33:Rw):QV DO [.view kPt v0, .view Ag v1,I v2,I v3,I v4,I v5,I v6,I v7,I v8,I v9,I v10,I v11,I v12, .view Aa v13,I v14,I v15,I v16,I v17,I v18,I v19,I v20,I v21,I v22, .view Aa v23,I v24,I v25,I v26,I v27,I v28,I v29,I v30,I v31,I v32, .view Aa v33]=
 bif decide (v3<v2)then
 bif decide (0<=v3)&&decide (v3<(v1.length:Int))then
 bif((v0++[[jA (nth [] v1 v3.toNat) 0,jA (nth [] v1 v3.toNat) 1,jA (nth [] v1 v3.toNat) 2]]).length*24).ble 140737488355328 then
 some (0,[.view kPt (v0++[[jA (nth [] v1 v3.toNat) 0,jA (nth [] v1 v3.toNat) 1,jA (nth [] v1 v3.toNat) 2]]), .view Ag v1,I v2,I (wrap .i64 (v3+1)),I v4,I v5,I v6,I v7,I v8,I v9,I v10,I v11,I v12, .view Aa v13,I v14,I v15,I v16,I v17,I v18,I v19,I v20,I v21,I v22, .view Aa v23,I v24,I v25,I v26,I v27,I v28,I v29,I v30,I v31,I v32, .view Aa v33])
 else
 none
 else
 none
 else
 some (1,[.view kPt v0,I v4,I v5,I v6,I v7,I v8,I v9,I v10,I v11,I v12, .view Aa v13,I v14,I v15,I v16,I v17,I v18,I v19,I v20,I v21,I v22, .view Aa v23,I v24,I v25,I v26,I v27,I v28,I v29,I v30,I v31,I v32, .view Aa v33]):=by kernel_rfl
theorem Z4d (DO:Fn) (N3:Lp) (v0:Rw) (v1 v2 v3 v4 v5 v6 v7 v8 v9 v10 v11:Int) (v12:Rw) (v13 v14 v15 v16 v17 v18 v19 v20 v21:Int) (v22:Rw) (v23 v24 v25 v26 v27 v28 v29 v30 v31:Int) (v32:Rw):Ux DO N3 [.view kPt v0,I v1,I v2,I v3,I v4,I v5,I v6,I v7,I v8,I v9,I v10,I v11, .view Aa v12,I v13,I v14,I v15,I v16,I v17,I v18,I v19,I v20,I v21, .view Aa v22,I v23,I v24,I v25,I v26,I v27,I v28,I v29,I v30,I v31, .view Aa v32]=
 bif decide (v2<v1)then
 bif decide (0<=v2)&&decide (v2<(v0.length:Int))then
 (DO [I v3,I v4,I v5,I v6,I v7,I v8,I v9,I v10,I v11, .view Aa v12,jA (nth [] v0 v2.toNat) 0]).bind λo6=>
 bif !bA o6 0 then
 some (1,[B false])
 else
 (DO [I v13,I v14,I v15,I v16,I v17,I v18,I v19,I v20,I v21, .view Aa v22,jA (nth [] v0 v2.toNat) 1]).bind λo7=>
 bif !bA o7 0 then
 some (1,[B false])
 else
 (DO [I v23,I v24,I v25,I v26,I v27,I v28,I v29,I v30,I v31, .view Aa v32,jA (nth [] v0 v2.toNat) 2]).bind λo8=>
 bif !bA o8 0 then
 some (1,[B false])
 else
 some (0,[.view kPt v0,I v1,I (wrap .i64 (v2+1)),I v3,I v4,I v5,I v6,I v7,I v8,I v9,I v10,I v11, .view Aa v12,I v13,I v14,I v15,I v16,I v17,I v18,I v19,I v20,I v21, .view Aa v22,I v23,I v24,I v25,I v26,I v27,I v28,I v29,I v30,I v31, .view Aa v32])
 else
 none
 else
 some (2,[]):=by kernel_rfl
theorem Zsx (DO:Fn) (N3 N8:Lp) (x0 x1 x2 x3 x4 x5 x6 x7 x8:Int) (x9:Rw) (x10 x11 x12 x13 x14 x15 x16 x17 x18:Int) (x19:Rw) (x20 x21 x22 x23 x24 x25 x26 x27 x28:Int) (x29:Rw) (x30 x31 x32:Int) (x33 x34:Rw):W0 DO N3 N8 [I x0,I x1,I x2,I x3,I x4,I x5,I x6,I x7,I x8, .view Aa x9,I x10,I x11,I x12,I x13,I x14,I x15,I x16,I x17,I x18, .view Aa x19,I x20,I x21,I x22,I x23,I x24,I x25,I x26,I x27,I x28, .view Aa x29,I x30,I x31,I x32, .view Ag x33, .view kPt x34]=
 (N3 [.view kPt [[I x30,I x31,I x32]], .view Ag x33,I (x33.length:Int),I 0,I x0,I x1,I x2,I x3,I x4,I x5,I x6,I x7,I x8, .view Aa x9,I x10,I x11,I x12,I x13,I x14,I x15,I x16,I x17,I x18, .view Aa x19,I x20,I x21,I x22,I x23,I x24,I x25,I x26,I x27,I x28, .view Aa x29]).bind λo9=>
 bif o9.1.beq 1 then
 (N8 [.view kPt (wA o9.2 0),I (↑(wA o9.2 0).length:Int),I 0,jA o9.2 1,jA o9.2 2,jA o9.2 3,jA o9.2 4,jA o9.2 5,jA o9.2 6,jA o9.2 7,jA o9.2 8,jA o9.2 9, .view Aa (wA o9.2 10),jA o9.2 11,jA o9.2 12,jA o9.2 13,jA o9.2 14,jA o9.2 15,jA o9.2 16,jA o9.2 17,jA o9.2 18,jA o9.2 19, .view Aa (wA o9.2 20),jA o9.2 21,jA o9.2 22,jA o9.2 23,jA o9.2 24,jA o9.2 25,jA o9.2 26,jA o9.2 27,jA o9.2 28,jA o9.2 29, .view Aa (wA o9.2 30)]).bind λo10=>
 bif o10.1.beq 1 then
 some [B (bA o10.2 0)]
 else
 bif o10.1.beq 2 then
 some [B true]
 else
 none
 else
 none:=by kernel_rfl
def W9:=An (QV HQ)
def Qtn:=An (Ux HQ W9)
def QZ:=W0 HQ W9 Qtn
theorem Qgb:Ai PG (Yv HQ):=Ao rfl ⟨Zkq,trivial⟩
theorem Znj:Al PG (90,Ad V7 Xp QZ):=rw2 (C:=(Q41 HQ W9 Qtn)) (fl (fl fb Qgb) Qgb) Qgb
def Ql4:Sk:=⟨[TS.tup [(true,[ci,ci,ci,CS.sl Ag,CS.sl kPt]),(false,[ci])]],[],[]⟩
def Z2q (M:Fn):Nat×Spec:=(89,Ad U3 Ql4 M)
def WQ (Ef:Fn):Cfg:=cp [Q10 Ef] [80]
def ZP (Ef:Fn):Fn:=Am PG (WQ Ef) 64 89 U3 Ql4
theorem Zbd (Ef:Fn) (x0:Rw):ZP Ef [.view Aj x0]=
 (Ef [.view Aj x0]).bind λo1=>
 bif gA o1 2 !=0 then
 some [I 0,I 0,I 0, .view Ag [], .view kPt [],jA o1 2]
 else
 some [jA o1 3,jA o1 4,jA o1 5, .view Ag (wA o1 0), .view kPt (wA o1 1),I 0]:=by kernel_rfl
def Oh:=ZP Jh
theorem Z5s:Ai PG (WQ Jh):=Ao rfl ⟨Q64,trivial⟩
theorem Zsu:Al PG (89,Ad U3 Ql4 Oh):=rw1 (C:=(WQ Jh)) Z5s
def Qnv:Sk:=⟨[tf [CS.ptr 20000 0],tf [CS.sl Aj],tf [CS.bool]],[(20000,119,cS)],[]⟩
def Zj2 (M:Fn):Nat×Spec:=(57,Ad Qnv Qfq M)
def Qdo (OM Gp ND Og:Fn):Cfg:={cf [Zg8 OM,Q7p Gp,Zv4 ND,Z2q Og]with fstore:=true}
def Rb (OM Gp ND Og:Fn):Fn:=Am PG (Qdo OM Gp ND Og) 64 57 Qnv Qfq
theorem Zx2 (OM Gp ND Og:Fn) (x0:Rw) (x1:Bool) (K:Kf) (c:Cv):Rb OM Gp ND Og (.view Aj x0::B x1::Ab K c)=
 (Og [.view Aj x0]).bind λo4=>
 bif gA o4 5 !=0 then
 some (jA o4 5::Ab K c)
 else
 (ND (AK K.x++[jA o4 0,jA o4 1,jA o4 2, .view Ag (wA o4 3), .view kPt (wA o4 4)])).bind λo5=>
 bif !bA o5 0 then
 some (I 17::Ab K c)
 else
 bif(x0.length*176).ble 140737488355328 then
 (Gp [jA o4 0,jA o4 1,jA o4 2, .view Ag (wA o4 3), .view kPt (wA o4 4)]).bind λo6=>
 (OM [.view Aj x0]).bind λo7=>
 some (I 0::Dp (Ab K c) [(35, .view Aj x0),(36,B x1),(37,jA o4 0),(38,jA o4 1),(39,jA o4 2),(40, .view Ag (wA o4 3)),(41, .view kPt (wA o4 4)),(42,jA o6 0),(43,jA o7 0)])
 else
 none:=by kernel_rfl
def Su:=Rb Nb I5 QZ Oh
theorem Zxh:Ai PG (Qdo Nb I5 QZ Oh):=Ao rfl ⟨Zvl,Qwu,Znj,Zsu,trivial⟩
theorem Zq6:Al PG (57,Ad Qnv Qfq Su):=rw1 (C:=(Qdo Nb I5 QZ Oh)) Zxh
def Zwp (M:Fn):Nat×Spec:=(55,Ad Qlr Qqe M)
def Qkv:Fn:=Am PG C_pulse_Sum_0 64 55 Qlr Qqe
theorem Z14:Qkv []=
 some [I 100,I 100,B false,B false,B false]:=by kernel_rfl
def Q6:=Qkv
theorem Z6d:Ai PG (C_pulse_Sum_0):=Ao rfl trivial
theorem Zf9:Al PG (55,Ad Qlr Qqe Q6):=rw1 (C:=C_pulse_Sum_0) Z6d
def Wd:Sk:=⟨[TS.v true (cc 9++[CS.sl Aa]++cc 9++[CS.sl Aa]++cc 9++[CS.sl Aa]++cc 5)],[],[]⟩
def Zyh (M:Fn):Nat×Spec:=(54,Ad Wd Wd M)
def Qqp:Cfg:={cf []with fstore:=true,unroll:=[2]}
def Qfk:Fn:=Am PG Qqp 64 54 Wd Wd
theorem Zpp (x0 x1 x2 x3 x4 x5 x6 x7 x8:Int) (x9:Rw) (x10 x11 x12 x13 x14 x15 x16 x17 x18:Int) (x19:Rw) (x20 x21 x22 x23 x24 x25 x26 x27 x28:Int) (x29:Rw) (x30 x31 x32 x33 x34:Int):Qfk [I x0,I x1,I x2,I x3,I x4,I x5,I x6,I x7,I x8, .view Aa x9,I x10,I x11,I x12,I x13,I x14,I x15,I x16,I x17,I x18, .view Aa x19,I x20,I x21,I x22,I x23,I x24,I x25,I x26,I x27,I x28, .view Aa x29,I x30,I x31,I x32,I x33,I x34]=
 bif(x9.length*8).ble 140737488355328 then
 bif(x19.length*8).ble 140737488355328 then
 bif(x29.length*8).ble 140737488355328 then
 some [I x0,I x1,I x2,I x3,I x4,I x5,I x6,I x7,I x8, .view Aa x9,I x10,I x11,I x12,I x13,I x14,I x15,I x16,I x17,I x18, .view Aa x19,I x20,I x21,I x22,I x23,I x24,I x25,I x26,I x27,I x28, .view Aa x29,I x30,I x31,I x32,I x33,I x34]
 else
 none
 else
 none
 else
 none:=by kernel_rfl
def Q8:=Qfk
theorem Zz3:Ai PG (Qqp):=Ao rfl trivial
theorem Zhe:Al PG (54,Ad Wd Wd Q8):=rw1 (C:=Qqp) Zz3
def Qaa:Sk:=⟨[TS.v true (cc 9++[CS.sl Aa])],[],[]⟩
def Zx5 (M:Fn):Nat×Spec:=(141,Ad Qaa Xp M)
def Qe6 (BP:Fn):Cfg:=cf [Wz BP]
def Qys:Sk:=⟨[td,tf [CS.ptr 1 0]]++dd 24++[tf [CS.sl Aa],tf [ci],tf [ci]]++dd 29,[(1,26,cc 9++[CS.sl Aa])],[]⟩
def Q94:List (Ex×Sk):=[(Ex.ret,⟨[td,td,tf [CS.bool]]++dd 55,[],[]⟩),(Ex.exit 0,⟨[td]++dd 57,[],[]⟩)]
def Qk1 (BP:Fn):Lp:=AS PG (Qe6 BP) 64 6 (AV PG 141 6) Qys Q94
def Qwp (BP:Fn) (N6:Lp):Cfg:=(Qe6 BP).loop 6 Qys Q94 N6
def V_ (BP:Fn) (N6:Lp):Fn:=Am PG (Qwp BP N6) 64 141 Qaa Xp
theorem Zoc (BP:Fn) (v0:Rw) (v1 v2 v3 v4 v5 v6 v7 v8 v9 v10 v11:Int) (v12:Rw):Qk1 BP [.view Aa v0,I v1,I v2,I v3,I v4,I v5,I v6,I v7,I v8,I v9,I v10,I v11, .view Aa v12]=
 bif decide (v2<v1)then
 bif decide (0<=v2)&&decide (v2<(v0.length:Int))then
 (BP [jA (nth [] v0 v2.toNat) 0,I (-4096),I 4096]).bind λo7=>
 bif !bA o7 0 then
 some (1,[B false])
 else
 bif decide (v2>0)then
 bif decide (0<=wrap .i64 (v2-1))&&decide (wrap .i64 (v2-1)<(v12.length:Int))then
 (BP [I (wrap .i64 (gA (nth [] v0 v2.toNat) 0-gA (nth [] v12 (wrap .i64 (v2-1)).toNat) 0)),I (wrap .i64 (0-wrap .i64 (v11.tdiv 4))),I (wrap .i64 (v11.tdiv 4))]).bind λo8=>
 bif !bA o8 0 then
 some (1,[B false])
 else
 some (0,[.view Aa v0,I v1,I (wrap .i64 (v2+1)),I v3,I v4,I v5,I v6,I v7,I v8,I v9,I v10,I v11, .view Aa v12])
 else
 none
 else
 some (0,[.view Aa v0,I v1,I (wrap .i64 (v2+1)),I v3,I v4,I v5,I v6,I v7,I v8,I v9,I v10,I v11, .view Aa v12])
 else
 none
 else
 some (2,[]):=by kernel_rfl
theorem Zvw (BP:Fn) (N6:Lp) (x0 x1 x2 x3 x4 x5 x6 x7 x8:Int) (x9:Rw):V_ BP N6 [I x0,I x1,I x2,I x3,I x4,I x5,I x6,I x7,I x8, .view Aa x9]=
 bif(x9.length:Int)==0 then
 some [B true]
 else
 bif decide ((x9.length:Int)>64)then
 some [B false]
 else
 (BP [I x7,I (-16777216),I 16777216]).bind λo9=>
 bif !bA o9 0 then
 some [B false]
 else
 (BP [I x8,I 4,I 16777216]).bind λo10=>
 bif !bA o10 0 then
 some [B false]
 else
 (N6 [.view Aa x9,I (x9.length:Int),I 0,I x0,I x1,I x2,I x3,I x4,I x5,I x6,I x7,I x8, .view Aa x9]).bind λo11=>
 bif o11.1.beq 1 then
 some [B (bA o11.2 0)]
 else
 bif o11.1.beq 2 then
 some [B true]
 else
 none:=by kernel_rfl
def Qva:=An (Qk1 GG)
def QU:=V_ GG Qva
theorem Qtg:Ai PG (Qe6 GG):=Ao rfl ⟨Qnx,trivial⟩
theorem Znd:Al PG (141,Ad Qaa Xp QU):=rw2 (C:=(Qwp GG Qva)) (fl fb Qtg) Qtg
def Zfi (M:Fn):Nat×Spec:=(86,Ad Qaa Xp M)
def Z2 (Ov BP:Fn):Cfg:=cf [Zx5 Ov,Wz BP]
def Qnb (Ov BP:Fn):Fn:=Am PG (Z2 Ov BP) 64 86 Qaa Xp
theorem Zds (Ov BP:Fn) (x0 x1 x2 x3 x4 x5 x6 x7 x8:Int) (x9:Rw):Qnb Ov BP [I x0,I x1,I x2,I x3,I x4,I x5,I x6,I x7,I x8, .view Aa x9]=
 (BP [I x0,I 4,I 4096]).bind λo6=>
 bif bA o6 0 then
 (BP [I x1,I 1,I 1048576]).bind λo7=>
 bif bA o7 0 then
 (BP [I x2,I 2,I 1048576]).bind λo8=>
 bif bA o8 0 then
 (BP [I x3,I 4,I 1048576]).bind λo9=>
 bif decide (x4>= -16777216)then
 bif decide (x5<=16777216)then
 bif bA o9 0 then
 bif decide (x4<=x5)then
 (BP [I x6,I 0,I 64]).bind λo10=>
 bif bA o10 0 then
 (Ov [I x0,I x1,I x2,I x3,I x4,I x5,I x6,I x7,I x8, .view Aa x9]).bind λo11=>
 some [B (bA o11 0)]
 else
 some [B false]
 else
 some [B false]
 else
 some [B false]
 else
 bif bA o9 0 then
 some [B false]
 else
 some [B false]
 else
 bif bA o9 0 then
 some [B false]
 else
 some [B false]
 else
 bif decide (x4>= -16777216)then
 bif decide (x5<=16777216)then
 some [B false]
 else
 some [B false]
 else
 some [B false]
 else
 bif decide (x4>= -16777216)then
 bif decide (x5<=16777216)then
 some [B false]
 else
 some [B false]
 else
 some [B false]
 else
 bif decide (x4>= -16777216)then
 bif decide (x5<=16777216)then
 some [B false]
 else
 some [B false]
 else
 some [B false]:=by kernel_rfl
def Qs:=Qnb QU GG
theorem Zwd:Ai PG (Z2 QU GG):=Ao rfl ⟨Znd,Qnx,trivial⟩
theorem Zfr:Al PG (86,Ad Qaa Xp Qs):=rw1 (C:=(Z2 QU GG)) Zwd
def Zz5 (M:Fn):Nat×Spec:=(53,Ad Wd Xp M)
def Ql1 (Dm BQ J2:Fn):Cfg:={cf [Qoz Dm,Zx BQ,Zfi J2]with unroll:=[2]}
def Qcl (Dm BQ J2:Fn):Fn:=Am PG (Ql1 Dm BQ J2) 64 53 Wd Xp
theorem Zyp (Dm BQ J2:Fn) (x0 x1 x2 x3 x4 x5 x6 x7 x8:Int) (x9:Rw) (x10 x11 x12 x13 x14 x15 x16 x17 x18:Int) (x19:Rw) (x20 x21 x22 x23 x24 x25 x26 x27 x28:Int) (x29:Rw) (x30 x31 x32 x33 x34:Int):Qcl Dm BQ J2 [I x0,I x1,I x2,I x3,I x4,I x5,I x6,I x7,I x8, .view Aa x9,I x10,I x11,I x12,I x13,I x14,I x15,I x16,I x17,I x18, .view Aa x19,I x20,I x21,I x22,I x23,I x24,I x25,I x26,I x27,I x28, .view Aa x29,I x30,I x31,I x32,I x33,I x34]=
 (J2 [I x0,I x1,I x2,I x3,I x4,I x5,I x6,I x7,I x8, .view Aa x9]).bind λo5=>
 bif !bA o5 0 then
 some [B false]
 else
 (J2 [I x10,I x11,I x12,I x13,I x14,I x15,I x16,I x17,I x18, .view Aa x19]).bind λo6=>
 bif !bA o6 0 then
 some [B false]
 else
 (J2 [I x20,I x21,I x22,I x23,I x24,I x25,I x26,I x27,I x28, .view Aa x29]).bind λo7=>
 bif !bA o7 0 then
 some [B false]
 else
 (BQ [I x30,I x31,I x32]).bind λo8=>
 bif bA o8 0 then
 bif decide (x33>=1)then
 (Dm [I 30000]).bind λo9=>
 bif decide (x33<=gA o9 0)then
 bif decide (x34>=0)then
 some [B (decide (x34<=1048576))]
 else
 some [B false]
 else
 some [B false]
 else
 some [B false]
 else
 some [B false]:=by kernel_rfl
def Qe:=Qcl E9 EY Qs
theorem Z1l:Ai PG (Ql1 E9 EY Qs):=Ao rfl ⟨Qk6,Qh3,Zfr,trivial⟩
theorem Zww:Al PG (53,Ad Wd Xp Qe):=rw1 (C:=(Ql1 E9 EY Qs)) Z1l
def Qgv:Sk:=⟨[TS.v true (cc 9++[CS.sl Aa]++cc 9++[CS.sl Aa]++cc 9++[CS.sl Aa]++cc 5),tf [CS.sl Aj],tf [CS.bool]],[],[]⟩
def Qf4:Sk:=⟨[TS.tup [(false,[CS.ptr 19 0]),(false,[ci])]],[(19,119,cS)],[]⟩
def Qu2 (M:Fn):Nat×Spec:=(20,Ad Qgv Qf4 M)
def UO (D6 FZ O4 F8 Nn O1 OQ:Fn):Cfg:={cp [Qit D6,Q8d FZ,Zj2 O4,Q4h F8,Zwp Nn,Zyh O1,Zz5 OQ] [57]with fstore:=true}
def Ss (D6 FZ O4 F8 Nn O1 OQ:Fn):Fn:=Am PG (UO D6 FZ O4 F8 Nn O1 OQ) 64 20 Qgv Qf4
theorem Z6z (D6 FZ O4 F8 Nn O1 OQ:Fn) (x0 x1 x2 x3 x4 x5 x6 x7 x8:Int) (x9:Rw) (x10 x11 x12 x13 x14 x15 x16 x17 x18:Int) (x19:Rw) (x20 x21 x22 x23 x24 x25 x26 x27 x28:Int) (x29:Rw) (x30 x31 x32 x33 x34:Int) (x35:Rw) (x36:Bool):Ss D6 FZ O4 F8 Nn O1 OQ [I x0,I x1,I x2,I x3,I x4,I x5,I x6,I x7,I x8, .view Aa x9,I x10,I x11,I x12,I x13,I x14,I x15,I x16,I x17,I x18, .view Aa x19,I x20,I x21,I x22,I x23,I x24,I x25,I x26,I x27,I x28, .view Aa x29,I x30,I x31,I x32,I x33,I x34, .view Aj x35,B x36]=
 (OQ [I x0,I x1,I x2,I x3,I x4,I x5,I x6,I x7,I x8, .view Aa x9,I x10,I x11,I x12,I x13,I x14,I x15,I x16,I x17,I x18, .view Aa x19,I x20,I x21,I x22,I x23,I x24,I x25,I x26,I x27,I x28, .view Aa x29,I x30,I x31,I x32,I x33,I x34]).bind λo7=>
 bif !bA o7 0 then
 none
 else
 (O1 [I x0,I x1,I x2,I x3,I x4,I x5,I x6,I x7,I x8, .view Aa x9,I x10,I x11,I x12,I x13,I x14,I x15,I x16,I x17,I x18, .view Aa x19,I x20,I x21,I x22,I x23,I x24,I x25,I x26,I x27,I x28, .view Aa x29,I x30,I x31,I x32,I x33,I x34]).bind λo8=>
 (Nn []).bind λo9=>
 (F8 []).bind λo10=>
 (O4 [.view Aj x35,B x36,jA o8 0,jA o8 1,jA o8 2,jA o8 3,jA o8 4,jA o8 5,jA o8 6,jA o8 7,jA o8 8, .view Aa (wA o8 9),jA o8 10,jA o8 11,jA o8 12,jA o8 13,jA o8 14,jA o8 15,jA o8 16,jA o8 17,jA o8 18, .view Aa (wA o8 19),jA o8 20,jA o8 21,jA o8 22,jA o8 23,jA o8 24,jA o8 25,jA o8 26,jA o8 27,jA o8 28, .view Aa (wA o8 29),jA o8 30,jA o8 31,jA o8 32,jA o8 33,jA o8 34, .view Aj [],B false,I 0,I 0,I 0, .view Ag [], .view kPt [],I 0,I 0, .view Ap [],I 0,I 0,I 0,I 0,I 0,I 0,I 0,I 0,I 0,I 0,I 0,jA o9 0,jA o9 1,B (bA o9 2),B (bA o9 3),B (bA o9 4),jA o10 0,jA o10 1,jA o10 2,I 1,I 0,I 0,I 0,I 0,I 0,I 0,I 0,I 0,B false,I 0,B false,I 0,B false,I 0,I (-1),I 0,I 0,I 0,I 0,I 0,I 0,I 0,B false,B false,B false]).bind λo11=>
 bif gA o11 0 !=0 then
 none
 else
 (FZ [jA o11 38,jA o11 39,jA o11 40, .view Ag (wA o11 41), .view kPt (wA o11 42),jA o11 1,jA o11 2,jA o11 3,jA o11 4,jA o11 5,jA o11 6,jA o11 7,jA o11 8,jA o11 9, .view Aa (wA o11 10),jA o11 11,jA o11 12,jA o11 13,jA o11 14,jA o11 15,jA o11 16,jA o11 17,jA o11 18,jA o11 19, .view Aa (wA o11 20),jA o11 21,jA o11 22,jA o11 23,jA o11 24,jA o11 25,jA o11 26,jA o11 27,jA o11 28,jA o11 29, .view Aa (wA o11 30),I 1,I 1,I 1,I 0,jA o11 43]).bind λo12=>
 (D6 [I 0]).bind λo13=>
 some (I 0::Dp (cR 1 o11) [(44, .view Ap (wA o12 0)),(45,jA o12 1),(46,jA o12 2),(47,jA o12 3),(48,jA o12 4),(49,jA o12 5),(50,jA o13 0),(51,jA o13 1),(52,jA o13 2),(53,jA o13 3),(54,jA o13 4),(55,jA o13 5)]):=by kernel_rfl
def H5:=Ss G7 KV Su Kt Q6 Q8 Qe
theorem Zk8:Ai PG (UO G7 KV Su Kt Q6 Q8 Qe):=Ao rfl ⟨Qpu,Qve,Zq6,Qyr,Zf9,Zhe,Zww,trivial⟩
theorem Q1v:Al PG (20,Ad Qgv Qf4 H5):=rw1 (C:=(UO G7 KV Su Kt Q6 Q8 Qe)) Zk8
def Qqy (M:Fn):Nat×Spec:=(17,Ad Qe3 Qik M)
def Q8q:Fn:=Am PG C_pulse_Sum_0 64 17 Qe3 Qik
theorem Zsp (x0 x1:Int):Q8q [I x0,I x1]=
 bif decide (x1=0)then
 none
 else
 bif decide (x1=0)then
 none
 else
 some [I ((wrap .i64 (x0.tmod x1+x1)).tmod x1)]:=by kernel_rfl
def Ib:=Q8q
theorem Z1t:Ai PG (C_pulse_Sum_0):=Ao rfl trivial
theorem Qze:Al PG (17,Ad Qe3 Qik Ib):=rw1 (C:=C_pulse_Sum_0) Z1t
def XA:Sk:=⟨[tf [CS.ptr 20000 0],tf [ci]],[(20000,103,[CS.sl Aa,ci])],[]⟩
def Vq:Sk:=⟨[tf [ci]],[(20000,103,[CS.sl Aa,ci])],[]⟩
def Jj (M:Fn):Nat×Spec:=(48,Ad XA Vq M)
def Yp (Ek:Fn):Cfg:=cf [Qqy Ek]
def Qg7 (Ek:Fn):Fn:=Am PG (Yp Ek) 64 48 XA Vq
theorem Zc5 (Ek:Fn) (x0:Int) (x1:Rw) (x2:Int):Qg7 Ek [I x0, .view Aa x1,I x2]=
 bif decide (x2>=(x1.length:Int))then
 some [I 0, .view Aa x1,I x2]
 else
 bif decide (0<=x2)&&decide (x2<(x1.length:Int))then
 (Ek [jA (nth [] x1 x2.toNat) 0,I x0]).bind λo1=>
 some [jA o1 0, .view Aa x1,I (wrap .i64 (x2+1))]
 else
 none:=by kernel_rfl
def BG:=Qg7 Ib
theorem Z3c:Ai PG (Yp Ib):=Ao rfl ⟨Qze,trivial⟩
theorem Jz:Al PG (48,Ad XA Vq BG):=rw1 (C:=(Yp Ib)) Z3c
def Qkr:Sk:=⟨[TS.v true [ci,ci,ci]],[(20000,103,[CS.sl Aa,ci])],[]⟩
def Zq4 (M:Fn):Nat×Spec:=(52,Ad XA Qkr M)
def Wb (Aq:Fn):Cfg:=cp [Jj Aq] [48]
def XR (Aq:Fn):Fn:=Am PG (Wb Aq) 64 52 XA Qkr
abbrev P9 (Aq:Fn) (o9:List AC) (x0:Int) (h1_0:AC):Option (List AC):=
 (Aq [h1_0, .view Aa (wA o9 1),jA o9 2]).bind λo10=>
 some [I x0,I (Af (nth .dead (nth [] [[I 4],[I 1],[I 2],[I 3],[I 4],[I 5],[I 6],[I 7],[I 4],[I 8],[I 9],[I 11],[I 12],[I 13],[I 10]] (gA o9 0).toNat) 0)),I (wrap .i64 (gA o10 0-5)), .view Aa (wA o10 1),jA o10 2]
theorem Zho (Aq:Fn) (x0:Int) (x1:Rw) (x2:Int):XR Aq [I x0, .view Aa x1,I x2]=
 (Aq [I 15, .view Aa x1,I x2]).bind λo9=>
 bif decide (0<=gA o9 0)&&decide (gA o9 0<(↑[[I 4],[I 1],[I 2],[I 3],[I 4],[I 5],[I 6],[I 7],[I 4],[I 8],[I 9],[I 11],[I 12],[I 13],[I 10]].length:Int))then
 bif Af (nth .dead (nth [] [[I 4],[I 1],[I 2],[I 3],[I 4],[I 5],[I 6],[I 7],[I 4],[I 8],[I 9],[I 11],[I 12],[I 13],[I 10]] (gA o9 0).toNat) 0)==1 then
 P9 Aq o9 x0 (I 220)
 else
 bif Af (nth .dead (nth [] [[I 4],[I 1],[I 2],[I 3],[I 4],[I 5],[I 6],[I 7],[I 4],[I 8],[I 9],[I 11],[I 12],[I 13],[I 10]] (gA o9 0).toNat) 0)==2 then
 P9 Aq o9 x0 (I 220)
 else
 bif Af (nth .dead (nth [] [[I 4],[I 1],[I 2],[I 3],[I 4],[I 5],[I 6],[I 7],[I 4],[I 8],[I 9],[I 11],[I 12],[I 13],[I 10]] (gA o9 0).toNat) 0)==5 then
 (Aq [I 3, .view Aa (wA o9 1),jA o9 2]).bind λo12=>
 some [I x0,I (Af (nth .dead (nth [] [[I 4],[I 1],[I 2],[I 3],[I 4],[I 5],[I 6],[I 7],[I 4],[I 8],[I 9],[I 11],[I 12],[I 13],[I 10]] (gA o9 0).toNat) 0)),jA o12 0, .view Aa (wA o12 1),jA o12 2]
 else
 bif Af (nth .dead (nth [] [[I 4],[I 1],[I 2],[I 3],[I 4],[I 5],[I 6],[I 7],[I 4],[I 8],[I 9],[I 11],[I 12],[I 13],[I 10]] (gA o9 0).toNat) 0)==6 then
 (Aq [I 3, .view Aa (wA o9 1),jA o9 2]).bind λo13=>
 some [I x0,I (Af (nth .dead (nth [] [[I 4],[I 1],[I 2],[I 3],[I 4],[I 5],[I 6],[I 7],[I 4],[I 8],[I 9],[I 11],[I 12],[I 13],[I 10]] (gA o9 0).toNat) 0)),jA o13 0, .view Aa (wA o13 1),jA o13 2]
 else
 bif Af (nth .dead (nth [] [[I 4],[I 1],[I 2],[I 3],[I 4],[I 5],[I 6],[I 7],[I 4],[I 8],[I 9],[I 11],[I 12],[I 13],[I 10]] (gA o9 0).toNat) 0)==7 then
 P9 Aq o9 x0 (I 300)
 else
 bif Af (nth .dead (nth [] [[I 4],[I 1],[I 2],[I 3],[I 4],[I 5],[I 6],[I 7],[I 4],[I 8],[I 9],[I 11],[I 12],[I 13],[I 10]] (gA o9 0).toNat) 0)==8 then
 (Aq [I 5, .view Aa (wA o9 1),jA o9 2]).bind λo15=>
 some [I x0,I (Af (nth .dead (nth [] [[I 4],[I 1],[I 2],[I 3],[I 4],[I 5],[I 6],[I 7],[I 4],[I 8],[I 9],[I 11],[I 12],[I 13],[I 10]] (gA o9 0).toNat) 0)),I (wrap .i64 (gA o15 0-1)), .view Aa (wA o15 1),jA o15 2]
 else
 bif Af (nth .dead (nth [] [[I 4],[I 1],[I 2],[I 3],[I 4],[I 5],[I 6],[I 7],[I 4],[I 8],[I 9],[I 11],[I 12],[I 13],[I 10]] (gA o9 0).toNat) 0)==13 then
 (Aq [I 4, .view Aa (wA o9 1),jA o9 2]).bind λo16=>
 (Aq [I 60, .view Aa (wA o16 1),jA o16 2]).bind λo17=>
 some [I x0,I (Af (nth .dead (nth [] [[I 4],[I 1],[I 2],[I 3],[I 4],[I 5],[I 6],[I 7],[I 4],[I 8],[I 9],[I 11],[I 12],[I 13],[I 10]] (gA o9 0).toNat) 0)),I (wrap .i64 (wrap .i64 (gA o16 0*1048576)+gA o17 0)), .view Aa (wA o17 1),jA o17 2]
 else
 some [I x0,I (Af (nth .dead (nth [] [[I 4],[I 1],[I 2],[I 3],[I 4],[I 5],[I 6],[I 7],[I 4],[I 8],[I 9],[I 11],[I 12],[I 13],[I 10]] (gA o9 0).toNat) 0)),I 0, .view Aa (wA o9 1),jA o9 2]
 else
 none:=by kernel_rfl
def Lk:=XR BG
theorem Zna:Ai PG (Wb BG):=Ao rfl ⟨Jz,trivial⟩
theorem Z2u:Al PG (52,Ad XA Qkr Lk):=rw1 (C:=(Wb BG)) Zna
def Qd1:Sk:=⟨[tf [CS.ptr 20000 0]],[(20000,103,[CS.sl Aa,ci])],[]⟩
def Qdv:Sk:=⟨[tf [CS.bool]],[(20000,103,[CS.sl Aa,ci])],[]⟩
def Qre (M:Fn):Nat×Spec:=(49,Ad Qd1 Qdv M)
def Qry:Fn:=Am PG C_pulse_Sum_0 64 49 Qd1 Qdv
theorem Zty (x0:Rw) (x1:Int):Qry [.view Aa x0,I x1]=
 some [B (decide (x1<(x0.length:Int))), .view Aa x0,I x1]:=by kernel_rfl
def F5:=Qry
theorem Zz1:Ai PG (C_pulse_Sum_0):=Ao rfl trivial
theorem Q00:Al PG (49,Ad Qd1 Qdv F5):=rw1 (C:=C_pulse_Sum_0) Zz1
def Qju:Sk:=⟨[tf [CS.ptr 5 0]],[(5,103,[CS.sl Aa,ci])],[]⟩
def P0 (M:Fn):Nat×Spec:=(45,Ad Yt Qju M)
def Q3l:Fn:=Am PG C_pulse_Sum_0 64 45 Yt Qju
theorem Zoh (x0:Rw):Q3l [.view Aa x0]=
 some [.view Aa x0,I 0]:=by kernel_rfl
def CG:=Q3l
theorem Zdl:Ai PG (C_pulse_Sum_0):=Ao rfl trivial
theorem QQ:Al PG (45,Ad Yt Qju CG):=rw1 (C:=C_pulse_Sum_0) Zdl
def Zdg (M:Fn):Nat×Spec:=(19,Ad Yt Ww M)
def Qcu (G6 Aq CU Be:Fn):Cfg:={cp [Zq4 G6,Jj Aq,Qre CU,P0 Be] [52,48,49,45]with prom:=λb=>bif Nat.beq b 4 then [(4,69)]else []}
def Zat:Sk:=⟨[td,td,td,tf [CS.ptr 100700 0],tf [CS.own 4 3],tf [ci]]++dd 15,[(100700,103,[CS.sl Aa,ci])],[(4,69,kPt)]⟩
def Qzk:List (Ex×Sk):=[(Ex.exit 0,⟨[td,td,td,td,tf [CS.own 4 3]]++dd 16,[],[(4,69,kPt)]⟩)]
def Qfy (G6 Aq CU Be:Fn):Lp:=AS PG (Qcu G6 Aq CU Be) 64 4 (AV PG 19 4) Zat Qzk
def Q89 (G6 Aq CU Be:Fn) (N4:Lp):Cfg:=(Qcu G6 Aq CU Be).loop 4 Zat Qzk N4
def Qi3 (G6 Aq CU Be:Fn) (N4:Lp):Fn:=Am PG (Q89 G6 Aq CU Be N4) 64 19 Yt Ww
theorem Zxu (G6 Aq CU Be:Fn) (v0:Rw) (v1:Int) (v2:Rw) (v3:Int):Qfy G6 Aq CU Be [.view kPt v0,I v1, .view Aa v2,I v3]=
 (CU [.view Aa v2,I v3]).bind λo10=>
 bif bA o10 0 then
 (Aq [I 40, .view Aa (wA o10 1),jA o10 2]).bind λo11=>
 (G6 [I (wrap .i64 (v1+gA o11 0)), .view Aa (wA o11 1),jA o11 2]).bind λo12=>
 bif((v0++[[jA o12 0,jA o12 1,jA o12 2]]).length*24).ble 140737488355328 then
 some (0,[.view kPt (v0++[[jA o12 0,jA o12 1,jA o12 2]]),I (wrap .i64 (v1+gA o11 0)), .view Aa (wA o12 3),jA o12 4])
 else
 none
 else
 some (1,[.view kPt v0]):=by kernel_rfl
theorem Zue (G6 Aq CU Be:Fn) (N4:Lp) (x0:Rw):Qi3 G6 Aq CU Be N4 [.view Aa x0]=
 (Be [.view Aa x0]).bind λo13=>
 (N4 [.view kPt [],I 0, .view Aa (wA o13 0),jA o13 1]).bind λo14=>
 bif o14.1.beq 1 then
 some [.view kPt (wA o14.2 0)]
 else
 none:=by kernel_rfl
def Qxc:=An (Qfy Lk BG F5 CG)
def M0:=Qi3 Lk BG F5 CG Qxc
theorem Q5z:Ai PG (Qcu Lk BG F5 CG):=Ao rfl ⟨Z2u,Jz,Q00,QQ,trivial⟩
theorem Zu1:Al PG (19,Ad Yt Ww M0):=rw2 (C:=(Q89 Lk BG F5 CG Qxc)) (fl fb Q5z) Q5z
def Zea (M:Fn):Nat×Spec:=(139,Ad Qji WK M)
def Qux:Fn:=Am PG C_pulse_Sum_0 64 139 Qji WK
theorem Zj6 (x0 x1 x2 x3:Int):Qux [I x0,I x1,I x2,I x3]=
 bif x3==17 then
 some [I x0,I x1,I x2]
 else
 bif x3==18 then
 some [I x1,I x2,I x0]
 else
 bif x3==19 then
 some [I x2,I x0,I x1]
 else
 some [I 0,I 0,I 0]:=by kernel_rfl
def Pb:=Qux
theorem Z2v:Ai PG (C_pulse_Sum_0):=Ao rfl trivial
theorem Zc7:Al PG (139,Ad Qji WK Pb):=rw1 (C:=C_pulse_Sum_0) Z2v
def Zmv (M:Fn):Nat×Spec:=(138,Ad Qe3 Vn M)
def Q4m:Fn:=Am PG C_pulse_Sum_0 64 138 Qe3 Vn
theorem Zod (x0 x1:Int):Q4m [I x0,I x1]=
 bif decide (0<=x1.tmod 4)&&decide (x1.tmod 4<(↑[[I x0],[I 0],[I (wrap .i64 (0-x0))],[I 0]].length:Int))then
 bif decide (0<=x1.tmod 4)&&decide (x1.tmod 4<(↑[[I 0],[I x0],[I 0],[I (wrap .i64 (0-x0))]].length:Int))then
 some [I (Af (nth .dead (nth [] [[I x0],[I 0],[I (wrap .i64 (0-x0))],[I 0]] (x1.tmod 4).toNat) 0)),I (Af (nth .dead (nth [] [[I 0],[I x0],[I 0],[I (wrap .i64 (0-x0))]] (x1.tmod 4).toNat) 0))]
 else
 none
 else
 none:=by kernel_rfl
def Ni:=Q4m
theorem Zpb:Ai PG (C_pulse_Sum_0):=Ao rfl trivial
theorem Z68:Al PG (138,Ad Qe3 Vn Ni):=rw1 (C:=C_pulse_Sum_0) Zpb
def Z2n (M:Fn):Nat×Spec:=(137,Ad X8 ZR M)
def Q15:Fn:=Am PG C_pulse_Sum_0 64 137 X8 ZR
theorem Zxt (x0 x1 x2 x3:Int):Q15 [I x0,I x1,I x2,I x3]=
 bif x3==17 then
 some [I x0,I x1,I x2]
 else
 bif x3==18 then
 some [I x2,I x0,I x1]
 else
 bif x3==19 then
 some [I x1,I x2,I x0]
 else
 some [I 0,I 0,I 0]:=by kernel_rfl
def Nw:=Q15
theorem Zq1:Ai PG (C_pulse_Sum_0):=Ao rfl trivial
theorem Zjd:Al PG (137,Ad X8 ZR Nw):=rw1 (C:=C_pulse_Sum_0) Zq1
def Vu:Sk:=⟨[tf [CS.ptr 20000 0],TS.v true [ci,ci,ci],tf [ci]],[(20000,103,[CS.sl Aa,ci])],[]⟩
def Qg1:Sk:=⟨[TS.v true (cc 13++[CS.bool,ci,CS.bool]++cc 5++[CS.bool])],[(20000,103,[CS.sl Aa,ci])],[]⟩
def Zi2 (M:Fn):Nat×Spec:=(85,Ad Vu Qg1 M)
def Qhm (HG LL NP Aq:Fn):Cfg:=cp [Zea HG,Zmv LL,Z2n NP,Jj Aq] [48]
def Qiq (HG LL NP Aq:Fn):Fn:=Am PG (Qhm HG LL NP Aq) 64 85 Vu Qg1
abbrev SM (Aq HG:Fn) (o23 o18:List AC) (x0 x1 x2:Int) (o26 o19 o22:List AC) (h1_0 h1_1 h1_2 h1_3:AC):Option (List AC):=
 (Aq [I 4,h1_0,h1_1]).bind λo30=>
 bif decide (0<=gA o30 0)&&decide (gA o30 0<(↑[[I 0],[I 0],[I 7],[I (-12)]].length:Int))then
 (HG [h1_2,h1_3,I (wrap .i64 (gA o23 2+Af (nth .dead (nth [] [[I 0],[I 0],[I 7],[I (-12)]] (gA o30 0).toNat) 0))),I (Af (nth .dead (nth [] [[I 17],[I 18],[I 19]] (gA o18 0).toNat) 0))]).bind λo31=>
 some [I 3,I 0,I x0,I x1,I x2,jA o31 0,jA o31 1,jA o31 2,I (Af (nth .dead (nth [] [[I 17],[I 18],[I 19]] (gA o18 0).toNat) 0)),jA o26 0,jA o26 1,jA o26 2,I (wrap .i64 (1-wrap .i64 (gA o19 0*2))),B (gA o22 0==0),I 0,B false,I 0,I 0,I 0,I 0,I 0,B false, .view Aa (wA o30 1),jA o30 2]
 else
 none
theorem Zh8 (HG LL NP Aq:Fn) (x0 x1 x2 x3:Int) (x4:Rw) (x5:Int):Qiq HG LL NP Aq [I x0,I x1,I x2,I x3, .view Aa x4,I x5]=
 (Aq [I 3, .view Aa x4,I x5]).bind λo18=>
 bif decide (0<=gA o18 0)&&decide (gA o18 0<(↑[[I 17],[I 18],[I 19]].length:Int))then
 (Aq [I 2, .view Aa (wA o18 1),jA o18 2]).bind λo19=>
 (Aq [I x3, .view Aa (wA o19 1),jA o19 2]).bind λo20=>
 (Aq [I 4, .view Aa (wA o20 1),jA o20 2]).bind λo21=>
 (Aq [I 4, .view Aa (wA o21 1),jA o21 2]).bind λo22=>
 (NP [I x0,I x1,I x2,I (Af (nth .dead (nth [] [[I 17],[I 18],[I 19]] (gA o18 0).toNat) 0))]).bind λo23=>
 (LL [I (wrap .i64 (8+gA o20 0)),jA o21 0]).bind λo24=>
 (LL [I (wrap .i64 (8+gA o20 0)),I (wrap .i64 (gA o21 0+gA o22 0))]).bind λo25=>
 (HG [I (wrap .i64 (gA o23 0-gA o24 0)),I (wrap .i64 (gA o23 1-gA o24 1)),jA o23 2,I (Af (nth .dead (nth [] [[I 17],[I 18],[I 19]] (gA o18 0).toNat) 0))]).bind λo26=>
 bif decide (gA o22 0>0)then
 (Aq [I 3, .view Aa (wA o22 1),jA o22 2]).bind λo27=>
 bif gA o27 0==0 then
 bif decide (wrap .i64 (8+gA o20 0)=0)then
 none
 else
 (Aq [I 5, .view Aa (wA o27 1),jA o27 2]).bind λo28=>
 bif decide (wrap .i64 (8+gA o20 0)=0)then
 none
 else
 (Aq [I 5, .view Aa (wA o28 1),jA o28 2]).bind λo29=>
 SM Aq HG o23 o18 x0 x1 x2 o26 o19 o22 (.view Aa (wA o29 1)) (jA o29 2) (I (wrap .i64 (wrap .i64 (gA o23 0-gA o24 0)+wrap .i64 (gA o25 0+wrap .i64 (wrap .i64 ((gA o25 0).tdiv (wrap .i64 (8+gA o20 0)))*gA o28 0))))) (I (wrap .i64 (wrap .i64 (gA o23 1-gA o24 1)+wrap .i64 (gA o25 1+wrap .i64 (wrap .i64 ((gA o25 1).tdiv (wrap .i64 (8+gA o20 0)))*gA o29 0)))))
 else
 SM Aq HG o23 o18 x0 x1 x2 o26 o19 o22 (.view Aa (wA o27 1)) (jA o27 2) (I (wrap .i64 (wrap .i64 (gA o23 0-gA o24 0)+gA o25 0))) (I (wrap .i64 (wrap .i64 (gA o23 1-gA o24 1)+gA o25 1)))
 else
 SM Aq HG o23 o18 x0 x1 x2 o26 o19 o22 (.view Aa (wA o22 1)) (jA o22 2) (I (wrap .i64 (wrap .i64 (gA o23 0-gA o24 0)+gA o25 0))) (I (wrap .i64 (wrap .i64 (gA o23 1-gA o24 1)+gA o25 1)))
 else
 none:=by kernel_rfl
def QL:=Qiq Pb Ni Nw BG
theorem Z1h:Ai PG (Qhm Pb Ni Nw BG):=Ao rfl ⟨Zc7,Z68,Zjd,Jz,trivial⟩
theorem Zq3:Al PG (85,Ad Vu Qg1 QL):=rw1 (C:=(Qhm Pb Ni Nw BG)) Z1h
def Z5x (M:Fn):Nat×Spec:=(51,Ad Vu Qg1 M)
def Qjo (Aq Pn:Fn):Cfg:=cp [Jj Aq,Zi2 Pn] [48,85]
def Qo1 (Aq Pn:Fn):Fn:=Am PG (Qjo Aq Pn) 64 51 Vu Qg1
abbrev Qky (Aq:Fn) (o20:List AC) (x3:Int) (h1_0 h1_1 h1_2 h1_3 h1_4 h1_5 h1_6 h1_7 h1_8 h1_9 h1_10 h1_11 h1_12 h1_13 h1_16 h1_17 h1_20 h1_21:AC):Option (List AC):=
 (Aq [I 60, .view Aa (wA o20 1),jA o20 2]).bind λo21=>
 bif x3==6 then
 (Aq [I 2, .view Aa (wA o21 1),jA o21 2]).bind λo22=>
 some [h1_0,h1_1,h1_2,h1_3,h1_4,h1_5,h1_6,h1_7,h1_8,h1_9,h1_10,h1_11,h1_12,h1_13,I (wrap .i64 (1+gA o21 0)),B true,h1_16,h1_17,I 0,I (wrap .i64 (3+gA o22 0)),h1_20,h1_21, .view Aa (wA o22 1),jA o22 2]
 else
 some [h1_0,h1_1,h1_2,h1_3,h1_4,h1_5,h1_6,h1_7,h1_8,h1_9,h1_10,h1_11,h1_12,h1_13,I (wrap .i64 (1+gA o21 0)),B true,h1_16,h1_17,I 0,I 0,h1_20,h1_21, .view Aa (wA o21 1),jA o21 2]
abbrev Qbi (x3:Int) (Aq:Fn) (h1_0 h1_1 h1_2 h1_3 h1_4 h1_5 h1_6 h1_7 h1_8 h1_9 h1_10 h1_11 h1_12 h1_13 h1_14 h1_15 h1_16 h1_17 h1_18 h1_19 h1_20 h1_21 h1_22 h1_23:AC):Option (List AC):=
 bif x3==1 then
 some [h1_0,h1_1,h1_2,h1_3,h1_4,h1_5,h1_6,h1_7,h1_8,h1_9,h1_10,h1_11,h1_12,h1_13,h1_14,h1_15,h1_16,h1_17,h1_18,h1_19,h1_20,h1_21,h1_22,h1_23]
 else
 (Aq [I 5,h1_22,h1_23]).bind λo19=>
 bif decide (0<=gA o19 0)&&decide (gA o19 0<(↑[[I 300000],[I 1],[I 60000],[I 2000000],[I 60000000]].length:Int))then
 (Aq [I 5, .view Aa (wA o19 1),jA o19 2]).bind λo20=>
 bif decide (0<=gA o20 0)&&decide (gA o20 0<(↑[[I 0],[I 1],[I 2],[I 4],[I 9]].length:Int))then
 bif x3==5 then
 Qky Aq o20 x3 h1_0 h1_1 h1_2 h1_3 h1_4 h1_5 h1_6 h1_7 h1_8 h1_9 h1_10 h1_11 h1_12 h1_13 h1_16 h1_17 h1_20 h1_21
 else
 bif x3==6 then
 Qky Aq o20 x3 h1_0 h1_1 h1_2 h1_3 h1_4 h1_5 h1_6 h1_7 h1_8 h1_9 h1_10 h1_11 h1_12 h1_13 h1_16 h1_17 h1_20 h1_21
 else
 bif x3==4 then
 some [h1_0,h1_1,h1_2,h1_3,h1_4,h1_5,h1_6,h1_7,h1_8,h1_9,h1_10,h1_11,h1_12,h1_13,I (Af (nth .dead (nth [] [[I 300000],[I 1],[I 60000],[I 2000000],[I 60000000]] (gA o19 0).toNat) 0)),h1_15,h1_16,h1_17,I 0,h1_19,h1_20,h1_21, .view Aa (wA o20 1),jA o20 2]
 else
 some [h1_0,h1_1,h1_2,h1_3,h1_4,h1_5,h1_6,h1_7,h1_8,h1_9,h1_10,h1_11,h1_12,h1_13,I (Af (nth .dead (nth [] [[I 300000],[I 1],[I 60000],[I 2000000],[I 60000000]] (gA o19 0).toNat) 0)),h1_15,h1_16,h1_17,I (Af (nth .dead (nth [] [[I 0],[I 1],[I 2],[I 4],[I 9]] (gA o20 0).toNat) 0)),h1_19,h1_20,h1_21, .view Aa (wA o20 1),jA o20 2]
 else
 none
 else
 none
theorem Z5e (Aq Pn:Fn) (x0 x1 x2 x3:Int) (x4:Rw) (x5:Int):Qo1 Aq Pn [I x0,I x1,I x2,I x3, .view Aa x4,I x5]=
 bif x3==3 then
 (Pn [I x0,I x1,I x2,I 8, .view Aa x4,I x5]).bind λo18=>
 Qbi x3 Aq (jA o18 0) (jA o18 1) (jA o18 2) (jA o18 3) (jA o18 4) (jA o18 5) (jA o18 6) (jA o18 7) (jA o18 8) (jA o18 9) (jA o18 10) (jA o18 11) (jA o18 12) (B (bA o18 13)) (jA o18 14) (B (bA o18 15)) (jA o18 16) (jA o18 17) (jA o18 18) (jA o18 19) (jA o18 20) (B (bA o18 21)) (.view Aa (wA o18 22)) (jA o18 23)
 else
 (Aq [I 25, .view Aa x4,I x5]).bind λo25=>
 (Aq [I 25, .view Aa (wA o25 1),jA o25 2]).bind λo26=>
 (Aq [I 3, .view Aa (wA o26 1),jA o26 2]).bind λo27=>
 (Aq [I 9, .view Aa (wA o27 1),jA o27 2]).bind λo28=>
 (Aq [I 2, .view Aa (wA o28 1),jA o28 2]).bind λo29=>
 Qbi x3 Aq (I x3) (I 0) (I x0) (I x1) (I x2) (I (wrap .i64 (wrap .i64 (x0+gA o25 0)-12))) (I (wrap .i64 (wrap .i64 (x1+gA o26 0)-12))) (I (wrap .i64 (wrap .i64 (x2+wrap .i64 (gA o27 0*gA o28 0))-wrap .i64 (8*gA o29 0)))) (I 0) (I 0) (I 0) (I 0) (I 0) (B false) (I 0) (B false) (I 0) (I 0) (I 0) (I 0) (I 0) (B false) (.view Aa (wA o29 1)) (jA o29 2):=by kernel_rfl
def K_:=Qo1 BG QL
theorem Zde:Ai PG (Qjo BG QL):=Ao rfl ⟨Jz,Zq3,trivial⟩
theorem Zuo:Al PG (51,Ad Vu Qg1 K_):=rw1 (C:=(Qjo BG QL)) Zde
def Zp9 (M:Fn):Nat×Spec:=(50,Ad Qd1 Qg1 M)
def Z6 (Aq:Fn):Cfg:=cp [Jj Aq] [48]
def Wy (Aq:Fn):Fn:=Am PG (Z6 Aq) 64 50 Qd1 Qg1
abbrev Qj3 (Aq:Fn) (o8:List AC):Option (List AC):=
 (Aq [I 16, .view Aa (wA o8 1),jA o8 2]).bind λo9=>
 (Aq [I 2, .view Aa (wA o9 1),jA o9 2]).bind λo10=>
 some [I 10,I 0,I 0,I 0,I 0,I 0,I 0,I 0,I 0,I 0,I 0,I 0,I 0,B false,I 0,B false,I 0,I 0,I 0,jA o9 0,I 0,B (gA o10 0==0), .view Aa (wA o10 1),jA o10 2]
theorem Zbr (Aq:Fn) (x0:Rw) (x1:Int):Wy Aq [.view Aa x0,I x1]=
 (Aq [I 8, .view Aa x0,I x1]).bind λo8=>
 bif gA o8 0==0 then
 Qj3 Aq o8
 else
 bif gA o8 0==1 then
 Qj3 Aq o8
 else
 bif gA o8 0==2 then
 (Aq [I 5, .view Aa (wA o8 1),jA o8 2]).bind λo13=>
 some [I 7,I 0,I 0,I 0,I 0,I 0,I 0,I 0,I 0,I 0,I 0,I 0,I 0,B false,I 0,B false,I 0,I 0,I 0,jA o13 0,I 0,B false, .view Aa (wA o13 1),jA o13 2]
 else
 bif gA o8 0==3 then
 (Aq [I 3, .view Aa (wA o8 1),jA o8 2]).bind λo14=>
 (Aq [I 4000, .view Aa (wA o14 1),jA o14 2]).bind λo15=>
 some [I 8,I 0,I 0,I 0,I 0,I 0,I 0,I 0,I 0,I 0,I 0,I 0,I 0,B false,I 0,B false,I 0,I 0,I 0,I (wrap .i64 (3+gA o14 0)),jA o15 0,B false, .view Aa (wA o15 1),jA o15 2]
 else
 bif gA o8 0==4 then
 some [I 9,I 0,I 0,I 0,I 0,I 0,I 0,I 0,I 0,I 0,I 0,I 0,I 0,B false,I 0,B false,I 0,I 0,I 0,I 8,I 0,B true, .view Aa (wA o8 1),jA o8 2]
 else
 bif gA o8 0==5 then
 some [I 13,I 0,I 0,I 0,I 0,I 0,I 0,I 0,I 0,I 0,I 0,I 0,I 0,B false,I 0,B false,I 0,I 0,I 0,I 0,I 0,B false, .view Aa (wA o8 1),jA o8 2]
 else
 bif gA o8 0==6 then
 some [I 12,I 0,I 0,I 0,I 0,I 0,I 0,I 0,I 0,I 0,I 0,I 0,I 0,B false,I 0,B false,I 0,I 0,I 0,I 0,I 0,B false, .view Aa (wA o8 1),jA o8 2]
 else
 some [I 11,I 0,I 0,I 0,I 0,I 0,I 0,I 0,I 0,I 0,I 0,I 0,I 0,B false,I 0,B false,I 0,I 0,I 0,I 1,I 0,B false, .view Aa (wA o8 1),jA o8 2]:=by kernel_rfl
def LB:=Wy BG
theorem Z69:Ai PG (Z6 BG):=Ao rfl ⟨Jz,trivial⟩
theorem Zex:Al PG (50,Ad Qd1 Qg1 LB):=rw1 (C:=(Z6 BG)) Z69
def Qep:Sk:=⟨[tf [CS.sl Aa],tf [ci],tf [CS.bool]],[],[]⟩
def Zku (M:Fn):Nat×Spec:=(16,Ad Qep U3 M)
def Qf5 (GK Gs CU Aq Be:Fn):Cfg:={cp [Z5x GK,Zp9 Gs,Qre CU,Jj Aq,P0 Be] [51,50,49,48,45]with prom:=λb=>bif Nat.beq b 4 then [(8,74)]else []}
def Qrb:Sk:=⟨[td,tf [ci],tf [CS.bool],td,td,td,td,tf [CS.ptr 101300 0],tf [CS.own 8 22],tf [CS.ptr 9 0]]++dd 64,[(9,72,[ci,ci,ci]),(101300,103,[CS.sl Aa,ci])],[(8,74,Aj)]⟩
def Q5c:List (Ex×Sk):=[(Ex.exit 0,⟨[td,td,tf [CS.bool],td,td,td,td,td,tf [CS.own 8 22]]++dd 65,[],[(8,74,Aj)]⟩)]
def VE (GK Gs CU Aq Be:Fn):Lp:=AS PG (Qf5 GK Gs CU Aq Be) 64 4 (AV PG 16 4) Qrb Q5c
def Q47 (GK Gs CU Aq Be:Fn) (N4:Lp):Cfg:=(Qf5 GK Gs CU Aq Be).loop 4 Qrb Q5c N4
def Vj (GK Gs CU Aq Be:Fn) (N4:Lp):Fn:=Am PG (Q47 GK Gs CU Aq Be N4) 64 16 Qep U3
theorem Z22 (GK Gs CU Aq Be:Fn) (v0:Rw) (v1:Int) (v2:Bool) (v3 v4 v5:Int) (v6:Rw) (v7:Int):VE GK Gs CU Aq Be [.view Aj v0,I v1,B v2,I v3,I v4,I v5, .view Aa v6,I v7]=
 bif decide ((v0.length:Int)<v1)then
 (CU [.view Aa v6,I v7]).bind λo25=>
 bif bA o25 0 then
 (Aq [I 12, .view Aa (wA o25 1),jA o25 2]).bind λo26=>
 bif decide (gA o26 0<4)then
 (Gs [.view Aa (wA o26 1),jA o26 2]).bind λo27=>
 bif((v0++[[jA o27 0,jA o27 1,jA o27 2,jA o27 3,jA o27 4,jA o27 5,jA o27 6,jA o27 7,jA o27 8,jA o27 9,jA o27 10,jA o27 11,jA o27 12,B (bA o27 13),jA o27 14,B (bA o27 15),jA o27 16,jA o27 17,jA o27 18,jA o27 19,jA o27 20,B (bA o27 21)]]).length*176).ble 140737488355328 then
 some (0,[.view Aj (v0++[[jA o27 0,jA o27 1,jA o27 2,jA o27 3,jA o27 4,jA o27 5,jA o27 6,jA o27 7,jA o27 8,jA o27 9,jA o27 10,jA o27 11,jA o27 12,B (bA o27 13),jA o27 14,B (bA o27 15),jA o27 16,jA o27 17,jA o27 18,jA o27 19,jA o27 20,B (bA o27 21)]]),I v1,B v2,I v3,I v4,I v5, .view Aa (wA o27 22),jA o27 23])
 else
 none
 else
 bif decide (0<=wrap .i64 (gA o26 0-4))&&decide (wrap .i64 (gA o26 0-4)<(↑[[I 2],[I 2],[I 2],[I 3],[I 1],[I 6],[I 5],[I 4]].length:Int))then
 (GK [I v3,I v4,I v5,I (Af (nth .dead (nth [] [[I 2],[I 2],[I 2],[I 3],[I 1],[I 6],[I 5],[I 4]] (wrap .i64 (gA o26 0-4)).toNat) 0)), .view Aa (wA o26 1),jA o26 2]).bind λo28=>
 bif gA o28 0==5 then
 (Aq [I 2, .view Aa (wA o28 22),jA o28 23]).bind λo29=>
 (Aq [I 3000, .view Aa (wA o29 1),jA o29 2]).bind λo30=>
 bif((v0++[[I 8,I 0,I 0,I 0,I 0,I 0,I 0,I 0,I 0,I 0,I 0,I 0,I 0,B false,I 0,B false,I 0,I 0,I 0,I (wrap .i64 (3+gA o29 0)),I (wrap .i64 (200+gA o30 0)),B false]]).length*176).ble 140737488355328 then
 bif((v0++[[I 8,I 0,I 0,I 0,I 0,I 0,I 0,I 0,I 0,I 0,I 0,I 0,I 0,B false,I 0,B false,I 0,I 0,I 0,I (wrap .i64 (3+gA o29 0)),I (wrap .i64 (200+gA o30 0)),B false]]++[[jA o28 0,jA o28 1,jA o28 2,jA o28 3,jA o28 4,jA o28 5,jA o28 6,jA o28 7,jA o28 8,jA o28 9,jA o28 10,jA o28 11,jA o28 12,B (bA o28 13),jA o28 14,B (bA o28 15),jA o28 16,jA o28 17,jA o28 18,jA o28 19,jA o28 20,B (bA o28 21)]]).length*176).ble 140737488355328 then
 some (0,[.view Aj (v0++[[I 8,I 0,I 0,I 0,I 0,I 0,I 0,I 0,I 0,I 0,I 0,I 0,I 0,B false,I 0,B false,I 0,I 0,I 0,I (wrap .i64 (3+gA o29 0)),I (wrap .i64 (200+gA o30 0)),B false]]++[[jA o28 0,jA o28 1,jA o28 2,jA o28 3,jA o28 4,jA o28 5,jA o28 6,jA o28 7,jA o28 8,jA o28 9,jA o28 10,jA o28 11,jA o28 12,B (bA o28 13),jA o28 14,B (bA o28 15),jA o28 16,jA o28 17,jA o28 18,jA o28 19,jA o28 20,B (bA o28 21)]]),I v1,B v2,jA o28 5,jA o28 6,jA o28 7, .view Aa (wA o30 1),jA o30 2])
 else
 none
 else
 none
 else
 bif((v0++[[jA o28 0,jA o28 1,jA o28 2,jA o28 3,jA o28 4,jA o28 5,jA o28 6,jA o28 7,jA o28 8,jA o28 9,jA o28 10,jA o28 11,jA o28 12,B (bA o28 13),jA o28 14,B (bA o28 15),jA o28 16,jA o28 17,jA o28 18,jA o28 19,jA o28 20,B (bA o28 21)]]).length*176).ble 140737488355328 then
 some (0,[.view Aj (v0++[[jA o28 0,jA o28 1,jA o28 2,jA o28 3,jA o28 4,jA o28 5,jA o28 6,jA o28 7,jA o28 8,jA o28 9,jA o28 10,jA o28 11,jA o28 12,B (bA o28 13),jA o28 14,B (bA o28 15),jA o28 16,jA o28 17,jA o28 18,jA o28 19,jA o28 20,B (bA o28 21)]]),I v1,B v2,jA o28 5,jA o28 6,jA o28 7, .view Aa (wA o28 22),jA o28 23])
 else
 none
 else
 none
 else
 some (1,[.view Aj v0,B v2])
 else
 some (1,[.view Aj v0,B v2]):=by kernel_rfl
theorem Zfq (GK Gs CU Aq Be:Fn) (N4:Lp) (x0:Rw) (x1:Int) (x2:Bool):Vj GK Gs CU Aq Be N4 [.view Aa x0,I x1,B x2]=
 (Be [.view Aa x0]).bind λo31=>
 (Aq [I 9, .view Aa (wA o31 0),jA o31 1]).bind λo32=>
 (Aq [I 9, .view Aa (wA o32 1),jA o32 2]).bind λo33=>
 (Aq [I 9, .view Aa (wA o33 1),jA o33 2]).bind λo34=>
 (N4 [.view Aj [],I x1,B x2,I (wrap .i64 (gA o32 0-4)),I (wrap .i64 (gA o33 0-4)),I (wrap .i64 (gA o34 0-4)), .view Aa (wA o34 1),jA o34 2]).bind λo35=>
 bif o35.1.beq 1 then
 bif bA o35.2 1 then
 bif((wA o35.2 0++[[I 14,I 0,I 0,I 0,I 0,I 0,I 0,I 0,I 0,I 0,I 0,I 0,I 0,B false,I 0,B false,I 0,I 0,I 0,I 0,I 0,B false]]).length*176).ble 140737488355328 then
 some [.view Aj (wA o35.2 0++[[I 14,I 0,I 0,I 0,I 0,I 0,I 0,I 0,I 0,I 0,I 0,I 0,I 0,B false,I 0,B false,I 0,I 0,I 0,I 0,I 0,B false]])]
 else
 none
 else
 some [.view Aj (wA o35.2 0)]
 else
 none:=by kernel_rfl
def Qng:=An (VE K_ LB F5 BG CG)
def KN:=Vj K_ LB F5 BG CG Qng
theorem Zae:Ai PG (Qf5 K_ LB F5 BG CG):=Ao rfl ⟨Zuo,Zex,Q00,Jz,QQ,trivial⟩
theorem Zcc:Al PG (16,Ad Qep U3 KN):=rw2 (C:=(Q47 K_ LB F5 BG CG Qng)) (fl fb Zae) Zae
def Zuv (M:Fn):Nat×Spec:=(47,Ad Yt WK M)
def UM (Aq Be:Fn):Cfg:=cp [Jj Aq,P0 Be] [48,45]
def We (Aq Be:Fn):Fn:=Am PG (UM Aq Be) 64 47 Yt WK
theorem Zik (Aq Be:Fn) (x0:Rw):We Aq Be [.view Aa x0]=
 (Be [.view Aa x0]).bind λo4=>
 (Aq [I 900, .view Aa (wA o4 0),jA o4 1]).bind λo5=>
 (Aq [I 200, .view Aa (wA o5 1),jA o5 2]).bind λo6=>
 (Aq [I 16000, .view Aa (wA o6 1),jA o6 2]).bind λo7=>
 some [I (wrap .i64 (1+gA o5 0)),I (wrap .i64 (2+gA o6 0)),I (wrap .i64 (1+gA o7 0))]:=by kernel_rfl
def QO:=We BG CG
theorem Z6r:Ai PG (UM BG CG):=Ao rfl ⟨Jz,QQ,trivial⟩
theorem Zdu:Al PG (47,Ad Yt WK QO):=rw1 (C:=(UM BG CG)) Z6r
def Ym:Sk:=⟨[TS.v true (cc 9++[CS.sl Aa])],[(20000,103,[CS.sl Aa,ci])],[]⟩
def Zm7 (M:Fn):Nat×Spec:=(84,Ad Qd1 Ym M)
def WA (Aq:Fn):Cfg:={spec:=Il [Jj Aq],eqOk:=Kz,pure:=λf=> !(AP [48] f),ownOff:=Ze5}
def Qxg:Sk:=⟨[tf [CS.ptr 20000 0],td,tf [CS.ptr 2 0],tf [CS.ptr 3 0],tf [ci],tf [ci],tf [ci]]++dd 72,[(2,26,cc 9++[CS.own 1002009 1]),(3,26,cc 9++[CS.own 1003009 1]),(20000,103,[CS.sl Aa,ci])],[(1002009,3,Aa),(1003009,3,Aa)]⟩
def Qy7:List (Ex×Sk):=[(Ex.exit 0,⟨[td,td,tf [CS.ptr 2 0],tf [CS.ptr 3 0]]++dd 75,[(2,26,cc 9++[CS.own 1002009 1]),(3,26,cc 9++[CS.own 1003009 1]),(20000,103,[CS.sl Aa,ci])],[(1002009,3,Aa),(1003009,3,Aa)]⟩)]
def TR (Aq:Fn):Lp:=AS PG (WA Aq) 64 11 (AV PG 84 11) Qxg Qy7
def Q0z (Aq:Fn) (N11:Lp):Cfg:=(WA Aq).loop 11 Qxg Qy7 N11
def Y8 (Aq:Fn) (N11:Lp):Fn:=Am PG (Q0z Aq N11) 64 84 Qd1 Ym
theorem Qra (Aq:Fn) (v0 v1:Rw) (v2 v3 v4 v5 v6 v7 v8 v9 v10 v11 v12 v13 v14 v15 v16 v17 v18 v19 v20 v21 v22:Int) (v23:Rw) (v24:Int):TR Aq [.view Aa v0, .view Aa v1,I v2,I v3,I v4,I v5,I v6,I v7,I v8,I v9,I v10,I v11,I v12,I v13,I v14,I v15,I v16,I v17,I v18,I v19,I v20,I v21,I v22, .view Aa v23,I v24]=
 bif decide (v4<v2)then
 bif((v1++[[I v3]]).length*8).ble 140737488355328 then
 (Aq [I (wrap .i64 (wrap .i64 (2*wrap .i64 (v22.tdiv 4))+1)), .view Aa v23,I v24]).bind λo20=>
 some (0,[.view Aa v0, .view Aa (v1++[[I v3]]),I v2,I (mn (mx (wrap .i64 (wrap .i64 (v3+gA o20 0)-wrap .i64 (v22.tdiv 4))) (-4096)) 4096),I (wrap .i64 (v4+1)),I v5,I v6,I v7,I v8,I v9,I v10,I v11,I v12,I v13,I v14,I v15,I v16,I v17,I v18,I v19,I v20,I v21,I v22, .view Aa (wA o20 1),jA o20 2])
 else
 none
 else
 some (1,[.view Aa v0, .view Aa v1,I v5,I v6,I v7,I v8,I v9,I v10,I v11,I v12,I v13,I v14,I v15,I v16,I v17,I v18,I v19,I v20,I v21,I v22, .view Aa v23,I v24]):=by kernel_rfl
theorem Zo3 (Aq:Fn) (N11:Lp) (x0:Rw) (x1:Int):Y8 Aq N11 [.view Aa x0,I x1]=
 (Aq [I 6, .view Aa x0,I x1]).bind λo21=>
 bif decide (0<=gA o21 0)&&decide (gA o21 0<(↑[[I 8],[I 4],[I 5],[I 16],[I 23],[I 64]].length:Int))then
 (Aq [I 4, .view Aa (wA o21 1),jA o21 2]).bind λo22=>
 bif decide (0<=gA o22 0)&&decide (gA o22 0<(↑[[I 0],[I 1],[I 3],[I 6]].length:Int))then
 (Aq [I 5, .view Aa (wA o22 1),jA o22 2]).bind λo23=>
 bif decide (0<=gA o23 0)&&decide (gA o23 0<(↑[[I 40],[I 1],[I 3],[I 9],[I 1000]].length:Int))then
 (Aq [I 5, .view Aa (wA o23 1),jA o23 2]).bind λo24=>
 bif decide (0<=gA o24 0)&&decide (gA o24 0<(↑[[I 20],[I 2],[I 3],[I 5],[I 1000]].length:Int))then
 (Aq [I 5, .view Aa (wA o24 1),jA o24 2]).bind λo25=>
 bif decide (0<=gA o25 0)&&decide (gA o25 0<(↑[[I 30],[I 4],[I 5],[I 8],[I 1000]].length:Int))then
 (Aq [I 5, .view Aa (wA o25 1),jA o25 2]).bind λo26=>
 bif gA o26 0==0 then
 some [I (Af (nth .dead (nth [] [[I 8],[I 4],[I 5],[I 16],[I 23],[I 64]] (gA o21 0).toNat) 0)),I (Af (nth .dead (nth [] [[I 40],[I 1],[I 3],[I 9],[I 1000]] (gA o23 0).toNat) 0)),I (Af (nth .dead (nth [] [[I 20],[I 2],[I 3],[I 5],[I 1000]] (gA o24 0).toNat) 0)),I (Af (nth .dead (nth [] [[I 30],[I 4],[I 5],[I 8],[I 1000]] (gA o25 0).toNat) 0)),I (-16777216),I 16777216,I (Af (nth .dead (nth [] [[I 0],[I 1],[I 3],[I 6]] (gA o22 0).toNat) 0)),I 0,I 0, .view Aa [], .view Aa (wA o26 1),jA o26 2]
 else
 (Aq [I 400, .view Aa (wA o26 1),jA o26 2]).bind λo27=>
 (Aq [I 120, .view Aa (wA o27 1),jA o27 2]).bind λo28=>
 (Aq [I 9, .view Aa (wA o28 1),jA o28 2]).bind λo29=>
 (N11 [.view Aa [], .view Aa [],jA o26 0,I (wrap .i64 (gA o29 0-4)),I 0,I 0,I 0,I 0,I 0,I 0,I 0,I 0,I 0,I 0,I (Af (nth .dead (nth [] [[I 8],[I 4],[I 5],[I 16],[I 23],[I 64]] (gA o21 0).toNat) 0)),I (Af (nth .dead (nth [] [[I 40],[I 1],[I 3],[I 9],[I 1000]] (gA o23 0).toNat) 0)),I (Af (nth .dead (nth [] [[I 20],[I 2],[I 3],[I 5],[I 1000]] (gA o24 0).toNat) 0)),I (Af (nth .dead (nth [] [[I 30],[I 4],[I 5],[I 8],[I 1000]] (gA o25 0).toNat) 0)),I (-16777216),I 16777216,I (Af (nth .dead (nth [] [[I 0],[I 1],[I 3],[I 6]] (gA o22 0).toNat) 0)),I (wrap .i64 (gA o27 0-200)),I (wrap .i64 (4+gA o28 0)), .view Aa (wA o29 1),jA o29 2]).bind λo30=>
 bif o30.1.beq 1 then
 some [jA o30.2 11,jA o30.2 12,jA o30.2 13,jA o30.2 14,jA o30.2 15,jA o30.2 16,jA o30.2 17,jA o30.2 18,jA o30.2 19, .view Aa (wA o30.2 1), .view Aa (wA o30.2 20),jA o30.2 21]
 else
 none
 else
 none
 else
 none
 else
 none
 else
 none
 else
 none:=by kernel_rfl
def Qmb:=An (TR BG)
def Pe:=Y8 BG Qmb
theorem Qzd:Ai PG (WA BG):=Ao rfl ⟨Jz,trivial⟩
theorem Zmg:Al PG (84,Ad Qd1 Ym Pe):=rw2 (C:=(Q0z BG Qmb)) (fl fb Qzd) Qzd
def Qko:Sk:=⟨[TS.v true (cc 9++[CS.sl Aa]++cc 9++[CS.sl Aa]++cc 9++[CS.sl Aa])],[],[]⟩
def Zzr (M:Fn):Nat×Spec:=(46,Ad Yt Qko M)
def Qqi (KU Be:Fn):Cfg:=cp [Zm7 KU,P0 Be] [84,45]
def Qwc (KU Be:Fn):Fn:=Am PG (Qqi KU Be) 64 46 Yt Qko
theorem Z4w (KU Be:Fn) (x0:Rw):Qwc KU Be [.view Aa x0]=
 (Be [.view Aa x0]).bind λo4=>
 (KU [.view Aa (wA o4 0),jA o4 1]).bind λo5=>
 (KU [.view Aa (wA o5 10),jA o5 11]).bind λo6=>
 (KU [.view Aa (wA o6 10),jA o6 11]).bind λo7=>
 some [jA o5 0,jA o5 1,jA o5 2,jA o5 3,jA o5 4,jA o5 5,jA o5 6,jA o5 7,jA o5 8, .view Aa (wA o5 9),jA o6 0,jA o6 1,jA o6 2,jA o6 3,jA o6 4,jA o6 5,jA o6 6,jA o6 7,jA o6 8, .view Aa (wA o6 9),jA o7 0,jA o7 1,jA o7 2,jA o7 3,jA o7 4,jA o7 5,jA o7 6,jA o7 7,jA o7 8, .view Aa (wA o7 9)]:=by kernel_rfl
def OL:=Qwc Pe CG
theorem Zqm:Ai PG (Qqi Pe CG):=Ao rfl ⟨Zmg,QQ,trivial⟩
theorem Zfn:Al PG (46,Ad Yt Qko OL):=rw1 (C:=(Qqi Pe CG)) Zqm
def Qks:Sk:=⟨[tf [CS.sl Aa],tf [CS.sl Aa]],[],[]⟩
def Z6a (M:Fn):Nat×Spec:=(15,Ad Qks Wd M)
def Xt (Aq Ns Oi Be:Fn):Cfg:=cp [Jj Aq,Zuv Ns,Zzr Oi,P0 Be] [48,45]
def VR (Aq Ns Oi Be:Fn):Fn:=Am PG (Xt Aq Ns Oi Be) 64 15 Qks Wd
theorem Zmq (Aq Ns Oi Be:Fn) (x0 x1:Rw):VR Aq Ns Oi Be [.view Aa x0, .view Aa x1]=
 (Be [.view Aa x1]).bind λo5=>
 (Oi [.view Aa x0]).bind λo6=>
 (Ns [.view Aa x1]).bind λo7=>
 (Aq [I 60000, .view Aa (wA o5 0),I (mn 3 (x1.length:Int))]).bind λo8=>
 (Aq [I 40, .view Aa (wA o8 1),jA o8 2]).bind λo9=>
 some [jA o6 0,jA o6 1,jA o6 2,jA o6 3,jA o6 4,jA o6 5,jA o6 6,jA o6 7,jA o6 8, .view Aa (wA o6 9),jA o6 10,jA o6 11,jA o6 12,jA o6 13,jA o6 14,jA o6 15,jA o6 16,jA o6 17,jA o6 18, .view Aa (wA o6 19),jA o6 20,jA o6 21,jA o6 22,jA o6 23,jA o6 24,jA o6 25,jA o6 26,jA o6 27,jA o6 28, .view Aa (wA o6 29),jA o7 0,jA o7 1,jA o7 2,I (wrap .i64 (1+gA o8 0)),jA o9 0]:=by kernel_rfl
def Mk:=VR BG QO OL CG
theorem Z2i:Ai PG (Xt BG QO OL CG):=Ao rfl ⟨Jz,Zdu,Zfn,QQ,trivial⟩
theorem Zss:Al PG (15,Ad Qks Wd Mk):=rw1 (C:=(Xt BG QO OL CG)) Z2i
def YA:Sk:=⟨[tf [CS.sl [Kd.sl Aa]]],[],[]⟩
def Z66 (M:Fn):Nat×Spec:=(44,Ad YA Xp M)
def Q8m:Sk:=⟨[td,td,td,td,td,tf [CS.sl [Kd.sl Aa]],tf [ci],tf [ci]]++dd 7,[],[]⟩
def Q1t:List (Ex×Sk):=[(Ex.ret,⟨[td,td,tf [CS.bool]]++dd 12,[],[]⟩),(Ex.exit 0,⟨[td]++dd 14,[],[]⟩)]
def T2:Lp:=AS PG C_pulse_Sum_0 64 2 (AV PG 44 2) Q8m Q1t
def Q0x (N2:Lp):Cfg:=C_pulse_Sum_0.loop 2 Q8m Q1t N2
def Yy (N2:Lp):Fn:=Am PG (Q0x N2) 64 44 YA Xp
theorem Zxn (v0:Rw) (v1 v2:Int):T2 [.view [Kd.sl Aa] v0,I v1,I v2]=
 bif decide (v2<v1)then
 bif decide (0<=v2)&&decide (v2<(v0.length:Int))then
 bif decide ((↑(wA (nth [] v0 v2.toNat) 0).length:Int)>60)then
 some (1,[B false])
 else
 some (0,[.view [Kd.sl Aa] v0,I v1,I (wrap .i64 (v2+1))])
 else
 none
 else
 some (2,[]):=by kernel_rfl
theorem Z3l (N2:Lp) (x0:Rw):Yy N2 [.view [Kd.sl Aa] x0]=
 (N2 [.view [Kd.sl Aa] x0,I (x0.length:Int),I 0]).bind λo1=>
 bif o1.1.beq 1 then
 some [B (bA o1.2 0)]
 else
 bif o1.1.beq 2 then
 some [B true]
 else
 none:=by kernel_rfl
def Q9m:=An (T2)
def KO:=Yy Q9m
theorem Qyi:Ai PG (C_pulse_Sum_0):=Ao rfl trivial
theorem Z6u:Al PG (44,Ad YA Xp KO):=rw2 (C:=(Q0x Q9m)) (fl fb Qyi) Qyi
abbrev Q8r (x20:Int) (Fh:Fn) (x0 x1 x2 x3 x4 x5 x6 x7 x8:Int) (x9:Rw) (x17 x18 x19:Int):Option (List AC):=
 bif decide (x20=(↑0:Int))then
 (Fh [I x0,I x1,I x2,I x3,I x4,I x5,I x6,I x7,I x8, .view Aa x9,I x17]).bind λo30=>
 some [jA o30 0]
 else
 bif decide (x20=(↑(0+1):Int))then
 (Fh [I x0,I x1,I x2,I x3,I x4,I x5,I x6,I x7,I x8, .view Aa x9,I x18]).bind λo31=>
 some [jA o31 0]
 else
 bif decide (x20=(↑(0+1+1):Int))then
 (Fh [I x0,I x1,I x2,I x3,I x4,I x5,I x6,I x7,I x8, .view Aa x9,I x19]).bind λo32=>
 some [jA o32 0]
 else
 none
abbrev S6 (x21 x10 x6:Int) (h4_0:Bool):Option (List AC):=
 bif h4_0 then
 some [I (wrap .i64 (0-mn (wrap .i64 (x21-x10)) x6))]
 else
 some [I (wrap .i64 (mn (wrap .i64 (x21-x10)) x6-x6))]
abbrev SW (x20:Int) (Fh:Fn) (x0 x1 x2 x3 x4 x5 x6 x7 x8:Int) (x9:Rw) (x17 x18 x19 x21 x10:Int) (h1_0:Bool):Option (List AC):=
 bif h1_0 then
 Q8r x20 Fh x0 x1 x2 x3 x4 x5 x6 x7 x8 x9 x17 x18 x19
 else
 bif decide (x20=(↑0:Int))then
 S6 x21 x10 x6 (x17== -1)
 else
 bif decide (x20=(↑(0+1):Int))then
 S6 x21 x10 x6 (x18== -1)
 else
 bif decide (x20=(↑(0+1+1):Int))then
 S6 x21 x10 x6 (x19== -1)
 else
 none
abbrev Ze4 (x20:Int) (Fh:Fn) (x0 x1 x2 x3 x4 x5 x6 x7 x8:Int) (x9:Rw) (x17 x18 x19 x21 x10:Int) (h2_0 h2_1 h2_2:Bool):Option (List AC):=
 bif decide (x20=(↑0:Int))then
 SW x20 Fh x0 x1 x2 x3 x4 x5 x6 x7 x8 x9 x17 x18 x19 x21 x10 h2_0
 else
 bif decide (x20=(↑(0+1):Int))then
 SW x20 Fh x0 x1 x2 x3 x4 x5 x6 x7 x8 x9 x17 x18 x19 x21 x10 h2_1
 else
 bif decide (x20=(↑(0+1+1):Int))then
 SW x20 Fh x0 x1 x2 x3 x4 x5 x6 x7 x8 x9 x17 x18 x19 x21 x10 h2_2
 else
 none
attribute [go_sem] Px OX Gl Qkz Qb4 Qbe Qiv Qu SI RQ RZ Tp Qbz P7 Qci Qjc Qii YD L0 PM P_ P9 SM Qky Qbi Qj3 Q8r S6 SW Ze4
end Go.Bm
