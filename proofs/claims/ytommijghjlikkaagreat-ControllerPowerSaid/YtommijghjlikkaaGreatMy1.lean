/- functions of the program and of the references, as models -/
import Derived.Test.YtommijghjlikkaaGreatMx2
set_option linter.unusedSimpArgs false
set_option linter.unusedVariables false
set_option maxRecDepth 100000
noncomputable section
namespace Go.Bm
open Go.Proofs
def Us:Sk:=⟨[tf [CS.sl kPt],tf [ci]],[],[]⟩
def Qlx:Sk:=⟨[tf [CS.sl kPt]],[],[]⟩
def Q73 (M:Fn):Nat×Spec:=(22,Ac Us Qlx M)
def C_cnclaw43_at_0:Cfg:={cf []with prom:=fun b=>bif Nat.beq b 3 then [(5,69)]else []}
def Qsq:Sk:=⟨[td,tf [ci],td,td,td,tf [CS.own 5 3],td,td,tf [CS.sl kPt],tf [ci],tf [ci]]++dd 13,[],[(5,69,kPt)]⟩
def Qy2:List (Ex×Sk):=[(Ex.exit 0,⟨[td,td,td,td,td,tf [CS.own 5 3]]++dd 18,[],[(5,69,kPt)]⟩)]
def SP:Lp:=AP PG C_cnclaw43_at_0 64 3 (AO PG 22 3) Qsq Qy2
def Qz6 (N3:Lp):Cfg:=C_cnclaw43_at_0.loop 3 Qsq Qy2 N3
def Qfm (N3:Lp):Fn:=Am PG (Qz6 N3) 64 22 Us Qlx
theorem Zy1 (v0:Rw) (v1:Int) (v2:Rw) (v3 v4:Int):SP [.view kPt v0,I v1, .view kPt v2,I v3,I v4]=
 bif decide (v4<v3)then
 bif decide (0<=v4)&&decide (v4<(v2.length:Int))then
 bif gA (nth [] v2 v4.toNat) 0==v1 then
 bif((v0++[[jA (nth [] v2 v4.toNat) 0,jA (nth [] v2 v4.toNat) 1,jA (nth [] v2 v4.toNat) 2]]).length*24).ble 140737488355328 then
 some (0,[.view kPt (v0++[[jA (nth [] v2 v4.toNat) 0,jA (nth [] v2 v4.toNat) 1,jA (nth [] v2 v4.toNat) 2]]),I v1, .view kPt v2,I v3,I (IntKind.i64.wrap (v4+1))])
 else
 none
 else
 some (0,[.view kPt v0,I v1, .view kPt v2,I v3,I (IntKind.i64.wrap (v4+1))])
 else
 none
 else
 some (1,[.view kPt v0]):=by kernel_rfl
theorem Zka (N3:Lp) (x0:Rw) (x1:Int):Qfm N3 [.view kPt x0,I x1]=
 (N3 [.view kPt [],I x1, .view kPt x0,I (x0.length:Int),I 0]).bind fun o1=>
 bif o1.1.beq 1 then
 some [.view kPt (wA o1.2 0)]
 else
 none:=by kernel_rfl
def Q4w:=An (SP)
def Ld:=Qfm Q4w
theorem Q6f:Ai PG (C_cnclaw43_at_0):=Ao rfl trivial
theorem Zun:Al PG (22,Ac Us Qlx Ld):=rw2 (C:=(Qz6 Q4w)) (fl fb Q6f) Q6f
def Xn:Sk:=⟨[tf [CS.sl Aa],tf [CS.sl Aa],tf [CS.sl Aa],tf [CS.sl Aa]],[],[]⟩
def Zv:Sk:=⟨[tf [CS.bool]],[],[]⟩
def Zuv (M:Fn):Nat×Spec:=(14,Ac Xn Zv M)
def UN (LJ:Fn):Cfg:=cf [Zki LJ]
def Xm (LJ:Fn):Fn:=Am PG (UN LJ) 64 14 Xn Zv
theorem Zgg (LJ:Fn) (x0 x1 x2 x3:Rw):Xm LJ [.view Aa x0, .view Aa x1, .view Aa x2, .view Aa x3]=
 (LJ [.view [Kd.sl Aa] [[.view Aa x0],[.view Aa x1],[.view Aa x2],[.view Aa x3]]]).bind fun o1=>
 some [B (bA o1 0)]:=by kernel_rfl
def Nz:=Xm JY
theorem Q80:Ai PG (UN JY):=Ao rfl ⟨Zkt,trivial⟩
theorem Zlb:Al PG (14,Ac Xn Zv Nz):=rw1 (C:=(UN JY)) Q80
def Zo:Sk:=⟨[],[],[]⟩
def Qbw:Sk:=⟨[tf [CS.bool]],[],[]⟩
def Zwx (M:Fn):Nat×Spec:=(13,Ac Zo Qbw M)
def ZW (CW Dw:Fn):Cfg:=cp [Quf CW,Qyu Dw] [21,20]
def WQ (CW Dw:Fn):Fn:=Am PG (ZW CW Dw) 64 13 Zo Qbw
theorem Zsz (CW Dw:Fn):WQ CW Dw []=
 (Dw [I 8,I 10,I 10,I 10,I (-16777216),I 16777216,I 0,I 0,I 0, .view Aa [],I 8,I 10,I 10,I 10,I (-16777216),I 16777216,I 0,I 0,I 0, .view Aa [],I 8,I 10,I 10,I 10,I (-16777216),I 16777216,I 0,I 0,I 0, .view Aa [],I 9,I 3,I 100,I 1,I 0, .view Ak [],B true]).bind fun o5=>
 (Dw [I 8,I 10,I 10,I 10,I (-16777216),I 16777216,I 0,I 0,I 0, .view Aa [],I 8,I 10,I 10,I 10,I (-16777216),I 16777216,I 0,I 0,I 0, .view Aa [],I 8,I 10,I 10,I 10,I (-16777216),I 16777216,I 0,I 0,I 0, .view Aa [],I 9,I 3,I 100,I 1,I 0, .view Ak [[I 12,I 0,I 0,I 0,I 0,I 0,I 0,I 0,I 0,I 0,I 0,I 0,I 0,B false,I 0,B false,I 0,I 0,I 0,I 0,I 0,B false]],B true]).bind fun o6=>
 bif gA o5 0 !=0 then
 some [B false]
 else
 bif gA o6 0 !=0 then
 some [B false]
 else
 (CW (.view kPt []::cR 1 o5)).bind fun o7=>
 bif gA o7 2==7 then
 (CW (.view kPt []::cR 1 o6)).bind fun o8=>
 bif gA o8 2==2 then
 (CW (.view kPt [[I 0,I 4,I 0]]::cR 9 o8)).bind fun o9=>
 some [B (gA o9 2==3)]
 else
 some [B false]
 else
 some [B false]:=by kernel_rfl
def Nn:=WQ Ib H8
theorem Ze0:Ai PG (ZW Ib H8):=Ao rfl ⟨Qux,Qse,trivial⟩
theorem Zvk:Al PG (13,Ac Zo Qbw Nn):=rw1 (C:=(ZW Ib H8)) Ze0
def Q0q:Sk:=⟨[tf [CS.sl Aa],tf [CS.sl Aa],tf [CS.sl Aa],tf [CS.sl Aa],tf [ci]],[],[]⟩
def Q1e:Sk:=⟨[tf [CS.bool]],[],[]⟩
def Qlm (CW E7 DC Dw Gm Gl GN GH GL Gw:Fn):Cfg:={cp [Quf CW,Q73 E7,Qr4 DC,Qyu Dw,Ziv Gm,Zdi Gl,Z0u GN,Zer GH,Zuv GL,Zwx Gw] [21,20]with rowDst:=[64],unroll:=[17]}
def Qp2:Sk:=⟨[td,td,td,td,td,td,td,td,td,td,td,td,td,tf [CS.sl kPt],tf [CS.ptr 104100 0],td,tf [ci],tf [CS.ptr 17 0],tf [ci]]++dd 87,[(17,46,[CS.sl kPt,CS.sl Aa,ci,ci,ci,ci,ci,ci,ci]),(104100,119,cS)],[]⟩
def Qqf:List (Ex×Sk):=[(Ex.exit 0,⟨[td,td,td,td,td,td,td,td,td,td,td,td,td,tf [CS.sl kPt],tf [CS.ptr 104100 0],td,tf [ci],tf [CS.ptr 17 0]]++dd 88,[(17,46,[CS.sl kPt,CS.sl Aa,ci,ci,ci,ci,ci,ci,ci]),(104100,119,cS)],[]⟩)]
def RR (CW E7 DC Dw Gm Gl GN GH GL Gw:Fn):Lp:=AP PG (Qlm CW E7 DC Dw Gm Gl GN GH GL Gw) 64 12 (AO PG 10 12) Qp2 Qqf
def Qvb (CW E7 DC Dw Gm Gl GN GH GL Gw:Fn) (N12:Lp):Cfg:=(Qlm CW E7 DC Dw Gm Gl GN GH GL Gw).loop 12 Qp2 Qqf N12
def Qb7 (CW E7 DC Dw Gm Gl GN GH GL Gw:Fn) (N12:Lp):Fn:=Am PG (Qvb CW E7 DC Dw Gm Gl GN GH GL Gw N12) 64 10 Q0q Q1e
theorem Zlf (CW E7 DC Dw Gm Gl GN GH GL Gw:Fn) (v0:Rw) (v1 v2:Int) (v3 v4:Rw) (v5 v6 v7 v8 v9 v10 v11:Int) (K:Kf) (c:Cv):RR CW E7 DC Dw Gm Gl GN GH GL Gw (.view kPt v0::I v1::I v2:: .view kPt v3:: .view Aa v4::I v5::I v6::I v7::I v8::I v9::I v10::I v11::Ad K c)=
 bif decide (v2<v1)then
 (E7 [.view kPt v0,I v2]).bind fun o59=>
 (CW (.view kPt (wA o59 0)::Ad K c)).bind fun o60=>
 some (0,(.view kPt v0::I v1::I (IntKind.i64.wrap (v2+1)):: .view kPt (wA o60 0):: .view Aa (wA o60 1)::jA o60 2::jA o60 3::jA o60 4::jA o60 5::jA o60 6::jA o60 7::jA o60 8::cR 9 o60))
 else
 some (1,(.view kPt v0::I v1:: .view kPt v3:: .view Aa v4::I v5::I v6::I v7::I v8::I v9::I v10::I v11::Ad K c)):=by kernel_rfl
def Qxh (z t:List AC) (r:Option (List AC)):Option (List AC):=
 bif !(gA t 4==gA z 6&&(gA t 5==gA z 7&&(gA t 6==gA z 8&&true)))then some [B false]
 else bif decide ((↑(wA t 0).length:Int)>0)then some [B false]
 else bif gA t 8 !=22 then some [B false]
 else bif gA t 2 !=6 then some [B false]
 else bif gA t 3 !=gA z 5 then some [B false]else r
def Xo (MS MA:Fn) (z:List AC):Nat->Int->List AC->Option (List AC)
 |0,_,_=>some [B true]
 |n+1,k,o=>(MA [.view kPt (wA z 0),I (IntKind.i64.wrap (gA z 1+k))]).bind fun a=>
  bif((wA a 0).length*24).ble 140737488355328 then
   (MS (.view kPt (wA a 0)::cR 9 o)).bind fun t=>Qxh z t (Xo MS MA z n (IntKind.i64.wrap (k+1)) t)
  else none
theorem Zwf (CW E7 DC Dw Gm Gl GN GH GL Gw:Fn) (N12:Lp) (x0 x1 x2 x3:Rw) (x4:Int):Qb7 CW E7 DC Dw Gm Gl GN GH GL Gw N12 [.view Aa x0, .view Aa x1, .view Aa x2, .view Aa x3,I x4]=
 (Gw []).bind fun o61=>
 bif !bA o61 0 then
 some [B false]
 else
 (GL [.view Aa x0, .view Aa x1, .view Aa x2, .view Aa x3]).bind fun o62=>
 bif !bA o62 0 then
 some [B true]
 else
 (GH [.view Aa x1, .view Aa x2]).bind fun o63=>
 (GN [.view Aa x0,I 6,B true]).bind fun o64=>
 (Gl [.view Aa x3]).bind fun o65=>
 (Gm [.view kPt (wA o65 0)]).bind fun o66=>
 (Dw [jA o63 0,jA o63 1,jA o63 2,jA o63 3,jA o63 4,jA o63 5,jA o63 6,jA o63 7,jA o63 8, .view Aa (wA o63 9),jA o63 10,jA o63 11,jA o63 12,jA o63 13,jA o63 14,jA o63 15,jA o63 16,jA o63 17,jA o63 18, .view Aa (wA o63 19),jA o63 20,jA o63 21,jA o63 22,jA o63 23,jA o63 24,jA o63 25,jA o63 26,jA o63 27,jA o63 28, .view Aa (wA o63 29),jA o63 30,jA o63 31,jA o63 32,jA o63 33,jA o63 34, .view Ak (wA o64 0),B true]).bind fun o67=>
 bif gA o67 0 !=0 then
 some [B false]
 else
 (DC [I x4,I 80]).bind fun o68=>
 (N12 (.view kPt (wA o66 0)::I (IntKind.i64.wrap (1+gA o68 0))::I 0:: .view kPt []:: .view Aa []::I 0::I 0::I 0::I 0::I 0::I 0::I 0::cR 1 o67)).bind fun o69=>
 bif o69.1.beq 1 then
 (E7 [.view kPt (wA o69.2 0),I (IntKind.i64.wrap (gA o69.2 1+0))]).bind fun o70=>
 bif(([[I 0,I 10,I 0]]++wA o70 0).length*24).ble 140737488355328 then
 (CW (.view kPt ([[I 0,I 10,I 0]]++wA o70 0)::cR 11 o69.2)).bind fun o71=>
 Qxh o69.2 o71 (Xo CW E7 o69.2 19 (IntKind.i64.wrap (0+1)) o71)
 else
 none
 else
 none:=by kernel_rfl
def Q36:=An (RR Ib Ld HS H8 Mh N_ Lr Ls Nz Nn)
def Qt3:=Qb7 Ib Ld HS H8 Mh N_ Lr Ls Nz Nn Q36
theorem Qr6:Ai PG (Qlm Ib Ld HS H8 Mh N_ Lr Ls Nz Nn):=Ao rfl ⟨Qux,Zun,Qr1,Qse,Zmi,Ziw,Zvr,Zlg,Zlb,Zvk,trivial⟩
theorem Ztx:∀(args:List TV) (v:TV) (mem:Mem),(Ac Q0q Q1e Qt3 (TV×Mem) args ⟨[],[]⟩ fun v m=>some (v,m))=some (v,mem)->PCallM PG 10 args ⟨[],[]⟩ v mem:=fun args v mem h=>Zbq (f:=10) (C:=(Qvb Ib Ld HS H8 Mh N_ Lr Ls Nz Nn Q36)) (L:=64) (by kernel_rfl) ((FnOK.bare rfl rfl rfl).loop Qr6 eqOk H6 (by kernel_rfl) (by kernel_rfl)) Qr6 eqOk H6 (by kernel_rfl) (by kernel_rfl) args v mem h
end Go.Bm
