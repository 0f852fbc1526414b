/- functions of the program and of the references, as models -/
import Derived.Test.YtommijghjlikkaaGreatSeShelf
import Derived.Test.YtommijghjlikkaaGreatSeExt
import Derived.Test.YtommijghjlikkaaGreatSePre
import Derived.Test.YtommijghjlikkaaGreatSeKc
import Derived.Test.YtommijghjlikkaaGreatBmTy
set_option linter.unusedSimpArgs false
set_option linter.unusedVariables false
set_option maxRecDepth 100000
noncomputable section
open Go.IntKind (wrap)
namespace Go.Bm
open Go.Proofs
def Qas:Sk:=⟨[TS.v true (cc 13++[CS.bool,ci,CS.bool]++cc 5++[CS.bool])],[],[]⟩
def Qnv:Sk:=⟨[tf [CS.bool]],[],[]⟩
def Rb (M:Fn):Nat×Spec:=(81,Ad Qas Qnv M)
def WB:Cfg:=cf []
def Q3d:Fn:=An PG WB 64 81 Qas Qnv
theorem Zzw (x0 x1 x2 x3 x4 x5 x6 x7 x8 x9 x10 x11 x12:Int) (x13:Bool) (x14:Int) (x15:Bool) (x16 x17 x18 x19 x20:Int) (x21:Bool):Q3d [I x0,I x1,I x2,I x3,I x4,I x5,I x6,I x7,I x8,I x9,I x10,I x11,I x12,B x13,I x14,B x15,I x16,I x17,I x18,I x19,I x20,B x21]=
 bif x0==2 then
 some [B !(x2==x5&&(x3==x6&&(x4==x7&&true)))]
 else
 some [B false]:=by kernel_rfl
def EP:=Q3d
theorem Z0p:Aj PG (WB):=Ap rfl trivial
theorem Sl:Al PG (81,Ad Qas Qnv EP):=rw1 (C:=WB) Z0p
def Qn1:Sk:=⟨[tf [ci]],[],[]⟩
def S4 (M:Fn):Nat×Spec:=(123,Ad Qn1 Qnv M)
def Q15:Fn:=An PG WB 64 123 Qn1 Qnv
theorem Zuv (x0:Int):Q15 [I x0]=
 bif decide (x0>=1)then
 some [B (decide (x0<=6))]
 else
 some [B false]:=by kernel_rfl
def DL:=Q15
theorem Ro:Al PG (123,Ad Qn1 Qnv DL):=rw1 (C:=WB) Z0p
def Q8v (M:Fn):Nat×Spec:=(169,Ad Qas Qnv M)
def Q0x:Fn:=An PG WB 64 169 Qas Qnv
theorem Zvr (x0 x1 x2 x3 x4 x5 x6 x7 x8 x9 x10 x11 x12:Int) (x13:Bool) (x14:Int) (x15:Bool) (x16 x17 x18 x19 x20:Int) (x21:Bool):Q0x [I x0,I x1,I x2,I x3,I x4,I x5,I x6,I x7,I x8,I x9,I x10,I x11,I x12,B x13,I x14,B x15,I x16,I x17,I x18,I x19,I x20,B x21]=
 bif x0==5 then
 some [B true]
 else
 some [B (x0==6)]:=by kernel_rfl
def Hu:=Q0x
theorem Qvi:Al PG (169,Ad Qas Qnv Hu):=rw1 (C:=WB) Z0p
def Xp:Sk:=⟨[tf [CS.sl Ah],tf [ci]],[],[]⟩
def Z4e (M:Fn):Nat×Spec:=(173,Ad Xp Qnv M)
def Qg1 (AQ CJ:Fn):Cfg:=cf [S4 AQ,Q8v CJ]
def Qra:Sk:=⟨dd 23++[tf [CS.sl Ah],tf [ci],tf [ci]]++dd 9,[],[]⟩
def Qta:List (Ex×Sk):=[(Ex.ret,⟨[td,td,td,td,tf [CS.bool]]++dd 30,[],[]⟩),(Ex.exit 0,⟨[td]++dd 34,[],[]⟩)]
def Me (AQ CJ:Fn):Lp:=A0 PG (Qg1 AQ CJ) 64 4 (AY PG 173 4) Qra Qta
def Q3u (AQ CJ:Fn) (N4:Lp):Cfg:=(Qg1 AQ CJ).loop 4 Qra Qta N4
def Qme (AQ CJ:Fn) (N4:Lp):Fn:=An PG (Q3u AQ CJ N4) 64 173 Xp Qnv
theorem Q4j (AQ CJ:Fn) (v0:Rw) (v1 v2:Int):Me AQ CJ [.view Ah v0,I v1,I v2]=
 bif decide (v2<v1)then
 bif decide (0<=v2)&&decide (v2<(v0.length:Int))then
 (AQ [jA (nth [] v0 v2.toNat) 0]).bind λo5=>
 bif bA o5 0 then
 (CJ (AN Ah (nth [] v0 v2.toNat))).bind λo6=>
 some (1,[B (bA o6 0)])
 else
 some (0,[.view Ah v0,I v1,I (wrap .i64 (v2+1))])
 else
 none
 else
 some (2,[]):=by kernel_rfl
theorem Zxg (AQ CJ:Fn) (N4:Lp) (x0:Rw) (x1:Int):Qme AQ CJ N4 [.view Ah x0,I x1]=
 bif decide (0<=x1)&&decide (x1<(x0.length:Int))then
 bif gA (nth [] x0 x1.toNat) 18==0 then
 some [B true]
 else
 bif decide (0<=x1)&&decide (x1<(x0.length:Int))then
 (CJ (AN Ah (nth [] x0 x1.toNat))).bind λo7=>
 bif bA o7 0 then
 some [B true]
 else
 bif decide (0<=wrap .i64 (x1+1))&&decide (wrap .i64 (x1+1)<=(x0.length:Int))then
 (N4 [.view Ah (List.drop (wrap .i64 (x1+1)).toNat x0),I (↑(List.drop (wrap .i64 (x1+1)).toNat x0).length:Int),I 0]).bind λo8=>
 bif o8.1.beq 1 then
 some [B (bA o8.2 0)]
 else
 bif o8.1.beq 2 then
 some [B false]
 else
 none
 else
 none
 else
 none
 else
 none:=by kernel_rfl
def Qvv:=Am (Me DL Hu)
def PO:=Qme DL Hu Qvv
theorem Q0l:Aj PG (Qg1 DL Hu):=Ap rfl ⟨Ro,Qvi,trivial⟩
theorem Zhi:Al PG (173,Ad Xp Qnv PO):=rw2 (C:=(Q3u DL Hu Qvv)) (fl fb Q0l) Q0l
def Ql5:Sk:=⟨[tf [CS.ptr 20000 0],tf [CS.sl Ah],tf [ci]],[(20000,142,[ci,ci,ci,CS.own 20000 7,CS.own 20001 3,CS.bool,ci,ci,ci])],[(20000,162,Ai),(20001,76,kPt)]⟩
def Qln:Sk:=⟨[TS.tup []],[(20000,142,[ci,ci,ci,CS.own 20000 7,CS.own 20001 3,CS.bool,ci,ci,ci])],[(20000,162,Ai),(20001,76,kPt)]⟩
def Z0c (M:Fn):Nat×Spec:=(127,Ad Ql5 Qln M)
def Qdi (NL AQ:Fn):Cfg:=cf [Z4e NL,S4 AQ]
def Qgp (NL AQ:Fn):Fn:=An PG (Qdi NL AQ) 64 127 Ql5 Qln
abbrev WE (AQ:Fn) (x2:Rw) (x3:Int) (x1:Rw) (x8:Int) (x0:Rw) (x4 x5 x6:Int) (x7:Bool) (x9 x10:Int):Option (List AC):=
 (AQ [jA (nth [] x2 x3.toNat) 0]).bind λo6=>
 bif bA o6 0 then
 bif((x1++[[I x8,I 2,I x3]]).length*24).ble 140737488355328 then
 some [.view Ai x0, .view kPt (x1++[[I x8,I 2,I x3]]),I x4,I x5,I x6,B x7,I x8,I x9,I x10]
 else
 none
 else
 bif gA (nth [] x2 x3.toNat) 0==10 then
 bif((x1++[[I x8,I 5,I x3]]).length*24).ble 140737488355328 then
 some [.view Ai x0, .view kPt (x1++[[I x8,I 5,I x3]]),I x4,I x5,I x6,B x7,I x8,I x9,I x10]
 else
 none
 else
 bif gA (nth [] x2 x3.toNat) 0==13 then
 bif((x1++[[I x8,I 4,I x3]]).length*24).ble 140737488355328 then
 some [.view Ai x0, .view kPt (x1++[[I x8,I 4,I x3]]),I x4,I x5,I x6,B x7,I x8,I x9,I x10]
 else
 none
 else
 bif((x1++[[I x8,I 3,I x3]]).length*24).ble 140737488355328 then
 some [.view Ai x0, .view kPt (x1++[[I x8,I 3,I x3]]),I x4,I x5,I x6,B x7,I x8,I x9,I x10]
 else
 none
theorem Zq8 (NL AQ:Fn) (x0 x1 x2:Rw) (x3 x4 x5 x6:Int) (x7:Bool) (x8 x9 x10:Int):Qgp NL AQ [.view Ai x0, .view kPt x1, .view Ah x2,I x3,I x4,I x5,I x6,B x7,I x8,I x9,I x10]=
 bif decide (0<=x3)&&decide (x3<(x2.length:Int))then
 bif gA (nth [] x2 x3.toNat) 0==4 then
 bif((x1++[[I x8,I 6,I x3]]).length*24).ble 140737488355328 then
 some [.view Ai x0, .view kPt (x1++[[I x8,I 6,I x3]]),I x4,I x5,I x6,B x7,I x8,I x9,I x10]
 else
 none
 else
 (AQ [jA (nth [] x2 x3.toNat) 0]).bind λo4=>
 bif bA o4 0 then
 (NL [.view Ah x2,I x3]).bind λo5=>
 bif bA o5 0 then
 bif((x1++[[I x8,I 1,I x3]]).length*24).ble 140737488355328 then
 some [.view Ai x0, .view kPt (x1++[[I x8,I 1,I x3]]),I x4,I x5,I x6,B x7,I x8,I x9,I x10]
 else
 none
 else
 WE AQ x2 x3 x1 x8 x0 x4 x5 x6 x7 x9 x10
 else
 WE AQ x2 x3 x1 x8 x0 x4 x5 x6 x7 x9 x10
 else
 none:=by kernel_rfl
def JC:=Qgp PO DL
theorem Zfk:Aj PG (Qdi PO DL):=Ap rfl ⟨Zhi,Ro,trivial⟩
theorem Zcg:Al PG (127,Ad Ql5 Qln JC):=rw1 (C:=(Qdi PO DL)) Zfk
def Qh1:Sk:=⟨[TS.v true [ci,ci,ci]],[],[]⟩
def Qor (M:Fn):Nat×Spec:=(172,Ad Qas Qh1 M)
def Qy5:Fn:=An PG WB 64 172 Qas Qh1
theorem Zw1 (x0 x1 x2 x3 x4 x5 x6 x7 x8 x9 x10 x11 x12:Int) (x13:Bool) (x14:Int) (x15:Bool) (x16 x17 x18 x19 x20:Int) (x21:Bool):Qy5 [I x0,I x1,I x2,I x3,I x4,I x5,I x6,I x7,I x8,I x9,I x10,I x11,I x12,B x13,I x14,B x15,I x16,I x17,I x18,I x19,I x20,B x21]=
 some [I (wrap .i64 (wrap .i64 (x2+x5)*8)),I (wrap .i64 (wrap .i64 (x3+x6)*8)),I (wrap .i64 (wrap .i64 (x4+x7)*8))]:=by kernel_rfl
def Gp:=Qy5
theorem Qbf:Al PG (172,Ad Qas Qh1 Gp):=rw1 (C:=WB) Z0p
def Qhz:Sk:=⟨[tf [CS.int .u64],tf [CS.bool]],[],[]⟩
def Qhr:Sk:=⟨[TS.tup [(false,[ci]),(false,[CS.bool])]],[],[]⟩
def Qb9 (M:Fn):Nat×Spec:=(136,Ad Qhz Qhr M)
def Qa5:Fn:=An PG WB 64 136 Qhz Qhr
theorem Xg (x0:Int) (x1:Bool):Qa5 [U x0,B x1]=
 bif x1 then
 bif decide (x0<=9223372036854775808)then
 some [I (wrap .i64 (wrap .u64 (0-x0))),B true]
 else
 bif !x1 then
 bif decide (x0<9223372036854775808)then
 some [I (wrap .i64 x0),B true]
 else
 some [I 0,B false]
 else
 some [I 0,B false]
 else
 bif !x1 then
 bif decide (x0<9223372036854775808)then
 some [I (wrap .i64 x0),B true]
 else
 some [I 0,B false]
 else
 some [I 0,B false]:=by kernel_rfl
def Fk:=Qa5
theorem VM:Al PG (136,Ad Qhz Qhr Fk):=rw1 (C:=WB) Z0p
def Qin:Sk:=⟨[TS.v true [CS.int .u64,CS.int .u64],TS.v true [CS.int .u64,CS.int .u64]],[],[]⟩
def Qxw (M:Fn):Nat×Spec:=(211,Ad Qin Qn1 M)
def Q5x:Fn:=An PG WB 64 211 Qin Qn1
theorem Zsf (x0 x1 x2 x3:Int):Q5x [U x0,U x1,U x2,U x3]=
 bif decide (x0<x2)then
 some [I (-1)]
 else
 bif x0==x2 then
 bif decide (x1<x3)then
 some [I (-1)]
 else
 bif x0==x2&&(x1==x3&&true)then
 some [I 0]
 else
 some [I 1]
 else
 bif x0==x2&&(x1==x3&&true)then
 some [I 0]
 else
 some [I 1]:=by kernel_rfl
def Io:=Q5x
theorem Qrn:Al PG (211,Ad Qin Qn1 Io):=rw1 (C:=WB) Z0p
def Qm1:Sk:=⟨[tf [CS.int .u64],tf [CS.int .u64]],[],[]⟩
def Yl:Sk:=⟨[TS.v true [CS.int .u64,CS.int .u64]],[],[]⟩
def Ul (M:Fn):Nat×Spec:=(131,Ad Qm1 Yl M)
def Qil (Gu:Fn):Cfg:=cf [(175,Ad YY Qih Gu)]
def Q1d (Gu:Fn):Fn:=An PG (Qil Gu) 64 131 Qm1 Yl
theorem Zf5 (Gu:Fn) (x0 x1:Int):Q1d Gu [U x0,U x1]=
 (Gu [U x0,U x1]).bind λo1=>
 some [U (gA o1 0),U (gA o1 1)]:=by kernel_rfl
def Ev:=Q1d IE
theorem Zyf:Aj PG (Qil IE):=Ap rfl ⟨Qw9,trivial⟩
theorem R0:Al PG (131,Ad Qm1 Yl Ev):=rw1 (C:=(Qil IE)) Zyf
def Qfx:Sk:=⟨[tf [CS.int .u64]],[],[]⟩
def Q16 (M:Fn):Nat×Spec:=(221,Ad Yl Qfx M)
def Qo7 (Ed BK:Fn):Cfg:=cf [Qxw Ed,Ul BK]
def Quh:Sk:=⟨[td,tf [CS.ptr 1 0],td,tf [CS.int .u64],tf [CS.int .u64]]++dd 16,[(1,185,[CS.int .u64,CS.int .u64])],[]⟩
def Qul:List (Ex×Sk):=[(Ex.exit 0,⟨[td,td,td,tf [CS.int .u64]]++dd 17,[],[]⟩)]
def L8 (Ed BK:Fn):Lp:=A0 PG (Qo7 Ed BK) 64 3 (AY PG 221 3) Quh Qul
def Qzo (Ed BK:Fn) (N3:Lp):Cfg:=(Qo7 Ed BK).loop 3 Quh Qul N3
def Qod (Ed BK:Fn) (N3:Lp):Fn:=An PG (Qzo Ed BK N3) 64 221 Yl Qfx
theorem Qp9 (Ed BK:Fn) (v0 v1 v2 v3:Int):L8 Ed BK [U v0,U v1,U v2,U v3]=
 bif decide (v1>0)then
 (BK [U (wrap .u64 (↑(BitVec.ofInt IntKind.u64.bits v0|||BitVec.ofInt IntKind.u64.bits v1).toNat:Int)),U (wrap .u64 (↑(BitVec.ofInt IntKind.u64.bits v0|||BitVec.ofInt IntKind.u64.bits v1).toNat:Int))]).bind λo3=>
 (Ed [U (gA o3 0),U (gA o3 1),U v2,U v3]).bind λo4=>
 bif decide (gA o4 0<=0)then
 some (0,[U (wrap .u64 (↑(BitVec.ofInt IntKind.u64.bits v0|||BitVec.ofInt IntKind.u64.bits v1).toNat:Int)),U (v1.fdiv (2^min (Int.toNat 1) IntKind.u64.bits)),U v2,U v3])
 else
 some (0,[U v0,U (v1.fdiv (2^min (Int.toNat 1) IntKind.u64.bits)),U v2,U v3])
 else
 some (1,[U v0]):=by kernel_rfl
theorem Zg3 (Ed BK:Fn) (N3:Lp) (x0 x1:Int):Qod Ed BK N3 [U x0,U x1]=
 (N3 [U 0,U 9223372036854775808,U x0,U x1]).bind λo5=>
 bif o5.1.beq 1 then
 some [U (gA o5.2 0)]
 else
 none:=by kernel_rfl
def Qzk:=Am (L8 Io Ev)
def JM:=Qod Io Ev Qzk
theorem Q59:Aj PG (Qo7 Io Ev):=Ap rfl ⟨Qrn,R0,trivial⟩
theorem Qwm:Al PG (221,Ad Yl Qfx JM):=rw2 (C:=(Qzo Io Ev Qzk)) (fl fb Q59) Q59
def Qn3:Sk:=⟨[TS.v true [CS.int .u64,CS.int .u64],tf [ci]],[],[]⟩
def Zn1 (M:Fn):Nat×Spec:=(216,Ad Qn3 Qhr M)
def Qg4 (Bh Mb Gu Gx:Fn):Cfg:=cf [Qb9 Bh,(222,Ad Q3f Qx0 Mb),(175,Ad YY Qih Gu),Q16 Gx]
def Qef (Bh Mb Gu Gx:Fn):Fn:=An PG (Qg4 Bh Mb Gu Gx) 64 216 Qn3 Qhr
abbrev Qlf (x2:Int) (o17:List AC) (Bh:Fn) (o14 o16:List AC):Option (List AC):=
 bif x2==2 then
 bif decide (gA o17 0>0)then
 (Bh [U (wrap .u64 (gA o14 0+1)),B false]).bind λo20=>
 some [jA o20 0,B (bA o20 1)]
 else
 bif decide (gA o16 0>gA o14 0)then
 (Bh [U (wrap .u64 (gA o14 0+1)),B false]).bind λo21=>
 some [jA o21 0,B (bA o21 1)]
 else
 (Bh [U (gA o14 0),B false]).bind λo22=>
 some [jA o22 0,B (bA o22 1)]
 else
 (Bh [U (gA o14 0),B false]).bind λo23=>
 some [jA o23 0,B (bA o23 1)]
theorem Zbp (Bh Mb Gu Gx:Fn) (x0 x1 x2:Int):Qef Bh Mb Gu Gx [U x0,U x1,I x2]=
 (Gx [U x0,U x1]).bind λo14=>
 (Gu [U (gA o14 0),U (gA o14 0)]).bind λo15=>
 (Mb [U x1,U (gA o15 1),U 0]).bind λo16=>
 (Mb [U x0,U (gA o15 0),U (gA o16 1)]).bind λo17=>
 bif x2==1 then
 bif decide (gA o17 0>0)then
 (Bh [U (wrap .u64 (gA o14 0+1)),B false]).bind λo18=>
 some [jA o18 0,B (bA o18 1)]
 else
 bif decide (gA o16 0>0)then
 (Bh [U (wrap .u64 (gA o14 0+1)),B false]).bind λo19=>
 some [jA o19 0,B (bA o19 1)]
 else
 Qlf x2 o17 Bh o14 o16
 else
 Qlf x2 o17 Bh o14 o16:=by kernel_rfl
def RJ:=Qef Fk KF IE JM
theorem Zzn:Aj PG (Qg4 Fk KF IE JM):=Ap rfl ⟨VM,Zd1,Qw9,Qwm,trivial⟩
theorem Zg8:Al PG (216,Ad Qn3 Qhr RJ):=rw1 (C:=(Qg4 Fk KF IE JM)) Zzn
def Qgi (M:Fn):Nat×Spec:=(130,Ad Qn1 Qnv M)
def Uu:Fn:=An PG WB 64 130 Qn1 Qnv
theorem Q5b (x0:Int):Uu [I x0]=
 bif x0==0 then
 some [B true]
 else
 bif x0==1 then
 some [B true]
 else
 some [B (x0==2)]:=by kernel_rfl
def FQ:=Uu
theorem Y6:Al PG (130,Ad Qn1 Qnv FQ):=rw1 (C:=WB) Z0p
def Y7:Sk:=⟨[tf [ci],tf [ci]],[],[]⟩
def Q03 (M:Fn):Nat×Spec:=(210,Ad Y7 Qhr M)
def U0 (NZ DJ:Fn):Cfg:=cf [Zn1 NZ,Qgi DJ]
def Qd2 (NZ DJ:Fn):Fn:=An PG (U0 NZ DJ) 64 210 Y7 Qhr
theorem Zmg (NZ DJ:Fn) (x0 x1:Int):Qd2 NZ DJ [I x0,I x1]=
 bif decide (x0<0)then
 some [I 0,B false]
 else
 (DJ [I x1]).bind λo2=>
 bif !bA o2 0 then
 some [I 0,B false]
 else
 (NZ [U 0,U (wrap .u64 x0),I x1]).bind λo3=>
 some [jA o3 0,B (bA o3 1)]:=by kernel_rfl
def IU:=Qd2 RJ FQ
theorem Z5w:Aj PG (U0 RJ FQ):=Ap rfl ⟨Zg8,Y6,trivial⟩
theorem Q6e:Al PG (210,Ad Y7 Qhr IU):=rw1 (C:=(U0 RJ FQ)) Z5w
def Ql3:Sk:=⟨[TS.v true [ci,ci,ci],TS.v true [ci,ci,ci]],[],[]⟩
def Q00 (M:Fn):Nat×Spec:=(195,Ad Ql3 Qn1 M)
def Qk8 (FW:Fn):Cfg:={cf [Q03 FW]with unroll:=[3]}
def Qki (FW:Fn):Fn:=An PG (Qk8 FW) 64 195 Ql3 Qn1
theorem Zx2 (FW:Fn) (x0 x1 x2 x3 x4 x5:Int):Qki FW [I x0,I x1,I x2,I x3,I x4,I x5]=
 (FW [I (wrap .i64 (wrap .i64 (wrap .i64 (0+wrap .i64 (wrap .i64 (x0-x3)*wrap .i64 (x0-x3)))+wrap .i64 (wrap .i64 (x1-x4)*wrap .i64 (x1-x4)))+wrap .i64 (wrap .i64 (x2-x5)*wrap .i64 (x2-x5)))),I 1]).bind λo1=>
 some [jA o1 0]:=by kernel_rfl
def JB:=Qki IU
theorem Zd7:Aj PG (Qk8 IU):=Ap rfl ⟨Q6e,trivial⟩
theorem Qs4:Al PG (195,Ad Ql3 Qn1 JB):=rw1 (C:=(Qk8 IU)) Zd7
def Qbc:Sk:=⟨[tf [CS.ptr 20000 0],TS.v true [ci,ci,ci],TS.v true (cc 7)],[(20000,142,[ci,ci,ci,CS.own 20000 7,CS.own 20001 3,CS.bool,ci,ci,ci])],[(20000,162,Ai),(20001,76,kPt)]⟩
def Zch (M:Fn):Nat×Spec:=(171,Ad Qbc Qln M)
def Qbr (Dn:Fn):Cfg:=cf [Q00 Dn]
def S9 (Dn:Fn):Fn:=An PG (Qbr Dn) 64 171 Qbc Qln
abbrev Qjd (x15:Bool) (x0 x1:Rw) (x2 x3 x4 x16 x17 x18 x12 x13 x14:Int) (Dn:Fn) (x9 x10 x11:Int) (h1_0:Bool) (h1_1 h1_2 h1_3:AC):Option (List AC):=
 bif !x15 then
 some [.view Ai x0, .view kPt x1,I x2,I x3,I x4,B true,I x16,I x17,I x18]
 else
 bif h1_0 then
 some [.view Ai x0, .view kPt x1,I x12,I x13,I x14,B x15,I x16,I x17,I x18]
 else
 (Dn [h1_1,h1_2,h1_3,I x2,I x3,I x4]).bind λo2=>
 bif((x0++[[I x2,I x3,I x4,jA o2 0,I x9,I x10,I x11]]).length*56).ble 140737488355328 then
 some [.view Ai (x0++[[I x2,I x3,I x4,jA o2 0,I x9,I x10,I x11]]), .view kPt x1,I x12,I x13,I x14,B x15,I (wrap .i64 (x16+gA o2 0)),I x17,I x18]
 else
 none
theorem Qqa (Dn:Fn) (x0 x1:Rw) (x2 x3 x4 x5 x6 x7 x8 x9 x10 x11 x12 x13 x14:Int) (x15:Bool) (x16 x17 x18:Int):S9 Dn [.view Ai x0, .view kPt x1,I x2,I x3,I x4,I x5,I x6,I x7,I x8,I x9,I x10,I x11,I x12,I x13,I x14,B x15,I x16,I x17,I x18]=
 bif decide ((x0.length:Int)>0)then
 bif decide (0<=wrap .i64 ((x0.length:Int)-1))&&decide (wrap .i64 ((x0.length:Int)-1)<(x0.length:Int))then
 Qjd x15 x0 x1 x2 x3 x4 x16 x17 x18 x12 x13 x14 Dn x9 x10 x11 (x2==gA (nth [] x0 (wrap .i64 ((x0.length:Int)-1)).toNat) 0&&(x3==gA (nth [] x0 (wrap .i64 ((x0.length:Int)-1)).toNat) 1&&(x4==gA (nth [] x0 (wrap .i64 ((x0.length:Int)-1)).toNat) 2&&true))) (jA (nth [] x0 (wrap .i64 ((x0.length:Int)-1)).toNat) 0) (jA (nth [] x0 (wrap .i64 ((x0.length:Int)-1)).toNat) 1) (jA (nth [] x0 (wrap .i64 ((x0.length:Int)-1)).toNat) 2)
 else
 none
 else
 Qjd x15 x0 x1 x2 x3 x4 x16 x17 x18 x12 x13 x14 Dn x9 x10 x11 (x2==x12&&(x3==x13&&(x4==x14&&true))) (I x12) (I x13) (I x14):=by kernel_rfl
def NJ:=S9 JB
theorem Zja:Aj PG (Qbr JB):=Ap rfl ⟨Qs4,trivial⟩
theorem Zvq:Al PG (171,Ad Qbc Qln NJ):=rw1 (C:=(Qbr JB)) Zja
def Qlw (M:Fn):Nat×Spec:=(125,Ad Xp Qn1 M)
def Q04:Sk:=⟨[tf [CS.sl Ah],tf [ci]]++dd 20,[],[]⟩
def Q4z:List (Ex×Sk):=[(Ex.exit 0,⟨[td,tf [ci]]++dd 20,[],[]⟩)]
def Pd:Lp:=A0 PG WB 64 2 (AY PG 125 2) Q04 Q4z
def Q6k (N2:Lp):Cfg:=WB.loop 2 Q04 Q4z N2
def Vq (N2:Lp):Fn:=An PG (Q6k N2) 64 125 Xp Qn1
theorem Q76 (v0:Rw) (v1:Int):Pd [.view Ah v0,I v1]=
 bif decide (v1<(v0.length:Int))then
 bif decide (0<=v1)&&decide (v1<(v0.length:Int))then
 bif gA (nth [] v0 v1.toNat) 0==10 then
 some (0,[.view Ah v0,I (wrap .i64 (v1+1))])
 else
 some (1,[I v1])
 else
 none
 else
 some (1,[I v1]):=by kernel_rfl
theorem Zzb (N2:Lp) (x0:Rw) (x1:Int):Vq N2 [.view Ah x0,I x1]=
 (N2 [.view Ah x0,I (wrap .i64 (x1+1))]).bind λo1=>
 bif o1.1.beq 1 then
 some [jA o1.2 0]
 else
 none:=by kernel_rfl
def Q7f:=Am (Pd)
def Fm:=Vq Q7f
theorem Qc5:Al PG (125,Ad Xp Qn1 Fm):=rw2 (C:=(Q6k Q7f)) (fl fb Z0p) Z0p
def Q8p (M:Fn):Nat×Spec:=(124,Ad Xp Qnv M)
def Qex (Bs Bw:Fn):Cfg:=cf [Rb Bs,Qlw Bw]
def Qmh (Bs Bw:Fn):Fn:=An PG (Qex Bs Bw) 64 124 Xp Qnv
theorem Zqv (Bs Bw:Fn) (x0:Rw) (x1:Int):Qmh Bs Bw [.view Ah x0,I x1]=
 (Bw [.view Ah x0,I x1]).bind λo3=>
 bif decide (0<=x1)&&decide (x1<(x0.length:Int))then
 (Bs (AN Ah (nth [] x0 x1.toNat))).bind λo4=>
 bif bA o4 0 then
 bif decide (0<=x1)&&decide (x1<(x0.length:Int))then
 bif gA (nth [] x0 x1.toNat) 18 !=0 then
 bif decide (gA o3 0<(x0.length:Int))then
 bif decide (0<=gA o3 0)&&decide (gA o3 0<(x0.length:Int))then
 (Bs (AN Ah (nth [] x0 (gA o3 0).toNat))).bind λo5=>
 some [B (bA o5 0)]
 else
 none
 else
 some [B false]
 else
 some [B false]
 else
 none
 else
 some [B false]
 else
 none:=by kernel_rfl
def G2:=Qmh EP Fm
theorem Zws:Aj PG (Qex EP Fm):=Ap rfl ⟨Sl,Qc5,trivial⟩
theorem Qr3:Al PG (124,Ad Xp Qnv G2):=rw1 (C:=(Qex EP Fm)) Zws
def V6:Sk:=⟨[tf [ci],tf [ci],tf [CS.bool],tf [CS.bool]],[],[]⟩
def Qzr (M:Fn):Nat×Spec:=(135,Ad V6 Qnv M)
def VY:Fn:=An PG WB 64 135 V6 Qnv
theorem Qx9 (x0 x1:Int) (x2 x3:Bool):VY [I x0,I x1,B x2,B x3]=
 bif x0==0 then
 bif x2 then
 some [B x3]
 else
 some [B false]
 else
 bif x0==1 then
 bif x2 then
 some [B !x3]
 else
 some [B false]
 else
 bif decide (x1>0)then
 some [B true]
 else
 bif x1==0 then
 some [B !x3]
 else
 some [B false]:=by kernel_rfl
def Hs:=VY
theorem Qw2:Al PG (135,Ad V6 Qnv Hs):=rw1 (C:=WB) Z0p
def Qgg (M:Fn):Nat×Spec:=(134,Ad Y7 Qn1 M)
def Xx:Fn:=An PG WB 64 134 Y7 Qn1
theorem Q8h (x0 x1:Int):Xx [I x0,I x1]=
 bif x0==0 then
 some [I 0]
 else
 bif x1==0 then
 some [I 0]
 else
 bif decide (x0<0)==decide (x1<0)then
 some [I 1]
 else
 some [I (-1)]:=by kernel_rfl
def Fqs:=Xx
theorem Qkg:Al PG (134,Ad Y7 Qn1 Fqs):=rw1 (C:=WB) Z0p
def Qms:Sk:=⟨[tf [CS.int .u64],tf [CS.int .u64],tf [CS.int .u64]],[],[]⟩
def XC:Sk:=⟨[TS.tup [(false,[CS.int .u64]),(false,[CS.int .u64])]],[],[]⟩
def Qun (M:Fn):Nat×Spec:=(133,Ad Qms XC M)
def Qh7 (DX:Fn):Cfg:=cf [(176,Ad Q0e Q5i DX)]
def Q1p:Sk:=⟨[td,td,tf [CS.int .u64],td,td,td,td,td,tf [CS.int .u64],tf [CS.int .u64],tf [CS.int .u64],tf [CS.int .u64],td,tf [CS.int .u64],tf [CS.int .u64],tf [CS.int .u64],tf [CS.int .u64]]++dd 118,[],[]⟩
def Q0y:List (Ex×Sk):=[(Ex.exit 0,⟨[td,td,tf [CS.int .u64],td,td,td,td,td,tf [CS.int .u64],tf [CS.int .u64],tf [CS.int .u64],tf [CS.int .u64],td,tf [CS.int .u64],tf [CS.int .u64],tf [CS.int .u64]]++dd 119,[],[]⟩)]
def LO (DX:Fn):Lp:=A0 PG (Qh7 DX) 64 17 (AY PG 133 17) Q1p Q0y
def Q8n (DX:Fn) (N17:Lp):Cfg:=(Qh7 DX).loop 17 Q1p Q0y N17
def Q67:Sk:=⟨[td,td,tf [CS.int .u64],td,td,td,td,td,tf [CS.int .u64],tf [CS.int .u64],tf [CS.int .u64],td,td,td,tf [CS.int .u64],tf [CS.int .u64],tf [CS.int .u64],tf [CS.int .u64],tf [CS.int .u64]]++dd 116,[],[]⟩
def Q0q:List (Ex×Sk):=[(Ex.exit 2,⟨[td,td,tf [CS.int .u64],td,td,td,td,td,tf [CS.int .u64],td,td,td,td,td,tf [CS.int .u64],tf [CS.int .u64],td,tf [CS.int .u64],tf [CS.int .u64]]++dd 116,[],[]⟩)]
def Pi (DX:Fn) (N17:Lp):Lp:=A0 PG (Q8n DX N17) 64 24 (AY PG 133 24) Q67 Q0q
def Qs6 (DX:Fn) (N17 N24:Lp):Cfg:=(Q8n DX N17).loop 24 Q67 Q0q N24
def W6 (DX:Fn) (N17 N24:Lp):Fn:=An PG (Qs6 DX N17 N24) 64 133 Qms XC
theorem Zst (DX:Fn) (v0 v1 v2 v3 v4 v5 v6 v7 v8:Int):LO DX [U v0,U v1,U v2,U v3,U v4,U v5,U v6,U v7,U v8]=
 bif decide (v7>=4294967296)then
 bif decide (wrap .u64 (v8+v2)>=4294967296)then
 some (1,[U v0,U v1,U v2,U v3,U v4,U v5,U v6,U (wrap .u64 (v7-1))])
 else
 some (0,[U v0,U v1,U v2,U v3,U v4,U v5,U v6,U (wrap .u64 (v7-1)),U (wrap .u64 (v8+v2))])
 else
 bif decide (wrap .u64 (v7*v3)>wrap .u64 (wrap .u64 (4294967296*v8)+v5))then
 bif decide (wrap .u64 (v8+v2)>=4294967296)then
 some (1,[U v0,U v1,U v2,U v3,U v4,U v5,U v6,U (wrap .u64 (v7-1))])
 else
 some (0,[U v0,U v1,U v2,U v3,U v4,U v5,U v6,U (wrap .u64 (v7-1)),U (wrap .u64 (v8+v2))])
 else
 some (1,[U v0,U v1,U v2,U v3,U v4,U v5,U v6,U v7]):=by kernel_rfl
theorem Znf (DX:Fn) (N17:Lp) (v0 v1 v2 v3 v4 v5 v6 v7 v8:Int):Pi DX N17 [U v0,U v1,U v2,U v3,U v4,U v5,U v6,U v7,U v8]=
 bif decide (v8>=4294967296)then
 bif decide (wrap .u64 (v6+v2)>=4294967296)then
 some (1,[U v0,U v1,U v4,U v5,U v7,U (wrap .u64 (v8-1))])
 else
 some (0,[U v0,U v1,U v2,U v3,U v4,U v5,U (wrap .u64 (v6+v2)),U v7,U (wrap .u64 (v8-1))])
 else
 bif decide (wrap .u64 (v8*v3)>wrap .u64 (wrap .u64 (4294967296*v6)+v4))then
 bif decide (wrap .u64 (v6+v2)>=4294967296)then
 some (1,[U v0,U v1,U v4,U v5,U v7,U (wrap .u64 (v8-1))])
 else
 some (0,[U v0,U v1,U v2,U v3,U v4,U v5,U (wrap .u64 (v6+v2)),U v7,U (wrap .u64 (v8-1))])
 else
 some (1,[U v0,U v1,U v4,U v5,U v7,U v8]):=by kernel_rfl
theorem Q2y (DX:Fn) (N17 N24:Lp) (x0 x1 x2:Int):W6 DX N17 N24 [U x0,U x1,U x2]=
 bif x2==0 then
 none
 else
 bif decide (x2<=x0)then
 none
 else
 bif x0==0 then
 bif decide (x2=0)then
 none
 else
 bif decide (x2=0)then
 none
 else
 some [U (wrap .u64 (x1.tdiv x2)),U (x1.tmod x2)]
 else
 (DX [U x2]).bind λo6=>
 bif decide (wrap .u64 (gA o6 0)<0)then
 none
 else
 bif decide (wrap .u64 (gA o6 0)<0)then
 none
 else
 bif decide (wrap .u64 (64-wrap .u64 (gA o6 0))<0)then
 none
 else
 bif decide (wrap .u64 (gA o6 0)<0)then
 none
 else
 bif decide ((wrap .u64 (x2*2^min (wrap .u64 (gA o6 0)).toNat IntKind.u64.bits)).fdiv (2^min (Int.toNat 32) IntKind.u64.bits)=0)then
 none
 else
 (N17 [U (wrap .u64 (x2*2^min (wrap .u64 (gA o6 0)).toNat IntKind.u64.bits)),U (wrap .u64 (gA o6 0)),U ((wrap .u64 (x2*2^min (wrap .u64 (gA o6 0)).toNat IntKind.u64.bits)).fdiv (2^min (Int.toNat 32) IntKind.u64.bits)),U (wrap .u64 (↑(BitVec.ofInt IntKind.u64.bits (wrap .u64 (x2*2^min (wrap .u64 (gA o6 0)).toNat IntKind.u64.bits))&&&BitVec.ofInt IntKind.u64.bits 4294967295).toNat:Int)),U (wrap .u64 (↑(BitVec.ofInt IntKind.u64.bits (wrap .u64 (x0*2^min (wrap .u64 (gA o6 0)).toNat IntKind.u64.bits))|||BitVec.ofInt IntKind.u64.bits (x1.fdiv (2^min (wrap .u64 (64-wrap .u64 (gA o6 0))).toNat IntKind.u64.bits))).toNat:Int)),U ((wrap .u64 (x1*2^min (wrap .u64 (gA o6 0)).toNat IntKind.u64.bits)).fdiv (2^min (Int.toNat 32) IntKind.u64.bits)),U (wrap .u64 (↑(BitVec.ofInt IntKind.u64.bits (wrap .u64 (x1*2^min (wrap .u64 (gA o6 0)).toNat IntKind.u64.bits))&&&BitVec.ofInt IntKind.u64.bits 4294967295).toNat:Int)),U (wrap .u64 ((wrap .u64 (↑(BitVec.ofInt IntKind.u64.bits (wrap .u64 (x0*2^min (wrap .u64 (gA o6 0)).toNat IntKind.u64.bits))|||BitVec.ofInt IntKind.u64.bits (x1.fdiv (2^min (wrap .u64 (64-wrap .u64 (gA o6 0))).toNat IntKind.u64.bits))).toNat:Int)).tdiv ((wrap .u64 (x2*2^min (wrap .u64 (gA o6 0)).toNat IntKind.u64.bits)).fdiv (2^min (Int.toNat 32) IntKind.u64.bits)))),U (wrap .u64 (wrap .u64 (↑(BitVec.ofInt IntKind.u64.bits (wrap .u64 (x0*2^min (wrap .u64 (gA o6 0)).toNat IntKind.u64.bits))|||BitVec.ofInt IntKind.u64.bits (x1.fdiv (2^min (wrap .u64 (64-wrap .u64 (gA o6 0))).toNat IntKind.u64.bits))).toNat:Int)-wrap .u64 (wrap .u64 ((wrap .u64 (↑(BitVec.ofInt IntKind.u64.bits (wrap .u64 (x0*2^min (wrap .u64 (gA o6 0)).toNat IntKind.u64.bits))|||BitVec.ofInt IntKind.u64.bits (x1.fdiv (2^min (wrap .u64 (64-wrap .u64 (gA o6 0))).toNat IntKind.u64.bits))).toNat:Int)).tdiv ((wrap .u64 (x2*2^min (wrap .u64 (gA o6 0)).toNat IntKind.u64.bits)).fdiv (2^min (Int.toNat 32) IntKind.u64.bits)))*(wrap .u64 (x2*2^min (wrap .u64 (gA o6 0)).toNat IntKind.u64.bits)).fdiv (2^min (Int.toNat 32) IntKind.u64.bits))))]).bind λo7=>
 bif o7.1.beq 1 then
 bif decide (gA o7.2 2=0)then
 none
 else
 (N24 [U (gA o7.2 0),U (gA o7.2 1),U (gA o7.2 2),U (gA o7.2 3),U (gA o7.2 6),U (gA o7.2 7),U (wrap .u64 (wrap .u64 (wrap .u64 (wrap .u64 (gA o7.2 4*4294967296)+gA o7.2 5)-wrap .u64 (gA o7.2 7*gA o7.2 0))-wrap .u64 (wrap .u64 ((wrap .u64 (wrap .u64 (wrap .u64 (gA o7.2 4*4294967296)+gA o7.2 5)-wrap .u64 (gA o7.2 7*gA o7.2 0))).tdiv (gA o7.2 2))*gA o7.2 2))),U (wrap .u64 (wrap .u64 (wrap .u64 (gA o7.2 4*4294967296)+gA o7.2 5)-wrap .u64 (gA o7.2 7*gA o7.2 0))),U (wrap .u64 ((wrap .u64 (wrap .u64 (wrap .u64 (gA o7.2 4*4294967296)+gA o7.2 5)-wrap .u64 (gA o7.2 7*gA o7.2 0))).tdiv (gA o7.2 2)))]).bind λo8=>
 bif o8.1.beq 1 then
 bif decide (gA o8.2 1<0)then
 none
 else
 some [U (wrap .u64 (wrap .u64 (gA o8.2 3*4294967296)+gA o8.2 5)),U ((wrap .u64 (wrap .u64 (wrap .u64 (gA o8.2 4*4294967296)+gA o8.2 2)-wrap .u64 (gA o8.2 5*gA o8.2 0))).fdiv (2^min (gA o8.2 1).toNat IntKind.u64.bits))]
 else
 none
 else
 none:=by kernel_rfl
def Ry:=Am (LO Ia)
def Qe3:=Am (Pi Ia Ry)
def GN:=W6 Ia Ry Qe3
theorem Xm:Aj PG (Qh7 Ia):=Ap rfl ⟨Zof,trivial⟩
theorem Q39:Al PG (133,Ad Qms XC GN):=rw2 (C:=(Qs6 Ia Ry Qe3)) (fl (fl fb Xm) Xm) Xm
def Qfo (M:Fn):Nat×Spec:=(132,Ad Qn1 Qfx M)
def Qtj:Fn:=An PG WB 64 132 Qn1 Qfx
theorem Zbm (x0:Int):Qtj [I x0]=
 bif decide (x0<0)then
 some [U (wrap .u64 (wrap .u64 (wrap .i64 (0-wrap .i64 (x0+1)))+1))]
 else
 some [U (wrap .u64 x0)]:=by kernel_rfl
def Gn:=Qtj
theorem Qmz:Al PG (132,Ad Qn1 Qfx Gn):=rw1 (C:=WB) Z0p
def Vk:Sk:=⟨[tf [ci],tf [ci],tf [ci],tf [ci]],[],[]⟩
def KW (M:Fn):Nat×Spec:=(83,Ad Vk Qhr M)
def Qmg (Bh CE Dh F0 BK Cn DJ:Fn):Cfg:=cf [Qb9 Bh,Qzr CE,Qgg Dh,Qun F0,Ul BK,Qfo Cn,Qgi DJ]
def Sj (Bh CE Dh F0 BK Cn DJ:Fn):Fn:=An PG (Qmg Bh CE Dh F0 BK Cn DJ) 64 83 Vk Qhr
abbrev TN (CE:Fn) (x3:Int) (o31:List AC) (Bh:Fn) (h1_0 h1_1:AC):Option (List AC):=
 (CE [I x3,h1_0,B (decide (gA o31 1>0)),h1_1]).bind λo34=>
 bif bA o34 0 then
 bif wrap .u64 (gA o31 0+1)==0 then
 some [I 0,B false]
 else
 (Bh [U (wrap .u64 (gA o31 0+1)),h1_1]).bind λo35=>
 some [jA o35 0,B (bA o35 1)]
 else
 (Bh [U (gA o31 0),h1_1]).bind λo36=>
 some [jA o36 0,B (bA o36 1)]
abbrev Qhb (o31 o30:List AC) (CE:Fn) (x3:Int) (Bh:Fn) (h2_0:AC):Option (List AC):=
 bif decide (gA o31 1>wrap .u64 (gA o30 0-gA o31 1))then
 TN CE x3 o31 Bh (I 1) h2_0
 else
 bif decide (gA o31 1<wrap .u64 (gA o30 0-gA o31 1))then
 TN CE x3 o31 Bh (I (-1)) h2_0
 else
 TN CE x3 o31 Bh (I 0) h2_0
theorem Qzx (Bh CE Dh F0 BK Cn DJ:Fn) (x0 x1 x2 x3:Int):Sj Bh CE Dh F0 BK Cn DJ [I x0,I x1,I x2,I x3]=
 bif x2==0 then
 some [I 0,B false]
 else
 (DJ [I x3]).bind λo26=>
 bif !bA o26 0 then
 some [I 0,B false]
 else
 (Cn [I x0]).bind λo27=>
 (Cn [I x1]).bind λo28=>
 (BK [U (gA o27 0),U (gA o28 0)]).bind λo29=>
 (Cn [I x2]).bind λo30=>
 bif decide (gA o29 0>=gA o30 0)then
 some [I 0,B false]
 else
 (F0 [U (gA o29 0),U (gA o29 1),U (gA o30 0)]).bind λo31=>
 (Dh [I x0,I x1]).bind λo32=>
 bif !decide (gA o32 0<0)==decide (x2<0)then
 (Dh [I x0,I x1]).bind λo33=>
 Qhb o31 o30 CE x3 Bh (B (gA o33 0 !=0))
 else
 Qhb o31 o30 CE x3 Bh (B false):=by kernel_rfl
def Bz:=Sj Fk Hs Fqs GN Ev Gn FQ
theorem Zrp:Aj PG (Qmg Fk Hs Fqs GN Ev Gn FQ):=Ap rfl ⟨VM,Qw2,Qkg,Q39,R0,Qmz,Y6,trivial⟩
theorem Ls:Al PG (83,Ad Vk Qhr Bz):=rw1 (C:=(Qmg Fk Hs Fqs GN Ev Gn FQ)) Zrp
def Yh:Sk:=⟨[TS.v true [ci,ci,ci],TS.v true [ci,ci,ci],TS.v true [ci,ci,ci]],[],[]⟩
def Q1v (M:Fn):Nat×Spec:=(219,Ad Yh Qn1 M)
def Qbq:Cfg:={cf []with unroll:=[3]}
def Qvx:Fn:=An PG Qbq 64 219 Yh Qn1
theorem Ze6 (x0 x1 x2 x3 x4 x5 x6 x7 x8:Int):Qvx [I x0,I x1,I x2,I x3,I x4,I x5,I x6,I x7,I x8]=
 some [I (wrap .i64 (wrap .i64 (wrap .i64 (0+wrap .i64 (wrap .i64 (wrap .i64 (x0+x6)-wrap .i64 (2*x3))*wrap .i64 (wrap .i64 (x0+x6)-wrap .i64 (2*x3))))+wrap .i64 (wrap .i64 (wrap .i64 (x1+x7)-wrap .i64 (2*x4))*wrap .i64 (wrap .i64 (x1+x7)-wrap .i64 (2*x4))))+wrap .i64 (wrap .i64 (wrap .i64 (x2+x8)-wrap .i64 (2*x5))*wrap .i64 (wrap .i64 (x2+x8)-wrap .i64 (2*x5)))))]:=by kernel_rfl
def GC:=Qvx
theorem Zcu:Aj PG (Qbq):=Ap rfl trivial
theorem Qsz:Al PG (219,Ad Yh Qn1 GC):=rw1 (C:=Qbq) Zcu
def Ze7 (M:Fn):Nat×Spec:=(215,Ad Yh Qn1 M)
def Qbm (CT:Fn):Cfg:=cf [Q1v CT]
def Q7m:Sk:=⟨[td,td,td,tf [CS.ptr 3 0],tf [CS.ptr 4 0],tf [CS.ptr 5 0],td,tf [ci]]++dd 22,[(3,54,[ci,ci,ci]),(4,54,[ci,ci,ci]),(5,54,[ci,ci,ci])],[]⟩
def Q2r:List (Ex×Sk):=[(Ex.exit 0,⟨dd 7++[tf [ci]]++dd 22,[],[]⟩)]
def P8 (CT:Fn):Lp:=A0 PG (Qbm CT) 64 2 (AY PG 215 2) Q7m Q2r
def Qv2 (CT:Fn) (N2:Lp):Cfg:=(Qbm CT).loop 2 Q7m Q2r N2
def Qkn (CT:Fn) (N2:Lp):Fn:=An PG (Qv2 CT N2) 64 215 Yh Qn1
theorem Zql (CT:Fn) (v0 v1 v2 v3 v4 v5 v6 v7 v8 v9:Int):P8 CT [I v0,I v1,I v2,I v3,I v4,I v5,I v6,I v7,I v8,I v9]=
 bif decide (v0<64)then
 (CT [I v1,I v2,I v3,I v4,I v5,I v6,I v7,I v8,I v9]).bind λo2=>
 bif decide (gA o2 0>wrap .i64 (wrap .i64 (wrap .i64 (wrap .i64 (wrap .i64 (wrap .i64 (16*v0)*v0)*v0)*v0)*4)*4))then
 some (0,[I (wrap .i64 (v0*2)),I v1,I v2,I v3,I v4,I v5,I v6,I v7,I v8,I v9])
 else
 some (1,[I v0])
 else
 some (1,[I v0]):=by kernel_rfl
theorem Z47 (CT:Fn) (N2:Lp) (x0 x1 x2 x3 x4 x5 x6 x7 x8:Int):Qkn CT N2 [I x0,I x1,I x2,I x3,I x4,I x5,I x6,I x7,I x8]=
 (N2 [I 2,I x0,I x1,I x2,I x3,I x4,I x5,I x6,I x7,I x8]).bind λo3=>
 bif o3.1.beq 1 then
 some [jA o3.2 0]
 else
 none:=by kernel_rfl
def Qzc:=Am (P8 GC)
def KA:=Qkn GC Qzc
theorem Q5v:Aj PG (Qbm GC):=Ap rfl ⟨Qsz,trivial⟩
theorem Zib:Al PG (215,Ad Yh Qn1 KA):=rw2 (C:=(Qv2 GC Qzc)) (fl fb Q5v) Q5v
def Qcv:Sk:=⟨[TS.v true [CS.int .u64,CS.int .u64],tf [CS.int .u64]],[],[]⟩
def Ql0:Sk:=⟨[TS.tup [(true,[CS.int .u64,CS.int .u64]),(false,[CS.bool])]],[],[]⟩
def Zcj (M:Fn):Nat×Spec:=(224,Ad Qcv Ql0 M)
def ZV (F0:Fn):Cfg:=cf [Qun F0]
def XK (F0:Fn):Fn:=An PG (ZV F0) 64 224 Qcv Ql0
theorem Zfs (F0:Fn) (x0 x1 x2:Int):XK F0 [U x0,U x1,U x2]=
 (F0 [U 0,U x0,U x2]).bind λo2=>
 (F0 [U (gA o2 1),U x1,U x2]).bind λo3=>
 some [U (gA o2 0),U (gA o3 0),B (decide (gA o3 1>0))]:=by kernel_rfl
def Tn:=XK GN
theorem Z24:Aj PG (ZV GN):=Ap rfl ⟨Q39,trivial⟩
theorem Zbv:Al PG (224,Ad Qcv Ql0 Tn):=rw1 (C:=(ZV GN)) Z24
def Qzp (M:Fn):Nat×Spec:=(220,Ad Vk Qhr M)
def Qo5 (Bh CE Dh Gx Oo BK DJ Cn:Fn):Cfg:=cf [Qb9 Bh,Qzr CE,Qgg Dh,Q16 Gx,Zcj Oo,Ul BK,Qgi DJ,Qfo Cn]
def Zg (Bh CE Dh Gx Oo BK DJ Cn:Fn):Fn:=An PG (Qo5 Bh CE Dh Gx Oo BK DJ Cn) 64 220 Vk Qhr
abbrev PX (CE:Fn) (x3:Int) (Bh:Fn) (o42:List AC) (h1_0:Bool) (h1_1 h1_2 h1_3 h1_4:AC):Option (List AC):=
 bif h1_0 then
 (CE [I x3,h1_1,B true,h1_2]).bind λo44=>
 bif bA o44 0 then
 (Bh [U (wrap .u64 (wrap .u64 ((gA o42 0).tdiv 2)+1)),h1_2]).bind λo45=>
 some [jA o45 0,B (bA o45 1)]
 else
 (Bh [U (wrap .u64 ((gA o42 0).tdiv 2)),h1_2]).bind λo46=>
 some [jA o46 0,B (bA o46 1)]
 else
 (CE [I x3,h1_3,h1_4,h1_2]).bind λo47=>
 bif bA o47 0 then
 (Bh [U (wrap .u64 (wrap .u64 ((gA o42 0).tdiv 2)+1)),h1_2]).bind λo48=>
 some [jA o48 0,B (bA o48 1)]
 else
 (Bh [U (wrap .u64 ((gA o42 0).tdiv 2)),h1_2]).bind λo49=>
 some [jA o49 0,B (bA o49 1)]
theorem Zzp (Bh CE Dh Gx Oo BK DJ Cn:Fn) (x0 x1 x2 x3:Int):Zg Bh CE Dh Gx Oo BK DJ Cn [I x0,I x1,I x2,I x3]=
 (Cn [I x0]).bind λo35=>
 bif decide (gA o35 0>2147483648)then
 some [I 0,B false]
 else
 (Cn [I x1]).bind λo36=>
 bif decide (gA o36 0>2147483648)then
 some [I 0,B false]
 else
 bif decide (x2<1)then
 some [I 0,B false]
 else
 bif decide (x2>4611686018427387904)then
 some [I 0,B false]
 else
 (DJ [I x3]).bind λo37=>
 bif !bA o37 0 then
 some [I 0,B false]
 else
 (Cn [I x0]).bind λo38=>
 (Cn [I x1]).bind λo39=>
 (BK [U (wrap .u64 (2*wrap .u64 (gA o38 0*gA o39 0))),U (wrap .u64 (2*wrap .u64 (gA o38 0*gA o39 0)))]).bind λo40=>
 (Oo [U (gA o40 0),U (gA o40 1),U (wrap .u64 x2)]).bind λo41=>
 (Gx [U (gA o41 0),U (gA o41 1)]).bind λo42=>
 bif bA o41 2 then
 (Dh [I x0,I x1]).bind λo43=>
 PX CE x3 Bh o42 ((gA o42 0).tmod 2==1) (I 1) (B (decide (gA o43 0<0))) (I (-1)) (B true)
 else
 (BK [U (gA o42 0),U (gA o42 0)]).bind λo50=>
 (Dh [I x0,I x1]).bind λo51=>
 bif(gA o42 0).tmod 2==1 then
 bif !(gA o50 0==gA o41 0&&(gA o50 1==gA o41 1&&true))then
 PX CE x3 Bh o42 (!(gA o50 0==gA o41 0&&(gA o50 1==gA o41 1&&true))) (I 1) (B (decide (gA o51 0<0))) (I 1) (B ((gA o42 0).tmod 2==1))
 else
 PX CE x3 Bh o42 (!(gA o50 0==gA o41 0&&(gA o50 1==gA o41 1&&true))) (I 0) (B (decide (gA o51 0<0))) (I 0) (B ((gA o42 0).tmod 2==1))
 else
 PX CE x3 Bh o42 (!(gA o50 0==gA o41 0&&(gA o50 1==gA o41 1&&true))) (I (-1)) (B (decide (gA o51 0<0))) (I (-1)) (B ((gA o42 0).tmod 2==1)):=by kernel_rfl
def Ii:=Zg Fk Hs Fqs JM Tn Ev FQ Gn
theorem Z0n:Aj PG (Qo5 Fk Hs Fqs JM Tn Ev FQ Gn):=Ap rfl ⟨VM,Qw2,Qkg,Qwm,Zbv,R0,Y6,Qmz,trivial⟩
theorem Qr5:Al PG (220,Ad Vk Qhr Ii):=rw1 (C:=(Qo5 Fk Hs Fqs JM Tn Ev FQ Gn)) Z0n
def Qfc:Sk:=⟨[TS.v true [ci,ci,ci],TS.v true [ci,ci,ci],tf [ci]],[],[]⟩
def YZ:Sk:=⟨[TS.tup [(true,[ci,ci,ci]),(false,[CS.bool])]],[],[]⟩
def Q8g (M:Fn):Nat×Spec:=(214,Ad Qfc YZ M)
def Qb3 (CA:Fn):Cfg:={cf [Qzp CA]with unroll:=[5,10]}
def XG (CA:Fn):Fn:=An PG (Qb3 CA) 64 214 Qfc YZ
theorem Z46 (CA:Fn) (x0 x1 x2 x3 x4 x5 x6:Int):XG CA [I x0,I x1,I x2,I x3,I x4,I x5,I x6]=
 bif x3==x0&&(x4==x1&&(x5==x2&&true))then
 some [I 0,I 0,I 0,B false]
 else
 bif decide (x6<0)then
 some [I 0,I 0,I 0,B false]
 else
 bif decide (x6>33554432)then
 some [I 0,I 0,I 0,B false]
 else
 (CA [I (wrap .i64 (x3-x0)),I x6,I (wrap .i64 (wrap .i64 (wrap .i64 (0+wrap .i64 (wrap .i64 (x3-x0)*wrap .i64 (x3-x0)))+wrap .i64 (wrap .i64 (x4-x1)*wrap .i64 (x4-x1)))+wrap .i64 (wrap .i64 (x5-x2)*wrap .i64 (x5-x2)))),I 2]).bind λo3=>
 (CA [I (wrap .i64 (x4-x1)),I x6,I (wrap .i64 (wrap .i64 (wrap .i64 (0+wrap .i64 (wrap .i64 (x3-x0)*wrap .i64 (x3-x0)))+wrap .i64 (wrap .i64 (x4-x1)*wrap .i64 (x4-x1)))+wrap .i64 (wrap .i64 (x5-x2)*wrap .i64 (x5-x2)))),I 2]).bind λo4=>
 (CA [I (wrap .i64 (x5-x2)),I x6,I (wrap .i64 (wrap .i64 (wrap .i64 (0+wrap .i64 (wrap .i64 (x3-x0)*wrap .i64 (x3-x0)))+wrap .i64 (wrap .i64 (x4-x1)*wrap .i64 (x4-x1)))+wrap .i64 (wrap .i64 (x5-x2)*wrap .i64 (x5-x2)))),I 2]).bind λo5=>
 some [I (wrap .i64 (x0+gA o3 0)),I (wrap .i64 (x1+gA o4 0)),I (wrap .i64 (x2+gA o5 0)),B true]:=by kernel_rfl
def GH:=XG Ii
theorem Zr6:Aj PG (Qb3 Ii):=Ap rfl ⟨Qr5,trivial⟩
theorem Qzq:Al PG (214,Ad Qfc YZ GH):=rw1 (C:=(Qb3 Ii)) Zr6
def Qh3:Sk:=⟨[TS.v true [ci,ci,ci],TS.v true [ci,ci,ci],TS.v true [ci,ci,ci],tf [ci]],[],[]⟩
def Z33 (M:Fn):Nat×Spec:=(213,Ad Qh3 Qn1 M)
def Qns (CT Cr Dn:Fn):Cfg:=cf [Q1v CT,Q8g Cr,Q00 Dn]
def Q4e:Sk:=⟨[td,td,td,tf [ci],tf [CS.ptr 4 0],tf [CS.ptr 5 0],tf [CS.ptr 6 0],td,td,tf [ci],tf [ci],tf [ci]]++dd 62,[(4,54,[ci,ci,ci]),(5,54,[ci,ci,ci]),(6,54,[ci,ci,ci])],[]⟩
def Qsn:List (Ex×Sk):=[(Ex.exit 0,⟨dd 10++[tf [ci]]++dd 63,[],[]⟩)]
def Nt (CT Cr Dn:Fn):Lp:=A0 PG (Qns CT Cr Dn) 64 6 (AY PG 213 6) Q4e Qsn
def Qsa (CT Cr Dn:Fn) (N6:Lp):Cfg:=(Qns CT Cr Dn).loop 6 Q4e Qsn N6
def Qoh (CT Cr Dn:Fn) (N6:Lp):Fn:=An PG (Qsa CT Cr Dn N6) 64 213 Qh3 Qn1
theorem Qw0 (CT Cr Dn:Fn) (v0 v1 v2 v3 v4 v5 v6 v7 v8 v9 v10 v11 v12:Int):Nt CT Cr Dn [I v0,I v1,I v2,I v3,I v4,I v5,I v6,I v7,I v8,I v9,I v10,I v11,I v12]=
 bif decide (v3>0)then
 bif decide (wrap .i64 (v2+v3)>v1)then
 some (0,[I v0,I v1,I v2,I (v3.fdiv (2^min (Int.toNat 1) IntKind.i64.bits)),I v4,I v5,I v6,I v7,I v8,I v9,I v10,I v11,I v12])
 else
 (Cr [I v7,I v8,I v9,I v4,I v5,I v6,I (wrap .i64 (v2+v3))]).bind λo8=>
 (Cr [I v7,I v8,I v9,I v10,I v11,I v12,I (wrap .i64 (v2+v3))]).bind λo9=>
 (CT [jA o8 0,jA o8 1,jA o8 2,I v7,I v8,I v9,jA o9 0,jA o9 1,jA o9 2]).bind λo10=>
 bif decide (gA o10 0<=wrap .i64 (wrap .i64 (16*v0)*v0))then
 some (0,[I v0,I v1,I (wrap .i64 (v2+v3)),I (v3.fdiv (2^min (Int.toNat 1) IntKind.i64.bits)),I v4,I v5,I v6,I v7,I v8,I v9,I v10,I v11,I v12])
 else
 some (0,[I v0,I v1,I v2,I (v3.fdiv (2^min (Int.toNat 1) IntKind.i64.bits)),I v4,I v5,I v6,I v7,I v8,I v9,I v10,I v11,I v12])
 else
 some (1,[I v2]):=by kernel_rfl
theorem Zxk (CT Cr Dn:Fn) (N6:Lp) (x0 x1 x2 x3 x4 x5 x6 x7 x8 x9:Int):Qoh CT Cr Dn N6 [I x0,I x1,I x2,I x3,I x4,I x5,I x6,I x7,I x8,I x9]=
 bif x0==x3&&(x1==x4&&(x2==x5&&true))then
 some [I 0]
 else
 bif x6==x3&&(x7==x4&&(x8==x5&&true))then
 some [I 0]
 else
 (Dn [I x0,I x1,I x2,I x3,I x4,I x5]).bind λo11=>
 (Dn [I x3,I x4,I x5,I x6,I x7,I x8]).bind λo12=>
 (N6 [I x9,I (wrap .i64 (mn (gA o11 0) (gA o12 0)-2)),I 0,I 16777216,I x0,I x1,I x2,I x3,I x4,I x5,I x6,I x7,I x8]).bind λo13=>
 bif o13.1.beq 1 then
 bif decide (gA o13.2 0<16)then
 some [I 0]
 else
 some [jA o13.2 0]
 else
 none:=by kernel_rfl
def Q3e:=Am (Nt GC GH JB)
def Lc:=Qoh GC GH JB Q3e
theorem Q24:Aj PG (Qns GC GH JB):=Ap rfl ⟨Qsz,Qzq,Qs4,trivial⟩
theorem Zaz:Al PG (213,Ad Qh3 Qn1 Lc):=rw2 (C:=(Qsa GC GH JB Q3e)) (fl fb Q24) Q24
def Qpa:Sk:=⟨[tf [CS.sl kPt]],[],[]⟩
def Zo4 (M:Fn):Nat×Spec:=(208,Ad Qh3 Qpa M)
def W7 (AJ G_ Cr G7:Fn):Cfg:={cf [KW AJ,Ze7 G_,Q8g Cr,Z33 G7]with unroll:=[13]}
def Qzy:Sk:=⟨[td,td,td,td,td,tf [CS.ptr 5 0],td,td,td,td,tf [CS.ptr 10 0],td,tf [CS.ptr 12 0],td,tf [ci],tf [CS.own 50 3]]++dd 36++[tf [ci],tf [ci]]++dd 57,[(5,54,[ci,ci,ci]),(10,54,[ci,ci,ci]),(12,54,[ci,ci,ci])],[(50,54,kPt)]⟩
def Q5m:List (Ex×Sk):=[(Ex.exit 0,⟨dd 15++[tf [CS.own 50 3]]++dd 95,[],[(50,54,kPt)]⟩)]
def NP (AJ G_ Cr G7:Fn):Lp:=A0 PG (W7 AJ G_ Cr G7) 64 9 (AY PG 208 9) Qzy Q5m
def Qzl (AJ G_ Cr G7:Fn) (N9:Lp):Cfg:=(W7 AJ G_ Cr G7).loop 9 Qzy Q5m N9
def WP (AJ G_ Cr G7:Fn) (N9:Lp):Fn:=An PG (Qzl AJ G_ Cr G7 N9) 64 208 Qh3 Qpa
theorem Q46 (AJ G_ Cr G7:Fn) (v0:Rw) (v1 v2 v3 v4 v5 v6 v7 v8 v9 v10 v11 v12:Int):NP AJ G_ Cr G7 [.view kPt v0,I v1,I v2,I v3,I v4,I v5,I v6,I v7,I v8,I v9,I v10,I v11,I v12]=
 bif decide (v3<v2)then
 bif decide (0<=v3)&&decide (v3<(v0.length:Int))then
 (AJ [I (wrap .i64 (wrap .i64 (wrap .i64 (wrap .i64 (v1-v3)*wrap .i64 (v1-v3))*wrap .i64 (v7-v4))+wrap .i64 (wrap .i64 (v3*v3)*wrap .i64 (v10-v4)))),I 1,I (wrap .i64 (v1*v1)),I 2]).bind λo12=>
 bif decide (0<=v3)&&decide (v3<(v0.length:Int))then
 bif decide (0<=v3)&&decide (v3<(v0.length:Int))then
 (AJ [I (wrap .i64 (wrap .i64 (wrap .i64 (wrap .i64 (v1-v3)*wrap .i64 (v1-v3))*wrap .i64 (v8-v5))+wrap .i64 (wrap .i64 (v3*v3)*wrap .i64 (v11-v5)))),I 1,I (wrap .i64 (v1*v1)),I 2]).bind λo13=>
 bif decide (0<=v3)&&decide (v3<(v0.length:Int))then
 bif decide (0<=v3)&&decide (v3<(v0.length:Int))then
 (AJ [I (wrap .i64 (wrap .i64 (wrap .i64 (wrap .i64 (v1-v3)*wrap .i64 (v1-v3))*wrap .i64 (v9-v6))+wrap .i64 (wrap .i64 (v3*v3)*wrap .i64 (v12-v6)))),I 1,I (wrap .i64 (v1*v1)),I 2]).bind λo14=>
 bif decide (0<=v3)&&decide (v3<(v0.length:Int))then
 bif decide (0<=v3)&&decide (v3<(v0.length:Int))then
 some (0,[.view kPt ((((v0.set v3.toNat [I v4,I v5,I v6]).set v3.toNat [I (wrap .i64 (Ag (nth .dead (nth [] (v0.set v3.toNat [I v4,I v5,I v6]) v3.toNat) 0)+gA o12 0)),I (Ag (nth .dead (nth [] (v0.set v3.toNat [I v4,I v5,I v6]) v3.toNat) 1)),I (Ag (nth .dead (nth [] (v0.set v3.toNat [I v4,I v5,I v6]) v3.toNat) 2))]).set v3.toNat [I (Ag (nth .dead (nth [] ((v0.set v3.toNat [I v4,I v5,I v6]).set v3.toNat [I (wrap .i64 (Ag (nth .dead (nth [] (v0.set v3.toNat [I v4,I v5,I v6]) v3.toNat) 0)+gA o12 0)),I (Ag (nth .dead (nth [] (v0.set v3.toNat [I v4,I v5,I v6]) v3.toNat) 1)),I (Ag (nth .dead (nth [] (v0.set v3.toNat [I v4,I v5,I v6]) v3.toNat) 2))]) v3.toNat) 0)),I (wrap .i64 (Ag (nth .dead (nth [] ((v0.set v3.toNat [I v4,I v5,I v6]).set v3.toNat [I (wrap .i64 (Ag (nth .dead (nth [] (v0.set v3.toNat [I v4,I v5,I v6]) v3.toNat) 0)+gA o12 0)),I (Ag (nth .dead (nth [] (v0.set v3.toNat [I v4,I v5,I v6]) v3.toNat) 1)),I (Ag (nth .dead (nth [] (v0.set v3.toNat [I v4,I v5,I v6]) v3.toNat) 2))]) v3.toNat) 1)+gA o13 0)),I (Ag (nth .dead (nth [] ((v0.set v3.toNat [I v4,I v5,I v6]).set v3.toNat [I (wrap .i64 (Ag (nth .dead (nth [] (v0.set v3.toNat [I v4,I v5,I v6]) v3.toNat) 0)+gA o12 0)),I (Ag (nth .dead (nth [] (v0.set v3.toNat [I v4,I v5,I v6]) v3.toNat) 1)),I (Ag (nth .dead (nth [] (v0.set v3.toNat [I v4,I v5,I v6]) v3.toNat) 2))]) v3.toNat) 2))]).set v3.toNat [I (Ag (nth .dead (nth [] (((v0.set v3.toNat [I v4,I v5,I v6]).set v3.toNat [I (wrap .i64 (Ag (nth .dead (nth [] (v0.set v3.toNat [I v4,I v5,I v6]) v3.toNat) 0)+gA o12 0)),I (Ag (nth .dead (nth [] (v0.set v3.toNat [I v4,I v5,I v6]) v3.toNat) 1)),I (Ag (nth .dead (nth [] (v0.set v3.toNat [I v4,I v5,I v6]) v3.toNat) 2))]).set v3.toNat [I (Ag (nth .dead (nth [] ((v0.set v3.toNat [I v4,I v5,I v6]).set v3.toNat [I (wrap .i64 (Ag (nth .dead (nth [] (v0.set v3.toNat [I v4,I v5,I v6]) v3.toNat) 0)+gA o12 0)),I (Ag (nth .dead (nth [] (v0.set v3.toNat [I v4,I v5,I v6]) v3.toNat) 1)),I (Ag (nth .dead (nth [] (v0.set v3.toNat [I v4,I v5,I v6]) v3.toNat) 2))]) v3.toNat) 0)),I (wrap .i64 (Ag (nth .dead (nth [] ((v0.set v3.toNat [I v4,I v5,I v6]).set v3.toNat [I (wrap .i64 (Ag (nth .dead (nth [] (v0.set v3.toNat [I v4,I v5,I v6]) v3.toNat) 0)+gA o12 0)),I (Ag (nth .dead (nth [] (v0.set v3.toNat [I v4,I v5,I v6]) v3.toNat) 1)),I (Ag (nth .dead (nth [] (v0.set v3.toNat [I v4,I v5,I v6]) v3.toNat) 2))]) v3.toNat) 1)+gA o13 0)),I (Ag (nth .dead (nth [] ((v0.set v3.toNat [I v4,I v5,I v6]).set v3.toNat [I (wrap .i64 (Ag (nth .dead (nth [] (v0.set v3.toNat [I v4,I v5,I v6]) v3.toNat) 0)+gA o12 0)),I (Ag (nth .dead (nth [] (v0.set v3.toNat [I v4,I v5,I v6]) v3.toNat) 1)),I (Ag (nth .dead (nth [] (v0.set v3.toNat [I v4,I v5,I v6]) v3.toNat) 2))]) v3.toNat) 2))]) v3.toNat) 0)),I (Ag (nth .dead (nth [] (((v0.set v3.toNat [I v4,I v5,I v6]).set v3.toNat [I (wrap .i64 (Ag (nth .dead (nth [] (v0.set v3.toNat [I v4,I v5,I v6]) v3.toNat) 0)+gA o12 0)),I (Ag (nth .dead (nth [] (v0.set v3.toNat [I v4,I v5,I v6]) v3.toNat) 1)),I (Ag (nth .dead (nth [] (v0.set v3.toNat [I v4,I v5,I v6]) v3.toNat) 2))]).set v3.toNat [I (Ag (nth .dead (nth [] ((v0.set v3.toNat [I v4,I v5,I v6]).set v3.toNat [I (wrap .i64 (Ag (nth .dead (nth [] (v0.set v3.toNat [I v4,I v5,I v6]) v3.toNat) 0)+gA o12 0)),I (Ag (nth .dead (nth [] (v0.set v3.toNat [I v4,I v5,I v6]) v3.toNat) 1)),I (Ag (nth .dead (nth [] (v0.set v3.toNat [I v4,I v5,I v6]) v3.toNat) 2))]) v3.toNat) 0)),I (wrap .i64 (Ag (nth .dead (nth [] ((v0.set v3.toNat [I v4,I v5,I v6]).set v3.toNat [I (wrap .i64 (Ag (nth .dead (nth [] (v0.set v3.toNat [I v4,I v5,I v6]) v3.toNat) 0)+gA o12 0)),I (Ag (nth .dead (nth [] (v0.set v3.toNat [I v4,I v5,I v6]) v3.toNat) 1)),I (Ag (nth .dead (nth [] (v0.set v3.toNat [I v4,I v5,I v6]) v3.toNat) 2))]) v3.toNat) 1)+gA o13 0)),I (Ag (nth .dead (nth [] ((v0.set v3.toNat [I v4,I v5,I v6]).set v3.toNat [I (wrap .i64 (Ag (nth .dead (nth [] (v0.set v3.toNat [I v4,I v5,I v6]) v3.toNat) 0)+gA o12 0)),I (Ag (nth .dead (nth [] (v0.set v3.toNat [I v4,I v5,I v6]) v3.toNat) 1)),I (Ag (nth .dead (nth [] (v0.set v3.toNat [I v4,I v5,I v6]) v3.toNat) 2))]) v3.toNat) 2))]) v3.toNat) 1)),I (wrap .i64 (Ag (nth .dead (nth [] (((v0.set v3.toNat [I v4,I v5,I v6]).set v3.toNat [I (wrap .i64 (Ag (nth .dead (nth [] (v0.set v3.toNat [I v4,I v5,I v6]) v3.toNat) 0)+gA o12 0)),I (Ag (nth .dead (nth [] (v0.set v3.toNat [I v4,I v5,I v6]) v3.toNat) 1)),I (Ag (nth .dead (nth [] (v0.set v3.toNat [I v4,I v5,I v6]) v3.toNat) 2))]).set v3.toNat [I (Ag (nth .dead (nth [] ((v0.set v3.toNat [I v4,I v5,I v6]).set v3.toNat [I (wrap .i64 (Ag (nth .dead (nth [] (v0.set v3.toNat [I v4,I v5,I v6]) v3.toNat) 0)+gA o12 0)),I (Ag (nth .dead (nth [] (v0.set v3.toNat [I v4,I v5,I v6]) v3.toNat) 1)),I (Ag (nth .dead (nth [] (v0.set v3.toNat [I v4,I v5,I v6]) v3.toNat) 2))]) v3.toNat) 0)),I (wrap .i64 (Ag (nth .dead (nth [] ((v0.set v3.toNat [I v4,I v5,I v6]).set v3.toNat [I (wrap .i64 (Ag (nth .dead (nth [] (v0.set v3.toNat [I v4,I v5,I v6]) v3.toNat) 0)+gA o12 0)),I (Ag (nth .dead (nth [] (v0.set v3.toNat [I v4,I v5,I v6]) v3.toNat) 1)),I (Ag (nth .dead (nth [] (v0.set v3.toNat [I v4,I v5,I v6]) v3.toNat) 2))]) v3.toNat) 1)+gA o13 0)),I (Ag (nth .dead (nth [] ((v0.set v3.toNat [I v4,I v5,I v6]).set v3.toNat [I (wrap .i64 (Ag (nth .dead (nth [] (v0.set v3.toNat [I v4,I v5,I v6]) v3.toNat) 0)+gA o12 0)),I (Ag (nth .dead (nth [] (v0.set v3.toNat [I v4,I v5,I v6]) v3.toNat) 1)),I (Ag (nth .dead (nth [] (v0.set v3.toNat [I v4,I v5,I v6]) v3.toNat) 2))]) v3.toNat) 2))]) v3.toNat) 2)+gA o14 0))]),I v1,I v2,I (wrap .i64 (v3+1)),I v4,I v5,I v6,I v7,I v8,I v9,I v10,I v11,I v12])
 else
 none
 else
 none
 else
 none
 else
 none
 else
 none
 else
 none
 else
 none
 else
 some (1,[.view kPt v0]):=by kernel_rfl
theorem Q2w (AJ G_ Cr G7:Fn) (N9:Lp) (x0 x1 x2 x3 x4 x5 x6 x7 x8 x9:Int):WP AJ G_ Cr G7 N9 [I x0,I x1,I x2,I x3,I x4,I x5,I x6,I x7,I x8,I x9]=
 (G7 [I x0,I x1,I x2,I x3,I x4,I x5,I x6,I x7,I x8,I x9]).bind λo15=>
 bif gA o15 0==0 then
 some [.view kPt [[I x3,I x4,I x5]]]
 else
 (Cr [I x3,I x4,I x5,I x0,I x1,I x2,jA o15 0]).bind λo16=>
 (Cr [I x3,I x4,I x5,I x6,I x7,I x8,jA o15 0]).bind λo17=>
 (G_ [jA o16 0,jA o16 1,jA o16 2,I x3,I x4,I x5,jA o17 0,jA o17 1,jA o17 2]).bind λo18=>
 bif decide (wrap .i64 (gA o18 0+1)=wrap .i64 (gA o18 0+1))then
 bif decide (0<=wrap .i64 (gA o18 0+1))&&decide (wrap .i64 (gA o18 0+1)*(↑24:Int)<=140737488355328)then
 (N9 [.view kPt (List.replicate (wrap .i64 (gA o18 0+1)).toNat [I 0,I 0,I 0]),jA o18 0,I (↑(List.replicate (wrap .i64 (gA o18 0+1)).toNat [I 0,I 0,I 0]).length:Int),I 0,I x3,I x4,I x5,jA o16 0,jA o16 1,jA o16 2,jA o17 0,jA o17 1,jA o17 2]).bind λo19=>
 bif o19.1.beq 1 then
 some [.view kPt (wA o19.2 0)]
 else
 none
 else
 none
 else
 none:=by kernel_rfl
def Qvm:=Am (NP Bz KA GH Lc)
def Qh:=WP Bz KA GH Lc Qvm
theorem Qrr:Aj PG (W7 Bz KA GH Lc):=Ap rfl ⟨Ls,Zib,Qzq,Zaz,trivial⟩
theorem Zlb:Al PG (208,Ad Qh3 Qpa Qh):=rw2 (C:=(Qzl Bz KA GH Lc Qvm)) (fl fb Qrr) Qrr
def Z1c (M:Fn):Nat×Spec:=(209,Ad Qh1 Qh1 M)
def Zaf:Fn:=An PG WB 64 209 Qh1 Qh1
theorem Zsl (x0 x1 x2:Int):Zaf [I x0,I x1,I x2]=
 some [I (wrap .i64 (x0*16)),I (wrap .i64 (x1*16)),I (wrap .i64 (x2*16))]:=by kernel_rfl
def Mq:=Zaf
theorem Zpq:Al PG (209,Ad Qh1 Qh1 Mq):=rw1 (C:=WB) Z0p
def Qgk:Sk:=⟨[TS.v true (cc 13++[CS.bool,ci,CS.bool]++cc 5++[CS.bool]),TS.v true (cc 13++[CS.bool,ci,CS.bool]++cc 5++[CS.bool])],[],[]⟩
def YW:Sk:=⟨[TS.tup [(false,[CS.sl kPt]),(false,[CS.sl kPt])]],[],[]⟩
def Zk0 (M:Fn):Nat×Spec:=(194,Ad Qgk YW M)
def Qdp (NG Mr B7:Fn):Cfg:=cf [Zo4 NG,Z1c Mr,Qor B7]
def Qji (NG Mr B7:Fn):Fn:=An PG (Qdp NG Mr B7) 64 194 Qgk YW
theorem Zuu (NG Mr B7:Fn) (x0 x1 x2 x3 x4 x5 x6 x7 x8 x9 x10 x11 x12:Int) (x13:Bool) (x14:Int) (x15:Bool) (x16 x17 x18 x19 x20:Int) (x21:Bool) (x22 x23 x24 x25 x26 x27 x28 x29 x30 x31 x32 x33 x34:Int) (x35:Bool) (x36:Int) (x37:Bool) (x38 x39 x40 x41 x42:Int) (x43:Bool):Qji NG Mr B7 [I x0,I x1,I x2,I x3,I x4,I x5,I x6,I x7,I x8,I x9,I x10,I x11,I x12,B x13,I x14,B x15,I x16,I x17,I x18,I x19,I x20,B x21,I x22,I x23,I x24,I x25,I x26,I x27,I x28,I x29,I x30,I x31,I x32,I x33,I x34,B x35,I x36,B x37,I x38,I x39,I x40,I x41,I x42,B x43]=
 (B7 [I x0,I x1,I x2,I x3,I x4,I x5,I x6,I x7,I x8,I x9,I x10,I x11,I x12,B x13,I x14,B x15,I x16,I x17,I x18,I x19,I x20,B x21]).bind λo4=>
 (Mr [I x5,I x6,I x7]).bind λo5=>
 (B7 [I x22,I x23,I x24,I x25,I x26,I x27,I x28,I x29,I x30,I x31,I x32,I x33,I x34,B x35,I x36,B x37,I x38,I x39,I x40,I x41,I x42,B x43]).bind λo6=>
 (NG [jA o4 0,jA o4 1,jA o4 2,jA o5 0,jA o5 1,jA o5 2,jA o6 0,jA o6 1,jA o6 2,I (wrap .i64 (x18*16))]).bind λo7=>
 bif decide (0<=wrap .i64 (wrap .i64 ((wrap .i64 ((↑(wA o7 0).length:Int)-1)).tdiv 2)+1))&&decide (wrap .i64 (wrap .i64 ((wrap .i64 ((↑(wA o7 0).length:Int)-1)).tdiv 2)+1)<=(↑(wA o7 0).length:Int))then
 bif decide (0<=wrap .i64 ((wrap .i64 ((↑(wA o7 0).length:Int)-1)).tdiv 2))&&decide (wrap .i64 ((wrap .i64 ((↑(wA o7 0).length:Int)-1)).tdiv 2)<=(↑(wA o7 0).length:Int))then
 some [.view kPt (List.take (wrap .i64 (wrap .i64 ((wrap .i64 ((↑(wA o7 0).length:Int)-1)).tdiv 2)+1)).toNat (wA o7 0)), .view kPt (List.drop (wrap .i64 ((wrap .i64 ((↑(wA o7 0).length:Int)-1)).tdiv 2)).toNat (wA o7 0))]
 else
 none
 else
 none:=by kernel_rfl
def Qr:=Qji Qh Mq Gp
theorem Zz0:Aj PG (Qdp Qh Mq Gp):=Ap rfl ⟨Zlb,Zpq,Qbf,trivial⟩
theorem Zlf:Al PG (194,Ad Qgk YW Qr):=rw1 (C:=(Qdp Qh Mq Gp)) Zz0
def VQ:Sk:=⟨[TS.tup [(false,[ci]),(false,[ci]),(false,[ci]),(false,[CS.bool])]],[],[]⟩
def Wx (M:Fn):Nat×Spec:=(188,Ad Qn1 VQ M)
def Qyg:Fn:=An PG WB 64 188 Qn1 VQ
theorem Zld (x0:Int):Qyg [I x0]=
 bif x0==17 then
 some [I 0,I 1,I 2,B true]
 else
 bif x0==18 then
 some [I 2,I 0,I 1,B true]
 else
 bif x0==19 then
 some [I 1,I 2,I 0,B true]
 else
 some [I 0,I 0,I 0,B false]:=by kernel_rfl
def F1:=Qyg
theorem V_:Al PG (188,Ad Qn1 VQ F1):=rw1 (C:=WB) Z0p
def Zgp (M:Fn):Nat×Spec:=(207,Ad Vk Qh1 M)
def U5 (DU:Fn):Cfg:=cf [Wx DU]
def Xc (DU:Fn):Fn:=An PG (U5 DU) 64 207 Vk Qh1
abbrev RR (o1:List AC) (x2:Int) (h2_0 h2_1 h2_2:AC):Option (List AC):=
 bif decide (gA o1 2=(↑0:Int))then
 some [I x2,h2_0,h2_1]
 else
 bif decide (gA o1 2=(↑(0+1):Int))then
 some [h2_2,I x2,h2_1]
 else
 bif decide (gA o1 2=(↑(0+1+1):Int))then
 some [h2_2,h2_0,I x2]
 else
 none
abbrev RO (o1:List AC) (x2 x1:Int) (h1_0 h1_1 h1_2:AC):Option (List AC):=
 bif decide (gA o1 1=(↑0:Int))then
 RR o1 x2 h1_0 h1_1 (I x1)
 else
 bif decide (gA o1 1=(↑(0+1):Int))then
 RR o1 x2 (I x1) h1_1 h1_2
 else
 bif decide (gA o1 1=(↑(0+1+1):Int))then
 RR o1 x2 h1_0 (I x1) h1_2
 else
 none
theorem Zyp (DU:Fn) (x0 x1 x2 x3:Int):Xc DU [I x0,I x1,I x2,I x3]=
 (DU [I x3]).bind λo1=>
 bif bA o1 3 then
 bif decide (gA o1 0=(↑0:Int))then
 RO o1 x2 x1 (I 0) (I 0) (I x0)
 else
 bif decide (gA o1 0=(↑(0+1):Int))then
 RO o1 x2 x1 (I x0) (I 0) (I 0)
 else
 bif decide (gA o1 0=(↑(0+1+1):Int))then
 RO o1 x2 x1 (I 0) (I x0) (I 0)
 else
 none
 else
 some [I 0,I 0,I 0]:=by kernel_rfl
def OM:=Xc F1
theorem Zya:Aj PG (U5 F1):=Ap rfl ⟨V_,trivial⟩
theorem Z12:Al PG (207,Ad Vk Qh1 OM):=rw1 (C:=(U5 F1)) Zya
def VV:Sk:=⟨[TS.v true [ci,ci,ci],tf [ci]],[],[]⟩
def Qfm:Sk:=⟨[TS.tup [(false,[ci]),(false,[ci]),(false,[ci])]],[],[]⟩
def Qtg (M:Fn):Nat×Spec:=(203,Ad VV Qfm M)
def Qpu (DU:Fn):Cfg:=cf [Wx DU]
def Qcp (DU:Fn):Fn:=An PG (Qpu DU) 64 203 VV Qfm
abbrev Uc (o1:List AC) (h1_0:AC) (x0 x1 x2:Int) (h2_0:AC):Option (List AC):=
 bif decide (gA o1 2=(↑0:Int))then
 some [h1_0,h2_0,I x0]
 else
 bif decide (gA o1 2=(↑(0+1):Int))then
 some [h1_0,h2_0,I x1]
 else
 bif decide (gA o1 2=(↑(0+1+1):Int))then
 some [h1_0,h2_0,I x2]
 else
 none
abbrev Q5 (o1:List AC) (x0 x1 x2:Int) (h1_0:AC):Option (List AC):=
 bif decide (gA o1 1=(↑0:Int))then
 Uc o1 h1_0 x0 x1 x2 (I x0)
 else
 bif decide (gA o1 1=(↑(0+1):Int))then
 Uc o1 h1_0 x0 x1 x2 (I x1)
 else
 bif decide (gA o1 1=(↑(0+1+1):Int))then
 Uc o1 h1_0 x0 x1 x2 (I x2)
 else
 none
theorem Zyu (DU:Fn) (x0 x1 x2 x3:Int):Qcp DU [I x0,I x1,I x2,I x3]=
 (DU [I x3]).bind λo1=>
 bif !bA o1 3 then
 some [I 0,I 0,I 0]
 else
 bif decide (gA o1 0=(↑0:Int))then
 Q5 o1 x0 x1 x2 (I x0)
 else
 bif decide (gA o1 0=(↑(0+1):Int))then
 Q5 o1 x0 x1 x2 (I x1)
 else
 bif decide (gA o1 0=(↑(0+1+1):Int))then
 Q5 o1 x0 x1 x2 (I x2)
 else
 none:=by kernel_rfl
def Iw:=Qcp F1
theorem Zkh:Aj PG (Qpu F1):=Ap rfl ⟨V_,trivial⟩
theorem Qum:Al PG (203,Ad VV Qfm Iw):=rw1 (C:=(Qpu F1)) Zkh
def Qyi (M:Fn):Nat×Spec:=(204,Ad Qh1 Qh1 M)
def Qwo:Fn:=An PG WB 64 204 Qh1 Qh1
theorem Zoi (x0 x1 x2:Int):Qwo [I x0,I x1,I x2]=
 some [I (wrap .i64 (x0*16)),I (wrap .i64 (x1*16)),I (wrap .i64 (x2*16))]:=by kernel_rfl
def HF:=Qwo
theorem Qss:Al PG (204,Ad Qh1 Qh1 HF):=rw1 (C:=WB) Z0p
def Qcu:Sk:=⟨[TS.v true [ci,ci,ci,ci],TS.v true [ci,ci,ci,ci]],[],[]⟩
def Qh8 (M:Fn):Nat×Spec:=(192,Ad Qcu Qn1 M)
def Qqp:Fn:=An PG WB 64 192 Qcu Qn1
theorem Znz (x0 x1 x2 x3 x4 x5 x6 x7:Int):Qqp [I x0,I x1,I x2,I x3,I x4,I x5,I x6,I x7]=
 some [I (wrap .i64 (wrap .i64 (x0*x5)-wrap .i64 (x1*x4)))]:=by kernel_rfl
def G1:=Qqp
theorem Qni:Al PG (192,Ad Qcu Qn1 G1):=rw1 (C:=WB) Z0p
def Qll (M:Fn):Nat×Spec:=(190,Ad Qcu Qn1 M)
def Qsh:Fn:=An PG WB 64 190 Qcu Qn1
theorem Zt2 (x0 x1 x2 x3 x4 x5 x6 x7:Int):Qsh [I x0,I x1,I x2,I x3,I x4,I x5,I x6,I x7]=
 some [I (wrap .i64 (wrap .i64 (x0*x4)+wrap .i64 (x1*x5)))]:=by kernel_rfl
def Hi:=Qsh
theorem Zt:Al PG (190,Ad Qcu Qn1 Hi):=rw1 (C:=WB) Z0p
def Qo1:Sk:=⟨[TS.v true [ci,ci,ci,ci],TS.v true [ci,ci,ci,ci],tf [ci],tf [CS.bool]],[],[]⟩
def Qep:Sk:=⟨[TS.tup [(true,[ci,ci,ci,ci]),(false,[CS.bool])]],[],[]⟩
def Zl3 (M:Fn):Nat×Spec:=(218,Ad Qo1 Qep M)
def Qgs (CA CK Cg:Fn):Cfg:=cf [Qzp CA,Qh8 CK,Qll Cg]
def Qer (CA CK Cg:Fn):Fn:=An PG (Qgs CA CK Cg) 64 218 Qo1 Qep
abbrev Qjw (CA:Fn) (h1_2:AC) (x2 x6:Int) (h1_3 h1_4:AC) (x3 x7:Int):Option (List AC):=
 (CA [h1_2,I ((wrap .i64 (wrap .i64 (x2+x6)+1)).fdiv (2^min (Int.toNat 1) IntKind.i64.bits)),h1_3,I 2]).bind λo36=>
 (CA [h1_4,I ((wrap .i64 (wrap .i64 (x2+x6)+1)).fdiv (2^min (Int.toNat 1) IntKind.i64.bits)),h1_3,I 2]).bind λo37=>
 some [jA o36 0,jA o37 0,I ((wrap .i64 (wrap .i64 (x2+x6)+1)).fdiv (2^min (Int.toNat 1) IntKind.i64.bits)),I ((wrap .i64 (wrap .i64 (x3+x7)+1)).fdiv (2^min (Int.toNat 1) IntKind.i64.bits)),B true]
abbrev P0 (CA:Fn) (x2 x6 x3 x7:Int) (h1_0 h1_1:Bool) (h1_2 h1_3 h1_4:AC):Option (List AC):=
 bif h1_0 then
 bif h1_1 then
 some [I 0,I 0,I 0,I 0,B false]
 else
 Qjw CA h1_2 x2 x6 h1_3 h1_4 x3 x7
 else
 Qjw CA h1_2 x2 x6 h1_3 h1_4 x3 x7
abbrev Qev (x9:Bool) (CA:Fn) (x2 x6 x3 x7 x0 x1:Int) (Cg:Fn) (x4 x5 x8:Int) (CK:Fn):Option (List AC):=
 bif x9 then
 P0 CA x2 x6 x3 x7 (wrap .i64 (0-x0)==0) (wrap .i64 (0-x1)==0) (I (wrap .i64 (0-x0))) (I (wrap .i64 (wrap .i64 (wrap .i64 (0-x0)*wrap .i64 (0-x0))+wrap .i64 (wrap .i64 (0-x1)*wrap .i64 (0-x1))))) (I (wrap .i64 (0-x1)))
 else
 (Cg [I x0,I x1,I x2,I x3,I x4,I x5,I x6,I x7]).bind λo40=>
 bif decide (gA o40 0<=0)then
 P0 CA x2 x6 x3 x7 (wrap .i64 (x8*wrap .i64 (x5-x1))==0) (wrap .i64 (x8*wrap .i64 (x0-x4))==0) (I (wrap .i64 (x8*wrap .i64 (x5-x1)))) (I (wrap .i64 (wrap .i64 (wrap .i64 (x8*wrap .i64 (x5-x1))*wrap .i64 (x8*wrap .i64 (x5-x1)))+wrap .i64 (wrap .i64 (x8*wrap .i64 (x0-x4))*wrap .i64 (x8*wrap .i64 (x0-x4)))))) (I (wrap .i64 (x8*wrap .i64 (x0-x4))))
 else
 (CK [I x0,I x1,I x2,I x3,I x4,I x5,I x6,I x7]).bind λo45=>
 bif decide (wrap .i64 (gA o45 0*x8)<=0)then
 P0 CA x2 x6 x3 x7 (wrap .i64 (0-wrap .i64 (x0+x4))==0) (wrap .i64 (0-wrap .i64 (x1+x5))==0) (I (wrap .i64 (0-wrap .i64 (x0+x4)))) (I (wrap .i64 (wrap .i64 (wrap .i64 (0-wrap .i64 (x0+x4))*wrap .i64 (0-wrap .i64 (x0+x4)))+wrap .i64 (wrap .i64 (0-wrap .i64 (x1+x5))*wrap .i64 (0-wrap .i64 (x1+x5)))))) (I (wrap .i64 (0-wrap .i64 (x1+x5))))
 else
 P0 CA x2 x6 x3 x7 (wrap .i64 (x0+x4)==0) (wrap .i64 (x1+x5)==0) (I (wrap .i64 (x0+x4))) (I (wrap .i64 (wrap .i64 (wrap .i64 (x0+x4)*wrap .i64 (x0+x4))+wrap .i64 (wrap .i64 (x1+x5)*wrap .i64 (x1+x5))))) (I (wrap .i64 (x1+x5)))
theorem Zun (CA CK Cg:Fn) (x0 x1 x2 x3 x4 x5 x6 x7 x8:Int) (x9:Bool):Qer CA CK Cg [I x0,I x1,I x2,I x3,I x4,I x5,I x6,I x7,I x8,B x9]=
 bif x8 !=1 then
 bif x8 != -1 then
 some [I 0,I 0,I 0,I 0,B false]
 else
 Qev x9 CA x2 x6 x3 x7 x0 x1 Cg x4 x5 x8 CK
 else
 Qev x9 CA x2 x6 x3 x7 x0 x1 Cg x4 x5 x8 CK:=by kernel_rfl
def LF:=Qer Ii G1 Hi
theorem Z1x:Aj PG (Qgs Ii G1 Hi):=Ap rfl ⟨Qr5,Qni,Zt,trivial⟩
theorem Zqd:Al PG (218,Ad Qo1 Qep LF):=rw1 (C:=(Qgs Ii G1 Hi)) Z1x
def Zlv (M:Fn):Nat×Spec:=(223,Ad Y7 Qnv M)
def Qzt:Fn:=An PG WB 64 223 Y7 Qnv
theorem Zij (x0 x1:Int):Qzt [I x0,I x1]=
 some [B (decide (x1<=wrap .i64 (wrap .i64 (wrap .i64 (8*x0)*4)-64)))]:=by kernel_rfl
def Ns:=Qzt
theorem Zkb:Al PG (223,Ad Y7 Qnv Ns):=rw1 (C:=WB) Z0p
def Qgw:Sk:=⟨[tf [CS.ptr 20000 0],TS.v true [ci,ci,ci,ci],TS.v true [ci,ci,ci,ci],tf [CS.bool]],[(20000,254,[ci,CS.own 20000 4])],[(20000,231,[kI,kI,kI,kI])]⟩
def V9:Sk:=⟨[tf [CS.bool]],[(20000,254,[ci,CS.own 20000 4])],[(20000,231,[kI,kI,kI,kI])]⟩
def Zej (M:Fn):Nat×Spec:=(217,Ad Qgw V9 M)
def Qmi (OL CK:Fn):Cfg:=cf [Zlv OL,Qh8 CK]
def Qda (OL CK:Fn):Fn:=An PG (Qmi OL CK) 64 217 Qgw V9
theorem Zyd (OL CK:Fn) (x0:Rw) (x1 x2 x3 x4 x5 x6 x7 x8:Int) (x9:Bool) (x10:Int):Qda OL CK [.view [kI,kI,kI,kI] x0,I x1,I x2,I x3,I x4,I x5,I x6,I x7,I x8,B x9,I x10]=
 bif !x9 then
 (CK [I x1,I x2,I x3,I x4,I x5,I x6,I x7,I x8]).bind λo2=>
 bif decide (wrap .i64 (gA o2 0*x10)>0)then
 (OL [I (mn x3 x7),I (wrap .i64 (wrap .i64 (wrap .i64 (x1-x5)*wrap .i64 (x1-x5))+wrap .i64 (wrap .i64 (x2-x6)*wrap .i64 (x2-x6))))]).bind λo3=>
 some [.view [kI,kI,kI,kI] x0,B (bA o3 0),I x10]
 else
 some [.view [kI,kI,kI,kI] x0,B false,I x10]
 else
 some [.view [kI,kI,kI,kI] x0,B false,I x10]:=by kernel_rfl
def Ll:=Qda Ns G1
theorem Z5v:Aj PG (Qmi Ns G1):=Ap rfl ⟨Zkb,Qni,trivial⟩
theorem Zvc:Al PG (217,Ad Qgw V9 Ll):=rw1 (C:=(Qmi Ns G1)) Z5v
def Q85:Nat:=20
def Ma:Sk:=⟨[tf [CS.ptr 20000 0],TS.v true [ci,ci,ci,ci],TS.v true [ci,ci,ci,ci],tf [CS.bool],tf [ci]],[(20000,254,[ci,CS.own 20000 4])],[(20000,231,[kI,kI,kI,kI])]⟩
def LD:Sk:=⟨[TS.tup []],[(20000,254,[ci,CS.own 20000 4])],[(20000,231,[kI,kI,kI,kI])]⟩
def Qzv (M:Fn):Nat×Spec:=(212,Ad Ma LD M)
def Qow (FN Np OW:Fn):Cfg:=cp [Qzv FN,Zl3 Np,Zej OW] [212,217]
def Tg (FN Np OW:Fn):Fn:=An PG (Qow FN Np OW) 64 212 Ma LD
theorem Q22 (FN Np OW:Fn) (x0:Rw) (x1 x2 x3 x4 x5 x6 x7 x8:Int) (x9:Bool) (x10 x11:Int):Tg FN Np OW [.view [kI,kI,kI,kI] x0,I x1,I x2,I x3,I x4,I x5,I x6,I x7,I x8,B x9,I x10,I x11]=
 bif decide (x10<16)then
 (OW [.view [kI,kI,kI,kI] x0,I x1,I x2,I x3,I x4,I x5,I x6,I x7,I x8,B x9,I x11]).bind λo4=>
 bif !bA o4 1 then
 (Np [I x1,I x2,I x3,I x4,I x5,I x6,I x7,I x8,jA o4 2,B x9]).bind λo5=>
 bif bA o5 4 then
 (FN [.view [kI,kI,kI,kI] (wA o4 0),I x1,I x2,I x3,I x4,jA o5 0,jA o5 1,jA o5 2,jA o5 3,B false,I (wrap .i64 (x10+1)),jA o4 2]).bind λo6=>
 (FN [.view [kI,kI,kI,kI] (wA o6 0),jA o5 0,jA o5 1,jA o5 2,jA o5 3,I x5,I x6,I x7,I x8,B false,I (wrap .i64 (x10+1)),jA o6 1]).bind λo7=>
 some [.view [kI,kI,kI,kI] (wA o7 0),jA o7 1]
 else
 bif((wA o4 0++[[I x5,I x6,I x7,I x8]]).length*32).ble 140737488355328 then
 some [.view [kI,kI,kI,kI] (wA o4 0++[[I x5,I x6,I x7,I x8]]),jA o4 2]
 else
 none
 else
 bif((wA o4 0++[[I x5,I x6,I x7,I x8]]).length*32).ble 140737488355328 then
 some [.view [kI,kI,kI,kI] (wA o4 0++[[I x5,I x6,I x7,I x8]]),jA o4 2]
 else
 none
 else
 bif((x0++[[I x5,I x6,I x7,I x8]]).length*32).ble 140737488355328 then
 some [.view [kI,kI,kI,kI] (x0++[[I x5,I x6,I x7,I x8]]),I x11]
 else
 none:=by kernel_rfl
def Qwh (M:Fn):Fn:=Tg M LF Ll
def Oa:Nat->Fn
 |0=>λ_=>none
 |n+1=>Qwh (Oa n)
theorem Zed {M:Fn} (h:Al PG (212,Ad Ma LD M)):Aj PG (Qow M LF Ll):=Ap rfl ⟨h,Zqd,Zvc,trivial⟩
theorem Znb {M:Fn} (h:Al PG (212,Ad Ma LD M)):Al PG (212,Ad Ma LD (Qwh M)):=Qko (C:=(Qow M LF Ll)) (L:=64) (by kernel_rfl) (FnOK.bare rfl rfl rfl) (Zed h) eqOk HT (by kernel_rfl) (by kernel_rfl)
theorem Qqt:∀n,Al PG (212,Ad Ma LD (Oa n))
 |0=>Pu
 |n+1=>Znb (Qqt n)
def TM:=Oa Q85
theorem Zpp:Al PG (212,Ad Ma LD TM):=Qqt Q85
def XW:Sk:=⟨[TS.tup [(true,[ci,ci,ci,ci]),(true,[ci,ci,ci,ci])]],[],[]⟩
def Qt3 (M:Fn):Nat×Spec:=(189,Ad Qas XW M)
def X7 (Cj B0:Fn):Cfg:=cf [Qtg Cj,Qyi B0]
def Q3l:Sk:=⟨[td,tf [CS.ptr 1 0],tf [CS.ptr 2 0],tf [CS.ptr 3 0],tf [CS.ptr 4 0],tf [ci],tf [ci]]++dd 20++[TS.v true (cc 6),tf [ci]]++dd 27,[(1,74,cc 13++[CS.bool,ci,CS.bool]++cc 5++[CS.bool]),(2,231,[ci,ci,ci,ci]),(3,231,[ci,ci,ci,ci]),(4,242,cc 8)],[]⟩
def Q0j:List (Ex×Sk):=[(Ex.exit 0,⟨[td,td,tf [CS.ptr 2 0],tf [CS.ptr 3 0],tf [CS.ptr 4 0]]++dd 51,[(2,231,[ci,ci,ci,ci]),(3,231,[ci,ci,ci,ci]),(4,242,cc 8)],[]⟩)]
def Qmt (Cj B0:Fn):Lp:=A0 PG (X7 Cj B0) 64 4 (AY PG 189 4) Q3l Q0j
def Qrd (Cj B0:Fn) (N4:Lp):Cfg:=(X7 Cj B0).loop 4 Q3l Q0j N4
def Qfv (Cj B0:Fn) (N4:Lp):Fn:=An PG (Qrd Cj B0 N4) 64 189 Qas XW
abbrev Qa7 (B0 Cj:Fn) (v17 v8 v0 v1 v2 v3 v4 v5 v6 v7 v9 v10 v11 v12 v13 v14 v15 v16 v18 v19 v20 v21:Int) (v22:Bool) (v23:Int) (v24:Bool) (v25 v26 v27 v28 v29:Int) (v30:Bool) (v31 v32 v33 v34 v35 v36 v37 v38 v43 v44 v45 v46 v39 v40 v41 v42:Int) (h1_0 h1_1 h1_2:AC):Option (Nat×List AC):=
 (B0 [h1_0,h1_1,h1_2]).bind λo9=>
 (Cj [jA o9 0,jA o9 1,jA o9 2,I v17]).bind λo10=>
 bif decide (v8=(↑0:Int))then
 some (0,[I v0,I v1,I v2,I v3,I v4,I v5,I v6,I v7,I (wrap .i64 (v8+1)),I v9,I v10,I v11,I v12,I v13,I v14,I v15,I v16,I v17,I v18,I v19,I v20,I v21,B v22,I v23,B v24,I v25,I v26,I v27,I v28,I v29,B v30,I v31,I v32,I v33,I v34,I v35,I v36,I v37,I v38,I (wrap .i64 (gA o10 0-v0)),I (wrap .i64 (gA o10 1-v1)),I 0,jA o10 2,I v43,I v44,I v45,I v46])
 else
 bif decide (v8=(↑(0+1):Int))then
 some (0,[I v0,I v1,I v2,I v3,I v4,I v5,I v6,I v7,I (wrap .i64 (v8+1)),I v9,I v10,I v11,I v12,I v13,I v14,I v15,I v16,I v17,I v18,I v19,I v20,I v21,B v22,I v23,B v24,I v25,I v26,I v27,I v28,I v29,B v30,I v31,I v32,I v33,I v34,I v35,I v36,I v37,I v38,I v39,I v40,I v41,I v42,I (wrap .i64 (gA o10 0-v0)),I (wrap .i64 (gA o10 1-v1)),I 0,jA o10 2])
 else
 none
theorem Qmn (Cj B0:Fn) (v0 v1 v2 v3 v4 v5 v6 v7 v8 v9 v10 v11 v12 v13 v14 v15 v16 v17 v18 v19 v20 v21:Int) (v22:Bool) (v23:Int) (v24:Bool) (v25 v26 v27 v28 v29:Int) (v30:Bool) (v31 v32 v33 v34 v35 v36 v37 v38 v39 v40 v41 v42 v43 v44 v45 v46:Int):Qmt Cj B0 [I v0,I v1,I v2,I v3,I v4,I v5,I v6,I v7,I v8,I v9,I v10,I v11,I v12,I v13,I v14,I v15,I v16,I v17,I v18,I v19,I v20,I v21,B v22,I v23,B v24,I v25,I v26,I v27,I v28,I v29,B v30,I v31,I v32,I v33,I v34,I v35,I v36,I v37,I v38,I v39,I v40,I v41,I v42,I v43,I v44,I v45,I v46]=
 bif decide (v8<2)then
 bif decide (v8=(↑0:Int))then
 Qa7 B0 Cj v17 v8 v0 v1 v2 v3 v4 v5 v6 v7 v9 v10 v11 v12 v13 v14 v15 v16 v18 v19 v20 v21 v22 v23 v24 v25 v26 v27 v28 v29 v30 v31 v32 v33 v34 v35 v36 v37 v38 v43 v44 v45 v46 v39 v40 v41 v42 (I v2) (I v3) (I v4)
 else
 bif decide (v8=(↑(0+1):Int))then
 Qa7 B0 Cj v17 v8 v0 v1 v2 v3 v4 v5 v6 v7 v9 v10 v11 v12 v13 v14 v15 v16 v18 v19 v20 v21 v22 v23 v24 v25 v26 v27 v28 v29 v30 v31 v32 v33 v34 v35 v36 v37 v38 v43 v44 v45 v46 v39 v40 v41 v42 (I v5) (I v6) (I v7)
 else
 none
 else
 some (1,[I v31,I v32,I v33,I v34,I v35,I v36,I v37,I v38,I v39,I v40,I v41,I v42,I v43,I v44,I v45,I v46]):=by kernel_rfl
theorem Zdw (Cj B0:Fn) (N4:Lp) (x0 x1 x2 x3 x4 x5 x6 x7 x8 x9 x10 x11 x12:Int) (x13:Bool) (x14:Int) (x15:Bool) (x16 x17 x18 x19 x20:Int) (x21:Bool):Qfv Cj B0 N4 [I x0,I x1,I x2,I x3,I x4,I x5,I x6,I x7,I x8,I x9,I x10,I x11,I x12,B x13,I x14,B x15,I x16,I x17,I x18,I x19,I x20,B x21]=
 (B0 [I x9,I x10,I x11]).bind λo13=>
 (Cj [jA o13 0,jA o13 1,jA o13 2,I x8]).bind λo14=>
 (N4 [jA o14 0,jA o14 1,I x2,I x3,I x4,I x5,I x6,I x7,I 0,I x0,I x1,I x2,I x3,I x4,I x5,I x6,I x7,I x8,I x9,I x10,I x11,I x12,B x13,I x14,B x15,I x16,I x17,I x18,I x19,I x20,B x21,I 0,I 0,I 0,I 0,I 0,I 0,I 0,I 0,I 0,I 0,I 0,I 0,I 0,I 0,I 0,I 0]).bind λo15=>
 bif o15.1.beq 1 then
 some [jA o15.2 8,jA o15.2 9,jA o15.2 10,jA o15.2 11,jA o15.2 12,jA o15.2 13,jA o15.2 14,jA o15.2 15]
 else
 none:=by kernel_rfl
def Q2x:=Am (Qmt Iw HF)
def J5:=Qfv Iw HF Q2x
theorem Q8s:Aj PG (X7 Iw HF):=Ap rfl ⟨Qum,Qss,trivial⟩
theorem Q52:Al PG (189,Ad Qas XW J5):=rw2 (C:=(Qrd Iw HF Q2x)) (fl fb Q8s) Q8s
def Z4f (M:Fn):Nat×Spec:=(205,Ad Vk Qn1 M)
def Qeh (Ed BK Cn Dh:Fn):Cfg:=cf [Qxw Ed,Ul BK,Qfo Cn,Qgg Dh]
def Qoi (Ed BK Cn Dh:Fn):Fn:=An PG (Qeh Ed BK Cn Dh) 64 205 Vk Qn1
theorem Zlq (Ed BK Cn Dh:Fn) (x0 x1 x2 x3:Int):Qoi Ed BK Cn Dh [I x0,I x1,I x2,I x3]=
 (Dh [I x0,I x1]).bind λo9=>
 (Dh [I x2,I x3]).bind λo10=>
 bif gA o9 0 !=gA o10 0 then
 bif decide (gA o9 0<gA o10 0)then
 some [I (-1)]
 else
 some [I 1]
 else
 (Cn [I x0]).bind λo11=>
 (Cn [I x1]).bind λo12=>
 (BK [U (gA o11 0),U (gA o12 0)]).bind λo13=>
 (Cn [I x2]).bind λo14=>
 (Cn [I x3]).bind λo15=>
 (BK [U (gA o14 0),U (gA o15 0)]).bind λo16=>
 (Ed [U (gA o13 0),U (gA o13 1),U (gA o16 0),U (gA o16 1)]).bind λo17=>
 some [I (wrap .i64 (gA o9 0*gA o17 0))]:=by kernel_rfl
def N0:=Qoi Io Ev Gn Fqs
theorem Z49:Aj PG (Qeh Io Ev Gn Fqs):=Ap rfl ⟨Qrn,R0,Qmz,Qkg,trivial⟩
theorem Zga:Al PG (205,Ad Vk Qn1 N0):=rw1 (C:=(Qeh Io Ev Gn Fqs)) Z49
def Zmo (M:Fn):Nat×Spec:=(191,Ad Y7 Qnv M)
def Qc0 (Nh:Fn):Cfg:=cf [Z4f Nh]
def Xk (Nh:Fn):Fn:=An PG (Qc0 Nh) 64 191 Y7 Qnv
theorem Zd3 (Nh:Fn) (x0 x1:Int):Xk Nh [I x0,I x1]=
 bif decide (wrap .i64 (wrap .i64 (mx x0 x1-mn x0 x1)-16)<=0)then
 some [B true]
 else
 (Nh [I (wrap .i64 (wrap .i64 (mx x0 x1-mn x0 x1)-16)),I (wrap .i64 (wrap .i64 (mx x0 x1-mn x0 x1)-16)),I 64,I (mn x0 x1)]).bind λo1=>
 some [B (decide (gA o1 0<=0))]:=by kernel_rfl
def Qi:=Xk N0
theorem Zp7:Aj PG (Qc0 N0):=Ap rfl ⟨Zga,trivial⟩
theorem Zdg:Al PG (191,Ad Y7 Qnv Qi):=rw1 (C:=(Qc0 N0)) Zp7
def Ztn (M:Fn):Nat×Spec:=(187,Ad Qh1 Qnv M)
def Qkd:Cfg:={cf []with unroll:=[2]}
def Qqq:Fn:=An PG Qkd 64 187 Qh1 Qnv
theorem Zgc (x0 x1 x2:Int):Qqq [I x0,I x1,I x2]=
 bif decide (x0< -1048576)then
 some [B false]
 else
 bif decide (x0>1048576)then
 some [B false]
 else
 bif decide (x1< -1048576)then
 some [B false]
 else
 bif decide (x1>1048576)then
 some [B false]
 else
 bif decide (x2< -1048576)then
 some [B false]
 else
 bif decide (x2>1048576)then
 some [B false]
 else
 some [B true]:=by kernel_rfl
def Nb:=Qqq
theorem Zft:Aj PG (Qkd):=Ap rfl trivial
theorem Z4z:Al PG (187,Ad Qh1 Qnv Nb):=rw1 (C:=Qkd) Zft
def Qb0 (M:Fn):Nat×Spec:=(167,Ad Qas Qnv M)
def Qbn (CK IN Cg E4 DU Hv:Fn):Cfg:=cf [Qh8 CK,Zmo IN,Qll Cg,Qt3 E4,Wx DU,Ztn Hv]
def Qdr (CK IN Cg E4 DU Hv:Fn):Fn:=An PG (Qbn CK IN Cg E4 DU Hv) 64 167 Qas Qnv
abbrev Qe7 (Hv:Fn) (x9 x10 x11:Int) (E4:Fn) (x0 x1 x2 x3 x4 x5 x6 x7 x8 x12:Int) (x13:Bool) (x14:Int) (x15:Bool) (x16 x17 x18 x19 x20:Int) (x21:Bool) (Cg IN CK:Fn):Option (List AC):=
 (Hv [I x9,I x10,I x11]).bind λo20=>
 bif !bA o20 0 then
 some [B false]
 else
 (E4 [I x0,I x1,I x2,I x3,I x4,I x5,I x6,I x7,I x8,I x9,I x10,I x11,I x12,B x13,I x14,B x15,I x16,I x17,I x18,I x19,I x20,B x21]).bind λo21=>
 (Cg [jA o21 0,jA o21 1,jA o21 2,jA o21 3,jA o21 0,jA o21 1,jA o21 2,jA o21 3]).bind λo22=>
 (Cg [jA o21 4,jA o21 5,jA o21 6,jA o21 7,jA o21 4,jA o21 5,jA o21 6,jA o21 7]).bind λo23=>
 bif decide (gA o22 0<wrap .i64 (128*128))then
 some [B false]
 else
 bif decide (gA o23 0<wrap .i64 (128*128))then
 some [B false]
 else
 (IN [I (wrap .i64 ((gA o22 0).tdiv 256)),I (wrap .i64 ((gA o23 0).tdiv 256))]).bind λo24=>
 bif !bA o24 0 then
 some [B false]
 else
 bif x13 then
 bif gA o21 0==gA o21 4 then
 some [B (gA o21 1==gA o21 5)]
 else
 some [B false]
 else
 (CK [jA o21 0,jA o21 1,jA o21 2,jA o21 3,jA o21 4,jA o21 5,jA o21 6,jA o21 7]).bind λo25=>
 bif gA o25 0 !=0 then
 some [B true]
 else
 (Cg [jA o21 0,jA o21 1,jA o21 2,jA o21 3,jA o21 4,jA o21 5,jA o21 6,jA o21 7]).bind λo26=>
 some [B (decide (gA o26 0<0))]
theorem Zmv (CK IN Cg E4 DU Hv:Fn) (x0 x1 x2 x3 x4 x5 x6 x7 x8 x9 x10 x11 x12:Int) (x13:Bool) (x14:Int) (x15:Bool) (x16 x17 x18 x19 x20:Int) (x21:Bool):Qdr CK IN Cg E4 DU Hv [I x0,I x1,I x2,I x3,I x4,I x5,I x6,I x7,I x8,I x9,I x10,I x11,I x12,B x13,I x14,B x15,I x16,I x17,I x18,I x19,I x20,B x21]=
 bif decide (x0<1)then
 some [B false]
 else
 bif decide (x0>6)then
 some [B false]
 else
 (Hv [I x2,I x3,I x4]).bind λo17=>
 bif !bA o17 0 then
 some [B false]
 else
 (Hv [I x5,I x6,I x7]).bind λo18=>
 bif !bA o18 0 then
 some [B false]
 else
 bif x0 !=3 then
 some [B true]
 else
 (DU [I x8]).bind λo19=>
 bif !bA o19 3 then
 some [B false]
 else
 bif x12 !=1 then
 bif x12 != -1 then
 some [B false]
 else
 Qe7 Hv x9 x10 x11 E4 x0 x1 x2 x3 x4 x5 x6 x7 x8 x12 x13 x14 x15 x16 x17 x18 x19 x20 x21 Cg IN CK
 else
 Qe7 Hv x9 x10 x11 E4 x0 x1 x2 x3 x4 x5 x6 x7 x8 x12 x13 x14 x15 x16 x17 x18 x19 x20 x21 Cg IN CK:=by kernel_rfl
def G8:=Qdr G1 Qi Hi J5 F1 Nb
theorem Zrg:Aj PG (Qbn G1 Qi Hi J5 F1 Nb):=Ap rfl ⟨Qni,Zdg,Zt,Q52,V_,Z4z,trivial⟩
theorem Qh9:Al PG (167,Ad Qas Qnv G8):=rw1 (C:=(Qbn G1 Qi Hi J5 F1 Nb)) Zrg
def Qd1:Sk:=⟨[TS.tup [(false,[CS.sl [kI,kI,kI,kI]]),(false,[CS.bool])]],[],[]⟩
def Znx (M:Fn):Nat×Spec:=(206,Ad Qas Qd1 M)
def Qnf (FN FW Cg E4 CI:Fn):Cfg:={cp [Qzv FN,Q03 FW,Qll Cg,Qt3 E4,Qb0 CI] [212]with rowDst:=[39]}
def Qdd (FN FW Cg E4 CI:Fn):Fn:=An PG (Qnf FN FW Cg E4 CI) 64 206 Qas Qd1
theorem Zax (FN FW Cg E4 CI:Fn) (x0 x1 x2 x3 x4 x5 x6 x7 x8 x9 x10 x11 x12:Int) (x13:Bool) (x14:Int) (x15:Bool) (x16 x17 x18 x19 x20:Int) (x21:Bool):Qdd FN FW Cg E4 CI [I x0,I x1,I x2,I x3,I x4,I x5,I x6,I x7,I x8,I x9,I x10,I x11,I x12,B x13,I x14,B x15,I x16,I x17,I x18,I x19,I x20,B x21]=
 bif x0 !=3 then
 some [.view [kI,kI,kI,kI] [],B false]
 else
 (CI [I x0,I x1,I x2,I x3,I x4,I x5,I x6,I x7,I x8,I x9,I x10,I x11,I x12,B x13,I x14,B x15,I x16,I x17,I x18,I x19,I x20,B x21]).bind λo7=>
 bif !bA o7 0 then
 some [.view [kI,kI,kI,kI] [],B false]
 else
 (E4 [I x0,I x1,I x2,I x3,I x4,I x5,I x6,I x7,I x8,I x9,I x10,I x11,I x12,B x13,I x14,B x15,I x16,I x17,I x18,I x19,I x20,B x21]).bind λo8=>
 (Cg [jA o8 0,jA o8 1,jA o8 2,jA o8 3,jA o8 0,jA o8 1,jA o8 2,jA o8 3]).bind λo9=>
 (FW [jA o9 0,I 2]).bind λo10=>
 (Cg [jA o8 4,jA o8 5,jA o8 6,jA o8 7,jA o8 4,jA o8 5,jA o8 6,jA o8 7]).bind λo11=>
 (FW [jA o11 0,I 2]).bind λo12=>
 (FN [.view [kI,kI,kI,kI] [[jA o8 0,jA o8 1,jA o10 0,jA o8 3]],jA o8 0,jA o8 1,jA o10 0,jA o8 3,jA o8 4,jA o8 5,jA o12 0,jA o8 7,B x13,I 0,I x12]).bind λo13=>
 some [.view [kI,kI,kI,kI] (wA o13 0),B true]:=by kernel_rfl
def NR:=Qdd TM IU Hi J5 G8
theorem Zgg:Aj PG (Qnf TM IU Hi J5 G8):=Ap rfl ⟨Zpp,Q6e,Zt,Q52,Qh9,trivial⟩
theorem Zlx:Al PG (206,Ad Qas Qd1 NR):=rw1 (C:=(Qnf TM IU Hi J5 G8)) Zgg
def Qna:Sk:=⟨[TS.tup [(false,[CS.sl kPt]),(false,[CS.bool])]],[],[]⟩
def Znq (M:Fn):Nat×Spec:=(193,Ad Qas Qna M)
def Qeo (GQ Cj B0 Hb CI:Fn):Cfg:=cf [Zgp GQ,Qtg Cj,Qyi B0,Znx Hb,Qb0 CI]
def Q6p:Sk:=⟨[td,tf [CS.ptr 1 0],td,td,td,td,tf [ci],tf [ci],td,tf [CS.own 41 3]]++dd 32++[tf [CS.sl [kI,kI,kI,kI]],tf [ci],tf [ci]]++dd 22,[(1,74,cc 13++[CS.bool,ci,CS.bool]++cc 5++[CS.bool])],[(41,54,kPt)]⟩
def Qxv:List (Ex×Sk):=[(Ex.exit 0,⟨dd 9++[tf [CS.own 41 3]]++dd 57,[],[(41,54,kPt)]⟩)]
def OP (GQ Cj B0 Hb CI:Fn):Lp:=A0 PG (Qeo GQ Cj B0 Hb CI) 64 9 (AY PG 193 9) Q6p Qxv
def Q08 (GQ Cj B0 Hb CI:Fn) (N9:Lp):Cfg:=(Qeo GQ Cj B0 Hb CI).loop 9 Q6p Qxv N9
def Tf (GQ Cj B0 Hb CI:Fn) (N9:Lp):Fn:=An PG (Q08 GQ Cj B0 Hb CI N9) 64 193 Qas Qna
theorem Qwa (GQ Cj B0 Hb CI:Fn) (v0:Rw) (v1 v2:Int) (v3:Rw) (v4 v5 v6 v7 v8 v9 v10 v11 v12 v13 v14 v15 v16 v17 v18:Int) (v19:Bool) (v20:Int) (v21:Bool) (v22 v23 v24 v25 v26:Int) (v27:Bool):OP GQ Cj B0 Hb CI [.view kPt v0,I v1,I v2, .view [kI,kI,kI,kI] v3,I v4,I v5,I v6,I v7,I v8,I v9,I v10,I v11,I v12,I v13,I v14,I v15,I v16,I v17,I v18,B v19,I v20,B v21,I v22,I v23,I v24,I v25,I v26,B v27]=
 bif decide (v5<v4)then
 bif decide (0<=v5)&&decide (v5<(v3.length:Int))then
 (GQ [I (wrap .i64 (v1+gA (nth [] v3 v5.toNat) 0)),I (wrap .i64 (v2+gA (nth [] v3 v5.toNat) 1)),jA (nth [] v3 v5.toNat) 3,I v14]).bind λo14=>
 bif decide (0<=v5)&&decide (v5<(v0.length:Int))then
 some (0,[.view kPt (v0.set v5.toNat [jA o14 0,jA o14 1,jA o14 2]),I v1,I v2, .view [kI,kI,kI,kI] v3,I v4,I (wrap .i64 (v5+1)),I v6,I v7,I v8,I v9,I v10,I v11,I v12,I v13,I v14,I v15,I v16,I v17,I v18,B v19,I v20,B v21,I v22,I v23,I v24,I v25,I v26,B v27])
 else
 none
 else
 none
 else
 some (1,[.view kPt v0]):=by kernel_rfl
theorem W8 (GQ Cj B0 Hb CI:Fn) (N9:Lp) (x0 x1 x2 x3 x4 x5 x6 x7 x8 x9 x10 x11 x12:Int) (x13:Bool) (x14:Int) (x15:Bool) (x16 x17 x18 x19 x20:Int) (x21:Bool):Tf GQ Cj B0 Hb CI N9 [I x0,I x1,I x2,I x3,I x4,I x5,I x6,I x7,I x8,I x9,I x10,I x11,I x12,B x13,I x14,B x15,I x16,I x17,I x18,I x19,I x20,B x21]=
 (CI [I x0,I x1,I x2,I x3,I x4,I x5,I x6,I x7,I x8,I x9,I x10,I x11,I x12,B x13,I x14,B x15,I x16,I x17,I x18,I x19,I x20,B x21]).bind λo15=>
 bif !bA o15 0 then
 some [.view kPt [],B false]
 else
 (Hb [I x0,I x1,I x2,I x3,I x4,I x5,I x6,I x7,I x8,I x9,I x10,I x11,I x12,B x13,I x14,B x15,I x16,I x17,I x18,I x19,I x20,B x21]).bind λo16=>
 bif !bA o16 1 then
 (B0 [I x2,I x3,I x4]).bind λo17=>
 (B0 [I x5,I x6,I x7]).bind λo18=>
 some [.view kPt [[jA o17 0,jA o17 1,jA o17 2],[jA o18 0,jA o18 1,jA o18 2]],B true]
 else
 (B0 [I x9,I x10,I x11]).bind λo19=>
 (Cj [jA o19 0,jA o19 1,jA o19 2,I x8]).bind λo20=>
 bif decide ((↑(wA o16 0).length:Int)=(↑(wA o16 0).length:Int))then
 bif decide (0<=(↑(wA o16 0).length:Int))&&decide ((↑(wA o16 0).length:Int)*(↑24:Int)<=140737488355328)then
 (N9 [.view kPt (List.replicate (↑(wA o16 0).length:Int).toNat [I 0,I 0,I 0]),jA o20 0,jA o20 1, .view [kI,kI,kI,kI] (wA o16 0),I (↑(wA o16 0).length:Int),I 0,I x0,I x1,I x2,I x3,I x4,I x5,I x6,I x7,I x8,I x9,I x10,I x11,I x12,B x13,I x14,B x15,I x16,I x17,I x18,I x19,I x20,B x21]).bind λo21=>
 bif o21.1.beq 1 then
 some [.view kPt (wA o21.2 0),B true]
 else
 none
 else
 none
 else
 none:=by kernel_rfl
def Q37:=Am (OP OM Iw HF NR G8)
def PL:=Tf OM Iw HF NR G8 Q37
theorem Qqs:Aj PG (Qeo OM Iw HF NR G8):=Ap rfl ⟨Z12,Qum,Qss,Zlx,Qh9,trivial⟩
theorem Zdn:Al PG (193,Ad Qas Qna PL):=rw2 (C:=(Q08 OM Iw HF NR G8 Q37)) (fl fb Qqs) Qqs
def XF:Sk:=⟨[tf [CS.sl Ah],tf [ci],tf [ci]],[],[]⟩
def Zh8 (M:Fn):Nat×Spec:=(170,Ad XF Qpa M)
def Ql8 (B7 Bw B3 JQ Bs Ms:Fn):Cfg:=cf [Qor B7,Qlw Bw,Q8p B3,Zk0 JQ,Rb Bs,Znq Ms]
def Qdh (B7 Bw B3 JQ Bs Ms:Fn):Fn:=An PG (Ql8 B7 Bw B3 JQ Bs Ms) 64 170 XF Qpa
theorem Z1i (B7 Bw B3 JQ Bs Ms:Fn) (x0:Rw) (x1 x2:Int):Qdh B7 Bw B3 JQ Bs Ms [.view Ah x0,I x1,I x2]=
 bif decide (0<=x1)&&decide (x1<(x0.length:Int))then
 (Ms (AN Ah (nth [] x0 x1.toNat))).bind λo13=>
 (Bs (AN Ah (nth [] x0 x1.toNat))).bind λo14=>
 bif !bA o14 0 then
 some [.view kPt (wA o13 0)]
 else
 bif decide (0<=1)&&decide (1<=(↑(wA o13 0).length:Int))then
 bif decide (0<=wrap .i64 ((↑(wA o13 0).length:Int)-1))&&decide (wrap .i64 ((↑(wA o13 0).length:Int)-1)<=(↑(wA o13 0).length:Int))then
 bif decide (x2>=0)then
 bif decide (0<=x2)&&decide (x2<(x0.length:Int))then
 (JQ (AN Ah (nth [] x0 x2.toNat)++AN Ah (nth [] x0 x1.toNat))).bind λo15=>
 (B3 [.view Ah x0,I x1]).bind λo16=>
 bif bA o16 0 then
 (Bw [.view Ah x0,I x1]).bind λo17=>
 bif decide (0<=gA o17 0)&&decide (gA o17 0<(x0.length:Int))then
 (JQ (AN Ah (nth [] x0 x1.toNat)++AN Ah (nth [] x0 (gA o17 0).toNat))).bind λo18=>
 bif(([]++wA o15 1).length*24).ble 140737488355328 then
 (B7 (AN Ah (nth [] x0 x1.toNat))).bind λo19=>
 bif(([]++wA o15 1++[[jA o19 0,jA o19 1,jA o19 2]]).length*24).ble 140737488355328 then
 bif(([]++wA o15 1++[[jA o19 0,jA o19 1,jA o19 2]]++wA o18 0).length*24).ble 140737488355328 then
 some [.view kPt ([]++wA o15 1++[[jA o19 0,jA o19 1,jA o19 2]]++wA o18 0)]
 else
 none
 else
 none
 else
 none
 else
 none
 else
 bif(([]++wA o15 1).length*24).ble 140737488355328 then
 (B7 (AN Ah (nth [] x0 x1.toNat))).bind λo20=>
 bif(([]++wA o15 1++[[jA o20 0,jA o20 1,jA o20 2]]).length*24).ble 140737488355328 then
 bif(([]++wA o15 1++[[jA o20 0,jA o20 1,jA o20 2]]++List.drop (wrap .i64 ((↑(wA o13 0).length:Int)-1)).toNat (wA o13 0)).length*24).ble 140737488355328 then
 some [.view kPt ([]++wA o15 1++[[jA o20 0,jA o20 1,jA o20 2]]++List.drop (wrap .i64 ((↑(wA o13 0).length:Int)-1)).toNat (wA o13 0))]
 else
 none
 else
 none
 else
 none
 else
 none
 else
 (B3 [.view Ah x0,I x1]).bind λo21=>
 bif bA o21 0 then
 (Bw [.view Ah x0,I x1]).bind λo22=>
 bif decide (0<=gA o22 0)&&decide (gA o22 0<(x0.length:Int))then
 (JQ (AN Ah (nth [] x0 x1.toNat)++AN Ah (nth [] x0 (gA o22 0).toNat))).bind λo23=>
 bif(([]++List.take (Int.toNat 1) (wA o13 0)).length*24).ble 140737488355328 then
 (B7 (AN Ah (nth [] x0 x1.toNat))).bind λo24=>
 bif(([]++List.take (Int.toNat 1) (wA o13 0)++[[jA o24 0,jA o24 1,jA o24 2]]).length*24).ble 140737488355328 then
 bif(([]++List.take (Int.toNat 1) (wA o13 0)++[[jA o24 0,jA o24 1,jA o24 2]]++wA o23 0).length*24).ble 140737488355328 then
 some [.view kPt ([]++List.take (Int.toNat 1) (wA o13 0)++[[jA o24 0,jA o24 1,jA o24 2]]++wA o23 0)]
 else
 none
 else
 none
 else
 none
 else
 none
 else
 bif(([]++List.take (Int.toNat 1) (wA o13 0)).length*24).ble 140737488355328 then
 (B7 (AN Ah (nth [] x0 x1.toNat))).bind λo25=>
 bif(([]++List.take (Int.toNat 1) (wA o13 0)++[[jA o25 0,jA o25 1,jA o25 2]]).length*24).ble 140737488355328 then
 bif(([]++List.take (Int.toNat 1) (wA o13 0)++[[jA o25 0,jA o25 1,jA o25 2]]++List.drop (wrap .i64 ((↑(wA o13 0).length:Int)-1)).toNat (wA o13 0)).length*24).ble 140737488355328 then
 some [.view kPt ([]++List.take (Int.toNat 1) (wA o13 0)++[[jA o25 0,jA o25 1,jA o25 2]]++List.drop (wrap .i64 ((↑(wA o13 0).length:Int)-1)).toNat (wA o13 0))]
 else
 none
 else
 none
 else
 none
 else
 none
 else
 none
 else
 none:=by kernel_rfl
def M_:=Qdh Gp Fm G2 Qr EP PL
theorem Z2b:Aj PG (Ql8 Gp Fm G2 Qr EP PL):=Ap rfl ⟨Qbf,Qc5,Qr3,Zlf,Sl,Zdn,trivial⟩
theorem Zzu:Al PG (170,Ad XF Qpa M_):=rw1 (C:=(Ql8 Gp Fm G2 Qr EP PL)) Z2b
def Qis:Sk:=⟨[TS.v true (cc 13++[CS.bool,ci,CS.bool]++cc 5++[CS.bool]),tf [ci]],[],[]⟩
def Zde (M:Fn):Nat×Spec:=(168,Ad Qis Qn1 M)
def WX (AJ:Fn):Cfg:=cf [KW AJ]
def W9 (AJ:Fn):Fn:=An PG (WX AJ) 64 168 Qis Qn1
theorem Qr8 (AJ:Fn) (x0 x1 x2 x3 x4 x5 x6 x7 x8 x9 x10 x11 x12:Int) (x13:Bool) (x14:Int) (x15:Bool) (x16 x17 x18 x19 x20:Int) (x21:Bool) (x22:Int):W9 AJ [I x0,I x1,I x2,I x3,I x4,I x5,I x6,I x7,I x8,I x9,I x10,I x11,I x12,B x13,I x14,B x15,I x16,I x17,I x18,I x19,I x20,B x21,I x22]=
 bif x0==1 then
 some [I 0]
 else
 bif x15 then
 (AJ [I (mn (wrap .i64 (x14*mx x22 1)) 60000000),I 4096,I 60000,I 2]).bind λo2=>
 some [I (mx (gA o2 0) 1)]
 else
 (AJ [I (mn x14 60000000),I 4096,I 60000,I 2]).bind λo3=>
 some [I (mx (gA o3 0) 1)]:=by kernel_rfl
def Ki:=W9 Bz
theorem Zak:Aj PG (WX Bz):=Ap rfl ⟨Ls,trivial⟩
theorem Zlt:Al PG (168,Ad Qis Qn1 Ki):=rw1 (C:=(WX Bz)) Zak
def Ze:Sk:=⟨[tf [CS.ptr 20000 0],tf [CS.sl Ah],tf [ci],tf [ci]],[(20000,142,[ci,ci,ci,CS.own 20000 7,CS.own 20001 3,CS.bool,ci,ci,ci])],[(20000,162,Ai),(20001,76,kPt)]⟩
def Qjs:Sk:=⟨[tf [CS.bool]],[(20000,142,[ci,ci,ci,CS.own 20000 7,CS.own 20001 3,CS.bool,ci,ci,ci])],[(20000,162,Ai),(20001,76,kPt)]⟩
def Zzr (M:Fn):Nat×Spec:=(126,Ad Ze Qjs M)
def Wq (B7 Bs GZ FA CJ G5:Fn):Cfg:=cp [Qor B7,Rb Bs,Zch GZ,Zh8 FA,Q8v CJ,Zde G5] [171]
def Q6j:Sk:=⟨[tf [CS.ptr 20000 0]]++dd 8++[tf [CS.ptr 9 0],tf [CS.ptr 10 0]]++dd 24++[tf [CS.sl kPt],tf [ci],tf [ci]]++dd 30,[(9,74,cc 13++[CS.bool,ci,CS.bool]++cc 5++[CS.bool]),(10,162,cc 7),(20000,142,[ci,ci,ci,CS.own 20000 7,CS.own 20001 3,CS.bool,ci,ci,ci])],[(20000,162,Ai),(20001,76,kPt)]⟩
def Qqy:List (Ex×Sk):=[(Ex.exit 0,⟨[tf [CS.ptr 20000 0]]++dd 67,[(20000,142,[ci,ci,ci,CS.own 20000 7,CS.own 20001 3,CS.bool,ci,ci,ci])],[(20000,162,Ai),(20001,76,kPt)]⟩)]
def K6 (B7 Bs GZ FA CJ G5:Fn):Lp:=A0 PG (Wq B7 Bs GZ FA CJ G5) 64 6 (AY PG 126 6) Q6j Qqy
def Q3b (B7 Bs GZ FA CJ G5:Fn) (N6:Lp):Cfg:=(Wq B7 Bs GZ FA CJ G5).loop 6 Q6j Qqy N6
def X4 (B7 Bs GZ FA CJ G5:Fn) (N6:Lp):Fn:=An PG (Q3b B7 Bs GZ FA CJ G5 N6) 64 126 Ze Qjs
theorem Qtf (B7 Bs GZ FA CJ G5:Fn) (v0 v1 v2:Rw) (v3 v4 v5 v6 v7 v8 v9 v10 v11 v12 v13 v14 v15 v16 v17:Int) (v18:Bool) (v19:Int) (v20:Bool) (v21 v22 v23 v24 v25:Int) (v26:Bool) (v27 v28 v29 v30 v31 v32 v33 v34 v35 v36:Int) (v37:Bool) (v38 v39 v40:Int):K6 B7 Bs GZ FA CJ G5 [.view Ai v0, .view kPt v1, .view kPt v2,I v3,I v4,I v5,I v6,I v7,I v8,I v9,I v10,I v11,I v12,I v13,I v14,I v15,I v16,I v17,B v18,I v19,B v20,I v21,I v22,I v23,I v24,I v25,B v26,I v27,I v28,I v29,I v30,I v31,I v32,I v33,I v34,I v35,I v36,B v37,I v38,I v39,I v40]=
 bif decide (v4<v3)then
 bif decide (0<=v4)&&decide (v4<(v2.length:Int))then
 (GZ [.view Ai v0, .view kPt v1,jA (nth [] v2 v4.toNat) 0,jA (nth [] v2 v4.toNat) 1,jA (nth [] v2 v4.toNat) 2,I v27,I v28,I v29,I v30,I v31,I v32,I v33,I v34,I v35,I v36,B v37,I v38,I v39,I v40]).bind λo12=>
 (Bs [I v5,I v6,I v7,I v8,I v9,I v10,I v11,I v12,I v13,I v14,I v15,I v16,I v17,B v18,I v19,B v20,I v21,I v22,I v23,I v24,I v25,B v26]).bind λo13=>
 bif bA o13 0 then
 (B7 [I v5,I v6,I v7,I v8,I v9,I v10,I v11,I v12,I v13,I v14,I v15,I v16,I v17,B v18,I v19,B v20,I v21,I v22,I v23,I v24,I v25,B v26]).bind λo14=>
 bif gA (nth [] v2 v4.toNat) 0==gA o14 0&&(gA (nth [] v2 v4.toNat) 1==gA o14 1&&(gA (nth [] v2 v4.toNat) 2==gA o14 2&&true))then
 some (0,[.view Ai (wA o12 0), .view kPt (wA o12 1), .view kPt v2,I v3,I (wrap .i64 (v4+1)),I v5,I v6,I v7,I v8,I v9,I v10,I v11,I v12,I v13,I v14,I v15,I v16,I v17,B v18,I v19,B v20,I v21,I v22,I v23,I v24,I v25,B v26,I v27,I v28,I v29,I v30,I v31,I v32,I v33,jA o12 2,jA o12 3,jA o12 4,B (bA o12 5),jA o12 6,jA o12 7,jA o12 6])
 else
 some (0,[.view Ai (wA o12 0), .view kPt (wA o12 1), .view kPt v2,I v3,I (wrap .i64 (v4+1)),I v5,I v6,I v7,I v8,I v9,I v10,I v11,I v12,I v13,I v14,I v15,I v16,I v17,B v18,I v19,B v20,I v21,I v22,I v23,I v24,I v25,B v26,I v27,I v28,I v29,I v30,I v31,I v32,I v33,jA o12 2,jA o12 3,jA o12 4,B (bA o12 5),jA o12 6,jA o12 7,jA o12 8])
 else
 some (0,[.view Ai (wA o12 0), .view kPt (wA o12 1), .view kPt v2,I v3,I (wrap .i64 (v4+1)),I v5,I v6,I v7,I v8,I v9,I v10,I v11,I v12,I v13,I v14,I v15,I v16,I v17,B v18,I v19,B v20,I v21,I v22,I v23,I v24,I v25,B v26,I v27,I v28,I v29,I v30,I v31,I v32,I v33,jA o12 2,jA o12 3,jA o12 4,B (bA o12 5),jA o12 6,jA o12 7,jA o12 8])
 else
 none
 else
 some (1,[.view Ai v0, .view kPt v1,I v34,I v35,I v36,B v37,I v38,I v39,I v40]):=by kernel_rfl
abbrev Xz (FA:Fn) (x2:Rw) (x3 x4:Int) (N6:Lp) (x0 x1:Rw) (o15:List AC) (x5 x6 x7:Int) (x8:Bool) (x9 x10 x11:Int) (h1_0:AC):Option (List AC):=
 (FA [.view Ah x2,I x3,I x4]).bind λo17=>
 (N6 (.view Ai x0:: .view kPt x1:: .view kPt (wA o17 0)::I (↑(wA o17 0).length:Int)::I 0::(AN Ah (nth [] x2 x3.toNat)++[I 0,I 0,I 0,I 0,I x3,jA o15 0,h1_0,I x5,I x6,I x7,B x8,I x9,I x10,I x11]))).bind λo18=>
 bif o18.1.beq 1 then
 some [.view Ai (wA o18.2 0), .view kPt (wA o18.2 1),B (decide ((↑(wA o18.2 0).length:Int)<=1048576)),jA o18.2 2,jA o18.2 3,jA o18.2 4,B (bA o18.2 5),jA o18.2 6,jA o18.2 7,jA o18.2 8]
 else
 none
theorem Zpe (B7 Bs GZ FA CJ G5:Fn) (N6:Lp) (x0 x1 x2:Rw) (x3 x4 x5 x6 x7:Int) (x8:Bool) (x9 x10 x11:Int):X4 B7 Bs GZ FA CJ G5 N6 [.view Ai x0, .view kPt x1, .view Ah x2,I x3,I x4,I x5,I x6,I x7,B x8,I x9,I x10,I x11]=
 bif decide (0<=x3)&&decide (x3<(x2.length:Int))then
 (G5 (AN Ah (nth [] x2 x3.toNat)++[I x10])).bind λo15=>
 (CJ (AN Ah (nth [] x2 x3.toNat))).bind λo16=>
 bif bA o16 0 then
 Xz FA x2 x3 x4 N6 x0 x1 o15 x5 x6 x7 x8 x9 x10 x11 (I (mn (wrap .i64 (gA (nth [] x2 x3.toNat) 14*16)) 16777216))
 else
 Xz FA x2 x3 x4 N6 x0 x1 o15 x5 x6 x7 x8 x9 x10 x11 (I 0)
 else
 none:=by kernel_rfl
def Qto:=Am (K6 Gp EP NJ M_ Hu Ki)
def J_:=X4 Gp EP NJ M_ Hu Ki Qto
theorem Q09:Aj PG (Wq Gp EP NJ M_ Hu Ki):=Ap rfl ⟨Qbf,Sl,Zvq,Zzu,Qvi,Zlt,trivial⟩
theorem Zz4:Al PG (126,Ad Ze Qjs J_):=rw2 (C:=(Q3b Gp EP NJ M_ Hu Ki Qto)) (fl fb Q09) Q09
def Zhk (M:Fn):Nat×Spec:=(122,Ad Qas Qn1 M)
def W1 (CI AQ:Fn):Cfg:=cf [Qb0 CI,S4 AQ]
def YB (CI AQ:Fn):Fn:=An PG (W1 CI AQ) 64 122 Qas Qn1
abbrev LL (x0 x19 x20:Int):Option (List AC):=
 bif x0==8 then
 bif decide (x19<3)then
 some [I 1]
 else
 bif decide (x19>5)then
 some [I 1]
 else
 bif decide (x20<0)then
 some [I 1]
 else
 bif decide (x20>30000)then
 some [I 1]
 else
 some [I 0]
 else
 some [I 0]
theorem Zg6 (CI AQ:Fn) (x0 x1 x2 x3 x4 x5 x6 x7 x8 x9 x10 x11 x12:Int) (x13:Bool) (x14:Int) (x15:Bool) (x16 x17 x18 x19 x20:Int) (x21:Bool):YB CI AQ [I x0,I x1,I x2,I x3,I x4,I x5,I x6,I x7,I x8,I x9,I x10,I x11,I x12,B x13,I x14,B x15,I x16,I x17,I x18,I x19,I x20,B x21]=
 bif decide (x0<1)then
 some [I 1]
 else
 bif decide (x0>14)then
 some [I 1]
 else
 (AQ [I x0]).bind λo4=>
 bif bA o4 0 then
 (CI [I x0,I x1,I x2,I x3,I x4,I x5,I x6,I x7,I x8,I x9,I x10,I x11,I x12,B x13,I x14,B x15,I x16,I x17,I x18,I x19,I x20,B x21]).bind λo5=>
 bif !bA o5 0 then
 some [I 1]
 else
 bif decide (x18<0)then
 some [I 1]
 else
 bif decide (x18>1000)then
 some [I 1]
 else
 (AQ [I x0]).bind λo6=>
 bif bA o6 0 then
 bif x0 !=1 then
 bif decide (x14<1)then
 some [I 1]
 else
 bif decide (x14>60000000)then
 some [I 1]
 else
 LL x0 x19 x20
 else
 LL x0 x19 x20
 else
 LL x0 x19 x20
 else
 (AQ [I x0]).bind λo7=>
 bif bA o7 0 then
 bif x0 !=1 then
 bif decide (x14<1)then
 some [I 1]
 else
 bif decide (x14>60000000)then
 some [I 1]
 else
 LL x0 x19 x20
 else
 LL x0 x19 x20
 else
 LL x0 x19 x20:=by kernel_rfl
def Jh:=YB G8 DL
theorem Ze4:Aj PG (W1 G8 DL):=Ap rfl ⟨Qh9,Ro,trivial⟩
theorem Ze3:Al PG (122,Ad Qas Qn1 Jh):=rw1 (C:=(W1 G8 DL)) Ze4
def Qnx:Sk:=⟨[tf [CS.sl Ah]],[],[]⟩
def Qkr:Sk:=⟨[TS.tup [(false,[CS.ptr 13 0]),(false,[ci])]],[(13,142,[ci,ci,ci,CS.own 1013003 7,CS.own 1013004 3,CS.bool,ci,ci,ci])],[(1013003,162,Ai),(1013004,76,kPt)]⟩
def Q9l (M:Fn):Nat×Spec:=(80,Ad Qnx Qkr M)
def Qgj (Cl Co Bw B3 AQ EJ:Fn):Cfg:=cp [Z0c Cl,Zzr Co,Qlw Bw,Q8p B3,S4 AQ,Zhk EJ] [127,126]
def Q9t:Sk:=⟨[tf [CS.sl Ah],td,td,td,tf [CS.ptr 13 0],tf [ci]]++dd 12++[tf [CS.sl Ah],tf [ci],tf [ci]]++dd 87,[(13,142,[ci,ci,ci,CS.own 1013003 7,CS.own 1013004 3,CS.bool,ci,ci,ci])],[(1013003,162,Ai),(1013004,76,kPt)]⟩
def Qws:List (Ex×Sk):=[(Ex.ret,⟨[td,td,tf [CS.ptr 13 0],tf [ci]]++dd 104,[(13,142,[ci,ci,ci,CS.own 1013003 7,CS.own 1013004 3,CS.bool,ci,ci,ci])],[(1013003,162,Ai),(1013004,76,kPt)]⟩),(Ex.exit 0,⟨[tf [CS.sl Ah],td,td,td,tf [CS.ptr 13 0]]++dd 103,[(13,142,[ci,ci,ci,CS.own 1013003 7,CS.own 1013004 3,CS.bool,ci,ci,ci])],[(1013003,162,Ai),(1013004,76,kPt)]⟩)]
def Qs (Cl Co Bw B3 AQ EJ:Fn):Lp:=A0 PG (Qgj Cl Co Bw B3 AQ EJ) 64 6 (AY PG 80 6) Q9t Qws
def Qpx (Cl Co Bw B3 AQ EJ:Fn) (N6:Lp):Cfg:=(Qgj Cl Co Bw B3 AQ EJ).loop 6 Q9t Qws N6
def Q5c:Sk:=⟨[tf [CS.sl Ah],td,td,td,tf [CS.ptr 13 0],tf [ci]]++dd 44++[tf [CS.sl Ah],tf [ci],tf [ci]]++dd 55,[(13,142,[ci,ci,ci,CS.own 1013003 7,CS.own 1013004 3,CS.bool,ci,ci,ci])],[(1013003,162,Ai),(1013004,76,kPt)]⟩
def Qvo:List (Ex×Sk):=[(Ex.ret,⟨[td,td,tf [CS.ptr 13 0],tf [ci]]++dd 104,[(13,142,[ci,ci,ci,CS.own 1013003 7,CS.own 1013004 3,CS.bool,ci,ci,ci])],[(1013003,162,Ai),(1013004,76,kPt)]⟩),(Ex.exit 2,⟨[td,td,td,td,tf [CS.ptr 13 0]]++dd 103,[(13,142,[ci,ci,ci,CS.own 1013003 7,CS.own 1013004 3,CS.bool,ci,ci,ci])],[(1013003,162,Ai),(1013004,76,kPt)]⟩)]
def Qo (Cl Co Bw B3 AQ EJ:Fn) (N6:Lp):Lp:=A0 PG (Qpx Cl Co Bw B3 AQ EJ N6) 64 18 (AY PG 80 18) Q5c Qvo
def Q62 (Cl Co Bw B3 AQ EJ:Fn) (N6 N18:Lp):Cfg:=(Qpx Cl Co Bw B3 AQ EJ N6).loop 18 Q5c Qvo N18
def Xb (Cl Co Bw B3 AQ EJ:Fn) (N6 N18:Lp):Fn:=An PG (Q62 Cl Co Bw B3 AQ EJ N6 N18) 64 80 Qnx Qkr
theorem Qyj (Cl Co Bw B3 AQ EJ:Fn) (v0 v1 v2:Rw) (v3:Int) (v4:Rw) (v5 v6 v7 v8 v9:Int) (v10:Bool) (v11 v12 v13:Int):Qs Cl Co Bw B3 AQ EJ [.view Ai v0, .view kPt v1, .view Ah v2,I v3, .view Ah v4,I v5,I v6,I v7,I v8,I v9,B v10,I v11,I v12,I v13]=
 bif decide (v6<v5)then
 bif decide (0<=v6)&&decide (v6<(v4.length:Int))then
 (EJ (AN Ah (nth [] v4 v6.toNat))).bind λo53=>
 bif gA o53 0 !=0 then
 some (1,[.view Ai v0, .view kPt v1,jA o53 0,I v7,I v8,I v9,B v10,I v11,I v12,I v13])
 else
 (AQ [jA (nth [] v4 v6.toNat) 0]).bind λo54=>
 bif !bA o54 0 then
 some (0,[.view Ai v0, .view kPt v1, .view Ah v2,I v3, .view Ah v4,I v5,I (wrap .i64 (v6+1)),I v7,I v8,I v9,B v10,I v11,I v12,I v13])
 else
 bif decide (v3>=0)then
 bif decide (0<=v3)&&decide (v3<(v2.length:Int))then
 bif !(gA (nth [] v2 v3.toNat) 5==gA (nth [] v4 v6.toNat) 2&&(gA (nth [] v2 v3.toNat) 6==gA (nth [] v4 v6.toNat) 3&&(gA (nth [] v2 v3.toNat) 7==gA (nth [] v4 v6.toNat) 4&&true)))then
 some (1,[.view Ai v0, .view kPt v1,I 13,I v7,I v8,I v9,B v10,I v11,I v12,I v13])
 else
 some (0,[.view Ai v0, .view kPt v1, .view Ah v2,I v6, .view Ah v4,I v5,I (wrap .i64 (v6+1)),I v7,I v8,I v9,B v10,I v11,I v12,I v13])
 else
 none
 else
 some (0,[.view Ai v0, .view kPt v1, .view Ah v2,I v6, .view Ah v4,I v5,I (wrap .i64 (v6+1)),I v7,I v8,I v9,B v10,I v11,I v12,I v13])
 else
 none
 else
 some (2,[.view Ai v0, .view kPt v1, .view Ah v2,I v7,I v8,I v9,B v10,I v11,I v12,I v13]):=by kernel_rfl
abbrev PH (Co:Fn) (v0 v1 v2:Rw) (v6 v7 v8 v9:Int) (v10:Bool) (v11:Int) (h1_0:AC) (v13:Int) (Cl:Fn) (v4:Rw) (v5:Int) (h2_0:AC):Option (Nat×List AC):=
 (Co [.view Ai v0, .view kPt v1, .view Ah v2,I v6,h2_0,I v7,I v8,I v9,B v10,I v11,h1_0,I v13]).bind λo57=>
 bif !bA o57 2 then
 some (1,[.view Ai (wA o57 0), .view kPt (wA o57 1),I 10,jA o57 3,jA o57 4,jA o57 5,B (bA o57 6),jA o57 7,jA o57 8,jA o57 9])
 else
 (Cl [.view Ai (wA o57 0), .view kPt (wA o57 1), .view Ah v2,I v6,jA o57 3,jA o57 4,jA o57 5,B (bA o57 6),jA o57 7,jA o57 8,jA o57 9]).bind λo58=>
 some (0,[.view Ai (wA o58 0), .view kPt (wA o58 1), .view Ah v2,I v6, .view Ah v4,I v5,I (wrap .i64 (v6+1)),jA o58 2,jA o58 3,jA o58 4,B (bA o58 5),jA o58 6,jA o58 7,jA o58 8])
abbrev PK (AQ:Fn) (v4:Rw) (v6 v3:Int) (B3:Fn) (v2:Rw) (Co:Fn) (v0 v1:Rw) (v7 v8 v9:Int) (v10:Bool) (v11 v13:Int) (Cl:Fn) (v5:Int) (Bw:Fn) (h1_0:AC):Option (Nat×List AC):=
 (AQ [jA (nth [] v4 v6.toNat) 0]).bind λo55=>
 bif bA o55 0 then
 bif decide (v3>=0)then
 (B3 [.view Ah v2,I v3]).bind λo56=>
 bif !bA o56 0 then
 PH Co v0 v1 v2 v6 v7 v8 v9 v10 v11 h1_0 v13 Cl v4 v5 (I (-1))
 else
 (Bw [.view Ah v2,I v3]).bind λo59=>
 bif gA o59 0 !=v6 then
 PH Co v0 v1 v2 v6 v7 v8 v9 v10 v11 h1_0 v13 Cl v4 v5 (I (-1))
 else
 PH Co v0 v1 v2 v6 v7 v8 v9 v10 v11 h1_0 v13 Cl v4 v5 (I v3)
 else
 PH Co v0 v1 v2 v6 v7 v8 v9 v10 v11 h1_0 v13 Cl v4 v5 (I v3)
 else
 (Cl [.view Ai v0, .view kPt v1, .view Ah v2,I v6,I v7,I v8,I v9,B v10,I v11,h1_0,I v13]).bind λo66=>
 some (0,[.view Ai (wA o66 0), .view kPt (wA o66 1), .view Ah v2,I v3, .view Ah v4,I v5,I (wrap .i64 (v6+1)),jA o66 2,jA o66 3,jA o66 4,B (bA o66 5),jA o66 6,jA o66 7,jA o66 8])
theorem Q3y (Cl Co Bw B3 AQ EJ:Fn) (N6:Lp) (v0 v1 v2:Rw) (v3:Int) (v4:Rw) (v5 v6 v7 v8 v9:Int) (v10:Bool) (v11 v12 v13:Int):Qo Cl Co Bw B3 AQ EJ N6 [.view Ai v0, .view kPt v1, .view Ah v2,I v3, .view Ah v4,I v5,I v6,I v7,I v8,I v9,B v10,I v11,I v12,I v13]=
 bif decide (v6<v5)then
 bif decide (0<=v6)&&decide (v6<(v4.length:Int))then
 bif gA (nth [] v4 v6.toNat) 0==8 then
 bif gA (nth [] v4 v6.toNat) 19==3 then
 PK AQ v4 v6 v3 B3 v2 Co v0 v1 v7 v8 v9 v10 v11 v13 Cl v5 Bw (jA (nth [] v4 v6.toNat) 20)
 else
 bif gA (nth [] v4 v6.toNat) 19==4 then
 PK AQ v4 v6 v3 B3 v2 Co v0 v1 v7 v8 v9 v10 v11 v13 Cl v5 Bw (jA (nth [] v4 v6.toNat) 20)
 else
 PK AQ v4 v6 v3 B3 v2 Co v0 v1 v7 v8 v9 v10 v11 v13 Cl v5 Bw (I v12)
 else
 PK AQ v4 v6 v3 B3 v2 Co v0 v1 v7 v8 v9 v10 v11 v13 Cl v5 Bw (I v12)
 else
 none
 else
 some (2,[.view Ai v0, .view kPt v1,I v7,I v8,I v9,B v10,I v11,I v12,I v13]):=by kernel_rfl
theorem Zsg (Cl Co Bw B3 AQ EJ:Fn) (N6 N18:Lp) (x0:Rw):Xb Cl Co Bw B3 AQ EJ N6 N18 [.view Ah x0]=
 bif decide ((x0.length:Int)>20000)then
 some [.view Ai [], .view kPt [],I 10,I 0,I 0,I 0,B false,I 0,I 0,I 0]
 else
 (N6 [.view Ai [], .view kPt [], .view Ah x0,I (-1), .view Ah x0,I (x0.length:Int),I 0,I 0,I 0,I 0,B false,I 0,I 0,I 0]).bind λo103=>
 bif o103.1.beq 1 then
 some [.view Ai (wA o103.2 0), .view kPt (wA o103.2 1),jA o103.2 2,jA o103.2 3,jA o103.2 4,jA o103.2 5,B (bA o103.2 6),jA o103.2 7,jA o103.2 8,jA o103.2 9]
 else
 bif o103.1.beq 2 then
 (N18 [.view Ai (wA o103.2 0), .view kPt (wA o103.2 1), .view Ah (wA o103.2 2),I (-1), .view Ah (wA o103.2 2),I (↑(wA o103.2 2).length:Int),I 0,jA o103.2 3,jA o103.2 4,jA o103.2 5,B (bA o103.2 6),jA o103.2 7,jA o103.2 8,jA o103.2 9]).bind λo104=>
 bif o104.1.beq 1 then
 some [.view Ai (wA o104.2 0), .view kPt (wA o104.2 1),jA o104.2 2,jA o104.2 3,jA o104.2 4,jA o104.2 5,B (bA o104.2 6),jA o104.2 7,jA o104.2 8,jA o104.2 9]
 else
 bif o104.1.beq 2 then
 some [.view Ai (wA o104.2 0), .view kPt (wA o104.2 1),I 0,jA o104.2 2,jA o104.2 3,jA o104.2 4,B (bA o104.2 5),jA o104.2 6,jA o104.2 7,jA o104.2 8]
 else
 none
 else
 none:=by kernel_rfl
def PR:=Am (Qs JC J_ Fm G2 DL Jh)
def Q9q:=Am (Qo JC J_ Fm G2 DL Jh PR)
def JA:=Xb JC J_ Fm G2 DL Jh PR Q9q
theorem Qoe:Aj PG (Qgj JC J_ Fm G2 DL Jh):=Ap rfl ⟨Zcg,Zz4,Qc5,Qr3,Ro,Ze3,trivial⟩
theorem Q2e:Al PG (80,Ad Qnx Qkr JA):=rw2 (C:=(Q62 JC J_ Fm G2 DL Jh PR Q9q)) (fl (fl fb Qoe) Qoe) Qoe
def Q1h (M:Fn):Nat×Spec:=(37,Ad Qnx Qn1 M)
def Qnd (Bs D_:Fn):Cfg:=cp [Rb Bs,Q9l D_] [80]
def Qtw:Sk:=⟨[tf [CS.sl Ah],td,td,tf [CS.ptr 100800 0],td,tf [ci]]++dd 47,[(100800,142,[ci,ci,ci,CS.own 100800 7,CS.own 100801 3,CS.bool,ci,ci,ci])],[(100800,162,Ai),(100801,76,kPt)]⟩
def Q8q:List (Ex×Sk):=[(Ex.ret,⟨[td,td,tf [ci]]++dd 50,[],[]⟩),(Ex.exit 0,⟨[td,td,td,tf [CS.ptr 100800 0]]++dd 49,[(100800,142,[ci,ci,ci,CS.own 100800 7,CS.own 100801 3,CS.bool,ci,ci,ci])],[(100800,162,Ai),(100801,76,kPt)]⟩)]
def O2 (Bs D_:Fn):Lp:=A0 PG (Qnd Bs D_) 64 5 (AY PG 37 5) Qtw Q8q
def Qp4 (Bs D_:Fn) (N5:Lp):Cfg:=(Qnd Bs D_).loop 5 Qtw Q8q N5
def Zk (Bs D_:Fn) (N5:Lp):Fn:=An PG (Qp4 Bs D_ N5) 64 37 Qnx Qn1
theorem Q25 (Bs D_:Fn) (v0 v1 v2:Rw) (v3 v4 v5 v6:Int) (v7:Bool) (v8 v9 v10:Int):O2 Bs D_ [.view Ai v0, .view kPt v1, .view Ah v2,I v3,I v4,I v5,I v6,B v7,I v8,I v9,I v10]=
 bif decide (v3>=0)then
 bif decide (0<=v3)&&decide (v3<(v2.length:Int))then
 bif gA (nth [] v2 v3.toNat) 0==10 then
 some (0,[.view Ai v0, .view kPt v1, .view Ah v2,I (wrap .i64 (v3-1)),I v4,I v5,I v6,B v7,I v8,I v9,I v10])
 else
 bif decide (0<=v3)&&decide (v3<(v2.length:Int))then
 (Bs (AN Ah (nth [] v2 v3.toNat))).bind λo4=>
 bif bA o4 0 then
 bif decide (0<=v3)&&decide (v3<(v2.length:Int))then
 bif gA (nth [] v2 v3.toNat) 18 !=0 then
 some (1,[I v10])
 else
 some (1,[I v8])
 else
 none
 else
 some (1,[I v8])
 else
 none
 else
 none
 else
 some (2,[.view Ai v0, .view kPt v1,I v4,I v5,I v6,B v7,I v8,I v9,I v10]):=by kernel_rfl
theorem Q9k (Bs D_:Fn) (N5:Lp) (x0:Rw):Zk Bs D_ N5 [.view Ah x0]=
 (D_ [.view Ah x0]).bind λo5=>
 bif gA o5 2 !=0 then
 some [I 0]
 else
 (N5 [.view Ai (wA o5 0), .view kPt (wA o5 1), .view Ah x0,I (wrap .i64 ((x0.length:Int)-1)),jA o5 3,jA o5 4,jA o5 5,B (bA o5 6),jA o5 7,jA o5 8,jA o5 9]).bind λo6=>
 bif o6.1.beq 1 then
 some [jA o6.2 0]
 else
 bif o6.1.beq 2 then
 some [jA o6.2 6]
 else
 none:=by kernel_rfl
def Qth:=Am (O2 EP JA)
def G6:=Zk EP JA Qth
theorem Qvz:Aj PG (Qnd EP JA):=Ap rfl ⟨Sl,Q2e,trivial⟩
theorem Qqm:Al PG (37,Ad Qnx Qn1 G6):=rw2 (C:=(Qp4 EP JA Qth)) (fl fb Qvz) Qvz
def Qe1:Sk:=⟨[TS.v true ([CS.sl At]++cc 5),tf [ci]],[],[]⟩
def Qz0 (M:Fn):Nat×Spec:=(75,Ad Qe1 Qn1 M)
def Qug:Sk:=⟨[td,tf [ci],tf [CS.ptr 2 0],td,td,tf [ci],tf [ci]]++dd 29,[(2,62,[CS.sl At]++cc 5)],[]⟩
def Q5o:List (Ex×Sk):=[(Ex.exit 0,⟨dd 6++[tf [ci]]++dd 29,[],[]⟩)]
def Re:Lp:=A0 PG WB 64 2 (AY PG 75 2) Qug Q5o
def Qq6 (N2:Lp):Cfg:=WB.loop 2 Qug Q5o N2
def Qqo (N2:Lp):Fn:=An PG (Qq6 N2) 64 75 Qe1 Qn1
theorem Qoq (v0 v1 v2:Int) (v3:Rw) (v4 v5 v6 v7 v8:Int):Re [I v0,I v1,I v2, .view At v3,I v4,I v5,I v6,I v7,I v8]=
 bif decide (v1<v2)then
 bif decide (0<=wrap .i64 ((wrap .i64 (v1+v2)).tdiv 2))&&decide (wrap .i64 ((wrap .i64 (v1+v2)).tdiv 2)<(v3.length:Int))then
 bif decide (v0<=wrap .i64 (Ag (nth .dead (nth [] v3 (wrap .i64 ((wrap .i64 (v1+v2)).tdiv 2)).toNat) 0)+Ag (nth .dead (nth [] v3 (wrap .i64 ((wrap .i64 (v1+v2)).tdiv 2)).toNat) 1)))then
 some (0,[I v0,I v1,I (wrap .i64 ((wrap .i64 (v1+v2)).tdiv 2)), .view At v3,I v4,I v5,I v6,I v7,I v8])
 else
 some (0,[I v0,I (wrap .i64 (wrap .i64 ((wrap .i64 (v1+v2)).tdiv 2)+1)),I v2, .view At v3,I v4,I v5,I v6,I v7,I v8])
 else
 none
 else
 some (1,[I v2]):=by kernel_rfl
theorem Zme (N2:Lp) (x0:Rw) (x1 x2 x3 x4 x5 x6:Int):Qqo N2 [.view At x0,I x1,I x2,I x3,I x4,I x5,I x6]=
 (N2 [I x6,I 0,I (wrap .i64 ((x0.length:Int)-1)), .view At x0,I x1,I x2,I x3,I x4,I x5]).bind λo1=>
 bif o1.1.beq 1 then
 some [jA o1.2 0]
 else
 none:=by kernel_rfl
def K2:=Am (Re)
def Jf:=Qqo K2
theorem Qwu:Al PG (75,Ad Qe1 Qn1 Jf):=rw2 (C:=(Qq6 K2)) (fl fb Z0p) Z0p
def Qax (M:Fn):Nat×Spec:=(73,Ad Y7 Qn1 M)
def Q0p:Fn:=An PG WB 64 73 Y7 Qn1
theorem Z0y (x0 x1:Int):Q0p [I x0,I x1]=
 some [I (mx 0 (mn x0 x1))]:=by kernel_rfl
def Gy:=Q0p
theorem WH:Al PG (73,Ad Y7 Qn1 Gy):=rw1 (C:=WB) Z0p
def QY (M:Fn):Nat×Spec:=(36,Ad Qe1 Qn1 M)
def Qgu (F_ DA:Fn):Cfg:=cf [Qz0 F_,Qax DA]
def WM (F_ DA:Fn):Fn:=An PG (Qgu F_ DA) 64 36 Qe1 Qn1
theorem Zbu (F_ DA:Fn) (x0:Rw) (x1 x2 x3 x4 x5 x6:Int):WM F_ DA [.view At x0,I x1,I x2,I x3,I x4,I x5,I x6]=
 (DA [I x6,I x1]).bind λo2=>
 (F_ [.view At x0,I x1,I x2,I x3,I x4,I x5,jA o2 0]).bind λo3=>
 bif decide (gA o3 0<0)then
 some [I x2]
 else
 bif decide (0<=gA o3 0)&&decide (gA o3 0<(x0.length:Int))then
 bif decide (0<=gA o3 0)&&decide (gA o3 0<(x0.length:Int))then
 bif decide (0<=gA o3 0)&&decide (gA o3 0<(x0.length:Int))then
 some [I (wrap .i64 (gA (nth [] x0 (gA o3 0).toNat) 2+wrap .i64 (gA (nth [] x0 (gA o3 0).toNat) 3*wrap .i64 (gA o2 0-gA (nth [] x0 (gA o3 0).toNat) 0))))]
 else
 none
 else
 none
 else
 none:=by kernel_rfl
def Dr:=WM Jf Gy
theorem Zhz:Aj PG (Qgu Jf Gy):=Ap rfl ⟨Qwu,WH,trivial⟩
theorem QK:Al PG (36,Ad Qe1 Qn1 Dr):=rw1 (C:=(Qgu Jf Gy)) Zhz
def YQ:Sk:=⟨[tf [CS.ptr 20000 0]],[(20000,119,cS)],[]⟩
def Qbv:Sk:=⟨[TS.v true ([CS.sl At]++cc 5)],[(20000,119,cS)],[]⟩
def Zhn (M:Fn):Nat×Spec:=(27,Ad YQ Qbv M)
def Q0i:Fn:=An PG WB 64 27 YQ Qbv
theorem Zf9 (K:Kf) (c:Cv):Q0i (Ac K c)=
 bif((K.t.aD.map AL).length*80).ble 140737488355328 then
 some (A_ K.t++Ac K c)
 else
 none:=by kernel_rfl
def KP:=Q0i
theorem Z2n:Al PG (27,Ad YQ Qbv KP):=rw1 (C:=WB) Z0p
def Q5r (M:Fn):Nat×Spec:=(174,Ad VV Qn1 M)
def Sc:Fn:=An PG WB 64 174 VV Qn1
theorem Zn (x0 x1 x2 x3:Int):Sc [I x0,I x1,I x2,I x3]=
 bif decide (x3<=0)then
 some [I 0]
 else
 bif decide (x1<=0)then
 some [I 0]
 else
 bif decide (x1=0)then
 none
 else
 some [I (wrap .i64 (wrap .i64 (wrap .i64 ((wrap .i64 (x3-1)).tdiv x1)*x3)-wrap .i64 (x1*wrap .i64 ((wrap .i64 (wrap .i64 ((wrap .i64 (x3-1)).tdiv x1)*wrap .i64 (wrap .i64 ((wrap .i64 (x3-1)).tdiv x1)+1))).tdiv 2))))]:=by kernel_rfl
def Hl:=Sc
theorem Q0r:Al PG (174,Ad VV Qn1 Hl):=rw1 (C:=WB) Z0p
def Qjg (M:Fn):Nat×Spec:=(87,Ad Qh1 Qnv M)
def Q55:Fn:=An PG WB 64 87 Qh1 Qnv
theorem Zre (x0 x1 x2:Int):Q55 [I x0,I x1,I x2]=
 bif decide (1<=x0)then
 bif decide (x0<=65536)then
 bif decide (2<=x1)then
 bif decide (x1<=65536)then
 bif decide (1<=x2)then
 some [B (decide (x2<=16777216))]
 else
 some [B false]
 else
 some [B false]
 else
 some [B false]
 else
 some [B false]
 else
 some [B false]:=by kernel_rfl
def Fe:=Q55
theorem Qje:Al PG (87,Ad Qh1 Qnv Fe):=rw1 (C:=WB) Z0p
def Yq:Sk:=⟨[TS.v true [ci,ci,ci],tf [ci],tf [ci]],[],[]⟩
def XJ (M:Fn):Nat×Spec:=(129,Ad Yq Qn1 M)
def Qiq (Ds BW:Fn):Cfg:=cf [Q5r Ds,Qjg BW]
def Qzu:Sk:=⟨[td,tf [ci],td,tf [CS.ptr 3 0],td,td,td,tf [ci],tf [ci]]++dd 49,[(3,29,[ci,ci,ci])],[]⟩
def Q0k:List (Ex×Sk):=[(Ex.exit 0,⟨dd 7++[tf [ci]]++dd 50,[],[]⟩)]
def Lb (Ds BW:Fn):Lp:=A0 PG (Qiq Ds BW) 64 4 (AY PG 129 4) Qzu Q0k
def Qv0 (Ds BW:Fn) (N4:Lp):Cfg:=(Qiq Ds BW).loop 4 Qzu Q0k N4
def Tq (Ds BW:Fn) (N4:Lp):Fn:=An PG (Qv0 Ds BW N4) 64 129 Yq Qn1
theorem Qkc (Ds BW:Fn) (v0 v1 v2 v3 v4 v5:Int):Lb Ds BW [I v0,I v1,I v2,I v3,I v4,I v5]=
 bif decide (v1<v2)then
 (Ds [I v3,I v4,I v5,I (wrap .i64 (v2-wrap .i64 ((wrap .i64 (v2-v1)).tdiv 2)))]).bind λo4=>
 bif decide (wrap .i64 (v0-wrap .i64 (v2-wrap .i64 ((wrap .i64 (v2-v1)).tdiv 2)))>=gA o4 0)then
 some (0,[I v0,I (wrap .i64 (v2-wrap .i64 ((wrap .i64 (v2-v1)).tdiv 2))),I v2,I v3,I v4,I v5])
 else
 some (0,[I v0,I v1,I (wrap .i64 (wrap .i64 (v2-wrap .i64 ((wrap .i64 (v2-v1)).tdiv 2))-1)),I v3,I v4,I v5])
 else
 some (1,[I v1]):=by kernel_rfl
theorem Qya (Ds BW:Fn) (N4:Lp) (x0 x1 x2 x3 x4:Int):Tq Ds BW N4 [I x0,I x1,I x2,I x3,I x4]=
 (BW [I x0,I x1,I x2]).bind λo5=>
 bif !bA o5 0 then
 some [I 0]
 else
 bif decide (mx x4 x3>1099511627776)then
 some [I 0]
 else
 bif decide (mn x4 x3< -1099511627776)then
 some [I 0]
 else
 (N4 [I x3,I (wrap .i64 (wrap .i64 (0-x4)-x1)),I (mn (wrap .i64 (x1-x4)) x0),I x0,I x1,I x2]).bind λo6=>
 bif o6.1.beq 1 then
 some [I (wrap .i64 (0-gA o6.2 0))]
 else
 none:=by kernel_rfl
def Qqx:=Am (Lb Hl Fe)
def Fq:=Tq Hl Fe Qqx
theorem Qsv:Aj PG (Qiq Hl Fe):=Ap rfl ⟨Q0r,Qje,trivial⟩
theorem ZI:Al PG (129,Ad Yq Qn1 Fq):=rw2 (C:=(Qv0 Hl Fe Qqx)) (fl fb Qsv) Qsv
def Qrk (M:Fn):Nat×Spec:=(128,Ad Yq Qnv M)
def ZF (Ds:Fn):Cfg:=cf [Q5r Ds]
def Py (Ds:Fn):Fn:=An PG (ZF Ds) 64 128 Yq Qnv
theorem Qjn (Ds:Fn) (x0 x1 x2 x3 x4:Int):Py Ds [I x0,I x1,I x2,I x3,I x4]=
 bif decide (x4<wrap .i64 (0-x0))then
 some [B false]
 else
 bif decide (x4>x0)then
 some [B false]
 else
 bif x3==0 then
 bif decide (x4>x1)then
 some [B false]
 else
 (Ds [I x0,I x1,I x2,I (wrap .i64 (0-x4))]).bind λo4=>
 bif decide (x3>=gA o4 0)then
 (Ds [I x0,I x1,I x2,I x4]).bind λo5=>
 some [B (decide (x3<=wrap .i64 (16777216-gA o5 0)))]
 else
 some [B false]
 else
 (Ds [I x0,I x1,I x2,I (wrap .i64 (0-x4))]).bind λo6=>
 bif decide (x3>=gA o6 0)then
 (Ds [I x0,I x1,I x2,I x4]).bind λo7=>
 some [B (decide (x3<=wrap .i64 (16777216-gA o7 0)))]
 else
 some [B false]:=by kernel_rfl
def He:=Py Hl
theorem Zi6:Aj PG (ZF Hl):=Ap rfl ⟨Q0r,trivial⟩
theorem Qs1:Al PG (128,Ad Yq Qnv He):=rw1 (C:=(ZF Hl)) Zi6
def Qpq:Sk:=⟨[TS.tup [(false,[CS.sl Aa]),(false,[CS.bool])]],[],[]⟩
def Zb6 (M:Fn):Nat×Spec:=(82,Ad Yq Qpq M)
def WS (BB CY BW:Fn):Cfg:={cf [XJ BB,Qrk CY,Qjg BW]with prom:=λb=>bif Nat.beq b 4 then [(8,3)]else []}
def Qwk:Sk:=⟨[td,tf [ci],tf [ci],tf [CS.ptr 3 0],td,td,td,td,tf [CS.own 8 1]]++dd 27,[(3,29,[ci,ci,ci])],[(8,3,Aa)]⟩
def Q77:List (Ex×Sk):=[(Ex.ret,⟨dd 6++[tf [CS.nil],tf [CS.bool]]++dd 28,[],[]⟩),(Ex.exit 0,⟨dd 8++[tf [CS.own 8 1]]++dd 27,[],[(8,3,Aa)]⟩)]
def It (BB CY BW:Fn):Lp:=A0 PG (WS BB CY BW) 64 4 (AY PG 82 4) Qwk Q77
def Zac (BB CY BW:Fn) (N4:Lp):Cfg:=(WS BB CY BW).loop 4 Qwk Q77 N4
def Q1 (BB CY BW:Fn) (N4:Lp):Fn:=An PG (Zac BB CY BW N4) 64 82 Yq Qpq
theorem PU (BB CY BW:Fn) (v0:Rw) (v1 v2 v3 v4 v5:Int):It BB CY BW [.view Aa v0,I v1,I v2,I v3,I v4,I v5]=
 bif decide (v1>0)then
 bif(v0.length:Int)==4096 then
 some (1,[B false])
 else
 (BB [I v3,I v4,I v5,I v1,I v2]).bind λo9=>
 bif((v0++[[I (wrap .i64 (v1+gA o9 0))]]).length*8).ble 140737488355328 then
 some (0,[.view Aa (v0++[[I (wrap .i64 (v1+gA o9 0))]]),I (wrap .i64 (v1+gA o9 0)),jA o9 0,I v3,I v4,I v5])
 else
 none
 else
 some (2,[.view Aa v0]):=by kernel_rfl
theorem YL (BB CY BW:Fn) (N4:Lp) (x0 x1 x2 x3 x4:Int):Q1 BB CY BW N4 [I x0,I x1,I x2,I x3,I x4]=
 (BW [I x0,I x1,I x2]).bind λo10=>
 bif !bA o10 0 then
 some [.view Aa [],B false]
 else
 (CY [I x0,I x1,I x2,I x3,I x4]).bind λo11=>
 bif !bA o11 0 then
 some [.view Aa [],B false]
 else
 (N4 [.view Aa [],I x3,I x4,I x0,I x1,I x2]).bind λo12=>
 bif o12.1.beq 1 then
 some [.view Aa [],B (bA o12.2 0)]
 else
 bif o12.1.beq 2 then
 some [.view Aa (wA o12.2 0),B true]
 else
 none:=by kernel_rfl
def Q0v:=Am (It Fq He Fe)
def J6:=Q1 Fq He Fe Q0v
theorem Qtb:Aj PG (WS Fq He Fe):=Ap rfl ⟨ZI,Qs1,Qje,trivial⟩
theorem Zdo:Al PG (82,Ad Yq Qpq J6):=rw2 (C:=(Zac Fq He Fe Q0v)) (fl fb Qtb) Qtb
def Qi5:Sk:=⟨[TS.v true [ci,ci,ci],TS.v true (cc 6)],[],[]⟩
def Wa (M:Fn):Nat×Spec:=(39,Ad Qi5 Qpq M)
def Qc4 (GI:Fn):Cfg:=cf [Zb6 GI]
def Qyd:Sk:=⟨dd 8++[tf [CS.own 25 1],tf [ci]]++dd 18++[tf [CS.sl Aa],tf [ci],tf [ci]]++dd 13,[],[(25,3,Aa)]⟩
def Qru:List (Ex×Sk):=[(Ex.exit 0,⟨dd 8++[tf [CS.own 25 1]]++dd 35,[],[(25,3,Aa)]⟩)]
def Hp (GI:Fn):Lp:=A0 PG (Qc4 GI) 64 7 (AY PG 39 7) Qyd Qru
def Qtu (GI:Fn) (N7:Lp):Cfg:=(Qc4 GI).loop 7 Qyd Qru N7
def MY (GI:Fn) (N7:Lp):Fn:=An PG (Qtu GI N7) 64 39 Qi5 Qpq
theorem Qn7 (GI:Fn) (v0:Rw) (v1:Int) (v2:Rw) (v3 v4:Int):Hp GI [.view Aa v0,I v1, .view Aa v2,I v3,I v4]=
 bif decide (v4<v3)then
 bif decide (0<=v4)&&decide (v4<(v2.length:Int))then
 bif decide (0<=v4)&&decide (v4<(v0.length:Int))then
 some (0,[.view Aa (v0.set v4.toNat [I (wrap .i64 (v1+gA (nth [] v2 v4.toNat) 0))]),I (wrap .i64 (v1+gA (nth [] v2 v4.toNat) 0)), .view Aa v2,I v3,I (wrap .i64 (v4+1))])
 else
 none
 else
 none
 else
 some (1,[.view Aa v0]):=by kernel_rfl
theorem SG (GI:Fn) (N7:Lp) (x0 x1 x2 x3 x4 x5 x6 x7 x8:Int):MY GI N7 [I x0,I x1,I x2,I x3,I x4,I x5,I x6,I x7,I x8]=
 (GI [I x0,I x1,I x2,I x4,I x5]).bind λo3=>
 bif !bA o3 1 then
 some [.view Aa [],B false]
 else
 bif decide ((↑(wA o3 0).length:Int)=(↑(wA o3 0).length:Int))then
 bif decide (0<=(↑(wA o3 0).length:Int))&&decide ((↑(wA o3 0).length:Int)*(↑8:Int)<=140737488355328)then
 (N7 [.view Aa (List.replicate (↑(wA o3 0).length:Int).toNat [I 0]),I x3, .view Aa (wA o3 0),I (↑(wA o3 0).length:Int),I 0]).bind λo4=>
 bif o4.1.beq 1 then
 some [.view Aa (wA o4.2 0),B true]
 else
 none
 else
 none
 else
 none:=by kernel_rfl
def Q10:=Am (Hp J6)
def EW:=MY J6 Q10
theorem Qwr:Aj PG (Qc4 J6):=Ap rfl ⟨Zdo,trivial⟩
theorem XS:Al PG (39,Ad Qi5 Qpq EW):=rw2 (C:=(Qtu J6 Q10)) (fl fb Qwr) Qwr
def YU (M:Fn):Nat×Spec:=(35,Ad Qi5 Qhr M)
def U9 (CG:Fn):Cfg:=cf [Wa CG]
def Lw (CG:Fn):Fn:=An PG (U9 CG) 64 35 Qi5 Qhr
theorem TO (CG:Fn) (x0 x1 x2 x3 x4 x5 x6 x7 x8:Int):Lw CG [I x0,I x1,I x2,I x3,I x4,I x5,I x6,I x7,I x8]=
 (CG [I x0,I x1,I x2,I x3,I x4,I x5,I x6,I x7,I x8]).bind λo1=>
 bif !bA o1 1 then
 some [I 0,B false]
 else
 bif(↑(wA o1 0).length:Int)==0 then
 some [I x3,B true]
 else
 bif decide (0<=wrap .i64 ((↑(wA o1 0).length:Int)-1))&&decide (wrap .i64 ((↑(wA o1 0).length:Int)-1)<(↑(wA o1 0).length:Int))then
 some [I (Ag (nth .dead (nth [] (wA o1 0) (wrap .i64 ((↑(wA o1 0).length:Int)-1)).toNat) 0)),B true]
 else
 none:=by kernel_rfl
def DY:=Lw EW
theorem Znm:Aj PG (U9 EW):=Ap rfl ⟨XS,trivial⟩
theorem Qnb:Al PG (35,Ad Qi5 Qhr DY):=rw1 (C:=(U9 EW)) Znm
def WN:Sk:=⟨[TS.v true (cc 6)],[(20000,119,cS)],[]⟩
def Zb1 (M:Fn):Nat×Spec:=(23,Ad YQ WN M)
def Qxb:Fn:=An PG WB 64 23 YQ WN
theorem Zrb (K:Kf) (c:Cv):Qxb (Ac K c)=
 some (I c.m0::I c.m1::I c.m2::I c.m3::I c.m4::I c.m5::Ac K c):=by kernel_rfl
def LC:=Qxb
theorem Znd:Al PG (23,Ad YQ WN LC):=rw1 (C:=WB) Z0p
def YV:Sk:=⟨[TS.v true (cc 9++[CS.sl Aa]),tf [ci]],[],[]⟩
def Qqw (M:Fn):Nat×Spec:=(77,Ad YV Qn1 M)
def Qvc:Fn:=An PG WB 64 77 YV Qn1
theorem Zuw (x0 x1 x2 x3 x4 x5 x6 x7 x8:Int) (x9:Rw) (x10:Int):Qvc [I x0,I x1,I x2,I x3,I x4,I x5,I x6,I x7,I x8, .view Aa x9,I x10]=
 bif x10== -1 then
 some [I (wrap .i64 (0-x6))]
 else
 some [I 0]:=by kernel_rfl
def Jq:=Qvc
theorem Q4t:Al PG (77,Ad YV Qn1 Jq):=rw1 (C:=WB) Z0p
def Uw:Sk:=⟨[TS.v true (cc 9++[CS.sl Aa]),TS.v true (cc 10),tf [ci],tf [ci]],[],[]⟩
def Zxc (M:Fn):Nat×Spec:=(78,Ad Uw Qn1 M)
def Qo3 (BM:Fn):Cfg:=cf [Qqw BM]
def Po (BM:Fn):Fn:=An PG (Qo3 BM) 64 78 Uw Qn1
abbrev Qjr (x20:Int) (BM:Fn) (x0 x1 x2 x3 x4 x5 x6 x7 x8:Int) (x9:Rw) (x17 x18 x19:Int):Option (List AC):=
 bif decide (x20=(↑0:Int))then
 (BM [I x0,I x1,I x2,I x3,I x4,I x5,I x6,I x7,I x8, .view Aa x9,I x17]).bind λo30=>
 some [jA o30 0]
 else
 bif decide (x20=(↑(0+1):Int))then
 (BM [I x0,I x1,I x2,I x3,I x4,I x5,I x6,I x7,I x8, .view Aa x9,I x18]).bind λo31=>
 some [jA o31 0]
 else
 bif decide (x20=(↑(0+1+1):Int))then
 (BM [I x0,I x1,I x2,I x3,I x4,I x5,I x6,I x7,I x8, .view Aa x9,I x19]).bind λo32=>
 some [jA o32 0]
 else
 none
abbrev RH (x21 x10 x6:Int) (h4_0:Bool):Option (List AC):=
 bif h4_0 then
 some [I (wrap .i64 (0-mn (wrap .i64 (x21-x10)) x6))]
 else
 some [I (wrap .i64 (mn (wrap .i64 (x21-x10)) x6-x6))]
abbrev Sh (x20:Int) (BM:Fn) (x0 x1 x2 x3 x4 x5 x6 x7 x8:Int) (x9:Rw) (x17 x18 x19 x21 x10:Int) (h1_0:Bool):Option (List AC):=
 bif h1_0 then
 Qjr x20 BM x0 x1 x2 x3 x4 x5 x6 x7 x8 x9 x17 x18 x19
 else
 bif decide (x20=(↑0:Int))then
 RH x21 x10 x6 (x17== -1)
 else
 bif decide (x20=(↑(0+1):Int))then
 RH x21 x10 x6 (x18== -1)
 else
 bif decide (x20=(↑(0+1+1):Int))then
 RH x21 x10 x6 (x19== -1)
 else
 none
abbrev SD (x20:Int) (BM:Fn) (x0 x1 x2 x3 x4 x5 x6 x7 x8:Int) (x9:Rw) (x17 x18 x19 x21 x10:Int) (h2_0 h2_1 h2_2:Bool):Option (List AC):=
 bif decide (x20=(↑0:Int))then
 Sh x20 BM x0 x1 x2 x3 x4 x5 x6 x7 x8 x9 x17 x18 x19 x21 x10 h2_0
 else
 bif decide (x20=(↑(0+1):Int))then
 Sh x20 BM x0 x1 x2 x3 x4 x5 x6 x7 x8 x9 x17 x18 x19 x21 x10 h2_1
 else
 bif decide (x20=(↑(0+1+1):Int))then
 Sh x20 BM x0 x1 x2 x3 x4 x5 x6 x7 x8 x9 x17 x18 x19 x21 x10 h2_2
 else
 none
theorem VT (BM:Fn) (x0 x1 x2 x3 x4 x5 x6 x7 x8:Int) (x9:Rw) (x10 x11 x12 x13 x14 x15 x16 x17 x18 x19 x20 x21:Int):Po BM [I x0,I x1,I x2,I x3,I x4,I x5,I x6,I x7,I x8, .view Aa x9,I x10,I x11,I x12,I x13,I x14,I x15,I x16,I x17,I x18,I x19,I x20,I x21]=
 bif x13 !=0 then
 Qjr x20 BM x0 x1 x2 x3 x4 x5 x6 x7 x8 x9 x17 x18 x19
 else
 bif decide (x20=(↑0:Int))then
 SD x20 BM x0 x1 x2 x3 x4 x5 x6 x7 x8 x9 x17 x18 x19 x21 x10 (x14==x17) (x14==x18) (x14==x19)
 else
 bif decide (x20=(↑(0+1):Int))then
 SD x20 BM x0 x1 x2 x3 x4 x5 x6 x7 x8 x9 x17 x18 x19 x21 x10 (x15==x17) (x15==x18) (x15==x19)
 else
 bif decide (x20=(↑(0+1+1):Int))then
 SD x20 BM x0 x1 x2 x3 x4 x5 x6 x7 x8 x9 x17 x18 x19 x21 x10 (x16==x17) (x16==x18) (x16==x19)
 else
 none:=by kernel_rfl
def Ts:=Po Jq
theorem Zm3:Aj PG (Qo3 Jq):=Ap rfl ⟨Q4t,trivial⟩
theorem Zlp:Al PG (78,Ad Uw Qn1 Ts):=rw1 (C:=(Qo3 Jq)) Zm3
def Zw8 (M:Fn):Nat×Spec:=(118,Ad YV Qn1 M)
def Q49:Fn:=An PG WB 64 118 YV Qn1
theorem Zds (x0 x1 x2 x3 x4 x5 x6 x7 x8:Int) (x9:Rw) (x10:Int):Q49 [I x0,I x1,I x2,I x3,I x4,I x5,I x6,I x7,I x8, .view Aa x9,I x10]=
 bif decide (x0<=0)then
 some [I 0]
 else
 bif decide (wrap .i64 (2*x0)<=0)then
 some [I 0]
 else
 bif decide (wrap .i64 (2*x0)=0)then
 none
 else
 bif decide (wrap .i64 (2*x0)=0)then
 none
 else
 bif decide ((wrap .i64 (wrap .i64 (2*x10)+x0)).tmod (wrap .i64 (2*x0))<0)then
 some [I (wrap .i64 (wrap .i64 ((wrap .i64 (wrap .i64 (2*x10)+x0)).tdiv (wrap .i64 (2*x0)))-1))]
 else
 some [I (wrap .i64 ((wrap .i64 (wrap .i64 (2*x10)+x0)).tdiv (wrap .i64 (2*x0))))]:=by kernel_rfl
def KK:=Q49
theorem Z02:Al PG (118,Ad YV Qn1 KK):=rw1 (C:=WB) Z0p
def Zxr (M:Fn):Nat×Spec:=(119,Ad YV Qn1 M)
def Wd (AJ:Fn):Cfg:=cf [KW AJ]
def Q6m (AJ:Fn):Fn:=An PG (Wd AJ) 64 119 YV Qn1
theorem Zh5 (AJ:Fn) (x0 x1 x2 x3 x4 x5 x6 x7 x8:Int) (x9:Rw) (x10:Int):Q6m AJ [I x0,I x1,I x2,I x3,I x4,I x5,I x6,I x7,I x8, .view Aa x9,I x10]=
 bif decide (wrap .i64 ((x9.length:Int)-1)<0)then
 some [I 0]
 else
 bif decide (wrap .i64 (x10-x7)<=0)then
 bif decide (0<=0)&&decide (0<(x9.length:Int))then
 some [jA (nth [] x9 0) 0]
 else
 none
 else
 bif decide (x8<=0)then
 bif decide (0<=0)&&decide (0<(x9.length:Int))then
 some [jA (nth [] x9 0) 0]
 else
 none
 else
 bif decide (x8=0)then
 none
 else
 bif decide (wrap .i64 ((wrap .i64 (x10-x7)).tdiv x8)>=wrap .i64 ((x9.length:Int)-1))then
 bif decide (0<=wrap .i64 ((x9.length:Int)-1))&&decide (wrap .i64 ((x9.length:Int)-1)<(x9.length:Int))then
 some [jA (nth [] x9 (wrap .i64 ((x9.length:Int)-1)).toNat) 0]
 else
 none
 else
 bif decide (0<=wrap .i64 (wrap .i64 ((wrap .i64 (x10-x7)).tdiv x8)+1))&&decide (wrap .i64 (wrap .i64 ((wrap .i64 (x10-x7)).tdiv x8)+1)<(x9.length:Int))then
 bif decide (0<=wrap .i64 ((wrap .i64 (x10-x7)).tdiv x8))&&decide (wrap .i64 ((wrap .i64 (x10-x7)).tdiv x8)<(x9.length:Int))then
 (AJ [I (wrap .i64 (Ag (nth .dead (nth [] x9 (wrap .i64 (wrap .i64 ((wrap .i64 (x10-x7)).tdiv x8)+1)).toNat) 0)-Ag (nth .dead (nth [] x9 (wrap .i64 ((wrap .i64 (x10-x7)).tdiv x8)).toNat) 0))),I (wrap .i64 (wrap .i64 (x10-x7)-wrap .i64 (wrap .i64 ((wrap .i64 (x10-x7)).tdiv x8)*x8))),I x8,I 2]).bind λo1=>
 bif decide (0<=wrap .i64 ((wrap .i64 (x10-x7)).tdiv x8))&&decide (wrap .i64 ((wrap .i64 (x10-x7)).tdiv x8)<(x9.length:Int))then
 some [I (wrap .i64 (Ag (nth .dead (nth [] x9 (wrap .i64 ((wrap .i64 (x10-x7)).tdiv x8)).toNat) 0)+gA o1 0))]
 else
 none
 else
 none
 else
 none:=by kernel_rfl
def Ks:=Q6m Bz
theorem Zfu:Aj PG (Wd Bz):=Ap rfl ⟨Ls,trivial⟩
theorem Zew:Al PG (119,Ad YV Qn1 Ks):=rw1 (C:=(Wd Bz)) Zfu
def Zo1 (M:Fn):Nat×Spec:=(76,Ad YV Qn1 M)
def Qkj (NC NT:Fn):Cfg:=cf [Zw8 NC,Zxr NT]
def Qzm (NC NT:Fn):Fn:=An PG (Qkj NC NT) 64 76 YV Qn1
theorem Zl2 (NC NT:Fn) (x0 x1 x2 x3 x4 x5 x6 x7 x8:Int) (x9:Rw) (x10:Int):Qzm NC NT [I x0,I x1,I x2,I x3,I x4,I x5,I x6,I x7,I x8, .view Aa x9,I x10]=
 (NT [I x0,I x1,I x2,I x3,I x4,I x5,I x6,I x7,I x8, .view Aa x9,I x10]).bind λo2=>
 (NC [I x0,I x1,I x2,I x3,I x4,I x5,I x6,I x7,I x8, .view Aa x9,I (wrap .i64 (x10+gA o2 0))]).bind λo3=>
 some [jA o3 0]:=by kernel_rfl
def NF:=Qzm KK Ks
theorem Zz9:Aj PG (Qkj KK Ks):=Ap rfl ⟨Z02,Zew,trivial⟩
theorem Z2q:Al PG (76,Ad YV Qn1 NF):=rw1 (C:=(Qkj KK Ks)) Zz9
def YD:Sk:=⟨[TS.v true [ci,ci,ci,CS.sl Ai,CS.sl kPt],tf [ci]],[],[]⟩
def UP:Sk:=⟨[TS.tup [(false,[ci]),(false,[ci])]],[],[]⟩
def Yd (M:Fn):Nat×Spec:=(117,Ad YD UP M)
def Qx2:Sk:=⟨[td,tf [ci],tf [CS.ptr 2 0]]++dd 8++[tf [CS.sl Ai],tf [ci],tf [ci]]++dd 24,[(2,58,[ci,ci,ci,CS.sl Ai,CS.sl kPt])],[]⟩
def Qst:List (Ex×Sk):=[(Ex.ret,⟨[td,td,td,td,tf [ci],tf [ci]]++dd 32,[],[]⟩),(Ex.exit 0,⟨[td]++dd 37,[],[]⟩)]
def Q9:Lp:=A0 PG WB 64 3 (AY PG 117 3) Qx2 Qst
def Q1m (N3:Lp):Cfg:=WB.loop 3 Qx2 Qst N3
def Qr7 (N3:Lp):Fn:=An PG (Q1m N3) 64 117 YD UP
theorem Qtp (v0:Int) (v1:Rw) (v2 v3 v4 v5 v6:Int) (v7 v8:Rw):Q9 [I v0, .view Ai v1,I v2,I v3,I v4,I v5,I v6, .view Ai v7, .view kPt v8]=
 bif decide (v3<v2)then
 bif decide (0<=v3)&&decide (v3<(v1.length:Int))then
 bif decide (v0<gA (nth [] v1 v3.toNat) 3)then
 some (1,[I v3,I v0])
 else
 bif v3==wrap .i64 ((v7.length:Int)-1)then
 some (1,[I v3,jA (nth [] v1 v3.toNat) 3])
 else
 some (0,[I (wrap .i64 (v0-gA (nth [] v1 v3.toNat) 3)), .view Ai v1,I v2,I (wrap .i64 (v3+1)),I v4,I v5,I v6, .view Ai v7, .view kPt v8])
 else
 none
 else
 some (2,[]):=by kernel_rfl
theorem Q34 (N3:Lp) (x0 x1 x2:Int) (x3 x4:Rw) (x5:Int):Qr7 N3 [I x0,I x1,I x2, .view Ai x3, .view kPt x4,I x5]=
 (N3 [I (mx x5 0), .view Ai x3,I (x3.length:Int),I 0,I x0,I x1,I x2, .view Ai x3, .view kPt x4]).bind λo1=>
 bif o1.1.beq 1 then
 some [jA o1.2 0,jA o1.2 1]
 else
 bif o1.1.beq 2 then
 some [I (-1),I 0]
 else
 none:=by kernel_rfl
def Mw:=Am (Q9)
def EV:=Qr7 Mw
theorem WI:Al PG (117,Ad YD UP EV):=rw2 (C:=(Q1m Mw)) (fl fb Z0p) Z0p
def Zuc (M:Fn):Nat×Spec:=(74,Ad YD Qh1 M)
def Vs (AJ DG:Fn):Cfg:={cf [KW AJ,Yd DG]with unroll:=[9]}
def Qd6 (AJ DG:Fn):Fn:=An PG (Vs AJ DG) 64 74 YD Qh1
theorem Zn5 (AJ DG:Fn) (x0 x1 x2:Int) (x3 x4:Rw) (x5:Int):Qd6 AJ DG [I x0,I x1,I x2, .view Ai x3, .view kPt x4,I x5]=
 (DG [I x0,I x1,I x2, .view Ai x3, .view kPt x4,I x5]).bind λo7=>
 bif decide (gA o7 0<0)then
 some [I x0,I x1,I x2]
 else
 bif decide (gA o7 0>0)then
 bif decide (0<=wrap .i64 (gA o7 0-1))&&decide (wrap .i64 (gA o7 0-1)<(x3.length:Int))then
 bif decide (0<=gA o7 0)&&decide (gA o7 0<(x3.length:Int))then
 (AJ [I (wrap .i64 (gA (nth [] x3 (gA o7 0).toNat) 0-gA (nth [] x3 (wrap .i64 (gA o7 0-1)).toNat) 0)),jA o7 1,jA (nth [] x3 (gA o7 0).toNat) 3,I 2]).bind λo8=>
 (AJ [I (wrap .i64 (gA (nth [] x3 (gA o7 0).toNat) 1-gA (nth [] x3 (wrap .i64 (gA o7 0-1)).toNat) 1)),jA o7 1,jA (nth [] x3 (gA o7 0).toNat) 3,I 2]).bind λo9=>
 (AJ [I (wrap .i64 (gA (nth [] x3 (gA o7 0).toNat) 2-gA (nth [] x3 (wrap .i64 (gA o7 0-1)).toNat) 2)),jA o7 1,jA (nth [] x3 (gA o7 0).toNat) 3,I 2]).bind λo10=>
 some [I (wrap .i64 (gA (nth [] x3 (wrap .i64 (gA o7 0-1)).toNat) 0+gA o8 0)),I (wrap .i64 (gA (nth [] x3 (wrap .i64 (gA o7 0-1)).toNat) 1+gA o9 0)),I (wrap .i64 (gA (nth [] x3 (wrap .i64 (gA o7 0-1)).toNat) 2+gA o10 0))]
 else
 none
 else
 none
 else
 bif decide (0<=gA o7 0)&&decide (gA o7 0<(x3.length:Int))then
 (AJ [I (wrap .i64 (gA (nth [] x3 (gA o7 0).toNat) 0-x0)),jA o7 1,jA (nth [] x3 (gA o7 0).toNat) 3,I 2]).bind λo11=>
 (AJ [I (wrap .i64 (gA (nth [] x3 (gA o7 0).toNat) 1-x1)),jA o7 1,jA (nth [] x3 (gA o7 0).toNat) 3,I 2]).bind λo12=>
 (AJ [I (wrap .i64 (gA (nth [] x3 (gA o7 0).toNat) 2-x2)),jA o7 1,jA (nth [] x3 (gA o7 0).toNat) 3,I 2]).bind λo13=>
 some [I (wrap .i64 (x0+gA o11 0)),I (wrap .i64 (x1+gA o12 0)),I (wrap .i64 (x2+gA o13 0))]
 else
 none:=by kernel_rfl
def PS:=Qd6 Bz EV
theorem Zlo:Aj PG (Vs Bz EV):=Ap rfl ⟨Ls,WI,trivial⟩
theorem Z13:Al PG (74,Ad YD Qh1 PS):=rw1 (C:=(Vs Bz EV)) Zlo
def Qc6:Sk:=⟨[TS.v true [ci,ci,ci,CS.sl Ai,CS.sl kPt],TS.v true (cc 9++[CS.sl Aa]++cc 9++[CS.sl Aa]++cc 9++[CS.sl Aa]),TS.v true ([CS.sl At]++cc 5),tf [ci]],[],[]⟩
def ZM (M:Fn):Nat×Spec:=(29,Ad Qc6 Qh1 M)
def Qm2 (FO BM FM F_ Oy A7 DA:Fn):Cfg:={cf [Zxc FO,Qqw BM,Zo1 FM,Qz0 F_,Zuc Oy,QY A7,Qax DA]with unroll:=[6]}
def Qbx (FO BM FM F_ Oy A7 DA:Fn):Fn:=An PG (Qm2 FO BM FM F_ Oy A7 DA) 64 29 Qc6 Qh1
abbrev UV (FM:Fn) (x:Ax3) (o27 o28:List AC) (BM:Fn) (t:Trk) (h1_0:AC) (FO:Fn) (o25:List AC) (h2_0:AC):Option (List AC):=
 (FM [I x.c.step,I x.c.speed,I x.c.accel,I x.c.jerk,I x.c.low,I x.c.high,I x.c.back,I x.c.origin,I x.c.spacing, .view Aa (x.c.pitch.map Aq),jA o27 2]).bind λo33=>
 bif decide (gA o28 0<0)then
 (BM [I x.c.step,I x.c.speed,I x.c.accel,I x.c.jerk,I x.c.low,I x.c.high,I x.c.back,I x.c.origin,I x.c.spacing, .view Aa (x.c.pitch.map Aq),I t.dirs.z]).bind λo34=>
 some [h1_0,h2_0,I (wrap .i64 (gA o33 0+gA o34 0))]
 else
 bif decide (0<=gA o28 0)&&decide (gA o28 0<((t.aD.map AL).length:Int))then
 (FO (I x.c.step::I x.c.speed::I x.c.accel::I x.c.jerk::I x.c.low::I x.c.high::I x.c.back::I x.c.origin::I x.c.spacing:: .view Aa (x.c.pitch.map Aq)::(AN At (nth [] (t.aD.map AL) (gA o28 0).toNat)++[I (wrap .i64 (wrap .i64 (0+1)+1)),jA o25 0]))).bind λo35=>
 some [h1_0,h2_0,I (wrap .i64 (gA o33 0+gA o35 0))]
 else
 none
abbrev Qh0 (FM:Fn) (x:Ax3) (o27 o28:List AC) (BM:Fn) (t:Trk) (FO:Fn) (o25:List AC) (h1_0:AC):Option (List AC):=
 (FM [I x.b.step,I x.b.speed,I x.b.accel,I x.b.jerk,I x.b.low,I x.b.high,I x.b.back,I x.b.origin,I x.b.spacing, .view Aa (x.b.pitch.map Aq),jA o27 1]).bind λo31=>
 bif decide (gA o28 0<0)then
 (BM [I x.b.step,I x.b.speed,I x.b.accel,I x.b.jerk,I x.b.low,I x.b.high,I x.b.back,I x.b.origin,I x.b.spacing, .view Aa (x.b.pitch.map Aq),I t.dirs.y]).bind λo32=>
 UV FM x o27 o28 BM t h1_0 FO o25 (I (wrap .i64 (gA o31 0+gA o32 0)))
 else
 bif decide (0<=gA o28 0)&&decide (gA o28 0<((t.aD.map AL).length:Int))then
 (FO (I x.b.step::I x.b.speed::I x.b.accel::I x.b.jerk::I x.b.low::I x.b.high::I x.b.back::I x.b.origin::I x.b.spacing:: .view Aa (x.b.pitch.map Aq)::(AN At (nth [] (t.aD.map AL) (gA o28 0).toNat)++[I (wrap .i64 (0+1)),jA o25 0]))).bind λo36=>
 UV FM x o27 o28 BM t h1_0 FO o25 (I (wrap .i64 (gA o31 0+gA o36 0)))
 else
 none
theorem Z0r (FO BM FM F_ Oy A7 DA:Fn) (x41:Int) (p:Pth) (x:Ax3) (t:Trk):Qbx FO BM FM F_ Oy A7 DA (pxt p x t [I x41])=
 (DA [I x41,I t.length]).bind λo25=>
 (A7 [.view At (t.aD.map AL),I t.length,I t.start,I t.dirs.x,I t.dirs.y,I t.dirs.z,jA o25 0]).bind λo26=>
 (Oy [I p.start.x,I p.start.y,I p.start.z, .view Ai (p.aE.map AB), .view kPt (p.aC.map Au),jA o26 0]).bind λo27=>
 (F_ [.view At (t.aD.map AL),I t.length,I t.start,I t.dirs.x,I t.dirs.y,I t.dirs.z,jA o25 0]).bind λo28=>
 (FM [I x.a.step,I x.a.speed,I x.a.accel,I x.a.jerk,I x.a.low,I x.a.high,I x.a.back,I x.a.origin,I x.a.spacing, .view Aa (x.a.pitch.map Aq),jA o27 0]).bind λo29=>
 bif decide (gA o28 0<0)then
 (BM [I x.a.step,I x.a.speed,I x.a.accel,I x.a.jerk,I x.a.low,I x.a.high,I x.a.back,I x.a.origin,I x.a.spacing, .view Aa (x.a.pitch.map Aq),I t.dirs.x]).bind λo30=>
 Qh0 FM x o27 o28 BM t FO o25 (I (wrap .i64 (gA o29 0+gA o30 0)))
 else
 bif decide (0<=gA o28 0)&&decide (gA o28 0<((t.aD.map AL).length:Int))then
 (FO (I x.a.step::I x.a.speed::I x.a.accel::I x.a.jerk::I x.a.low::I x.a.high::I x.a.back::I x.a.origin::I x.a.spacing:: .view Aa (x.a.pitch.map Aq)::(AN At (nth [] (t.aD.map AL) (gA o28 0).toNat)++[I 0,jA o25 0]))).bind λo40=>
 Qh0 FM x o27 o28 BM t FO o25 (I (wrap .i64 (gA o29 0+gA o40 0)))
 else
 none:=by kernel_rfl
def FG:=Qbx Ts Jq NF Jf PS Dr Gy
theorem Zyv:Aj PG (Qm2 Ts Jq NF Jf PS Dr Gy):=Ap rfl ⟨Zlp,Q4t,Z2q,Qwu,Z13,QK,WH,trivial⟩
theorem Zd:Al PG (29,Ad Qc6 Qh1 FG):=rw1 (C:=(Qm2 Ts Jq NF Jf PS Dr Gy)) Zyv
def US:Sk:=⟨[tf [ci],TS.v true (cc 13++[CS.bool,ci,CS.bool]++cc 5++[CS.bool])],[],[]⟩
def Zc7 (M:Fn):Nat×Spec:=(164,Ad US Qn1 M)
def Qal:Fn:=An PG WB 64 164 US Qn1
theorem Zvg (x0 x1 x2 x3 x4 x5 x6 x7 x8 x9 x10 x11 x12 x13:Int) (x14:Bool) (x15:Int) (x16:Bool) (x17 x18 x19 x20 x21:Int) (x22:Bool):Qal [I x0,I x1,I x2,I x3,I x4,I x5,I x6,I x7,I x8,I x9,I x10,I x11,I x12,I x13,B x14,I x15,B x16,I x17,I x18,I x19,I x20,I x21,B x22]=
 bif x1 !=10 then
 some [I x0]
 else
 bif decide (x20<0)then
 some [I x0]
 else
 bif decide (x20>=16)then
 some [I x0]
 else
 bif decide (wrap .u64 x20<0)then
 none
 else
 bif x22 then
 some [I (wrap .i64 (↑(BitVec.ofInt IntKind.i64.bits x0|||BitVec.ofInt IntKind.i64.bits (wrap .i64 (1*2^min (wrap .u64 x20).toNat IntKind.i64.bits))).toNat:Int))]
 else
 some [I (wrap .i64 (↑(BitVec.ofInt IntKind.i64.bits x0&&& ~~~BitVec.ofInt IntKind.i64.bits (wrap .i64 (1*2^min (wrap .u64 x20).toNat IntKind.i64.bits))).toNat:Int))]:=by kernel_rfl
def KB:=Qal
theorem Zrx:Al PG (164,Ad US Qn1 KB):=rw1 (C:=WB) Z0p
def Uy:Sk:=⟨[TS.v true [ci,ci,ci],TS.v true [ci,ci,CS.bool,CS.bool,CS.bool]],[],[]⟩
def Q0w (M:Fn):Nat×Spec:=(163,Ad Uy Qnv M)
def Qau:Fn:=An PG WB 64 163 Uy Qnv
theorem Zb3 (x0 x1 x2 x3 x4:Int) (x5 x6 x7:Bool):Qau [I x0,I x1,I x2,I x3,I x4,B x5,B x6,B x7]=
 bif x1==1 then
 some [B true]
 else
 bif x1==3 then
 some [B true]
 else
 bif x1==6 then
 some [B true]
 else
 bif x1==4 then
 bif x7 then
 some [B true]
 else
 some [B x6]
 else
 bif x1==2 then
 some [B x6]
 else
 some [B false]:=by kernel_rfl
def In:=Qau
theorem Zab:Al PG (163,Ad Uy Qnv In):=rw1 (C:=WB) Z0p
def Qho:Sk:=⟨[tf [CS.ptr 20000 0],tf [ci]],[(20000,119,cS)],[]⟩
def Zc:Sk:=⟨[tf [CS.sl Aa]],[(20000,119,cS)],[]⟩
def Zsi (M:Fn):Nat×Spec:=(111,Ad Qho Zc M)
def Qj4 (E_ CZ:Fn):Cfg:={cf [Zc7 E_,Q0w CZ]with prom:=λb=>bif Nat.beq b 2 then [(5,3)]else []}
def Qy2:Sk:=⟨[tf [CS.ptr 20000 0],tf [ci],td,td,td,tf [CS.own 5 1]]++dd 84,[(20000,119,cS)],[(5,3,Aa)]⟩
def Qxy:List (Ex×Sk):=[(Ex.exit 0,⟨[td,td,td,td,td,tf [CS.own 5 1]]++dd 84,[(20000,119,cS)],[(5,3,Aa)]⟩)]
def TU (E_ CZ:Fn):Lp:=A0 PG (Qj4 E_ CZ) 64 2 (AY PG 111 2) Qy2 Qxy
def Q88 (E_ CZ:Fn) (N2:Lp):Cfg:=(Qj4 E_ CZ).loop 2 Qy2 Qxy N2
def Qe8 (E_ CZ:Fn) (N2:Lp):Fn:=An PG (Q88 E_ CZ N2) 64 111 Qho Zc
abbrev Nk (K:Kf) (c:Cv) (v0:Rw) (E_:Fn) (v1:Int):Option (Nat×List AC):=
 bif gA (nth [] (K.p.aC.map Au) c.aJ.toNat) 1==5 then
 bif((v0++[[jA (nth [] (K.p.aC.map Au) c.aJ.toNat) 2]]).length*8).ble 140737488355328 then
 bif decide (0<=gA (nth [] (K.p.aC.map Au) c.aJ.toNat) 2)&&decide (gA (nth [] (K.p.aC.map Au) c.aJ.toNat) 2<((K.items.map Af).length:Int))then
 (E_ (I c.outs::AN Ah (nth [] (K.items.map Af) (gA (nth [] (K.p.aC.map Au) c.aJ.toNat) 2).toNat))).bind λo10=>
 some (0,(.view Aa (v0++[[jA (nth [] (K.p.aC.map Au) c.aJ.toNat) 2]])::I v1::Ac K {c with outs:=gA o10 0,aJ:=wrap .i64 (c.aJ+1)}))
 else
 none
 else
 none
 else
 some (0,(.view Aa v0::I v1::Ac K {c with aJ:=wrap .i64 (c.aJ+1)}))
theorem Zp4 (E_ CZ:Fn) (v0:Rw) (v1:Int) (K:Kf) (c:Cv):TU E_ CZ (.view Aa v0::I v1::Ac K c)=
 bif decide (c.aJ<((K.p.aC.map Au).length:Int))then
 bif decide (0<=c.aJ)&&decide (c.aJ<((K.p.aC.map Au).length:Int))then
 bif decide (gA (nth [] (K.p.aC.map Au) c.aJ.toNat) 0>v1)then
 some (1,(.view Aa v0::Ac K c))
 else
 bif gA (nth [] (K.p.aC.map Au) c.aJ.toNat) 0==v1 then
 bif decide (c.aJ>=c.next)then
 (CZ [jA (nth [] (K.p.aC.map Au) c.aJ.toNat) 0,jA (nth [] (K.p.aC.map Au) c.aJ.toNat) 1,jA (nth [] (K.p.aC.map Au) c.aJ.toNat) 2,I c.o0,I c.o1,B c.o2,B c.o3,B c.o4]).bind λo9=>
 bif bA o9 0 then
 some (1,(.view Aa v0::Ac K c))
 else
 Nk K c v0 E_ v1
 else
 Nk K c v0 E_ v1
 else
 Nk K c v0 E_ v1
 else
 none
 else
 some (1,(.view Aa v0::Ac K c)):=by kernel_rfl
theorem Zs0 (E_ CZ:Fn) (N2:Lp) (x0:Int) (K:Kf) (c:Cv):Qe8 E_ CZ N2 (I x0::Ac K c)=
 (N2 (.view Aa []::I x0::Ac K c)).bind λo13=>
 bif o13.1.beq 1 then
 some (.view Aa (wA o13.2 0)::cR 1 o13.2)
 else
 none:=by kernel_rfl
def Q12:=Am (TU KB In)
def QW:=Qe8 KB In Q12
theorem Qqe:Aj PG (Qj4 KB In):=Ap rfl ⟨Zrx,Zab,trivial⟩
theorem Zq1:Al PG (111,Ad Qho Zc QW):=rw2 (C:=(Q88 KB In Q12)) (fl fb Qqe) Qqe
def Qm5:Sk:=⟨[TS.v true [ci,ci,ci,CS.sl Ai,CS.sl kPt],TS.v true (cc 9++[CS.sl Aa]++cc 9++[CS.sl Aa]++cc 9++[CS.sl Aa]),TS.v true ([CS.sl At]++cc 5),tf [ci],tf [ci]],[],[]⟩
def Zhv (M:Fn):Nat×Spec:=(25,Ad Qm5 Qpa M)
def Qjk (BD:Fn):Cfg:={cf [ZM BD]with prom:=λb=>bif Nat.beq b 5 then [(11,130)]else [],unroll:=[9]}
def Qyx:Sk:=⟨[td,td,td,td,tf [ci],tf [CS.ptr 5 0],tf [CS.ptr 6 0],tf [CS.ptr 7 0],td,td,td,tf [CS.own 11 3],tf [CS.ptr 12 0],tf [ci]]++dd 54,[(5,58,[ci,ci,ci,CS.sl Ai,CS.sl kPt]),(6,27,cc 9++[CS.sl Aa]++cc 9++[CS.sl Aa]++cc 9++[CS.sl Aa]),(7,62,[CS.sl At]++cc 5),(12,44,[ci,ci,ci])],[(11,130,kPt)]⟩
def Q51:List (Ex×Sk):=[(Ex.exit 0,⟨dd 11++[tf [CS.own 11 3]]++dd 56,[],[(11,130,kPt)]⟩)]
def Z4 (BD:Fn):Lp:=A0 PG (Qjk BD) 64 5 (AY PG 25 5) Qyx Q51
def Q11 (BD:Fn) (N5:Lp):Cfg:=(Qjk BD).loop 5 Qyx Q51 N5
def Qls (BD:Fn) (N5:Lp):Fn:=An PG (Q11 BD N5) 64 25 Qm5 Qpa
abbrev OZ (o6:List AC) (v46 v1 v2:Int) (p:Pth) (x:Ax3) (t:Trk) (h1_0:Bool) (h1_1 h1_2:AC):Option (Nat×List AC):=
 bif gA o6 2 !=v46 then
 bif h1_0 then
 some (0,(h1_1::I v1::I (wrap .i64 (v2+1))::pxt p x t [jA o6 0,jA o6 1,jA o6 2]))
 else
 none
 else
 some (0,(h1_2::I v1::I (wrap .i64 (v2+1))::pxt p x t [jA o6 0,jA o6 1,jA o6 2]))
theorem Zyw (BD:Fn) (v0:Rw) (v1 v2:Int) (v44 v45 v46:Int) (p:Pth) (x:Ax3) (t:Trk):Z4 BD (.view kPt v0::I v1::I v2::pxt p x t [I v44,I v45,I v46])=
 bif decide (v2<v1)then
 (BD (pxt p x t [I (wrap .i64 (v2+1))])).bind λo6=>
 bif gA o6 0 !=v44 then
 bif((v0++[[I (wrap .i64 (v2+1)),I 0,I (wrap .i64 (gA o6 0-v44))]]).length*24).ble 140737488355328 then
 bif gA o6 1 !=v45 then
 bif((v0++[[I (wrap .i64 (v2+1)),I 0,I (wrap .i64 (gA o6 0-v44))]]++[[I (wrap .i64 (v2+1)),I (wrap .i64 (0+1)),I (wrap .i64 (gA o6 1-v45))]]).length*24).ble 140737488355328 then
 OZ o6 v46 v1 v2 p x t (((v0++[[I (wrap .i64 (v2+1)),I 0,I (wrap .i64 (gA o6 0-v44))]]++[[I (wrap .i64 (v2+1)),I (wrap .i64 (0+1)),I (wrap .i64 (gA o6 1-v45))]]++[[I (wrap .i64 (v2+1)),I (wrap .i64 (wrap .i64 (0+1)+1)),I (wrap .i64 (gA o6 2-v46))]]).length*24).ble 140737488355328) (.view kPt (v0++[[I (wrap .i64 (v2+1)),I 0,I (wrap .i64 (gA o6 0-v44))]]++[[I (wrap .i64 (v2+1)),I (wrap .i64 (0+1)),I (wrap .i64 (gA o6 1-v45))]]++[[I (wrap .i64 (v2+1)),I (wrap .i64 (wrap .i64 (0+1)+1)),I (wrap .i64 (gA o6 2-v46))]])) (.view kPt (v0++[[I (wrap .i64 (v2+1)),I 0,I (wrap .i64 (gA o6 0-v44))]]++[[I (wrap .i64 (v2+1)),I (wrap .i64 (0+1)),I (wrap .i64 (gA o6 1-v45))]]))
 else
 none
 else
 OZ o6 v46 v1 v2 p x t (((v0++[[I (wrap .i64 (v2+1)),I 0,I (wrap .i64 (gA o6 0-v44))]]++[[I (wrap .i64 (v2+1)),I (wrap .i64 (wrap .i64 (0+1)+1)),I (wrap .i64 (gA o6 2-v46))]]).length*24).ble 140737488355328) (.view kPt (v0++[[I (wrap .i64 (v2+1)),I 0,I (wrap .i64 (gA o6 0-v44))]]++[[I (wrap .i64 (v2+1)),I (wrap .i64 (wrap .i64 (0+1)+1)),I (wrap .i64 (gA o6 2-v46))]])) (.view kPt (v0++[[I (wrap .i64 (v2+1)),I 0,I (wrap .i64 (gA o6 0-v44))]]))
 else
 none
 else
 bif gA o6 1 !=v45 then
 bif((v0++[[I (wrap .i64 (v2+1)),I (wrap .i64 (0+1)),I (wrap .i64 (gA o6 1-v45))]]).length*24).ble 140737488355328 then
 OZ o6 v46 v1 v2 p x t (((v0++[[I (wrap .i64 (v2+1)),I (wrap .i64 (0+1)),I (wrap .i64 (gA o6 1-v45))]]++[[I (wrap .i64 (v2+1)),I (wrap .i64 (wrap .i64 (0+1)+1)),I (wrap .i64 (gA o6 2-v46))]]).length*24).ble 140737488355328) (.view kPt (v0++[[I (wrap .i64 (v2+1)),I (wrap .i64 (0+1)),I (wrap .i64 (gA o6 1-v45))]]++[[I (wrap .i64 (v2+1)),I (wrap .i64 (wrap .i64 (0+1)+1)),I (wrap .i64 (gA o6 2-v46))]])) (.view kPt (v0++[[I (wrap .i64 (v2+1)),I (wrap .i64 (0+1)),I (wrap .i64 (gA o6 1-v45))]]))
 else
 none
 else
 OZ o6 v46 v1 v2 p x t (((v0++[[I (wrap .i64 (v2+1)),I (wrap .i64 (wrap .i64 (0+1)+1)),I (wrap .i64 (gA o6 2-v46))]]).length*24).ble 140737488355328) (.view kPt (v0++[[I (wrap .i64 (v2+1)),I (wrap .i64 (wrap .i64 (0+1)+1)),I (wrap .i64 (gA o6 2-v46))]])) (.view kPt v0)
 else
 some (1,[.view kPt v0]):=by kernel_rfl
theorem Zoh (BD:Fn) (N5:Lp) (x41 x42:Int) (p:Pth) (x:Ax3) (t:Trk):Qls BD N5 (pxt p x t [I x41,I x42])=
 (BD (pxt p x t [I (mx 0 (mn x41 t.length))])).bind λo7=>
 (N5 (.view kPt []::I (mx 0 (mn x42 t.length))::I (mx 0 (mn x41 t.length))::pxt p x t [jA o7 0,jA o7 1,jA o7 2])).bind λo8=>
 bif o8.1.beq 1 then
 some [.view kPt (wA o8.2 0)]
 else
 none:=by kernel_rfl
def Q6u:=Am (Z4 FG)
def Lf:=Qls FG Q6u
theorem Qri:Aj PG (Qjk FG):=Ap rfl ⟨Zd,trivial⟩
theorem Zis:Al PG (25,Ad Qm5 Qpa Lf):=rw2 (C:=(Q11 FG Q6u)) (fl fb Qri) Qri
def Rv (M:Fn):Nat×Spec:=(63,Fj YQ Qn1 M)
def Qfn:Fn:=OA PG WB 64 63 YQ Qn1
theorem Zff (K:Kf) (c:Cv):Qfn (Ac K c)=
 some [I (wrap .i64 (c.m0.tdiv 256))]:=by kernel_rfl
def D0:=Qfn
theorem Zdz (vars:List AC) (R:Type) (K:TV->Mem->Option R):FF PG WB 64 63 [TV.v false [AC.ptr 20000 0]] ⟨[(20000,(⟨119,(cR 0 vars)⟩:Box))],[]⟩ K=FF PG WB 64 63 [TV.v false [AC.ptr 20000 0]] ⟨[(20000,(⟨119,(cR 0 vars)⟩:Box))],[]⟩ (λv _=>K v ⟨[(20000,(⟨119,(cR 0 vars)⟩:Box))],[]⟩):=Eq.trans (b:=(K (TV.v false [I (wrap .i64 ((gA vars 50).tdiv 256))]) ⟨[(20000,(⟨119,(cR 0 vars)⟩:Box))],[]⟩)) (by kernel_rfl) (Eq.symm (by kernel_rfl))
theorem R3:Al PG (63,Fj YQ Qn1 D0):=TE (C:=WB) (L:=64) (by kernel_rfl) (FnOK.bare rfl rfl rfl) Z0p eqOk HT (by kernel_rfl) (by kernel_rfl) (λvars R K=>Zdz vars R K)
def SH (M:Fn):Nat×Spec:=(110,Fj YQ Qn1 M)
def Qy (A7 Bg:Fn):Cfg:=cr [QY A7,Rv Bg] [63] [63]
def Qo8 (A7 Bg:Fn):Fn:=OA PG (Qy A7 Bg) 64 110 YQ Qn1
theorem Z20 (A7 Bg:Fn) (K:Kf) (c:Cv):Qo8 A7 Bg (Ac K c)=
 (Bg (Ac K c)).bind λo2=>
 (A7 (A_ K.t++[jA o2 0])).bind λo3=>
 some [jA o3 0]:=by kernel_rfl
def EO:=Qo8 Dr D0
theorem Zc1:Aj PG (Qy Dr D0):=Jc (rs:=[63]) rfl ⟨QK,R3,trivial⟩ rfl (De rfl (HA IY))
theorem Z4w (vars : List AC) (R : Type) (K : TV -> Mem -> Option R) : FF PG (Qy Dr D0) 64 110 [TV.v false [AC.ptr 20000 0]] ⟨[(20000, (⟨119, (cR 0 vars)⟩ : Box))], []⟩ K = FF PG (Qy Dr D0) 64 110 [TV.v false [AC.ptr 20000 0]] ⟨[(20000, (⟨119, (cR 0 vars)⟩ : Box))], []⟩ (λv _ => K v ⟨[(20000, (⟨119, (cR 0 vars)⟩ : Box))], []⟩) := Eq.trans (b := ((D0 (cR 0 vars)).bind λo2 =>
 (Dr [.view At (wA vars 44),jA vars 45,jA vars 46,jA vars 47,jA vars 48,jA vars 49,jA o2 0]).bind λo3=>
 K (TV.v false [jA o3 0]) ⟨[(20000,(⟨119,(cR 0 vars)⟩:Box))],[]⟩)) (by kernel_rfl) (Eq.symm (by kernel_rfl))
theorem S6:Al PG (110,Fj YQ Qn1 EO):=TE (C:=(Qy Dr D0)) (L:=64) (by kernel_rfl) (FnOK.bare rfl rfl rfl) Zc1 eqOk HT (by kernel_rfl) (by kernel_rfl) (λvars R K=>Z4w vars R K)
def Uq:Sk:=⟨[tf [CS.ptr 20000 0],tf [CS.ptr 20001 0],tf [ci]],[(20000,119,cS),(20001,46,[CS.sl kPt,CS.sl Aa]++cc 7)],[]⟩
def Qh6:Sk:=⟨[TS.tup []],[(20000,119,cS),(20001,46,[CS.sl kPt,CS.sl Aa]++cc 7)],[]⟩
def Zlu (M:Fn):Nat×Spec:=(71,Ad Uq Qh6 M)
def Qjp (BD Jg Mv Ci Bg:Fn):Cfg:=cr [ZM BD,Zsi Jg,Zhv Mv,SH Ci,Rv Bg] [111,110,63] [110,63]
def Qaz (BD Jg Mv Ci Bg:Fn):Fn:=An PG (Qjp BD Jg Mv Ci Bg) 64 71 Uq Qh6
abbrev XN (c:Cv) (Jg:Fn) (o10:List AC) (K:Kf) (BD:Fn) (o9:List AC) (x93:Int) (x92:Rw) (h1_0:AC):Option (List AC):=
 bif c.way==0 then
 (Jg (jA o10 0::Ac K c)).bind λo12=>
 (BD [jA o12 38,jA o12 39,jA o12 40, .view Ai (wA o12 41), .view kPt (wA o12 42),jA o12 1,jA o12 2,jA o12 3,jA o12 4,jA o12 5,jA o12 6,jA o12 7,jA o12 8,jA o12 9, .view Aa (wA o12 10),jA o12 11,jA o12 12,jA o12 13,jA o12 14,jA o12 15,jA o12 16,jA o12 17,jA o12 18,jA o12 19, .view Aa (wA o12 20),jA o12 21,jA o12 22,jA o12 23,jA o12 24,jA o12 25,jA o12 26,jA o12 27,jA o12 28,jA o12 29, .view Aa (wA o12 30), .view At (wA o12 45),jA o12 46,jA o12 47,jA o12 48,jA o12 49,jA o12 50,jA o9 0]).bind λo13=>
 some (cR 1 o12++[h1_0, .view Aa (wA o12 0),I x93,jA o10 0,jA o13 0,jA o13 1,jA o13 2,jA o12 68,jA o12 63])
 else
 (BD (pxt K.p K.x K.t [jA o9 0])).bind λo14=>
 some (Ac K c++[h1_0, .view Aa x92,I x93,jA o10 0,jA o14 0,jA o14 1,jA o14 2,I c.s3,I c.g1])
theorem Zfv (BD Jg Mv Ci Bg:Fn) (x0:Int) (x91 x92:Rw) (x93 x94 x95 x96 x97 x98 x99:Int) (K:Kf) (c:Cv):Qaz BD Jg Mv Ci Bg (I x0::(Ac K c++[.view kPt x91, .view Aa x92,I x93,I x94,I x95,I x96,I x97,I x98,I x99]))=
 (Bg (Ac K c)).bind λo9=>
 (Ci (Ac K c)).bind λo10=>
 bif !c.aK then
 (Mv (pxt K.p K.x K.t [I x0,jA o9 0])).bind λo11=>
 XN c Jg o10 K BD o9 x93 x92 (.view kPt (wA o11 0))
 else
 XN c Jg o10 K BD o9 x93 x92 (.view kPt x91):=by kernel_rfl
def LB:=Qaz FG QW Lf EO D0
theorem Zbf:Aj PG (Qjp FG QW Lf EO D0):=Jc (rs:=[110,63]) rfl ⟨Zd,Zq1,Zis,S6,R3,trivial⟩ rfl (De rfl (De rfl (De rfl (HA (HA IY)))))
theorem Zvs:Al PG (71,Ad Uq Qh6 LB):=rw1 (C:=(Qjp FG QW Lf EO D0)) Zbf
def Qlu:Sk:=⟨[TS.tup []],[(20000,119,cS)],[]⟩
def X_ (M:Fn):Nat×Spec:=(108,Ad YQ Qlu M)
def V3:Fn:=An PG WB 64 108 YQ Qlu
theorem Zqr (K:Kf) (c:Cv):V3 (Ac K c)=
 bif c.g0==0 then
 some (Ac K {c with o2:=true,g0:=1,g1:=18,g2:= -1})
 else
 some (Ac K c):=by kernel_rfl
def GP:=V3
theorem X1:Al PG (108,Ad YQ Qlu GP):=rw1 (C:=WB) Z0p
def Qks:Sk:=⟨[tf [CS.sl Aa],tf [ci]],[],[]⟩
def Z17 (M:Fn):Nat×Spec:=(121,Ad Qks Qnv M)
def Q8a:Sk:=⟨[td,tf [ci],td,td,td,td,td,tf [CS.sl Aa],tf [ci],tf [ci]]++dd 13,[],[]⟩
def Q2k:List (Ex×Sk):=[(Ex.ret,⟨[td,td,td,td,tf [CS.bool]]++dd 18,[],[]⟩),(Ex.exit 0,⟨[td]++dd 22,[],[]⟩)]
def Qgh:Lp:=A0 PG WB 64 2 (AY PG 121 2) Q8a Q2k
def Q2p (N2:Lp):Cfg:=WB.loop 2 Q8a Q2k N2
def Z6 (N2:Lp):Fn:=An PG (Q2p N2) 64 121 Qks Qnv
theorem Zxi (v0:Int) (v1:Rw) (v2 v3:Int):Qgh [I v0, .view Aa v1,I v2,I v3]=
 bif decide (v3<v2)then
 bif decide (0<=v3)&&decide (v3<(v1.length:Int))then
 bif decide (gA (nth [] v1 v3.toNat) 0>v0)then
 some (1,[B false])
 else
 bif decide (gA (nth [] v1 v3.toNat) 0<wrap .i64 (0-v0))then
 some (1,[B false])
 else
 some (0,[I v0, .view Aa v1,I v2,I (wrap .i64 (v3+1))])
 else
 none
 else
 some (2,[]):=by kernel_rfl
theorem Zw5 (N2:Lp) (x0:Rw) (x1:Int):Z6 N2 [.view Aa x0,I x1]=
 (N2 [I x1, .view Aa x0,I (x0.length:Int),I 0]).bind λo1=>
 bif o1.1.beq 1 then
 some [B (bA o1.2 0)]
 else
 bif o1.1.beq 2 then
 some [B true]
 else
 none:=by kernel_rfl
def Q9i:=Am (Qgh)
def PB:=Z6 Q9i
theorem Z39:Al PG (121,Ad Qks Qnv PB):=rw2 (C:=(Q2p Q9i)) (fl fb Z0p) Z0p
def XB:Sk:=⟨[tf [CS.sl Aa]],[],[]⟩
def Z18 (M:Fn):Nat×Spec:=(120,Ad XB XB M)
def C_limits_Differences_0:Cfg:={cf []with prom:=λb=>bif Nat.beq b 3 then [(3,3)]else []}
def Qt5:Sk:=⟨[tf [CS.sl Aa],td,td,tf [CS.own 3 1],tf [ci]]++dd 20,[],[(3,3,Aa)]⟩
def Qye:List (Ex×Sk):=[(Ex.exit 0,⟨[td,td,td,tf [CS.own 3 1]]++dd 21,[],[(3,3,Aa)]⟩)]
def Qc7:Lp:=A0 PG C_limits_Differences_0 64 3 (AY PG 120 3) Qt5 Qye
def Qsy (N3:Lp):Cfg:=C_limits_Differences_0.loop 3 Qt5 Qye N3
def Wu (N3:Lp):Fn:=An PG (Qsy N3) 64 120 XB XB
theorem Zt0 (v0 v1:Rw) (v2:Int):Qc7 [.view Aa v0, .view Aa v1,I v2]=
 bif decide (v2<(v1.length:Int))then
 bif decide (0<=v2)&&decide (v2<(v1.length:Int))then
 bif decide (0<=wrap .i64 (v2-1))&&decide (wrap .i64 (v2-1)<(v1.length:Int))then
 bif((v0++[[I (wrap .i64 (gA (nth [] v1 v2.toNat) 0-gA (nth [] v1 (wrap .i64 (v2-1)).toNat) 0))]]).length*8).ble 140737488355328 then
 some (0,[.view Aa (v0++[[I (wrap .i64 (gA (nth [] v1 v2.toNat) 0-gA (nth [] v1 (wrap .i64 (v2-1)).toNat) 0))]]), .view Aa v1,I (wrap .i64 (v2+1))])
 else
 none
 else
 none
 else
 none
 else
 some (1,[.view Aa v0]):=by kernel_rfl
theorem Zvx (N3:Lp) (x0:Rw):Wu N3 [.view Aa x0]=
 (N3 [.view Aa [], .view Aa x0,I 1]).bind λo1=>
 bif o1.1.beq 1 then
 some [.view Aa (wA o1.2 0)]
 else
 none:=by kernel_rfl
def Qyt:=Am (Qc7)
def Qd:=Wu Qyt
theorem Qt4:Aj PG (C_limits_Differences_0):=Ap rfl trivial
theorem Zz7:Al PG (120,Ad XB XB Qd):=rw2 (C:=(Qsy Qyt)) (fl fb Qt4) Qt4
def Qpd:Sk:=⟨[TS.v true (cc 9++[CS.sl Aa]),tf [CS.sl Aa]],[],[]⟩
def Zpf (M:Fn):Nat×Spec:=(79,Ad Qpd Qnv M)
def Qfe (J2 JR:Fn):Cfg:={cf [Z17 J2,Z18 JR]with unroll:=[2]}
def Qlc (J2 JR:Fn):Fn:=An PG (Qfe J2 JR) 64 79 Qpd Qnv
theorem Z34 (J2 JR:Fn) (x0 x1 x2 x3 x4 x5 x6 x7 x8:Int) (x9 x10:Rw):Qlc J2 JR [I x0,I x1,I x2,I x3,I x4,I x5,I x6,I x7,I x8, .view Aa x9, .view Aa x10]=
 (JR [.view Aa x10]).bind λo6=>
 (J2 [.view Aa (wA o6 0),I x1]).bind λo7=>
 bif !bA o7 0 then
 some [B false]
 else
 (JR [.view Aa (wA o6 0)]).bind λo8=>
 (J2 [.view Aa (wA o8 0),I x2]).bind λo9=>
 bif !bA o9 0 then
 some [B false]
 else
 (JR [.view Aa (wA o8 0)]).bind λo10=>
 (J2 [.view Aa (wA o10 0),I x3]).bind λo11=>
 bif !bA o11 0 then
 some [B false]
 else
 some [B true]:=by kernel_rfl
def KS:=Qlc PB Qd
theorem Z3a:Aj PG (Qfe PB Qd):=Ap rfl ⟨Z39,Zz7,trivial⟩
theorem Zfn:Al PG (79,Ad Qpd Qnv KS):=rw1 (C:=(Qfe PB Qd)) Z3a
def Vd:Sk:=⟨[TS.v true (cc 9++[CS.sl Aa]++cc 9++[CS.sl Aa]++cc 9++[CS.sl Aa]),tf [CS.sl kPt]],[],[]⟩
def Z3p (M:Fn):Nat×Spec:=(31,Ad Vd Qnv M)
def Wm (DQ:Fn):Cfg:=cf [Zpf DQ]
def Q3r:Sk:=⟨[td,tf [CS.sl kPt],tf [CS.ptr 2 0],td,td,tf [ci],tf [CS.own 13 1],td,tf [ci]]++dd 6++[tf [ci],tf [ci]]++dd 19,[(2,27,cc 9++[CS.sl Aa]++cc 9++[CS.sl Aa]++cc 9++[CS.sl Aa])],[(13,3,Aa)]⟩
def Q7j:List (Ex×Sk):=[(Ex.exit 2,⟨[td,tf [CS.sl kPt],tf [CS.ptr 2 0],td,td,tf [ci],tf [CS.own 13 1],td,tf [ci]]++dd 27,[(2,27,cc 9++[CS.sl Aa]++cc 9++[CS.sl Aa]++cc 9++[CS.sl Aa])],[(13,3,Aa)]⟩)]
def Lg (DQ:Fn):Lp:=A0 PG (Wm DQ) 64 6 (AY PG 31 6) Q3r Q7j
def Qxp (DQ:Fn) (N6:Lp):Cfg:=(Wm DQ).loop 6 Q3r Q7j N6
def Q35:Sk:=⟨[td,tf [CS.sl kPt],tf [CS.ptr 2 0],td,td,td,td,td,tf [ci]]++dd 27,[(2,27,cc 9++[CS.sl Aa]++cc 9++[CS.sl Aa]++cc 9++[CS.sl Aa])],[]⟩
def Q6t:List (Ex×Sk):=[(Ex.ret,⟨[td,td,td,td,tf [CS.bool]]++dd 31,[],[]⟩),(Ex.exit 0,⟨[td]++dd 35,[],[]⟩)]
def TL (DQ:Fn) (N6:Lp):Lp:=A0 PG (Qxp DQ N6) 64 2 (AY PG 31 2) Q35 Q6t
def Qyc (DQ:Fn) (N6 N2:Lp):Cfg:=(Qxp DQ N6).loop 2 Q35 Q6t N2
def RZ (DQ:Fn) (N6 N2:Lp):Fn:=An PG (Qyc DQ N6 N2) 64 31 Vd Qnv
theorem Z1g (DQ:Fn) (v0 v1:Rw) (v2 v3 v4 v5 v6 v7 v8 v9 v10 v11 v12 v13 v14:Int) (v15:Rw) (v16 v17 v18 v19 v20 v21 v22 v23 v24:Int) (v25:Rw) (v26 v27 v28 v29 v30 v31 v32 v33 v34:Int) (v35:Rw):Lg DQ [.view Aa v0, .view kPt v1,I v2,I v3,I v4,I v5,I v6,I v7,I v8,I v9,I v10,I v11,I v12,I v13,I v14, .view Aa v15,I v16,I v17,I v18,I v19,I v20,I v21,I v22,I v23,I v24, .view Aa v25,I v26,I v27,I v28,I v29,I v30,I v31,I v32,I v33,I v34, .view Aa v35]=
 bif decide (v5<v4)then
 bif decide (0<=v5)&&decide (v5<(v1.length:Int))then
 bif decide (v2=(↑0:Int))then
 bif decide (0<=v5)&&decide (v5<(v0.length:Int))then
 some (0,[.view Aa (v0.set v5.toNat [jA (nth [] v1 v5.toNat) 0]), .view kPt v1,I v2,I v3,I v4,I (wrap .i64 (v5+1)),I v6,I v7,I v8,I v9,I v10,I v11,I v12,I v13,I v14, .view Aa v15,I v16,I v17,I v18,I v19,I v20,I v21,I v22,I v23,I v24, .view Aa v25,I v26,I v27,I v28,I v29,I v30,I v31,I v32,I v33,I v34, .view Aa v35])
 else
 none
 else
 bif decide (v2=(↑(0+1):Int))then
 bif decide (0<=v5)&&decide (v5<(v0.length:Int))then
 some (0,[.view Aa (v0.set v5.toNat [jA (nth [] v1 v5.toNat) 1]), .view kPt v1,I v2,I v3,I v4,I (wrap .i64 (v5+1)),I v6,I v7,I v8,I v9,I v10,I v11,I v12,I v13,I v14, .view Aa v15,I v16,I v17,I v18,I v19,I v20,I v21,I v22,I v23,I v24, .view Aa v25,I v26,I v27,I v28,I v29,I v30,I v31,I v32,I v33,I v34, .view Aa v35])
 else
 none
 else
 bif decide (v2=(↑(0+1+1):Int))then
 bif decide (0<=v5)&&decide (v5<(v0.length:Int))then
 some (0,[.view Aa (v0.set v5.toNat [jA (nth [] v1 v5.toNat) 2]), .view kPt v1,I v2,I v3,I v4,I (wrap .i64 (v5+1)),I v6,I v7,I v8,I v9,I v10,I v11,I v12,I v13,I v14, .view Aa v15,I v16,I v17,I v18,I v19,I v20,I v21,I v22,I v23,I v24, .view Aa v25,I v26,I v27,I v28,I v29,I v30,I v31,I v32,I v33,I v34, .view Aa v35])
 else
 none
 else
 none
 else
 none
 else
 some (1,[.view Aa v0, .view kPt v1,I v2,I v3,I v6,I v7,I v8,I v9,I v10,I v11,I v12,I v13,I v14, .view Aa v15,I v16,I v17,I v18,I v19,I v20,I v21,I v22,I v23,I v24, .view Aa v25,I v26,I v27,I v28,I v29,I v30,I v31,I v32,I v33,I v34, .view Aa v35]):=by kernel_rfl
abbrev Sq (o5:Nat×List AC) (h1_0:Bool):Option (Nat×List AC):=
 bif h1_0 then
 some (1,[B false])
 else
 some (0,[.view kPt (wA o5.2 1),I (wrap .i64 (gA o5.2 3+1)),jA o5.2 4,jA o5.2 5,jA o5.2 6,jA o5.2 7,jA o5.2 8,jA o5.2 9,jA o5.2 10,jA o5.2 11,jA o5.2 12, .view Aa (wA o5.2 13),jA o5.2 14,jA o5.2 15,jA o5.2 16,jA o5.2 17,jA o5.2 18,jA o5.2 19,jA o5.2 20,jA o5.2 21,jA o5.2 22, .view Aa (wA o5.2 23),jA o5.2 24,jA o5.2 25,jA o5.2 26,jA o5.2 27,jA o5.2 28,jA o5.2 29,jA o5.2 30,jA o5.2 31,jA o5.2 32, .view Aa (wA o5.2 33)])
theorem Zqj (DQ:Fn) (N6:Lp) (v0:Rw) (v1 v2 v3 v4 v5 v6 v7 v8 v9 v10:Int) (v11:Rw) (v12 v13 v14 v15 v16 v17 v18 v19 v20:Int) (v21:Rw) (v22 v23 v24 v25 v26 v27 v28 v29 v30:Int) (v31:Rw):TL DQ N6 [.view kPt v0,I v1,I v2,I v3,I v4,I v5,I v6,I v7,I v8,I v9,I v10, .view Aa v11,I v12,I v13,I v14,I v15,I v16,I v17,I v18,I v19,I v20, .view Aa v21,I v22,I v23,I v24,I v25,I v26,I v27,I v28,I v29,I v30, .view Aa v31]=
 bif decide (v1<3)then
 bif decide ((v0.length:Int)=(v0.length:Int))then
 bif decide (0<=(v0.length:Int))&&decide ((v0.length:Int)*(↑8:Int)<=140737488355328)then
 (N6 [.view Aa (List.replicate (v0.length:Int).toNat [I 0]), .view kPt v0,I v1,I v1,I (v0.length:Int),I 0,I v2,I v3,I v4,I v5,I v6,I v7,I v8,I v9,I v10, .view Aa v11,I v12,I v13,I v14,I v15,I v16,I v17,I v18,I v19,I v20, .view Aa v21,I v22,I v23,I v24,I v25,I v26,I v27,I v28,I v29,I v30, .view Aa v31]).bind λo5=>
 bif o5.1.beq 1 then
 bif decide (gA o5.2 2=(↑0:Int))then
 (DQ [jA o5.2 4,jA o5.2 5,jA o5.2 6,jA o5.2 7,jA o5.2 8,jA o5.2 9,jA o5.2 10,jA o5.2 11,jA o5.2 12, .view Aa (wA o5.2 13), .view Aa (wA o5.2 0)]).bind λo6=>
 Sq o5 (!bA o6 0)
 else
 bif decide (gA o5.2 2=(↑(0+1):Int))then
 (DQ [jA o5.2 14,jA o5.2 15,jA o5.2 16,jA o5.2 17,jA o5.2 18,jA o5.2 19,jA o5.2 20,jA o5.2 21,jA o5.2 22, .view Aa (wA o5.2 23), .view Aa (wA o5.2 0)]).bind λo7=>
 Sq o5 (!bA o7 0)
 else
 bif decide (gA o5.2 2=(↑(0+1+1):Int))then
 (DQ [jA o5.2 24,jA o5.2 25,jA o5.2 26,jA o5.2 27,jA o5.2 28,jA o5.2 29,jA o5.2 30,jA o5.2 31,jA o5.2 32, .view Aa (wA o5.2 33), .view Aa (wA o5.2 0)]).bind λo8=>
 Sq o5 (!bA o8 0)
 else
 none
 else
 none
 else
 none
 else
 none
 else
 some (2,[]):=by kernel_rfl
theorem Z1n (DQ:Fn) (N6 N2:Lp) (x0 x1 x2 x3 x4 x5 x6 x7 x8:Int) (x9:Rw) (x10 x11 x12 x13 x14 x15 x16 x17 x18:Int) (x19:Rw) (x20 x21 x22 x23 x24 x25 x26 x27 x28:Int) (x29 x30:Rw):RZ DQ N6 N2 [I x0,I x1,I x2,I x3,I x4,I x5,I x6,I x7,I x8, .view Aa x9,I x10,I x11,I x12,I x13,I x14,I x15,I x16,I x17,I x18, .view Aa x19,I x20,I x21,I x22,I x23,I x24,I x25,I x26,I x27,I x28, .view Aa x29, .view kPt x30]=
 (N2 [.view kPt x30,I 0,I x0,I x1,I x2,I x3,I x4,I x5,I x6,I x7,I x8, .view Aa x9,I x10,I x11,I x12,I x13,I x14,I x15,I x16,I x17,I x18, .view Aa x19,I x20,I x21,I x22,I x23,I x24,I x25,I x26,I x27,I x28, .view Aa x29]).bind λo9=>
 bif o9.1.beq 1 then
 some [B (bA o9.2 0)]
 else
 bif o9.1.beq 2 then
 some [B true]
 else
 none:=by kernel_rfl
def Qoz:=Am (Lg KS)
def Zaa:=Am (TL KS Qoz)
def OD:=RZ KS Qoz Zaa
theorem Z1:Aj PG (Wm KS):=Ap rfl ⟨Zfn,trivial⟩
theorem Zpg:Al PG (31,Ad Vd Qnv OD):=rw2 (C:=(Qyc KS Qoz Zaa)) (fl (fl fb Z1) Z1) Z1
def Qse (M:Fn):Nat×Spec:=(197,Ad Qn1 Qn1 M)
def Qey:Fn:=An PG WB 64 197 Qn1 Qn1
theorem Zc9 (x0:Int):Qey [I x0]=
 bif decide (x0.tmod 256<0)then
 some [I (wrap .i64 (wrap .i64 (x0.tdiv 256)-1))]
 else
 some [I (wrap .i64 (x0.tdiv 256))]:=by kernel_rfl
def IL:=Qey
theorem Qq2:Al PG (197,Ad Qn1 Qn1 IL):=rw1 (C:=WB) Z0p
def WV:Sk:=⟨[TS.v true [ci,ci,ci,CS.sl Ai,CS.sl kPt],TS.v true (cc 9++[CS.sl Aa]++cc 9++[CS.sl Aa]++cc 9++[CS.sl Aa]),TS.v true ([CS.sl At]++cc 5),tf [CS.sl Aa]],[],[]⟩
def Zkq (M:Fn):Nat×Spec:=(179,Ad WV Qnv M)
def Vo (Gb BD D8:Fn):Cfg:={cf [Z3p Gb,ZM BD,Qse D8]with lend:=λf=>AP [31] f,cuts:=[30],prom:=λb=>bif Nat.beq b 3 then [(9,44)]else []}
def Qw3:Sk:=⟨[td,td,td,td,tf [CS.ptr 4 0],tf [CS.ptr 5 0],tf [CS.ptr 6 0],td,td,tf [CS.own 9 3],td,td,tf [CS.sl Aa],tf [ci],tf [ci]]++dd 22,[(4,58,[ci,ci,ci,CS.sl Ai,CS.sl kPt]),(5,27,cc 9++[CS.sl Aa]++cc 9++[CS.sl Aa]++cc 9++[CS.sl Aa]),(6,62,[CS.sl At]++cc 5)],[(9,44,kPt)]⟩
def Qze:List (Ex×Sk):=[(Ex.ret,⟨dd 8++[tf [CS.bool]]++dd 28,[],[]⟩),(Ex.exit 0,⟨[td]++dd 36,[],[]⟩)]
def UH (Gb BD D8:Fn):Lp:=A0 PG (Vo Gb BD D8) 64 3 (AY PG 179 3) Qw3 Qze
def Q79 (Gb BD D8:Fn) (N3:Lp):Cfg:=(Vo Gb BD D8).loop 3 Qw3 Qze N3
def Xu (Gb BD D8:Fn) (N3:Lp):Fn:=An PG (Q79 Gb BD D8 N3) 64 179 WV Qnv
theorem Zbn (Gb BD D8:Fn) (v0 v1:Rw) (v2 v3:Int) (p:Pth) (x:Ax3) (t:Trk):UH Gb BD D8 (.view kPt v0:: .view Aa v1::I v2::I v3::pxt p x t [])=
 bif decide (v3<v2)then
 bif decide (0<=v3)&&decide (v3<(v1.length:Int))then
 (D8 [jA (nth [] v1 v3.toNat) 0]).bind λo8=>
 (BD (pxt p x t [jA o8 0])).bind λo9=>
 bif((v0++[[jA o9 0,jA o9 1,jA o9 2]]).length*24).ble 140737488355328 then
 bif decide ((↑(v0++[[jA o9 0,jA o9 1,jA o9 2]]).length:Int)>4)then
 bif decide (0<=1)&&decide (1<=(↑(v0++[[jA o9 0,jA o9 1,jA o9 2]]).length:Int))then
 bif(Int.toNat 1).ble (v0++[[jA o9 0,jA o9 1,jA o9 2]]).length then
 (Gb (AI x++[.view kPt (List.drop (Int.toNat 1) (v0++[[jA o9 0,jA o9 1,jA o9 2]]))])).bind λo10=>
 bif !bA o10 0 then
 some (1,[B false])
 else
 some (0,(.view kPt (List.drop (Int.toNat 1) (v0++[[jA o9 0,jA o9 1,jA o9 2]])):: .view Aa v1::I v2::I (wrap .i64 (v3+1))::pxt p x t []))
 else
 none
 else
 none
 else
 (Gb (AI x++[.view kPt (v0++[[jA o9 0,jA o9 1,jA o9 2]])])).bind λo11=>
 bif !bA o11 0 then
 some (1,[B false])
 else
 some (0,(.view kPt (v0++[[jA o9 0,jA o9 1,jA o9 2]]):: .view Aa v1::I v2::I (wrap .i64 (v3+1))::pxt p x t []))
 else
 none
 else
 none
 else
 some (2,[]):=by kernel_rfl
theorem Zla (Gb BD D8:Fn) (N3:Lp) (x41:Rw) (p:Pth) (x:Ax3) (t:Trk):Xu Gb BD D8 N3 (pxt p x t [.view Aa x41])=
 (N3 (.view kPt []:: .view Aa x41::I (x41.length:Int)::I 0::pxt p x t [])).bind λo12=>
 bif o12.1.beq 1 then
 some [B (bA o12.2 0)]
 else
 bif o12.1.beq 2 then
 some [B true]
 else
 none:=by kernel_rfl
def Q3x:=Am (UH OD FG IL)
def NV:=Xu OD FG IL Q3x
theorem Q48:Aj PG (Vo OD FG IL):=Ap rfl ⟨Zpg,Zd,Qq2,trivial⟩
theorem Zhw:Al PG (179,Ad WV Qnv NV):=rw2 (C:=(Q79 OD FG IL Q3x)) (fl fb Q48) Q48
def XV:Sk:=⟨[TS.v true [ci,ci,ci,CS.sl Ai,CS.sl kPt],TS.v true (cc 9++[CS.sl Aa]++cc 9++[CS.sl Aa]++cc 9++[CS.sl Aa]),TS.v true ([CS.sl At]++cc 5),TS.v true [ci,ci,ci],TS.v true (cc 6),tf [ci]],[],[]⟩
def Qqg (M:Fn):Nat×Spec:=(154,Ad XV Qnv M)
def Yx (Lx CG:Fn):Cfg:={cf [Zkq Lx,Wa CG]with rowDst:=[48]}
def TK (Lx CG:Fn):Fn:=An PG (Yx Lx CG) 64 154 XV Qnv
theorem Q7d (Lx CG:Fn) (x41 x42 x43 x44 x45 x46 x47 x48 x49 x50:Int) (p:Pth) (x:Ax3) (t:Trk):TK Lx CG (pxt p x t [I x41,I x42,I x43,I x44,I x45,I x46,I x47,I x48,I x49,I x50])=
 (CG [I x41,I x42,I x43,I x44,I x45,I x46,I x47,I x48,I x49]).bind λo3=>
 bif !bA o3 1 then
 some [B false]
 else
 bif decide ((↑(wA o3 0).length:Int)>0)then
 bif decide (0<=wrap .i64 ((↑(wA o3 0).length:Int)-1))&&decide (wrap .i64 ((↑(wA o3 0).length:Int)-1)<(↑(wA o3 0).length:Int))then
 bif decide (Ag (nth .dead (nth [] (wA o3 0) (wrap .i64 ((↑(wA o3 0).length:Int)-1)).toNat) 0)>wrap .i64 (x50*256))then
 some [B false]
 else
 bif(([[I x49],[I x48],[I x47],[I x44]]++wA o3 0).length*8).ble 140737488355328 then
 bif(([[I x49],[I x48],[I x47],[I x44]]++wA o3 0++[[I (Ag (nth .dead (nth [] (wA o3 0) (wrap .i64 ((↑(wA o3 0).length:Int)-1)).toNat) 0))],[I (Ag (nth .dead (nth [] (wA o3 0) (wrap .i64 ((↑(wA o3 0).length:Int)-1)).toNat) 0))]]).length*8).ble 140737488355328 then
 (Lx (pxt p x t [.view Aa ([[I x49],[I x48],[I x47],[I x44]]++wA o3 0++[[I (Ag (nth .dead (nth [] (wA o3 0) (wrap .i64 ((↑(wA o3 0).length:Int)-1)).toNat) 0))],[I (Ag (nth .dead (nth [] (wA o3 0) (wrap .i64 ((↑(wA o3 0).length:Int)-1)).toNat) 0))]])])).bind λo4=>
 some [B (bA o4 0)]
 else
 none
 else
 none
 else
 none
 else
 bif decide (x44>wrap .i64 (x50*256))then
 some [B false]
 else
 bif(([[I x49],[I x48],[I x47],[I x44]]++wA o3 0).length*8).ble 140737488355328 then
 bif(([[I x49],[I x48],[I x47],[I x44]]++wA o3 0++[[I x44],[I x44]]).length*8).ble 140737488355328 then
 (Lx (pxt p x t [.view Aa ([[I x49],[I x48],[I x47],[I x44]]++wA o3 0++[[I x44],[I x44]])])).bind λo5=>
 some [B (bA o5 0)]
 else
 none
 else
 none:=by kernel_rfl
def ID:=TK NV EW
theorem Zj9:Aj PG (Yx NV EW):=Ap rfl ⟨Zhw,XS,trivial⟩
theorem Q0n:Al PG (154,Ad XV Qnv ID):=rw1 (C:=(Yx NV EW)) Zj9
def Qca:Sk:=⟨[TS.v true [ci,ci,CS.bool,CS.bool,CS.bool],TS.v true [ci,ci,ci],TS.v true (cc 7)],[],[]⟩
def Zet (M:Fn):Nat×Spec:=(198,Ad Qca Qn1 M)
def Qia:Fn:=An PG WB 64 198 Qca Qn1
theorem Zcp (x0 x1:Int) (x2 x3 x4:Bool) (x5 x6 x7 x8 x9 x10 x11 x12 x13 x14:Int):Qia [I x0,I x1,B x2,B x3,B x4,I x5,I x6,I x7,I x8,I x9,I x10,I x11,I x12,I x13,I x14]=
 bif x2 then
 some [I 0]
 else
 bif x14 !=0 then
 some [I (mn (mx x13 1) 16777216)]
 else
 bif x13==0 then
 bif x1==0 then
 some [I 0]
 else
 some [I (mn (mx (wrap .i64 ((wrap .i64 (x7*x1)).tdiv 100)) 1) 16777216)]
 else
 bif x0==0 then
 some [I 0]
 else
 some [I (mn (mx (wrap .i64 ((wrap .i64 (x13*x0)).tdiv 100)) 1) 16777216)]:=by kernel_rfl
def PZ:=Qia
theorem Zif:Al PG (198,Ad Qca Qn1 PZ):=rw1 (C:=WB) Z0p
def Xs:Sk:=⟨[TS.v true [ci,ci,ci,CS.sl Ai,CS.sl kPt],TS.v true ([CS.sl At]++cc 5),TS.v true [ci,ci,ci],TS.v true [ci,ci,CS.bool,CS.bool,CS.bool],tf [ci]],[],[]⟩
def Z19 (M:Fn):Nat×Spec:=(178,Ad Xs Qn1 M)
def V0 (OG DG A7 D8:Fn):Cfg:=cf [Zet OG,Yd DG,QY A7,Qse D8]
def Qb2 (OG DG A7 D8:Fn):Fn:=An PG (V0 OG DG A7 D8) 64 178 Xs Qn1
theorem Z4n (OG DG A7 D8:Fn) (x11 x12 x13 x14 x15:Int) (x16 x17 x18:Bool) (x19:Int) (p:Pth) (t:Trk):Qb2 OG DG A7 D8 (Fg p t [I x11,I x12,I x13,I x14,I x15,B x16,B x17,B x18,I x19])=
 (D8 [I x19]).bind λo4=>
 (A7 (A_ t++[jA o4 0])).bind λo5=>
 (DG (Bn p++[jA o5 0])).bind λo6=>
 bif decide (0<=gA o6 0)&&decide (gA o6 0<((p.aE.map AB).length:Int))then
 (OG (I x14::I x15::B x16::B x17::B x18::I x11::I x12::I x13::AN Ai (nth [] (p.aE.map AB) (gA o6 0).toNat))).bind λo7=>
 some [jA o7 0]
 else
 none:=by kernel_rfl
def Ni:=Qb2 PZ EV Dr IL
theorem Z2u:Aj PG (V0 PZ EV Dr IL):=Ap rfl ⟨Zif,WI,QK,Qq2,trivial⟩
theorem Zrl:Al PG (178,Ad Xs Qn1 Ni):=rw1 (C:=(V0 PZ EV Dr IL)) Z2u
def Qar:Sk:=⟨[TS.v true [ci,ci,ci,CS.sl Ai,CS.sl kPt],TS.v true ([CS.sl At]++cc 5),TS.v true [ci,ci,ci],TS.v true [ci,ci,CS.bool,CS.bool,CS.bool],TS.v true (cc 6)],[],[]⟩
def Znk (M:Fn):Nat×Spec:=(153,Ad Qar Qnv M)
def Qcg (Gs CG:Fn):Cfg:=cf [Z19 Gs,Wa CG]
def Qxc:Sk:=⟨[td,td,td,td,td,tf [CS.ptr 5 0],tf [CS.ptr 6 0],tf [CS.ptr 7 0],tf [CS.ptr 8 0],td,td,td,td,tf [ci]]++dd 30++[tf [CS.sl Aa],tf [ci],tf [ci]]++dd 15,[(5,58,[ci,ci,ci,CS.sl Ai,CS.sl kPt]),(6,62,[CS.sl At]++cc 5),(7,29,[ci,ci,ci]),(8,92,[ci,ci,CS.bool,CS.bool,CS.bool])],[]⟩
def Qre:List (Ex×Sk):=[(Ex.ret,⟨dd 10++[tf [CS.bool]]++dd 51,[],[]⟩),(Ex.exit 0,⟨[td]++dd 61,[],[]⟩)]
def Qf8 (Gs CG:Fn):Lp:=A0 PG (Qcg Gs CG) 64 6 (AY PG 153 6) Qxc Qre
def Q0s (Gs CG:Fn) (N6:Lp):Cfg:=(Qcg Gs CG).loop 6 Qxc Qre N6
def Qi0 (Gs CG:Fn) (N6:Lp):Fn:=An PG (Q0s Gs CG N6) 64 153 Qar Qnv
theorem Zr0 (Gs CG:Fn) (v0:Int) (v1:Rw) (v2 v3:Int) (v15 v16 v17 v18 v19:Int) (v20 v21 v22:Bool) (p:Pth) (t:Trk):Qf8 Gs CG (I v0:: .view Aa v1::I v2::I v3::Fg p t [I v15,I v16,I v17,I v18,I v19,B v20,B v21,B v22])=
 bif decide (v3<v2)then
 bif decide (0<=v3)&&decide (v3<(v1.length:Int))then
 (Gs (Fg p t [I v15,I v16,I v17,I v18,I v19,B v20,B v21,B v22,jA (nth [] v1 v3.toNat) 0])).bind λo6=>
 bif decide (wrap .i64 (gA (nth [] v1 v3.toNat) 0-v0)>gA o6 0)then
 some (1,[B false])
 else
 some (0,(jA (nth [] v1 v3.toNat) 0:: .view Aa v1::I v2::I (wrap .i64 (v3+1))::Fg p t [I v15,I v16,I v17,I v18,I v19,B v20,B v21,B v22]))
 else
 none
 else
 some (2,[]):=by kernel_rfl
theorem Z16 (Gs CG:Fn) (N6:Lp) (x11 x12 x13 x14 x15:Int) (x16 x17 x18:Bool) (x19 x20 x21 x22 x23 x24:Int) (p:Pth) (t:Trk):Qi0 Gs CG N6 (Fg p t [I x11,I x12,I x13,I x14,I x15,B x16,B x17,B x18,I x19,I x20,I x21,I x22,I x23,I x24])=
 (CG [I x11,I x12,I x13,I x19,I x20,I x21,I x22,I x23,I x24]).bind λo7=>
 bif !bA o7 1 then
 some [B false]
 else
 bif((p.aE.map AB).length:Int)==0 then
 some [B false]
 else
 (Gs (Fg p t [I x11,I x12,I x13,I x14,I x15,B x16,B x17,B x18,I x19])).bind λo8=>
 bif decide (x20>gA o8 0)then
 some [B false]
 else
 (N6 (I x19:: .view Aa (wA o7 0)::I (↑(wA o7 0).length:Int)::I 0::Fg p t [I x11,I x12,I x13,I x14,I x15,B x16,B x17,B x18])).bind λo9=>
 bif o9.1.beq 1 then
 some [B (bA o9.2 0)]
 else
 bif o9.1.beq 2 then
 some [B true]
 else
 none:=by kernel_rfl
def Qrv:=Am (Qf8 Ni EW)
def LV:=Qi0 Ni EW Qrv
theorem Qrf:Aj PG (Qcg Ni EW):=Ap rfl ⟨Zrl,XS,trivial⟩
theorem Z5i:Al PG (153,Ad Qar Qnv LV):=rw2 (C:=(Q0s Ni EW Qrv)) (fl fb Qrf) Qrf
def Qlx:Sk:=⟨[TS.v true (cc 6),tf [ci]],[],[]⟩
def UE:Sk:=⟨[TS.v true (cc 6)],[],[]⟩
def Qxj (M:Fn):Nat×Spec:=(152,Ad Qlx UE M)
def Qk6:Fn:=An PG WB 64 152 Qlx UE
theorem Zoe (x0 x1 x2 x3 x4 x5 x6:Int):Qk6 [I x0,I x1,I x2,I x3,I x4,I x5,I x6]=
 some [I (wrap .i64 (x0+x6)),I x6,I (wrap .i64 (x6-x1)),I x0,I x3,I x4]:=by kernel_rfl
def I2:=Qk6
theorem Qrc:Al PG (152,Ad Qlx UE I2):=rw1 (C:=WB) Z0p
def Zhq (M:Fn):Nat×Spec:=(151,Ad Qn1 XB M)
def Q8k:Sk:=⟨[td,td,td,tf [CS.own 3 1],tf [ci]]++dd 32,[],[(3,3,Aa)]⟩
def Q8i:List (Ex×Sk):=[(Ex.exit 0,⟨[td,td,td,tf [CS.own 3 1]]++dd 33,[],[(3,3,Aa)]⟩)]
def PV:Lp:=A0 PG C_limits_Differences_0 64 3 (AY PG 151 3) Q8k Q8i
def Q1w (N3:Lp):Cfg:=C_limits_Differences_0.loop 3 Q8k Q8i N3
def Qvr:Sk:=⟨[td,td,td,tf [CS.own 3 1],td,tf [CS.own 16 1],tf [ci]]++dd 30,[],[(3,3,Aa),(16,3,Aa)]⟩
def Qtl:List (Ex×Sk):=[(Ex.exit 2,⟨[td,td,td,td,td,tf [CS.own 16 1]]++dd 31,[],[(16,3,Aa)]⟩)]
def Rj (N3:Lp):Lp:=A0 PG (Q1w N3) 64 8 (AY PG 151 8) Qvr Qtl
def Que (N3 N8:Lp):Cfg:=(Q1w N3).loop 8 Qvr Qtl N8
def Qik (N3 N8:Lp):Fn:=An PG (Que N3 N8) 64 151 Qn1 XB
theorem Zwv (v0:Rw) (v1:Int):PV [.view Aa v0,I v1]=
 bif decide (v1>0)then
 bif((v0++[[I v1]]).length*8).ble 140737488355328 then
 some (0,[.view Aa (v0++[[I v1]]),I (wrap .i64 (v1.tdiv 2))])
 else
 none
 else
 some (1,[.view Aa v0]):=by kernel_rfl
theorem Ztx (N3:Lp) (v0 v1:Rw) (v2:Int):Rj N3 [.view Aa v0, .view Aa v1,I v2]=
 bif decide (v2>=0)then
 bif decide (0<=v2)&&decide (v2<(v0.length:Int))then
 bif((v1++[[I (wrap .i64 (0-gA (nth [] v0 v2.toNat) 0))]]).length*8).ble 140737488355328 then
 some (0,[.view Aa v0, .view Aa (v1++[[I (wrap .i64 (0-gA (nth [] v0 v2.toNat) 0))]]),I (wrap .i64 (v2-1))])
 else
 none
 else
 none
 else
 some (1,[.view Aa v1]):=by kernel_rfl
theorem Zjh (N3 N8:Lp) (x0:Int):Qik N3 N8 [I x0]=
 (N3 [.view Aa [],I x0]).bind λo3=>
 bif o3.1.beq 1 then
 bif(([]++wA o3.2 0).length*8).ble 140737488355328 then
 bif(([]++wA o3.2 0++[[I 0]]).length*8).ble 140737488355328 then
 (N8 [.view Aa (wA o3.2 0), .view Aa ([]++wA o3.2 0++[[I 0]]),I (wrap .i64 ((↑(wA o3.2 0).length:Int)-1))]).bind λo4=>
 bif o4.1.beq 1 then
 some [.view Aa (wA o4.2 0)]
 else
 none
 else
 none
 else
 none
 else
 none:=by kernel_rfl
def Qmr:=Am (PV)
def Q1q:=Am (Rj Qmr)
def O0:=Qik Qmr Q1q
theorem Zth:Al PG (151,Ad Qn1 XB O0):=rw2 (C:=(Que Qmr Q1q)) (fl (fl fb Qt4) Qt4) Qt4
def ZT:Sk:=⟨[TS.v true [ci,ci,ci,CS.sl Ai,CS.sl kPt],TS.v true (cc 9++[CS.sl Aa]++cc 9++[CS.sl Aa]++cc 9++[CS.sl Aa]),TS.v true ([CS.sl At]++cc 5),TS.v true [ci,ci,ci],TS.v true [ci,ci,CS.bool,CS.bool,CS.bool],TS.v true (cc 6),tf [ci]],[],[]⟩
def Qi4 (M:Fn):Nat×Spec:=(104,Ad ZT UE M)
def Qfb (BB DT GM Cy CY GK:Fn):Cfg:=cf [XJ BB,Qqg DT,Znk GM,Qxj Cy,Qrk CY,Zhq GK]
def Qtk:Sk:=⟨dd 6++[tf [ci],tf [CS.ptr 7 0],tf [CS.ptr 8 0],tf [CS.ptr 9 0],tf [CS.ptr 10 0],tf [CS.ptr 11 0],tf [CS.ptr 12 0],td,tf [CS.ptr 14 0],tf [CS.ptr 15 0],tf [CS.bool]]++dd 6++[tf [CS.sl Aa],tf [ci],tf [ci]]++dd 57,[(7,58,[ci,ci,ci,CS.sl Ai,CS.sl kPt]),(8,27,cc 9++[CS.sl Aa]++cc 9++[CS.sl Aa]++cc 9++[CS.sl Aa]),(9,62,[CS.sl At]++cc 5),(10,29,[ci,ci,ci]),(11,92,[ci,ci,CS.bool,CS.bool,CS.bool]),(12,50,cc 6),(14,50,cc 6),(15,50,cc 6)],[]⟩
def Q0m:List (Ex×Sk):=[(Ex.exit 0,⟨dd 10++[tf [CS.ptr 10 0],td,tf [CS.ptr 12 0],td,tf [CS.ptr 14 0],tf [CS.ptr 15 0],tf [CS.bool]]++dd 66,[(10,29,[ci,ci,ci]),(12,50,cc 6),(14,50,cc 6),(15,50,cc 6)],[]⟩)]
def Zx (BB DT GM Cy CY GK:Fn):Lp:=A0 PG (Qfb BB DT GM Cy CY GK) 64 4 (AY PG 104 4) Qtk Q0m
def Qz9 (BB DT GM Cy CY GK:Fn) (N4:Lp):Cfg:=(Qfb BB DT GM Cy CY GK).loop 4 Qtk Q0m N4
def Qim (BB DT GM Cy CY GK:Fn) (N4:Lp):Fn:=An PG (Qz9 BB DT GM Cy CY GK N4) 64 104 ZT UE
theorem Zs1 (BB DT GM Cy CY GK:Fn) (v0:Int) (v1:Bool) (v2:Rw) (v3 v4:Int) (v46 v47 v48 v49 v50:Int) (v51 v52 v53:Bool) (v54 v55 v56 v57 v58 v59 v60 v61 v62 v63 v64 v65 v66 v67 v68 v69 v70 v71:Int) (p:Pth) (x:Ax3) (t:Trk):Zx BB DT GM Cy CY GK (I v0::B v1:: .view Aa v2::I v3::I v4::pxt p x t [I v46,I v47,I v48,I v49,I v50,B v51,B v52,B v53,I v54,I v55,I v56,I v57,I v58,I v59,I v60,I v61,I v62,I v63,I v64,I v65,I v66,I v67,I v68,I v69,I v70,I v71])=
 bif decide (v4<v3)then
 bif decide (0<=v4)&&decide (v4<(v2.length:Int))then
 bif decide (wrap .i64 (v55+wrap .i64 (v56+gA (nth [] v2 v4.toNat) 0))<0)then
 some (0,(I v0::B v1:: .view Aa v2::I v3::I (wrap .i64 (v4+1))::pxt p x t [I v46,I v47,I v48,I v49,I v50,B v51,B v52,B v53,I v54,I v55,I v56,I v57,I v58,I v59,I v60,I v61,I v62,I v63,I v64,I v65,I v66,I v67,I v68,I v69,I v70,I v71]))
 else
 (CY [I v46,I v47,I v48,I (wrap .i64 (v55+wrap .i64 (v56+gA (nth [] v2 v4.toNat) 0))),I (wrap .i64 (v56+gA (nth [] v2 v4.toNat) 0))]).bind λo9=>
 bif !bA o9 0 then
 some (0,(I v0::B v1:: .view Aa v2::I v3::I (wrap .i64 (v4+1))::pxt p x t [I v46,I v47,I v48,I v49,I v50,B v51,B v52,B v53,I v54,I v55,I v56,I v57,I v58,I v59,I v60,I v61,I v62,I v63,I v64,I v65,I v66,I v67,I v68,I v69,I v70,I v71]))
 else
 (Cy [I v54,I v55,I v56,I v57,I v58,I v59,I (wrap .i64 (v55+wrap .i64 (v56+gA (nth [] v2 v4.toNat) 0)))]).bind λo10=>
 (GM (Fg p t [I v46,I v47,I v48,I v49,I v50,B v51,B v52,B v53,jA o10 0,jA o10 1,jA o10 2,jA o10 3,jA o10 4,jA o10 5])).bind λo11=>
 bif bA o11 0 then
 (DT (pxt p x t [I v46,I v47,I v48,jA o10 0,jA o10 1,jA o10 2,jA o10 3,jA o10 4,jA o10 5,I v0])).bind λo12=>
 bif bA o12 0 then
 some (1,[B true,I v46,I v47,I v48,I v54,I v55,I v56,I v57,I v58,I v59,I v60,I v61,I v62,I v63,I v64,I v65,jA o10 0,jA o10 1,jA o10 2,jA o10 3,jA o10 4,jA o10 5])
 else
 some (0,(I v0::B v1:: .view Aa v2::I v3::I (wrap .i64 (v4+1))::pxt p x t [I v46,I v47,I v48,I v49,I v50,B v51,B v52,B v53,I v54,I v55,I v56,I v57,I v58,I v59,I v60,I v61,I v62,I v63,I v64,I v65,jA o10 0,jA o10 1,jA o10 2,jA o10 3,jA o10 4,jA o10 5]))
 else
 some (0,(I v0::B v1:: .view Aa v2::I v3::I (wrap .i64 (v4+1))::pxt p x t [I v46,I v47,I v48,I v49,I v50,B v51,B v52,B v53,I v54,I v55,I v56,I v57,I v58,I v59,I v60,I v61,I v62,I v63,I v64,I v65,jA o10 0,jA o10 1,jA o10 2,jA o10 3,jA o10 4,jA o10 5]))
 else
 none
 else
 some (1,[B v1,I v46,I v47,I v48,I v54,I v55,I v56,I v57,I v58,I v59,I v60,I v61,I v62,I v63,I v64,I v65,I v66,I v67,I v68,I v69,I v70,I v71]):=by kernel_rfl
theorem Zw3 (BB DT GM Cy CY GK:Fn) (N4:Lp) (x41 x42 x43 x44 x45:Int) (x46 x47 x48:Bool) (x49 x50 x51 x52 x53 x54 x55:Int) (p:Pth) (x:Ax3) (t:Trk):Qim BB DT GM Cy CY GK N4 (pxt p x t [I x41,I x42,I x43,I x44,I x45,B x46,B x47,B x48,I x49,I x50,I x51,I x52,I x53,I x54,I x55])=
 (GK [I x42]).bind λo13=>
 (N4 (I x55::B false:: .view Aa (wA o13 0)::I (↑(wA o13 0).length:Int)::I 0::pxt p x t [I x41,I x42,I x43,I x44,I x45,B x46,B x47,B x48,I x49,I x50,I x51,I x52,I x53,I x54,I 0,I 0,I 0,I 0,I 0,I 0,I 0,I 0,I 0,I 0,I 0,I 0])).bind λo14=>
 bif o14.1.beq 1 then
 bif bA o14.2 0 then
 some [jA o14.2 16,jA o14.2 17,jA o14.2 18,jA o14.2 19,jA o14.2 20,jA o14.2 21]
 else
 (BB [jA o14.2 1,jA o14.2 2,jA o14.2 3,jA o14.2 5,jA o14.2 6]).bind λo15=>
 (Cy [jA o14.2 4,jA o14.2 5,jA o14.2 6,jA o14.2 7,jA o14.2 8,jA o14.2 9,I (wrap .i64 (gA o14.2 5+gA o15 0))]).bind λo16=>
 some [jA o16 0,jA o16 1,jA o16 2,jA o16 3,jA o16 4,jA o16 5]
 else
 none:=by kernel_rfl
def Qxt:=Am (Zx Fq ID LV I2 He O0)
def E8:=Qim Fq ID LV I2 He O0 Qxt
theorem Q1s:Aj PG (Qfb Fq ID LV I2 He O0):=Ap rfl ⟨ZI,Q0n,Z5i,Qrc,Qs1,Zth,trivial⟩
theorem Ve:Al PG (104,Ad ZT UE E8):=rw2 (C:=(Qz9 Fq ID LV I2 He O0 Qxt)) (fl fb Q1s) Q1s
def Zwd (M:Fn):Nat×Spec:=(200,Ad Y7 Qn1 M)
def Qec (AJ:Fn):Cfg:=cf [KW AJ]
def Qox (AJ:Fn):Fn:=An PG (Qec AJ) 64 200 Y7 Qn1
theorem Zgt (AJ:Fn) (x0 x1:Int):Qox AJ [I x0,I x1]=
 (AJ [I x0,I x1,I 4096,I 0]).bind λo1=>
 some [jA o1 0]:=by kernel_rfl
def Qu:=Qox Bz
theorem Zo8:Aj PG (Qec Bz):=Ap rfl ⟨Ls,trivial⟩
theorem Zf8:Al PG (200,Ad Y7 Qn1 Qu):=rw1 (C:=(Qec Bz)) Zo8
def Zj2 (M:Fn):Nat×Spec:=(201,Ad Y7 Qn1 M)
def Qom:Fn:=An PG WB 64 201 Y7 Qn1
theorem Zkj (x0 x1:Int):Qom [I x0,I x1]=
 some [I (mx (wrap .i64 (x0-x1)) (wrap .i64 (x1-x0)))]:=by kernel_rfl
def Qn:=Qom
theorem Zle:Al PG (201,Ad Y7 Qn1 Qn):=rw1 (C:=WB) Z0p
attribute [go_sem] WE Qlf Qjd TN Qhb PX RR RO Uc Q5 Qjw P0 Qev Qa7 Qe7 Xz LL PH PK Qjr RH Sh SD UV Qh0 Nk OZ XN Sq
end Go.Bm
