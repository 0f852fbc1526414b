/- functions of the program and of the references, as models -/
import Derived.Test.YtommijghjlikkaaGreatSeShelf
import Derived.Test.YtommijghjlikkaaGreatSeExt
import Derived.Test.YtommijghjlikkaaGreatSePre
import Derived.Test.YtommijghjlikkaaGreatSeKc
import Derived.Test.YtommijghjlikkaaGreatBmTy
set_option linter.unusedSimpArgs false
set_option linter.unusedVariables false
set_option maxRecDepth 100000
noncomputable section
open Go.IntKind (wrap)
namespace Go.Bm
open Go.Proofs
abbrev Qxt (x20:Int) (E5:Fn) (x0 x1 x2 x3 x4 x5 x6 x7 x8:Int) (x9:Rw) (x17 x18 x19:Int):Option (List AC):=
 bif decide (x20=(↑0:Int))then
 (E5 [I x0,I x1,I x2,I x3,I x4,I x5,I x6,I x7,I x8, .view Aa x9,I x17]).bind fun o30=>
 some [jA o30 0]
 else
 bif decide (x20=(↑(0+1):Int))then
 (E5 [I x0,I x1,I x2,I x3,I x4,I x5,I x6,I x7,I x8, .view Aa x9,I x18]).bind fun o31=>
 some [jA o31 0]
 else
 bif decide (x20=(↑(0+1+1):Int))then
 (E5 [I x0,I x1,I x2,I x3,I x4,I x5,I x6,I x7,I x8, .view Aa x9,I x19]).bind fun o32=>
 some [jA o32 0]
 else
 none
attribute [go_sem] Qxt
abbrev SJ (x21 x10 x6:Int) (h4_0:Bool):Option (List AC):=
 bif h4_0 then
 some [I (wrap .i64 (0-mn (wrap .i64 (x21-x10)) x6))]
 else
 some [I (wrap .i64 (mn (wrap .i64 (x21-x10)) x6-x6))]
attribute [go_sem] SJ
abbrev Q2 (x20:Int) (E5:Fn) (x0 x1 x2 x3 x4 x5 x6 x7 x8:Int) (x9:Rw) (x17 x18 x19 x21 x10:Int) (h1_0:Bool):Option (List AC):=
 bif h1_0 then
 Qxt x20 E5 x0 x1 x2 x3 x4 x5 x6 x7 x8 x9 x17 x18 x19
 else
 bif decide (x20=(↑0:Int))then
 SJ x21 x10 x6 (x17== -1)
 else
 bif decide (x20=(↑(0+1):Int))then
 SJ x21 x10 x6 (x18== -1)
 else
 bif decide (x20=(↑(0+1+1):Int))then
 SJ x21 x10 x6 (x19== -1)
 else
 none
attribute [go_sem] Q2
abbrev Zhj (x20:Int) (E5:Fn) (x0 x1 x2 x3 x4 x5 x6 x7 x8:Int) (x9:Rw) (x17 x18 x19 x21 x10:Int) (h2_0 h2_1 h2_2:Bool):Option (List AC):=
 bif decide (x20=(↑0:Int))then
 Q2 x20 E5 x0 x1 x2 x3 x4 x5 x6 x7 x8 x9 x17 x18 x19 x21 x10 h2_0
 else
 bif decide (x20=(↑(0+1):Int))then
 Q2 x20 E5 x0 x1 x2 x3 x4 x5 x6 x7 x8 x9 x17 x18 x19 x21 x10 h2_1
 else
 bif decide (x20=(↑(0+1+1):Int))then
 Q2 x20 E5 x0 x1 x2 x3 x4 x5 x6 x7 x8 x9 x17 x18 x19 x21 x10 h2_2
 else
 none
attribute [go_sem] Zhj
abbrev Qaz (o19:List AC) (E5:Fn) (x:Ax3) (t:Trk) (h1_0:AC) (o18:List AC) (Qo:Fn) (h2_0:AC):Option (List AC):=
 bif decide (gA o19 0<0)then
 (E5 [I x.c.step,I x.c.speed,I x.c.accel,I x.c.jerk,I x.c.low,I x.c.high,I x.c.back,I x.c.origin,I x.c.spacing, .view Aa (x.c.pitch.map Ap),I t.dirs.z]).bind fun o22=>
 some [h1_0,h2_0,I (wrap .i64 (gA o18 2+gA o22 0))]
 else
 bif decide (0<=gA o19 0)&&decide (gA o19 0<((t.aE.map AI).length:Int))then
 (Qo (I x.c.step::I x.c.speed::I x.c.accel::I x.c.jerk::I x.c.low::I x.c.high::I x.c.back::I x.c.origin::I x.c.spacing:: .view Aa (x.c.pitch.map Ap)::(AK As (nth [] (t.aE.map AI) (gA o19 0).toNat)++[I (wrap .i64 (wrap .i64 (0+1)+1)),jA o19 1]))).bind fun o23=>
 some [h1_0,h2_0,I (wrap .i64 (gA o18 2+gA o23 0))]
 else
 none
attribute [go_sem] Qaz
abbrev Zp2 (o19:List AC) (E5:Fn) (x:Ax3) (t:Trk) (o18:List AC) (Qo:Fn) (h1_0:AC):Option (List AC):=
 bif decide (gA o19 0<0)then
 (E5 [I x.b.step,I x.b.speed,I x.b.accel,I x.b.jerk,I x.b.low,I x.b.high,I x.b.back,I x.b.origin,I x.b.spacing, .view Aa (x.b.pitch.map Ap),I t.dirs.y]).bind fun o21=>
 Qaz o19 E5 x t h1_0 o18 Qo (I (wrap .i64 (gA o18 1+gA o21 0)))
 else
 bif decide (0<=gA o19 0)&&decide (gA o19 0<((t.aE.map AI).length:Int))then
 (Qo (I x.b.step::I x.b.speed::I x.b.accel::I x.b.jerk::I x.b.low::I x.b.high::I x.b.back::I x.b.origin::I x.b.spacing:: .view Aa (x.b.pitch.map Ap)::(AK As (nth [] (t.aE.map AI) (gA o19 0).toNat)++[I (wrap .i64 (0+1)),jA o19 1]))).bind fun o24=>
 Qaz o19 E5 x t h1_0 o18 Qo (I (wrap .i64 (gA o18 1+gA o24 0)))
 else
 none
attribute [go_sem] Zp2
abbrev Zbj (o6:List AC) (v46 v1 v2:Int) (p:Pth) (x:Ax3) (t:Trk) (h1_0:Bool) (h1_1 h1_2:AC):Option (Nat×List AC):=
 bif gA o6 2 !=v46 then
 bif h1_0 then
 some (0,(h1_1::I v1::I (wrap .i64 (v2+1))::pxt p x t [jA o6 0,jA o6 1,jA o6 2]))
 else
 none
 else
 some (0,(h1_2::I v1::I (wrap .i64 (v2+1))::pxt p x t [jA o6 0,jA o6 1,jA o6 2]))
attribute [go_sem] Zbj
def XE:Sk:=⟨[TS.v true (cc 9++[CS.sl Aa]),tf [ci]],[],[]⟩
def ZR:Sk:=⟨[tf [ci]],[],[]⟩
def Qq3 (M:Fn):Nat×Spec:=(77,Ac XE ZR M)
def We:Cfg:=cf []
def Qz7:Fn:=Am PG We 64 77 XE ZR
theorem Zj0 (x0 x1 x2 x3 x4 x5 x6 x7 x8:Int) (x9:Rw) (x10:Int):Qz7 [I x0,I x1,I x2,I x3,I x4,I x5,I x6,I x7,I x8, .view Aa x9,I x10]=
 bif x10== -1 then
 some [I (wrap .i64 (0-x6))]
 else
 some [I 0]:=by kernel_rfl
def Iu:=Qz7
theorem Zji:Aj PG (We):=Ao rfl trivial
theorem Qsw:Al PG (77,Ac XE ZR Iu):=rw1 (C:=We) Zji
def Y4:Sk:=⟨[TS.v true (cc 9++[CS.sl Aa]),TS.v true (cc 10),tf [ci],tf [ci]],[],[]⟩
def Qf0:Sk:=⟨[tf [ci]],[],[]⟩
def Zj1 (M:Fn):Nat×Spec:=(78,Ac Y4 Qf0 M)
def Qda (BF:Fn):Cfg:=cf [Qq3 BF]
def Pc (BF:Fn):Fn:=Am PG (Qda BF) 64 78 Y4 Qf0
abbrev Qk9 (x20:Int) (BF:Fn) (x0 x1 x2 x3 x4 x5 x6 x7 x8:Int) (x9:Rw) (x17 x18 x19:Int):Option (List AC):=
 bif decide (x20=(↑0:Int))then
 (BF [I x0,I x1,I x2,I x3,I x4,I x5,I x6,I x7,I x8, .view Aa x9,I x17]).bind fun o30=>
 some [jA o30 0]
 else
 bif decide (x20=(↑(0+1):Int))then
 (BF [I x0,I x1,I x2,I x3,I x4,I x5,I x6,I x7,I x8, .view Aa x9,I x18]).bind fun o31=>
 some [jA o31 0]
 else
 bif decide (x20=(↑(0+1+1):Int))then
 (BF [I x0,I x1,I x2,I x3,I x4,I x5,I x6,I x7,I x8, .view Aa x9,I x19]).bind fun o32=>
 some [jA o32 0]
 else
 none
attribute [go_sem] Qk9
abbrev Rq (x21 x10 x6:Int) (h4_0:Bool):Option (List AC):=
 bif h4_0 then
 some [I (wrap .i64 (0-mn (wrap .i64 (x21-x10)) x6))]
 else
 some [I (wrap .i64 (mn (wrap .i64 (x21-x10)) x6-x6))]
attribute [go_sem] Rq
abbrev QF (x20:Int) (BF:Fn) (x0 x1 x2 x3 x4 x5 x6 x7 x8:Int) (x9:Rw) (x17 x18 x19 x21 x10:Int) (h1_0:Bool):Option (List AC):=
 bif h1_0 then
 Qk9 x20 BF x0 x1 x2 x3 x4 x5 x6 x7 x8 x9 x17 x18 x19
 else
 bif decide (x20=(↑0:Int))then
 Rq x21 x10 x6 (x17== -1)
 else
 bif decide (x20=(↑(0+1):Int))then
 Rq x21 x10 x6 (x18== -1)
 else
 bif decide (x20=(↑(0+1+1):Int))then
 Rq x21 x10 x6 (x19== -1)
 else
 none
attribute [go_sem] QF
abbrev Te (x20:Int) (BF:Fn) (x0 x1 x2 x3 x4 x5 x6 x7 x8:Int) (x9:Rw) (x17 x18 x19 x21 x10:Int) (h2_0 h2_1 h2_2:Bool):Option (List AC):=
 bif decide (x20=(↑0:Int))then
 QF x20 BF x0 x1 x2 x3 x4 x5 x6 x7 x8 x9 x17 x18 x19 x21 x10 h2_0
 else
 bif decide (x20=(↑(0+1):Int))then
 QF x20 BF x0 x1 x2 x3 x4 x5 x6 x7 x8 x9 x17 x18 x19 x21 x10 h2_1
 else
 bif decide (x20=(↑(0+1+1):Int))then
 QF x20 BF x0 x1 x2 x3 x4 x5 x6 x7 x8 x9 x17 x18 x19 x21 x10 h2_2
 else
 none
attribute [go_sem] Te
theorem Qdu (BF:Fn) (x0 x1 x2 x3 x4 x5 x6 x7 x8:Int) (x9:Rw) (x10 x11 x12 x13 x14 x15 x16 x17 x18 x19 x20 x21:Int):Pc BF [I x0,I x1,I x2,I x3,I x4,I x5,I x6,I x7,I x8, .view Aa x9,I x10,I x11,I x12,I x13,I x14,I x15,I x16,I x17,I x18,I x19,I x20,I x21]=
 bif x13 !=0 then
 Qk9 x20 BF x0 x1 x2 x3 x4 x5 x6 x7 x8 x9 x17 x18 x19
 else
 bif decide (x20=(↑0:Int))then
 Te x20 BF x0 x1 x2 x3 x4 x5 x6 x7 x8 x9 x17 x18 x19 x21 x10 (x14==x17) (x14==x18) (x14==x19)
 else
 bif decide (x20=(↑(0+1):Int))then
 Te x20 BF x0 x1 x2 x3 x4 x5 x6 x7 x8 x9 x17 x18 x19 x21 x10 (x15==x17) (x15==x18) (x15==x19)
 else
 bif decide (x20=(↑(0+1+1):Int))then
 Te x20 BF x0 x1 x2 x3 x4 x5 x6 x7 x8 x9 x17 x18 x19 x21 x10 (x16==x17) (x16==x18) (x16==x19)
 else
 none:=by kernel_rfl
def S9:=Pc Iu
theorem Zk3:Aj PG (Qda Iu):=Ao rfl ⟨Qsw,trivial⟩
theorem Zwe:Al PG (78,Ac Y4 Qf0 S9):=rw1 (C:=(Qda Iu)) Zk3
def Wm:Sk:=⟨[TS.v true (cc 9++[CS.sl Aa]),tf [ci]],[],[]⟩
def Qbs:Sk:=⟨[tf [ci]],[],[]⟩
def Zki (M:Fn):Nat×Spec:=(118,Ac Wm Qbs M)
def Qna:Cfg:=cf []
def Q17:Fn:=Am PG Qna 64 118 Wm Qbs
theorem Zpy (x0 x1 x2 x3 x4 x5 x6 x7 x8:Int) (x9:Rw) (x10:Int):Q17 [I x0,I x1,I x2,I x3,I x4,I x5,I x6,I x7,I x8, .view Aa x9,I x10]=
 bif decide (x0<=0)then
 some [I 0]
 else
 bif decide (wrap .i64 (2*x0)<=0)then
 some [I 0]
 else
 bif decide (wrap .i64 (2*x0)=0)then
 none
 else
 bif decide (wrap .i64 (2*x0)=0)then
 none
 else
 bif decide ((wrap .i64 (wrap .i64 (2*x10)+x0)).tmod (wrap .i64 (2*x0))<0)then
 some [I (wrap .i64 (wrap .i64 ((wrap .i64 (wrap .i64 (2*x10)+x0)).tdiv (wrap .i64 (2*x0)))-1))]
 else
 some [I (wrap .i64 ((wrap .i64 (wrap .i64 (2*x10)+x0)).tdiv (wrap .i64 (2*x0))))]:=by kernel_rfl
def Jy:=Q17
theorem Zdh:Aj PG (Qna):=Ao rfl trivial
theorem Zys:Al PG (118,Ac Wm Qbs Jy):=rw1 (C:=Qna) Zdh
def Wy:Sk:=⟨[tf [CS.int .u64],tf [CS.bool]],[],[]⟩
def Vz:Sk:=⟨[TS.tup [(false,[ci]),(false,[CS.bool])]],[],[]⟩
def X2 (M:Fn):Nat×Spec:=(136,Ac Wy Vz M)
def Qju:Cfg:=cf []
def Qn4:Fn:=Am PG Qju 64 136 Wy Vz
theorem Va (x0:Int) (x1:Bool):Qn4 [U x0,B x1]=
 bif x1 then
 bif decide (x0<=9223372036854775808)then
 some [I (wrap .i64 (wrap .u64 (0-x0))),B true]
 else
 bif !x1 then
 bif decide (x0<9223372036854775808)then
 some [I (wrap .i64 x0),B true]
 else
 some [I 0,B false]
 else
 some [I 0,B false]
 else
 bif !x1 then
 bif decide (x0<9223372036854775808)then
 some [I (wrap .i64 x0),B true]
 else
 some [I 0,B false]
 else
 some [I 0,B false]:=by kernel_rfl
def EY:=Qn4
theorem Zuv:Aj PG (Qju):=Ao rfl trivial
theorem Vx:Al PG (136,Ac Wy Vz EY):=rw1 (C:=Qju) Zuv
def YW:Sk:=⟨[tf [ci],tf [ci],tf [CS.bool],tf [CS.bool]],[],[]⟩
def Qmt:Sk:=⟨[tf [CS.bool]],[],[]⟩
def Qo3 (M:Fn):Nat×Spec:=(135,Ac YW Qmt M)
def Yo:Cfg:=cf []
def Qld:Fn:=Am PG Yo 64 135 YW Qmt
theorem Q1f (x0 x1:Int) (x2 x3:Bool):Qld [I x0,I x1,B x2,B x3]=
 bif x0==0 then
 bif x2 then
 some [B x3]
 else
 some [B false]
 else
 bif x0==1 then
 bif x2 then
 some [B !x3]
 else
 some [B false]
 else
 bif decide (x1>0)then
 some [B true]
 else
 bif x1==0 then
 some [B !x3]
 else
 some [B false]:=by kernel_rfl
def Ht:=Qld
theorem Zej:Aj PG (Yo):=Ao rfl trivial
theorem Qtc:Al PG (135,Ac YW Qmt Ht):=rw1 (C:=Yo) Zej
def XM:Sk:=⟨[tf [ci],tf [ci]],[],[]⟩
def Qli:Sk:=⟨[tf [ci]],[],[]⟩
def Qk1 (M:Fn):Nat×Spec:=(134,Ac XM Qli M)
def T6:Cfg:=cf []
def VQ:Fn:=Am PG T6 64 134 XM Qli
theorem Qpu (x0 x1:Int):VQ [I x0,I x1]=
 bif x0==0 then
 some [I 0]
 else
 bif x1==0 then
 some [I 0]
 else
 bif decide (x0<0)==decide (x1<0)then
 some [I 1]
 else
 some [I (-1)]:=by kernel_rfl
def Fs:=VQ
theorem Zgf:Aj PG (T6):=Ao rfl trivial
theorem Qgs:Al PG (134,Ac XM Qli Fs):=rw1 (C:=T6) Zgf
def WY:Sk:=⟨[tf [CS.int .u64],tf [CS.int .u64],tf [CS.int .u64]],[],[]⟩
def ZF:Sk:=⟨[TS.tup [(false,[CS.int .u64]),(false,[CS.int .u64])]],[],[]⟩
def Q58 (M:Fn):Nat×Spec:=(133,Ac WY ZF M)
def Qc9 (DC:Fn):Cfg:=cf [(176,Ac Q1b Q4l DC)]
def Qxy:Sk:=⟨[td,td,tf [CS.int .u64],td,td,td,td,td,tf [CS.int .u64],tf [CS.int .u64],tf [CS.int .u64],tf [CS.int .u64],td,tf [CS.int .u64],tf [CS.int .u64],tf [CS.int .u64],tf [CS.int .u64]]++dd 118,[],[]⟩
def Qz1:List (Ex×Sk):=[(Ex.exit 0,⟨[td,td,tf [CS.int .u64],td,td,td,td,td,tf [CS.int .u64],tf [CS.int .u64],tf [CS.int .u64],tf [CS.int .u64],td,tf [CS.int .u64],tf [CS.int .u64],tf [CS.int .u64]]++dd 119,[],[]⟩)]
def Ls (DC:Fn):Lp:=A4 PG (Qc9 DC) 64 17 (A0 PG 133 17) Qxy Qz1
def Qz2 (DC:Fn) (N17:Lp):Cfg:=(Qc9 DC).loop 17 Qxy Qz1 N17
def Q5o:Sk:=⟨[td,td,tf [CS.int .u64],td,td,td,td,td,tf [CS.int .u64],tf [CS.int .u64],tf [CS.int .u64],td,td,td,tf [CS.int .u64],tf [CS.int .u64],tf [CS.int .u64],tf [CS.int .u64],tf [CS.int .u64]]++dd 116,[],[]⟩
def Q1x:List (Ex×Sk):=[(Ex.exit 2,⟨[td,td,tf [CS.int .u64],td,td,td,td,td,tf [CS.int .u64],td,td,td,td,td,tf [CS.int .u64],tf [CS.int .u64],td,tf [CS.int .u64],tf [CS.int .u64]]++dd 116,[],[]⟩)]
def P2 (DC:Fn) (N17:Lp):Lp:=A4 PG (Qz2 DC N17) 64 24 (A0 PG 133 24) Q5o Q1x
def Qtr (DC:Fn) (N17 N24:Lp):Cfg:=(Qz2 DC N17).loop 24 Q5o Q1x N24
def VM (DC:Fn) (N17 N24:Lp):Fn:=Am PG (Qtr DC N17 N24) 64 133 WY ZF
theorem Zi4 (DC:Fn) (v0 v1 v2 v3 v4 v5 v6 v7 v8:Int):Ls DC [U v0,U v1,U v2,U v3,U v4,U v5,U v6,U v7,U v8]=
 bif decide (v7>=4294967296)then
 bif decide (wrap .u64 (v8+v2)>=4294967296)then
 some (1,[U v0,U v1,U v2,U v3,U v4,U v5,U v6,U (wrap .u64 (v7-1))])
 else
 some (0,[U v0,U v1,U v2,U v3,U v4,U v5,U v6,U (wrap .u64 (v7-1)),U (wrap .u64 (v8+v2))])
 else
 bif decide (wrap .u64 (v7*v3)>wrap .u64 (wrap .u64 (4294967296*v8)+v5))then
 bif decide (wrap .u64 (v8+v2)>=4294967296)then
 some (1,[U v0,U v1,U v2,U v3,U v4,U v5,U v6,U (wrap .u64 (v7-1))])
 else
 some (0,[U v0,U v1,U v2,U v3,U v4,U v5,U v6,U (wrap .u64 (v7-1)),U (wrap .u64 (v8+v2))])
 else
 some (1,[U v0,U v1,U v2,U v3,U v4,U v5,U v6,U v7]):=by kernel_rfl
theorem Zpz (DC:Fn) (N17:Lp) (v0 v1 v2 v3 v4 v5 v6 v7 v8:Int):P2 DC N17 [U v0,U v1,U v2,U v3,U v4,U v5,U v6,U v7,U v8]=
 bif decide (v8>=4294967296)then
 bif decide (wrap .u64 (v6+v2)>=4294967296)then
 some (1,[U v0,U v1,U v4,U v5,U v7,U (wrap .u64 (v8-1))])
 else
 some (0,[U v0,U v1,U v2,U v3,U v4,U v5,U (wrap .u64 (v6+v2)),U v7,U (wrap .u64 (v8-1))])
 else
 bif decide (wrap .u64 (v8*v3)>wrap .u64 (wrap .u64 (4294967296*v6)+v4))then
 bif decide (wrap .u64 (v6+v2)>=4294967296)then
 some (1,[U v0,U v1,U v4,U v5,U v7,U (wrap .u64 (v8-1))])
 else
 some (0,[U v0,U v1,U v2,U v3,U v4,U v5,U (wrap .u64 (v6+v2)),U v7,U (wrap .u64 (v8-1))])
 else
 some (1,[U v0,U v1,U v4,U v5,U v7,U v8]):=by kernel_rfl
theorem Qpn (DC:Fn) (N17 N24:Lp) (x0 x1 x2:Int):VM DC N17 N24 [U x0,U x1,U x2]=
 bif x2==0 then
 none
 else
 bif decide (x2<=x0)then
 none
 else
 bif x0==0 then
 bif decide (x2=0)then
 none
 else
 bif decide (x2=0)then
 none
 else
 some [U (wrap .u64 (x1.tdiv x2)),U (x1.tmod x2)]
 else
 (DC [U x2]).bind fun o6=>
 bif decide (wrap .u64 (gA o6 0)<0)then
 none
 else
 bif decide (wrap .u64 (gA o6 0)<0)then
 none
 else
 bif decide (wrap .u64 (64-wrap .u64 (gA o6 0))<0)then
 none
 else
 bif decide (wrap .u64 (gA o6 0)<0)then
 none
 else
 bif decide ((wrap .u64 (x2*2^min (wrap .u64 (gA o6 0)).toNat IntKind.u64.bits)).fdiv (2^min (Int.toNat 32) IntKind.u64.bits)=0)then
 none
 else
 (N17 [U (wrap .u64 (x2*2^min (wrap .u64 (gA o6 0)).toNat IntKind.u64.bits)),U (wrap .u64 (gA o6 0)),U ((wrap .u64 (x2*2^min (wrap .u64 (gA o6 0)).toNat IntKind.u64.bits)).fdiv (2^min (Int.toNat 32) IntKind.u64.bits)),U (wrap .u64 (↑(BitVec.ofInt IntKind.u64.bits (wrap .u64 (x2*2^min (wrap .u64 (gA o6 0)).toNat IntKind.u64.bits))&&&BitVec.ofInt IntKind.u64.bits 4294967295).toNat:Int)),U (wrap .u64 (↑(BitVec.ofInt IntKind.u64.bits (wrap .u64 (x0*2^min (wrap .u64 (gA o6 0)).toNat IntKind.u64.bits))|||BitVec.ofInt IntKind.u64.bits (x1.fdiv (2^min (wrap .u64 (64-wrap .u64 (gA o6 0))).toNat IntKind.u64.bits))).toNat:Int)),U ((wrap .u64 (x1*2^min (wrap .u64 (gA o6 0)).toNat IntKind.u64.bits)).fdiv (2^min (Int.toNat 32) IntKind.u64.bits)),U (wrap .u64 (↑(BitVec.ofInt IntKind.u64.bits (wrap .u64 (x1*2^min (wrap .u64 (gA o6 0)).toNat IntKind.u64.bits))&&&BitVec.ofInt IntKind.u64.bits 4294967295).toNat:Int)),U (wrap .u64 ((wrap .u64 (↑(BitVec.ofInt IntKind.u64.bits (wrap .u64 (x0*2^min (wrap .u64 (gA o6 0)).toNat IntKind.u64.bits))|||BitVec.ofInt IntKind.u64.bits (x1.fdiv (2^min (wrap .u64 (64-wrap .u64 (gA o6 0))).toNat IntKind.u64.bits))).toNat:Int)).tdiv ((wrap .u64 (x2*2^min (wrap .u64 (gA o6 0)).toNat IntKind.u64.bits)).fdiv (2^min (Int.toNat 32) IntKind.u64.bits)))),U (wrap .u64 (wrap .u64 (↑(BitVec.ofInt IntKind.u64.bits (wrap .u64 (x0*2^min (wrap .u64 (gA o6 0)).toNat IntKind.u64.bits))|||BitVec.ofInt IntKind.u64.bits (x1.fdiv (2^min (wrap .u64 (64-wrap .u64 (gA o6 0))).toNat IntKind.u64.bits))).toNat:Int)-wrap .u64 (wrap .u64 ((wrap .u64 (↑(BitVec.ofInt IntKind.u64.bits (wrap .u64 (x0*2^min (wrap .u64 (gA o6 0)).toNat IntKind.u64.bits))|||BitVec.ofInt IntKind.u64.bits (x1.fdiv (2^min (wrap .u64 (64-wrap .u64 (gA o6 0))).toNat IntKind.u64.bits))).toNat:Int)).tdiv ((wrap .u64 (x2*2^min (wrap .u64 (gA o6 0)).toNat IntKind.u64.bits)).fdiv (2^min (Int.toNat 32) IntKind.u64.bits)))*(wrap .u64 (x2*2^min (wrap .u64 (gA o6 0)).toNat IntKind.u64.bits)).fdiv (2^min (Int.toNat 32) IntKind.u64.bits))))]).bind fun o7=>
 bif o7.1.beq 1 then
 bif decide (gA o7.2 2=0)then
 none
 else
 (N24 [U (gA o7.2 0),U (gA o7.2 1),U (gA o7.2 2),U (gA o7.2 3),U (gA o7.2 6),U (gA o7.2 7),U (wrap .u64 (wrap .u64 (wrap .u64 (wrap .u64 (gA o7.2 4*4294967296)+gA o7.2 5)-wrap .u64 (gA o7.2 7*gA o7.2 0))-wrap .u64 (wrap .u64 ((wrap .u64 (wrap .u64 (wrap .u64 (gA o7.2 4*4294967296)+gA o7.2 5)-wrap .u64 (gA o7.2 7*gA o7.2 0))).tdiv (gA o7.2 2))*gA o7.2 2))),U (wrap .u64 (wrap .u64 (wrap .u64 (gA o7.2 4*4294967296)+gA o7.2 5)-wrap .u64 (gA o7.2 7*gA o7.2 0))),U (wrap .u64 ((wrap .u64 (wrap .u64 (wrap .u64 (gA o7.2 4*4294967296)+gA o7.2 5)-wrap .u64 (gA o7.2 7*gA o7.2 0))).tdiv (gA o7.2 2)))]).bind fun o8=>
 bif o8.1.beq 1 then
 bif decide (gA o8.2 1<0)then
 none
 else
 some [U (wrap .u64 (wrap .u64 (gA o8.2 3*4294967296)+gA o8.2 5)),U ((wrap .u64 (wrap .u64 (wrap .u64 (gA o8.2 4*4294967296)+gA o8.2 2)-wrap .u64 (gA o8.2 5*gA o8.2 0))).fdiv (2^min (gA o8.2 1).toNat IntKind.u64.bits))]
 else
 none
 else
 none:=by kernel_rfl
def SO:=An (Ls H_)
def Qnr:=An (P2 H_ SO)
def GD:=VM H_ SO Qnr
theorem Qac:Aj PG (Qc9 H_):=Ao rfl ⟨Zwb,trivial⟩
theorem Q1m:Al PG (133,Ac WY ZF GD):=rw2 (C:=(Qtr H_ SO Qnr)) (fl (fl fb Qac) Qac) Qac
def Xa:Sk:=⟨[tf [CS.int .u64],tf [CS.int .u64]],[],[]⟩
def Vw:Sk:=⟨[TS.v true [CS.int .u64,CS.int .u64]],[],[]⟩
def Td (M:Fn):Nat×Spec:=(131,Ac Xa Vw M)
def Qcy (FZ:Fn):Cfg:=cf [(175,Ac Vg W9 FZ)]
def Q0y (FZ:Fn):Fn:=Am PG (Qcy FZ) 64 131 Xa Vw
theorem Zqd (FZ:Fn) (x0 x1:Int):Q0y FZ [U x0,U x1]=
 (FZ [U x0,U x1]).bind fun o1=>
 some [U (gA o1 0),U (gA o1 1)]:=by kernel_rfl
def En:=Q0y H0
theorem Z1k:Aj PG (Qcy H0):=Ao rfl ⟨Q4t,trivial⟩
theorem Tm:Al PG (131,Ac Xa Vw En):=rw1 (C:=(Qcy H0)) Z1k
def XA:Sk:=⟨[tf [ci]],[],[]⟩
def UR:Sk:=⟨[tf [CS.int .u64]],[],[]⟩
def T_ (M:Fn):Nat×Spec:=(132,Ac XA UR M)
def Qj7:Cfg:=cf []
def Q6h:Fn:=Am PG Qj7 64 132 XA UR
theorem Zei (x0:Int):Q6h [I x0]=
 bif decide (x0<0)then
 some [U (wrap .u64 (wrap .u64 (wrap .i64 (0-wrap .i64 (x0+1)))+1))]
 else
 some [U (wrap .u64 x0)]:=by kernel_rfl
def F7:=Q6h
theorem Zwr:Aj PG (Qj7):=Ao rfl trivial
theorem Qh8:Al PG (132,Ac XA UR F7):=rw1 (C:=Qj7) Zwr
def UH:Sk:=⟨[tf [ci]],[],[]⟩
def Xh:Sk:=⟨[tf [CS.bool]],[],[]⟩
def Qg8 (M:Fn):Nat×Spec:=(130,Ac UH Xh M)
def Qax:Cfg:=cf []
def Qe4:Fn:=Am PG Qax 64 130 UH Xh
theorem Quy (x0:Int):Qe4 [I x0]=
 bif x0==0 then
 some [B true]
 else
 bif x0==1 then
 some [B true]
 else
 some [B (x0==2)]:=by kernel_rfl
def Fu:=Qe4
theorem Zxy:Aj PG (Qax):=Ao rfl trivial
theorem Qm2:Al PG (130,Ac UH Xh Fu):=rw1 (C:=Qax) Zxy
def Yi:Sk:=⟨[tf [ci],tf [ci],tf [ci],tf [ci]],[],[]⟩
def Qbq:Sk:=⟨[TS.tup [(false,[ci]),(false,[CS.bool])]],[],[]⟩
def Lx (M:Fn):Nat×Spec:=(83,Ac Yi Qbq M)
def Qip (Bb CE De Fq BA Cf Dw:Fn):Cfg:=cf [X2 Bb,Qo3 CE,Qk1 De,Q58 Fq,Td BA,T_ Cf,Qg8 Dw]
def Tc (Bb CE De Fq BA Cf Dw:Fn):Fn:=Am PG (Qip Bb CE De Fq BA Cf Dw) 64 83 Yi Qbq
abbrev Rn (CE:Fn) (x3:Int) (o31:List AC) (Bb:Fn) (h1_0 h1_1:AC):Option (List AC):=
 (CE [I x3,h1_0,B (decide (gA o31 1>0)),h1_1]).bind fun o34=>
 bif bA o34 0 then
 bif wrap .u64 (gA o31 0+1)==0 then
 some [I 0,B false]
 else
 (Bb [U (wrap .u64 (gA o31 0+1)),h1_1]).bind fun o35=>
 some [jA o35 0,B (bA o35 1)]
 else
 (Bb [U (gA o31 0),h1_1]).bind fun o36=>
 some [jA o36 0,B (bA o36 1)]
attribute [go_sem] Rn
abbrev Qfz (o31 o30:List AC) (CE:Fn) (x3:Int) (Bb:Fn) (h2_0:AC):Option (List AC):=
 bif decide (gA o31 1>wrap .u64 (gA o30 0-gA o31 1))then
 Rn CE x3 o31 Bb (I 1) h2_0
 else
 bif decide (gA o31 1<wrap .u64 (gA o30 0-gA o31 1))then
 Rn CE x3 o31 Bb (I (-1)) h2_0
 else
 Rn CE x3 o31 Bb (I 0) h2_0
attribute [go_sem] Qfz
theorem Q10 (Bb CE De Fq BA Cf Dw:Fn) (x0 x1 x2 x3:Int):Tc Bb CE De Fq BA Cf Dw [I x0,I x1,I x2,I x3]=
 bif x2==0 then
 some [I 0,B false]
 else
 (Dw [I x3]).bind fun o26=>
 bif !bA o26 0 then
 some [I 0,B false]
 else
 (Cf [I x0]).bind fun o27=>
 (Cf [I x1]).bind fun o28=>
 (BA [U (gA o27 0),U (gA o28 0)]).bind fun o29=>
 (Cf [I x2]).bind fun o30=>
 bif decide (gA o29 0>=gA o30 0)then
 some [I 0,B false]
 else
 (Fq [U (gA o29 0),U (gA o29 1),U (gA o30 0)]).bind fun o31=>
 (De [I x0,I x1]).bind fun o32=>
 bif !decide (gA o32 0<0)==decide (x2<0)then
 (De [I x0,I x1]).bind fun o33=>
 Qfz o31 o30 CE x3 Bb (B (gA o33 0 !=0))
 else
 Qfz o31 o30 CE x3 Bb (B false):=by kernel_rfl
def Bs:=Tc EY Ht Fs GD En F7 Fu
theorem Zs5:Aj PG (Qip EY Ht Fs GD En F7 Fu):=Ao rfl ⟨Vx,Qtc,Qgs,Q1m,Tm,Qh8,Qm2,trivial⟩
theorem Lt:Al PG (83,Ac Yi Qbq Bs):=rw1 (C:=(Qip EY Ht Fs GD En F7 Fu)) Zs5
def Qle:Sk:=⟨[TS.v true (cc 9++[CS.sl Aa]),tf [ci]],[],[]⟩
def Qjx:Sk:=⟨[tf [ci]],[],[]⟩
def Zr8 (M:Fn):Nat×Spec:=(119,Ac Qle Qjx M)
def Ug (AH:Fn):Cfg:=cf [Lx AH]
def Q53 (AH:Fn):Fn:=Am PG (Ug AH) 64 119 Qle Qjx
theorem Zfu (AH:Fn) (x0 x1 x2 x3 x4 x5 x6 x7 x8:Int) (x9:Rw) (x10:Int):Q53 AH [I x0,I x1,I x2,I x3,I x4,I x5,I x6,I x7,I x8, .view Aa x9,I x10]=
 bif decide (wrap .i64 ((x9.length:Int)-1)<0)then
 some [I 0]
 else
 bif decide (wrap .i64 (x10-x7)<=0)then
 bif decide (0<=0)&&decide (0<(x9.length:Int))then
 some [jA (nth [] x9 0) 0]
 else
 none
 else
 bif decide (x8<=0)then
 bif decide (0<=0)&&decide (0<(x9.length:Int))then
 some [jA (nth [] x9 0) 0]
 else
 none
 else
 bif decide (x8=0)then
 none
 else
 bif decide (wrap .i64 ((wrap .i64 (x10-x7)).tdiv x8)>=wrap .i64 ((x9.length:Int)-1))then
 bif decide (0<=wrap .i64 ((x9.length:Int)-1))&&decide (wrap .i64 ((x9.length:Int)-1)<(x9.length:Int))then
 some [jA (nth [] x9 (wrap .i64 ((x9.length:Int)-1)).toNat) 0]
 else
 none
 else
 bif decide (0<=wrap .i64 (wrap .i64 ((wrap .i64 (x10-x7)).tdiv x8)+1))&&decide (wrap .i64 (wrap .i64 ((wrap .i64 (x10-x7)).tdiv x8)+1)<(x9.length:Int))then
 bif decide (0<=wrap .i64 ((wrap .i64 (x10-x7)).tdiv x8))&&decide (wrap .i64 ((wrap .i64 (x10-x7)).tdiv x8)<(x9.length:Int))then
 (AH [I (wrap .i64 (Af (nth .dead (nth [] x9 (wrap .i64 (wrap .i64 ((wrap .i64 (x10-x7)).tdiv x8)+1)).toNat) 0)-Af (nth .dead (nth [] x9 (wrap .i64 ((wrap .i64 (x10-x7)).tdiv x8)).toNat) 0))),I (wrap .i64 (wrap .i64 (x10-x7)-wrap .i64 (wrap .i64 ((wrap .i64 (x10-x7)).tdiv x8)*x8))),I x8,I 2]).bind fun o1=>
 bif decide (0<=wrap .i64 ((wrap .i64 (x10-x7)).tdiv x8))&&decide (wrap .i64 ((wrap .i64 (x10-x7)).tdiv x8)<(x9.length:Int))then
 some [I (wrap .i64 (Af (nth .dead (nth [] x9 (wrap .i64 ((wrap .i64 (x10-x7)).tdiv x8)).toNat) 0)+gA o1 0))]
 else
 none
 else
 none
 else
 none:=by kernel_rfl
def JK:=Q53 Bs
theorem Zc6:Aj PG (Ug Bs):=Ao rfl ⟨Lt,trivial⟩
theorem Zrw:Al PG (119,Ac Qle Qjx JK):=rw1 (C:=(Ug Bs)) Zc6
def Qdt:Sk:=⟨[TS.v true (cc 9++[CS.sl Aa]),tf [ci]],[],[]⟩
def Qng:Sk:=⟨[tf [ci]],[],[]⟩
def Zz3 (M:Fn):Nat×Spec:=(76,Ac Qdt Qng M)
def YB (Nb Mf:Fn):Cfg:=cf [Zki Nb,Zr8 Mf]
def Q2g (Nb Mf:Fn):Fn:=Am PG (YB Nb Mf) 64 76 Qdt Qng
theorem Zp8 (Nb Mf:Fn) (x0 x1 x2 x3 x4 x5 x6 x7 x8:Int) (x9:Rw) (x10:Int):Q2g Nb Mf [I x0,I x1,I x2,I x3,I x4,I x5,I x6,I x7,I x8, .view Aa x9,I x10]=
 (Mf [I x0,I x1,I x2,I x3,I x4,I x5,I x6,I x7,I x8, .view Aa x9,I x10]).bind fun o2=>
 (Nb [I x0,I x1,I x2,I x3,I x4,I x5,I x6,I x7,I x8, .view Aa x9,I (wrap .i64 (x10+gA o2 0))]).bind fun o3=>
 some [jA o3 0]:=by kernel_rfl
def Ms:=Q2g Jy JK
theorem Zu0:Aj PG (YB Jy JK):=Ao rfl ⟨Zys,Zrw,trivial⟩
theorem Zuz:Al PG (76,Ac Qdt Qng Ms):=rw1 (C:=(YB Jy JK)) Zu0
def Qdw:Sk:=⟨[TS.v true ([CS.sl As]++cc 5),tf [ci]],[],[]⟩
def Vo:Sk:=⟨[tf [ci]],[],[]⟩
def Q4d (M:Fn):Nat×Spec:=(75,Ac Qdw Vo M)
def C_track_find_0:Cfg:=cf []
def Q6k:Sk:=⟨[td,tf [ci],tf [CS.ptr 2 0],td,td,tf [ci],tf [ci]]++dd 29,[(2,62,[CS.sl As]++cc 5)],[]⟩
def Qxn:List (Ex×Sk):=[(Ex.exit 0,⟨dd 6++[tf [ci]]++dd 29,[],[]⟩)]
def RY:Lp:=A4 PG C_track_find_0 64 2 (A0 PG 75 2) Q6k Qxn
def Qva (N2:Lp):Cfg:=C_track_find_0.loop 2 Q6k Qxn N2
def Qp6 (N2:Lp):Fn:=Am PG (Qva N2) 64 75 Qdw Vo
theorem W3 (v0 v1 v2:Int) (v3:Rw) (v4 v5 v6 v7 v8:Int):RY [I v0,I v1,I v2, .view As v3,I v4,I v5,I v6,I v7,I v8]=
 bif decide (v1<v2)then
 bif decide (0<=wrap .i64 ((wrap .i64 (v1+v2)).tdiv 2))&&decide (wrap .i64 ((wrap .i64 (v1+v2)).tdiv 2)<(v3.length:Int))then
 bif decide (v0<=wrap .i64 (Af (nth .dead (nth [] v3 (wrap .i64 ((wrap .i64 (v1+v2)).tdiv 2)).toNat) 0)+Af (nth .dead (nth [] v3 (wrap .i64 ((wrap .i64 (v1+v2)).tdiv 2)).toNat) 1)))then
 some (0,[I v0,I v1,I (wrap .i64 ((wrap .i64 (v1+v2)).tdiv 2)), .view As v3,I v4,I v5,I v6,I v7,I v8])
 else
 some (0,[I v0,I (wrap .i64 (wrap .i64 ((wrap .i64 (v1+v2)).tdiv 2)+1)),I v2, .view As v3,I v4,I v5,I v6,I v7,I v8])
 else
 none
 else
 some (1,[I v2]):=by kernel_rfl
theorem Zsa (N2:Lp) (x0:Rw) (x1 x2 x3 x4 x5 x6:Int):Qp6 N2 [.view As x0,I x1,I x2,I x3,I x4,I x5,I x6]=
 (N2 [I x6,I 0,I (wrap .i64 ((x0.length:Int)-1)), .view As x0,I x1,I x2,I x3,I x4,I x5]).bind fun o1=>
 bif o1.1.beq 1 then
 some [jA o1.2 0]
 else
 none:=by kernel_rfl
def LG:=An (RY)
def I6:=Qp6 LG
theorem Q2b:Aj PG (C_track_find_0):=Ao rfl trivial
theorem Qrv:Al PG (75,Ac Qdw Vo I6):=rw2 (C:=(Qva LG)) (fl fb Q2b) Q2b
def Qeb:Sk:=⟨[TS.v true [ci,ci,ci,CS.sl Ah,CS.sl kPt],tf [ci]],[],[]⟩
def Qj4:Sk:=⟨[TS.tup [(false,[ci]),(false,[ci])]],[],[]⟩
def Qhv (M:Fn):Nat×Spec:=(117,Ac Qeb Qj4 M)
def C_path_Find_0:Cfg:=cf []
def Q6p:Sk:=⟨[td,tf [ci],tf [CS.ptr 2 0]]++dd 8++[tf [CS.sl Ah],tf [ci],tf [ci]]++dd 24,[(2,58,[ci,ci,ci,CS.sl Ah,CS.sl kPt])],[]⟩
def Q00:List (Ex×Sk):=[(Ex.ret,⟨[td,td,td,td,tf [ci],tf [ci]]++dd 32,[],[]⟩),(Ex.exit 0,⟨[td]++dd 37,[],[]⟩)]
def RI:Lp:=A4 PG C_path_Find_0 64 3 (A0 PG 117 3) Q6p Q00
def Qws (N3:Lp):Cfg:=C_path_Find_0.loop 3 Q6p Q00 N3
def Qxo (N3:Lp):Fn:=Am PG (Qws N3) 64 117 Qeb Qj4
theorem Qzv (v0:Int) (v1:Rw) (v2 v3 v4 v5 v6:Int) (v7 v8:Rw):RI [I v0, .view Ah v1,I v2,I v3,I v4,I v5,I v6, .view Ah v7, .view kPt v8]=
 bif decide (v3<v2)then
 bif decide (0<=v3)&&decide (v3<(v1.length:Int))then
 bif decide (v0<gA (nth [] v1 v3.toNat) 3)then
 some (1,[I v3,I v0])
 else
 bif v3==wrap .i64 ((v7.length:Int)-1)then
 some (1,[I v3,jA (nth [] v1 v3.toNat) 3])
 else
 some (0,[I (wrap .i64 (v0-gA (nth [] v1 v3.toNat) 3)), .view Ah v1,I v2,I (wrap .i64 (v3+1)),I v4,I v5,I v6, .view Ah v7, .view kPt v8])
 else
 none
 else
 some (2,[]):=by kernel_rfl
theorem Qq0 (N3:Lp) (x0 x1 x2:Int) (x3 x4:Rw) (x5:Int):Qxo N3 [I x0,I x1,I x2, .view Ah x3, .view kPt x4,I x5]=
 (N3 [I (mx x5 0), .view Ah x3,I (x3.length:Int),I 0,I x0,I x1,I x2, .view Ah x3, .view kPt x4]).bind fun o1=>
 bif o1.1.beq 1 then
 some [jA o1.2 0,jA o1.2 1]
 else
 bif o1.1.beq 2 then
 some [I (-1),I 0]
 else
 none:=by kernel_rfl
def Oj:=An (RI)
def Ez:=Qxo Oj
theorem Q2k:Aj PG (C_path_Find_0):=Ao rfl trivial
theorem Qj0:Al PG (117,Ac Qeb Qj4 Ez):=rw2 (C:=(Qws Oj)) (fl fb Q2k) Q2k
def Y3:Sk:=⟨[TS.v true [ci,ci,ci,CS.sl Ah,CS.sl kPt],tf [ci]],[],[]⟩
def Qn1:Sk:=⟨[TS.v true [ci,ci,ci]],[],[]⟩
def Z0v (M:Fn):Nat×Spec:=(74,Ac Y3 Qn1 M)
def Qm4 (AH Dl:Fn):Cfg:={cf [Lx AH,Qhv Dl]with unroll:=[9]}
def Qkg (AH Dl:Fn):Fn:=Am PG (Qm4 AH Dl) 64 74 Y3 Qn1
theorem Z1q (AH Dl:Fn) (x0 x1 x2:Int) (x3 x4:Rw) (x5:Int):Qkg AH Dl [I x0,I x1,I x2, .view Ah x3, .view kPt x4,I x5]=
 (Dl [I x0,I x1,I x2, .view Ah x3, .view kPt x4,I x5]).bind fun o7=>
 bif decide (gA o7 0<0)then
 some [I x0,I x1,I x2]
 else
 bif decide (gA o7 0>0)then
 bif decide (0<=wrap .i64 (gA o7 0-1))&&decide (wrap .i64 (gA o7 0-1)<(x3.length:Int))then
 bif decide (0<=gA o7 0)&&decide (gA o7 0<(x3.length:Int))then
 (AH [I (wrap .i64 (gA (nth [] x3 (gA o7 0).toNat) 0-gA (nth [] x3 (wrap .i64 (gA o7 0-1)).toNat) 0)),jA o7 1,jA (nth [] x3 (gA o7 0).toNat) 3,I 2]).bind fun o8=>
 (AH [I (wrap .i64 (gA (nth [] x3 (gA o7 0).toNat) 1-gA (nth [] x3 (wrap .i64 (gA o7 0-1)).toNat) 1)),jA o7 1,jA (nth [] x3 (gA o7 0).toNat) 3,I 2]).bind fun o9=>
 (AH [I (wrap .i64 (gA (nth [] x3 (gA o7 0).toNat) 2-gA (nth [] x3 (wrap .i64 (gA o7 0-1)).toNat) 2)),jA o7 1,jA (nth [] x3 (gA o7 0).toNat) 3,I 2]).bind fun o10=>
 some [I (wrap .i64 (gA (nth [] x3 (wrap .i64 (gA o7 0-1)).toNat) 0+gA o8 0)),I (wrap .i64 (gA (nth [] x3 (wrap .i64 (gA o7 0-1)).toNat) 1+gA o9 0)),I (wrap .i64 (gA (nth [] x3 (wrap .i64 (gA o7 0-1)).toNat) 2+gA o10 0))]
 else
 none
 else
 none
 else
 bif decide (0<=gA o7 0)&&decide (gA o7 0<(x3.length:Int))then
 (AH [I (wrap .i64 (gA (nth [] x3 (gA o7 0).toNat) 0-x0)),jA o7 1,jA (nth [] x3 (gA o7 0).toNat) 3,I 2]).bind fun o11=>
 (AH [I (wrap .i64 (gA (nth [] x3 (gA o7 0).toNat) 1-x1)),jA o7 1,jA (nth [] x3 (gA o7 0).toNat) 3,I 2]).bind fun o12=>
 (AH [I (wrap .i64 (gA (nth [] x3 (gA o7 0).toNat) 2-x2)),jA o7 1,jA (nth [] x3 (gA o7 0).toNat) 3,I 2]).bind fun o13=>
 some [I (wrap .i64 (x0+gA o11 0)),I (wrap .i64 (x1+gA o12 0)),I (wrap .i64 (x2+gA o13 0))]
 else
 none:=by kernel_rfl
def O4:=Qkg Bs Ez
theorem Z1j:Aj PG (Qm4 Bs Ez):=Ao rfl ⟨Lt,Qj0,trivial⟩
theorem Q9z:Al PG (74,Ac Y3 Qn1 O4):=rw1 (C:=(Qm4 Bs Ez)) Z1j
def Qjg:Sk:=⟨[tf [ci],tf [ci]],[],[]⟩
def Qcu:Sk:=⟨[tf [ci]],[],[]⟩
def Qe3 (M:Fn):Nat×Spec:=(73,Ac Qjg Qcu M)
def WS:Cfg:=cf []
def Qsv:Fn:=Am PG WS 64 73 Qjg Qcu
theorem Zyy (x0 x1:Int):Qsv [I x0,I x1]=
 some [I (mx 0 (mn x0 x1))]:=by kernel_rfl
def GL:=Qsv
theorem Zzh:Aj PG (WS):=Ao rfl trivial
theorem Wk:Al PG (73,Ac Qjg Qcu GL):=rw1 (C:=WS) Zzh
def Xx:Sk:=⟨[TS.v true ([CS.sl As]++cc 5),tf [ci]],[],[]⟩
def Qlh:Sk:=⟨[tf [ci]],[],[]⟩
def RX (M:Fn):Nat×Spec:=(36,Ac Xx Qlh M)
def Qlv (F1 Dr:Fn):Cfg:=cf [Q4d F1,Qe3 Dr]
def Qaw (F1 Dr:Fn):Fn:=Am PG (Qlv F1 Dr) 64 36 Xx Qlh
theorem Zr4 (F1 Dr:Fn) (x0:Rw) (x1 x2 x3 x4 x5 x6:Int):Qaw F1 Dr [.view As x0,I x1,I x2,I x3,I x4,I x5,I x6]=
 (Dr [I x6,I x1]).bind fun o2=>
 (F1 [.view As x0,I x1,I x2,I x3,I x4,I x5,jA o2 0]).bind fun o3=>
 bif decide (gA o3 0<0)then
 some [I x2]
 else
 bif decide (0<=gA o3 0)&&decide (gA o3 0<(x0.length:Int))then
 bif decide (0<=gA o3 0)&&decide (gA o3 0<(x0.length:Int))then
 bif decide (0<=gA o3 0)&&decide (gA o3 0<(x0.length:Int))then
 some [I (wrap .i64 (gA (nth [] x0 (gA o3 0).toNat) 2+wrap .i64 (gA (nth [] x0 (gA o3 0).toNat) 3*wrap .i64 (gA o2 0-gA (nth [] x0 (gA o3 0).toNat) 0))))]
 else
 none
 else
 none
 else
 none:=by kernel_rfl
def EI:=Qaw I6 GL
theorem Zex:Aj PG (Qlv I6 GL):=Ao rfl ⟨Qrv,Wk,trivial⟩
theorem Su:Al PG (36,Ac Xx Qlh EI):=rw1 (C:=(Qlv I6 GL)) Zex
def Qgn:Sk:=⟨[TS.v true [ci,ci,ci,CS.sl Ah,CS.sl kPt],TS.v true (cc 9++[CS.sl Aa]++cc 9++[CS.sl Aa]++cc 9++[CS.sl Aa]),TS.v true ([CS.sl As]++cc 5),tf [ci]],[],[]⟩
def VD:Sk:=⟨[TS.v true [ci,ci,ci]],[],[]⟩
def Qnn (M:Fn):Nat×Spec:=(29,Ac Qgn VD M)
def YO (FA BF Fy F1 Nh BZ Dr:Fn):Cfg:={cf [Zj1 FA,Qq3 BF,Zz3 Fy,Q4d F1,Z0v Nh,RX BZ,Qe3 Dr]with unroll:=[6]}
def Qn7 (FA BF Fy F1 Nh BZ Dr:Fn):Fn:=Am PG (YO FA BF Fy F1 Nh BZ Dr) 64 29 Qgn VD
abbrev Qch (Fy:Fn) (x:Ax3) (o27 o28:List AC) (BF:Fn) (t:Trk) (h1_0:AC) (FA:Fn) (o25:List AC) (h2_0:AC):Option (List AC):=
 (Fy [I x.c.step,I x.c.speed,I x.c.accel,I x.c.jerk,I x.c.low,I x.c.high,I x.c.back,I x.c.origin,I x.c.spacing, .view Aa (x.c.pitch.map Ap),jA o27 2]).bind fun o33=>
 bif decide (gA o28 0<0)then
 (BF [I x.c.step,I x.c.speed,I x.c.accel,I x.c.jerk,I x.c.low,I x.c.high,I x.c.back,I x.c.origin,I x.c.spacing, .view Aa (x.c.pitch.map Ap),I t.dirs.z]).bind fun o34=>
 some [h1_0,h2_0,I (wrap .i64 (gA o33 0+gA o34 0))]
 else
 bif decide (0<=gA o28 0)&&decide (gA o28 0<((t.aE.map AI).length:Int))then
 (FA (I x.c.step::I x.c.speed::I x.c.accel::I x.c.jerk::I x.c.low::I x.c.high::I x.c.back::I x.c.origin::I x.c.spacing:: .view Aa (x.c.pitch.map Ap)::(AK As (nth [] (t.aE.map AI) (gA o28 0).toNat)++[I (wrap .i64 (wrap .i64 (0+1)+1)),jA o25 0]))).bind fun o35=>
 some [h1_0,h2_0,I (wrap .i64 (gA o33 0+gA o35 0))]
 else
 none
attribute [go_sem] Qch
abbrev Qgv (Fy:Fn) (x:Ax3) (o27 o28:List AC) (BF:Fn) (t:Trk) (FA:Fn) (o25:List AC) (h1_0:AC):Option (List AC):=
 (Fy [I x.b.step,I x.b.speed,I x.b.accel,I x.b.jerk,I x.b.low,I x.b.high,I x.b.back,I x.b.origin,I x.b.spacing, .view Aa (x.b.pitch.map Ap),jA o27 1]).bind fun o31=>
 bif decide (gA o28 0<0)then
 (BF [I x.b.step,I x.b.speed,I x.b.accel,I x.b.jerk,I x.b.low,I x.b.high,I x.b.back,I x.b.origin,I x.b.spacing, .view Aa (x.b.pitch.map Ap),I t.dirs.y]).bind fun o32=>
 Qch Fy x o27 o28 BF t h1_0 FA o25 (I (wrap .i64 (gA o31 0+gA o32 0)))
 else
 bif decide (0<=gA o28 0)&&decide (gA o28 0<((t.aE.map AI).length:Int))then
 (FA (I x.b.step::I x.b.speed::I x.b.accel::I x.b.jerk::I x.b.low::I x.b.high::I x.b.back::I x.b.origin::I x.b.spacing:: .view Aa (x.b.pitch.map Ap)::(AK As (nth [] (t.aE.map AI) (gA o28 0).toNat)++[I (wrap .i64 (0+1)),jA o25 0]))).bind fun o36=>
 Qch Fy x o27 o28 BF t h1_0 FA o25 (I (wrap .i64 (gA o31 0+gA o36 0)))
 else
 none
attribute [go_sem] Qgv
theorem Zs7 (FA BF Fy F1 Nh BZ Dr:Fn) (x41:Int) (p:Pth) (x:Ax3) (t:Trk):Qn7 FA BF Fy F1 Nh BZ Dr (pxt p x t [I x41])=
 (Dr [I x41,I t.length]).bind fun o25=>
 (BZ [.view As (t.aE.map AI),I t.length,I t.start,I t.dirs.x,I t.dirs.y,I t.dirs.z,jA o25 0]).bind fun o26=>
 (Nh [I p.start.x,I p.start.y,I p.start.z, .view Ah (p.aF.map Ay), .view kPt (p.aD.map Aq),jA o26 0]).bind fun o27=>
 (F1 [.view As (t.aE.map AI),I t.length,I t.start,I t.dirs.x,I t.dirs.y,I t.dirs.z,jA o25 0]).bind fun o28=>
 (Fy [I x.a.step,I x.a.speed,I x.a.accel,I x.a.jerk,I x.a.low,I x.a.high,I x.a.back,I x.a.origin,I x.a.spacing, .view Aa (x.a.pitch.map Ap),jA o27 0]).bind fun o29=>
 bif decide (gA o28 0<0)then
 (BF [I x.a.step,I x.a.speed,I x.a.accel,I x.a.jerk,I x.a.low,I x.a.high,I x.a.back,I x.a.origin,I x.a.spacing, .view Aa (x.a.pitch.map Ap),I t.dirs.x]).bind fun o30=>
 Qgv Fy x o27 o28 BF t FA o25 (I (wrap .i64 (gA o29 0+gA o30 0)))
 else
 bif decide (0<=gA o28 0)&&decide (gA o28 0<((t.aE.map AI).length:Int))then
 (FA (I x.a.step::I x.a.speed::I x.a.accel::I x.a.jerk::I x.a.low::I x.a.high::I x.a.back::I x.a.origin::I x.a.spacing:: .view Aa (x.a.pitch.map Ap)::(AK As (nth [] (t.aE.map AI) (gA o28 0).toNat)++[I 0,jA o25 0]))).bind fun o40=>
 Qgv Fy x o27 o28 BF t FA o25 (I (wrap .i64 (gA o29 0+gA o40 0)))
 else
 none:=by kernel_rfl
def FD:=Qn7 S9 Iu Ms I6 O4 EI GL
theorem Znz:Aj PG (YO S9 Iu Ms I6 O4 EI GL):=Ao rfl ⟨Zwe,Qsw,Zuz,Qrv,Q9z,Su,Wk,trivial⟩
theorem Zk:Al PG (29,Ac Qgn VD FD):=rw1 (C:=(YO S9 Iu Ms I6 O4 EI GL)) Znz
def Wh:Sk:=⟨[TS.v true [ci,ci,ci,CS.sl Ah,CS.sl kPt],TS.v true (cc 9++[CS.sl Aa]++cc 9++[CS.sl Aa]++cc 9++[CS.sl Aa]),TS.v true ([CS.sl As]++cc 5),tf [ci],tf [ci]],[],[]⟩
def Uq:Sk:=⟨[tf [CS.sl kPt]],[],[]⟩
def Zjo (M:Fn):Nat×Spec:=(25,Ac Wh Uq M)
def V4 (Bu:Fn):Cfg:={cf [Qnn Bu]with prom:=fun b=>bif Nat.beq b 5 then [(11,130)]else [],unroll:=[9]}
def Qur:Sk:=⟨[td,td,td,td,tf [ci],tf [CS.ptr 5 0],tf [CS.ptr 6 0],tf [CS.ptr 7 0],td,td,td,tf [CS.own 11 3],tf [CS.ptr 12 0],tf [ci]]++dd 54,[(5,58,[ci,ci,ci,CS.sl Ah,CS.sl kPt]),(6,27,cc 9++[CS.sl Aa]++cc 9++[CS.sl Aa]++cc 9++[CS.sl Aa]),(7,62,[CS.sl As]++cc 5),(12,44,[ci,ci,ci])],[(11,130,kPt)]⟩
def Qw3:List (Ex×Sk):=[(Ex.exit 0,⟨dd 11++[tf [CS.own 11 3]]++dd 56,[],[(11,130,kPt)]⟩)]
def Uv (Bu:Fn):Lp:=A4 PG (V4 Bu) 64 5 (A0 PG 25 5) Qur Qw3
def Q0z (Bu:Fn) (N5:Lp):Cfg:=(V4 Bu).loop 5 Qur Qw3 N5
def Qfi (Bu:Fn) (N5:Lp):Fn:=Am PG (Q0z Bu N5) 64 25 Wh Uq
abbrev Nj (o6:List AC) (v46 v1 v2:Int) (p:Pth) (x:Ax3) (t:Trk) (h1_0:Bool) (h1_1 h1_2:AC):Option (Nat×List AC):=
 bif gA o6 2 !=v46 then
 bif h1_0 then
 some (0,(h1_1::I v1::I (wrap .i64 (v2+1))::pxt p x t [jA o6 0,jA o6 1,jA o6 2]))
 else
 none
 else
 some (0,(h1_2::I v1::I (wrap .i64 (v2+1))::pxt p x t [jA o6 0,jA o6 1,jA o6 2]))
attribute [go_sem] Nj
theorem Zxc (Bu:Fn) (v0:Rw) (v1 v2:Int) (v44 v45 v46:Int) (p:Pth) (x:Ax3) (t:Trk):Uv Bu (.view kPt v0::I v1::I v2::pxt p x t [I v44,I v45,I v46])=
 bif decide (v2<v1)then
 (Bu (pxt p x t [I (wrap .i64 (v2+1))])).bind fun o6=>
 bif gA o6 0 !=v44 then
 bif((v0++[[I (wrap .i64 (v2+1)),I 0,I (wrap .i64 (gA o6 0-v44))]]).length*24).ble 140737488355328 then
 bif gA o6 1 !=v45 then
 bif((v0++[[I (wrap .i64 (v2+1)),I 0,I (wrap .i64 (gA o6 0-v44))]]++[[I (wrap .i64 (v2+1)),I (wrap .i64 (0+1)),I (wrap .i64 (gA o6 1-v45))]]).length*24).ble 140737488355328 then
 Nj o6 v46 v1 v2 p x t (((v0++[[I (wrap .i64 (v2+1)),I 0,I (wrap .i64 (gA o6 0-v44))]]++[[I (wrap .i64 (v2+1)),I (wrap .i64 (0+1)),I (wrap .i64 (gA o6 1-v45))]]++[[I (wrap .i64 (v2+1)),I (wrap .i64 (wrap .i64 (0+1)+1)),I (wrap .i64 (gA o6 2-v46))]]).length*24).ble 140737488355328) (.view kPt (v0++[[I (wrap .i64 (v2+1)),I 0,I (wrap .i64 (gA o6 0-v44))]]++[[I (wrap .i64 (v2+1)),I (wrap .i64 (0+1)),I (wrap .i64 (gA o6 1-v45))]]++[[I (wrap .i64 (v2+1)),I (wrap .i64 (wrap .i64 (0+1)+1)),I (wrap .i64 (gA o6 2-v46))]])) (.view kPt (v0++[[I (wrap .i64 (v2+1)),I 0,I (wrap .i64 (gA o6 0-v44))]]++[[I (wrap .i64 (v2+1)),I (wrap .i64 (0+1)),I (wrap .i64 (gA o6 1-v45))]]))
 else
 none
 else
 Nj o6 v46 v1 v2 p x t (((v0++[[I (wrap .i64 (v2+1)),I 0,I (wrap .i64 (gA o6 0-v44))]]++[[I (wrap .i64 (v2+1)),I (wrap .i64 (wrap .i64 (0+1)+1)),I (wrap .i64 (gA o6 2-v46))]]).length*24).ble 140737488355328) (.view kPt (v0++[[I (wrap .i64 (v2+1)),I 0,I (wrap .i64 (gA o6 0-v44))]]++[[I (wrap .i64 (v2+1)),I (wrap .i64 (wrap .i64 (0+1)+1)),I (wrap .i64 (gA o6 2-v46))]])) (.view kPt (v0++[[I (wrap .i64 (v2+1)),I 0,I (wrap .i64 (gA o6 0-v44))]]))
 else
 none
 else
 bif gA o6 1 !=v45 then
 bif((v0++[[I (wrap .i64 (v2+1)),I (wrap .i64 (0+1)),I (wrap .i64 (gA o6 1-v45))]]).length*24).ble 140737488355328 then
 Nj o6 v46 v1 v2 p x t (((v0++[[I (wrap .i64 (v2+1)),I (wrap .i64 (0+1)),I (wrap .i64 (gA o6 1-v45))]]++[[I (wrap .i64 (v2+1)),I (wrap .i64 (wrap .i64 (0+1)+1)),I (wrap .i64 (gA o6 2-v46))]]).length*24).ble 140737488355328) (.view kPt (v0++[[I (wrap .i64 (v2+1)),I (wrap .i64 (0+1)),I (wrap .i64 (gA o6 1-v45))]]++[[I (wrap .i64 (v2+1)),I (wrap .i64 (wrap .i64 (0+1)+1)),I (wrap .i64 (gA o6 2-v46))]])) (.view kPt (v0++[[I (wrap .i64 (v2+1)),I (wrap .i64 (0+1)),I (wrap .i64 (gA o6 1-v45))]]))
 else
 none
 else
 Nj o6 v46 v1 v2 p x t (((v0++[[I (wrap .i64 (v2+1)),I (wrap .i64 (wrap .i64 (0+1)+1)),I (wrap .i64 (gA o6 2-v46))]]).length*24).ble 140737488355328) (.view kPt (v0++[[I (wrap .i64 (v2+1)),I (wrap .i64 (wrap .i64 (0+1)+1)),I (wrap .i64 (gA o6 2-v46))]])) (.view kPt v0)
 else
 some (1,[.view kPt v0]):=by kernel_rfl
theorem Zdi (Bu:Fn) (N5:Lp) (x41 x42:Int) (p:Pth) (x:Ax3) (t:Trk):Qfi Bu N5 (pxt p x t [I x41,I x42])=
 (Bu (pxt p x t [I (mx 0 (mn x41 t.length))])).bind fun o7=>
 (N5 (.view kPt []::I (mx 0 (mn x42 t.length))::I (mx 0 (mn x41 t.length))::pxt p x t [jA o7 0,jA o7 1,jA o7 2])).bind fun o8=>
 bif o8.1.beq 1 then
 some [.view kPt (wA o8.2 0)]
 else
 none:=by kernel_rfl
def Qqn:=An (Uv FD)
def Kv:=Qfi FD Qqn
theorem Q7h:Aj PG (V4 FD):=Ao rfl ⟨Zk,trivial⟩
theorem Zfr:Al PG (25,Ac Wh Uq Kv):=rw2 (C:=(Q0z FD Qqn)) (fl fb Q7h) Q7h
def Up:Sk:=⟨[tf [CS.ptr 20000 0]],[(20000,119,cS)],[]⟩
def Qb8:Sk:=⟨[TS.v true [ci,ci,ci,CS.sl Ah,CS.sl kPt]],[(20000,119,cS)],[]⟩
def Zzw (M:Fn):Nat×Spec:=(26,Ac Up Qb8 M)
def Qhy:Cfg:=cf []
def Qrw:Fn:=Am PG Qhy 64 26 Up Qb8
theorem Z1u (K:Kf) (c:Cv):Qrw (Ad K c)=
 bif((K.p.aF.map Ay).length*56).ble 140737488355328 then
 bif((K.p.aD.map Aq).length*24).ble 140737488355328 then
 some (Br K.p++Ad K c)
 else
 none
 else
 none:=by kernel_rfl
def Ks:=Qrw
theorem Zaq:Aj PG (Qhy):=Ao rfl trivial
theorem Znh:Al PG (26,Ac Up Qb8 Ks):=rw1 (C:=Qhy) Zaq
def WW:Sk:=⟨[tf [ci],TS.v true (cc 13++[CS.bool,ci,CS.bool]++cc 5++[CS.bool])],[],[]⟩
def UF:Sk:=⟨[tf [ci]],[],[]⟩
def Zrf (M:Fn):Nat×Spec:=(164,Ac WW UF M)
def Qbc:Cfg:=cf []
def Qi5:Fn:=Am PG Qbc 64 164 WW UF
theorem Zc1 (x0 x1 x2 x3 x4 x5 x6 x7 x8 x9 x10 x11 x12 x13:Int) (x14:Bool) (x15:Int) (x16:Bool) (x17 x18 x19 x20 x21:Int) (x22:Bool):Qi5 [I x0,I x1,I x2,I x3,I x4,I x5,I x6,I x7,I x8,I x9,I x10,I x11,I x12,I x13,B x14,I x15,B x16,I x17,I x18,I x19,I x20,I x21,B x22]=
 bif x1 !=10 then
 some [I x0]
 else
 bif decide (x20<0)then
 some [I x0]
 else
 bif decide (x20>=16)then
 some [I x0]
 else
 bif decide (wrap .u64 x20<0)then
 none
 else
 bif x22 then
 some [I (wrap .i64 (↑(BitVec.ofInt IntKind.i64.bits x0|||BitVec.ofInt IntKind.i64.bits (wrap .i64 (1*2^min (wrap .u64 x20).toNat IntKind.i64.bits))).toNat:Int))]
 else
 some [I (wrap .i64 (↑(BitVec.ofInt IntKind.i64.bits x0&&& ~~~BitVec.ofInt IntKind.i64.bits (wrap .i64 (1*2^min (wrap .u64 x20).toNat IntKind.i64.bits))).toNat:Int))]:=by kernel_rfl
def JA:=Qi5
theorem Zvh:Aj PG (Qbc):=Ao rfl trivial
theorem Zr7:Al PG (164,Ac WW UF JA):=rw1 (C:=Qbc) Zvh
def Qd8:Sk:=⟨[TS.v true [ci,ci,ci],TS.v true [ci,ci,CS.bool,CS.bool,CS.bool]],[],[]⟩
def Qjj:Sk:=⟨[tf [CS.bool]],[],[]⟩
def Q5x (M:Fn):Nat×Spec:=(163,Ac Qd8 Qjj M)
def Qf1:Cfg:=cf []
def Qjc:Fn:=Am PG Qf1 64 163 Qd8 Qjj
theorem Zur (x0 x1 x2 x3 x4:Int) (x5 x6 x7:Bool):Qjc [I x0,I x1,I x2,I x3,I x4,B x5,B x6,B x7]=
 bif x1==1 then
 some [B true]
 else
 bif x1==3 then
 some [B true]
 else
 bif x1==6 then
 some [B true]
 else
 bif x1==4 then
 bif x7 then
 some [B true]
 else
 some [B x6]
 else
 bif x1==2 then
 some [B x6]
 else
 some [B false]:=by kernel_rfl
def HV:=Qjc
theorem Zwh:Aj PG (Qf1):=Ao rfl trivial
theorem Q1i:Al PG (163,Ac Qd8 Qjj HV):=rw1 (C:=Qf1) Zwh
def Qk2:Sk:=⟨[tf [CS.ptr 20000 0],tf [ci]],[(20000,119,cS)],[]⟩
def Qhu:Sk:=⟨[tf [CS.sl Aa]],[(20000,119,cS)],[]⟩
def Zqk (M:Fn):Nat×Spec:=(111,Ac Qk2 Qhu M)
def WM (E1 CN:Fn):Cfg:={cf [Zrf E1,Q5x CN]with prom:=fun b=>bif Nat.beq b 2 then [(5,3)]else []}
def Q5j:Sk:=⟨[tf [CS.ptr 20000 0],tf [ci],td,td,td,tf [CS.own 5 1]]++dd 84,[(20000,119,cS)],[(5,3,Aa)]⟩
def Qqf:List (Ex×Sk):=[(Ex.exit 0,⟨[td,td,td,td,td,tf [CS.own 5 1]]++dd 84,[(20000,119,cS)],[(5,3,Aa)]⟩)]
def QY (E1 CN:Fn):Lp:=A4 PG (WM E1 CN) 64 2 (A0 PG 111 2) Q5j Qqf
def Qsg (E1 CN:Fn) (N2:Lp):Cfg:=(WM E1 CN).loop 2 Q5j Qqf N2
def Qgu (E1 CN:Fn) (N2:Lp):Fn:=Am PG (Qsg E1 CN N2) 64 111 Qk2 Qhu
abbrev OC (K:Kf) (c:Cv) (v0:Rw) (E1:Fn) (v1:Int):Option (Nat×List AC):=
 bif gA (nth [] (K.p.aD.map Aq) c.aK.toNat) 1==5 then
 bif((v0++[[jA (nth [] (K.p.aD.map Aq) c.aK.toNat) 2]]).length*8).ble 140737488355328 then
 bif decide (0<=gA (nth [] (K.p.aD.map Aq) c.aK.toNat) 2)&&decide (gA (nth [] (K.p.aD.map Aq) c.aK.toNat) 2<((K.aA.map Ag).length:Int))then
 (E1 (I c.outs::AK Ai (nth [] (K.aA.map Ag) (gA (nth [] (K.p.aD.map Aq) c.aK.toNat) 2).toNat))).bind fun o10=>
 some (0,(.view Aa (v0++[[jA (nth [] (K.p.aD.map Aq) c.aK.toNat) 2]])::I v1::Ad K {c with outs:=gA o10 0,aK:=wrap .i64 (c.aK+1)}))
 else
 none
 else
 none
 else
 some (0,(.view Aa v0::I v1::Ad K {c with aK:=wrap .i64 (c.aK+1)}))
attribute [go_sem] OC
theorem Zv4 (E1 CN:Fn) (v0:Rw) (v1:Int) (K:Kf) (c:Cv):QY E1 CN (.view Aa v0::I v1::Ad K c)=
 bif decide (c.aK<((K.p.aD.map Aq).length:Int))then
 bif decide (0<=c.aK)&&decide (c.aK<((K.p.aD.map Aq).length:Int))then
 bif decide (gA (nth [] (K.p.aD.map Aq) c.aK.toNat) 0>v1)then
 some (1,(.view Aa v0::Ad K c))
 else
 bif gA (nth [] (K.p.aD.map Aq) c.aK.toNat) 0==v1 then
 bif decide (c.aK>=c.next)then
 (CN [jA (nth [] (K.p.aD.map Aq) c.aK.toNat) 0,jA (nth [] (K.p.aD.map Aq) c.aK.toNat) 1,jA (nth [] (K.p.aD.map Aq) c.aK.toNat) 2,I c.o0,I c.o1,B c.o2,B c.o3,B c.o4]).bind fun o9=>
 bif bA o9 0 then
 some (1,(.view Aa v0::Ad K c))
 else
 OC K c v0 E1 v1
 else
 OC K c v0 E1 v1
 else
 OC K c v0 E1 v1
 else
 none
 else
 some (1,(.view Aa v0::Ad K c)):=by kernel_rfl
theorem Zan (E1 CN:Fn) (N2:Lp) (x0:Int) (K:Kf) (c:Cv):Qgu E1 CN N2 (I x0::Ad K c)=
 (N2 (.view Aa []::I x0::Ad K c)).bind fun o13=>
 bif o13.1.beq 1 then
 some (.view Aa (wA o13.2 0)::cR 1 o13.2)
 else
 none:=by kernel_rfl
def Q2q:=An (QY JA HV)
def OO:=Qgu JA HV Q2q
theorem Qto:Aj PG (WM JA HV):=Ao rfl ⟨Zr7,Q1i,trivial⟩
theorem Zf0:Al PG (111,Ac Qk2 Qhu OO):=rw2 (C:=(Qsg JA HV Q2q)) (fl fb Qto) Qto
def Wi:Sk:=⟨[tf [CS.ptr 20000 0]],[(20000,119,cS)],[]⟩
def WV:Sk:=⟨[tf [ci]],[],[]⟩
def Tl (M:Fn):Nat×Spec:=(63,EX Wi WV M)
def PD:Cfg:=cf []
def Qkv:Fn:=Oo PG PD 64 63 Wi WV
theorem Zn9 (K:Kf) (c:Cv):Qkv (Ad K c)=
 some [I (wrap .i64 (c.m0.tdiv 256))]:=by kernel_rfl
def DO:=Qkv
theorem Zn7:Aj PG (PD):=Ao rfl trivial
theorem Zzk (vars:List AC) (R:Type) (K:TV->Mem->Option R):Fe PG PD 64 63 [TV.v false [AC.ptr 20000 0]] ⟨[(20000,(⟨119,(cR 0 vars)⟩:Box))],[]⟩ K=Fe PG PD 64 63 [TV.v false [AC.ptr 20000 0]] ⟨[(20000,(⟨119,(cR 0 vars)⟩:Box))],[]⟩ (fun v _=>K v ⟨[(20000,(⟨119,(cR 0 vars)⟩:Box))],[]⟩):=Eq.trans (b:=(K (TV.v false [I (wrap .i64 ((gA vars 50).tdiv 256))]) ⟨[(20000,(⟨119,(cR 0 vars)⟩:Box))],[]⟩)) (by kernel_rfl) (Eq.symm (by kernel_rfl))
theorem Re:Al PG (63,EX Wi WV DO):=SM (C:=PD) (L:=64) (by kernel_rfl) (FnOK.bare rfl rfl rfl) Zn7 eqOk Hr (by kernel_rfl) (by kernel_rfl) (fun vars R K=>Zzk vars R K)
def Qev:Sk:=⟨[tf [CS.ptr 20000 0]],[(20000,119,cS)],[]⟩
def VH:Sk:=⟨[tf [ci]],[],[]⟩
def RG (M:Fn):Nat×Spec:=(110,EX Qev VH M)
def Pk (BZ A9:Fn):Cfg:=cr [RX BZ,Tl A9] [63] [63]
def Qnf (BZ A9:Fn):Fn:=Oo PG (Pk BZ A9) 64 110 Qev VH
theorem Zwy (BZ A9:Fn) (K:Kf) (c:Cv):Qnf BZ A9 (Ad K c)=
 (A9 (Ad K c)).bind fun o2=>
 (BZ (Bq K.t++[jA o2 0])).bind fun o3=>
 some [jA o3 0]:=by kernel_rfl
def Es:=Qnf EI DO
theorem Zer:Aj PG (Pk EI DO):=IB (rs:=[63]) rfl ⟨Su,Re,trivial⟩ rfl (CX rfl (G3 IH))
theorem Z02 (vars : List AC) (R : Type) (K : TV -> Mem -> Option R) : Fe PG (Pk EI DO) 64 110 [TV.v false [AC.ptr 20000 0]] ⟨[(20000, (⟨119, (cR 0 vars)⟩ : Box))], []⟩ K = Fe PG (Pk EI DO) 64 110 [TV.v false [AC.ptr 20000 0]] ⟨[(20000, (⟨119, (cR 0 vars)⟩ : Box))], []⟩ (fun v _ => K v ⟨[(20000, (⟨119, (cR 0 vars)⟩ : Box))], []⟩) := Eq.trans (b := ((DO (cR 0 vars)).bind fun o2 =>
 (EI [.view As (wA vars 44),jA vars 45,jA vars 46,jA vars 47,jA vars 48,jA vars 49,jA o2 0]).bind fun o3=>
 K (TV.v false [jA o3 0]) ⟨[(20000,(⟨119,(cR 0 vars)⟩:Box))],[]⟩)) (by kernel_rfl) (Eq.symm (by kernel_rfl))
theorem QI:Al PG (110,EX Qev VH Es):=SM (C:=(Pk EI DO)) (L:=64) (by kernel_rfl) (FnOK.bare rfl rfl rfl) Zer eqOk Hr (by kernel_rfl) (by kernel_rfl) (fun vars R K=>Z02 vars R K)
def Xp:Sk:=⟨[tf [CS.ptr 20000 0],tf [CS.ptr 20001 0],tf [ci]],[(20000,119,cS),(20001,46,[CS.sl kPt,CS.sl Aa]++cc 7)],[]⟩
def Yy:Sk:=⟨[TS.tup []],[(20000,119,cS),(20001,46,[CS.sl kPt,CS.sl Aa]++cc 7)],[]⟩
def Zy5 (M:Fn):Nat×Spec:=(71,Ac Xp Yy M)
def Qkq (Bu Iv L9 B8 A9:Fn):Cfg:=cr [Qnn Bu,Zqk Iv,Zjo L9,RG B8,Tl A9] [111,110,63] [110,63]
def Qgt (Bu Iv L9 B8 A9:Fn):Fn:=Am PG (Qkq Bu Iv L9 B8 A9) 64 71 Xp Yy
abbrev Qg3 (c:Cv) (Iv:Fn) (o10:List AC) (K:Kf) (Bu:Fn) (o9:List AC) (x93:Int) (x92:Rw) (h1_0:AC):Option (List AC):=
 bif c.way==0 then
 (Iv (jA o10 0::Ad K c)).bind fun o12=>
 (Bu [jA o12 38,jA o12 39,jA o12 40, .view Ah (wA o12 41), .view kPt (wA o12 42),jA o12 1,jA o12 2,jA o12 3,jA o12 4,jA o12 5,jA o12 6,jA o12 7,jA o12 8,jA o12 9, .view Aa (wA o12 10),jA o12 11,jA o12 12,jA o12 13,jA o12 14,jA o12 15,jA o12 16,jA o12 17,jA o12 18,jA o12 19, .view Aa (wA o12 20),jA o12 21,jA o12 22,jA o12 23,jA o12 24,jA o12 25,jA o12 26,jA o12 27,jA o12 28,jA o12 29, .view Aa (wA o12 30), .view As (wA o12 45),jA o12 46,jA o12 47,jA o12 48,jA o12 49,jA o12 50,jA o9 0]).bind fun o13=>
 some (cR 1 o12++[h1_0, .view Aa (wA o12 0),I x93,jA o10 0,jA o13 0,jA o13 1,jA o13 2,jA o12 68,jA o12 63])
 else
 (Bu (pxt K.p K.x K.t [jA o9 0])).bind fun o14=>
 some (Ad K c++[h1_0, .view Aa x92,I x93,jA o10 0,jA o14 0,jA o14 1,jA o14 2,I c.s3,I c.g1])
attribute [go_sem] Qg3
theorem Zjz (Bu Iv L9 B8 A9:Fn) (x0:Int) (x91 x92:Rw) (x93 x94 x95 x96 x97 x98 x99:Int) (K:Kf) (c:Cv):Qgt Bu Iv L9 B8 A9 (I x0::(Ad K c++[.view kPt x91, .view Aa x92,I x93,I x94,I x95,I x96,I x97,I x98,I x99]))=
 (A9 (Ad K c)).bind fun o9=>
 (B8 (Ad K c)).bind fun o10=>
 bif !c.aL then
 (L9 (pxt K.p K.x K.t [I x0,jA o9 0])).bind fun o11=>
 Qg3 c Iv o10 K Bu o9 x93 x92 (.view kPt (wA o11 0))
 else
 Qg3 c Iv o10 K Bu o9 x93 x92 (.view kPt x91):=by kernel_rfl
def Lu:=Qgt FD OO Kv Es DO
theorem Zfn:Aj PG (Qkq FD OO Kv Es DO):=IB (rs:=[110,63]) rfl ⟨Zk,Zf0,Zfr,QI,Re,trivial⟩ rfl (CX rfl (CX rfl (CX rfl (G3 (G3 IH)))))
theorem Zay:Al PG (71,Ac Xp Yy Lu):=rw1 (C:=(Qkq FD OO Kv Es DO)) Zfn
def U7:Sk:=⟨[tf [CS.ptr 20000 0]],[(20000,119,cS)],[]⟩
def YP:Sk:=⟨[TS.tup []],[(20000,119,cS)],[]⟩
def XJ (M:Fn):Nat×Spec:=(108,Ac U7 YP M)
def Qef:Cfg:=cf []
def Ql3:Fn:=Am PG Qef 64 108 U7 YP
theorem Zj3 (K:Kf) (c:Cv):Ql3 (Ad K c)=
 bif c.g0==0 then
 some (Ad K {c with o2:=true,g0:=1,g1:=18,g2:= -1})
 else
 some (Ad K c):=by kernel_rfl
def GH:=Ql3
theorem Zlq:Aj PG (Qef):=Ao rfl trivial
theorem VL:Al PG (108,Ac U7 YP GH):=rw1 (C:=Qef) Zlq
def Uu:Sk:=⟨[TS.v true [ci,ci,ci],tf [ci]],[],[]⟩
def Zg:Sk:=⟨[tf [ci]],[],[]⟩
def Qok (M:Fn):Nat×Spec:=(174,Ac Uu Zg M)
def Y6:Cfg:=cf []
def SW:Fn:=Am PG Y6 64 174 Uu Zg
theorem Y7 (x0 x1 x2 x3:Int):SW [I x0,I x1,I x2,I x3]=
 bif decide (x3<=0)then
 some [I 0]
 else
 bif decide (x1<=0)then
 some [I 0]
 else
 bif decide (x1=0)then
 none
 else
 some [I (wrap .i64 (wrap .i64 (wrap .i64 ((wrap .i64 (x3-1)).tdiv x1)*x3)-wrap .i64 (x1*wrap .i64 ((wrap .i64 (wrap .i64 ((wrap .i64 (x3-1)).tdiv x1)*wrap .i64 (wrap .i64 ((wrap .i64 (x3-1)).tdiv x1)+1))).tdiv 2))))]:=by kernel_rfl
def Gq:=SW
theorem Zio:Aj PG (Y6):=Ao rfl trivial
theorem Q5d:Al PG (174,Ac Uu Zg Gq):=rw1 (C:=Y6) Zio
def Ua:Sk:=⟨[TS.v true [ci,ci,ci]],[],[]⟩
def Y0:Sk:=⟨[tf [CS.bool]],[],[]⟩
def Qe6 (M:Fn):Nat×Spec:=(87,Ac Ua Y0 M)
def WP:Cfg:=cf []
def Qs7:Fn:=Am PG WP 64 87 Ua Y0
theorem Zc4 (x0 x1 x2:Int):Qs7 [I x0,I x1,I x2]=
 bif decide (1<=x0)then
 bif decide (x0<=65536)then
 bif decide (2<=x1)then
 bif decide (x1<=65536)then
 bif decide (1<=x2)then
 some [B (decide (x2<=16777216))]
 else
 some [B false]
 else
 some [B false]
 else
 some [B false]
 else
 some [B false]
 else
 some [B false]:=by kernel_rfl
def EL:=Qs7
theorem Z1m:Aj PG (WP):=Ao rfl trivial
theorem Qiq:Al PG (87,Ac Ua Y0 EL):=rw1 (C:=WP) Z1m
def Qjp:Sk:=⟨[TS.v true [ci,ci,ci],tf [ci],tf [ci]],[],[]⟩
def ZW:Sk:=⟨[tf [ci]],[],[]⟩
def WJ (M:Fn):Nat×Spec:=(129,Ac Qjp ZW M)
def VC (Dg BQ:Fn):Cfg:=cf [Qok Dg,Qe6 BQ]
def Qsl:Sk:=⟨[td,tf [ci],td,tf [CS.ptr 3 0],td,td,td,tf [ci],tf [ci]]++dd 49,[(3,29,[ci,ci,ci])],[]⟩
def Q7c:List (Ex×Sk):=[(Ex.exit 0,⟨dd 7++[tf [ci]]++dd 50,[],[]⟩)]
def Ln (Dg BQ:Fn):Lp:=A4 PG (VC Dg BQ) 64 4 (A0 PG 129 4) Qsl Q7c
def Qp4 (Dg BQ:Fn) (N4:Lp):Cfg:=(VC Dg BQ).loop 4 Qsl Q7c N4
def Rp (Dg BQ:Fn) (N4:Lp):Fn:=Am PG (Qp4 Dg BQ N4) 64 129 Qjp ZW
theorem Qi3 (Dg BQ:Fn) (v0 v1 v2 v3 v4 v5:Int):Ln Dg BQ [I v0,I v1,I v2,I v3,I v4,I v5]=
 bif decide (v1<v2)then
 (Dg [I v3,I v4,I v5,I (wrap .i64 (v2-wrap .i64 ((wrap .i64 (v2-v1)).tdiv 2)))]).bind fun o4=>
 bif decide (wrap .i64 (v0-wrap .i64 (v2-wrap .i64 ((wrap .i64 (v2-v1)).tdiv 2)))>=gA o4 0)then
 some (0,[I v0,I (wrap .i64 (v2-wrap .i64 ((wrap .i64 (v2-v1)).tdiv 2))),I v2,I v3,I v4,I v5])
 else
 some (0,[I v0,I v1,I (wrap .i64 (wrap .i64 (v2-wrap .i64 ((wrap .i64 (v2-v1)).tdiv 2))-1)),I v3,I v4,I v5])
 else
 some (1,[I v1]):=by kernel_rfl
theorem Qy4 (Dg BQ:Fn) (N4:Lp) (x0 x1 x2 x3 x4:Int):Rp Dg BQ N4 [I x0,I x1,I x2,I x3,I x4]=
 (BQ [I x0,I x1,I x2]).bind fun o5=>
 bif !bA o5 0 then
 some [I 0]
 else
 bif decide (mx x4 x3>1099511627776)then
 some [I 0]
 else
 bif decide (mn x4 x3< -1099511627776)then
 some [I 0]
 else
 (N4 [I x3,I (wrap .i64 (wrap .i64 (0-x4)-x1)),I (mn (wrap .i64 (x1-x4)) x0),I x0,I x1,I x2]).bind fun o6=>
 bif o6.1.beq 1 then
 some [I (wrap .i64 (0-gA o6.2 0))]
 else
 none:=by kernel_rfl
def Qp7:=An (Ln Gq EL)
def E7:=Rp Gq EL Qp7
theorem Qtn:Aj PG (VC Gq EL):=Ao rfl ⟨Q5d,Qiq,trivial⟩
theorem VX:Al PG (129,Ac Qjp ZW E7):=rw2 (C:=(Qp4 Gq EL Qp7)) (fl fb Qtn) Qtn
def Qir:Sk:=⟨[tf [CS.sl Aa],tf [ci]],[],[]⟩
def Yv:Sk:=⟨[tf [CS.bool]],[],[]⟩
def Zam (M:Fn):Nat×Spec:=(121,Ac Qir Yv M)
def C_limits_bounded_0:Cfg:=cf []
def Qqv:Sk:=⟨[td,tf [ci],td,td,td,td,td,tf [CS.sl Aa],tf [ci],tf [ci]]++dd 13,[],[]⟩
def Qso:List (Ex×Sk):=[(Ex.ret,⟨[td,td,td,td,tf [CS.bool]]++dd 18,[],[]⟩),(Ex.exit 0,⟨[td]++dd 22,[],[]⟩)]
def Qlp:Lp:=A4 PG C_limits_bounded_0 64 2 (A0 PG 121 2) Qqv Qso
def Q0d (N2:Lp):Cfg:=C_limits_bounded_0.loop 2 Qqv Qso N2
def WE (N2:Lp):Fn:=Am PG (Q0d N2) 64 121 Qir Yv
theorem Zpk (v0:Int) (v1:Rw) (v2 v3:Int):Qlp [I v0, .view Aa v1,I v2,I v3]=
 bif decide (v3<v2)then
 bif decide (0<=v3)&&decide (v3<(v1.length:Int))then
 bif decide (gA (nth [] v1 v3.toNat) 0>v0)then
 some (1,[B false])
 else
 bif decide (gA (nth [] v1 v3.toNat) 0<wrap .i64 (0-v0))then
 some (1,[B false])
 else
 some (0,[I v0, .view Aa v1,I v2,I (wrap .i64 (v3+1))])
 else
 none
 else
 some (2,[]):=by kernel_rfl
theorem Q92 (N2:Lp) (x0:Rw) (x1:Int):WE N2 [.view Aa x0,I x1]=
 (N2 [I x1, .view Aa x0,I (x0.length:Int),I 0]).bind fun o1=>
 bif o1.1.beq 1 then
 some [B (bA o1.2 0)]
 else
 bif o1.1.beq 2 then
 some [B true]
 else
 none:=by kernel_rfl
def Q4h:=An (Qlp)
def PV:=WE Q4h
theorem Qoq:Aj PG (C_limits_bounded_0):=Ao rfl trivial
theorem Za3:Al PG (121,Ac Qir Yv PV):=rw2 (C:=(Q0d Q4h)) (fl fb Qoq) Qoq
def Ud:Sk:=⟨[tf [CS.sl Aa]],[],[]⟩
def Qbb:Sk:=⟨[tf [CS.sl Aa]],[],[]⟩
def Zjl (M:Fn):Nat×Spec:=(120,Ac Ud Qbb M)
def C_limits_Differences_0:Cfg:={cf []with prom:=fun b=>bif Nat.beq b 3 then [(3,3)]else []}
def Qup:Sk:=⟨[tf [CS.sl Aa],td,td,tf [CS.own 3 1],tf [ci]]++dd 20,[],[(3,3,Aa)]⟩
def Qs3:List (Ex×Sk):=[(Ex.exit 0,⟨[td,td,td,tf [CS.own 3 1]]++dd 21,[],[(3,3,Aa)]⟩)]
def Qap:Lp:=A4 PG C_limits_Differences_0 64 3 (A0 PG 120 3) Qup Qs3
def Q0q (N3:Lp):Cfg:=C_limits_Differences_0.loop 3 Qup Qs3 N3
def Yb (N3:Lp):Fn:=Am PG (Q0q N3) 64 120 Ud Qbb
theorem Zt5 (v0 v1:Rw) (v2:Int):Qap [.view Aa v0, .view Aa v1,I v2]=
 bif decide (v2<(v1.length:Int))then
 bif decide (0<=v2)&&decide (v2<(v1.length:Int))then
 bif decide (0<=wrap .i64 (v2-1))&&decide (wrap .i64 (v2-1)<(v1.length:Int))then
 bif((v0++[[I (wrap .i64 (gA (nth [] v1 v2.toNat) 0-gA (nth [] v1 (wrap .i64 (v2-1)).toNat) 0))]]).length*8).ble 140737488355328 then
 some (0,[.view Aa (v0++[[I (wrap .i64 (gA (nth [] v1 v2.toNat) 0-gA (nth [] v1 (wrap .i64 (v2-1)).toNat) 0))]]), .view Aa v1,I (wrap .i64 (v2+1))])
 else
 none
 else
 none
 else
 none
 else
 some (1,[.view Aa v0]):=by kernel_rfl
theorem Z1y (N3:Lp) (x0:Rw):Yb N3 [.view Aa x0]=
 (N3 [.view Aa [], .view Aa x0,I 1]).bind fun o1=>
 bif o1.1.beq 1 then
 some [.view Aa (wA o1.2 0)]
 else
 none:=by kernel_rfl
def Q3o:=An (Qap)
def P3:=Yb Q3o
theorem Q5h:Aj PG (C_limits_Differences_0):=Ao rfl trivial
theorem Zoe:Al PG (120,Ac Ud Qbb P3):=rw2 (C:=(Q0q Q3o)) (fl fb Q5h) Q5h
def Qhk:Sk:=⟨[TS.v true (cc 9++[CS.sl Aa]),tf [CS.sl Aa]],[],[]⟩
def Qbd:Sk:=⟨[tf [CS.bool]],[],[]⟩
def Zdd (M:Fn):Nat×Spec:=(79,Ac Qhk Qbd M)
def W1 (J6 J7:Fn):Cfg:={cf [Zam J6,Zjl J7]with unroll:=[2]}
def Qm0 (J6 J7:Fn):Fn:=Am PG (W1 J6 J7) 64 79 Qhk Qbd
theorem Znk (J6 J7:Fn) (x0 x1 x2 x3 x4 x5 x6 x7 x8:Int) (x9 x10:Rw):Qm0 J6 J7 [I x0,I x1,I x2,I x3,I x4,I x5,I x6,I x7,I x8, .view Aa x9, .view Aa x10]=
 (J7 [.view Aa x10]).bind fun o6=>
 (J6 [.view Aa (wA o6 0),I x1]).bind fun o7=>
 bif !bA o7 0 then
 some [B false]
 else
 (J7 [.view Aa (wA o6 0)]).bind fun o8=>
 (J6 [.view Aa (wA o8 0),I x2]).bind fun o9=>
 bif !bA o9 0 then
 some [B false]
 else
 (J7 [.view Aa (wA o8 0)]).bind fun o10=>
 (J6 [.view Aa (wA o10 0),I x3]).bind fun o11=>
 bif !bA o11 0 then
 some [B false]
 else
 some [B true]:=by kernel_rfl
def KZ:=Qm0 PV P3
theorem Zra:Aj PG (W1 PV P3):=Ao rfl ⟨Za3,Zoe,trivial⟩
theorem Zoz:Al PG (79,Ac Qhk Qbd KZ):=rw1 (C:=(W1 PV P3)) Zra
def Qc3:Sk:=⟨[TS.v true (cc 9++[CS.sl Aa]++cc 9++[CS.sl Aa]++cc 9++[CS.sl Aa]),tf [CS.sl kPt]],[],[]⟩
def Qmy:Sk:=⟨[tf [CS.bool]],[],[]⟩
def Z1r (M:Fn):Nat×Spec:=(31,Ac Qc3 Qmy M)
def Qjv (DH:Fn):Cfg:=cf [Zdd DH]
def Q5f:Sk:=⟨[td,tf [CS.sl kPt],tf [CS.ptr 2 0],td,td,tf [ci],tf [CS.own 13 1],td,tf [ci]]++dd 6++[tf [ci],tf [ci]]++dd 19,[(2,27,cc 9++[CS.sl Aa]++cc 9++[CS.sl Aa]++cc 9++[CS.sl Aa])],[(13,3,Aa)]⟩
def Qw5:List (Ex×Sk):=[(Ex.exit 2,⟨[td,tf [CS.sl kPt],tf [CS.ptr 2 0],td,td,tf [ci],tf [CS.own 13 1],td,tf [ci]]++dd 27,[(2,27,cc 9++[CS.sl Aa]++cc 9++[CS.sl Aa]++cc 9++[CS.sl Aa])],[(13,3,Aa)]⟩)]
def KH (DH:Fn):Lp:=A4 PG (Qjv DH) 64 6 (A0 PG 31 6) Q5f Qw5
def Qo0 (DH:Fn) (N6:Lp):Cfg:=(Qjv DH).loop 6 Q5f Qw5 N6
def Q63:Sk:=⟨[td,tf [CS.sl kPt],tf [CS.ptr 2 0],td,td,td,td,td,tf [ci]]++dd 27,[(2,27,cc 9++[CS.sl Aa]++cc 9++[CS.sl Aa]++cc 9++[CS.sl Aa])],[]⟩
def Q60:List (Ex×Sk):=[(Ex.ret,⟨[td,td,td,td,tf [CS.bool]]++dd 31,[],[]⟩),(Ex.exit 0,⟨[td]++dd 35,[],[]⟩)]
def SV (DH:Fn) (N6:Lp):Lp:=A4 PG (Qo0 DH N6) 64 2 (A0 PG 31 2) Q63 Q60
def Qv3 (DH:Fn) (N6 N2:Lp):Cfg:=(Qo0 DH N6).loop 2 Q63 Q60 N2
def Q_ (DH:Fn) (N6 N2:Lp):Fn:=Am PG (Qv3 DH N6 N2) 64 31 Qc3 Qmy
theorem Zgi (DH:Fn) (v0 v1:Rw) (v2 v3 v4 v5 v6 v7 v8 v9 v10 v11 v12 v13 v14:Int) (v15:Rw) (v16 v17 v18 v19 v20 v21 v22 v23 v24:Int) (v25:Rw) (v26 v27 v28 v29 v30 v31 v32 v33 v34:Int) (v35:Rw):KH DH [.view Aa v0, .view kPt v1,I v2,I v3,I v4,I v5,I v6,I v7,I v8,I v9,I v10,I v11,I v12,I v13,I v14, .view Aa v15,I v16,I v17,I v18,I v19,I v20,I v21,I v22,I v23,I v24, .view Aa v25,I v26,I v27,I v28,I v29,I v30,I v31,I v32,I v33,I v34, .view Aa v35]=
 bif decide (v5<v4)then
 bif decide (0<=v5)&&decide (v5<(v1.length:Int))then
 bif decide (v2=(↑0:Int))then
 bif decide (0<=v5)&&decide (v5<(v0.length:Int))then
 some (0,[.view Aa (v0.set v5.toNat [jA (nth [] v1 v5.toNat) 0]), .view kPt v1,I v2,I v3,I v4,I (wrap .i64 (v5+1)),I v6,I v7,I v8,I v9,I v10,I v11,I v12,I v13,I v14, .view Aa v15,I v16,I v17,I v18,I v19,I v20,I v21,I v22,I v23,I v24, .view Aa v25,I v26,I v27,I v28,I v29,I v30,I v31,I v32,I v33,I v34, .view Aa v35])
 else
 none
 else
 bif decide (v2=(↑(0+1):Int))then
 bif decide (0<=v5)&&decide (v5<(v0.length:Int))then
 some (0,[.view Aa (v0.set v5.toNat [jA (nth [] v1 v5.toNat) 1]), .view kPt v1,I v2,I v3,I v4,I (wrap .i64 (v5+1)),I v6,I v7,I v8,I v9,I v10,I v11,I v12,I v13,I v14, .view Aa v15,I v16,I v17,I v18,I v19,I v20,I v21,I v22,I v23,I v24, .view Aa v25,I v26,I v27,I v28,I v29,I v30,I v31,I v32,I v33,I v34, .view Aa v35])
 else
 none
 else
 bif decide (v2=(↑(0+1+1):Int))then
 bif decide (0<=v5)&&decide (v5<(v0.length:Int))then
 some (0,[.view Aa (v0.set v5.toNat [jA (nth [] v1 v5.toNat) 2]), .view kPt v1,I v2,I v3,I v4,I (wrap .i64 (v5+1)),I v6,I v7,I v8,I v9,I v10,I v11,I v12,I v13,I v14, .view Aa v15,I v16,I v17,I v18,I v19,I v20,I v21,I v22,I v23,I v24, .view Aa v25,I v26,I v27,I v28,I v29,I v30,I v31,I v32,I v33,I v34, .view Aa v35])
 else
 none
 else
 none
 else
 none
 else
 some (1,[.view Aa v0, .view kPt v1,I v2,I v3,I v6,I v7,I v8,I v9,I v10,I v11,I v12,I v13,I v14, .view Aa v15,I v16,I v17,I v18,I v19,I v20,I v21,I v22,I v23,I v24, .view Aa v25,I v26,I v27,I v28,I v29,I v30,I v31,I v32,I v33,I v34, .view Aa v35]):=by kernel_rfl
abbrev Sr (o5:Nat×List AC) (h1_0:Bool):Option (Nat×List AC):=
 bif h1_0 then
 some (1,[B false])
 else
 some (0,[.view kPt (wA o5.2 1),I (wrap .i64 (gA o5.2 3+1)),jA o5.2 4,jA o5.2 5,jA o5.2 6,jA o5.2 7,jA o5.2 8,jA o5.2 9,jA o5.2 10,jA o5.2 11,jA o5.2 12, .view Aa (wA o5.2 13),jA o5.2 14,jA o5.2 15,jA o5.2 16,jA o5.2 17,jA o5.2 18,jA o5.2 19,jA o5.2 20,jA o5.2 21,jA o5.2 22, .view Aa (wA o5.2 23),jA o5.2 24,jA o5.2 25,jA o5.2 26,jA o5.2 27,jA o5.2 28,jA o5.2 29,jA o5.2 30,jA o5.2 31,jA o5.2 32, .view Aa (wA o5.2 33)])
attribute [go_sem] Sr
theorem Zxs (DH:Fn) (N6:Lp) (v0:Rw) (v1 v2 v3 v4 v5 v6 v7 v8 v9 v10:Int) (v11:Rw) (v12 v13 v14 v15 v16 v17 v18 v19 v20:Int) (v21:Rw) (v22 v23 v24 v25 v26 v27 v28 v29 v30:Int) (v31:Rw):SV DH N6 [.view kPt v0,I v1,I v2,I v3,I v4,I v5,I v6,I v7,I v8,I v9,I v10, .view Aa v11,I v12,I v13,I v14,I v15,I v16,I v17,I v18,I v19,I v20, .view Aa v21,I v22,I v23,I v24,I v25,I v26,I v27,I v28,I v29,I v30, .view Aa v31]=
 bif decide (v1<3)then
 bif decide ((v0.length:Int)=(v0.length:Int))then
 bif decide (0<=(v0.length:Int))&&decide ((v0.length:Int)*(↑8:Int)<=140737488355328)then
 (N6 [.view Aa (List.replicate (v0.length:Int).toNat [I 0]), .view kPt v0,I v1,I v1,I (v0.length:Int),I 0,I v2,I v3,I v4,I v5,I v6,I v7,I v8,I v9,I v10, .view Aa v11,I v12,I v13,I v14,I v15,I v16,I v17,I v18,I v19,I v20, .view Aa v21,I v22,I v23,I v24,I v25,I v26,I v27,I v28,I v29,I v30, .view Aa v31]).bind fun o5=>
 bif o5.1.beq 1 then
 bif decide (gA o5.2 2=(↑0:Int))then
 (DH [jA o5.2 4,jA o5.2 5,jA o5.2 6,jA o5.2 7,jA o5.2 8,jA o5.2 9,jA o5.2 10,jA o5.2 11,jA o5.2 12, .view Aa (wA o5.2 13), .view Aa (wA o5.2 0)]).bind fun o6=>
 Sr o5 (!bA o6 0)
 else
 bif decide (gA o5.2 2=(↑(0+1):Int))then
 (DH [jA o5.2 14,jA o5.2 15,jA o5.2 16,jA o5.2 17,jA o5.2 18,jA o5.2 19,jA o5.2 20,jA o5.2 21,jA o5.2 22, .view Aa (wA o5.2 23), .view Aa (wA o5.2 0)]).bind fun o7=>
 Sr o5 (!bA o7 0)
 else
 bif decide (gA o5.2 2=(↑(0+1+1):Int))then
 (DH [jA o5.2 24,jA o5.2 25,jA o5.2 26,jA o5.2 27,jA o5.2 28,jA o5.2 29,jA o5.2 30,jA o5.2 31,jA o5.2 32, .view Aa (wA o5.2 33), .view Aa (wA o5.2 0)]).bind fun o8=>
 Sr o5 (!bA o8 0)
 else
 none
 else
 none
 else
 none
 else
 none
 else
 some (2,[]):=by kernel_rfl
theorem Znm (DH:Fn) (N6 N2:Lp) (x0 x1 x2 x3 x4 x5 x6 x7 x8:Int) (x9:Rw) (x10 x11 x12 x13 x14 x15 x16 x17 x18:Int) (x19:Rw) (x20 x21 x22 x23 x24 x25 x26 x27 x28:Int) (x29 x30:Rw):Q_ DH N6 N2 [I x0,I x1,I x2,I x3,I x4,I x5,I x6,I x7,I x8, .view Aa x9,I x10,I x11,I x12,I x13,I x14,I x15,I x16,I x17,I x18, .view Aa x19,I x20,I x21,I x22,I x23,I x24,I x25,I x26,I x27,I x28, .view Aa x29, .view kPt x30]=
 (N2 [.view kPt x30,I 0,I x0,I x1,I x2,I x3,I x4,I x5,I x6,I x7,I x8, .view Aa x9,I x10,I x11,I x12,I x13,I x14,I x15,I x16,I x17,I x18, .view Aa x19,I x20,I x21,I x22,I x23,I x24,I x25,I x26,I x27,I x28, .view Aa x29]).bind fun o9=>
 bif o9.1.beq 1 then
 some [B (bA o9.2 0)]
 else
 bif o9.1.beq 2 then
 some [B true]
 else
 none:=by kernel_rfl
def Ub:=An (KH KZ)
def Qs2:=An (SV KZ Ub)
def Mv:=Q_ KZ Ub Qs2
theorem Xs:Aj PG (Qjv KZ):=Ao rfl ⟨Zoz,trivial⟩
theorem Z2c:Al PG (31,Ac Qc3 Qmy Mv):=rw2 (C:=(Qv3 KZ Ub Qs2)) (fl (fl fb Xs) Xs) Xs
def Qlw:Sk:=⟨[tf [ci]],[],[]⟩
def Xd:Sk:=⟨[tf [ci]],[],[]⟩
def Qyh (M:Fn):Nat×Spec:=(197,Ac Qlw Xd M)
def WQ:Cfg:=cf []
def Ym:Fn:=Am PG WQ 64 197 Qlw Xd
theorem Zwv (x0:Int):Ym [I x0]=
 bif decide (x0.tmod 256<0)then
 some [I (wrap .i64 (wrap .i64 (x0.tdiv 256)-1))]
 else
 some [I (wrap .i64 (x0.tdiv 256))]:=by kernel_rfl
def ID:=Ym
theorem Ztm:Aj PG (WQ):=Ao rfl trivial
theorem Q05:Al PG (197,Ac Qlw Xd ID):=rw1 (C:=WQ) Ztm
def Qik:Sk:=⟨[TS.v true [ci,ci,ci,CS.sl Ah,CS.sl kPt],TS.v true (cc 9++[CS.sl Aa]++cc 9++[CS.sl Aa]++cc 9++[CS.sl Aa]),TS.v true ([CS.sl As]++cc 5),tf [CS.sl Aa]],[],[]⟩
def Qbu:Sk:=⟨[tf [CS.bool]],[],[]⟩
def Z1z (M:Fn):Nat×Spec:=(179,Ac Qik Qbu M)
def Qms (FO Bu DW:Fn):Cfg:={cf [Z1r FO,Qnn Bu,Qyh DW]with lend:=fun f=>AN [31] f,cuts:=[30],prom:=fun b=>bif Nat.beq b 3 then [(9,44)]else []}
def Q4k:Sk:=⟨[td,td,td,td,tf [CS.ptr 4 0],tf [CS.ptr 5 0],tf [CS.ptr 6 0],td,td,tf [CS.own 9 3],td,td,tf [CS.sl Aa],tf [ci],tf [ci]]++dd 22,[(4,58,[ci,ci,ci,CS.sl Ah,CS.sl kPt]),(5,27,cc 9++[CS.sl Aa]++cc 9++[CS.sl Aa]++cc 9++[CS.sl Aa]),(6,62,[CS.sl As]++cc 5)],[(9,44,kPt)]⟩
def Q5l:List (Ex×Sk):=[(Ex.ret,⟨dd 8++[tf [CS.bool]]++dd 28,[],[]⟩),(Ex.exit 0,⟨[td]++dd 36,[],[]⟩)]
def VP (FO Bu DW:Fn):Lp:=A4 PG (Qms FO Bu DW) 64 3 (A0 PG 179 3) Q4k Q5l
def Q4n (FO Bu DW:Fn) (N3:Lp):Cfg:=(Qms FO Bu DW).loop 3 Q4k Q5l N3
def Qi8 (FO Bu DW:Fn) (N3:Lp):Fn:=Am PG (Q4n FO Bu DW N3) 64 179 Qik Qbu
theorem Q90 (FO Bu DW:Fn) (v0 v1:Rw) (v2 v3:Int) (p:Pth) (x:Ax3) (t:Trk):VP FO Bu DW (.view kPt v0:: .view Aa v1::I v2::I v3::pxt p x t [])=
 bif decide (v3<v2)then
 bif decide (0<=v3)&&decide (v3<(v1.length:Int))then
 (DW [jA (nth [] v1 v3.toNat) 0]).bind fun o8=>
 (Bu (pxt p x t [jA o8 0])).bind fun o9=>
 bif((v0++[[jA o9 0,jA o9 1,jA o9 2]]).length*24).ble 140737488355328 then
 bif decide ((↑(v0++[[jA o9 0,jA o9 1,jA o9 2]]).length:Int)>4)then
 bif decide (0<=1)&&decide (1<=(↑(v0++[[jA o9 0,jA o9 1,jA o9 2]]).length:Int))then
 bif(Int.toNat 1).ble (v0++[[jA o9 0,jA o9 1,jA o9 2]]).length then
 (FO (AO x++[.view kPt (List.drop (Int.toNat 1) (v0++[[jA o9 0,jA o9 1,jA o9 2]]))])).bind fun o10=>
 bif !bA o10 0 then
 some (1,[B false])
 else
 some (0,(.view kPt (List.drop (Int.toNat 1) (v0++[[jA o9 0,jA o9 1,jA o9 2]])):: .view Aa v1::I v2::I (wrap .i64 (v3+1))::pxt p x t []))
 else
 none
 else
 none
 else
 (FO (AO x++[.view kPt (v0++[[jA o9 0,jA o9 1,jA o9 2]])])).bind fun o11=>
 bif !bA o11 0 then
 some (1,[B false])
 else
 some (0,(.view kPt (v0++[[jA o9 0,jA o9 1,jA o9 2]]):: .view Aa v1::I v2::I (wrap .i64 (v3+1))::pxt p x t []))
 else
 none
 else
 none
 else
 some (2,[]):=by kernel_rfl
theorem Zvr (FO Bu DW:Fn) (N3:Lp) (x41:Rw) (p:Pth) (x:Ax3) (t:Trk):Qi8 FO Bu DW N3 (pxt p x t [.view Aa x41])=
 (N3 (.view kPt []:: .view Aa x41::I (x41.length:Int)::I 0::pxt p x t [])).bind fun o12=>
 bif o12.1.beq 1 then
 some [B (bA o12.2 0)]
 else
 bif o12.1.beq 2 then
 some [B true]
 else
 none:=by kernel_rfl
def Q68:=An (VP Mv FD ID)
def Ov:=Qi8 Mv FD ID Q68
theorem Qq7:Aj PG (Qms Mv FD ID):=Ao rfl ⟨Z2c,Zk,Q05,trivial⟩
theorem Zo8:Al PG (179,Ac Qik Qbu Ov):=rw2 (C:=(Q4n Mv FD ID Q68)) (fl fb Qq7) Qq7
def Qfg:Sk:=⟨[TS.v true [ci,ci,ci],tf [ci],tf [ci]],[],[]⟩
def TN:Sk:=⟨[tf [CS.bool]],[],[]⟩
def Q35 (M:Fn):Nat×Spec:=(128,Ac Qfg TN M)
def WU (Dg:Fn):Cfg:=cf [Qok Dg]
def P4 (Dg:Fn):Fn:=Am PG (WU Dg) 64 128 Qfg TN
theorem Qbt (Dg:Fn) (x0 x1 x2 x3 x4:Int):P4 Dg [I x0,I x1,I x2,I x3,I x4]=
 bif decide (x4<wrap .i64 (0-x0))then
 some [B false]
 else
 bif decide (x4>x0)then
 some [B false]
 else
 bif x3==0 then
 bif decide (x4>x1)then
 some [B false]
 else
 (Dg [I x0,I x1,I x2,I (wrap .i64 (0-x4))]).bind fun o4=>
 bif decide (x3>=gA o4 0)then
 (Dg [I x0,I x1,I x2,I x4]).bind fun o5=>
 some [B (decide (x3<=wrap .i64 (16777216-gA o5 0)))]
 else
 some [B false]
 else
 (Dg [I x0,I x1,I x2,I (wrap .i64 (0-x4))]).bind fun o6=>
 bif decide (x3>=gA o6 0)then
 (Dg [I x0,I x1,I x2,I x4]).bind fun o7=>
 some [B (decide (x3<=wrap .i64 (16777216-gA o7 0)))]
 else
 some [B false]:=by kernel_rfl
def Gc:=P4 Gq
theorem Zya:Aj PG (WU Gq):=Ao rfl ⟨Q5d,trivial⟩
theorem Qqz:Al PG (128,Ac Qfg TN Gc):=rw1 (C:=(WU Gq)) Zya
def Qcr:Sk:=⟨[TS.v true [ci,ci,ci],tf [ci],tf [ci]],[],[]⟩
def Qj9:Sk:=⟨[TS.tup [(false,[CS.sl Aa]),(false,[CS.bool])]],[],[]⟩
def Zth (M:Fn):Nat×Spec:=(82,Ac Qcr Qj9 M)
def Uc (Bv CR BQ:Fn):Cfg:={cf [WJ Bv,Q35 CR,Qe6 BQ]with prom:=fun b=>bif Nat.beq b 4 then [(8,3)]else []}
def Qs4:Sk:=⟨[td,tf [ci],tf [ci],tf [CS.ptr 3 0],td,td,td,td,tf [CS.own 8 1]]++dd 27,[(3,29,[ci,ci,ci])],[(8,3,Aa)]⟩
def Q21:List (Ex×Sk):=[(Ex.ret,⟨dd 6++[tf [CS.nil],tf [CS.bool]]++dd 28,[],[]⟩),(Ex.exit 0,⟨dd 8++[tf [CS.own 8 1]]++dd 27,[],[(8,3,Aa)]⟩)]
def Ie (Bv CR BQ:Fn):Lp:=A4 PG (Uc Bv CR BQ) 64 4 (A0 PG 82 4) Qs4 Q21
def Q6c (Bv CR BQ:Fn) (N4:Lp):Cfg:=(Uc Bv CR BQ).loop 4 Qs4 Q21 N4
def OP (Bv CR BQ:Fn) (N4:Lp):Fn:=Am PG (Q6c Bv CR BQ N4) 64 82 Qcr Qj9
theorem OU (Bv CR BQ:Fn) (v0:Rw) (v1 v2 v3 v4 v5:Int):Ie Bv CR BQ [.view Aa v0,I v1,I v2,I v3,I v4,I v5]=
 bif decide (v1>0)then
 bif(v0.length:Int)==4096 then
 some (1,[B false])
 else
 (Bv [I v3,I v4,I v5,I v1,I v2]).bind fun o9=>
 bif((v0++[[I (wrap .i64 (v1+gA o9 0))]]).length*8).ble 140737488355328 then
 some (0,[.view Aa (v0++[[I (wrap .i64 (v1+gA o9 0))]]),I (wrap .i64 (v1+gA o9 0)),jA o9 0,I v3,I v4,I v5])
 else
 none
 else
 some (2,[.view Aa v0]):=by kernel_rfl
theorem Qmh (Bv CR BQ:Fn) (N4:Lp) (x0 x1 x2 x3 x4:Int):OP Bv CR BQ N4 [I x0,I x1,I x2,I x3,I x4]=
 (BQ [I x0,I x1,I x2]).bind fun o10=>
 bif !bA o10 0 then
 some [.view Aa [],B false]
 else
 (CR [I x0,I x1,I x2,I x3,I x4]).bind fun o11=>
 bif !bA o11 0 then
 some [.view Aa [],B false]
 else
 (N4 [.view Aa [],I x3,I x4,I x0,I x1,I x2]).bind fun o12=>
 bif o12.1.beq 1 then
 some [.view Aa [],B (bA o12.2 0)]
 else
 bif o12.1.beq 2 then
 some [.view Aa (wA o12.2 0),B true]
 else
 none:=by kernel_rfl
def Qvp:=An (Ie E7 Gc EL)
def Jv:=OP E7 Gc EL Qvp
theorem Q2d:Aj PG (Uc E7 Gc EL):=Ao rfl ⟨VX,Qqz,Qiq,trivial⟩
theorem Z1x:Al PG (82,Ac Qcr Qj9 Jv):=rw2 (C:=(Q6c E7 Gc EL Qvp)) (fl fb Q2d) Q2d
def Qg7:Sk:=⟨[TS.v true [ci,ci,ci],TS.v true (cc 6)],[],[]⟩
def Wx:Sk:=⟨[TS.tup [(false,[CS.sl Aa]),(false,[CS.bool])]],[],[]⟩
def Qb1 (M:Fn):Nat×Spec:=(39,Ac Qg7 Wx M)
def Qb0 (GE:Fn):Cfg:=cf [Zth GE]
def Qtt:Sk:=⟨dd 8++[tf [CS.own 25 1],tf [ci]]++dd 18++[tf [CS.sl Aa],tf [ci],tf [ci]]++dd 13,[],[(25,3,Aa)]⟩
def Q3g:List (Ex×Sk):=[(Ex.exit 0,⟨dd 8++[tf [CS.own 25 1]]++dd 35,[],[(25,3,Aa)]⟩)]
def G5 (GE:Fn):Lp:=A4 PG (Qb0 GE) 64 7 (A0 PG 39 7) Qtt Q3g
def Qx3 (GE:Fn) (N7:Lp):Cfg:=(Qb0 GE).loop 7 Qtt Q3g N7
def L5 (GE:Fn) (N7:Lp):Fn:=Am PG (Qx3 GE N7) 64 39 Qg7 Wx
theorem ZX (GE:Fn) (v0:Rw) (v1:Int) (v2:Rw) (v3 v4:Int):G5 GE [.view Aa v0,I v1, .view Aa v2,I v3,I v4]=
 bif decide (v4<v3)then
 bif decide (0<=v4)&&decide (v4<(v2.length:Int))then
 bif decide (0<=v4)&&decide (v4<(v0.length:Int))then
 some (0,[.view Aa (v0.set v4.toNat [I (wrap .i64 (v1+gA (nth [] v2 v4.toNat) 0))]),I (wrap .i64 (v1+gA (nth [] v2 v4.toNat) 0)), .view Aa v2,I v3,I (wrap .i64 (v4+1))])
 else
 none
 else
 none
 else
 some (1,[.view Aa v0]):=by kernel_rfl
theorem Sd (GE:Fn) (N7:Lp) (x0 x1 x2 x3 x4 x5 x6 x7 x8:Int):L5 GE N7 [I x0,I x1,I x2,I x3,I x4,I x5,I x6,I x7,I x8]=
 (GE [I x0,I x1,I x2,I x4,I x5]).bind fun o3=>
 bif !bA o3 1 then
 some [.view Aa [],B false]
 else
 bif decide ((↑(wA o3 0).length:Int)=(↑(wA o3 0).length:Int))then
 bif decide (0<=(↑(wA o3 0).length:Int))&&decide ((↑(wA o3 0).length:Int)*(↑8:Int)<=140737488355328)then
 (N7 [.view Aa (List.replicate (↑(wA o3 0).length:Int).toNat [I 0]),I x3, .view Aa (wA o3 0),I (↑(wA o3 0).length:Int),I 0]).bind fun o4=>
 bif o4.1.beq 1 then
 some [.view Aa (wA o4.2 0),B true]
 else
 none
 else
 none
 else
 none:=by kernel_rfl
def Qwh:=An (G5 Jv)
def EE:=L5 Jv Qwh
theorem Q7g:Aj PG (Qb0 Jv):=Ao rfl ⟨Z1x,trivial⟩
theorem Yx:Al PG (39,Ac Qg7 Wx EE):=rw2 (C:=(Qx3 Jv Qwh)) (fl fb Q7g) Q7g
def Qmv:Sk:=⟨[TS.v true [ci,ci,ci,CS.sl Ah,CS.sl kPt],TS.v true (cc 9++[CS.sl Aa]++cc 9++[CS.sl Aa]++cc 9++[CS.sl Aa]),TS.v true ([CS.sl As]++cc 5),TS.v true [ci,ci,ci],TS.v true (cc 6),tf [ci]],[],[]⟩
def Yr:Sk:=⟨[tf [CS.bool]],[],[]⟩
def Qy9 (M:Fn):Nat×Spec:=(154,Ac Qmv Yr M)
def Zh (Lr CD:Fn):Cfg:={cf [Z1z Lr,Qb1 CD]with rowDst:=[48]}
def QN (Lr CD:Fn):Fn:=Am PG (Zh Lr CD) 64 154 Qmv Yr
theorem Q6r (Lr CD:Fn) (x41 x42 x43 x44 x45 x46 x47 x48 x49 x50:Int) (p:Pth) (x:Ax3) (t:Trk):QN Lr CD (pxt p x t [I x41,I x42,I x43,I x44,I x45,I x46,I x47,I x48,I x49,I x50])=
 (CD [I x41,I x42,I x43,I x44,I x45,I x46,I x47,I x48,I x49]).bind fun o3=>
 bif !bA o3 1 then
 some [B false]
 else
 bif decide ((↑(wA o3 0).length:Int)>0)then
 bif decide (0<=wrap .i64 ((↑(wA o3 0).length:Int)-1))&&decide (wrap .i64 ((↑(wA o3 0).length:Int)-1)<(↑(wA o3 0).length:Int))then
 bif decide (Af (nth .dead (nth [] (wA o3 0) (wrap .i64 ((↑(wA o3 0).length:Int)-1)).toNat) 0)>wrap .i64 (x50*256))then
 some [B false]
 else
 bif(([[I x49],[I x48],[I x47],[I x44]]++wA o3 0).length*8).ble 140737488355328 then
 bif(([[I x49],[I x48],[I x47],[I x44]]++wA o3 0++[[I (Af (nth .dead (nth [] (wA o3 0) (wrap .i64 ((↑(wA o3 0).length:Int)-1)).toNat) 0))],[I (Af (nth .dead (nth [] (wA o3 0) (wrap .i64 ((↑(wA o3 0).length:Int)-1)).toNat) 0))]]).length*8).ble 140737488355328 then
 (Lr (pxt p x t [.view Aa ([[I x49],[I x48],[I x47],[I x44]]++wA o3 0++[[I (Af (nth .dead (nth [] (wA o3 0) (wrap .i64 ((↑(wA o3 0).length:Int)-1)).toNat) 0))],[I (Af (nth .dead (nth [] (wA o3 0) (wrap .i64 ((↑(wA o3 0).length:Int)-1)).toNat) 0))]])])).bind fun o4=>
 some [B (bA o4 0)]
 else
 none
 else
 none
 else
 none
 else
 bif decide (x44>wrap .i64 (x50*256))then
 some [B false]
 else
 bif(([[I x49],[I x48],[I x47],[I x44]]++wA o3 0).length*8).ble 140737488355328 then
 bif(([[I x49],[I x48],[I x47],[I x44]]++wA o3 0++[[I x44],[I x44]]).length*8).ble 140737488355328 then
 (Lr (pxt p x t [.view Aa ([[I x49],[I x48],[I x47],[I x44]]++wA o3 0++[[I x44],[I x44]])])).bind fun o5=>
 some [B (bA o5 0)]
 else
 none
 else
 none:=by kernel_rfl
def HZ:=QN Ov EE
theorem Zh2:Aj PG (Zh Ov EE):=Ao rfl ⟨Zo8,Yx,trivial⟩
theorem Qr6:Al PG (154,Ac Qmv Yr HZ):=rw1 (C:=(Zh Ov EE)) Zh2
def Qay:Sk:=⟨[TS.v true [ci,ci,CS.bool,CS.bool,CS.bool],TS.v true [ci,ci,ci],TS.v true (cc 7)],[],[]⟩
def Qdn:Sk:=⟨[tf [ci]],[],[]⟩
def Zhf (M:Fn):Nat×Spec:=(198,Ac Qay Qdn M)
def Z5:Cfg:=cf []
def Qgj:Fn:=Am PG Z5 64 198 Qay Qdn
theorem Zad (x0 x1:Int) (x2 x3 x4:Bool) (x5 x6 x7 x8 x9 x10 x11 x12 x13 x14:Int):Qgj [I x0,I x1,B x2,B x3,B x4,I x5,I x6,I x7,I x8,I x9,I x10,I x11,I x12,I x13,I x14]=
 bif x2 then
 some [I 0]
 else
 bif x14 !=0 then
 some [I (mn (mx x13 1) 16777216)]
 else
 bif x13==0 then
 bif x1==0 then
 some [I 0]
 else
 some [I (mn (mx (wrap .i64 ((wrap .i64 (x7*x1)).tdiv 100)) 1) 16777216)]
 else
 bif x0==0 then
 some [I 0]
 else
 some [I (mn (mx (wrap .i64 ((wrap .i64 (x13*x0)).tdiv 100)) 1) 16777216)]:=by kernel_rfl
def PF:=Qgj
theorem Zmq:Aj PG (Z5):=Ao rfl trivial
theorem Zq5:Al PG (198,Ac Qay Qdn PF):=rw1 (C:=Z5) Zmq
def X4:Sk:=⟨[TS.v true [ci,ci,ci,CS.sl Ah,CS.sl kPt],TS.v true ([CS.sl As]++cc 5),TS.v true [ci,ci,ci],TS.v true [ci,ci,CS.bool,CS.bool,CS.bool],tf [ci]],[],[]⟩
def Qn3:Sk:=⟨[tf [ci]],[],[]⟩
def Ze6 (M:Fn):Nat×Spec:=(178,Ac X4 Qn3 M)
def Qlq (No Dl BZ DW:Fn):Cfg:=cf [Zhf No,Qhv Dl,RX BZ,Qyh DW]
def Qjk (No Dl BZ DW:Fn):Fn:=Am PG (Qlq No Dl BZ DW) 64 178 X4 Qn3
theorem Zbw (No Dl BZ DW:Fn) (x11 x12 x13 x14 x15:Int) (x16 x17 x18:Bool) (x19:Int) (p:Pth) (t:Trk):Qjk No Dl BZ DW (ES p t [I x11,I x12,I x13,I x14,I x15,B x16,B x17,B x18,I x19])=
 (DW [I x19]).bind fun o4=>
 (BZ (Bq t++[jA o4 0])).bind fun o5=>
 (Dl (Br p++[jA o5 0])).bind fun o6=>
 bif decide (0<=gA o6 0)&&decide (gA o6 0<((p.aF.map Ay).length:Int))then
 (No (I x14::I x15::B x16::B x17::B x18::I x11::I x12::I x13::AK Ah (nth [] (p.aF.map Ay) (gA o6 0).toNat))).bind fun o7=>
 some [jA o7 0]
 else
 none:=by kernel_rfl
def Of:=Qjk PF Ez EI ID
theorem Zbz:Aj PG (Qlq PF Ez EI ID):=Ao rfl ⟨Zq5,Qj0,Su,Q05,trivial⟩
theorem Zq0:Al PG (178,Ac X4 Qn3 Of):=rw1 (C:=(Qlq PF Ez EI ID)) Zbz
def Ux:Sk:=⟨[TS.v true [ci,ci,ci,CS.sl Ah,CS.sl kPt],TS.v true ([CS.sl As]++cc 5),TS.v true [ci,ci,ci],TS.v true [ci,ci,CS.bool,CS.bool,CS.bool],TS.v true (cc 6)],[],[]⟩
def Zb:Sk:=⟨[tf [CS.bool]],[],[]⟩
def Q9l (M:Fn):Nat×Spec:=(153,Ac Ux Zb M)
def VN (F_ CD:Fn):Cfg:=cf [Ze6 F_,Qb1 CD]
def Qrx:Sk:=⟨[td,td,td,td,td,tf [CS.ptr 5 0],tf [CS.ptr 6 0],tf [CS.ptr 7 0],tf [CS.ptr 8 0],td,td,td,td,tf [ci]]++dd 30++[tf [CS.sl Aa],tf [ci],tf [ci]]++dd 15,[(5,58,[ci,ci,ci,CS.sl Ah,CS.sl kPt]),(6,62,[CS.sl As]++cc 5),(7,29,[ci,ci,ci]),(8,92,[ci,ci,CS.bool,CS.bool,CS.bool])],[]⟩
def Q0b:List (Ex×Sk):=[(Ex.ret,⟨dd 10++[tf [CS.bool]]++dd 51,[],[]⟩),(Ex.exit 0,⟨[td]++dd 61,[],[]⟩)]
def Qis (F_ CD:Fn):Lp:=A4 PG (VN F_ CD) 64 6 (A0 PG 153 6) Qrx Q0b
def Qoj (F_ CD:Fn) (N6:Lp):Cfg:=(VN F_ CD).loop 6 Qrx Q0b N6
def WA (F_ CD:Fn) (N6:Lp):Fn:=Am PG (Qoj F_ CD N6) 64 153 Ux Zb
theorem Z17 (F_ CD:Fn) (v0:Int) (v1:Rw) (v2 v3:Int) (v15 v16 v17 v18 v19:Int) (v20 v21 v22:Bool) (p:Pth) (t:Trk):Qis F_ CD (I v0:: .view Aa v1::I v2::I v3::ES p t [I v15,I v16,I v17,I v18,I v19,B v20,B v21,B v22])=
 bif decide (v3<v2)then
 bif decide (0<=v3)&&decide (v3<(v1.length:Int))then
 (F_ (ES p t [I v15,I v16,I v17,I v18,I v19,B v20,B v21,B v22,jA (nth [] v1 v3.toNat) 0])).bind fun o6=>
 bif decide (wrap .i64 (gA (nth [] v1 v3.toNat) 0-v0)>gA o6 0)then
 some (1,[B false])
 else
 some (0,(jA (nth [] v1 v3.toNat) 0:: .view Aa v1::I v2::I (wrap .i64 (v3+1))::ES p t [I v15,I v16,I v17,I v18,I v19,B v20,B v21,B v22]))
 else
 none
 else
 some (2,[]):=by kernel_rfl
theorem Q7v (F_ CD:Fn) (N6:Lp) (x11 x12 x13 x14 x15:Int) (x16 x17 x18:Bool) (x19 x20 x21 x22 x23 x24:Int) (p:Pth) (t:Trk):WA F_ CD N6 (ES p t [I x11,I x12,I x13,I x14,I x15,B x16,B x17,B x18,I x19,I x20,I x21,I x22,I x23,I x24])=
 (CD [I x11,I x12,I x13,I x19,I x20,I x21,I x22,I x23,I x24]).bind fun o7=>
 bif !bA o7 1 then
 some [B false]
 else
 bif((p.aF.map Ay).length:Int)==0 then
 some [B false]
 else
 (F_ (ES p t [I x11,I x12,I x13,I x14,I x15,B x16,B x17,B x18,I x19])).bind fun o8=>
 bif decide (x20>gA o8 0)then
 some [B false]
 else
 (N6 (I x19:: .view Aa (wA o7 0)::I (↑(wA o7 0).length:Int)::I 0::ES p t [I x11,I x12,I x13,I x14,I x15,B x16,B x17,B x18])).bind fun o9=>
 bif o9.1.beq 1 then
 some [B (bA o9.2 0)]
 else
 bif o9.1.beq 2 then
 some [B true]
 else
 none:=by kernel_rfl
def Qog:=An (Qis Of EE)
def KW:=WA Of EE Qog
theorem Q40:Aj PG (VN Of EE):=Ao rfl ⟨Zq0,Yx,trivial⟩
theorem Ze7:Al PG (153,Ac Ux Zb KW):=rw2 (C:=(Qoj Of EE Qog)) (fl fb Q40) Q40
def Qkz:Sk:=⟨[TS.v true (cc 6),tf [ci]],[],[]⟩
def Qj8:Sk:=⟨[TS.v true (cc 6)],[],[]⟩
def Q6e (M:Fn):Nat×Spec:=(152,Ac Qkz Qj8 M)
def Qnv:Cfg:=cf []
def Qkr:Fn:=Am PG Qnv 64 152 Qkz Qj8
theorem Zy8 (x0 x1 x2 x3 x4 x5 x6:Int):Qkr [I x0,I x1,I x2,I x3,I x4,I x5,I x6]=
 some [I (wrap .i64 (x0+x6)),I x6,I (wrap .i64 (x6-x1)),I x0,I x3,I x4]:=by kernel_rfl
def Iq:=Qkr
theorem Zcs:Aj PG (Qnv):=Ao rfl trivial
theorem Qr8:Al PG (152,Ac Qkz Qj8 Iq):=rw1 (C:=Qnv) Zcs
def XV:Sk:=⟨[tf [ci]],[],[]⟩
def X8:Sk:=⟨[tf [CS.sl Aa]],[],[]⟩
def Zzi (M:Fn):Nat×Spec:=(151,Ac XV X8 M)
def C_planner_changes_0:Cfg:={cf []with prom:=fun b=>bif Nat.beq b 3 then [(3,3)]else []}
def Q04:Sk:=⟨[td,td,td,tf [CS.own 3 1],tf [ci]]++dd 32,[],[(3,3,Aa)]⟩
def Q1y:List (Ex×Sk):=[(Ex.exit 0,⟨[td,td,td,tf [CS.own 3 1]]++dd 33,[],[(3,3,Aa)]⟩)]
def Pd:Lp:=A4 PG C_planner_changes_0 64 3 (A0 PG 151 3) Q04 Q1y
def Qru (N3:Lp):Cfg:=C_planner_changes_0.loop 3 Q04 Q1y N3
def Qzd:Sk:=⟨[td,td,td,tf [CS.own 3 1],td,tf [CS.own 16 1],tf [ci]]++dd 30,[],[(3,3,Aa),(16,3,Aa)]⟩
def Q0c:List (Ex×Sk):=[(Ex.exit 2,⟨[td,td,td,td,td,tf [CS.own 16 1]]++dd 31,[],[(16,3,Aa)]⟩)]
def Qz (N3:Lp):Lp:=A4 PG (Qru N3) 64 8 (A0 PG 151 8) Qzd Q0c
def Qzl (N3 N8:Lp):Cfg:=(Qru N3).loop 8 Qzd Q0c N8
def Uw (N3 N8:Lp):Fn:=Am PG (Qzl N3 N8) 64 151 XV X8
theorem Zql (v0:Rw) (v1:Int):Pd [.view Aa v0,I v1]=
 bif decide (v1>0)then
 bif((v0++[[I v1]]).length*8).ble 140737488355328 then
 some (0,[.view Aa (v0++[[I v1]]),I (wrap .i64 (v1.tdiv 2))])
 else
 none
 else
 some (1,[.view Aa v0]):=by kernel_rfl
theorem Zcg (N3:Lp) (v0 v1:Rw) (v2:Int):Qz N3 [.view Aa v0, .view Aa v1,I v2]=
 bif decide (v2>=0)then
 bif decide (0<=v2)&&decide (v2<(v0.length:Int))then
 bif((v1++[[I (wrap .i64 (0-gA (nth [] v0 v2.toNat) 0))]]).length*8).ble 140737488355328 then
 some (0,[.view Aa v0, .view Aa (v1++[[I (wrap .i64 (0-gA (nth [] v0 v2.toNat) 0))]]),I (wrap .i64 (v2-1))])
 else
 none
 else
 none
 else
 some (1,[.view Aa v1]):=by kernel_rfl
theorem Zby (N3 N8:Lp) (x0:Int):Uw N3 N8 [I x0]=
 (N3 [.view Aa [],I x0]).bind fun o3=>
 bif o3.1.beq 1 then
 bif(([]++wA o3.2 0).length*8).ble 140737488355328 then
 bif(([]++wA o3.2 0++[[I 0]]).length*8).ble 140737488355328 then
 (N8 [.view Aa (wA o3.2 0), .view Aa ([]++wA o3.2 0++[[I 0]]),I (wrap .i64 ((↑(wA o3.2 0).length:Int)-1))]).bind fun o4=>
 bif o4.1.beq 1 then
 some [.view Aa (wA o4.2 0)]
 else
 none
 else
 none
 else
 none
 else
 none:=by kernel_rfl
def Xy:=An (Pd)
def Qt5:=An (Qz Xy)
def NX:=Uw Xy Qt5
theorem Qml:Aj PG (C_planner_changes_0):=Ao rfl trivial
theorem Z0p:Al PG (151,Ac XV X8 NX):=rw2 (C:=(Qzl Xy Qt5)) (fl (fl fb Qml) Qml) Qml
def VE:Sk:=⟨[TS.v true [ci,ci,ci,CS.sl Ah,CS.sl kPt],TS.v true (cc 9++[CS.sl Aa]++cc 9++[CS.sl Aa]++cc 9++[CS.sl Aa]),TS.v true ([CS.sl As]++cc 5),TS.v true [ci,ci,ci],TS.v true [ci,ci,CS.bool,CS.bool,CS.bool],TS.v true (cc 6),tf [ci]],[],[]⟩
def X5:Sk:=⟨[TS.v true (cc 6)],[],[]⟩
def Qh2 (M:Fn):Nat×Spec:=(104,Ac VE X5 M)
def V1 (Bv DI Gm Cn CR GQ:Fn):Cfg:=cf [WJ Bv,Qy9 DI,Q9l Gm,Q6e Cn,Q35 CR,Zzi GQ]
def Q52:Sk:=⟨dd 6++[tf [ci],tf [CS.ptr 7 0],tf [CS.ptr 8 0],tf [CS.ptr 9 0],tf [CS.ptr 10 0],tf [CS.ptr 11 0],tf [CS.ptr 12 0],td,tf [CS.ptr 14 0],tf [CS.ptr 15 0],tf [CS.bool]]++dd 6++[tf [CS.sl Aa],tf [ci],tf [ci]]++dd 57,[(7,58,[ci,ci,ci,CS.sl Ah,CS.sl kPt]),(8,27,cc 9++[CS.sl Aa]++cc 9++[CS.sl Aa]++cc 9++[CS.sl Aa]),(9,62,[CS.sl As]++cc 5),(10,29,[ci,ci,ci]),(11,92,[ci,ci,CS.bool,CS.bool,CS.bool]),(12,50,cc 6),(14,50,cc 6),(15,50,cc 6)],[]⟩
def Qvx:List (Ex×Sk):=[(Ex.exit 0,⟨dd 10++[tf [CS.ptr 10 0],td,tf [CS.ptr 12 0],td,tf [CS.ptr 14 0],tf [CS.ptr 15 0],tf [CS.bool]]++dd 66,[(10,29,[ci,ci,ci]),(12,50,cc 6),(14,50,cc 6),(15,50,cc 6)],[]⟩)]
def Qm5 (Bv DI Gm Cn CR GQ:Fn):Lp:=A4 PG (V1 Bv DI Gm Cn CR GQ) 64 4 (A0 PG 104 4) Q52 Qvx
def Qwi (Bv DI Gm Cn CR GQ:Fn) (N4:Lp):Cfg:=(V1 Bv DI Gm Cn CR GQ).loop 4 Q52 Qvx N4
def T0 (Bv DI Gm Cn CR GQ:Fn) (N4:Lp):Fn:=Am PG (Qwi Bv DI Gm Cn CR GQ N4) 64 104 VE X5
theorem Zwk (Bv DI Gm Cn CR GQ:Fn) (v0:Int) (v1:Bool) (v2:Rw) (v3 v4:Int) (v46 v47 v48 v49 v50:Int) (v51 v52 v53:Bool) (v54 v55 v56 v57 v58 v59 v60 v61 v62 v63 v64 v65 v66 v67 v68 v69 v70 v71:Int) (p:Pth) (x:Ax3) (t:Trk):Qm5 Bv DI Gm Cn CR GQ (I v0::B v1:: .view Aa v2::I v3::I v4::pxt p x t [I v46,I v47,I v48,I v49,I v50,B v51,B v52,B v53,I v54,I v55,I v56,I v57,I v58,I v59,I v60,I v61,I v62,I v63,I v64,I v65,I v66,I v67,I v68,I v69,I v70,I v71])=
 bif decide (v4<v3)then
 bif decide (0<=v4)&&decide (v4<(v2.length:Int))then
 bif decide (wrap .i64 (v55+wrap .i64 (v56+gA (nth [] v2 v4.toNat) 0))<0)then
 some (0,(I v0::B v1:: .view Aa v2::I v3::I (wrap .i64 (v4+1))::pxt p x t [I v46,I v47,I v48,I v49,I v50,B v51,B v52,B v53,I v54,I v55,I v56,I v57,I v58,I v59,I v60,I v61,I v62,I v63,I v64,I v65,I v66,I v67,I v68,I v69,I v70,I v71]))
 else
 (CR [I v46,I v47,I v48,I (wrap .i64 (v55+wrap .i64 (v56+gA (nth [] v2 v4.toNat) 0))),I (wrap .i64 (v56+gA (nth [] v2 v4.toNat) 0))]).bind fun o9=>
 bif !bA o9 0 then
 some (0,(I v0::B v1:: .view Aa v2::I v3::I (wrap .i64 (v4+1))::pxt p x t [I v46,I v47,I v48,I v49,I v50,B v51,B v52,B v53,I v54,I v55,I v56,I v57,I v58,I v59,I v60,I v61,I v62,I v63,I v64,I v65,I v66,I v67,I v68,I v69,I v70,I v71]))
 else
 (Cn [I v54,I v55,I v56,I v57,I v58,I v59,I (wrap .i64 (v55+wrap .i64 (v56+gA (nth [] v2 v4.toNat) 0)))]).bind fun o10=>
 (Gm (ES p t [I v46,I v47,I v48,I v49,I v50,B v51,B v52,B v53,jA o10 0,jA o10 1,jA o10 2,jA o10 3,jA o10 4,jA o10 5])).bind fun o11=>
 bif bA o11 0 then
 (DI (pxt p x t [I v46,I v47,I v48,jA o10 0,jA o10 1,jA o10 2,jA o10 3,jA o10 4,jA o10 5,I v0])).bind fun o12=>
 bif bA o12 0 then
 some (1,[B true,I v46,I v47,I v48,I v54,I v55,I v56,I v57,I v58,I v59,I v60,I v61,I v62,I v63,I v64,I v65,jA o10 0,jA o10 1,jA o10 2,jA o10 3,jA o10 4,jA o10 5])
 else
 some (0,(I v0::B v1:: .view Aa v2::I v3::I (wrap .i64 (v4+1))::pxt p x t [I v46,I v47,I v48,I v49,I v50,B v51,B v52,B v53,I v54,I v55,I v56,I v57,I v58,I v59,I v60,I v61,I v62,I v63,I v64,I v65,jA o10 0,jA o10 1,jA o10 2,jA o10 3,jA o10 4,jA o10 5]))
 else
 some (0,(I v0::B v1:: .view Aa v2::I v3::I (wrap .i64 (v4+1))::pxt p x t [I v46,I v47,I v48,I v49,I v50,B v51,B v52,B v53,I v54,I v55,I v56,I v57,I v58,I v59,I v60,I v61,I v62,I v63,I v64,I v65,jA o10 0,jA o10 1,jA o10 2,jA o10 3,jA o10 4,jA o10 5]))
 else
 none
 else
 some (1,[B v1,I v46,I v47,I v48,I v54,I v55,I v56,I v57,I v58,I v59,I v60,I v61,I v62,I v63,I v64,I v65,I v66,I v67,I v68,I v69,I v70,I v71]):=by kernel_rfl
theorem Zqc (Bv DI Gm Cn CR GQ:Fn) (N4:Lp) (x41 x42 x43 x44 x45:Int) (x46 x47 x48:Bool) (x49 x50 x51 x52 x53 x54 x55:Int) (p:Pth) (x:Ax3) (t:Trk):T0 Bv DI Gm Cn CR GQ N4 (pxt p x t [I x41,I x42,I x43,I x44,I x45,B x46,B x47,B x48,I x49,I x50,I x51,I x52,I x53,I x54,I x55])=
 (GQ [I x42]).bind fun o13=>
 (N4 (I x55::B false:: .view Aa (wA o13 0)::I (↑(wA o13 0).length:Int)::I 0::pxt p x t [I x41,I x42,I x43,I x44,I x45,B x46,B x47,B x48,I x49,I x50,I x51,I x52,I x53,I x54,I 0,I 0,I 0,I 0,I 0,I 0,I 0,I 0,I 0,I 0,I 0,I 0])).bind fun o14=>
 bif o14.1.beq 1 then
 bif bA o14.2 0 then
 some [jA o14.2 16,jA o14.2 17,jA o14.2 18,jA o14.2 19,jA o14.2 20,jA o14.2 21]
 else
 (Bv [jA o14.2 1,jA o14.2 2,jA o14.2 3,jA o14.2 5,jA o14.2 6]).bind fun o15=>
 (Cn [jA o14.2 4,jA o14.2 5,jA o14.2 6,jA o14.2 7,jA o14.2 8,jA o14.2 9,I (wrap .i64 (gA o14.2 5+gA o15 0))]).bind fun o16=>
 some [jA o16 0,jA o16 1,jA o16 2,jA o16 3,jA o16 4,jA o16 5]
 else
 none:=by kernel_rfl
def Qym:=An (Qm5 E7 HZ KW Iq Gc NX)
def EV:=T0 E7 HZ KW Iq Gc NX Qym
theorem Qu2:Aj PG (V1 E7 HZ KW Iq Gc NX):=Ao rfl ⟨VX,Qr6,Ze7,Qr8,Qqz,Z0p,trivial⟩
theorem Zx:Al PG (104,Ac VE X5 EV):=rw2 (C:=(Qwi E7 HZ KW Iq Gc NX Qym)) (fl fb Qu2) Qu2
def Qk8:Sk:=⟨[TS.v true [ci,ci,ci],TS.v true (cc 6)],[],[]⟩
def Qhb:Sk:=⟨[TS.tup [(false,[ci]),(false,[CS.bool])]],[],[]⟩
def Qqc (M:Fn):Nat×Spec:=(35,Ac Qk8 Qhb M)
def Qaa (CD:Fn):Cfg:=cf [Qb1 CD]
def LJ (CD:Fn):Fn:=Am PG (Qaa CD) 64 35 Qk8 Qhb
theorem S3 (CD:Fn) (x0 x1 x2 x3 x4 x5 x6 x7 x8:Int):LJ CD [I x0,I x1,I x2,I x3,I x4,I x5,I x6,I x7,I x8]=
 (CD [I x0,I x1,I x2,I x3,I x4,I x5,I x6,I x7,I x8]).bind fun o1=>
 bif !bA o1 1 then
 some [I 0,B false]
 else
 bif(↑(wA o1 0).length:Int)==0 then
 some [I x3,B true]
 else
 bif decide (0<=wrap .i64 ((↑(wA o1 0).length:Int)-1))&&decide (wrap .i64 ((↑(wA o1 0).length:Int)-1)<(↑(wA o1 0).length:Int))then
 some [I (Af (nth .dead (nth [] (wA o1 0) (wrap .i64 ((↑(wA o1 0).length:Int)-1)).toNat) 0)),B true]
 else
 none:=by kernel_rfl
def Fm:=LJ EE
theorem Zl3:Aj PG (Qaa EE):=Ao rfl ⟨Yx,trivial⟩
theorem Qou:Al PG (35,Ac Qk8 Qhb Fm):=rw1 (C:=(Qaa EE)) Zl3
def Qmk:Sk:=⟨[tf [ci],tf [ci]],[],[]⟩
def Qgh:Sk:=⟨[tf [ci]],[],[]⟩
def Z04 (M:Fn):Nat×Spec:=(200,Ac Qmk Qgh M)
def Qma (AH:Fn):Cfg:=cf [Lx AH]
def Xc (AH:Fn):Fn:=Am PG (Qma AH) 64 200 Qmk Qgh
theorem Znw (AH:Fn) (x0 x1:Int):Xc AH [I x0,I x1]=
 (AH [I x0,I x1,I 4096,I 0]).bind fun o1=>
 some [jA o1 0]:=by kernel_rfl
def Po:=Xc Bs
theorem Zyf:Aj PG (Qma Bs):=Ao rfl ⟨Lt,trivial⟩
theorem Zce:Al PG (200,Ac Qmk Qgh Po):=rw1 (C:=(Qma Bs)) Zyf
def Qce:Sk:=⟨[tf [ci],tf [ci]],[],[]⟩
def Zc:Sk:=⟨[tf [ci]],[],[]⟩
def Zyd (M:Fn):Nat×Spec:=(201,Ac Qce Zc M)
def Qav:Cfg:=cf []
def Wc:Fn:=Am PG Qav 64 201 Qce Zc
theorem Zwc (x0 x1:Int):Wc [I x0,I x1]=
 some [I (mx (wrap .i64 (x0-x1)) (wrap .i64 (x1-x0)))]:=by kernel_rfl
def Pr:=Wc
theorem Ztf:Aj PG (Qav):=Ao rfl trivial
theorem Ztw:Al PG (201,Ac Qce Zc Pr):=rw1 (C:=Qav) Ztf
def Qdg:Sk:=⟨[TS.v true [ci,ci,ci,CS.sl Ah,CS.sl kPt],TS.v true (cc 9++[CS.sl Aa]++cc 9++[CS.sl Aa]++cc 9++[CS.sl Aa]),TS.v true ([CS.sl As]++cc 5),TS.v true [ci,ci,ci],TS.v true [ci,ci,CS.bool,CS.bool,CS.bool],TS.v true (cc 6),tf [ci],tf [ci],TS.v true [ci,ci,ci,ci],tf [ci],tf [ci]],[],[]⟩
def Zu:Sk:=⟨[TS.tup [(true,cc 6),(true,[ci,ci,ci,ci]),(false,[ci])]],[],[]⟩
def Zkk (M:Fn):Nat×Spec:=(181,Ac Qdg Zu M)
def Qat (CB Bv DT DI Cn Ko Lz:Fn):Cfg:=cf [Qh2 CB,WJ Bv,Qqc DT,Qy9 DI,Q6e Cn,Z04 Ko,Zyd Lz]
def Yj (CB Bv DT DI Cn Ko Lz:Fn):Fn:=Am PG (Qat CB Bv DT DI Cn Ko Lz) 64 181 Qdg Zu
abbrev Qmj (DT:Fn) (x41 x42 x43:Int) (o33:List AC) (x58:Int) (o26:List AC) (x60 x49 x55:Int) (Bv:Fn) (x50 x51:Int) (Cn:Fn) (x52 x53 x54 x59:Int):Option (List AC):=
 (DT [I x41,I x42,I x43,jA o33 0,jA o33 1,jA o33 2,jA o33 3,jA o33 4,jA o33 5]).bind fun o35=>
 bif decide (wrap .i64 (wrap .i64 (wrap .i64 (x58+gA o26 0)-x60)-x49)>=0)then
 bif decide (gA o35 0>wrap .i64 (x55*256))then
 (Bv [I x41,I x42,I x43,I x50,I x51]).bind fun o36=>
 (Cn [I x49,I x50,I x51,I x52,I x53,I x54,I (wrap .i64 (x50+gA o36 0))]).bind fun o37=>
 some [jA o37 0,jA o37 1,jA o37 2,jA o37 3,jA o37 4,jA o37 5,I 3,I x58,I x59,I x60,I 0]
 else
 (Bv [I x41,I x42,I x43,I x50,I x51]).bind fun o38=>
 (Cn [I x49,I x50,I x51,I x52,I x53,I x54,I (wrap .i64 (x50+gA o38 0))]).bind fun o39=>
 some [jA o39 0,jA o39 1,jA o39 2,jA o39 3,jA o39 4,jA o39 5,I 3,I x58,I x59,I x60,I 18]
 else
 (Bv [I x41,I x42,I x43,I x50,I x51]).bind fun o40=>
 (Cn [I x49,I x50,I x51,I x52,I x53,I x54,I (wrap .i64 (x50+gA o40 0))]).bind fun o41=>
 some [jA o41 0,jA o41 1,jA o41 2,jA o41 3,jA o41 4,jA o41 5,I 3,I x58,I x59,I x60,I 18]
attribute [go_sem] Qmj
theorem Zsf (CB Bv DT DI Cn Ko Lz:Fn) (x41 x42 x43 x44 x45:Int) (x46 x47 x48:Bool) (x49 x50 x51 x52 x53 x54 x55 x56 x57 x58 x59 x60 x61 x62:Int) (p:Pth) (x:Ax3) (t:Trk):Yj CB Bv DT DI Cn Ko Lz (pxt p x t [I x41,I x42,I x43,I x44,I x45,B x46,B x47,B x48,I x49,I x50,I x51,I x52,I x53,I x54,I x55,I x56,I x57,I x58,I x59,I x60,I x61,I x62])=
 (Lz [I x62,I x59]).bind fun o25=>
 (Ko [I x56,jA o25 0]).bind fun o26=>
 bif x57==1 then
 (Lz [I x61,I x59]).bind fun o27=>
 (Ko [I x56,jA o27 0]).bind fun o28=>
 (Cn [I x49,I x50,I x51,I x52,I x53,I x54,I (wrap .i64 (gA o26 0-gA o28 0))]).bind fun o29=>
 bif wrap .i64 (gA o26 0-gA o28 0) !=0 then
 (DI (pxt p x t [I x41,I x42,I x43,jA o29 0,jA o29 1,jA o29 2,jA o29 3,jA o29 4,jA o29 5,I x55])).bind fun o30=>
 bif bA o30 0 then
 some [jA o29 0,jA o29 1,jA o29 2,jA o29 3,jA o29 4,jA o29 5,I 2,I x58,I x59,I (wrap .i64 (gA o26 0-wrap .i64 (gA o29 0-x58))),I 0]
 else
 (CB (pxt p x t [I x41,I x42,I x43,I x44,I x45,B false,B x47,B x48,I x49,I x50,I x51,I x52,I x53,I x54,I x55])).bind fun o31=>
 some [jA o31 0,jA o31 1,jA o31 2,jA o31 3,jA o31 4,jA o31 5,I x57,I x58,I x59,I x60,I 0]
 else
 (CB (pxt p x t [I x41,I x42,I x43,I x44,I x45,B false,B x47,B x48,I x49,I x50,I x51,I x52,I x53,I x54,I x55])).bind fun o32=>
 some [jA o32 0,jA o32 1,jA o32 2,jA o32 3,jA o32 4,jA o32 5,I x57,I x58,I x59,I x60,I 0]
 else
 bif x57==2 then
 (Cn [I x49,I x50,I x51,I x52,I x53,I x54,I (wrap .i64 (wrap .i64 (wrap .i64 (x58+gA o26 0)-x60)-x49))]).bind fun o33=>
 bif decide (wrap .i64 (wrap .i64 (wrap .i64 (x58+gA o26 0)-x60)-x49)>=0)then
 (DI (pxt p x t [I x41,I x42,I x43,jA o33 0,jA o33 1,jA o33 2,jA o33 3,jA o33 4,jA o33 5,I x55])).bind fun o34=>
 bif bA o34 0 then
 some [jA o33 0,jA o33 1,jA o33 2,jA o33 3,jA o33 4,jA o33 5,I x57,I x58,I x59,I x60,I 0]
 else
 Qmj DT x41 x42 x43 o33 x58 o26 x60 x49 x55 Bv x50 x51 Cn x52 x53 x54 x59
 else
 Qmj DT x41 x42 x43 o33 x58 o26 x60 x49 x55 Bv x50 x51 Cn x52 x53 x54 x59
 else
 (CB (pxt p x t [I x41,I x42,I x43,I x44,I x45,B false,B x47,B x48,I x49,I x50,I x51,I x52,I x53,I x54,I x55])).bind fun o49=>
 some [jA o49 0,jA o49 1,jA o49 2,jA o49 3,jA o49 4,jA o49 5,I x57,I x58,I x59,I x60,I 0]:=by kernel_rfl
def HX:=Yj EV E7 Fm HZ Iq Po Pr
theorem Zvt:Aj PG (Qat EV E7 Fm HZ Iq Po Pr):=Ao rfl ⟨Zx,VX,Qou,Qr6,Qr8,Zce,Ztw,trivial⟩
theorem Zco:Al PG (181,Ac Qdg Zu HX):=rw1 (C:=(Qat EV E7 Fm HZ Iq Po Pr)) Zvt
def Qgl:Sk:=⟨[tf [CS.ptr 20000 0],tf [ci]],[(20000,119,cS)],[]⟩
def Qkb:Sk:=⟨[TS.tup []],[(20000,119,cS)],[]⟩
def Qh9 (M:Fn):Nat×Spec:=(159,Ac Qgl Qkb M)
def UW (CB:Fn):Cfg:=cf [Qh2 CB]
def Qae (CB:Fn):Fn:=Am PG (UW CB) 64 159 Qgl Qkb
theorem Q79 (CB:Fn) (x0:Int) (K:Kf) (c:Cv):Qae CB (I x0::Ad K c)=
 (CB (pxt K.p K.x K.t [I K.pa,I K.pb,I K.pc,I c.o0,I c.o1,B c.o2,B c.o3,B c.o4,I c.m0,I c.m1,I c.m2,I c.m3,I c.m4,I c.m5,I x0])).bind fun o1=>
 some (Ad K {c with m0:=gA o1 0,m1:=gA o1 1,m2:=gA o1 2,m3:=gA o1 3,m4:=gA o1 4,m5:=gA o1 5}):=by kernel_rfl
def Hb:=Qae EV
theorem Zvd:Aj PG (UW EV):=Ao rfl ⟨Zx,trivial⟩
theorem Qe7:Al PG (159,Ac Qgl Qkb Hb):=rw1 (C:=(UW EV)) Zvd
def Qf3:Sk:=⟨[tf [CS.ptr 20000 0],tf [ci],TS.v true (cc 7)],[(20000,119,cS)],[]⟩
def W4:Sk:=⟨[TS.tup []],[(20000,119,cS)],[]⟩
def Zy3 (M:Fn):Nat×Spec:=(162,Ac Qf3 W4 M)
def YI (Da Mp Dn:Fn):Cfg:=cp [XJ Da,Zkk Mp,Qh9 Dn] [108,159]
def Qcq (Da Mp Dn:Fn):Fn:=Am PG (YI Da Mp Dn) 64 162 Qf3 W4
theorem Zc5 (Da Mp Dn:Fn) (x0 x1 x2 x3 x4 x5 x6 x7:Int) (K:Kf) (c:Cv):Qcq Da Mp Dn (I x0::I x1::I x2::I x3::I x4::I x5::I x6::I x7::Ad K c)=
 bif c.g0 !=0 then
 (Dn (I x0::Ad K c)).bind fun o3=>
 some (DV (cR 0 o3) [(82,I 3)])
 else
 (Mp (pxt K.p K.x K.t [I K.pa,I K.pb,I K.pc,I c.o0,I c.o1,B c.o2,B c.o3,B c.o4,I c.m0,I c.m1,I c.m2,I c.m3,I c.m4,I c.m5,I x0,I x7,I c.e0,I c.e1,I c.e2,I c.e3,I c.before,I c.s3])).bind fun o4=>
 bif gA o4 10 !=0 then
 (Da (Ad K {c with m0:=gA o4 0,m1:=gA o4 1,m2:=gA o4 2,m3:=gA o4 3,m4:=gA o4 4,m5:=gA o4 5,e0:=gA o4 6,e1:=gA o4 7,e2:=gA o4 8,e3:=gA o4 9})).bind fun o5=>
 some (cR 0 o5)
 else
 some (Ad K {c with m0:=gA o4 0,m1:=gA o4 1,m2:=gA o4 2,m3:=gA o4 3,m4:=gA o4 4,m5:=gA o4 5,e0:=gA o4 6,e1:=gA o4 7,e2:=gA o4 8,e3:=gA o4 9}):=by kernel_rfl
def Pw:=Qcq GH HX Hb
theorem Zwp:Aj PG (YI GH HX Hb):=Ao rfl ⟨VL,Zco,Qe7,trivial⟩
theorem Zza:Al PG (162,Ac Qf3 W4 Pw):=rw1 (C:=(YI GH HX Hb)) Zwp
def Qd6:Sk:=⟨[tf [ci],tf [ci]],[],[]⟩
def Wl:Sk:=⟨[tf [ci]],[],[]⟩
def Zrv (M:Fn):Nat×Spec:=(42,Ac Qd6 Wl M)
def Qmz (AH:Fn):Cfg:=cf [Lx AH]
def Qb2 (AH:Fn):Fn:=Am PG (Qmz AH) 64 42 Qd6 Wl
theorem Q9f (AH:Fn) (x0 x1:Int):Qb2 AH [I x0,I x1]=
 (AH [I 4096,I x1,I x0,I 0]).bind fun o1=>
 some [jA o1 0]:=by kernel_rfl
def Jr:=Qb2 Bs
theorem Zxp:Aj PG (Qmz Bs):=Ao rfl ⟨Lt,trivial⟩
theorem Zx4:Al PG (42,Ac Qd6 Wl Jr):=rw1 (C:=(Qmz Bs)) Zxp
def Qd7:Sk:=⟨[tf [CS.ptr 20000 0],tf [ci],TS.v true (cc 7)],[(20000,119,cS)],[]⟩
def Qlf:Sk:=⟨[TS.tup []],[(20000,119,cS)],[]⟩
def Z14 (M:Fn):Nat×Spec:=(161,Ac Qd7 Qlf M)
def Qei (Kr B8 Dn:Fn):Cfg:=cr [Zrv Kr,RG B8,Qh9 Dn] [110,159] [110]
def Qkx (Kr B8 Dn:Fn):Fn:=Am PG (Qei Kr B8 Dn) 64 161 Qd7 Qlf
theorem Ze1 (Kr B8 Dn:Fn) (x0 x1 x2 x3 x4 x5 x6 x7:Int) (K:Kf) (c:Cv):Qkx Kr B8 Dn (I x0::I x1::I x2::I x3::I x4::I x5::I x6::I x7::Ad K c)=
 (Dn (I x0::Ad K c)).bind fun o5=>
 bif decide (0<=x5)&&decide (x5<(↑(wA o5 35).length:Int))then
 bif Af (nth .dead (nth [] (wA o5 35) x5.toNat) 19)==3 then
 (B8 (cR 0 o5)).bind fun o6=>
 (Kr [I x7,I (wrap .i64 (gA o6 0-gA o5 80))]).bind fun o7=>
 some (DV (cR 0 o5) [(67,I (wrap .i64 (gA o5 81+wrap .i64 (wrap .i64 (1*gA o7 0)*256))))])
 else
 (B8 (cR 0 o5)).bind fun o8=>
 (Kr [I x7,I (wrap .i64 (gA o8 0-gA o5 80))]).bind fun o9=>
 some (DV (cR 0 o5) [(67,I (wrap .i64 (gA o5 81+wrap .i64 (wrap .i64 (-1*gA o9 0)*256))))])
 else
 none:=by kernel_rfl
def Qh:=Qkx Jr Es Hb
theorem Znc:Aj PG (Qei Jr Es Hb):=IB (rs:=[110]) rfl ⟨Zx4,QI,Qe7,trivial⟩ rfl (CX rfl (G3 (CX rfl IH)))
theorem Z2b:Al PG (161,Ac Qd7 Qlf Qh):=rw1 (C:=(Qei Jr Es Hb)) Znc
def Ww:Sk:=⟨[tf [ci],tf [ci]],[],[]⟩
def Qns:Sk:=⟨[tf [ci]],[],[]⟩
def Zb0 (M:Fn):Nat×Spec:=(199,Ac Ww Qns M)
def Vm:Cfg:=cf []
def XC:Fn:=Am PG Vm 64 199 Ww Qns
theorem Zn3 (x0 x1:Int):XC [I x0,I x1]=
 bif decide (x1=0)then
 none
 else
 bif decide (x1=0)then
 none
 else
 bif decide (x0.tmod x1<0)then
 some [I (wrap .i64 (wrap .i64 (x0.tdiv x1)-1))]
 else
 some [I (wrap .i64 (x0.tdiv x1))]:=by kernel_rfl
def JB:=XC
theorem Zp9:Aj PG (Vm):=Ao rfl trivial
theorem Zae:Al PG (199,Ac Ww Qns JB):=rw1 (C:=Vm) Zp9
def Qcg:Sk:=⟨[tf [ci],tf [ci]],[],[]⟩
def Yp:Sk:=⟨[tf [ci]],[],[]⟩
def Zvf (M:Fn):Nat×Spec:=(180,Ac Qcg Yp M)
def Qb3 (KK:Fn):Cfg:=cf [Zb0 KK]
def Yt (KK:Fn):Fn:=Am PG (Qb3 KK) 64 180 Qcg Yp
theorem Zp1 (KK:Fn) (x0 x1:Int):Yt KK [I x0,I x1]=
 bif x1== -1 then
 (KK [I x0,I 1048576]).bind fun o2=>
 some [I (wrap .i64 (gA o2 0*1048576))]
 else
 (KK [I (wrap .i64 (0-x0)),I 1048576]).bind fun o3=>
 some [I (wrap .i64 (wrap .i64 (0-gA o3 0)*1048576))]:=by kernel_rfl
def Kc:=Yt JB
theorem Zrj:Aj PG (Qb3 JB):=Ao rfl ⟨Zae,trivial⟩
theorem Zbt:Al PG (180,Ac Qcg Yp Kc):=rw1 (C:=(Qb3 JB)) Zrj
def V_:Sk:=⟨[tf [CS.ptr 20000 0],TS.v true (cc 7)],[(20000,119,cS)],[]⟩
def Vs:Sk:=⟨[tf [CS.bool]],[(20000,119,cS)],[]⟩
def Zxt (M:Fn):Nat×Spec:=(160,Ac V_ Vs M)
def Qnk (B8 NF:Fn):Cfg:=cr [RG B8,Zvf NF] [110] [110]
def Qm8 (B8 NF:Fn):Fn:=Am PG (Qnk B8 NF) 64 160 V_ Vs
theorem Zlz (B8 NF:Fn) (x0 x1 x2 x3 x4 x5 x6:Int) (K:Kf) (c:Cv):Qm8 B8 NF (I x0::I x1::I x2::I x3::I x4::I x5::I x6::Ad K c)=
 (NF [I c.before,I c.s0]).bind fun o3=>
 bif decide (0<=x4)&&decide (x4<((K.aA.map Ag).length:Int))then
 bif gA (nth [] (K.aA.map Ag) x4.toNat) 0 !=6 then
 bif c.s1==0 then
 some (B false::Ad K c)
 else
 bif decide (wrap .i64 (wrap .i64 (c.s3-gA o3 0)*c.s0)<0)then
 some (B false::Ad K c)
 else
 (B8 (Ad K c)).bind fun o4=>
 some (B true::Ad K {c with y0:=x4,y1:=gA o4 0,y2:=c.s3,e0:=1,e1:=c.m0,e2:=gA o3 0,e3:=0})
 else
 (B8 (Ad K c)).bind fun o5=>
 some (B true::Ad K {c with y0:=x4,y1:=gA o5 0,y2:=c.s3,e0:=1,e1:=c.m0,e2:=gA o3 0,e3:=0})
 else
 none:=by kernel_rfl
def Qc:=Qm8 Es Kc
theorem Zsl:Aj PG (Qnk Es Kc):=IB (rs:=[110]) rfl ⟨QI,Zbt,trivial⟩ rfl (G3 (CX rfl IH))
theorem Zhv:Al PG (160,Ac V_ Vs Qc):=rw1 (C:=(Qnk Es Kc)) Zsl
def WG:Sk:=⟨[tf [CS.ptr 20000 0]],[(20000,119,cS)],[]⟩
def Qjq:Sk:=⟨[TS.tup [(true,cc 7),(false,[CS.bool])]],[],[]⟩
def Q49 (M:Fn):Nat×Spec:=(102,EX WG Qjq M)
def P1 (Dl B8:Fn):Cfg:=cr [Qhv Dl,RG B8] [110] [110]
def Qm6 (Dl B8:Fn):Fn:=Oo PG (P1 Dl B8) 64 102 WG Qjq
theorem Zpm (Dl B8:Fn) (K:Kf) (c:Cv):Qm6 Dl B8 (Ad K c)=
 (B8 (Ad K c)).bind fun o2=>
 (Dl (Br K.p++[jA o2 0])).bind fun o3=>
 bif decide (gA o3 0<0)then
 some [I 0,I 0,I 0,I 0,I 0,I 0,I 0,B false]
 else
 bif decide (0<=gA o3 0)&&decide (gA o3 0<((K.p.aF.map Ay).length:Int))then
 some (AK Ah (nth [] (K.p.aF.map Ay) (gA o3 0).toNat)++[B true])
 else
 none:=by kernel_rfl
def Hj:=Qm6 Ez Es
theorem Zdp:Aj PG (P1 Ez Es):=IB (rs:=[110]) rfl ⟨Qj0,QI,trivial⟩ rfl (CX rfl (G3 IH))
theorem Zlf (vars : List AC) (R : Type) (K : TV -> Mem -> Option R) : Fe PG (P1 Ez Es) 64 102 [TV.v false [AC.ptr 20000 0]] ⟨[(20000, (⟨119, (cR 0 vars)⟩ : Box))], []⟩ K = Fe PG (P1 Ez Es) 64 102 [TV.v false [AC.ptr 20000 0]] ⟨[(20000, (⟨119, (cR 0 vars)⟩ : Box))], []⟩ (fun v _ => K v ⟨[(20000, (⟨119, (cR 0 vars)⟩ : Box))], []⟩) := Eq.trans (b := ((Es (cR 0 vars)).bind fun o2 =>
 (Ez [jA vars 37,jA vars 38,jA vars 39, .view Ah (wA vars 40), .view kPt (wA vars 41),jA o2 0]).bind fun o3=>
 bif decide (gA o3 0<0)then
 K (TV.tup [(true,[I 0,I 0,I 0,I 0,I 0,I 0,I 0]),(false,[B false])]) ⟨[(20000,(⟨119,(cR 0 vars)⟩:Box))],[]⟩
 else
 bif decide (0<=gA o3 0)&&decide (gA o3 0<(↑(wA vars 40).length:Int))then
 K (TV.tup [(true,[I (Af (nth .dead (nth [] (wA vars 40) (gA o3 0).toNat) 0)),I (Af (nth .dead (nth [] (wA vars 40) (gA o3 0).toNat) 1)),I (Af (nth .dead (nth [] (wA vars 40) (gA o3 0).toNat) 2)),I (Af (nth .dead (nth [] (wA vars 40) (gA o3 0).toNat) 3)),I (Af (nth .dead (nth [] (wA vars 40) (gA o3 0).toNat) 4)),I (Af (nth .dead (nth [] (wA vars 40) (gA o3 0).toNat) 5)),I (Af (nth .dead (nth [] (wA vars 40) (gA o3 0).toNat) 6))]),(false,[B true])]) ⟨[(20000,(⟨119,(cR 0 vars)⟩:Box))],[]⟩
 else
 none)) (by kernel_rfl) (Eq.symm (by kernel_rfl))
theorem Qyv:Al PG (102,EX WG Qjq Hj):=SM (C:=(P1 Ez Es)) (L:=64) (by kernel_rfl) (FnOK.bare rfl rfl rfl) Zdp eqOk Hr (by kernel_rfl) (by kernel_rfl) (fun vars R K=>Zlf vars R K)
def X6:Sk:=⟨[tf [CS.ptr 20000 0],tf [ci]],[(20000,119,cS)],[]⟩
def Qca:Sk:=⟨[TS.tup []],[(20000,119,cS)],[]⟩
def Zqe (M:Fn):Nat×Spec:=(109,Ac X6 Qca M)
def U1 (Io HT Da I4 Dn Ga:Fn):Cfg:=cr [Zy3 Io,Z14 HT,XJ Da,Zxt I4,Qh9 Dn,Q49 Ga] [162,161,108,160,159,102] [102]
def Qks (Io HT Da I4 Dn Ga:Fn):Fn:=Am PG (U1 Io HT Da I4 Dn Ga) 64 109 X6 Qca
abbrev Q4 (c:Cv) (o15:List AC) (I4:Fn) (K:Kf) (Da HT:Fn) (x0:Int) (Io:Fn):Option (List AC):=
 bif !c.y0==gA o15 4 then
 (I4 (jA o15 0::jA o15 1::jA o15 2::jA o15 3::jA o15 4::jA o15 5::jA o15 6::Ad K c)).bind fun o18=>
 bif !bA o18 0 then
 bif gA o18 66==0 then
 (Da (cR 1 o18)).bind fun o19=>
 some (cR 0 o19)
 else
 some (cR 1 o18)
 else
 bif decide (0<=gA o15 4)&&decide (gA o15 4<(↑(wA o18 36).length:Int))then
 bif Af (nth .dead (nth [] (wA o18 36) (gA o15 4).toNat) 0)==6 then
 (HT (I x0::jA o15 0::jA o15 1::jA o15 2::jA o15 3::jA o15 4::jA o15 5::jA o15 6::cR 1 o18)).bind fun o20=>
 some (cR 0 o20)
 else
 (Io (I x0::jA o15 0::jA o15 1::jA o15 2::jA o15 3::jA o15 4::jA o15 5::jA o15 6::cR 1 o18)).bind fun o21=>
 some (cR 0 o21)
 else
 none
 else
 bif decide (0<=gA o15 4)&&decide (gA o15 4<((K.aA.map Ag).length:Int))then
 bif gA (nth [] (K.aA.map Ag) (gA o15 4).toNat) 0==6 then
 (HT (I x0::jA o15 0::jA o15 1::jA o15 2::jA o15 3::jA o15 4::jA o15 5::jA o15 6::Ad K c)).bind fun o22=>
 some (cR 0 o22)
 else
 (Io (I x0::jA o15 0::jA o15 1::jA o15 2::jA o15 3::jA o15 4::jA o15 5::jA o15 6::Ad K c)).bind fun o23=>
 some (cR 0 o23)
 else
 none
attribute [go_sem] Q4
theorem Zkp (Io HT Da I4 Dn Ga:Fn) (x0:Int) (K:Kf) (c:Cv):Qks Io HT Da I4 Dn Ga (I x0::Ad K c)=
 (Ga (Ad K c)).bind fun o15=>
 bif gA o15 6==0 then
 (Dn (I x0::Ad K c)).bind fun o16=>
 some (cR 0 o16)
 else
 bif c.o2 then
 bif !c.y0==gA o15 4 then
 (Dn (I x0::Ad K c)).bind fun o17=>
 some (cR 0 o17)
 else
 Q4 c o15 I4 K Da HT x0 Io
 else
 Q4 c o15 I4 K Da HT x0 Io:=by kernel_rfl
def ON:=Qks Pw Qh GH Qc Hb Hj
theorem Zig:Aj PG (U1 Pw Qh GH Qc Hb Hj):=IB (rs:=[102]) rfl ⟨Zza,Z2b,VL,Zhv,Qe7,Qyv,trivial⟩ rfl (CX rfl (CX rfl (CX rfl (CX rfl (CX rfl (G3 IH))))))
theorem Zqp:Al PG (109,Ac X6 Qca ON):=rw1 (C:=(U1 Pw Qh GH Qc Hb Hj)) Zig
def Qix:Sk:=⟨[tf [ci]],[],[]⟩
def Qib:Sk:=⟨[tf [ci]],[],[]⟩
def Wz (M:Fn):Nat×Spec:=(88,Ac Qix Qib M)
def Ql1 (AH:Fn):Cfg:=cf [Lx AH]
def Se (AH:Fn):Fn:=Am PG (Ql1 AH) 64 88 Qix Qib
theorem Qt7 (AH:Fn) (x0:Int):Se AH [I x0]=
 (AH [I x0,I 1048576,I 60000,I 2]).bind fun o1=>
 some [jA o1 0]:=by kernel_rfl
def EZ:=Se Bs
theorem Zrr:Aj PG (Ql1 Bs):=Ao rfl ⟨Lt,trivial⟩
theorem Vk:Al PG (88,Ac Qix Qib EZ):=rw1 (C:=(Ql1 Bs)) Zrr
def Yk:Sk:=⟨[tf [ci]],[],[]⟩
def Qmd:Sk:=⟨[tf [ci]],[],[]⟩
def Qu9 (M:Fn):Nat×Spec:=(177,Ac Yk Qmd M)
def Qmx:Cfg:=cf []
def Qj2:Fn:=Am PG Qmx 64 177 Yk Qmd
theorem Zdx (x0:Int):Qj2 [I x0]=
 bif x0==3 then
 some [I 1]
 else
 bif x0==4 then
 some [I (-1)]
 else
 some [I 0]:=by kernel_rfl
def Gk:=Qj2
theorem Zgx:Aj PG (Qmx):=Ao rfl trivial
theorem Qs0:Al PG (177,Ac Yk Qmd Gk):=rw1 (C:=Qmx) Zgx
def Qka:Sk:=⟨[TS.v true [ci,ci,ci,ci],tf [ci],tf [ci]],[],[]⟩
def Qlx:Sk:=⟨[tf [CS.bool]],[],[]⟩
def Zd7 (M:Fn):Nat×Spec:=(150,Ac Qka Qlx M)
def Qno (Df FQ:Fn):Cfg:=cf [Wz Df,Qu9 FQ]
def TZ (Df FQ:Fn):Fn:=Am PG (Qno Df FQ) 64 150 Qka Qlx
theorem Zo4 (Df FQ:Fn) (x0 x1 x2 x3 x4 x5:Int):TZ Df FQ [I x0,I x1,I x2,I x3,I x4,I x5]=
 (FQ [I x4]).bind fun o3=>
 bif gA o3 0==0 then
 bif x4==5 then
 bif x1==0 then
 some [B (x2==0)]
 else
 some [B false]
 else
 some [B false]
 else
 bif x0==gA o3 0 then
 (Df [I x5]).bind fun o4=>
 bif x1==gA o4 0 then
 (Df [I x5]).bind fun o5=>
 some [B (x2==gA o5 0)]
 else
 some [B false]
 else
 some [B false]:=by kernel_rfl
def Mn:=TZ EZ Gk
theorem Zoy:Aj PG (Qno EZ Gk):=Ao rfl ⟨Vk,Qs0,trivial⟩
theorem Zue:Al PG (150,Ac Qka Qlx Mn):=rw1 (C:=(Qno EZ Gk)) Zoy
def Qkn:Sk:=⟨[TS.v true [ci,ci,ci,ci],tf [ci],tf [ci]],[],[]⟩
def T3:Sk:=⟨[TS.v true [ci,ci,ci,ci]],[],[]⟩
def Q76 (M:Fn):Nat×Spec:=(149,Ac Qkn T3 M)
def Qh3 (Df FQ:Fn):Cfg:=cf [Wz Df,Qu9 FQ]
def Qb9 (Df FQ:Fn):Fn:=Am PG (Qh3 Df FQ) 64 149 Qkn T3
theorem Zxm (Df FQ:Fn) (x0 x1 x2 x3 x4 x5:Int):Qb9 Df FQ [I x0,I x1,I x2,I x3,I x4,I x5]=
 (FQ [I x4]).bind fun o3=>
 bif x4==5 then
 some [I x0,I x1,I 0,I x3]
 else
 bif gA o3 0==0 then
 some [I x0,I x1,I x2,I x3]
 else
 bif x1==0 then
 (Df [I x5]).bind fun o4=>
 some [jA o3 0,I x1,jA o4 0,I x3]
 else
 bif x0==gA o3 0 then
 (Df [I x5]).bind fun o5=>
 some [jA o3 0,I x1,jA o5 0,I x3]
 else
 some [I x0,I x1,I 0,I x3]:=by kernel_rfl
def Lk:=Qb9 EZ Gk
theorem Zb2:Aj PG (Qh3 EZ Gk):=Ao rfl ⟨Vk,Qs0,trivial⟩
theorem Zqz:Al PG (149,Ac Qkn T3 Lk):=rw1 (C:=(Qh3 EZ Gk)) Zb2
def Qh5:Sk:=⟨[tf [CS.ptr 20000 0]],[(20000,119,cS)],[]⟩
def Qnc:Sk:=⟨[tf [ci]],[(20000,119,cS)],[]⟩
def Zfs (M:Fn):Nat×Spec:=(148,Ac Qh5 Qnc M)
def Qid:Cfg:=cf []
def V2:Fn:=Am PG Qid 64 148 Qh5 Qnc
theorem Zog (K:Kf) (c:Cv):V2 (Ad K c)=
 some (I 3::Ad K {c with next:=wrap .i64 (c.idx+1),on:=false,idx:=0,aN:=false,cnt:=0}):=by kernel_rfl
def Oc:=V2
theorem Zr0:Aj PG (Qid):=Ao rfl trivial
theorem Zmy:Al PG (148,Ac Qh5 Qnc Oc):=rw1 (C:=Qid) Zr0
def YS:Sk:=⟨[tf [CS.ptr 20000 0]],[(20000,119,cS)],[]⟩
def Qg9:Sk:=⟨[tf [ci]],[(20000,119,cS)],[]⟩
def Qsc (M:Fn):Nat×Spec:=(103,Ac YS Qg9 M)
def Ye (OD Oy H9:Fn):Cfg:=cp [Zd7 OD,Q76 Oy,Zfs H9] [148]
def Qfu (OD Oy H9:Fn):Fn:=Am PG (Ye OD Oy H9) 64 103 YS Qg9
theorem Zd4 (OD Oy H9:Fn) (K:Kf) (c:Cv):Qfu OD Oy H9 (Ad K c)=
 bif c.aN then
 bif decide (wrap .i64 (c.cnt+1)>1)then
 bif c.aJ then
 (H9 (Ad K {c with cnt:=wrap .i64 (c.cnt+1)})).bind fun o7=>
 some (jA o7 0::cR 1 o7)
 else
 some (I 2::Ad K {c with cnt:=wrap .i64 (c.cnt+1)})
 else
 some (I 2::Ad K {c with cnt:=wrap .i64 (c.cnt+1)})
 else
 bif decide (0<=c.idx)&&decide (c.idx<((K.p.aD.map Aq).length:Int))then
 bif gA (nth [] (K.p.aD.map Aq) c.idx.toNat) 1 !=3 then
 (H9 (Ad K {c with cnt:=wrap .i64 (c.cnt+1)})).bind fun o8=>
 some (jA o8 0::cR 1 o8)
 else
 bif decide (0<=gA (nth [] (K.p.aD.map Aq) c.idx.toNat) 2)&&decide (gA (nth [] (K.p.aD.map Aq) c.idx.toNat) 2<((K.aA.map Ag).length:Int))then
 bif gA (nth [] (K.aA.map Ag) (gA (nth [] (K.p.aD.map Aq) c.idx.toNat) 2).toNat) 0==7 then
 bif decide (wrap .i64 (c.cnt+1)<gA (nth [] (K.aA.map Ag) (gA (nth [] (K.p.aD.map Aq) c.idx.toNat) 2).toNat) 19)then
 some (I 3::Ad K {c with cnt:=wrap .i64 (c.cnt+1)})
 else
 (H9 (Ad K {c with cnt:=wrap .i64 (c.cnt+1)})).bind fun o9=>
 some (jA o9 0::cR 1 o9)
 else
 bif gA (nth [] (K.aA.map Ag) (gA (nth [] (K.p.aD.map Aq) c.idx.toNat) 2).toNat) 0==8 then
 (Oy [I c.s0,I c.s1,I c.s2,I c.s3,jA (nth [] (K.aA.map Ag) (gA (nth [] (K.p.aD.map Aq) c.idx.toNat) 2).toNat) 19,jA (nth [] (K.aA.map Ag) (gA (nth [] (K.p.aD.map Aq) c.idx.toNat) 2).toNat) 20]).bind fun o10=>
 (OD [jA o10 0,jA o10 1,jA o10 2,jA o10 3,jA (nth [] (K.aA.map Ag) (gA (nth [] (K.p.aD.map Aq) c.idx.toNat) 2).toNat) 19,jA (nth [] (K.aA.map Ag) (gA (nth [] (K.p.aD.map Aq) c.idx.toNat) 2).toNat) 20]).bind fun o11=>
 bif !bA o11 0 then
 some (I 3::Ad K {c with s0:=gA o10 0,s1:=gA o10 1,s2:=gA o10 2,s3:=gA o10 3,cnt:=wrap .i64 (c.cnt+1)})
 else
 (H9 (Ad K {c with s0:=gA o10 0,s1:=gA o10 1,s2:=gA o10 2,s3:=gA o10 3,cnt:=wrap .i64 (c.cnt+1)})).bind fun o12=>
 some (jA o12 0::cR 1 o12)
 else
 bif gA (nth [] (K.aA.map Ag) (gA (nth [] (K.p.aD.map Aq) c.idx.toNat) 2).toNat) 0==14 then
 some (I 7::Ad K {c with cnt:=wrap .i64 (c.cnt+1),aI:=7})
 else
 (H9 (Ad K {c with cnt:=wrap .i64 (c.cnt+1)})).bind fun o13=>
 some (jA o13 0::cR 1 o13)
 else
 none
 else
 none:=by kernel_rfl
def J9:=Qfu Mn Lk Oc
theorem Z0c:Aj PG (Ye Mn Lk Oc):=Ao rfl ⟨Zue,Zqz,Zmy,trivial⟩
theorem Q7d:Al PG (103,Ac YS Qg9 J9):=rw1 (C:=(Ye Mn Lk Oc)) Z0c
def Qgd:Sk:=⟨[tf [CS.ptr 20000 0],tf [ci]],[(20000,119,cS)],[]⟩
def YL:Sk:=⟨[tf [ci]],[(20000,119,cS)],[]⟩
def Q88 (M:Fn):Nat×Spec:=(107,Ac Qgd YL M)
def Qlz (D6:Fn):Cfg:=cp [Qsc D6] [103]
def Qfc (D6:Fn):Fn:=Am PG (Qlz D6) 64 107 Qgd YL
theorem Zpv (D6:Fn) (x0:Int) (K:Kf) (c:Cv):Qfc D6 (I x0::Ad K c)=
 bif decide (0<=x0)&&decide (x0<((K.p.aD.map Aq).length:Int))then
 bif gA (nth [] (K.p.aD.map Aq) x0.toNat) 1==1 then
 (D6 (Ad K {c with on:=true,idx:=x0,aN:=c.o3,cnt:=0})).bind fun o7=>
 some (jA o7 0::cR 1 o7)
 else
 bif gA (nth [] (K.p.aD.map Aq) x0.toNat) 1==2 then
 (D6 (Ad K {c with on:=true,idx:=x0,aN:=c.o3,cnt:=0})).bind fun o8=>
 some (jA o8 0::cR 1 o8)
 else
 bif gA (nth [] (K.p.aD.map Aq) x0.toNat) 1==6 then
 (D6 (Ad K {c with on:=true,idx:=x0,aN:=c.o3,cnt:=0})).bind fun o9=>
 some (jA o9 0::cR 1 o9)
 else
 bif gA (nth [] (K.p.aD.map Aq) x0.toNat) 1==4 then
 (D6 (Ad K {c with on:=true,idx:=x0,aN:=true,cnt:=0})).bind fun o10=>
 some (jA o10 0::cR 1 o10)
 else
 bif gA (nth [] (K.p.aD.map Aq) x0.toNat) 1==3 then
 bif decide (0<=gA (nth [] (K.p.aD.map Aq) x0.toNat) 2)&&decide (gA (nth [] (K.p.aD.map Aq) x0.toNat) 2<((K.aA.map Ag).length:Int))then
 bif gA (nth [] (K.aA.map Ag) (gA (nth [] (K.p.aD.map Aq) x0.toNat) 2).toNat) 0==11 then
 (D6 (Ad K {c with on:=true,idx:=x0,aN:=true,cnt:=0})).bind fun o11=>
 some (jA o11 0::cR 1 o11)
 else
 (D6 (Ad K {c with on:=true,idx:=x0,aN:=gA (nth [] (K.aA.map Ag) (gA (nth [] (K.p.aD.map Aq) x0.toNat) 2).toNat) 0==12,cnt:=0})).bind fun o12=>
 some (jA o12 0::cR 1 o12)
 else
 none
 else
 (D6 (Ad K {c with on:=true,idx:=x0,aN:=false,cnt:=0})).bind fun o13=>
 some (jA o13 0::cR 1 o13)
 else
 none:=by kernel_rfl
def Pu:=Qfc J9
theorem Zg0:Aj PG (Qlz J9):=Ao rfl ⟨Q7d,trivial⟩
theorem Zqj:Al PG (107,Ac Qgd YL Pu):=rw1 (C:=(Qlz J9)) Zg0
def Y9:Sk:=⟨[tf [CS.sl kPt],tf [ci],TS.v true [ci,ci,CS.bool,CS.bool,CS.bool],tf [ci],tf [ci]],[],[]⟩
def Qet:Sk:=⟨[TS.tup [(false,[ci]),(false,[ci])]],[],[]⟩
def Zyx (M:Fn):Nat×Spec:=(158,Ac Y9 Qet M)
def VR (CN:Fn):Cfg:=cf [Q5x CN]
def Qq5:Sk:=⟨[tf [CS.sl kPt],td,td,tf [ci],tf [ci],td,td,tf [CS.ptr 7 0],td,td,td,td,tf [ci]]++dd 32,[(7,92,[ci,ci,CS.bool,CS.bool,CS.bool])],[]⟩
def Q1o:List (Ex×Sk):=[(Ex.ret,⟨dd 10++[tf [ci],tf [ci]]++dd 33,[],[]⟩),(Ex.exit 0,⟨[td,td,td,tf [ci]]++dd 41,[],[]⟩)]
def Qx (CN:Fn):Lp:=A4 PG (VR CN) 64 2 (A0 PG 158 2) Qq5 Q1o
def Q5w (CN:Fn) (N2:Lp):Cfg:=(VR CN).loop 2 Qq5 Q1o N2
def Wu (CN:Fn) (N2:Lp):Fn:=Am PG (Q5w CN N2) 64 158 Y9 Qet
theorem Zci (CN:Fn) (v0:Rw) (v1 v2 v3 v4 v5:Int) (v6 v7 v8:Bool):Qx CN [.view kPt v0,I v1,I v2,I v3,I v4,I v5,B v6,B v7,B v8]=
 bif decide (v3<(v0.length:Int))then
 bif decide (0<=v3)&&decide (v3<(v0.length:Int))then
 (CN [jA (nth [] v0 v3.toNat) 0,jA (nth [] v0 v3.toNat) 1,jA (nth [] v0 v3.toNat) 2,I v4,I v5,B v6,B v7,B v8]).bind fun o2=>
 bif bA o2 0 then
 bif decide (v2<=gA (nth [] v0 v3.toNat) 0)then
 bif decide (gA (nth [] v0 v3.toNat) 0<=v1)then
 some (1,[jA (nth [] v0 v3.toNat) 0,I v3])
 else
 some (0,[.view kPt v0,I v1,I v2,I (wrap .i64 (v3+1)),I v4,I v5,B v6,B v7,B v8])
 else
 some (0,[.view kPt v0,I v1,I v2,I (wrap .i64 (v3+1)),I v4,I v5,B v6,B v7,B v8])
 else
 some (0,[.view kPt v0,I v1,I v2,I (wrap .i64 (v3+1)),I v4,I v5,B v6,B v7,B v8])
 else
 none
 else
 some (2,[I v1]):=by kernel_rfl
theorem Znd (CN:Fn) (N2:Lp) (x0:Rw) (x1 x2 x3:Int) (x4 x5 x6:Bool) (x7 x8:Int):Wu CN N2 [.view kPt x0,I x1,I x2,I x3,B x4,B x5,B x6,I x7,I x8]=
 (N2 [.view kPt x0,I x7,I x8,I (mx x1 0),I x2,I x3,B x4,B x5,B x6]).bind fun o3=>
 bif o3.1.beq 1 then
 some [jA o3.2 0,jA o3.2 1]
 else
 bif o3.1.beq 2 then
 some [jA o3.2 0,I (-1)]
 else
 none:=by kernel_rfl
def Qxx:=An (Qx HV)
def Pq:=Wu HV Qxx
theorem Q0v:Aj PG (VR HV):=Ao rfl ⟨Q1i,trivial⟩
theorem Zv2:Al PG (158,Ac Y9 Qet Pq):=rw2 (C:=(Q5w HV Qxx)) (fl fb Q0v) Q0v
def ZG:Sk:=⟨[TS.v true ([CS.sl As]++cc 5),tf [ci]],[],[]⟩
def Qnu:Sk:=⟨[tf [ci]],[],[]⟩
def Zq7 (M:Fn):Nat×Spec:=(157,Ac ZG Qnu M)
def C_track_Where_0:Cfg:=cf []
def Q6v:Sk:=⟨[td,tf [ci]]++dd 11++[tf [CS.sl As],tf [ci],tf [ci]]++dd 28,[],[]⟩
def Q1s:List (Ex×Sk):=[(Ex.ret,⟨[td,td,td,td,tf [ci]]++dd 39,[],[]⟩),(Ex.exit 0,⟨[td]++dd 43,[],[]⟩)]
def PR:Lp:=A4 PG C_track_Where_0 64 4 (A0 PG 157 4) Q6v Q1s
def Quh (N4:Lp):Cfg:=C_track_Where_0.loop 4 Q6v Q1s N4
def Q3r (N4:Lp):Fn:=Am PG (Quh N4) 64 157 ZG Qnu
theorem Q2i (v0:Int) (v1:Rw) (v2 v3:Int):PR [I v0, .view As v1,I v2,I v3]=
 bif decide (v3<v2)then
 bif decide (0<=v3)&&decide (v3<(v1.length:Int))then
 bif gA (nth [] v1 v3.toNat) 3 !=0 then
 bif decide (0<=wrap .i64 (wrap .i64 (v0-gA (nth [] v1 v3.toNat) 2)*gA (nth [] v1 v3.toNat) 3))then
 bif decide (wrap .i64 (wrap .i64 (v0-gA (nth [] v1 v3.toNat) 2)*gA (nth [] v1 v3.toNat) 3)<=gA (nth [] v1 v3.toNat) 1)then
 some (1,[I (wrap .i64 (gA (nth [] v1 v3.toNat) 0+wrap .i64 (wrap .i64 (v0-gA (nth [] v1 v3.toNat) 2)*gA (nth [] v1 v3.toNat) 3)))])
 else
 some (0,[I v0, .view As v1,I v2,I (wrap .i64 (v3+1))])
 else
 some (0,[I v0, .view As v1,I v2,I (wrap .i64 (v3+1))])
 else
 some (0,[I v0, .view As v1,I v2,I (wrap .i64 (v3+1))])
 else
 none
 else
 some (2,[]):=by kernel_rfl
theorem Zo1 (N4:Lp) (x0:Rw) (x1 x2 x3 x4 x5 x6:Int):Q3r N4 [.view As x0,I x1,I x2,I x3,I x4,I x5,I x6]=
 bif x6==x2 then
 some [I 0]
 else
 (N4 [I x6, .view As x0,I (x0.length:Int),I 0]).bind fun o1=>
 bif o1.1.beq 1 then
 some [jA o1.2 0]
 else
 bif o1.1.beq 2 then
 some [I (-1)]
 else
 none:=by kernel_rfl
def K6:=An (PR)
def Mw:=Q3r K6
theorem Q4r:Aj PG (C_track_Where_0):=Ao rfl trivial
theorem Zli:Al PG (157,Ac ZG Qnu Mw):=rw2 (C:=(Quh K6)) (fl fb Q4r) Q4r
def Qbi:Sk:=⟨[tf [CS.ptr 20000 0]],[(20000,119,cS)],[]⟩
def Qai:Sk:=⟨[TS.tup [(false,[ci]),(false,[ci])]],[(20000,119,cS)],[]⟩
def Zbo (M:Fn):Nat×Spec:=(106,Ac Qbi Qai M)
def UT (HN Hi BZ DT:Fn):Cfg:=cf [Zyx HN,Zq7 Hi,RX BZ,Qqc DT]
def Qiv (HN Hi BZ DT:Fn):Fn:=Am PG (UT HN Hi BZ DT) 64 106 Qbi Qai
abbrev R5 (DT:Fn) (K:Kf) (c:Cv) (BZ Hi HN:Fn) (h1_0:AC):Option (List AC):=
 (DT [I K.pa,I K.pb,I K.pc,I c.m0,I c.m1,I c.m2,I c.m3,I c.m4,I c.m5]).bind fun o14=>
 (BZ (Bq K.t++[I (wrap .i64 ((wrap .i64 (wrap .i64 (gA o14 0+256)-1)).tdiv 256))])).bind fun o15=>
 (Hi (Bq K.t++[jA o15 0])).bind fun o16=>
 bif gA o16 0 !=wrap .i64 ((wrap .i64 (wrap .i64 (gA o14 0+256)-1)).tdiv 256)then
 (HN [.view kPt (K.p.aD.map Aq),I c.next,I c.o0,I c.o1,B c.o2,B c.o3,B c.o4,h1_0,I (wrap .i64 (gA o15 0+1))]).bind fun o17=>
 (Hi (Bq K.t++[jA o17 0])).bind fun o18=>
 some (jA o18 0::jA o17 1::Ad K c)
 else
 (HN [.view kPt (K.p.aD.map Aq),I c.next,I c.o0,I c.o1,B c.o2,B c.o3,B c.o4,h1_0,jA o15 0]).bind fun o19=>
 (Hi (Bq K.t++[jA o19 0])).bind fun o20=>
 some (jA o20 0::jA o19 1::Ad K c)
attribute [go_sem] R5
theorem Zld (HN Hi BZ DT:Fn) (K:Kf) (c:Cv):Qiv HN Hi BZ DT (Ad K c)=
 bif K.closed then
 R5 DT K c BZ Hi HN (I K.len)
 else
 R5 DT K c BZ Hi HN (I K.set):=by kernel_rfl
def Qf:=Qiv Pq Mw EI Fm
theorem Zr1:Aj PG (UT Pq Mw EI Fm):=Ao rfl ⟨Zv2,Zli,Su,Qou,trivial⟩
theorem Q7m:Al PG (106,Ac Qbi Qai Qf):=rw1 (C:=(UT Pq Mw EI Fm)) Zr1
def U4:Sk:=⟨[tf [CS.ptr 20000 0]],[(20000,119,cS)],[]⟩
def UU:Sk:=⟨[tf [ci]],[(20000,119,cS)],[]⟩
def Zoh (M:Fn):Nat×Spec:=(70,Ac U4 UU M)
def Qgf (IE Da Nv Og:Fn):Cfg:=cp [Zqe IE,XJ Da,Q88 Nv,Zbo Og] [109,108,107,106]
def XP (IE Da Nv Og:Fn):Fn:=Am PG (Qgf IE Da Nv Og) 64 70 U4 UU
theorem Zd5 (IE Da Nv Og:Fn) (K:Kf) (c:Cv):XP IE Da Nv Og (Ad K c)=
 (Og (Ad K c)).bind fun o7=>
 bif bA o7 90 then
 bif gA o7 52==wrap .i64 (gA o7 0*256)then
 bif decide (gA o7 1>=0)then
 (Nv (jA o7 1::cR 2 o7)).bind fun o8=>
 bif decide (0<=gA o7 1)&&decide (gA o7 1<(↑(wA o8 42).length:Int))then
 bif Af (nth .dead (nth [] (wA o8 42) (gA o7 1).toNat) 2)==gA o8 80 then
 bif decide (0<=Af (nth .dead (nth [] (wA o8 42) (gA o7 1).toNat) 2))&&decide (Af (nth .dead (nth [] (wA o8 42) (gA o7 1).toNat) 2)<(↑(wA o8 36).length:Int))then
 bif Af (nth .dead (nth [] (wA o8 36) (Af (nth .dead (nth [] (wA o8 42) (gA o7 1).toNat) 2)).toNat) 0)==5 then
 bif gA o8 83==1 then
 (Da (cR 1 o8)).bind fun o9=>
 some (jA o8 0::cR 0 o9)
 else
 some (jA o8 0::cR 1 o8)
 else
 some (jA o8 0::cR 1 o8)
 else
 none
 else
 some (jA o8 0::cR 1 o8)
 else
 none
 else
 bif bA o7 38 then
 some (I 7::DV (cR 2 o7) [(78,I 7)])
 else
 some (I 1::cR 2 o7)
 else
 bif gA o7 63 !=0 then
 (IE (jA o7 0::cR 2 o7)).bind fun o10=>
 bif bA o7 90 then
 some (I 6::cR 0 o10)
 else
 some (I 1::cR 0 o10)
 else
 (IE (jA o7 0::cR 2 o7)).bind fun o11=>
 some (I 1::cR 0 o11)
 else
 bif gA o7 63 !=0 then
 (IE (jA o7 0::cR 2 o7)).bind fun o12=>
 bif bA o7 90 then
 some (I 6::cR 0 o12)
 else
 some (I 1::cR 0 o12)
 else
 (IE (jA o7 0::cR 2 o7)).bind fun o13=>
 some (I 1::cR 0 o13):=by kernel_rfl
def KM:=XP ON GH Pu Qf
theorem Zp4:Aj PG (Qgf ON GH Pu Qf):=Ao rfl ⟨Zqp,VL,Zqj,Q7m,trivial⟩
theorem Q97:Al PG (70,Ac U4 UU KM):=rw1 (C:=(Qgf ON GH Pu Qf)) Zp4
def UV:Sk:=⟨[tf [ci]],[],[]⟩
def Wn:Sk:=⟨[TS.v true (cc 6)],[],[]⟩
def Qoe (M:Fn):Nat×Spec:=(59,Ac UV Wn M)
def XG:Cfg:=cf []
def Qkj:Fn:=Am PG XG 64 59 UV Wn
theorem Zzy (x0:Int):Qkj [I x0]=
 some [I (wrap .i64 (x0*256)),I 0,I 0,I (wrap .i64 (x0*256)),I (wrap .i64 (x0*256)),I (wrap .i64 (x0*256))]:=by kernel_rfl
def Jd:=Qkj
theorem Z1f:Aj PG (XG):=Ao rfl trivial
theorem Qwz:Al PG (59,Ac UV Wn Jd):=rw1 (C:=XG) Z1f
def Qbk:Sk:=⟨[TS.v true (cc 9++[CS.sl Aa]++cc 9++[CS.sl Aa]++cc 9++[CS.sl Aa]),TS.v true [ci,ci,ci],TS.v true [ci,ci,ci]],[],[]⟩
def Qbm:Sk:=⟨[tf [ci]],[],[]⟩
def Zg7 (M:Fn):Nat×Spec:=(95,Ac Qbk Qbm M)
def Qa6:Cfg:={cf []with unroll:=[3]}
def Q69:Fn:=Am PG Qa6 64 95 Qbk Qbm
theorem Zbh (x0 x1 x2 x3 x4 x5 x6 x7 x8:Int) (x9:Rw) (x10 x11 x12 x13 x14 x15 x16 x17 x18:Int) (x19:Rw) (x20 x21 x22 x23 x24 x25 x26 x27 x28:Int) (x29:Rw) (x30 x31 x32 x33 x34 x35:Int):Q69 [I x0,I x1,I x2,I x3,I x4,I x5,I x6,I x7,I x8, .view Aa x9,I x10,I x11,I x12,I x13,I x14,I x15,I x16,I x17,I x18, .view Aa x19,I x20,I x21,I x22,I x23,I x24,I x25,I x26,I x27,I x28, .view Aa x29,I x30,I x31,I x32,I x33,I x34,I x35]=
 bif x30 !=x33 then
 bif x31 !=x34 then
 bif x32 !=x35 then
 some [I (mx (mx (mx 0 x6) x16) x26)]
 else
 some [I (mx (mx 0 x6) x16)]
 else
 bif x32 !=x35 then
 some [I (mx (mx 0 x6) x26)]
 else
 some [I (mx 0 x6)]
 else
 bif x31 !=x34 then
 bif x32 !=x35 then
 some [I (mx (mx 0 x16) x26)]
 else
 some [I (mx 0 x16)]
 else
 bif x32 !=x35 then
 some [I (mx 0 x26)]
 else
 some [I 0]:=by kernel_rfl
def NM:=Q69
theorem Znx:Aj PG (Qa6):=Ao rfl trivial
theorem Zu6:Al PG (95,Ac Qbk Qbm NM):=rw1 (C:=Qa6) Znx
def VZ:Sk:=⟨[TS.v true [ci,ci,ci],TS.v true [ci,ci,ci],TS.v true [ci,ci,ci],tf [ci]],[],[]⟩
def Qdl:Sk:=⟨[TS.v true [ci,ci,ci]],[],[]⟩
def Zuu (M:Fn):Nat×Spec:=(94,Ac VZ Qdl M)
def Us:Cfg:={cf []with unroll:=[2]}
def Q1a:Fn:=Am PG Us 64 94 VZ Qdl
abbrev Rg (x8 x5:Int) (h1_0:AC) (x9 x2:Int) (h2_0:AC):Option (List AC):=
 bif decide (x8>x5)then
 some [h1_0,h2_0,I x9]
 else
 bif decide (x8<x5)then
 some [h1_0,h2_0,I (wrap .i64 (0-x9))]
 else
 some [h1_0,h2_0,I x2]
attribute [go_sem] Rg
abbrev Tr (x7 x4 x8 x5 x9 x2 x1:Int) (h1_0:AC):Option (List AC):=
 bif decide (x7>x4)then
 Rg x8 x5 h1_0 x9 x2 (I x9)
 else
 bif decide (x7<x4)then
 Rg x8 x5 h1_0 x9 x2 (I (wrap .i64 (0-x9)))
 else
 Rg x8 x5 h1_0 x9 x2 (I x1)
attribute [go_sem] Tr
theorem Zjp (x0 x1 x2 x3 x4 x5 x6 x7 x8 x9:Int):Q1a [I x0,I x1,I x2,I x3,I x4,I x5,I x6,I x7,I x8,I x9]=
 bif decide (x6>x3)then
 Tr x7 x4 x8 x5 x9 x2 x1 (I x9)
 else
 bif decide (x6<x3)then
 Tr x7 x4 x8 x5 x9 x2 x1 (I (wrap .i64 (0-x9)))
 else
 Tr x7 x4 x8 x5 x9 x2 x1 (I x0):=by kernel_rfl
def NQ:=Q1a
theorem Zmv:Aj PG (Us):=Ao rfl trivial
theorem Zuc:Al PG (94,Ac VZ Qdl NQ):=rw1 (C:=Us) Zmv
def Qke:Sk:=⟨[TS.v true (cc 10),tf [CS.ptr 20000 0]],[(20000,62,[CS.own 20000 10]++cc 5)],[(20000,135,As)]⟩
def Qlg:Sk:=⟨[TS.tup []],[(20000,62,[CS.own 20000 10]++cc 5)],[(20000,135,As)]⟩
def Q2p (M:Fn):Nat×Spec:=(92,Ac Qke Qlg M)
def Vu:Cfg:=cf []
def Wb:Fn:=Am PG Vu 64 92 Qke Qlg
theorem Q0t (x0:Rw) (x1 x2 x3 x4 x5 x6 x7 x8 x9 x10 x11 x12 x13 x14 x15:Int):Wb [.view As x0,I x1,I x2,I x3,I x4,I x5,I x6,I x7,I x8,I x9,I x10,I x11,I x12,I x13,I x14,I x15]=
 bif decide ((x0.length:Int)>0)then
 bif x4 !=0 then
 bif decide (0<=wrap .i64 ((x0.length:Int)-1))&&decide (wrap .i64 ((x0.length:Int)-1)<(x0.length:Int))then
 bif gA (nth [] x0 (wrap .i64 ((x0.length:Int)-1)).toNat) 3==x4 then
 bif decide (0<=wrap .i64 ((x0.length:Int)-1))&&decide (wrap .i64 ((x0.length:Int)-1)<(x0.length:Int))then
 bif gA (nth [] x0 (wrap .i64 ((x0.length:Int)-1)).toNat) 7==x8&&(gA (nth [] x0 (wrap .i64 ((x0.length:Int)-1)).toNat) 8==x9&&(gA (nth [] x0 (wrap .i64 ((x0.length:Int)-1)).toNat) 9==x10&&true))then
 bif decide (0<=wrap .i64 ((x0.length:Int)-1))&&decide (wrap .i64 ((x0.length:Int)-1)<(x0.length:Int))then
 bif decide (0<=wrap .i64 ((x0.length:Int)-1))&&decide (wrap .i64 ((x0.length:Int)-1)<(x0.length:Int))then
 some [.view As (x0.set (wrap .i64 ((x0.length:Int)-1)).toNat [jA (nth [] x0 (wrap .i64 ((x0.length:Int)-1)).toNat) 0,I (wrap .i64 (gA (nth [] x0 (wrap .i64 ((x0.length:Int)-1)).toNat) 1+x2)),jA (nth [] x0 (wrap .i64 ((x0.length:Int)-1)).toNat) 2,jA (nth [] x0 (wrap .i64 ((x0.length:Int)-1)).toNat) 3,jA (nth [] x0 (wrap .i64 ((x0.length:Int)-1)).toNat) 4,jA (nth [] x0 (wrap .i64 ((x0.length:Int)-1)).toNat) 5,jA (nth [] x0 (wrap .i64 ((x0.length:Int)-1)).toNat) 6,jA (nth [] x0 (wrap .i64 ((x0.length:Int)-1)).toNat) 7,jA (nth [] x0 (wrap .i64 ((x0.length:Int)-1)).toNat) 8,jA (nth [] x0 (wrap .i64 ((x0.length:Int)-1)).toNat) 9]),I (wrap .i64 (x11+x2)),I x12,I x13,I x14,I x15]
 else
 none
 else
 none
 else
 bif((x0++[[I x11,I x2,I x3,I x4,I x5,I x6,I x7,I x8,I x9,I x10]]).length*80).ble 140737488355328 then
 some [.view As (x0++[[I x11,I x2,I x3,I x4,I x5,I x6,I x7,I x8,I x9,I x10]]),I (wrap .i64 (x11+x2)),I x12,I x13,I x14,I x15]
 else
 none
 else
 none
 else
 bif((x0++[[I x11,I x2,I x3,I x4,I x5,I x6,I x7,I x8,I x9,I x10]]).length*80).ble 140737488355328 then
 some [.view As (x0++[[I x11,I x2,I x3,I x4,I x5,I x6,I x7,I x8,I x9,I x10]]),I (wrap .i64 (x11+x2)),I x12,I x13,I x14,I x15]
 else
 none
 else
 none
 else
 bif((x0++[[I x11,I x2,I x3,I x4,I x5,I x6,I x7,I x8,I x9,I x10]]).length*80).ble 140737488355328 then
 some [.view As (x0++[[I x11,I x2,I x3,I x4,I x5,I x6,I x7,I x8,I x9,I x10]]),I (wrap .i64 (x11+x2)),I x12,I x13,I x14,I x15]
 else
 none
 else
 bif((x0++[[I x11,I x2,I x3,I x4,I x5,I x6,I x7,I x8,I x9,I x10]]).length*80).ble 140737488355328 then
 some [.view As (x0++[[I x11,I x2,I x3,I x4,I x5,I x6,I x7,I x8,I x9,I x10]]),I (wrap .i64 (x11+x2)),I x12,I x13,I x14,I x15]
 else
 none:=by kernel_rfl
def Kw:=Wb
theorem Q7q:Aj PG (Vu):=Ao rfl trivial
theorem Qse:Al PG (92,Ac Qke Qlg Kw):=rw1 (C:=Vu) Q7q
def Qmn:Sk:=⟨[TS.v true [ci,ci,ci],TS.v true [ci,ci,ci],tf [ci],tf [ci],tf [CS.ptr 20000 0],tf [CS.ptr 20001 0],tf [CS.ptr 20002 0],tf [CS.ptr 20003 0]],[(20000,44,[ci,ci,ci]),(20001,3,[ci]),(20002,27,cc 9++[CS.sl Aa]++cc 9++[CS.sl Aa]++cc 9++[CS.sl Aa]),(20003,153,[CS.clo 92 [] [(20004,0)]]),(20004,62,[CS.own 20000 10]++cc 5)],[(20000,135,As)]⟩
def Xq:Sk:=⟨[TS.tup []],[(20000,44,[ci,ci,ci]),(20001,3,[ci]),(20002,27,cc 9++[CS.sl Aa]++cc 9++[CS.sl Aa]++cc 9++[CS.sl Aa]),(20003,153,[CS.clo 92 [] [(20004,0)]]),(20004,62,[CS.own 20000 10]++cc 5)],[(20000,135,As)]⟩
def Q07 (M:Fn):Nat×Spec:=(93,Ac Qmn Xq M)
def X0 (NC MY FC:Fn):Cfg:=cp [Zg7 NC,Zuu MY,Q2p FC] [92]
def U2 (NC MY FC:Fn):Fn:=Am PG (X0 NC MY FC) 64 93 Qmn Xq
theorem Zk9 (NC MY FC:Fn) (x0:Rw) (x1 x2 x3 x4 x5 x6 x7 x8 x9 x10 x11 x12 x13 x14 x15 x16 x17 x18 x19 x20 x21:Int) (x22:Rw) (x23 x24 x25 x26 x27 x28 x29 x30 x31:Int) (x32:Rw) (x33 x34 x35 x36 x37 x38 x39 x40 x41:Int) (x42:Rw) (x43 x44 x45 x46 x47:Int):U2 NC MY FC [.view As x0,I x1,I x2,I x3,I x4,I x5,I x6,I x7,I x8,I x9,I x10,I x11,I x12,I x13,I x14,I x15,I x16,I x17,I x18,I x19,I x20,I x21, .view Aa x22,I x23,I x24,I x25,I x26,I x27,I x28,I x29,I x30,I x31, .view Aa x32,I x33,I x34,I x35,I x36,I x37,I x38,I x39,I x40,I x41, .view Aa x42,I x43,I x44,I x45,I x46,I x47]=
 (MY [I x9,I x10,I x11,I x1,I x2,I x3,I x4,I x5,I x6,I x12]).bind fun o5=>
 (NC [I x13,I x14,I x15,I x16,I x17,I x18,I x19,I x20,I x21, .view Aa x22,I x23,I x24,I x25,I x26,I x27,I x28,I x29,I x30,I x31, .view Aa x32,I x33,I x34,I x35,I x36,I x37,I x38,I x39,I x40,I x41, .view Aa x42,I x9,I x10,I x11,jA o5 0,jA o5 1,jA o5 2]).bind fun o6=>
 bif decide (gA o6 0>0)then
 (FC [.view As x0,I 0,jA o6 0,I x7,I 0,I x9,I x10,I x11,jA o5 0,jA o5 1,jA o5 2,I x43,I x44,I x45,I x46,I x47]).bind fun o7=>
 (FC [.view As (wA o7 0),I 0,I x8,I x7,I x12,jA o5 0,jA o5 1,jA o5 2,jA o5 0,jA o5 1,jA o5 2,jA o7 1,jA o7 2,jA o7 3,jA o7 4,jA o7 5]).bind fun o8=>
 some [.view As (wA o8 0),jA o5 0,jA o5 1,jA o5 2,I x12,I x13,I x14,I x15,I x16,I x17,I x18,I x19,I x20,I x21, .view Aa x22,I x23,I x24,I x25,I x26,I x27,I x28,I x29,I x30,I x31, .view Aa x32,I x33,I x34,I x35,I x36,I x37,I x38,I x39,I x40,I x41, .view Aa x42,jA o8 1,jA o8 2,jA o8 3,jA o8 4,jA o8 5]
 else
 (FC [.view As x0,I 0,I x8,I x7,I x12,jA o5 0,jA o5 1,jA o5 2,jA o5 0,jA o5 1,jA o5 2,I x43,I x44,I x45,I x46,I x47]).bind fun o9=>
 some [.view As (wA o9 0),jA o5 0,jA o5 1,jA o5 2,I x12,I x13,I x14,I x15,I x16,I x17,I x18,I x19,I x20,I x21, .view Aa x22,I x23,I x24,I x25,I x26,I x27,I x28,I x29,I x30,I x31, .view Aa x32,I x33,I x34,I x35,I x36,I x37,I x38,I x39,I x40,I x41, .view Aa x42,jA o9 1,jA o9 2,jA o9 3,jA o9 4,jA o9 5]:=by kernel_rfl
def FK:=U2 NM NQ Kw
theorem Zi8:Aj PG (X0 NM NQ Kw):=Ao rfl ⟨Zu6,Zuc,Qse,trivial⟩
theorem Qpq:Al PG (93,Ac Qmn Xq FK):=rw1 (C:=(X0 NM NQ Kw)) Zi8
def Qi1:Sk:=⟨[TS.v true [ci,ci,ci,CS.sl Ah,CS.sl kPt],tf [ci],tf [ci],tf [ci],tf [CS.clo 93 [] [(20000,0),(20001,0),(20002,0),(20003,0)]]],[(20000,44,[ci,ci,ci]),(20001,3,[ci]),(20002,27,cc 9++[CS.sl Aa]++cc 9++[CS.sl Aa]++cc 9++[CS.sl Aa]),(20003,153,[CS.clo 92 [] [(20004,0)]]),(20004,62,[CS.own 20000 10]++cc 5)],[(20000,135,As)]⟩
def Qct:Sk:=⟨[TS.tup []],[(20000,44,[ci,ci,ci]),(20001,3,[ci]),(20002,27,cc 9++[CS.sl Aa]++cc 9++[CS.sl Aa]++cc 9++[CS.sl Aa]),(20003,153,[CS.clo 92 [] [(20004,0)]]),(20004,62,[CS.own 20000 10]++cc 5)],[(20000,135,As)]⟩
def Zdk (M:Fn):Nat×Spec:=(96,Ac Qi1 Qct M)
def Qe8 (BN:Fn):Cfg:={cp [Q07 BN] [93]with prom:=fun b=>bif Nat.beq b 4 then [(11,3)]else []}
def Q62:Sk:=⟨[td,tf [ci],tf [ci],tf [ci],tf [CS.clo 93 [] [(20000,0),(20001,0),(20002,0),(20003,0)]],tf [CS.ptr 5 0],td,td,td,td,tf [ci],tf [CS.own 11 1]]++dd 9++[tf [CS.sl Ah],tf [ci],tf [ci]]++dd 78,[(5,58,[ci,ci,ci,CS.sl Ah,CS.sl kPt]),(20000,44,[ci,ci,ci]),(20001,3,[ci]),(20002,27,cc 9++[CS.sl Aa]++cc 9++[CS.sl Aa]++cc 9++[CS.sl Aa]),(20003,153,[CS.clo 92 [] [(20004,0)]]),(20004,62,[CS.own 20000 10]++cc 5)],[(11,3,Aa),(20000,135,As)]⟩
def Qze:List (Ex×Sk):=[(Ex.exit 0,⟨[td,tf [ci],tf [ci],tf [ci],tf [CS.clo 93 [] [(20000,0),(20001,0),(20002,0),(20003,0)]],tf [CS.ptr 5 0],td,td,td,td,td,tf [CS.own 11 1]]++dd 90,[(5,58,[ci,ci,ci,CS.sl Ah,CS.sl kPt]),(20000,44,[ci,ci,ci]),(20001,3,[ci]),(20002,27,cc 9++[CS.sl Aa]++cc 9++[CS.sl Aa]++cc 9++[CS.sl Aa]),(20003,153,[CS.clo 92 [] [(20004,0)]]),(20004,62,[CS.own 20000 10]++cc 5)],[(11,3,Aa),(20000,135,As)]⟩)]
def Ta (BN:Fn):Lp:=A4 PG (Qe8 BN) 64 4 (A0 PG 96 4) Q62 Qze
def Qt2 (BN:Fn) (N4:Lp):Cfg:=(Qe8 BN).loop 4 Q62 Qze N4
def Qtw:Sk:=⟨[td,tf [ci],tf [ci],tf [ci],tf [CS.clo 93 [] [(20000,0),(20001,0),(20002,0),(20003,0)]],tf [CS.ptr 5 0],td,td,td,td,td,tf [CS.own 11 1]]++dd 26++[tf [ci],tf [ci]]++dd 62,[(5,58,[ci,ci,ci,CS.sl Ah,CS.sl kPt]),(20000,44,[ci,ci,ci]),(20001,3,[ci]),(20002,27,cc 9++[CS.sl Aa]++cc 9++[CS.sl Aa]++cc 9++[CS.sl Aa]),(20003,153,[CS.clo 92 [] [(20004,0)]]),(20004,62,[CS.own 20000 10]++cc 5)],[(11,3,Aa),(20000,135,As)]⟩
def Q6l:List (Ex×Sk):=[(Ex.exit 2,⟨[td]++dd 101,[(20000,44,[ci,ci,ci]),(20001,3,[ci]),(20002,27,cc 9++[CS.sl Aa]++cc 9++[CS.sl Aa]++cc 9++[CS.sl Aa]),(20003,153,[CS.clo 92 [] [(20004,0)]]),(20004,62,[CS.own 20000 10]++cc 5)],[(20000,135,As)]⟩)]
def R1 (BN:Fn) (N4:Lp):Lp:=A4 PG (Qt2 BN N4) 64 10 (A0 PG 96 10) Qtw Q6l
def Qxz (BN:Fn) (N4 N10:Lp):Cfg:=(Qt2 BN N4).loop 10 Qtw Q6l N10
def Qaj (BN:Fn) (N4 N10:Lp):Fn:=Am PG (Qxz BN N4 N10) 64 96 Qi1 Qct
theorem Qxd (BN:Fn) (v0 v1:Rw) (v2 v3 v4 v5:Int) (v6:Rw) (v7 v8 v9 v10 v11:Int) (v12 v13:Rw) (v14 v15 v16 v17 v18 v19 v20 v21 v22 v23 v24 v25 v26:Int) (v27:Rw) (v28 v29 v30 v31 v32 v33 v34 v35 v36:Int) (v37:Rw) (v38 v39 v40 v41 v42 v43 v44 v45 v46:Int) (v47:Rw) (v48 v49 v50 v51 v52:Int):Ta BN [.view Aa v0, .view As v1,I v2,I v3,I v4,I v5, .view Ah v6,I v7,I v8,I v9,I v10,I v11, .view Ah v12, .view kPt v13,I v14,I v15,I v16,I v17,I v18,I v19,I v20,I v21,I v22,I v23,I v24,I v25,I v26, .view Aa v27,I v28,I v29,I v30,I v31,I v32,I v33,I v34,I v35,I v36, .view Aa v37,I v38,I v39,I v40,I v41,I v42,I v43,I v44,I v45,I v46, .view Aa v47,I v48,I v49,I v50,I v51,I v52]=
 bif decide (v8<v7)then
 bif decide (0<=v8)&&decide (v8<(v6.length:Int))then
 bif((v0++[[I v5]]).length*8).ble 140737488355328 then
 some (0,[.view Aa (v0++[[I v5]]), .view As v1,I v2,I v3,I v4,I (wrap .i64 (v5+gA (nth [] v6 v8.toNat) 3)), .view Ah v6,I v7,I (wrap .i64 (v8+1)),I v9,I v10,I v11, .view Ah v12, .view kPt v13,I v14,I v15,I v16,I v17,I v18,I v19,I v20,I v21,I v22,I v23,I v24,I v25,I v26, .view Aa v27,I v28,I v29,I v30,I v31,I v32,I v33,I v34,I v35,I v36, .view Aa v37,I v38,I v39,I v40,I v41,I v42,I v43,I v44,I v45,I v46, .view Aa v47,I v48,I v49,I v50,I v51,I v52])
 else
 none
 else
 none
 else
 some (1,[.view Aa v0, .view As v1,I v2,I v3,I v4,I v9,I v10,I v11, .view Ah v12, .view kPt v13,I v14,I v15,I v16,I v17,I v18,I v19,I v20,I v21,I v22,I v23,I v24,I v25,I v26, .view Aa v27,I v28,I v29,I v30,I v31,I v32,I v33,I v34,I v35,I v36, .view Aa v37,I v38,I v39,I v40,I v41,I v42,I v43,I v44,I v45,I v46, .view Aa v47,I v48,I v49,I v50,I v51,I v52]):=by kernel_rfl
abbrev OT (h1_1:Bool) (BN:Fn) (v1:Rw) (h1_8 h1_9 h1_10 h1_12:AC) (v12 v13 v14 v15 v16 v17 v18 v19 v20 v21 v22 v23 v24:Int) (v25:Rw) (v26 v27 v28 v29 v30 v31 v32 v33 v34:Int) (v35:Rw) (v36 v37 v38 v39 v40 v41 v42 v43 v44:Int) (v45:Rw) (v46 v47 v48 v49 v50:Int) (v0:Rw) (v2 v3 v4 v5 v6 v7 v8 v9:Int) (v10 v11:Rw) (h2_0 h2_1 h2_2 h2_3:AC):Option (Nat×List AC):=
 bif h1_1 then
 (BN [.view As v1,h2_0,h2_1,h2_2,h1_8,h1_9,h1_10,h2_3,h1_12,I v12,I v13,I v14,I v15,I v16,I v17,I v18,I v19,I v20,I v21,I v22,I v23,I v24, .view Aa v25,I v26,I v27,I v28,I v29,I v30,I v31,I v32,I v33,I v34, .view Aa v35,I v36,I v37,I v38,I v39,I v40,I v41,I v42,I v43,I v44, .view Aa v45,I v46,I v47,I v48,I v49,I v50]).bind fun o11=>
 some (0,[.view Aa v0, .view As (wA o11 0),I v2,I v3,I v4,I v5,I (wrap .i64 (v6+1)),I v7,I v8,I v9, .view Ah v10, .view kPt v11,jA o11 1,jA o11 2,jA o11 3,jA o11 4,jA o11 5,jA o11 6,jA o11 7,jA o11 8,jA o11 9,jA o11 10,jA o11 11,jA o11 12,jA o11 13, .view Aa (wA o11 14),jA o11 15,jA o11 16,jA o11 17,jA o11 18,jA o11 19,jA o11 20,jA o11 21,jA o11 22,jA o11 23, .view Aa (wA o11 24),jA o11 25,jA o11 26,jA o11 27,jA o11 28,jA o11 29,jA o11 30,jA o11 31,jA o11 32,jA o11 33, .view Aa (wA o11 34),jA o11 35,jA o11 36,jA o11 37,jA o11 38,jA o11 39])
 else
 none
attribute [go_sem] OT
abbrev VT (v0 v1:Rw) (v2 v3 v4 v5 v6 v7 v8 v9:Int) (v10 v11:Rw) (v12 v13 v14 v15 v16 v17 v18 v19 v20 v21 v22 v23 v24:Int) (v25:Rw) (v26 v27 v28 v29 v30 v31 v32 v33 v34:Int) (v35:Rw) (v36 v37 v38 v39 v40 v41 v42 v43 v44:Int) (v45:Rw) (v46 v47 v48 v49 v50:Int) (BN:Fn) (h1_0 h1_1 h1_2 h1_3 h1_4:Bool) (h1_5 h1_6 h1_7 h1_8 h1_9 h1_10 h1_11 h1_12 h1_13:AC):Option (Nat×List AC):=
 bif h1_0 then
 bif h1_0 then
 bif h1_1 then
 bif h1_2 then
 some (0,[.view Aa v0, .view As v1,I v2,I v3,I v4,I v5,I (wrap .i64 (v6+1)),I v7,I v8,I v9, .view Ah v10, .view kPt v11,I v12,I v13,I v14,I v15,I v16,I v17,I v18,I v19,I v20,I v21,I v22,I v23,I v24, .view Aa v25,I v26,I v27,I v28,I v29,I v30,I v31,I v32,I v33,I v34, .view Aa v35,I v36,I v37,I v38,I v39,I v40,I v41,I v42,I v43,I v44, .view Aa v45,I v46,I v47,I v48,I v49,I v50])
 else
 bif h1_3 then
 bif h1_4 then
 bif decide (v4<0)then
 OT h1_1 BN v1 h1_8 h1_9 h1_10 h1_12 v12 v13 v14 v15 v16 v17 v18 v19 v20 v21 v22 v23 v24 v25 v26 v27 v28 v29 v30 v31 v32 v33 v34 v35 v36 v37 v38 v39 v40 v41 v42 v43 v44 v45 v46 v47 v48 v49 v50 v0 v2 v3 v4 v5 v6 v7 v8 v9 v10 v11 h1_5 h1_6 h1_7 h1_11
 else
 OT h1_1 BN v1 h1_8 h1_9 h1_10 h1_12 v12 v13 v14 v15 v16 v17 v18 v19 v20 v21 v22 v23 v24 v25 v26 v27 v28 v29 v30 v31 v32 v33 v34 v35 v36 v37 v38 v39 v40 v41 v42 v43 v44 v45 v46 v47 v48 v49 v50 v0 v2 v3 v4 v5 v6 v7 v8 v9 v10 v11 h1_5 h1_6 h1_7 h1_13
 else
 none
 else
 bif decide (v4<0)then
 OT h1_1 BN v1 h1_8 h1_9 h1_10 h1_12 v12 v13 v14 v15 v16 v17 v18 v19 v20 v21 v22 v23 v24 v25 v26 v27 v28 v29 v30 v31 v32 v33 v34 v35 v36 v37 v38 v39 v40 v41 v42 v43 v44 v45 v46 v47 v48 v49 v50 v0 v2 v3 v4 v5 v6 v7 v8 v9 v10 v11 (I v7) (I v8) (I v9) h1_11
 else
 OT h1_1 BN v1 h1_8 h1_9 h1_10 h1_12 v12 v13 v14 v15 v16 v17 v18 v19 v20 v21 v22 v23 v24 v25 v26 v27 v28 v29 v30 v31 v32 v33 v34 v35 v36 v37 v38 v39 v40 v41 v42 v43 v44 v45 v46 v47 v48 v49 v50 v0 v2 v3 v4 v5 v6 v7 v8 v9 v10 v11 (I v7) (I v8) (I v9) h1_13
 else
 none
 else
 none
 else
 none
attribute [go_sem] VT
theorem Q29 (BN:Fn) (N4:Lp) (v0 v1:Rw) (v2 v3 v4 v5 v6 v7 v8 v9:Int) (v10 v11:Rw) (v12 v13 v14 v15 v16 v17 v18 v19 v20 v21 v22 v23 v24:Int) (v25:Rw) (v26 v27 v28 v29 v30 v31 v32 v33 v34:Int) (v35:Rw) (v36 v37 v38 v39 v40 v41 v42 v43 v44:Int) (v45:Rw) (v46 v47 v48 v49 v50:Int):R1 BN N4 [.view Aa v0, .view As v1,I v2,I v3,I v4,I v5,I v6,I v7,I v8,I v9, .view Ah v10, .view kPt v11,I v12,I v13,I v14,I v15,I v16,I v17,I v18,I v19,I v20,I v21,I v22,I v23,I v24, .view Aa v25,I v26,I v27,I v28,I v29,I v30,I v31,I v32,I v33,I v34, .view Aa v35,I v36,I v37,I v38,I v39,I v40,I v41,I v42,I v43,I v44, .view Aa v45,I v46,I v47,I v48,I v49,I v50]=
 bif decide (v6<v5)then
 bif decide (v4<0)then
 VT v0 v1 v2 v3 v4 v5 v6 v7 v8 v9 v10 v11 v12 v13 v14 v15 v16 v17 v18 v19 v20 v21 v22 v23 v24 v25 v26 v27 v28 v29 v30 v31 v32 v33 v34 v35 v36 v37 v38 v39 v40 v41 v42 v43 v44 v45 v46 v47 v48 v49 v50 BN (decide (0<=wrap .i64 (wrap .i64 ((v10.length:Int)-1)-v6))&&decide (wrap .i64 (wrap .i64 ((v10.length:Int)-1)-v6)<(v0.length:Int))) (decide (0<=wrap .i64 (wrap .i64 ((v10.length:Int)-1)-v6))&&decide (wrap .i64 (wrap .i64 ((v10.length:Int)-1)-v6)<(v10.length:Int))) (decide (mx (Af (nth .dead (nth [] v0 (wrap .i64 (wrap .i64 ((v10.length:Int)-1)-v6)).toNat) 0)) v2>=mn (wrap .i64 (Af (nth .dead (nth [] v0 (wrap .i64 (wrap .i64 ((v10.length:Int)-1)-v6)).toNat) 0)+Af (nth .dead (nth [] v10 (wrap .i64 (wrap .i64 ((v10.length:Int)-1)-v6)).toNat) 3))) v3)) (decide (wrap .i64 (wrap .i64 ((v10.length:Int)-1)-v6)>0)) (decide (0<=wrap .i64 (wrap .i64 (wrap .i64 ((v10.length:Int)-1)-v6)-1))&&decide (wrap .i64 (wrap .i64 (wrap .i64 ((v10.length:Int)-1)-v6)-1)<(v10.length:Int))) (I (Af (nth .dead (nth [] v10 (wrap .i64 (wrap .i64 (wrap .i64 ((v10.length:Int)-1)-v6)-1)).toNat) 0))) (I (Af (nth .dead (nth [] v10 (wrap .i64 (wrap .i64 (wrap .i64 ((v10.length:Int)-1)-v6)-1)).toNat) 1))) (I (Af (nth .dead (nth [] v10 (wrap .i64 (wrap .i64 (wrap .i64 ((v10.length:Int)-1)-v6)-1)).toNat) 2))) (I (Af (nth .dead (nth [] v10 (wrap .i64 (wrap .i64 ((v10.length:Int)-1)-v6)).toNat) 0))) (I (Af (nth .dead (nth [] v10 (wrap .i64 (wrap .i64 ((v10.length:Int)-1)-v6)).toNat) 1))) (I (Af (nth .dead (nth [] v10 (wrap .i64 (wrap .i64 ((v10.length:Int)-1)-v6)).toNat) 2))) (I (mn (wrap .i64 (Af (nth .dead (nth [] v0 (wrap .i64 (wrap .i64 ((v10.length:Int)-1)-v6)).toNat) 0)+Af (nth .dead (nth [] v10 (wrap .i64 (wrap .i64 ((v10.length:Int)-1)-v6)).toNat) 3))) v3)) (I (wrap .i64 (mn (wrap .i64 (Af (nth .dead (nth [] v0 (wrap .i64 (wrap .i64 ((v10.length:Int)-1)-v6)).toNat) 0)+Af (nth .dead (nth [] v10 (wrap .i64 (wrap .i64 ((v10.length:Int)-1)-v6)).toNat) 3))) v3-mx (Af (nth .dead (nth [] v0 (wrap .i64 (wrap .i64 ((v10.length:Int)-1)-v6)).toNat) 0)) v2))) (I (mx (Af (nth .dead (nth [] v0 (wrap .i64 (wrap .i64 ((v10.length:Int)-1)-v6)).toNat) 0)) v2))
 else
 VT v0 v1 v2 v3 v4 v5 v6 v7 v8 v9 v10 v11 v12 v13 v14 v15 v16 v17 v18 v19 v20 v21 v22 v23 v24 v25 v26 v27 v28 v29 v30 v31 v32 v33 v34 v35 v36 v37 v38 v39 v40 v41 v42 v43 v44 v45 v46 v47 v48 v49 v50 BN (decide (0<=v6)&&decide (v6<(v0.length:Int))) (decide (0<=v6)&&decide (v6<(v10.length:Int))) (decide (mx (gA (nth [] v0 v6.toNat) 0) v2>=mn (wrap .i64 (gA (nth [] v0 v6.toNat) 0+gA (nth [] v10 v6.toNat) 3)) v3)) (decide (v6>0)) (decide (0<=wrap .i64 (v6-1))&&decide (wrap .i64 (v6-1)<(v10.length:Int))) (jA (nth [] v10 (wrap .i64 (v6-1)).toNat) 0) (jA (nth [] v10 (wrap .i64 (v6-1)).toNat) 1) (jA (nth [] v10 (wrap .i64 (v6-1)).toNat) 2) (jA (nth [] v10 v6.toNat) 0) (jA (nth [] v10 v6.toNat) 1) (jA (nth [] v10 v6.toNat) 2) (I (mn (wrap .i64 (gA (nth [] v0 v6.toNat) 0+gA (nth [] v10 v6.toNat) 3)) v3)) (I (wrap .i64 (mn (wrap .i64 (gA (nth [] v0 v6.toNat) 0+gA (nth [] v10 v6.toNat) 3)) v3-mx (gA (nth [] v0 v6.toNat) 0) v2))) (I (mx (gA (nth [] v0 v6.toNat) 0) v2))
 else
 some (1,[.view As v1,I v12,I v13,I v14,I v15,I v16,I v17,I v18,I v19,I v20,I v21,I v22,I v23,I v24, .view Aa v25,I v26,I v27,I v28,I v29,I v30,I v31,I v32,I v33,I v34, .view Aa v35,I v36,I v37,I v38,I v39,I v40,I v41,I v42,I v43,I v44, .view Aa v45,I v46,I v47,I v48,I v49,I v50]):=by kernel_rfl
theorem Zpw (BN:Fn) (N4 N10:Lp) (x0:Rw) (x1 x2 x3:Int) (x4 x5:Rw) (x6 x7 x8 x9 x10 x11 x12 x13 x14 x15 x16 x17 x18 x19 x20 x21:Int) (x22:Rw) (x23 x24 x25 x26 x27 x28 x29 x30 x31:Int) (x32:Rw) (x33 x34 x35 x36 x37 x38 x39 x40 x41:Int) (x42:Rw) (x43 x44 x45 x46 x47:Int):Qaj BN N4 N10 [.view As x0,I x1,I x2,I x3, .view Ah x4, .view kPt x5,I x6,I x7,I x8,I x9,I x10,I x11,I x12,I x13,I x14,I x15,I x16,I x17,I x18,I x19,I x20,I x21, .view Aa x22,I x23,I x24,I x25,I x26,I x27,I x28,I x29,I x30,I x31, .view Aa x32,I x33,I x34,I x35,I x36,I x37,I x38,I x39,I x40,I x41, .view Aa x42,I x43,I x44,I x45,I x46,I x47]=
 (N4 [.view Aa [], .view As x0,I x6,I x7,I x8,I 0, .view Ah x4,I (x4.length:Int),I 0,I x1,I x2,I x3, .view Ah x4, .view kPt x5,I x9,I x10,I x11,I x12,I x13,I x14,I x15,I x16,I x17,I x18,I x19,I x20,I x21, .view Aa x22,I x23,I x24,I x25,I x26,I x27,I x28,I x29,I x30,I x31, .view Aa x32,I x33,I x34,I x35,I x36,I x37,I x38,I x39,I x40,I x41, .view Aa x42,I x43,I x44,I x45,I x46,I x47]).bind fun o19=>
 bif o19.1.beq 1 then
 (N10 [.view Aa (wA o19.2 0), .view As (wA o19.2 1),jA o19.2 2,jA o19.2 3,jA o19.2 4,I (↑(wA o19.2 8).length:Int),I 0,jA o19.2 5,jA o19.2 6,jA o19.2 7, .view Ah (wA o19.2 8), .view kPt (wA o19.2 9),jA o19.2 10,jA o19.2 11,jA o19.2 12,jA o19.2 13,jA o19.2 14,jA o19.2 15,jA o19.2 16,jA o19.2 17,jA o19.2 18,jA o19.2 19,jA o19.2 20,jA o19.2 21,jA o19.2 22, .view Aa (wA o19.2 23),jA o19.2 24,jA o19.2 25,jA o19.2 26,jA o19.2 27,jA o19.2 28,jA o19.2 29,jA o19.2 30,jA o19.2 31,jA o19.2 32, .view Aa (wA o19.2 33),jA o19.2 34,jA o19.2 35,jA o19.2 36,jA o19.2 37,jA o19.2 38,jA o19.2 39,jA o19.2 40,jA o19.2 41,jA o19.2 42, .view Aa (wA o19.2 43),jA o19.2 44,jA o19.2 45,jA o19.2 46,jA o19.2 47,jA o19.2 48]).bind fun o20=>
 bif o20.1.beq 1 then
 some [.view As (wA o20.2 0),jA o20.2 1,jA o20.2 2,jA o20.2 3,jA o20.2 4,jA o20.2 5,jA o20.2 6,jA o20.2 7,jA o20.2 8,jA o20.2 9,jA o20.2 10,jA o20.2 11,jA o20.2 12,jA o20.2 13, .view Aa (wA o20.2 14),jA o20.2 15,jA o20.2 16,jA o20.2 17,jA o20.2 18,jA o20.2 19,jA o20.2 20,jA o20.2 21,jA o20.2 22,jA o20.2 23, .view Aa (wA o20.2 24),jA o20.2 25,jA o20.2 26,jA o20.2 27,jA o20.2 28,jA o20.2 29,jA o20.2 30,jA o20.2 31,jA o20.2 32,jA o20.2 33, .view Aa (wA o20.2 34),jA o20.2 35,jA o20.2 36,jA o20.2 37,jA o20.2 38,jA o20.2 39]
 else
 none
 else
 none:=by kernel_rfl
def Om:=An (Ta FK)
def Qh7:=An (R1 FK Om)
def Qj:=Qaj FK Om Qh7
theorem XH:Aj PG (Qe8 FK):=Ao rfl ⟨Qpq,trivial⟩
theorem Zpe:Al PG (96,Ac Qi1 Qct Qj):=rw2 (C:=(Qxz FK Om Qh7)) (fl (fl fb XH) XH) XH
def Qjy:Sk:=⟨[TS.v true [ci,ci,ci,CS.sl Ah,CS.sl kPt]],[],[]⟩
def Ze:Sk:=⟨[tf [ci]],[],[]⟩
def Q4s (M:Fn):Nat×Spec:=(91,Ac Qjy Ze M)
def C_path_Length_0:Cfg:=cf []
def Qn9:Sk:=⟨[td,td,td,tf [ci],td,td,td,tf [CS.sl Ah],tf [ci],tf [ci]]++dd 9,[],[]⟩
def Q1v:List (Ex×Sk):=[(Ex.exit 0,⟨[td,td,td,tf [ci]]++dd 15,[],[]⟩)]
def Ty:Lp:=A4 PG C_path_Length_0 64 3 (A0 PG 91 3) Qn9 Q1v
def Q6q (N3:Lp):Cfg:=C_path_Length_0.loop 3 Qn9 Q1v N3
def Qqh (N3:Lp):Fn:=Am PG (Q6q N3) 64 91 Qjy Ze
theorem Qo4 (v0:Int) (v1:Rw) (v2 v3:Int):Ty [I v0, .view Ah v1,I v2,I v3]=
 bif decide (v3<v2)then
 bif decide (0<=v3)&&decide (v3<(v1.length:Int))then
 some (0,[I (wrap .i64 (v0+gA (nth [] v1 v3.toNat) 3)), .view Ah v1,I v2,I (wrap .i64 (v3+1))])
 else
 none
 else
 some (1,[I v0]):=by kernel_rfl
theorem Zhy (N3:Lp) (x0 x1 x2:Int) (x3 x4:Rw):Qqh N3 [I x0,I x1,I x2, .view Ah x3, .view kPt x4]=
 (N3 [I 0, .view Ah x3,I (x3.length:Int),I 0]).bind fun o1=>
 bif o1.1.beq 1 then
 some [jA o1.2 0]
 else
 none:=by kernel_rfl
def TD:=An (Ty)
def IV:=Qqh TD
theorem Q55:Aj PG (C_path_Length_0):=Ao rfl trivial
theorem Qy1:Al PG (91,Ac Qjy Ze IV):=rw2 (C:=(Q6q TD)) (fl fb Q55) Q55
def Qa7:Sk:=⟨[TS.v true [ci,ci,ci,CS.sl Ah,CS.sl kPt],TS.v true (cc 9++[CS.sl Aa]++cc 9++[CS.sl Aa]++cc 9++[CS.sl Aa]),TS.v true [ci,ci,ci],tf [ci],tf [ci]],[],[]⟩
def VF:Sk:=⟨[TS.v true ([CS.sl As]++cc 5)],[],[]⟩
def Zin (M:Fn):Nat×Spec:=(58,Ac Qa7 VF M)
def V6 (Kt BN FC Dr FY:Fn):Cfg:=cp [Zdk Kt,Q07 BN,Q2p FC,Qe3 Dr,Q4s FY] [96,93,92]
def Y_ (Kt BN FC Dr FY:Fn):Fn:=Am PG (V6 Kt BN FC Dr FY) 64 58 Qa7 VF
theorem Zb3 (Kt BN FC Dr FY:Fn) (x0 x1 x2:Int) (x3 x4:Rw) (x5 x6 x7 x8 x9 x10 x11 x12 x13:Int) (x14:Rw) (x15 x16 x17 x18 x19 x20 x21 x22 x23:Int) (x24:Rw) (x25 x26 x27 x28 x29 x30 x31 x32 x33:Int) (x34:Rw) (x35 x36 x37 x38 x39:Int):Y_ Kt BN FC Dr FY [I x0,I x1,I x2, .view Ah x3, .view kPt x4,I x5,I x6,I x7,I x8,I x9,I x10,I x11,I x12,I x13, .view Aa x14,I x15,I x16,I x17,I x18,I x19,I x20,I x21,I x22,I x23, .view Aa x24,I x25,I x26,I x27,I x28,I x29,I x30,I x31,I x32,I x33, .view Aa x34,I x35,I x36,I x37,I x38,I x39]=
 (FY [I x0,I x1,I x2, .view Ah x3, .view kPt x4]).bind fun o5=>
 (Dr [I x38,jA o5 0]).bind fun o6=>
 (Dr [I x39,jA o5 0]).bind fun o7=>
 bif decide (gA o6 0>gA o7 0)then
 (Kt [.view As [],I x0,I x1,I x2, .view Ah x3, .view kPt x4,I (mn (gA o6 0) (gA o7 0)),I (mx (gA o6 0) (gA o7 0)),I (-1),I x35,I x36,I x37,I (-1),I x5,I x6,I x7,I x8,I x9,I x10,I x11,I x12,I x13, .view Aa x14,I x15,I x16,I x17,I x18,I x19,I x20,I x21,I x22,I x23, .view Aa x24,I x25,I x26,I x27,I x28,I x29,I x30,I x31,I x32,I x33, .view Aa x34,I 0,jA o6 0,I x35,I x36,I x37]).bind fun o8=>
 some [.view As (wA o8 0),jA o8 35,jA o8 36,jA o8 37,jA o8 38,jA o8 39]
 else
 (Kt [.view As [],I x0,I x1,I x2, .view Ah x3, .view kPt x4,I (mn (gA o6 0) (gA o7 0)),I (mx (gA o6 0) (gA o7 0)),I 1,I x35,I x36,I x37,I 1,I x5,I x6,I x7,I x8,I x9,I x10,I x11,I x12,I x13, .view Aa x14,I x15,I x16,I x17,I x18,I x19,I x20,I x21,I x22,I x23, .view Aa x24,I x25,I x26,I x27,I x28,I x29,I x30,I x31,I x32,I x33, .view Aa x34,I 0,jA o6 0,I x35,I x36,I x37]).bind fun o9=>
 some [.view As (wA o9 0),jA o9 35,jA o9 36,jA o9 37,jA o9 38,jA o9 39]:=by kernel_rfl
def PC:=Y_ Qj FK Kw GL IV
theorem Zz2:Aj PG (V6 Qj FK Kw GL IV):=Ao rfl ⟨Zpe,Qpq,Qse,Wk,Qy1,trivial⟩
theorem Zc7:Al PG (58,Ac Qa7 VF PC):=rw1 (C:=(V6 Qj FK Kw GL IV)) Zz2
end Go.Bm
