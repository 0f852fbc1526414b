/- functions of the program and of the references, as models -/
import Derived.Test.YtommijghjlikkaaGreatSeShelf
import Derived.Test.YtommijghjlikkaaGreatSeExt
import Derived.Test.YtommijghjlikkaaGreatSePre
import Derived.Test.YtommijghjlikkaaGreatSeKc
import Derived.Test.YtommijghjlikkaaGreatBmTy
set_option linter.unusedSimpArgs false
set_option linter.unusedVariables false
set_option maxRecDepth 100000
noncomputable section
namespace Go.Bm
open Go.Proofs
def Qk3:Sk:=⟨[TS.v true [ci,ci,ci,ci,ci,ci,ci,ci,ci,CS.sl Aa],tf [ci]],[],[]⟩
def WG:Sk:=⟨[tf [ci]],[],[]⟩
def Qv4 (M:Fn):Nat×Spec:=(77,Ac Qk3 WG M)
def Qcr:Cfg:=cf []
def Q3h:Fn:=Am PG Qcr 64 77 Qk3 WG
theorem Q8d (x0 x1 x2 x3 x4 x5 x6 x7 x8:Int) (x9:Rw) (x10:Int):Q3h [I x0,I x1,I x2,I x3,I x4,I x5,I x6,I x7,I x8, .view Aa x9,I x10]=
 bif x10== -1 then
 some [I (IntKind.i64.wrap (0-x6))]
 else
 some [I 0]:=by kernel_rfl
def IS:=Q3h
theorem Zvc:Ai PG (Qcr):=Ao rfl trivial
theorem Q5k:Al PG (77,Ac Qk3 WG IS):=rw1 (C:=Qcr) Zvc
def XQ:Sk:=⟨[TS.v true [ci,ci,ci,ci,ci,ci,ci,ci,ci,CS.sl Aa],TS.v true [ci,ci,ci,ci,ci,ci,ci,ci,ci,ci],tf [ci],tf [ci]],[],[]⟩
def Zr:Sk:=⟨[tf [ci]],[],[]⟩
def Zp9 (M:Fn):Nat×Spec:=(78,Ac XQ Zr M)
def Wh (Bv:Fn):Cfg:=cf [Qv4 Bv]
def OV (Bv:Fn):Fn:=Am PG (Wh Bv) 64 78 XQ Zr
abbrev Rn (x21 x10 x6:Int) (h4_0:Bool):Option (List AC):=
 bif h4_0 then
 some [I (IntKind.i64.wrap (0-mn (IntKind.i64.wrap (x21-x10)) x6))]
 else
 some [I (IntKind.i64.wrap (mn (IntKind.i64.wrap (x21-x10)) x6-x6))]
attribute [go_sem] Rn
abbrev Qdj (x20:Int) (Bv:Fn) (x0 x1 x2 x3 x4 x5 x6 x7 x8:Int) (x9:Rw) (x17 x18 x19:Int):Option (List AC):=
 bif decide (x20=(↑0:Int))then
 (Bv [I x0,I x1,I x2,I x3,I x4,I x5,I x6,I x7,I x8, .view Aa x9,I x17]).bind fun o30=>
 some [jA o30 0]
 else
 bif decide (x20=(↑(0+1):Int))then
 (Bv [I x0,I x1,I x2,I x3,I x4,I x5,I x6,I x7,I x8, .view Aa x9,I x18]).bind fun o31=>
 some [jA o31 0]
 else
 bif decide (x20=(↑(0+1+1):Int))then
 (Bv [I x0,I x1,I x2,I x3,I x4,I x5,I x6,I x7,I x8, .view Aa x9,I x19]).bind fun o32=>
 some [jA o32 0]
 else
 none
attribute [go_sem] Qdj
abbrev RV (x20:Int) (Bv:Fn) (x0 x1 x2 x3 x4 x5 x6 x7 x8:Int) (x9:Rw) (x17 x18 x19 x21 x10:Int) (h1_0:Bool):Option (List AC):=
 bif h1_0 then
 Qdj x20 Bv x0 x1 x2 x3 x4 x5 x6 x7 x8 x9 x17 x18 x19
 else
 bif decide (x20=(↑0:Int))then
 Rn x21 x10 x6 (x17== -1)
 else
 bif decide (x20=(↑(0+1):Int))then
 Rn x21 x10 x6 (x18== -1)
 else
 bif decide (x20=(↑(0+1+1):Int))then
 Rn x21 x10 x6 (x19== -1)
 else
 none
attribute [go_sem] RV
abbrev RU (x20:Int) (Bv:Fn) (x0 x1 x2 x3 x4 x5 x6 x7 x8:Int) (x9:Rw) (x17 x18 x19 x21 x10:Int) (h2_0 h2_1 h2_2:Bool):Option (List AC):=
 bif decide (x20=(↑0:Int))then
 RV x20 Bv x0 x1 x2 x3 x4 x5 x6 x7 x8 x9 x17 x18 x19 x21 x10 h2_0
 else
 bif decide (x20=(↑(0+1):Int))then
 RV x20 Bv x0 x1 x2 x3 x4 x5 x6 x7 x8 x9 x17 x18 x19 x21 x10 h2_1
 else
 bif decide (x20=(↑(0+1+1):Int))then
 RV x20 Bv x0 x1 x2 x3 x4 x5 x6 x7 x8 x9 x17 x18 x19 x21 x10 h2_2
 else
 none
attribute [go_sem] RU
theorem Qjl (Bv:Fn) (x0 x1 x2 x3 x4 x5 x6 x7 x8:Int) (x9:Rw) (x10 x11 x12 x13 x14 x15 x16 x17 x18 x19 x20 x21:Int):OV Bv [I x0,I x1,I x2,I x3,I x4,I x5,I x6,I x7,I x8, .view Aa x9,I x10,I x11,I x12,I x13,I x14,I x15,I x16,I x17,I x18,I x19,I x20,I x21]=
 bif x13 !=0 then
 Qdj x20 Bv x0 x1 x2 x3 x4 x5 x6 x7 x8 x9 x17 x18 x19
 else
 bif decide (x20=(↑0:Int))then
 RU x20 Bv x0 x1 x2 x3 x4 x5 x6 x7 x8 x9 x17 x18 x19 x21 x10 (x14==x17) (x14==x18) (x14==x19)
 else
 bif decide (x20=(↑(0+1):Int))then
 RU x20 Bv x0 x1 x2 x3 x4 x5 x6 x7 x8 x9 x17 x18 x19 x21 x10 (x15==x17) (x15==x18) (x15==x19)
 else
 bif decide (x20=(↑(0+1+1):Int))then
 RU x20 Bv x0 x1 x2 x3 x4 x5 x6 x7 x8 x9 x17 x18 x19 x21 x10 (x16==x17) (x16==x18) (x16==x19)
 else
 none:=by kernel_rfl
def RJ:=OV IS
theorem Zon:Ai PG (Wh IS):=Ao rfl ⟨Q5k,trivial⟩
theorem Zmt:Al PG (78,Ac XQ Zr RJ):=rw1 (C:=(Wh IS)) Zon
def Qe9:Sk:=⟨[TS.v true [ci,ci,ci,ci,ci,ci,ci,ci,ci,CS.sl Aa],tf [ci]],[],[]⟩
def Qhb:Sk:=⟨[tf [ci]],[],[]⟩
def Zm5 (M:Fn):Nat×Spec:=(118,Ac Qe9 Qhb M)
def X0:Cfg:=cf []
def Qqi:Fn:=Am PG X0 64 118 Qe9 Qhb
theorem Zww (x0 x1 x2 x3 x4 x5 x6 x7 x8:Int) (x9:Rw) (x10:Int):Qqi [I x0,I x1,I x2,I x3,I x4,I x5,I x6,I x7,I x8, .view Aa x9,I x10]=
 bif decide (x0<=0)then
 some [I 0]
 else
 bif decide (IntKind.i64.wrap (2*x0)<=0)then
 some [I 0]
 else
 bif decide (IntKind.i64.wrap (2*x0)=0)then
 none
 else
 bif decide (IntKind.i64.wrap (2*x0)=0)then
 none
 else
 bif decide ((IntKind.i64.wrap (IntKind.i64.wrap (2*x10)+x0)).tmod (IntKind.i64.wrap (2*x0))<0)then
 some [I (IntKind.i64.wrap (IntKind.i64.wrap ((IntKind.i64.wrap (IntKind.i64.wrap (2*x10)+x0)).tdiv (IntKind.i64.wrap (2*x0)))-1))]
 else
 some [I (IntKind.i64.wrap ((IntKind.i64.wrap (IntKind.i64.wrap (2*x10)+x0)).tdiv (IntKind.i64.wrap (2*x0))))]:=by kernel_rfl
def JU:=Qqi
theorem Q87:Ai PG (X0):=Ao rfl trivial
theorem Zne:Al PG (118,Ac Qe9 Qhb JU):=rw1 (C:=X0) Q87
def Qlz:Sk:=⟨[tf [CS.int .u64],tf [CS.bool]],[],[]⟩
def Qht:Sk:=⟨[TS.tup [(false,[ci]),(false,[CS.bool])]],[],[]⟩
def Qmy (M:Fn):Nat×Spec:=(136,Ac Qlz Qht M)
def Qeu:Cfg:=cf []
def Ua:Fn:=Am PG Qeu 64 136 Qlz Qht
theorem WK (x0:Int) (x1:Bool):Ua [U x0,B x1]=
 bif x1 then
 bif decide (x0<=9223372036854775808)then
 some [I (IntKind.i64.wrap (IntKind.u64.wrap (0-x0))),B true]
 else
 bif !x1 then
 bif decide (x0<9223372036854775808)then
 some [I (IntKind.i64.wrap x0),B true]
 else
 some [I 0,B false]
 else
 some [I 0,B false]
 else
 bif !x1 then
 bif decide (x0<9223372036854775808)then
 some [I (IntKind.i64.wrap x0),B true]
 else
 some [I 0,B false]
 else
 some [I 0,B false]:=by kernel_rfl
def Ew:=Ua
theorem Zg7:Ai PG (Qeu):=Ao rfl trivial
theorem Qfr:Al PG (136,Ac Qlz Qht Ew):=rw1 (C:=Qeu) Zg7
def Xy:Sk:=⟨[tf [ci],tf [ci],tf [CS.bool],tf [CS.bool]],[],[]⟩
def Qie:Sk:=⟨[tf [CS.bool]],[],[]⟩
def Q6a (M:Fn):Nat×Spec:=(135,Ac Xy Qie M)
def XM:Cfg:=cf []
def Qdg:Fn:=Am PG XM 64 135 Xy Qie
theorem Qsc (x0 x1:Int) (x2 x3:Bool):Qdg [I x0,I x1,B x2,B x3]=
 bif x0==0 then
 bif x2 then
 some [B x3]
 else
 some [B false]
 else
 bif x0==1 then
 bif x2 then
 some [B !x3]
 else
 some [B false]
 else
 bif decide (x1>0)then
 some [B true]
 else
 bif x1==0 then
 some [B !x3]
 else
 some [B false]:=by kernel_rfl
def GZ:=Qdg
theorem Zmg:Ai PG (XM):=Ao rfl trivial
theorem Qxu:Al PG (135,Ac Xy Qie GZ):=rw1 (C:=XM) Zmg
def Tw:Sk:=⟨[tf [ci],tf [ci]],[],[]⟩
def YJ:Sk:=⟨[tf [ci]],[],[]⟩
def ZG (M:Fn):Nat×Spec:=(134,Ac Tw YJ M)
def YZ:Cfg:=cf []
def Qgw:Fn:=Am PG YZ 64 134 Tw YJ
theorem Qp9 (x0 x1:Int):Qgw [I x0,I x1]=
 bif x0==0 then
 some [I 0]
 else
 bif x1==0 then
 some [I 0]
 else
 bif decide (x0<0)==decide (x1<0)then
 some [I 1]
 else
 some [I (-1)]:=by kernel_rfl
def Fi:=Qgw
theorem Zsm:Ai PG (YZ):=Ao rfl trivial
theorem X2:Al PG (134,Ac Tw YJ Fi):=rw1 (C:=YZ) Zsm
def Qgq:Sk:=⟨[tf [CS.int .u64],tf [CS.int .u64],tf [CS.int .u64]],[],[]⟩
def Qds:Sk:=⟨[TS.tup [(false,[CS.int .u64]),(false,[CS.int .u64])]],[],[]⟩
def Q5b (M:Fn):Nat×Spec:=(133,Ac Qgq Qds M)
def Qgk (Dq:Fn):Cfg:=cf [(176,Ac Qwn Qp8 Dq)]
def Qqe:Sk:=⟨[td,td,tf [CS.int .u64],td,td,td,td,td,tf [CS.int .u64],tf [CS.int .u64],tf [CS.int .u64],tf [CS.int .u64],td,tf [CS.int .u64],tf [CS.int .u64],tf [CS.int .u64],tf [CS.int .u64]]++dd 118,[],[]⟩
def Qu2:List (Ex×Sk):=[(Ex.exit 0,⟨[td,td,tf [CS.int .u64],td,td,td,td,td,tf [CS.int .u64],tf [CS.int .u64],tf [CS.int .u64],tf [CS.int .u64],td,tf [CS.int .u64],tf [CS.int .u64],tf [CS.int .u64]]++dd 119,[],[]⟩)]
def Kb (Dq:Fn):Lp:=AP PG (Qgk Dq) 64 17 (AO PG 133 17) Qqe Qu2
def Q27 (Dq:Fn) (N17:Lp):Cfg:=(Qgk Dq).loop 17 Qqe Qu2 N17
def Qxw:Sk:=⟨[td,td,tf [CS.int .u64],td,td,td,td,td,tf [CS.int .u64],tf [CS.int .u64],tf [CS.int .u64],td,td,td,tf [CS.int .u64],tf [CS.int .u64],tf [CS.int .u64],tf [CS.int .u64],tf [CS.int .u64]]++dd 116,[],[]⟩
def Qvc:List (Ex×Sk):=[(Ex.exit 2,⟨[td,td,tf [CS.int .u64],td,td,td,td,td,tf [CS.int .u64],td,td,td,td,td,tf [CS.int .u64],tf [CS.int .u64],td,tf [CS.int .u64],tf [CS.int .u64]]++dd 116,[],[]⟩)]
def Pe (Dq:Fn) (N17:Lp):Lp:=AP PG (Q27 Dq N17) 64 24 (AO PG 133 24) Qxw Qvc
def Q5i (Dq:Fn) (N17 N24:Lp):Cfg:=(Q27 Dq N17).loop 24 Qxw Qvc N24
def Qd9 (Dq:Fn) (N17 N24:Lp):Fn:=Am PG (Q5i Dq N17 N24) 64 133 Qgq Qds
theorem Zzo (Dq:Fn) (v0 v1 v2 v3 v4 v5 v6 v7 v8:Int):Kb Dq [U v0,U v1,U v2,U v3,U v4,U v5,U v6,U v7,U v8]=
 bif decide (v7>=4294967296)then
 bif decide (IntKind.u64.wrap (v8+v2)>=4294967296)then
 some (1,[U v0,U v1,U v2,U v3,U v4,U v5,U v6,U (IntKind.u64.wrap (v7-1))])
 else
 some (0,[U v0,U v1,U v2,U v3,U v4,U v5,U v6,U (IntKind.u64.wrap (v7-1)),U (IntKind.u64.wrap (v8+v2))])
 else
 bif decide (IntKind.u64.wrap (v7*v3)>IntKind.u64.wrap (IntKind.u64.wrap (4294967296*v8)+v5))then
 bif decide (IntKind.u64.wrap (v8+v2)>=4294967296)then
 some (1,[U v0,U v1,U v2,U v3,U v4,U v5,U v6,U (IntKind.u64.wrap (v7-1))])
 else
 some (0,[U v0,U v1,U v2,U v3,U v4,U v5,U v6,U (IntKind.u64.wrap (v7-1)),U (IntKind.u64.wrap (v8+v2))])
 else
 some (1,[U v0,U v1,U v2,U v3,U v4,U v5,U v6,U v7]):=by kernel_rfl
theorem Zfh (Dq:Fn) (N17:Lp) (v0 v1 v2 v3 v4 v5 v6 v7 v8:Int):Pe Dq N17 [U v0,U v1,U v2,U v3,U v4,U v5,U v6,U v7,U v8]=
 bif decide (v8>=4294967296)then
 bif decide (IntKind.u64.wrap (v6+v2)>=4294967296)then
 some (1,[U v0,U v1,U v4,U v5,U v7,U (IntKind.u64.wrap (v8-1))])
 else
 some (0,[U v0,U v1,U v2,U v3,U v4,U v5,U (IntKind.u64.wrap (v6+v2)),U v7,U (IntKind.u64.wrap (v8-1))])
 else
 bif decide (IntKind.u64.wrap (v8*v3)>IntKind.u64.wrap (IntKind.u64.wrap (4294967296*v6)+v4))then
 bif decide (IntKind.u64.wrap (v6+v2)>=4294967296)then
 some (1,[U v0,U v1,U v4,U v5,U v7,U (IntKind.u64.wrap (v8-1))])
 else
 some (0,[U v0,U v1,U v2,U v3,U v4,U v5,U (IntKind.u64.wrap (v6+v2)),U v7,U (IntKind.u64.wrap (v8-1))])
 else
 some (1,[U v0,U v1,U v4,U v5,U v7,U v8]):=by kernel_rfl
theorem Qtn (Dq:Fn) (N17 N24:Lp) (x0 x1 x2:Int):Qd9 Dq N17 N24 [U x0,U x1,U x2]=
 bif x2==0 then
 none
 else
 bif decide (x2<=x0)then
 none
 else
 bif x0==0 then
 bif decide (x2=0)then
 none
 else
 bif decide (x2=0)then
 none
 else
 some [U (IntKind.u64.wrap (x1.tdiv x2)),U (x1.tmod x2)]
 else
 (Dq [U x2]).bind fun o6=>
 bif decide (IntKind.u64.wrap (gA o6 0)<0)then
 none
 else
 bif decide (IntKind.u64.wrap (gA o6 0)<0)then
 none
 else
 bif decide (IntKind.u64.wrap (64-IntKind.u64.wrap (gA o6 0))<0)then
 none
 else
 bif decide (IntKind.u64.wrap (gA o6 0)<0)then
 none
 else
 bif decide ((IntKind.u64.wrap (x2*2^min (IntKind.u64.wrap (gA o6 0)).toNat IntKind.u64.bits)).fdiv (2^min (Int.toNat 32) IntKind.u64.bits)=0)then
 none
 else
 (N17 [U (IntKind.u64.wrap (x2*2^min (IntKind.u64.wrap (gA o6 0)).toNat IntKind.u64.bits)),U (IntKind.u64.wrap (gA o6 0)),U ((IntKind.u64.wrap (x2*2^min (IntKind.u64.wrap (gA o6 0)).toNat IntKind.u64.bits)).fdiv (2^min (Int.toNat 32) IntKind.u64.bits)),U (IntKind.u64.wrap (↑(BitVec.ofInt IntKind.u64.bits (IntKind.u64.wrap (x2*2^min (IntKind.u64.wrap (gA o6 0)).toNat IntKind.u64.bits))&&&BitVec.ofInt IntKind.u64.bits 4294967295).toNat:Int)),U (IntKind.u64.wrap (↑(BitVec.ofInt IntKind.u64.bits (IntKind.u64.wrap (x0*2^min (IntKind.u64.wrap (gA o6 0)).toNat IntKind.u64.bits))|||BitVec.ofInt IntKind.u64.bits (x1.fdiv (2^min (IntKind.u64.wrap (64-IntKind.u64.wrap (gA o6 0))).toNat IntKind.u64.bits))).toNat:Int)),U ((IntKind.u64.wrap (x1*2^min (IntKind.u64.wrap (gA o6 0)).toNat IntKind.u64.bits)).fdiv (2^min (Int.toNat 32) IntKind.u64.bits)),U (IntKind.u64.wrap (↑(BitVec.ofInt IntKind.u64.bits (IntKind.u64.wrap (x1*2^min (IntKind.u64.wrap (gA o6 0)).toNat IntKind.u64.bits))&&&BitVec.ofInt IntKind.u64.bits 4294967295).toNat:Int)),U (IntKind.u64.wrap ((IntKind.u64.wrap (↑(BitVec.ofInt IntKind.u64.bits (IntKind.u64.wrap (x0*2^min (IntKind.u64.wrap (gA o6 0)).toNat IntKind.u64.bits))|||BitVec.ofInt IntKind.u64.bits (x1.fdiv (2^min (IntKind.u64.wrap (64-IntKind.u64.wrap (gA o6 0))).toNat IntKind.u64.bits))).toNat:Int)).tdiv ((IntKind.u64.wrap (x2*2^min (IntKind.u64.wrap (gA o6 0)).toNat IntKind.u64.bits)).fdiv (2^min (Int.toNat 32) IntKind.u64.bits)))),U (IntKind.u64.wrap (IntKind.u64.wrap (↑(BitVec.ofInt IntKind.u64.bits (IntKind.u64.wrap (x0*2^min (IntKind.u64.wrap (gA o6 0)).toNat IntKind.u64.bits))|||BitVec.ofInt IntKind.u64.bits (x1.fdiv (2^min (IntKind.u64.wrap (64-IntKind.u64.wrap (gA o6 0))).toNat IntKind.u64.bits))).toNat:Int)-IntKind.u64.wrap (IntKind.u64.wrap ((IntKind.u64.wrap (↑(BitVec.ofInt IntKind.u64.bits (IntKind.u64.wrap (x0*2^min (IntKind.u64.wrap (gA o6 0)).toNat IntKind.u64.bits))|||BitVec.ofInt IntKind.u64.bits (x1.fdiv (2^min (IntKind.u64.wrap (64-IntKind.u64.wrap (gA o6 0))).toNat IntKind.u64.bits))).toNat:Int)).tdiv ((IntKind.u64.wrap (x2*2^min (IntKind.u64.wrap (gA o6 0)).toNat IntKind.u64.bits)).fdiv (2^min (Int.toNat 32) IntKind.u64.bits)))*(IntKind.u64.wrap (x2*2^min (IntKind.u64.wrap (gA o6 0)).toNat IntKind.u64.bits)).fdiv (2^min (Int.toNat 32) IntKind.u64.bits))))]).bind fun o7=>
 bif o7.1.beq 1 then
 bif decide (gA o7.2 2=0)then
 none
 else
 (N24 [U (gA o7.2 0),U (gA o7.2 1),U (gA o7.2 2),U (gA o7.2 3),U (gA o7.2 6),U (gA o7.2 7),U (IntKind.u64.wrap (IntKind.u64.wrap (IntKind.u64.wrap (IntKind.u64.wrap (gA o7.2 4*4294967296)+gA o7.2 5)-IntKind.u64.wrap (gA o7.2 7*gA o7.2 0))-IntKind.u64.wrap (IntKind.u64.wrap ((IntKind.u64.wrap (IntKind.u64.wrap (IntKind.u64.wrap (gA o7.2 4*4294967296)+gA o7.2 5)-IntKind.u64.wrap (gA o7.2 7*gA o7.2 0))).tdiv (gA o7.2 2))*gA o7.2 2))),U (IntKind.u64.wrap (IntKind.u64.wrap (IntKind.u64.wrap (gA o7.2 4*4294967296)+gA o7.2 5)-IntKind.u64.wrap (gA o7.2 7*gA o7.2 0))),U (IntKind.u64.wrap ((IntKind.u64.wrap (IntKind.u64.wrap (IntKind.u64.wrap (gA o7.2 4*4294967296)+gA o7.2 5)-IntKind.u64.wrap (gA o7.2 7*gA o7.2 0))).tdiv (gA o7.2 2)))]).bind fun o8=>
 bif o8.1.beq 1 then
 bif decide (gA o8.2 1<0)then
 none
 else
 some [U (IntKind.u64.wrap (IntKind.u64.wrap (gA o8.2 3*4294967296)+gA o8.2 5)),U ((IntKind.u64.wrap (IntKind.u64.wrap (IntKind.u64.wrap (gA o8.2 4*4294967296)+gA o8.2 2)-IntKind.u64.wrap (gA o8.2 5*gA o8.2 0))).fdiv (2^min (gA o8.2 1).toNat IntKind.u64.bits))]
 else
 none
 else
 none:=by kernel_rfl
def QE:=An (Kb HZ)
def Vl:=An (Pe HZ QE)
def F6:=Qd9 HZ QE Vl
theorem Qgx:Ai PG (Qgk HZ):=Ao rfl ⟨Zht,trivial⟩
theorem Qpq:Al PG (133,Ac Qgq Qds F6):=rw2 (C:=(Q5i HZ QE Vl)) (fl (fl fb Qgx) Qgx) Qgx
def Qfq:Sk:=⟨[tf [CS.int .u64],tf [CS.int .u64]],[],[]⟩
def ZA:Sk:=⟨[TS.v true [CS.int .u64,CS.int .u64]],[],[]⟩
def RA (M:Fn):Nat×Spec:=(131,Ac Qfq ZA M)
def Qmp (FM:Fn):Cfg:=cf [(175,Ac WE Qip FM)]
def Qoy (FM:Fn):Fn:=Am PG (Qmp FM) 64 131 Qfq ZA
theorem Zkp (FM:Fn) (x0 x1:Int):Qoy FM [U x0,U x1]=
 (FM [U x0,U x1]).bind fun o1=>
 some [U (gA o1 0),U (gA o1 1)]:=by kernel_rfl
def DV:=Qoy HH
theorem Zxz:Ai PG (Qmp HH):=Ao rfl ⟨Qyg,trivial⟩
theorem RS:Al PG (131,Ac Qfq ZA DV):=rw1 (C:=(Qmp HH)) Zxz
def Qa6:Sk:=⟨[tf [ci]],[],[]⟩
def Qia:Sk:=⟨[tf [CS.int .u64]],[],[]⟩
def Qbk (M:Fn):Nat×Spec:=(132,Ac Qa6 Qia M)
def Qnb:Cfg:=cf []
def Q2d:Fn:=Am PG Qnb 64 132 Qa6 Qia
theorem Zqd (x0:Int):Q2d [I x0]=
 bif decide (x0<0)then
 some [U (IntKind.u64.wrap (IntKind.u64.wrap (IntKind.i64.wrap (0-IntKind.i64.wrap (x0+1)))+1))]
 else
 some [U (IntKind.u64.wrap x0)]:=by kernel_rfl
def FF:=Q2d
theorem Q7o:Ai PG (Qnb):=Ao rfl trivial
theorem Qll:Al PG (132,Ac Qa6 Qia FF):=rw1 (C:=Qnb) Q7o
def Qeh:Sk:=⟨[tf [ci]],[],[]⟩
def UC:Sk:=⟨[tf [CS.bool]],[],[]⟩
def Qef (M:Fn):Nat×Spec:=(130,Ac Qeh UC M)
def Qkm:Cfg:=cf []
def ZH:Fn:=Am PG Qkm 64 130 Qeh UC
theorem Q1i (x0:Int):ZH [I x0]=
 bif x0==0 then
 some [B true]
 else
 bif x0==1 then
 some [B true]
 else
 some [B (x0==2)]:=by kernel_rfl
def Fd:=ZH
theorem Zxh:Ai PG (Qkm):=Ao rfl trivial
theorem TA:Al PG (130,Ac Qeh UC Fd):=rw1 (C:=Qkm) Zxh
def Qg5:Sk:=⟨[tf [ci],tf [ci],tf [ci],tf [ci]],[],[]⟩
def Qgs:Sk:=⟨[TS.tup [(false,[ci]),(false,[CS.bool])]],[],[]⟩
def Kc (M:Fn):Nat×Spec:=(83,Ac Qg5 Qgs M)
def Qk0 (A4 Cg CV Fe Bp B2 Dv:Fn):Cfg:=cf [Qmy A4,Q6a Cg,ZG CV,Q5b Fe,RA Bp,Qbk B2,Qef Dv]
def QJ (A4 Cg CV Fe Bp B2 Dv:Fn):Fn:=Am PG (Qk0 A4 Cg CV Fe Bp B2 Dv) 64 83 Qg5 Qgs
abbrev Sx (Cg:Fn) (x3:Int) (o31:List AC) (A4:Fn) (h1_0 h1_1:AC):Option (List AC):=
 (Cg [I x3,h1_0,B (decide (gA o31 1>0)),h1_1]).bind fun o34=>
 bif bA o34 0 then
 bif IntKind.u64.wrap (gA o31 0+1)==0 then
 some [I 0,B false]
 else
 (A4 [U (IntKind.u64.wrap (gA o31 0+1)),h1_1]).bind fun o35=>
 some [jA o35 0,B (bA o35 1)]
 else
 (A4 [U (gA o31 0),h1_1]).bind fun o36=>
 some [jA o36 0,B (bA o36 1)]
attribute [go_sem] Sx
abbrev Vz (o31 o30:List AC) (Cg:Fn) (x3:Int) (A4:Fn) (h2_0:AC):Option (List AC):=
 bif decide (gA o31 1>IntKind.u64.wrap (gA o30 0-gA o31 1))then
 Sx Cg x3 o31 A4 (I 1) h2_0
 else
 bif decide (gA o31 1<IntKind.u64.wrap (gA o30 0-gA o31 1))then
 Sx Cg x3 o31 A4 (I (-1)) h2_0
 else
 Sx Cg x3 o31 A4 (I 0) h2_0
attribute [go_sem] Vz
theorem Qot (A4 Cg CV Fe Bp B2 Dv:Fn) (x0 x1 x2 x3:Int):QJ A4 Cg CV Fe Bp B2 Dv [I x0,I x1,I x2,I x3]=
 bif x2==0 then
 some [I 0,B false]
 else
 (Dv [I x3]).bind fun o26=>
 bif !bA o26 0 then
 some [I 0,B false]
 else
 (B2 [I x0]).bind fun o27=>
 (B2 [I x1]).bind fun o28=>
 (Bp [U (gA o27 0),U (gA o28 0)]).bind fun o29=>
 (B2 [I x2]).bind fun o30=>
 bif decide (gA o29 0>=gA o30 0)then
 some [I 0,B false]
 else
 (Fe [U (gA o29 0),U (gA o29 1),U (gA o30 0)]).bind fun o31=>
 (CV [I x0,I x1]).bind fun o32=>
 bif !decide (gA o32 0<0)==decide (x2<0)then
 (CV [I x0,I x1]).bind fun o33=>
 Vz o31 o30 Cg x3 A4 (B (gA o33 0 !=0))
 else
 Vz o31 o30 Cg x3 A4 (B false):=by kernel_rfl
def Be:=QJ Ew GZ Fi F6 DV FF Fd
theorem Zd9:Ai PG (Qk0 Ew GZ Fi F6 DV FF Fd):=Ao rfl ⟨Qfr,Qxu,X2,Qpq,RS,Qll,TA,trivial⟩
theorem K3:Al PG (83,Ac Qg5 Qgs Be):=rw1 (C:=(Qk0 Ew GZ Fi F6 DV FF Fd)) Zd9
def Qfn:Sk:=⟨[TS.v true [ci,ci,ci,ci,ci,ci,ci,ci,ci,CS.sl Aa],tf [ci]],[],[]⟩
def Uz:Sk:=⟨[tf [ci]],[],[]⟩
def Zpq (M:Fn):Nat×Spec:=(119,Ac Qfn Uz M)
def Qjt (AE:Fn):Cfg:=cf [Kc AE]
def Q0p (AE:Fn):Fn:=Am PG (Qjt AE) 64 119 Qfn Uz
theorem Zgt (AE:Fn) (x0 x1 x2 x3 x4 x5 x6 x7 x8:Int) (x9:Rw) (x10:Int):Q0p AE [I x0,I x1,I x2,I x3,I x4,I x5,I x6,I x7,I x8, .view Aa x9,I x10]=
 bif decide (IntKind.i64.wrap ((x9.length:Int)-1)<0)then
 some [I 0]
 else
 bif decide (IntKind.i64.wrap (x10-x7)<=0)then
 bif decide (0<=0)&&decide (0<(x9.length:Int))then
 some [jA (nth [] x9 0) 0]
 else
 none
 else
 bif decide (x8<=0)then
 bif decide (0<=0)&&decide (0<(x9.length:Int))then
 some [jA (nth [] x9 0) 0]
 else
 none
 else
 bif decide (x8=0)then
 none
 else
 bif decide (IntKind.i64.wrap ((IntKind.i64.wrap (x10-x7)).tdiv x8)>=IntKind.i64.wrap ((x9.length:Int)-1))then
 bif decide (0<=IntKind.i64.wrap ((x9.length:Int)-1))&&decide (IntKind.i64.wrap ((x9.length:Int)-1)<(x9.length:Int))then
 some [jA (nth [] x9 (IntKind.i64.wrap ((x9.length:Int)-1)).toNat) 0]
 else
 none
 else
 bif decide (0<=IntKind.i64.wrap (IntKind.i64.wrap ((IntKind.i64.wrap (x10-x7)).tdiv x8)+1))&&decide (IntKind.i64.wrap (IntKind.i64.wrap ((IntKind.i64.wrap (x10-x7)).tdiv x8)+1)<(x9.length:Int))then
 bif decide (0<=IntKind.i64.wrap ((IntKind.i64.wrap (x10-x7)).tdiv x8))&&decide (IntKind.i64.wrap ((IntKind.i64.wrap (x10-x7)).tdiv x8)<(x9.length:Int))then
 (AE [I (IntKind.i64.wrap (Af (nth .dead (nth [] x9 (IntKind.i64.wrap (IntKind.i64.wrap ((IntKind.i64.wrap (x10-x7)).tdiv x8)+1)).toNat) 0)-Af (nth .dead (nth [] x9 (IntKind.i64.wrap ((IntKind.i64.wrap (x10-x7)).tdiv x8)).toNat) 0))),I (IntKind.i64.wrap (IntKind.i64.wrap (x10-x7)-IntKind.i64.wrap (IntKind.i64.wrap ((IntKind.i64.wrap (x10-x7)).tdiv x8)*x8))),I x8,I 2]).bind fun o1=>
 bif decide (0<=IntKind.i64.wrap ((IntKind.i64.wrap (x10-x7)).tdiv x8))&&decide (IntKind.i64.wrap ((IntKind.i64.wrap (x10-x7)).tdiv x8)<(x9.length:Int))then
 some [I (IntKind.i64.wrap (Af (nth .dead (nth [] x9 (IntKind.i64.wrap ((IntKind.i64.wrap (x10-x7)).tdiv x8)).toNat) 0)+gA o1 0))]
 else
 none
 else
 none
 else
 none:=by kernel_rfl
def JL:=Q0p Be
theorem Zdb:Ai PG (Qjt Be):=Ao rfl ⟨K3,trivial⟩
theorem Zl5:Al PG (119,Ac Qfn Uz JL):=rw1 (C:=(Qjt Be)) Zdb
def Qj6:Sk:=⟨[TS.v true [ci,ci,ci,ci,ci,ci,ci,ci,ci,CS.sl Aa],tf [ci]],[],[]⟩
def Qks:Sk:=⟨[tf [ci]],[],[]⟩
def Zq0 (M:Fn):Nat×Spec:=(76,Ac Qj6 Qks M)
def Qfp (NC Oc:Fn):Cfg:=cf [Zm5 NC,Zpq Oc]
def Q0g (NC Oc:Fn):Fn:=Am PG (Qfp NC Oc) 64 76 Qj6 Qks
theorem Zyg (NC Oc:Fn) (x0 x1 x2 x3 x4 x5 x6 x7 x8:Int) (x9:Rw) (x10:Int):Q0g NC Oc [I x0,I x1,I x2,I x3,I x4,I x5,I x6,I x7,I x8, .view Aa x9,I x10]=
 (Oc [I x0,I x1,I x2,I x3,I x4,I x5,I x6,I x7,I x8, .view Aa x9,I x10]).bind fun o2=>
 (NC [I x0,I x1,I x2,I x3,I x4,I x5,I x6,I x7,I x8, .view Aa x9,I (IntKind.i64.wrap (x10+gA o2 0))]).bind fun o3=>
 some [jA o3 0]:=by kernel_rfl
def Mm:=Q0g JU JL
theorem Zdn:Ai PG (Qfp JU JL):=Ao rfl ⟨Zne,Zl5,trivial⟩
theorem Zhm:Al PG (76,Ac Qj6 Qks Mm):=rw1 (C:=(Qfp JU JL)) Zdn
def Qb0:Sk:=⟨[TS.v true [CS.sl Aq,ci,ci,ci,ci,ci],tf [ci]],[],[]⟩
def Tt:Sk:=⟨[tf [ci]],[],[]⟩
def Qf0 (M:Fn):Nat×Spec:=(75,Ac Qb0 Tt M)
def C_track_find_0:Cfg:=cf []
def Qtg:Sk:=⟨[td,tf [ci],tf [CS.ptr 2 0],td,td,tf [ci],tf [ci]]++dd 29,[(2,62,[CS.sl Aq,ci,ci,ci,ci,ci])],[]⟩
def Qzj:List (Ex×Sk):=[(Ex.exit 0,⟨[td,td,td,td,td,td,tf [ci]]++dd 29,[],[]⟩)]
def Rc:Lp:=AP PG C_track_find_0 64 2 (AO PG 75 2) Qtg Qzj
def Qoe (N2:Lp):Cfg:=C_track_find_0.loop 2 Qtg Qzj N2
def Q5q (N2:Lp):Fn:=Am PG (Qoe N2) 64 75 Qb0 Tt
theorem VB (v0 v1 v2:Int) (v3:Rw) (v4 v5 v6 v7 v8:Int):Rc [I v0,I v1,I v2, .view Aq v3,I v4,I v5,I v6,I v7,I v8]=
 bif decide (v1<v2)then
 bif decide (0<=IntKind.i64.wrap ((IntKind.i64.wrap (v1+v2)).tdiv 2))&&decide (IntKind.i64.wrap ((IntKind.i64.wrap (v1+v2)).tdiv 2)<(v3.length:Int))then
 bif decide (v0<=IntKind.i64.wrap (Af (nth .dead (nth [] v3 (IntKind.i64.wrap ((IntKind.i64.wrap (v1+v2)).tdiv 2)).toNat) 0)+Af (nth .dead (nth [] v3 (IntKind.i64.wrap ((IntKind.i64.wrap (v1+v2)).tdiv 2)).toNat) 1)))then
 some (0,[I v0,I v1,I (IntKind.i64.wrap ((IntKind.i64.wrap (v1+v2)).tdiv 2)), .view Aq v3,I v4,I v5,I v6,I v7,I v8])
 else
 some (0,[I v0,I (IntKind.i64.wrap (IntKind.i64.wrap ((IntKind.i64.wrap (v1+v2)).tdiv 2)+1)),I v2, .view Aq v3,I v4,I v5,I v6,I v7,I v8])
 else
 none
 else
 some (1,[I v2]):=by kernel_rfl
theorem Zs7 (N2:Lp) (x0:Rw) (x1 x2 x3 x4 x5 x6:Int):Q5q N2 [.view Aq x0,I x1,I x2,I x3,I x4,I x5,I x6]=
 (N2 [I x6,I 0,I (IntKind.i64.wrap ((x0.length:Int)-1)), .view Aq x0,I x1,I x2,I x3,I x4,I x5]).bind fun o1=>
 bif o1.1.beq 1 then
 some [jA o1.2 0]
 else
 none:=by kernel_rfl
def KJ:=An (Rc)
def Ga:=Q5q KJ
theorem Qz9:Ai PG (C_track_find_0):=Ao rfl trivial
theorem Y8:Al PG (75,Ac Qb0 Tt Ga):=rw2 (C:=(Qoe KJ)) (fl fb Qz9) Qz9
def VL:Sk:=⟨[TS.v true [ci,ci,ci,CS.sl Ah,CS.sl kPt],tf [ci]],[],[]⟩
def Y1:Sk:=⟨[TS.tup [(false,[ci]),(false,[ci])]],[],[]⟩
def VR (M:Fn):Nat×Spec:=(117,Ac VL Y1 M)
def C_path_Find_0:Cfg:=cf []
def Qyy:Sk:=⟨[td,tf [ci],tf [CS.ptr 2 0],td,td,td,td,td,td,td,td,tf [CS.sl Ah],tf [ci],tf [ci]]++dd 24,[(2,58,[ci,ci,ci,CS.sl Ah,CS.sl kPt])],[]⟩
def Q2x:List (Ex×Sk):=[(Ex.ret,⟨[td,td,td,td,tf [ci],tf [ci]]++dd 32,[],[]⟩),(Ex.exit 0,⟨[td]++dd 37,[],[]⟩)]
def Q4:Lp:=AP PG C_path_Find_0 64 3 (AO PG 117 3) Qyy Q2x
def Qqm (N3:Lp):Cfg:=C_path_Find_0.loop 3 Qyy Q2x N3
def Qud (N3:Lp):Fn:=Am PG (Qqm N3) 64 117 VL Y1
theorem Qoj (v0:Int) (v1:Rw) (v2 v3 v4 v5 v6:Int) (v7 v8:Rw):Q4 [I v0, .view Ah v1,I v2,I v3,I v4,I v5,I v6, .view Ah v7, .view kPt v8]=
 bif decide (v3<v2)then
 bif decide (0<=v3)&&decide (v3<(v1.length:Int))then
 bif decide (v0<gA (nth [] v1 v3.toNat) 3)then
 some (1,[I v3,I v0])
 else
 bif v3==IntKind.i64.wrap ((v7.length:Int)-1)then
 some (1,[I v3,jA (nth [] v1 v3.toNat) 3])
 else
 some (0,[I (IntKind.i64.wrap (v0-gA (nth [] v1 v3.toNat) 3)), .view Ah v1,I v2,I (IntKind.i64.wrap (v3+1)),I v4,I v5,I v6, .view Ah v7, .view kPt v8])
 else
 none
 else
 some (2,[]):=by kernel_rfl
theorem Q2g (N3:Lp) (x0 x1 x2:Int) (x3 x4:Rw) (x5:Int):Qud N3 [I x0,I x1,I x2, .view Ah x3, .view kPt x4,I x5]=
 (N3 [I (mx x5 0), .view Ah x3,I (x3.length:Int),I 0,I x0,I x1,I x2, .view Ah x3, .view kPt x4]).bind fun o1=>
 bif o1.1.beq 1 then
 some [jA o1.2 0,jA o1.2 1]
 else
 bif o1.1.beq 2 then
 some [I (-1),I 0]
 else
 none:=by kernel_rfl
def Oa:=An (Q4)
def Eg:=Qud Oa
theorem Qzq:Ai PG (C_path_Find_0):=Ao rfl trivial
theorem Xx:Al PG (117,Ac VL Y1 Eg):=rw2 (C:=(Qqm Oa)) (fl fb Qzq) Qzq
def Zf:Sk:=⟨[TS.v true [ci,ci,ci,CS.sl Ah,CS.sl kPt],tf [ci]],[],[]⟩
def UZ:Sk:=⟨[TS.v true [ci,ci,ci]],[],[]⟩
def Zi2 (M:Fn):Nat×Spec:=(74,Ac Zf UZ M)
def Wc (AE C8:Fn):Cfg:={cf [Kc AE,VR C8]with unroll:=[9]}
def ZI (AE C8:Fn):Fn:=Am PG (Wc AE C8) 64 74 Zf UZ
theorem Q90 (AE C8:Fn) (x0 x1 x2:Int) (x3 x4:Rw) (x5:Int):ZI AE C8 [I x0,I x1,I x2, .view Ah x3, .view kPt x4,I x5]=
 (C8 [I x0,I x1,I x2, .view Ah x3, .view kPt x4,I x5]).bind fun o7=>
 bif decide (gA o7 0<0)then
 some [I x0,I x1,I x2]
 else
 bif decide (gA o7 0>0)then
 bif decide (0<=IntKind.i64.wrap (gA o7 0-1))&&decide (IntKind.i64.wrap (gA o7 0-1)<(x3.length:Int))then
 bif decide (0<=gA o7 0)&&decide (gA o7 0<(x3.length:Int))then
 (AE [I (IntKind.i64.wrap (gA (nth [] x3 (gA o7 0).toNat) 0-gA (nth [] x3 (IntKind.i64.wrap (gA o7 0-1)).toNat) 0)),jA o7 1,jA (nth [] x3 (gA o7 0).toNat) 3,I 2]).bind fun o8=>
 (AE [I (IntKind.i64.wrap (gA (nth [] x3 (gA o7 0).toNat) 1-gA (nth [] x3 (IntKind.i64.wrap (gA o7 0-1)).toNat) 1)),jA o7 1,jA (nth [] x3 (gA o7 0).toNat) 3,I 2]).bind fun o9=>
 (AE [I (IntKind.i64.wrap (gA (nth [] x3 (gA o7 0).toNat) 2-gA (nth [] x3 (IntKind.i64.wrap (gA o7 0-1)).toNat) 2)),jA o7 1,jA (nth [] x3 (gA o7 0).toNat) 3,I 2]).bind fun o10=>
 some [I (IntKind.i64.wrap (gA (nth [] x3 (IntKind.i64.wrap (gA o7 0-1)).toNat) 0+gA o8 0)),I (IntKind.i64.wrap (gA (nth [] x3 (IntKind.i64.wrap (gA o7 0-1)).toNat) 1+gA o9 0)),I (IntKind.i64.wrap (gA (nth [] x3 (IntKind.i64.wrap (gA o7 0-1)).toNat) 2+gA o10 0))]
 else
 none
 else
 none
 else
 bif decide (0<=gA o7 0)&&decide (gA o7 0<(x3.length:Int))then
 (AE [I (IntKind.i64.wrap (gA (nth [] x3 (gA o7 0).toNat) 0-x0)),jA o7 1,jA (nth [] x3 (gA o7 0).toNat) 3,I 2]).bind fun o11=>
 (AE [I (IntKind.i64.wrap (gA (nth [] x3 (gA o7 0).toNat) 1-x1)),jA o7 1,jA (nth [] x3 (gA o7 0).toNat) 3,I 2]).bind fun o12=>
 (AE [I (IntKind.i64.wrap (gA (nth [] x3 (gA o7 0).toNat) 2-x2)),jA o7 1,jA (nth [] x3 (gA o7 0).toNat) 3,I 2]).bind fun o13=>
 some [I (IntKind.i64.wrap (x0+gA o11 0)),I (IntKind.i64.wrap (x1+gA o12 0)),I (IntKind.i64.wrap (x2+gA o13 0))]
 else
 none:=by kernel_rfl
def Ph:=ZI Be Eg
theorem Zbm:Ai PG (Wc Be Eg):=Ao rfl ⟨K3,Xx,trivial⟩
theorem Q6t:Al PG (74,Ac Zf UZ Ph):=rw1 (C:=(Wc Be Eg)) Zbm
def Qjm:Sk:=⟨[tf [ci],tf [ci]],[],[]⟩
def Yk:Sk:=⟨[tf [ci]],[],[]⟩
def SI (M:Fn):Nat×Spec:=(73,Ac Qjm Yk M)
def ZC:Cfg:=cf []
def Qva:Fn:=Am PG ZC 64 73 Qjm Yk
theorem Zo5 (x0 x1:Int):Qva [I x0,I x1]=
 some [I (mx 0 (mn x0 x1))]:=by kernel_rfl
def EM:=Qva
theorem Zsd:Ai PG (ZC):=Ao rfl trivial
theorem R2:Al PG (73,Ac Qjm Yk EM):=rw1 (C:=ZC) Zsd
def Ti:Sk:=⟨[TS.v true [CS.sl Aq,ci,ci,ci,ci,ci],tf [ci]],[],[]⟩
def Qb9:Sk:=⟨[tf [ci]],[],[]⟩
def ON (M:Fn):Nat×Spec:=(36,Ac Ti Qb9 M)
def Qnj (El Cw:Fn):Cfg:=cf [Qf0 El,SI Cw]
def Qdx (El Cw:Fn):Fn:=Am PG (Qnj El Cw) 64 36 Ti Qb9
theorem Zia (El Cw:Fn) (x0:Rw) (x1 x2 x3 x4 x5 x6:Int):Qdx El Cw [.view Aq x0,I x1,I x2,I x3,I x4,I x5,I x6]=
 (Cw [I x6,I x1]).bind fun o2=>
 (El [.view Aq x0,I x1,I x2,I x3,I x4,I x5,jA o2 0]).bind fun o3=>
 bif decide (gA o3 0<0)then
 some [I x2]
 else
 bif decide (0<=gA o3 0)&&decide (gA o3 0<(x0.length:Int))then
 bif decide (0<=gA o3 0)&&decide (gA o3 0<(x0.length:Int))then
 bif decide (0<=gA o3 0)&&decide (gA o3 0<(x0.length:Int))then
 some [I (IntKind.i64.wrap (gA (nth [] x0 (gA o3 0).toNat) 2+IntKind.i64.wrap (gA (nth [] x0 (gA o3 0).toNat) 3*IntKind.i64.wrap (gA o2 0-gA (nth [] x0 (gA o3 0).toNat) 0))))]
 else
 none
 else
 none
 else
 none:=by kernel_rfl
def Dx:=Qdx Ga EM
theorem Zf1:Ai PG (Qnj Ga EM):=Ao rfl ⟨Y8,R2,trivial⟩
theorem Oy:Al PG (36,Ac Ti Qb9 Dx):=rw1 (C:=(Qnj Ga EM)) Zf1
def Zb:Sk:=⟨[TS.v true [ci,ci,ci,CS.sl Ah,CS.sl kPt],TS.v true [ci,ci,ci,ci,ci,ci,ci,ci,ci,CS.sl Aa,ci,ci,ci,ci,ci,ci,ci,ci,ci,CS.sl Aa,ci,ci,ci,ci,ci,ci,ci,ci,ci,CS.sl Aa],TS.v true [CS.sl Aq,ci,ci,ci,ci,ci],tf [ci]],[],[]⟩
def X7:Sk:=⟨[TS.v true [ci,ci,ci]],[],[]⟩
def SU (M:Fn):Nat×Spec:=(29,Ac Zb X7 M)
def Qlg (Fh Bv Fl El Me Bu Cw:Fn):Cfg:={cf [Zp9 Fh,Qv4 Bv,Zq0 Fl,Qf0 El,Zi2 Me,ON Bu,SI Cw]with unroll:=[6]}
def Qgz (Fh Bv Fl El Me Bu Cw:Fn):Fn:=Am PG (Qlg Fh Bv Fl El Me Bu Cw) 64 29 Zb X7
abbrev TK (Fl:Fn) (x:Ax3) (o27 o28:List AC) (Bv:Fn) (t:Trk) (h1_0:AC) (Fh:Fn) (o25:List AC) (h2_0:AC):Option (List AC):=
 (Fl [I x.c.step,I x.c.speed,I x.c.accel,I x.c.jerk,I x.c.low,I x.c.high,I x.c.back,I x.c.origin,I x.c.spacing, .view Aa (x.c.pitch.map At),jA o27 2]).bind fun o33=>
 bif decide (gA o28 0<0)then
 (Bv [I x.c.step,I x.c.speed,I x.c.accel,I x.c.jerk,I x.c.low,I x.c.high,I x.c.back,I x.c.origin,I x.c.spacing, .view Aa (x.c.pitch.map At),I t.dirs.z]).bind fun o34=>
 some [h1_0,h2_0,I (IntKind.i64.wrap (gA o33 0+gA o34 0))]
 else
 bif decide (0<=gA o28 0)&&decide (gA o28 0<((t.pieces.map AM).length:Int))then
 (Fh (I x.c.step::I x.c.speed::I x.c.accel::I x.c.jerk::I x.c.low::I x.c.high::I x.c.back::I x.c.origin::I x.c.spacing:: .view Aa (x.c.pitch.map At)::(AK Aq (nth [] (t.pieces.map AM) (gA o28 0).toNat)++[I (IntKind.i64.wrap (IntKind.i64.wrap (0+1)+1)),jA o25 0]))).bind fun o35=>
 some [h1_0,h2_0,I (IntKind.i64.wrap (gA o33 0+gA o35 0))]
 else
 none
attribute [go_sem] TK
abbrev Tl (Fl:Fn) (x:Ax3) (o27 o28:List AC) (Bv:Fn) (t:Trk) (Fh:Fn) (o25:List AC) (h1_0:AC):Option (List AC):=
 (Fl [I x.b.step,I x.b.speed,I x.b.accel,I x.b.jerk,I x.b.low,I x.b.high,I x.b.back,I x.b.origin,I x.b.spacing, .view Aa (x.b.pitch.map At),jA o27 1]).bind fun o31=>
 bif decide (gA o28 0<0)then
 (Bv [I x.b.step,I x.b.speed,I x.b.accel,I x.b.jerk,I x.b.low,I x.b.high,I x.b.back,I x.b.origin,I x.b.spacing, .view Aa (x.b.pitch.map At),I t.dirs.y]).bind fun o32=>
 TK Fl x o27 o28 Bv t h1_0 Fh o25 (I (IntKind.i64.wrap (gA o31 0+gA o32 0)))
 else
 bif decide (0<=gA o28 0)&&decide (gA o28 0<((t.pieces.map AM).length:Int))then
 (Fh (I x.b.step::I x.b.speed::I x.b.accel::I x.b.jerk::I x.b.low::I x.b.high::I x.b.back::I x.b.origin::I x.b.spacing:: .view Aa (x.b.pitch.map At)::(AK Aq (nth [] (t.pieces.map AM) (gA o28 0).toNat)++[I (IntKind.i64.wrap (0+1)),jA o25 0]))).bind fun o36=>
 TK Fl x o27 o28 Bv t h1_0 Fh o25 (I (IntKind.i64.wrap (gA o31 0+gA o36 0)))
 else
 none
attribute [go_sem] Tl
theorem Q72 (Fh Bv Fl El Me Bu Cw:Fn) (x41:Int) (p:Pth) (x:Ax3) (t:Trk):Qgz Fh Bv Fl El Me Bu Cw (pxt p x t [I x41])=
 (Cw [I x41,I t.length]).bind fun o25=>
 (Bu [.view Aq (t.pieces.map AM),I t.length,I t.start,I t.dirs.x,I t.dirs.y,I t.dirs.z,jA o25 0]).bind fun o26=>
 (Me [I p.start.x,I p.start.y,I p.start.z, .view Ah (p.segs.map Ay), .view kPt (p.marks.map As),jA o26 0]).bind fun o27=>
 (El [.view Aq (t.pieces.map AM),I t.length,I t.start,I t.dirs.x,I t.dirs.y,I t.dirs.z,jA o25 0]).bind fun o28=>
 (Fl [I x.a.step,I x.a.speed,I x.a.accel,I x.a.jerk,I x.a.low,I x.a.high,I x.a.back,I x.a.origin,I x.a.spacing, .view Aa (x.a.pitch.map At),jA o27 0]).bind fun o29=>
 bif decide (gA o28 0<0)then
 (Bv [I x.a.step,I x.a.speed,I x.a.accel,I x.a.jerk,I x.a.low,I x.a.high,I x.a.back,I x.a.origin,I x.a.spacing, .view Aa (x.a.pitch.map At),I t.dirs.x]).bind fun o30=>
 Tl Fl x o27 o28 Bv t Fh o25 (I (IntKind.i64.wrap (gA o29 0+gA o30 0)))
 else
 bif decide (0<=gA o28 0)&&decide (gA o28 0<((t.pieces.map AM).length:Int))then
 (Fh (I x.a.step::I x.a.speed::I x.a.accel::I x.a.jerk::I x.a.low::I x.a.high::I x.a.back::I x.a.origin::I x.a.spacing:: .view Aa (x.a.pitch.map At)::(AK Aq (nth [] (t.pieces.map AM) (gA o28 0).toNat)++[I 0,jA o25 0]))).bind fun o40=>
 Tl Fl x o27 o28 Bv t Fh o25 (I (IntKind.i64.wrap (gA o29 0+gA o40 0)))
 else
 none:=by kernel_rfl
def En:=Qgz RJ IS Mm Ga Ph Dx EM
theorem Zl9:Ai PG (Qlg RJ IS Mm Ga Ph Dx EM):=Ao rfl ⟨Zmt,Q5k,Zhm,Y8,Q6t,Oy,R2,trivial⟩
theorem SG:Al PG (29,Ac Zb X7 En):=rw1 (C:=(Qlg RJ IS Mm Ga Ph Dx EM)) Zl9
def Qe7:Sk:=⟨[tf [ci],TS.v true [ci,ci,ci,ci,ci,ci,ci,ci,ci,ci,ci,ci,ci,CS.bool,ci,CS.bool,ci,ci,ci,ci,ci,CS.bool]],[],[]⟩
def Qae:Sk:=⟨[tf [ci]],[],[]⟩
def Zag (M:Fn):Nat×Spec:=(164,Ac Qe7 Qae M)
def Ud:Cfg:=cf []
def Qdk:Fn:=Am PG Ud 64 164 Qe7 Qae
theorem Zxj (x0 x1 x2 x3 x4 x5 x6 x7 x8 x9 x10 x11 x12 x13:Int) (x14:Bool) (x15:Int) (x16:Bool) (x17 x18 x19 x20 x21:Int) (x22:Bool):Qdk [I x0,I x1,I x2,I x3,I x4,I x5,I x6,I x7,I x8,I x9,I x10,I x11,I x12,I x13,B x14,I x15,B x16,I x17,I x18,I x19,I x20,I x21,B x22]=
 bif x1 !=10 then
 some [I x0]
 else
 bif decide (x20<0)then
 some [I x0]
 else
 bif decide (x20>=16)then
 some [I x0]
 else
 bif decide (IntKind.u64.wrap x20<0)then
 none
 else
 bif x22 then
 some [I (IntKind.i64.wrap (↑(BitVec.ofInt IntKind.i64.bits x0|||BitVec.ofInt IntKind.i64.bits (IntKind.i64.wrap (1*2^min (IntKind.u64.wrap x20).toNat IntKind.i64.bits))).toNat:Int))]
 else
 some [I (IntKind.i64.wrap (↑(BitVec.ofInt IntKind.i64.bits x0&&& ~~~BitVec.ofInt IntKind.i64.bits (IntKind.i64.wrap (1*2^min (IntKind.u64.wrap x20).toNat IntKind.i64.bits))).toNat:Int))]:=by kernel_rfl
def JX:=Qdk
theorem Z0r:Ai PG (Ud):=Ao rfl trivial
theorem Q7v:Al PG (164,Ac Qe7 Qae JX):=rw1 (C:=Ud) Z0r
def Qfd:Sk:=⟨[TS.v true [ci,ci,ci],TS.v true [ci,ci,CS.bool,CS.bool,CS.bool]],[],[]⟩
def Ts:Sk:=⟨[tf [CS.bool]],[],[]⟩
def Qzk (M:Fn):Nat×Spec:=(163,Ac Qfd Ts M)
def Qa5:Cfg:=cf []
def Vw:Fn:=Am PG Qa5 64 163 Qfd Ts
theorem Zd5 (x0 x1 x2 x3 x4:Int) (x5 x6 x7:Bool):Vw [I x0,I x1,I x2,I x3,I x4,B x5,B x6,B x7]=
 bif x1==1 then
 some [B true]
 else
 bif x1==3 then
 some [B true]
 else
 bif x1==6 then
 some [B true]
 else
 bif x1==4 then
 bif x7 then
 some [B true]
 else
 some [B x6]
 else
 bif x1==2 then
 some [B x6]
 else
 some [B false]:=by kernel_rfl
def HB:=Vw
theorem Zsy:Ai PG (Qa5):=Ao rfl trivial
theorem Qo6:Al PG (163,Ac Qfd Ts HB):=rw1 (C:=Qa5) Zsy
def Qh5:Sk:=⟨[tf [CS.ptr 20000 0],tf [ci]],[(20000,119,cS)],[]⟩
def Tp:Sk:=⟨[tf [CS.sl Aa]],[(20000,119,cS)],[]⟩
def Zq8 (M:Fn):Nat×Spec:=(111,Ac Qh5 Tp M)
def Vj (ED Cn:Fn):Cfg:={cf [Zag ED,Qzk Cn]with prom:=fun b=>bif Nat.beq b 2 then [(5,3)]else []}
def Qqt:Sk:=⟨[tf [CS.ptr 20000 0],tf [ci],td,td,td,tf [CS.own 5 1]]++dd 84,[(20000,119,cS)],[(5,3,Aa)]⟩
def Qts:List (Ex×Sk):=[(Ex.exit 0,⟨[td,td,td,td,td,tf [CS.own 5 1]]++dd 84,[(20000,119,cS)],[(5,3,Aa)]⟩)]
def SX (ED Cn:Fn):Lp:=AP PG (Vj ED Cn) 64 2 (AO PG 111 2) Qqt Qts
def Qpb (ED Cn:Fn) (N2:Lp):Cfg:=(Vj ED Cn).loop 2 Qqt Qts N2
def Qdd (ED Cn:Fn) (N2:Lp):Fn:=Am PG (Qpb ED Cn N2) 64 111 Qh5 Tp
abbrev LC (K:Kf) (c:Cv) (v0:Rw) (ED:Fn) (v1:Int):Option (Nat×List AC):=
 bif gA (nth [] (K.p.marks.map As) c.passed.toNat) 1==5 then
 bif((v0++[[jA (nth [] (K.p.marks.map As) c.passed.toNat) 2]]).length*8).ble 140737488355328 then
 bif decide (0<=gA (nth [] (K.p.marks.map As) c.passed.toNat) 2)&&decide (gA (nth [] (K.p.marks.map As) c.passed.toNat) 2<((K.items.map Ag).length:Int))then
 (ED (I c.outs::AK Ak (nth [] (K.items.map Ag) (gA (nth [] (K.p.marks.map As) c.passed.toNat) 2).toNat))).bind fun o10=>
 some (0,(.view Aa (v0++[[jA (nth [] (K.p.marks.map As) c.passed.toNat) 2]])::I v1::Ad K {c with outs:=gA o10 0,passed:=IntKind.i64.wrap (c.passed+1)}))
 else
 none
 else
 none
 else
 some (0,(.view Aa v0::I v1::Ad K {c with passed:=IntKind.i64.wrap (c.passed+1)}))
attribute [go_sem] LC
theorem Zff (ED Cn:Fn) (v0:Rw) (v1:Int) (K:Kf) (c:Cv):SX ED Cn (.view Aa v0::I v1::Ad K c)=
 bif decide (c.passed<((K.p.marks.map As).length:Int))then
 bif decide (0<=c.passed)&&decide (c.passed<((K.p.marks.map As).length:Int))then
 bif decide (gA (nth [] (K.p.marks.map As) c.passed.toNat) 0>v1)then
 some (1,(.view Aa v0::Ad K c))
 else
 bif gA (nth [] (K.p.marks.map As) c.passed.toNat) 0==v1 then
 bif decide (c.passed>=c.next)then
 (Cn [jA (nth [] (K.p.marks.map As) c.passed.toNat) 0,jA (nth [] (K.p.marks.map As) c.passed.toNat) 1,jA (nth [] (K.p.marks.map As) c.passed.toNat) 2,I c.o0,I c.o1,B c.o2,B c.o3,B c.o4]).bind fun o9=>
 bif bA o9 0 then
 some (1,(.view Aa v0::Ad K c))
 else
 LC K c v0 ED v1
 else
 LC K c v0 ED v1
 else
 LC K c v0 ED v1
 else
 none
 else
 some (1,(.view Aa v0::Ad K c)):=by kernel_rfl
theorem Zl3 (ED Cn:Fn) (N2:Lp) (x0:Int) (K:Kf) (c:Cv):Qdd ED Cn N2 (I x0::Ad K c)=
 (N2 (.view Aa []::I x0::Ad K c)).bind fun o13=>
 bif o13.1.beq 1 then
 some (.view Aa (wA o13.2 0)::cR 1 o13.2)
 else
 none:=by kernel_rfl
def Q1l:=An (SX JX HB)
def Oo:=Qdd JX HB Q1l
theorem Qq0:Ai PG (Vj JX HB):=Ao rfl ⟨Q7v,Qo6,trivial⟩
theorem Q9e:Al PG (111,Ac Qh5 Tp Oo):=rw2 (C:=(Qpb JX HB Q1l)) (fl fb Qq0) Qq0
def Z6:Sk:=⟨[TS.v true [ci,ci,ci,CS.sl Ah,CS.sl kPt],TS.v true [ci,ci,ci,ci,ci,ci,ci,ci,ci,CS.sl Aa,ci,ci,ci,ci,ci,ci,ci,ci,ci,CS.sl Aa,ci,ci,ci,ci,ci,ci,ci,ci,ci,CS.sl Aa],TS.v true [CS.sl Aq,ci,ci,ci,ci,ci],tf [ci],tf [ci]],[],[]⟩
def WI:Sk:=⟨[tf [CS.sl kPt]],[],[]⟩
def Zqm (M:Fn):Nat×Spec:=(25,Ac Z6 WI M)
def T_ (Ba:Fn):Cfg:={cf [SU Ba]with prom:=fun b=>bif Nat.beq b 5 then [(11,130)]else [],unroll:=[9]}
def Qvs:Sk:=⟨[td,td,td,td,tf [ci],tf [CS.ptr 5 0],tf [CS.ptr 6 0],tf [CS.ptr 7 0],td,td,td,tf [CS.own 11 3],tf [CS.ptr 12 0],tf [ci]]++dd 54,[(5,58,[ci,ci,ci,CS.sl Ah,CS.sl kPt]),(6,27,[ci,ci,ci,ci,ci,ci,ci,ci,ci,CS.sl Aa,ci,ci,ci,ci,ci,ci,ci,ci,ci,CS.sl Aa,ci,ci,ci,ci,ci,ci,ci,ci,ci,CS.sl Aa]),(7,62,[CS.sl Aq,ci,ci,ci,ci,ci]),(12,44,[ci,ci,ci])],[(11,130,kPt)]⟩
def Qn1:List (Ex×Sk):=[(Ex.exit 0,⟨[td,td,td,td,td,td,td,td,td,td,td,tf [CS.own 11 3]]++dd 56,[],[(11,130,kPt)]⟩)]
def Nv (Ba:Fn):Lp:=AP PG (T_ Ba) 64 5 (AO PG 25 5) Qvs Qn1
def Qup (Ba:Fn) (N5:Lp):Cfg:=(T_ Ba).loop 5 Qvs Qn1 N5
def Ri (Ba:Fn) (N5:Lp):Fn:=Am PG (Qup Ba N5) 64 25 Z6 WI
abbrev Mr (o6:List AC) (v46 v1 v2:Int) (p:Pth) (x:Ax3) (t:Trk) (h1_0:Bool) (h1_1 h1_2:AC):Option (Nat×List AC):=
 bif gA o6 2 !=v46 then
 bif h1_0 then
 some (0,(h1_1::I v1::I (IntKind.i64.wrap (v2+1))::pxt p x t [jA o6 0,jA o6 1,jA o6 2]))
 else
 none
 else
 some (0,(h1_2::I v1::I (IntKind.i64.wrap (v2+1))::pxt p x t [jA o6 0,jA o6 1,jA o6 2]))
attribute [go_sem] Mr
theorem Q2f (Ba:Fn) (v0:Rw) (v1 v2:Int) (v44 v45 v46:Int) (p:Pth) (x:Ax3) (t:Trk):Nv Ba (.view kPt v0::I v1::I v2::pxt p x t [I v44,I v45,I v46])=
 bif decide (v2<v1)then
 (Ba (pxt p x t [I (IntKind.i64.wrap (v2+1))])).bind fun o6=>
 bif gA o6 0 !=v44 then
 bif((v0++[[I (IntKind.i64.wrap (v2+1)),I 0,I (IntKind.i64.wrap (gA o6 0-v44))]]).length*24).ble 140737488355328 then
 bif gA o6 1 !=v45 then
 bif((v0++[[I (IntKind.i64.wrap (v2+1)),I 0,I (IntKind.i64.wrap (gA o6 0-v44))]]++[[I (IntKind.i64.wrap (v2+1)),I (IntKind.i64.wrap (0+1)),I (IntKind.i64.wrap (gA o6 1-v45))]]).length*24).ble 140737488355328 then
 Mr o6 v46 v1 v2 p x t (((v0++[[I (IntKind.i64.wrap (v2+1)),I 0,I (IntKind.i64.wrap (gA o6 0-v44))]]++[[I (IntKind.i64.wrap (v2+1)),I (IntKind.i64.wrap (0+1)),I (IntKind.i64.wrap (gA o6 1-v45))]]++[[I (IntKind.i64.wrap (v2+1)),I (IntKind.i64.wrap (IntKind.i64.wrap (0+1)+1)),I (IntKind.i64.wrap (gA o6 2-v46))]]).length*24).ble 140737488355328) (.view kPt (v0++[[I (IntKind.i64.wrap (v2+1)),I 0,I (IntKind.i64.wrap (gA o6 0-v44))]]++[[I (IntKind.i64.wrap (v2+1)),I (IntKind.i64.wrap (0+1)),I (IntKind.i64.wrap (gA o6 1-v45))]]++[[I (IntKind.i64.wrap (v2+1)),I (IntKind.i64.wrap (IntKind.i64.wrap (0+1)+1)),I (IntKind.i64.wrap (gA o6 2-v46))]])) (.view kPt (v0++[[I (IntKind.i64.wrap (v2+1)),I 0,I (IntKind.i64.wrap (gA o6 0-v44))]]++[[I (IntKind.i64.wrap (v2+1)),I (IntKind.i64.wrap (0+1)),I (IntKind.i64.wrap (gA o6 1-v45))]]))
 else
 none
 else
 Mr o6 v46 v1 v2 p x t (((v0++[[I (IntKind.i64.wrap (v2+1)),I 0,I (IntKind.i64.wrap (gA o6 0-v44))]]++[[I (IntKind.i64.wrap (v2+1)),I (IntKind.i64.wrap (IntKind.i64.wrap (0+1)+1)),I (IntKind.i64.wrap (gA o6 2-v46))]]).length*24).ble 140737488355328) (.view kPt (v0++[[I (IntKind.i64.wrap (v2+1)),I 0,I (IntKind.i64.wrap (gA o6 0-v44))]]++[[I (IntKind.i64.wrap (v2+1)),I (IntKind.i64.wrap (IntKind.i64.wrap (0+1)+1)),I (IntKind.i64.wrap (gA o6 2-v46))]])) (.view kPt (v0++[[I (IntKind.i64.wrap (v2+1)),I 0,I (IntKind.i64.wrap (gA o6 0-v44))]]))
 else
 none
 else
 bif gA o6 1 !=v45 then
 bif((v0++[[I (IntKind.i64.wrap (v2+1)),I (IntKind.i64.wrap (0+1)),I (IntKind.i64.wrap (gA o6 1-v45))]]).length*24).ble 140737488355328 then
 Mr o6 v46 v1 v2 p x t (((v0++[[I (IntKind.i64.wrap (v2+1)),I (IntKind.i64.wrap (0+1)),I (IntKind.i64.wrap (gA o6 1-v45))]]++[[I (IntKind.i64.wrap (v2+1)),I (IntKind.i64.wrap (IntKind.i64.wrap (0+1)+1)),I (IntKind.i64.wrap (gA o6 2-v46))]]).length*24).ble 140737488355328) (.view kPt (v0++[[I (IntKind.i64.wrap (v2+1)),I (IntKind.i64.wrap (0+1)),I (IntKind.i64.wrap (gA o6 1-v45))]]++[[I (IntKind.i64.wrap (v2+1)),I (IntKind.i64.wrap (IntKind.i64.wrap (0+1)+1)),I (IntKind.i64.wrap (gA o6 2-v46))]])) (.view kPt (v0++[[I (IntKind.i64.wrap (v2+1)),I (IntKind.i64.wrap (0+1)),I (IntKind.i64.wrap (gA o6 1-v45))]]))
 else
 none
 else
 Mr o6 v46 v1 v2 p x t (((v0++[[I (IntKind.i64.wrap (v2+1)),I (IntKind.i64.wrap (IntKind.i64.wrap (0+1)+1)),I (IntKind.i64.wrap (gA o6 2-v46))]]).length*24).ble 140737488355328) (.view kPt (v0++[[I (IntKind.i64.wrap (v2+1)),I (IntKind.i64.wrap (IntKind.i64.wrap (0+1)+1)),I (IntKind.i64.wrap (gA o6 2-v46))]])) (.view kPt v0)
 else
 some (1,[.view kPt v0]):=by kernel_rfl
theorem Quv (Ba:Fn) (N5:Lp) (x41 x42:Int) (p:Pth) (x:Ax3) (t:Trk):Ri Ba N5 (pxt p x t [I x41,I x42])=
 (Ba (pxt p x t [I (mx 0 (mn x41 t.length))])).bind fun o7=>
 (N5 (.view kPt []::I (mx 0 (mn x42 t.length))::I (mx 0 (mn x41 t.length))::pxt p x t [jA o7 0,jA o7 1,jA o7 2])).bind fun o8=>
 bif o8.1.beq 1 then
 some [.view kPt (wA o8.2 0)]
 else
 none:=by kernel_rfl
def Qtz:=An (Nv En)
def Jo:=Ri En Qtz
theorem Qug:Ai PG (T_ En):=Ao rfl ⟨SG,trivial⟩
theorem Zk4:Al PG (25,Ac Z6 WI Jo):=rw2 (C:=(Qup En Qtz)) (fl fb Qug) Qug
def Z8:Sk:=⟨[tf [CS.ptr 20000 0]],[(20000,119,cS)],[]⟩
def Qmn:Sk:=⟨[tf [ci]],[],[]⟩
def OO (M:Fn):Nat×Spec:=(63,Ep Z8 Qmn M)
def O8:Cfg:=cf []
def Qmh:Fn:=L2 PG O8 64 63 Z8 Qmn
theorem Q6p (K:Kf) (c:Cv):Qmh (Ad K c)=
 some [I (IntKind.i64.wrap (c.m0.tdiv 256))]:=by kernel_rfl
def C7:=Qmh
theorem Znu:Ai PG (O8):=Ao rfl trivial
theorem Q7y (vars:List AC) (R:Type) (K:TV->Mem->Option R):EI PG O8 64 63 [TV.v false [AC.ptr 20000 0]] ⟨[(20000,(⟨119,(cR 0 vars)⟩:Box))],[]⟩ K=EI PG O8 64 63 [TV.v false [AC.ptr 20000 0]] ⟨[(20000,(⟨119,(cR 0 vars)⟩:Box))],[]⟩ (fun v _=>K v ⟨[(20000,(⟨119,(cR 0 vars)⟩:Box))],[]⟩):=Eq.trans (b:=(K (TV.v false [I (IntKind.i64.wrap ((gA vars 50).tdiv 256))]) ⟨[(20000,(⟨119,(cR 0 vars)⟩:Box))],[]⟩)) (by kernel_rfl) (Eq.symm (by kernel_rfl))
theorem OY:Al PG (63,Ep Z8 Qmn C7):=RN (C:=O8) (L:=64) (by kernel_rfl) (FnOK.bare rfl rfl rfl) Znu eqOk H6 (by kernel_rfl) (by kernel_rfl) (fun vars R K=>Q7y vars R K)
def XO:Sk:=⟨[tf [CS.ptr 20000 0]],[(20000,119,cS)],[]⟩
def Qlr:Sk:=⟨[tf [ci]],[],[]⟩
def Ni (M:Fn):Nat×Spec:=(110,Ep XO Qlr M)
def Pp (Bu AZ:Fn):Cfg:=cr [ON Bu,OO AZ] [63] [63]
def Qkk (Bu AZ:Fn):Fn:=L2 PG (Pp Bu AZ) 64 110 XO Qlr
theorem Zdl (Bu AZ:Fn) (K:Kf) (c:Cv):Qkk Bu AZ (Ad K c)=
 (AZ (Ad K c)).bind fun o2=>
 (Bu (Bh K.t++[jA o2 0])).bind fun o3=>
 some [jA o3 0]:=by kernel_rfl
def CO:=Qkk Dx C7
theorem Zyt:Ai PG (Pp Dx C7):=Gc (rs:=[63]) rfl ⟨Oy,OY,trivial⟩ rfl (BZ rfl (EA F_))
theorem Zwp (vars : List AC) (R : Type) (K : TV -> Mem -> Option R) : EI PG (Pp Dx C7) 64 110 [TV.v false [AC.ptr 20000 0]] ⟨[(20000, (⟨119, (cR 0 vars)⟩ : Box))], []⟩ K = EI PG (Pp Dx C7) 64 110 [TV.v false [AC.ptr 20000 0]] ⟨[(20000, (⟨119, (cR 0 vars)⟩ : Box))], []⟩ (fun v _ => K v ⟨[(20000, (⟨119, (cR 0 vars)⟩ : Box))], []⟩) := Eq.trans (b := ((C7 (cR 0 vars)).bind fun o2 =>
 (Dx [.view Aq (wA vars 44),jA vars 45,jA vars 46,jA vars 47,jA vars 48,jA vars 49,jA o2 0]).bind fun o3=>
 K (TV.v false [jA o3 0]) ⟨[(20000,(⟨119,(cR 0 vars)⟩:Box))],[]⟩)) (by kernel_rfl) (Eq.symm (by kernel_rfl))
theorem MY:Al PG (110,Ep XO Qlr CO):=RN (C:=(Pp Dx C7)) (L:=64) (by kernel_rfl) (FnOK.bare rfl rfl rfl) Zyt eqOk H6 (by kernel_rfl) (by kernel_rfl) (fun vars R K=>Zwp vars R K)
def Zx:Sk:=⟨[tf [CS.ptr 20000 0],tf [CS.ptr 20001 0],tf [ci]],[(20000,119,cS),(20001,46,[CS.sl kPt,CS.sl Aa,ci,ci,ci,ci,ci,ci,ci])],[]⟩
def Qf5:Sk:=⟨[TS.tup []],[(20000,119,cS),(20001,46,[CS.sl kPt,CS.sl Aa,ci,ci,ci,ci,ci,ci,ci])],[]⟩
def Q8j (M:Fn):Nat×Spec:=(71,Ac Zx Qf5 M)
def Qj9 (Ba IZ NY Bj AZ:Fn):Cfg:=cr [SU Ba,Zq8 IZ,Zqm NY,Ni Bj,OO AZ] [111,110,63] [110,63]
def Qii (Ba IZ NY Bj AZ:Fn):Fn:=Am PG (Qj9 Ba IZ NY Bj AZ) 64 71 Zx Qf5
abbrev Xi (c:Cv) (IZ:Fn) (o10:List AC) (K:Kf) (Ba:Fn) (o9:List AC) (x93:Int) (x92:Rw) (h1_0:AC):Option (List AC):=
 bif c.way==0 then
 (IZ (jA o10 0::Ad K c)).bind fun o12=>
 (Ba [jA o12 38,jA o12 39,jA o12 40, .view Ah (wA o12 41), .view kPt (wA o12 42),jA o12 1,jA o12 2,jA o12 3,jA o12 4,jA o12 5,jA o12 6,jA o12 7,jA o12 8,jA o12 9, .view Aa (wA o12 10),jA o12 11,jA o12 12,jA o12 13,jA o12 14,jA o12 15,jA o12 16,jA o12 17,jA o12 18,jA o12 19, .view Aa (wA o12 20),jA o12 21,jA o12 22,jA o12 23,jA o12 24,jA o12 25,jA o12 26,jA o12 27,jA o12 28,jA o12 29, .view Aa (wA o12 30), .view Aq (wA o12 45),jA o12 46,jA o12 47,jA o12 48,jA o12 49,jA o12 50,jA o9 0]).bind fun o13=>
 some (cR 1 o12++[h1_0, .view Aa (wA o12 0),I x93,jA o10 0,jA o13 0,jA o13 1,jA o13 2,jA o12 68,jA o12 63])
 else
 (Ba (pxt K.p K.x K.t [jA o9 0])).bind fun o14=>
 some (Ad K c++[h1_0, .view Aa x92,I x93,jA o10 0,jA o14 0,jA o14 1,jA o14 2,I c.s3,I c.g1])
attribute [go_sem] Xi
theorem Zpb (Ba IZ NY Bj AZ:Fn) (x0:Int) (x91 x92:Rw) (x93 x94 x95 x96 x97 x98 x99:Int) (K:Kf) (c:Cv):Qii Ba IZ NY Bj AZ (I x0::(Ad K c++[.view kPt x91, .view Aa x92,I x93,I x94,I x95,I x96,I x97,I x98,I x99]))=
 (AZ (Ad K c)).bind fun o9=>
 (Bj (Ad K c)).bind fun o10=>
 bif !c.changed then
 (NY (pxt K.p K.x K.t [I x0,jA o9 0])).bind fun o11=>
 Xi c IZ o10 K Ba o9 x93 x92 (.view kPt (wA o11 0))
 else
 Xi c IZ o10 K Ba o9 x93 x92 (.view kPt x91):=by kernel_rfl
def K1:=Qii En Oo Jo CO C7
theorem Zyi:Ai PG (Qj9 En Oo Jo CO C7):=Gc (rs:=[110,63]) rfl ⟨SG,Q9e,Zk4,MY,OY,trivial⟩ rfl (BZ rfl (BZ rfl (BZ rfl (EA (EA F_)))))
theorem Zrj:Al PG (71,Ac Zx Qf5 K1):=rw1 (C:=(Qj9 En Oo Jo CO C7)) Zyi
def Qib:Sk:=⟨[tf [CS.ptr 20000 0]],[(20000,119,cS)],[]⟩
def Qd3:Sk:=⟨[TS.tup []],[(20000,119,cS)],[]⟩
def WA (M:Fn):Nat×Spec:=(108,Ac Qib Qd3 M)
def Qgg:Cfg:=cf []
def Qhn:Fn:=Am PG Qgg 64 108 Qib Qd3
theorem Zf6 (K:Kf) (c:Cv):Qhn (Ad K c)=
 bif c.g0==0 then
 some (Ad K {c with o2:=true,g0:=1,g1:=18,g2:= -1})
 else
 some (Ad K c):=by kernel_rfl
def FW:=Qhn
theorem Zil:Ai PG (Qgg):=Ao rfl trivial
theorem Vx:Al PG (108,Ac Qib Qd3 FW):=rw1 (C:=Qgg) Zil
def Qew:Sk:=⟨[TS.v true [ci,ci,ci],tf [ci]],[],[]⟩
def Qlc:Sk:=⟨[tf [ci]],[],[]⟩
def Qv1 (M:Fn):Nat×Spec:=(174,Ac Qew Qlc M)
def Va:Cfg:=cf []
def Q9:Fn:=Am PG Va 64 174 Qew Qlc
theorem Qhf (x0 x1 x2 x3:Int):Q9 [I x0,I x1,I x2,I x3]=
 bif decide (x3<=0)then
 some [I 0]
 else
 bif decide (x1<=0)then
 some [I 0]
 else
 bif decide (x1=0)then
 none
 else
 some [I (IntKind.i64.wrap (IntKind.i64.wrap (IntKind.i64.wrap ((IntKind.i64.wrap (x3-1)).tdiv x1)*x3)-IntKind.i64.wrap (x1*IntKind.i64.wrap ((IntKind.i64.wrap (IntKind.i64.wrap ((IntKind.i64.wrap (x3-1)).tdiv x1)*IntKind.i64.wrap (IntKind.i64.wrap ((IntKind.i64.wrap (x3-1)).tdiv x1)+1))).tdiv 2))))]:=by kernel_rfl
def GE:=Q9
theorem Zx2:Ai PG (Va):=Ao rfl trivial
theorem Qo2:Al PG (174,Ac Qew Qlc GE):=rw1 (C:=Va) Zx2
def V8:Sk:=⟨[TS.v true [ci,ci,ci]],[],[]⟩
def Qfg:Sk:=⟨[tf [CS.bool]],[],[]⟩
def Qgd (M:Fn):Nat×Spec:=(87,Ac V8 Qfg M)
def VZ:Cfg:=cf []
def Q23:Fn:=Am PG VZ 64 87 V8 Qfg
theorem Z0j (x0 x1 x2:Int):Q23 [I x0,I x1,I x2]=
 bif decide (1<=x0)then
 bif decide (x0<=65536)then
 bif decide (2<=x1)then
 bif decide (x1<=65536)then
 bif decide (1<=x2)then
 some [B (decide (x2<=16777216))]
 else
 some [B false]
 else
 some [B false]
 else
 some [B false]
 else
 some [B false]
 else
 some [B false]:=by kernel_rfl
def ES:=Q23
theorem Zgn:Ai PG (VZ):=Ao rfl trivial
theorem WP:Al PG (87,Ac V8 Qfg ES):=rw1 (C:=VZ) Zgn
def Qhr:Sk:=⟨[TS.v true [ci,ci,ci],tf [ci],tf [ci]],[],[]⟩
def Qmo:Sk:=⟨[tf [ci]],[],[]⟩
def Qfo (M:Fn):Nat×Spec:=(129,Ac Qhr Qmo M)
def Qar (C5 BF:Fn):Cfg:=cf [Qv1 C5,Qgd BF]
def Qwh:Sk:=⟨[td,tf [ci],td,tf [CS.ptr 3 0],td,td,td,tf [ci],tf [ci]]++dd 49,[(3,29,[ci,ci,ci])],[]⟩
def Qyz:List (Ex×Sk):=[(Ex.exit 0,⟨[td,td,td,td,td,td,td,tf [ci]]++dd 50,[],[]⟩)]
def Nb (C5 BF:Fn):Lp:=AP PG (Qar C5 BF) 64 4 (AO PG 129 4) Qwh Qyz
def Qnt (C5 BF:Fn) (N4:Lp):Cfg:=(Qar C5 BF).loop 4 Qwh Qyz N4
def Ru (C5 BF:Fn) (N4:Lp):Fn:=Am PG (Qnt C5 BF N4) 64 129 Qhr Qmo
theorem Qy0 (C5 BF:Fn) (v0 v1 v2 v3 v4 v5:Int):Nb C5 BF [I v0,I v1,I v2,I v3,I v4,I v5]=
 bif decide (v1<v2)then
 (C5 [I v3,I v4,I v5,I (IntKind.i64.wrap (v2-IntKind.i64.wrap ((IntKind.i64.wrap (v2-v1)).tdiv 2)))]).bind fun o4=>
 bif decide (IntKind.i64.wrap (v0-IntKind.i64.wrap (v2-IntKind.i64.wrap ((IntKind.i64.wrap (v2-v1)).tdiv 2)))>=gA o4 0)then
 some (0,[I v0,I (IntKind.i64.wrap (v2-IntKind.i64.wrap ((IntKind.i64.wrap (v2-v1)).tdiv 2))),I v2,I v3,I v4,I v5])
 else
 some (0,[I v0,I v1,I (IntKind.i64.wrap (IntKind.i64.wrap (v2-IntKind.i64.wrap ((IntKind.i64.wrap (v2-v1)).tdiv 2))-1)),I v3,I v4,I v5])
 else
 some (1,[I v1]):=by kernel_rfl
theorem Q0f (C5 BF:Fn) (N4:Lp) (x0 x1 x2 x3 x4:Int):Ru C5 BF N4 [I x0,I x1,I x2,I x3,I x4]=
 (BF [I x0,I x1,I x2]).bind fun o5=>
 bif !bA o5 0 then
 some [I 0]
 else
 bif decide (mx x4 x3>1099511627776)then
 some [I 0]
 else
 bif decide (mn x4 x3< -1099511627776)then
 some [I 0]
 else
 (N4 [I x3,I (IntKind.i64.wrap (IntKind.i64.wrap (0-x4)-x1)),I (mn (IntKind.i64.wrap (x1-x4)) x0),I x0,I x1,I x2]).bind fun o6=>
 bif o6.1.beq 1 then
 some [I (IntKind.i64.wrap (0-gA o6.2 0))]
 else
 none:=by kernel_rfl
def Qn4:=An (Nb GE ES)
def Fg:=Ru GE ES Qn4
theorem Q45:Ai PG (Qar GE ES):=Ao rfl ⟨Qo2,WP,trivial⟩
theorem Qc3:Al PG (129,Ac Qhr Qmo Fg):=rw2 (C:=(Qnt GE ES Qn4)) (fl fb Q45) Q45
def Wu:Sk:=⟨[tf [CS.sl Aa],tf [ci]],[],[]⟩
def XI:Sk:=⟨[tf [CS.bool]],[],[]⟩
def Zkx (M:Fn):Nat×Spec:=(121,Ac Wu XI M)
def C_limits_bounded_0:Cfg:=cf []
def Qt4:Sk:=⟨[td,tf [ci],td,td,td,td,td,tf [CS.sl Aa],tf [ci],tf [ci]]++dd 13,[],[]⟩
def Q4m:List (Ex×Sk):=[(Ex.ret,⟨[td,td,td,td,tf [CS.bool]]++dd 18,[],[]⟩),(Ex.exit 0,⟨[td]++dd 22,[],[]⟩)]
def V9:Lp:=AP PG C_limits_bounded_0 64 2 (AO PG 121 2) Qt4 Q4m
def Q06 (N2:Lp):Cfg:=C_limits_bounded_0.loop 2 Qt4 Q4m N2
def Tq (N2:Lp):Fn:=Am PG (Q06 N2) 64 121 Wu XI
theorem Zcp (v0:Int) (v1:Rw) (v2 v3:Int):V9 [I v0, .view Aa v1,I v2,I v3]=
 bif decide (v3<v2)then
 bif decide (0<=v3)&&decide (v3<(v1.length:Int))then
 bif decide (gA (nth [] v1 v3.toNat) 0>v0)then
 some (1,[B false])
 else
 bif decide (gA (nth [] v1 v3.toNat) 0<IntKind.i64.wrap (0-v0))then
 some (1,[B false])
 else
 some (0,[I v0, .view Aa v1,I v2,I (IntKind.i64.wrap (v3+1))])
 else
 none
 else
 some (2,[]):=by kernel_rfl
theorem Zi3 (N2:Lp) (x0:Rw) (x1:Int):Tq N2 [.view Aa x0,I x1]=
 (N2 [I x1, .view Aa x0,I (x0.length:Int),I 0]).bind fun o1=>
 bif o1.1.beq 1 then
 some [B (bA o1.2 0)]
 else
 bif o1.1.beq 2 then
 some [B true]
 else
 none:=by kernel_rfl
def Qnw:=An (V9)
def OU:=Tq Qnw
theorem Qvw:Ai PG (C_limits_bounded_0):=Ao rfl trivial
theorem Zpo:Al PG (121,Ac Wu XI OU):=rw2 (C:=(Q06 Qnw)) (fl fb Qvw) Qvw
def YQ:Sk:=⟨[tf [CS.sl Aa]],[],[]⟩
def Qjn:Sk:=⟨[tf [CS.sl Aa]],[],[]⟩
def Zyf (M:Fn):Nat×Spec:=(120,Ac YQ Qjn M)
def C_limits_Differences_0:Cfg:={cf []with prom:=fun b=>bif Nat.beq b 3 then [(3,3)]else []}
def Q30:Sk:=⟨[tf [CS.sl Aa],td,td,tf [CS.own 3 1],tf [ci]]++dd 20,[],[(3,3,Aa)]⟩
def Qua:List (Ex×Sk):=[(Ex.exit 0,⟨[td,td,td,tf [CS.own 3 1]]++dd 21,[],[(3,3,Aa)]⟩)]
def UX:Lp:=AP PG C_limits_Differences_0 64 3 (AO PG 120 3) Q30 Qua
def Qvo (N3:Lp):Cfg:=C_limits_Differences_0.loop 3 Q30 Qua N3
def Qbf (N3:Lp):Fn:=Am PG (Qvo N3) 64 120 YQ Qjn
theorem Zzs (v0 v1:Rw) (v2:Int):UX [.view Aa v0, .view Aa v1,I v2]=
 bif decide (v2<(v1.length:Int))then
 bif decide (0<=v2)&&decide (v2<(v1.length:Int))then
 bif decide (0<=IntKind.i64.wrap (v2-1))&&decide (IntKind.i64.wrap (v2-1)<(v1.length:Int))then
 bif((v0++[[I (IntKind.i64.wrap (gA (nth [] v1 v2.toNat) 0-gA (nth [] v1 (IntKind.i64.wrap (v2-1)).toNat) 0))]]).length*8).ble 140737488355328 then
 some (0,[.view Aa (v0++[[I (IntKind.i64.wrap (gA (nth [] v1 v2.toNat) 0-gA (nth [] v1 (IntKind.i64.wrap (v2-1)).toNat) 0))]]), .view Aa v1,I (IntKind.i64.wrap (v2+1))])
 else
 none
 else
 none
 else
 none
 else
 some (1,[.view Aa v0]):=by kernel_rfl
theorem Zmf (N3:Lp) (x0:Rw):Qbf N3 [.view Aa x0]=
 (N3 [.view Aa [], .view Aa x0,I 1]).bind fun o1=>
 bif o1.1.beq 1 then
 some [.view Aa (wA o1.2 0)]
 else
 none:=by kernel_rfl
def Quw:=An (UX)
def PC:=Qbf Quw
theorem Qq2:Ai PG (C_limits_Differences_0):=Ao rfl trivial
theorem Zih:Al PG (120,Ac YQ Qjn PC):=rw2 (C:=(Qvo Quw)) (fl fb Qq2) Qq2
def Qf6:Sk:=⟨[TS.v true [ci,ci,ci,ci,ci,ci,ci,ci,ci,CS.sl Aa],tf [CS.sl Aa]],[],[]⟩
def UL:Sk:=⟨[tf [CS.bool]],[],[]⟩
def Zxk (M:Fn):Nat×Spec:=(79,Ac Qf6 UL M)
def Qnn (JM I_:Fn):Cfg:={cf [Zkx JM,Zyf I_]with unroll:=[2]}
def Qc2 (JM I_:Fn):Fn:=Am PG (Qnn JM I_) 64 79 Qf6 UL
theorem Zmq (JM I_:Fn) (x0 x1 x2 x3 x4 x5 x6 x7 x8:Int) (x9 x10:Rw):Qc2 JM I_ [I x0,I x1,I x2,I x3,I x4,I x5,I x6,I x7,I x8, .view Aa x9, .view Aa x10]=
 (I_ [.view Aa x10]).bind fun o6=>
 (JM [.view Aa (wA o6 0),I x1]).bind fun o7=>
 bif !bA o7 0 then
 some [B false]
 else
 (I_ [.view Aa (wA o6 0)]).bind fun o8=>
 (JM [.view Aa (wA o8 0),I x2]).bind fun o9=>
 bif !bA o9 0 then
 some [B false]
 else
 (I_ [.view Aa (wA o8 0)]).bind fun o10=>
 (JM [.view Aa (wA o10 0),I x3]).bind fun o11=>
 bif !bA o11 0 then
 some [B false]
 else
 some [B true]:=by kernel_rfl
def KP:=Qc2 OU PC
theorem Zea:Ai PG (Qnn OU PC):=Ao rfl ⟨Zpo,Zih,trivial⟩
theorem Zpx:Al PG (79,Ac Qf6 UL KP):=rw1 (C:=(Qnn OU PC)) Zea
def Z5:Sk:=⟨[TS.v true [ci,ci,ci,ci,ci,ci,ci,ci,ci,CS.sl Aa,ci,ci,ci,ci,ci,ci,ci,ci,ci,CS.sl Aa,ci,ci,ci,ci,ci,ci,ci,ci,ci,CS.sl Aa],tf [CS.sl kPt]],[],[]⟩
def Qk6:Sk:=⟨[tf [CS.bool]],[],[]⟩
def Zj7 (M:Fn):Nat×Spec:=(31,Ac Z5 Qk6 M)
def XD (Dm:Fn):Cfg:=cf [Zxk Dm]
def Qrv:Sk:=⟨[td,tf [CS.sl kPt],tf [CS.ptr 2 0],td,td,tf [ci],tf [CS.own 13 1],td,tf [ci],td,td,td,td,td,td,tf [ci],tf [ci]]++dd 19,[(2,27,[ci,ci,ci,ci,ci,ci,ci,ci,ci,CS.sl Aa,ci,ci,ci,ci,ci,ci,ci,ci,ci,CS.sl Aa,ci,ci,ci,ci,ci,ci,ci,ci,ci,CS.sl Aa])],[(13,3,Aa)]⟩
def Qx7:List (Ex×Sk):=[(Ex.exit 2,⟨[td,tf [CS.sl kPt],tf [CS.ptr 2 0],td,td,tf [ci],tf [CS.own 13 1],td,tf [ci]]++dd 27,[(2,27,[ci,ci,ci,ci,ci,ci,ci,ci,ci,CS.sl Aa,ci,ci,ci,ci,ci,ci,ci,ci,ci,CS.sl Aa,ci,ci,ci,ci,ci,ci,ci,ci,ci,CS.sl Aa])],[(13,3,Aa)]⟩)]
def KR (Dm:Fn):Lp:=AP PG (XD Dm) 64 6 (AO PG 31 6) Qrv Qx7
def Q01 (Dm:Fn) (N6:Lp):Cfg:=(XD Dm).loop 6 Qrv Qx7 N6
def Q1c:Sk:=⟨[td,tf [CS.sl kPt],tf [CS.ptr 2 0],td,td,td,td,td,tf [ci]]++dd 27,[(2,27,[ci,ci,ci,ci,ci,ci,ci,ci,ci,CS.sl Aa,ci,ci,ci,ci,ci,ci,ci,ci,ci,CS.sl Aa,ci,ci,ci,ci,ci,ci,ci,ci,ci,CS.sl Aa])],[]⟩
def Q31:List (Ex×Sk):=[(Ex.ret,⟨[td,td,td,td,tf [CS.bool]]++dd 31,[],[]⟩),(Ex.exit 0,⟨[td]++dd 35,[],[]⟩)]
def SV (Dm:Fn) (N6:Lp):Lp:=AP PG (Q01 Dm N6) 64 2 (AO PG 31 2) Q1c Q31
def Qsf (Dm:Fn) (N6 N2:Lp):Cfg:=(Q01 Dm N6).loop 2 Q1c Q31 N2
def SB (Dm:Fn) (N6 N2:Lp):Fn:=Am PG (Qsf Dm N6 N2) 64 31 Z5 Qk6
theorem Zh5 (Dm:Fn) (v0 v1:Rw) (v2 v3 v4 v5 v6 v7 v8 v9 v10 v11 v12 v13 v14:Int) (v15:Rw) (v16 v17 v18 v19 v20 v21 v22 v23 v24:Int) (v25:Rw) (v26 v27 v28 v29 v30 v31 v32 v33 v34:Int) (v35:Rw):KR Dm [.view Aa v0, .view kPt v1,I v2,I v3,I v4,I v5,I v6,I v7,I v8,I v9,I v10,I v11,I v12,I v13,I v14, .view Aa v15,I v16,I v17,I v18,I v19,I v20,I v21,I v22,I v23,I v24, .view Aa v25,I v26,I v27,I v28,I v29,I v30,I v31,I v32,I v33,I v34, .view Aa v35]=
 bif decide (v5<v4)then
 bif decide (0<=v5)&&decide (v5<(v1.length:Int))then
 bif decide (v2=(↑0:Int))then
 bif decide (0<=v5)&&decide (v5<(v0.length:Int))then
 some (0,[.view Aa (v0.set v5.toNat [jA (nth [] v1 v5.toNat) 0]), .view kPt v1,I v2,I v3,I v4,I (IntKind.i64.wrap (v5+1)),I v6,I v7,I v8,I v9,I v10,I v11,I v12,I v13,I v14, .view Aa v15,I v16,I v17,I v18,I v19,I v20,I v21,I v22,I v23,I v24, .view Aa v25,I v26,I v27,I v28,I v29,I v30,I v31,I v32,I v33,I v34, .view Aa v35])
 else
 none
 else
 bif decide (v2=(↑(0+1):Int))then
 bif decide (0<=v5)&&decide (v5<(v0.length:Int))then
 some (0,[.view Aa (v0.set v5.toNat [jA (nth [] v1 v5.toNat) 1]), .view kPt v1,I v2,I v3,I v4,I (IntKind.i64.wrap (v5+1)),I v6,I v7,I v8,I v9,I v10,I v11,I v12,I v13,I v14, .view Aa v15,I v16,I v17,I v18,I v19,I v20,I v21,I v22,I v23,I v24, .view Aa v25,I v26,I v27,I v28,I v29,I v30,I v31,I v32,I v33,I v34, .view Aa v35])
 else
 none
 else
 bif decide (v2=(↑(0+1+1):Int))then
 bif decide (0<=v5)&&decide (v5<(v0.length:Int))then
 some (0,[.view Aa (v0.set v5.toNat [jA (nth [] v1 v5.toNat) 2]), .view kPt v1,I v2,I v3,I v4,I (IntKind.i64.wrap (v5+1)),I v6,I v7,I v8,I v9,I v10,I v11,I v12,I v13,I v14, .view Aa v15,I v16,I v17,I v18,I v19,I v20,I v21,I v22,I v23,I v24, .view Aa v25,I v26,I v27,I v28,I v29,I v30,I v31,I v32,I v33,I v34, .view Aa v35])
 else
 none
 else
 none
 else
 none
 else
 some (1,[.view Aa v0, .view kPt v1,I v2,I v3,I v6,I v7,I v8,I v9,I v10,I v11,I v12,I v13,I v14, .view Aa v15,I v16,I v17,I v18,I v19,I v20,I v21,I v22,I v23,I v24, .view Aa v25,I v26,I v27,I v28,I v29,I v30,I v31,I v32,I v33,I v34, .view Aa v35]):=by kernel_rfl
abbrev RL (o5:Nat×List AC) (h1_0:Bool):Option (Nat×List AC):=
 bif h1_0 then
 some (1,[B false])
 else
 some (0,[.view kPt (wA o5.2 1),I (IntKind.i64.wrap (gA o5.2 3+1)),jA o5.2 4,jA o5.2 5,jA o5.2 6,jA o5.2 7,jA o5.2 8,jA o5.2 9,jA o5.2 10,jA o5.2 11,jA o5.2 12, .view Aa (wA o5.2 13),jA o5.2 14,jA o5.2 15,jA o5.2 16,jA o5.2 17,jA o5.2 18,jA o5.2 19,jA o5.2 20,jA o5.2 21,jA o5.2 22, .view Aa (wA o5.2 23),jA o5.2 24,jA o5.2 25,jA o5.2 26,jA o5.2 27,jA o5.2 28,jA o5.2 29,jA o5.2 30,jA o5.2 31,jA o5.2 32, .view Aa (wA o5.2 33)])
attribute [go_sem] RL
theorem Zk1 (Dm:Fn) (N6:Lp) (v0:Rw) (v1 v2 v3 v4 v5 v6 v7 v8 v9 v10:Int) (v11:Rw) (v12 v13 v14 v15 v16 v17 v18 v19 v20:Int) (v21:Rw) (v22 v23 v24 v25 v26 v27 v28 v29 v30:Int) (v31:Rw):SV Dm N6 [.view kPt v0,I v1,I v2,I v3,I v4,I v5,I v6,I v7,I v8,I v9,I v10, .view Aa v11,I v12,I v13,I v14,I v15,I v16,I v17,I v18,I v19,I v20, .view Aa v21,I v22,I v23,I v24,I v25,I v26,I v27,I v28,I v29,I v30, .view Aa v31]=
 bif decide (v1<3)then
 bif decide ((v0.length:Int)=(v0.length:Int))then
 bif decide (0<=(v0.length:Int))&&decide ((v0.length:Int)*(↑8:Int)<=140737488355328)then
 (N6 [.view Aa (List.replicate (v0.length:Int).toNat [I 0]), .view kPt v0,I v1,I v1,I (v0.length:Int),I 0,I v2,I v3,I v4,I v5,I v6,I v7,I v8,I v9,I v10, .view Aa v11,I v12,I v13,I v14,I v15,I v16,I v17,I v18,I v19,I v20, .view Aa v21,I v22,I v23,I v24,I v25,I v26,I v27,I v28,I v29,I v30, .view Aa v31]).bind fun o5=>
 bif o5.1.beq 1 then
 bif decide (gA o5.2 2=(↑0:Int))then
 (Dm [jA o5.2 4,jA o5.2 5,jA o5.2 6,jA o5.2 7,jA o5.2 8,jA o5.2 9,jA o5.2 10,jA o5.2 11,jA o5.2 12, .view Aa (wA o5.2 13), .view Aa (wA o5.2 0)]).bind fun o6=>
 RL o5 (!bA o6 0)
 else
 bif decide (gA o5.2 2=(↑(0+1):Int))then
 (Dm [jA o5.2 14,jA o5.2 15,jA o5.2 16,jA o5.2 17,jA o5.2 18,jA o5.2 19,jA o5.2 20,jA o5.2 21,jA o5.2 22, .view Aa (wA o5.2 23), .view Aa (wA o5.2 0)]).bind fun o7=>
 RL o5 (!bA o7 0)
 else
 bif decide (gA o5.2 2=(↑(0+1+1):Int))then
 (Dm [jA o5.2 24,jA o5.2 25,jA o5.2 26,jA o5.2 27,jA o5.2 28,jA o5.2 29,jA o5.2 30,jA o5.2 31,jA o5.2 32, .view Aa (wA o5.2 33), .view Aa (wA o5.2 0)]).bind fun o8=>
 RL o5 (!bA o8 0)
 else
 none
 else
 none
 else
 none
 else
 none
 else
 some (2,[]):=by kernel_rfl
theorem Zpe (Dm:Fn) (N6 N2:Lp) (x0 x1 x2 x3 x4 x5 x6 x7 x8:Int) (x9:Rw) (x10 x11 x12 x13 x14 x15 x16 x17 x18:Int) (x19:Rw) (x20 x21 x22 x23 x24 x25 x26 x27 x28:Int) (x29 x30:Rw):SB Dm N6 N2 [I x0,I x1,I x2,I x3,I x4,I x5,I x6,I x7,I x8, .view Aa x9,I x10,I x11,I x12,I x13,I x14,I x15,I x16,I x17,I x18, .view Aa x19,I x20,I x21,I x22,I x23,I x24,I x25,I x26,I x27,I x28, .view Aa x29, .view kPt x30]=
 (N2 [.view kPt x30,I 0,I x0,I x1,I x2,I x3,I x4,I x5,I x6,I x7,I x8, .view Aa x9,I x10,I x11,I x12,I x13,I x14,I x15,I x16,I x17,I x18, .view Aa x19,I x20,I x21,I x22,I x23,I x24,I x25,I x26,I x27,I x28, .view Aa x29]).bind fun o9=>
 bif o9.1.beq 1 then
 some [B (bA o9.2 0)]
 else
 bif o9.1.beq 2 then
 some [B true]
 else
 none:=by kernel_rfl
def Ql8:=An (KR KP)
def Qra:=An (SV KP Ql8)
def Mv:=SB KP Ql8 Qra
theorem Ut:Ai PG (XD KP):=Ao rfl ⟨Zpx,trivial⟩
theorem Zk6:Al PG (31,Ac Z5 Qk6 Mv):=rw2 (C:=(Qsf KP Ql8 Qra)) (fl (fl fb Ut) Ut) Ut
def Qgr:Sk:=⟨[tf [ci]],[],[]⟩
def Xg:Sk:=⟨[tf [ci]],[],[]⟩
def Qti (M:Fn):Nat×Spec:=(197,Ac Qgr Xg M)
def Qlb:Cfg:=cf []
def Qg6:Fn:=Am PG Qlb 64 197 Qgr Xg
theorem Zzz (x0:Int):Qg6 [I x0]=
 bif decide (x0.tmod 256<0)then
 some [I (IntKind.i64.wrap (IntKind.i64.wrap (x0.tdiv 256)-1))]
 else
 some [I (IntKind.i64.wrap (x0.tdiv 256))]:=by kernel_rfl
def It:=Qg6
theorem Zk7:Ai PG (Qlb):=Ao rfl trivial
theorem Q2m:Al PG (197,Ac Qgr Xg It):=rw1 (C:=Qlb) Zk7
def Qns:Sk:=⟨[TS.v true [ci,ci,ci,CS.sl Ah,CS.sl kPt],TS.v true [ci,ci,ci,ci,ci,ci,ci,ci,ci,CS.sl Aa,ci,ci,ci,ci,ci,ci,ci,ci,ci,CS.sl Aa,ci,ci,ci,ci,ci,ci,ci,ci,ci,CS.sl Aa],TS.v true [CS.sl Aq,ci,ci,ci,ci,ci],tf [CS.sl Aa]],[],[]⟩
def Qng:Sk:=⟨[tf [CS.bool]],[],[]⟩
def Zfr (M:Fn):Nat×Spec:=(179,Ac Qns Qng M)
def Qld (FA Ba DH:Fn):Cfg:={cf [Zj7 FA,SU Ba,Qti DH]with lend:=fun f=>AH [31] f,cuts:=[30],prom:=fun b=>bif Nat.beq b 3 then [(9,44)]else []}
def Q4r:Sk:=⟨[td,td,td,td,tf [CS.ptr 4 0],tf [CS.ptr 5 0],tf [CS.ptr 6 0],td,td,tf [CS.own 9 3],td,td,tf [CS.sl Aa],tf [ci],tf [ci]]++dd 22,[(4,58,[ci,ci,ci,CS.sl Ah,CS.sl kPt]),(5,27,[ci,ci,ci,ci,ci,ci,ci,ci,ci,CS.sl Aa,ci,ci,ci,ci,ci,ci,ci,ci,ci,CS.sl Aa,ci,ci,ci,ci,ci,ci,ci,ci,ci,CS.sl Aa]),(6,62,[CS.sl Aq,ci,ci,ci,ci,ci])],[(9,44,kPt)]⟩
def Q6d:List (Ex×Sk):=[(Ex.ret,⟨[td,td,td,td,td,td,td,td,tf [CS.bool]]++dd 28,[],[]⟩),(Ex.exit 0,⟨[td]++dd 36,[],[]⟩)]
def Zg (FA Ba DH:Fn):Lp:=AP PG (Qld FA Ba DH) 64 3 (AO PG 179 3) Q4r Q6d
def Qxe (FA Ba DH:Fn) (N3:Lp):Cfg:=(Qld FA Ba DH).loop 3 Q4r Q6d N3
def Qfu (FA Ba DH:Fn) (N3:Lp):Fn:=Am PG (Qxe FA Ba DH N3) 64 179 Qns Qng
theorem Z0f (FA Ba DH:Fn) (v0 v1:Rw) (v2 v3:Int) (p:Pth) (x:Ax3) (t:Trk):Zg FA Ba DH (.view kPt v0:: .view Aa v1::I v2::I v3::pxt p x t [])=
 bif decide (v3<v2)then
 bif decide (0<=v3)&&decide (v3<(v1.length:Int))then
 (DH [jA (nth [] v1 v3.toNat) 0]).bind fun o8=>
 (Ba (pxt p x t [jA o8 0])).bind fun o9=>
 bif((v0++[[jA o9 0,jA o9 1,jA o9 2]]).length*24).ble 140737488355328 then
 bif decide ((↑(v0++[[jA o9 0,jA o9 1,jA o9 2]]).length:Int)>4)then
 bif decide (0<=1)&&decide (1<=(↑(v0++[[jA o9 0,jA o9 1,jA o9 2]]).length:Int))then
 bif(Int.toNat 1).ble (v0++[[jA o9 0,jA o9 1,jA o9 2]]).length then
 (FA (AJ x++[.view kPt (List.drop (Int.toNat 1) (v0++[[jA o9 0,jA o9 1,jA o9 2]]))])).bind fun o10=>
 bif !bA o10 0 then
 some (1,[B false])
 else
 some (0,(.view kPt (List.drop (Int.toNat 1) (v0++[[jA o9 0,jA o9 1,jA o9 2]])):: .view Aa v1::I v2::I (IntKind.i64.wrap (v3+1))::pxt p x t []))
 else
 none
 else
 none
 else
 (FA (AJ x++[.view kPt (v0++[[jA o9 0,jA o9 1,jA o9 2]])])).bind fun o11=>
 bif !bA o11 0 then
 some (1,[B false])
 else
 some (0,(.view kPt (v0++[[jA o9 0,jA o9 1,jA o9 2]]):: .view Aa v1::I v2::I (IntKind.i64.wrap (v3+1))::pxt p x t []))
 else
 none
 else
 none
 else
 some (2,[]):=by kernel_rfl
theorem Zbl (FA Ba DH:Fn) (N3:Lp) (x41:Rw) (p:Pth) (x:Ax3) (t:Trk):Qfu FA Ba DH N3 (pxt p x t [.view Aa x41])=
 (N3 (.view kPt []:: .view Aa x41::I (x41.length:Int)::I 0::pxt p x t [])).bind fun o12=>
 bif o12.1.beq 1 then
 some [B (bA o12.2 0)]
 else
 bif o12.1.beq 2 then
 some [B true]
 else
 none:=by kernel_rfl
def Q0a:=An (Zg Mv En It)
def Ox:=Qfu Mv En It Q0a
theorem Qw1:Ai PG (Qld Mv En It):=Ao rfl ⟨Zk6,SG,Q2m,trivial⟩
theorem Zbw:Al PG (179,Ac Qns Qng Ox):=rw2 (C:=(Qxe Mv En It Q0a)) (fl fb Qw1) Qw1
def Qjd:Sk:=⟨[TS.v true [ci,ci,ci],tf [ci],tf [ci]],[],[]⟩
def Vh:Sk:=⟨[tf [CS.bool]],[],[]⟩
def Q4o (M:Fn):Nat×Spec:=(128,Ac Qjd Vh M)
def Vs (C5:Fn):Cfg:=cf [Qv1 C5]
def Pv (C5:Fn):Fn:=Am PG (Vs C5) 64 128 Qjd Vh
theorem Xu (C5:Fn) (x0 x1 x2 x3 x4:Int):Pv C5 [I x0,I x1,I x2,I x3,I x4]=
 bif decide (x4<IntKind.i64.wrap (0-x0))then
 some [B false]
 else
 bif decide (x4>x0)then
 some [B false]
 else
 bif x3==0 then
 bif decide (x4>x1)then
 some [B false]
 else
 (C5 [I x0,I x1,I x2,I (IntKind.i64.wrap (0-x4))]).bind fun o4=>
 bif decide (x3>=gA o4 0)then
 (C5 [I x0,I x1,I x2,I x4]).bind fun o5=>
 some [B (decide (x3<=IntKind.i64.wrap (16777216-gA o5 0)))]
 else
 some [B false]
 else
 (C5 [I x0,I x1,I x2,I (IntKind.i64.wrap (0-x4))]).bind fun o6=>
 bif decide (x3>=gA o6 0)then
 (C5 [I x0,I x1,I x2,I x4]).bind fun o7=>
 some [B (decide (x3<=IntKind.i64.wrap (16777216-gA o7 0)))]
 else
 some [B false]:=by kernel_rfl
def F9:=Pv GE
theorem Zyd:Ai PG (Vs GE):=Ao rfl ⟨Qo2,trivial⟩
theorem Q15:Al PG (128,Ac Qjd Vh F9):=rw1 (C:=(Vs GE)) Zyd
def WB:Sk:=⟨[TS.v true [ci,ci,ci],tf [ci],tf [ci]],[],[]⟩
def Ws:Sk:=⟨[TS.tup [(false,[CS.sl Aa]),(false,[CS.bool])]],[],[]⟩
def Zg2 (M:Fn):Nat×Spec:=(82,Ac WB Ws M)
def WW (Bk Co BF:Fn):Cfg:={cf [Qfo Bk,Q4o Co,Qgd BF]with prom:=fun b=>bif Nat.beq b 4 then [(8,3)]else []}
def Qpu:Sk:=⟨[td,tf [ci],tf [ci],tf [CS.ptr 3 0],td,td,td,td,tf [CS.own 8 1]]++dd 27,[(3,29,[ci,ci,ci])],[(8,3,Aa)]⟩
def Qoc:List (Ex×Sk):=[(Ex.ret,⟨[td,td,td,td,td,td,tf [CS.nil],tf [CS.bool]]++dd 28,[],[]⟩),(Ex.exit 0,⟨[td,td,td,td,td,td,td,td,tf [CS.own 8 1]]++dd 27,[],[(8,3,Aa)]⟩)]
def J4 (Bk Co BF:Fn):Lp:=AP PG (WW Bk Co BF) 64 4 (AO PG 82 4) Qpu Qoc
def Qok (Bk Co BF:Fn) (N4:Lp):Cfg:=(WW Bk Co BF).loop 4 Qpu Qoc N4
def P0 (Bk Co BF:Fn) (N4:Lp):Fn:=Am PG (Qok Bk Co BF N4) 64 82 WB Ws
theorem Qxx (Bk Co BF:Fn) (v0:Rw) (v1 v2 v3 v4 v5:Int):J4 Bk Co BF [.view Aa v0,I v1,I v2,I v3,I v4,I v5]=
 bif decide (v1>0)then
 bif(v0.length:Int)==4096 then
 some (1,[B false])
 else
 (Bk [I v3,I v4,I v5,I v1,I v2]).bind fun o9=>
 bif((v0++[[I (IntKind.i64.wrap (v1+gA o9 0))]]).length*8).ble 140737488355328 then
 some (0,[.view Aa (v0++[[I (IntKind.i64.wrap (v1+gA o9 0))]]),I (IntKind.i64.wrap (v1+gA o9 0)),jA o9 0,I v3,I v4,I v5])
 else
 none
 else
 some (2,[.view Aa v0]):=by kernel_rfl
theorem Qjv (Bk Co BF:Fn) (N4:Lp) (x0 x1 x2 x3 x4:Int):P0 Bk Co BF N4 [I x0,I x1,I x2,I x3,I x4]=
 (BF [I x0,I x1,I x2]).bind fun o10=>
 bif !bA o10 0 then
 some [.view Aa [],B false]
 else
 (Co [I x0,I x1,I x2,I x3,I x4]).bind fun o11=>
 bif !bA o11 0 then
 some [.view Aa [],B false]
 else
 (N4 [.view Aa [],I x3,I x4,I x0,I x1,I x2]).bind fun o12=>
 bif o12.1.beq 1 then
 some [.view Aa [],B (bA o12.2 0)]
 else
 bif o12.1.beq 2 then
 some [.view Aa (wA o12.2 0),B true]
 else
 none:=by kernel_rfl
def Q13:=An (J4 Fg F9 ES)
def I7:=P0 Fg F9 ES Q13
theorem Q0k:Ai PG (WW Fg F9 ES):=Ao rfl ⟨Qc3,Q15,WP,trivial⟩
theorem Zco:Al PG (82,Ac WB Ws I7):=rw2 (C:=(Qok Fg F9 ES Q13)) (fl fb Q0k) Q0k
def ZE:Sk:=⟨[TS.v true [ci,ci,ci],TS.v true [ci,ci,ci,ci,ci,ci]],[],[]⟩
def Qmt:Sk:=⟨[TS.tup [(false,[CS.sl Aa]),(false,[CS.bool])]],[],[]⟩
def Ux (M:Fn):Nat×Spec:=(39,Ac ZE Qmt M)
def Yp (Gy:Fn):Cfg:=cf [Zg2 Gy]
def Q0e:Sk:=⟨[td,td,td,td,td,td,td,td,tf [CS.own 25 1],tf [ci],td,td,td,td,td,td,td,td,td,td,td,td,td,td,td,td,td,td,tf [CS.sl Aa],tf [ci],tf [ci]]++dd 13,[],[(25,3,Aa)]⟩
def Qqp:List (Ex×Sk):=[(Ex.exit 0,⟨[td,td,td,td,td,td,td,td,tf [CS.own 25 1]]++dd 35,[],[(25,3,Aa)]⟩)]
def KG (Gy:Fn):Lp:=AP PG (Yp Gy) 64 7 (AO PG 39 7) Q0e Qqp
def Q1q (Gy:Fn) (N7:Lp):Cfg:=(Yp Gy).loop 7 Q0e Qqp N7
def OG (Gy:Fn) (N7:Lp):Fn:=Am PG (Q1q Gy N7) 64 39 ZE Qmt
theorem Qo0 (Gy:Fn) (v0:Rw) (v1:Int) (v2:Rw) (v3 v4:Int):KG Gy [.view Aa v0,I v1, .view Aa v2,I v3,I v4]=
 bif decide (v4<v3)then
 bif decide (0<=v4)&&decide (v4<(v2.length:Int))then
 bif decide (0<=v4)&&decide (v4<(v0.length:Int))then
 some (0,[.view Aa (v0.set v4.toNat [I (IntKind.i64.wrap (v1+gA (nth [] v2 v4.toNat) 0))]),I (IntKind.i64.wrap (v1+gA (nth [] v2 v4.toNat) 0)), .view Aa v2,I v3,I (IntKind.i64.wrap (v4+1))])
 else
 none
 else
 none
 else
 some (1,[.view Aa v0]):=by kernel_rfl
theorem Qje (Gy:Fn) (N7:Lp) (x0 x1 x2 x3 x4 x5 x6 x7 x8:Int):OG Gy N7 [I x0,I x1,I x2,I x3,I x4,I x5,I x6,I x7,I x8]=
 (Gy [I x0,I x1,I x2,I x4,I x5]).bind fun o3=>
 bif !bA o3 1 then
 some [.view Aa [],B false]
 else
 bif decide ((↑(wA o3 0).length:Int)=(↑(wA o3 0).length:Int))then
 bif decide (0<=(↑(wA o3 0).length:Int))&&decide ((↑(wA o3 0).length:Int)*(↑8:Int)<=140737488355328)then
 (N7 [.view Aa (List.replicate (↑(wA o3 0).length:Int).toNat [I 0]),I x3, .view Aa (wA o3 0),I (↑(wA o3 0).length:Int),I 0]).bind fun o4=>
 bif o4.1.beq 1 then
 some [.view Aa (wA o4.2 0),B true]
 else
 none
 else
 none
 else
 none:=by kernel_rfl
def Qz5:=An (KG I7)
def E2:=OG I7 Qz5
theorem Qx6:Ai PG (Yp I7):=Ao rfl ⟨Zco,trivial⟩
theorem ZJ:Al PG (39,Ac ZE Qmt E2):=rw2 (C:=(Q1q I7 Qz5)) (fl fb Qx6) Qx6
def VM:Sk:=⟨[TS.v true [ci,ci,ci,CS.sl Ah,CS.sl kPt],TS.v true [ci,ci,ci,ci,ci,ci,ci,ci,ci,CS.sl Aa,ci,ci,ci,ci,ci,ci,ci,ci,ci,CS.sl Aa,ci,ci,ci,ci,ci,ci,ci,ci,ci,CS.sl Aa],TS.v true [CS.sl Aq,ci,ci,ci,ci,ci],TS.v true [ci,ci,ci],TS.v true [ci,ci,ci,ci,ci,ci],tf [ci]],[],[]⟩
def Yg:Sk:=⟨[tf [CS.bool]],[],[]⟩
def Qzo (M:Fn):Nat×Spec:=(154,Ac VM Yg M)
def W2 (Lv Cc:Fn):Cfg:={cf [Zfr Lv,Ux Cc]with rowDst:=[48]}
def Qd5 (Lv Cc:Fn):Fn:=Am PG (W2 Lv Cc) 64 154 VM Yg
theorem Zdd (Lv Cc:Fn) (x41 x42 x43 x44 x45 x46 x47 x48 x49 x50:Int) (p:Pth) (x:Ax3) (t:Trk):Qd5 Lv Cc (pxt p x t [I x41,I x42,I x43,I x44,I x45,I x46,I x47,I x48,I x49,I x50])=
 (Cc [I x41,I x42,I x43,I x44,I x45,I x46,I x47,I x48,I x49]).bind fun o3=>
 bif !bA o3 1 then
 some [B false]
 else
 bif decide ((↑(wA o3 0).length:Int)>0)then
 bif decide (0<=IntKind.i64.wrap ((↑(wA o3 0).length:Int)-1))&&decide (IntKind.i64.wrap ((↑(wA o3 0).length:Int)-1)<(↑(wA o3 0).length:Int))then
 bif decide (Af (nth .dead (nth [] (wA o3 0) (IntKind.i64.wrap ((↑(wA o3 0).length:Int)-1)).toNat) 0)>IntKind.i64.wrap (x50*256))then
 some [B false]
 else
 bif(([[I x49],[I x48],[I x47],[I x44]]++wA o3 0).length*8).ble 140737488355328 then
 bif(([[I x49],[I x48],[I x47],[I x44]]++wA o3 0++[[I (Af (nth .dead (nth [] (wA o3 0) (IntKind.i64.wrap ((↑(wA o3 0).length:Int)-1)).toNat) 0))],[I (Af (nth .dead (nth [] (wA o3 0) (IntKind.i64.wrap ((↑(wA o3 0).length:Int)-1)).toNat) 0))]]).length*8).ble 140737488355328 then
 (Lv (pxt p x t [.view Aa ([[I x49],[I x48],[I x47],[I x44]]++wA o3 0++[[I (Af (nth .dead (nth [] (wA o3 0) (IntKind.i64.wrap ((↑(wA o3 0).length:Int)-1)).toNat) 0))],[I (Af (nth .dead (nth [] (wA o3 0) (IntKind.i64.wrap ((↑(wA o3 0).length:Int)-1)).toNat) 0))]])])).bind fun o4=>
 some [B (bA o4 0)]
 else
 none
 else
 none
 else
 none
 else
 bif decide (x44>IntKind.i64.wrap (x50*256))then
 some [B false]
 else
 bif(([[I x49],[I x48],[I x47],[I x44]]++wA o3 0).length*8).ble 140737488355328 then
 bif(([[I x49],[I x48],[I x47],[I x44]]++wA o3 0++[[I x44],[I x44]]).length*8).ble 140737488355328 then
 (Lv (pxt p x t [.view Aa ([[I x49],[I x48],[I x47],[I x44]]++wA o3 0++[[I x44],[I x44]])])).bind fun o5=>
 some [B (bA o5 0)]
 else
 none
 else
 none:=by kernel_rfl
def I6:=Qd5 Ox E2
theorem Zcd:Ai PG (W2 Ox E2):=Ao rfl ⟨Zbw,ZJ,trivial⟩
theorem Q3i:Al PG (154,Ac VM Yg I6):=rw1 (C:=(W2 Ox E2)) Zcd
def UG:Sk:=⟨[TS.v true [ci,ci,CS.bool,CS.bool,CS.bool],TS.v true [ci,ci,ci],TS.v true [ci,ci,ci,ci,ci,ci,ci]],[],[]⟩
def X9:Sk:=⟨[tf [ci]],[],[]⟩
def Zjy (M:Fn):Nat×Spec:=(198,Ac UG X9 M)
def Qcm:Cfg:=cf []
def Qmd:Fn:=Am PG Qcm 64 198 UG X9
theorem Zm8 (x0 x1:Int) (x2 x3 x4:Bool) (x5 x6 x7 x8 x9 x10 x11 x12 x13 x14:Int):Qmd [I x0,I x1,B x2,B x3,B x4,I x5,I x6,I x7,I x8,I x9,I x10,I x11,I x12,I x13,I x14]=
 bif x2 then
 some [I 0]
 else
 bif x14 !=0 then
 some [I (mn (mx x13 1) 16777216)]
 else
 bif x13==0 then
 bif x1==0 then
 some [I 0]
 else
 some [I (mn (mx (IntKind.i64.wrap ((IntKind.i64.wrap (x7*x1)).tdiv 100)) 1) 16777216)]
 else
 bif x0==0 then
 some [I 0]
 else
 some [I (mn (mx (IntKind.i64.wrap ((IntKind.i64.wrap (x13*x0)).tdiv 100)) 1) 16777216)]:=by kernel_rfl
def PW:=Qmd
theorem Q8m:Ai PG (Qcm):=Ao rfl trivial
theorem Zes:Al PG (198,Ac UG X9 PW):=rw1 (C:=Qcm) Q8m
def Qej:Sk:=⟨[TS.v true [ci,ci,ci,CS.sl Ah,CS.sl kPt],TS.v true [CS.sl Aq,ci,ci,ci,ci,ci],TS.v true [ci,ci,ci],TS.v true [ci,ci,CS.bool,CS.bool,CS.bool],tf [ci]],[],[]⟩
def TT:Sk:=⟨[tf [ci]],[],[]⟩
def Zeg (M:Fn):Nat×Spec:=(178,Ac Qej TT M)
def U1 (Mg C8 Bu DH:Fn):Cfg:=cf [Zjy Mg,VR C8,ON Bu,Qti DH]
def ZY (Mg C8 Bu DH:Fn):Fn:=Am PG (U1 Mg C8 Bu DH) 64 178 Qej TT
theorem Ze1 (Mg C8 Bu DH:Fn) (x11 x12 x13 x14 x15:Int) (x16 x17 x18:Bool) (x19:Int) (p:Pth) (t:Trk):ZY Mg C8 Bu DH (EZ p t [I x11,I x12,I x13,I x14,I x15,B x16,B x17,B x18,I x19])=
 (DH [I x19]).bind fun o4=>
 (Bu (Bh t++[jA o4 0])).bind fun o5=>
 (C8 (Bo p++[jA o5 0])).bind fun o6=>
 bif decide (0<=gA o6 0)&&decide (gA o6 0<((p.segs.map Ay).length:Int))then
 (Mg (I x14::I x15::B x16::B x17::B x18::I x11::I x12::I x13::AK Ah (nth [] (p.segs.map Ay) (gA o6 0).toNat))).bind fun o7=>
 some [jA o7 0]
 else
 none:=by kernel_rfl
def LU:=ZY PW Eg Dx It
theorem Zlh:Ai PG (U1 PW Eg Dx It):=Ao rfl ⟨Zes,Xx,Oy,Q2m,trivial⟩
theorem Zmb:Al PG (178,Ac Qej TT LU):=rw1 (C:=(U1 PW Eg Dx It)) Zlh
def Qka:Sk:=⟨[TS.v true [ci,ci,ci,CS.sl Ah,CS.sl kPt],TS.v true [CS.sl Aq,ci,ci,ci,ci,ci],TS.v true [ci,ci,ci],TS.v true [ci,ci,CS.bool,CS.bool,CS.bool],TS.v true [ci,ci,ci,ci,ci,ci]],[],[]⟩
def Qhv:Sk:=⟨[tf [CS.bool]],[],[]⟩
def Zw2 (M:Fn):Nat×Spec:=(153,Ac Qka Qhv M)
def YE (FK Cc:Fn):Cfg:=cf [Zeg FK,Ux Cc]
def Qqr:Sk:=⟨[td,td,td,td,td,tf [CS.ptr 5 0],tf [CS.ptr 6 0],tf [CS.ptr 7 0],tf [CS.ptr 8 0],td,td,td,td,tf [ci],td,td,td,td,td,td,td,td,td,td,td,td,td,td,td,td,td,td,td,td,td,td,td,td,td,td,td,td,td,td,tf [CS.sl Aa],tf [ci],tf [ci]]++dd 15,[(5,58,[ci,ci,ci,CS.sl Ah,CS.sl kPt]),(6,62,[CS.sl Aq,ci,ci,ci,ci,ci]),(7,29,[ci,ci,ci]),(8,92,[ci,ci,CS.bool,CS.bool,CS.bool])],[]⟩
def Qri:List (Ex×Sk):=[(Ex.ret,⟨[td,td,td,td,td,td,td,td,td,td,tf [CS.bool]]++dd 51,[],[]⟩),(Ex.exit 0,⟨[td]++dd 61,[],[]⟩)]
def ZB (FK Cc:Fn):Lp:=AP PG (YE FK Cc) 64 6 (AO PG 153 6) Qqr Qri
def Q0l (FK Cc:Fn) (N6:Lp):Cfg:=(YE FK Cc).loop 6 Qqr Qri N6
def UR (FK Cc:Fn) (N6:Lp):Fn:=Am PG (Q0l FK Cc N6) 64 153 Qka Qhv
theorem Q97 (FK Cc:Fn) (v0:Int) (v1:Rw) (v2 v3:Int) (v15 v16 v17 v18 v19:Int) (v20 v21 v22:Bool) (p:Pth) (t:Trk):ZB FK Cc (I v0:: .view Aa v1::I v2::I v3::EZ p t [I v15,I v16,I v17,I v18,I v19,B v20,B v21,B v22])=
 bif decide (v3<v2)then
 bif decide (0<=v3)&&decide (v3<(v1.length:Int))then
 (FK (EZ p t [I v15,I v16,I v17,I v18,I v19,B v20,B v21,B v22,jA (nth [] v1 v3.toNat) 0])).bind fun o6=>
 bif decide (IntKind.i64.wrap (gA (nth [] v1 v3.toNat) 0-v0)>gA o6 0)then
 some (1,[B false])
 else
 some (0,(jA (nth [] v1 v3.toNat) 0:: .view Aa v1::I v2::I (IntKind.i64.wrap (v3+1))::EZ p t [I v15,I v16,I v17,I v18,I v19,B v20,B v21,B v22]))
 else
 none
 else
 some (2,[]):=by kernel_rfl
theorem Zcm (FK Cc:Fn) (N6:Lp) (x11 x12 x13 x14 x15:Int) (x16 x17 x18:Bool) (x19 x20 x21 x22 x23 x24:Int) (p:Pth) (t:Trk):UR FK Cc N6 (EZ p t [I x11,I x12,I x13,I x14,I x15,B x16,B x17,B x18,I x19,I x20,I x21,I x22,I x23,I x24])=
 (Cc [I x11,I x12,I x13,I x19,I x20,I x21,I x22,I x23,I x24]).bind fun o7=>
 bif !bA o7 1 then
 some [B false]
 else
 bif((p.segs.map Ay).length:Int)==0 then
 some [B false]
 else
 (FK (EZ p t [I x11,I x12,I x13,I x14,I x15,B x16,B x17,B x18,I x19])).bind fun o8=>
 bif decide (x20>gA o8 0)then
 some [B false]
 else
 (N6 (I x19:: .view Aa (wA o7 0)::I (↑(wA o7 0).length:Int)::I 0::EZ p t [I x11,I x12,I x13,I x14,I x15,B x16,B x17,B x18])).bind fun o9=>
 bif o9.1.beq 1 then
 some [B (bA o9.2 0)]
 else
 bif o9.1.beq 2 then
 some [B true]
 else
 none:=by kernel_rfl
def Qrx:=An (ZB LU E2)
def NI:=UR LU E2 Qrx
theorem Qr9:Ai PG (YE LU E2):=Ao rfl ⟨Zmb,ZJ,trivial⟩
theorem Zot:Al PG (153,Ac Qka Qhv NI):=rw2 (C:=(Q0l LU E2 Qrx)) (fl fb Qr9) Qr9
def Qck:Sk:=⟨[TS.v true [ci,ci,ci,ci,ci,ci],tf [ci]],[],[]⟩
def Qlv:Sk:=⟨[TS.v true [ci,ci,ci,ci,ci,ci]],[],[]⟩
def Q2o (M:Fn):Nat×Spec:=(152,Ac Qck Qlv M)
def W7:Cfg:=cf []
def Qk9:Fn:=Am PG W7 64 152 Qck Qlv
theorem Q89 (x0 x1 x2 x3 x4 x5 x6:Int):Qk9 [I x0,I x1,I x2,I x3,I x4,I x5,I x6]=
 some [I (IntKind.i64.wrap (x0+x6)),I x6,I (IntKind.i64.wrap (x6-x1)),I x0,I x3,I x4]:=by kernel_rfl
def Iv:=Qk9
theorem Q7x:Ai PG (W7):=Ao rfl trivial
theorem Qu8:Al PG (152,Ac Qck Qlv Iv):=rw1 (C:=W7) Q7x
def Qim:Sk:=⟨[tf [ci]],[],[]⟩
def WO:Sk:=⟨[tf [CS.sl Aa]],[],[]⟩
def Zuw (M:Fn):Nat×Spec:=(151,Ac Qim WO M)
def C_planner_changes_0:Cfg:={cf []with prom:=fun b=>bif Nat.beq b 3 then [(3,3)]else []}
def Q4l:Sk:=⟨[td,td,td,tf [CS.own 3 1],tf [ci]]++dd 32,[],[(3,3,Aa)]⟩
def Qw9:List (Ex×Sk):=[(Ex.exit 0,⟨[td,td,td,tf [CS.own 3 1]]++dd 33,[],[(3,3,Aa)]⟩)]
def PR:Lp:=AP PG C_planner_changes_0 64 3 (AO PG 151 3) Q4l Qw9
def Q0i (N3:Lp):Cfg:=C_planner_changes_0.loop 3 Q4l Qw9 N3
def Qsz:Sk:=⟨[td,td,td,tf [CS.own 3 1],td,tf [CS.own 16 1],tf [ci]]++dd 30,[],[(3,3,Aa),(16,3,Aa)]⟩
def Qwt:List (Ex×Sk):=[(Ex.exit 2,⟨[td,td,td,td,td,tf [CS.own 16 1]]++dd 31,[],[(16,3,Aa)]⟩)]
def Rf (N3:Lp):Lp:=AP PG (Q0i N3) 64 8 (AO PG 151 8) Qsz Qwt
def Qql (N3 N8:Lp):Cfg:=(Q0i N3).loop 8 Qsz Qwt N8
def Qfk (N3 N8:Lp):Fn:=Am PG (Qql N3 N8) 64 151 Qim WO
theorem Zp8 (v0:Rw) (v1:Int):PR [.view Aa v0,I v1]=
 bif decide (v1>0)then
 bif((v0++[[I v1]]).length*8).ble 140737488355328 then
 some (0,[.view Aa (v0++[[I v1]]),I (IntKind.i64.wrap (v1.tdiv 2))])
 else
 none
 else
 some (1,[.view Aa v0]):=by kernel_rfl
theorem Zvu (N3:Lp) (v0 v1:Rw) (v2:Int):Rf N3 [.view Aa v0, .view Aa v1,I v2]=
 bif decide (v2>=0)then
 bif decide (0<=v2)&&decide (v2<(v0.length:Int))then
 bif((v1++[[I (IntKind.i64.wrap (0-gA (nth [] v0 v2.toNat) 0))]]).length*8).ble 140737488355328 then
 some (0,[.view Aa v0, .view Aa (v1++[[I (IntKind.i64.wrap (0-gA (nth [] v0 v2.toNat) 0))]]),I (IntKind.i64.wrap (v2-1))])
 else
 none
 else
 none
 else
 some (1,[.view Aa v1]):=by kernel_rfl
theorem Zuq (N3 N8:Lp) (x0:Int):Qfk N3 N8 [I x0]=
 (N3 [.view Aa [],I x0]).bind fun o3=>
 bif o3.1.beq 1 then
 bif(([]++wA o3.2 0).length*8).ble 140737488355328 then
 bif(([]++wA o3.2 0++[[I 0]]).length*8).ble 140737488355328 then
 (N8 [.view Aa (wA o3.2 0), .view Aa ([]++wA o3.2 0++[[I 0]]),I (IntKind.i64.wrap ((↑(wA o3.2 0).length:Int)-1))]).bind fun o4=>
 bif o4.1.beq 1 then
 some [.view Aa (wA o4.2 0)]
 else
 none
 else
 none
 else
 none
 else
 none:=by kernel_rfl
def Wn:=An (PR)
def Qvf:=An (Rf Wn)
def Mw:=Qfk Wn Qvf
theorem Qaz:Ai PG (C_planner_changes_0):=Ao rfl trivial
theorem Zz5:Al PG (151,Ac Qim WO Mw):=rw2 (C:=(Qql Wn Qvf)) (fl (fl fb Qaz) Qaz) Qaz
def Qnr:Sk:=⟨[TS.v true [ci,ci,ci,CS.sl Ah,CS.sl kPt],TS.v true [ci,ci,ci,ci,ci,ci,ci,ci,ci,CS.sl Aa,ci,ci,ci,ci,ci,ci,ci,ci,ci,CS.sl Aa,ci,ci,ci,ci,ci,ci,ci,ci,ci,CS.sl Aa],TS.v true [CS.sl Aq,ci,ci,ci,ci,ci],TS.v true [ci,ci,ci],TS.v true [ci,ci,CS.bool,CS.bool,CS.bool],TS.v true [ci,ci,ci,ci,ci,ci],tf [ci]],[],[]⟩
def Yh:Sk:=⟨[TS.v true [ci,ci,ci,ci,ci,ci]],[],[]⟩
def Qit (M:Fn):Nat×Spec:=(104,Ac Qnr Yh M)
def WM (Bk Dt Gg B_ Co FX:Fn):Cfg:=cf [Qfo Bk,Qzo Dt,Zw2 Gg,Q2o B_,Q4o Co,Zuw FX]
def Q0c:Sk:=⟨[td,td,td,td,td,td,tf [ci],tf [CS.ptr 7 0],tf [CS.ptr 8 0],tf [CS.ptr 9 0],tf [CS.ptr 10 0],tf [CS.ptr 11 0],tf [CS.ptr 12 0],td,tf [CS.ptr 14 0],tf [CS.ptr 15 0],tf [CS.bool],td,td,td,td,td,td,tf [CS.sl Aa],tf [ci],tf [ci]]++dd 57,[(7,58,[ci,ci,ci,CS.sl Ah,CS.sl kPt]),(8,27,[ci,ci,ci,ci,ci,ci,ci,ci,ci,CS.sl Aa,ci,ci,ci,ci,ci,ci,ci,ci,ci,CS.sl Aa,ci,ci,ci,ci,ci,ci,ci,ci,ci,CS.sl Aa]),(9,62,[CS.sl Aq,ci,ci,ci,ci,ci]),(10,29,[ci,ci,ci]),(11,92,[ci,ci,CS.bool,CS.bool,CS.bool]),(12,50,[ci,ci,ci,ci,ci,ci]),(14,50,[ci,ci,ci,ci,ci,ci]),(15,50,[ci,ci,ci,ci,ci,ci])],[]⟩
def Qtr:List (Ex×Sk):=[(Ex.exit 0,⟨[td,td,td,td,td,td,td,td,td,td,tf [CS.ptr 10 0],td,tf [CS.ptr 12 0],td,tf [CS.ptr 14 0],tf [CS.ptr 15 0],tf [CS.bool]]++dd 66,[(10,29,[ci,ci,ci]),(12,50,[ci,ci,ci,ci,ci,ci]),(14,50,[ci,ci,ci,ci,ci,ci]),(15,50,[ci,ci,ci,ci,ci,ci])],[]⟩)]
def Qj3 (Bk Dt Gg B_ Co FX:Fn):Lp:=AP PG (WM Bk Dt Gg B_ Co FX) 64 4 (AO PG 104 4) Q0c Qtr
def Qtp (Bk Dt Gg B_ Co FX:Fn) (N4:Lp):Cfg:=(WM Bk Dt Gg B_ Co FX).loop 4 Q0c Qtr N4
def Qnq (Bk Dt Gg B_ Co FX:Fn) (N4:Lp):Fn:=Am PG (Qtp Bk Dt Gg B_ Co FX N4) 64 104 Qnr Yh
theorem Zz0 (Bk Dt Gg B_ Co FX:Fn) (v0:Int) (v1:Bool) (v2:Rw) (v3 v4:Int) (v46 v47 v48 v49 v50:Int) (v51 v52 v53:Bool) (v54 v55 v56 v57 v58 v59 v60 v61 v62 v63 v64 v65 v66 v67 v68 v69 v70 v71:Int) (p:Pth) (x:Ax3) (t:Trk):Qj3 Bk Dt Gg B_ Co FX (I v0::B v1:: .view Aa v2::I v3::I v4::pxt p x t [I v46,I v47,I v48,I v49,I v50,B v51,B v52,B v53,I v54,I v55,I v56,I v57,I v58,I v59,I v60,I v61,I v62,I v63,I v64,I v65,I v66,I v67,I v68,I v69,I v70,I v71])=
 bif decide (v4<v3)then
 bif decide (0<=v4)&&decide (v4<(v2.length:Int))then
 bif decide (IntKind.i64.wrap (v55+IntKind.i64.wrap (v56+gA (nth [] v2 v4.toNat) 0))<0)then
 some (0,(I v0::B v1:: .view Aa v2::I v3::I (IntKind.i64.wrap (v4+1))::pxt p x t [I v46,I v47,I v48,I v49,I v50,B v51,B v52,B v53,I v54,I v55,I v56,I v57,I v58,I v59,I v60,I v61,I v62,I v63,I v64,I v65,I v66,I v67,I v68,I v69,I v70,I v71]))
 else
 (Co [I v46,I v47,I v48,I (IntKind.i64.wrap (v55+IntKind.i64.wrap (v56+gA (nth [] v2 v4.toNat) 0))),I (IntKind.i64.wrap (v56+gA (nth [] v2 v4.toNat) 0))]).bind fun o9=>
 bif !bA o9 0 then
 some (0,(I v0::B v1:: .view Aa v2::I v3::I (IntKind.i64.wrap (v4+1))::pxt p x t [I v46,I v47,I v48,I v49,I v50,B v51,B v52,B v53,I v54,I v55,I v56,I v57,I v58,I v59,I v60,I v61,I v62,I v63,I v64,I v65,I v66,I v67,I v68,I v69,I v70,I v71]))
 else
 (B_ [I v54,I v55,I v56,I v57,I v58,I v59,I (IntKind.i64.wrap (v55+IntKind.i64.wrap (v56+gA (nth [] v2 v4.toNat) 0)))]).bind fun o10=>
 (Gg (EZ p t [I v46,I v47,I v48,I v49,I v50,B v51,B v52,B v53,jA o10 0,jA o10 1,jA o10 2,jA o10 3,jA o10 4,jA o10 5])).bind fun o11=>
 bif bA o11 0 then
 (Dt (pxt p x t [I v46,I v47,I v48,jA o10 0,jA o10 1,jA o10 2,jA o10 3,jA o10 4,jA o10 5,I v0])).bind fun o12=>
 bif bA o12 0 then
 some (1,[B true,I v46,I v47,I v48,I v54,I v55,I v56,I v57,I v58,I v59,I v60,I v61,I v62,I v63,I v64,I v65,jA o10 0,jA o10 1,jA o10 2,jA o10 3,jA o10 4,jA o10 5])
 else
 some (0,(I v0::B v1:: .view Aa v2::I v3::I (IntKind.i64.wrap (v4+1))::pxt p x t [I v46,I v47,I v48,I v49,I v50,B v51,B v52,B v53,I v54,I v55,I v56,I v57,I v58,I v59,I v60,I v61,I v62,I v63,I v64,I v65,jA o10 0,jA o10 1,jA o10 2,jA o10 3,jA o10 4,jA o10 5]))
 else
 some (0,(I v0::B v1:: .view Aa v2::I v3::I (IntKind.i64.wrap (v4+1))::pxt p x t [I v46,I v47,I v48,I v49,I v50,B v51,B v52,B v53,I v54,I v55,I v56,I v57,I v58,I v59,I v60,I v61,I v62,I v63,I v64,I v65,jA o10 0,jA o10 1,jA o10 2,jA o10 3,jA o10 4,jA o10 5]))
 else
 none
 else
 some (1,[B v1,I v46,I v47,I v48,I v54,I v55,I v56,I v57,I v58,I v59,I v60,I v61,I v62,I v63,I v64,I v65,I v66,I v67,I v68,I v69,I v70,I v71]):=by kernel_rfl
theorem Z0s (Bk Dt Gg B_ Co FX:Fn) (N4:Lp) (x41 x42 x43 x44 x45:Int) (x46 x47 x48:Bool) (x49 x50 x51 x52 x53 x54 x55:Int) (p:Pth) (x:Ax3) (t:Trk):Qnq Bk Dt Gg B_ Co FX N4 (pxt p x t [I x41,I x42,I x43,I x44,I x45,B x46,B x47,B x48,I x49,I x50,I x51,I x52,I x53,I x54,I x55])=
 (FX [I x42]).bind fun o13=>
 (N4 (I x55::B false:: .view Aa (wA o13 0)::I (↑(wA o13 0).length:Int)::I 0::pxt p x t [I x41,I x42,I x43,I x44,I x45,B x46,B x47,B x48,I x49,I x50,I x51,I x52,I x53,I x54,I 0,I 0,I 0,I 0,I 0,I 0,I 0,I 0,I 0,I 0,I 0,I 0])).bind fun o14=>
 bif o14.1.beq 1 then
 bif bA o14.2 0 then
 some [jA o14.2 16,jA o14.2 17,jA o14.2 18,jA o14.2 19,jA o14.2 20,jA o14.2 21]
 else
 (Bk [jA o14.2 1,jA o14.2 2,jA o14.2 3,jA o14.2 5,jA o14.2 6]).bind fun o15=>
 (B_ [jA o14.2 4,jA o14.2 5,jA o14.2 6,jA o14.2 7,jA o14.2 8,jA o14.2 9,I (IntKind.i64.wrap (gA o14.2 5+gA o15 0))]).bind fun o16=>
 some [jA o16 0,jA o16 1,jA o16 2,jA o16 3,jA o16 4,jA o16 5]
 else
 none:=by kernel_rfl
def Qvm:=An (Qj3 Fg I6 NI Iv F9 Mw)
def Fj:=Qnq Fg I6 NI Iv F9 Mw Qvm
theorem Qt1:Ai PG (WM Fg I6 NI Iv F9 Mw):=Ao rfl ⟨Qc3,Q3i,Zot,Qu8,Q15,Zz5,trivial⟩
theorem Qlw:Al PG (104,Ac Qnr Yh Fj):=rw2 (C:=(Qtp Fg I6 NI Iv F9 Mw Qvm)) (fl fb Qt1) Qt1
def Vo:Sk:=⟨[TS.v true [ci,ci,ci],TS.v true [ci,ci,ci,ci,ci,ci]],[],[]⟩
def Qc0:Sk:=⟨[TS.tup [(false,[ci]),(false,[CS.bool])]],[],[]⟩
def Qpi (M:Fn):Nat×Spec:=(35,Ac Vo Qc0 M)
def Qgh (Cc:Fn):Cfg:=cf [Ux Cc]
def Mo (Cc:Fn):Fn:=Am PG (Qgh Cc) 64 35 Vo Qc0
theorem V5 (Cc:Fn) (x0 x1 x2 x3 x4 x5 x6 x7 x8:Int):Mo Cc [I x0,I x1,I x2,I x3,I x4,I x5,I x6,I x7,I x8]=
 (Cc [I x0,I x1,I x2,I x3,I x4,I x5,I x6,I x7,I x8]).bind fun o1=>
 bif !bA o1 1 then
 some [I 0,B false]
 else
 bif(↑(wA o1 0).length:Int)==0 then
 some [I x3,B true]
 else
 bif decide (0<=IntKind.i64.wrap ((↑(wA o1 0).length:Int)-1))&&decide (IntKind.i64.wrap ((↑(wA o1 0).length:Int)-1)<(↑(wA o1 0).length:Int))then
 some [I (Af (nth .dead (nth [] (wA o1 0) (IntKind.i64.wrap ((↑(wA o1 0).length:Int)-1)).toNat) 0)),B true]
 else
 none:=by kernel_rfl
def FJ:=Mo E2
theorem Zxa:Ai PG (Qgh E2):=Ao rfl ⟨ZJ,trivial⟩
theorem Q1g:Al PG (35,Ac Vo Qc0 FJ):=rw1 (C:=(Qgh E2)) Zxa
def WH:Sk:=⟨[tf [ci],tf [ci]],[],[]⟩
def X5:Sk:=⟨[tf [ci]],[],[]⟩
def Zye (M:Fn):Nat×Spec:=(200,Ac WH X5 M)
def Qjr (AE:Fn):Cfg:=cf [Kc AE]
def Qaq (AE:Fn):Fn:=Am PG (Qjr AE) 64 200 WH X5
theorem Zv7 (AE:Fn) (x0 x1:Int):Qaq AE [I x0,I x1]=
 (AE [I x0,I x1,I 4096,I 0]).bind fun o1=>
 some [jA o1 0]:=by kernel_rfl
def PV:=Qaq Be
theorem Zr5:Ai PG (Qjr Be):=Ao rfl ⟨K3,trivial⟩
theorem Q6o:Al PG (200,Ac WH X5 PV):=rw1 (C:=(Qjr Be)) Zr5
def Ql1:Sk:=⟨[tf [ci],tf [ci]],[],[]⟩
def Qnk:Sk:=⟨[tf [ci]],[],[]⟩
def Zhr (M:Fn):Nat×Spec:=(201,Ac Ql1 Qnk M)
def XY:Cfg:=cf []
def Qja:Fn:=Am PG XY 64 201 Ql1 Qnk
theorem Q8e (x0 x1:Int):Qja [I x0,I x1]=
 some [I (mx (IntKind.i64.wrap (x0-x1)) (IntKind.i64.wrap (x1-x0)))]:=by kernel_rfl
def OZ:=Qja
theorem Zhc:Ai PG (XY):=Ao rfl trivial
theorem Zss:Al PG (201,Ac Ql1 Qnk OZ):=rw1 (C:=XY) Zhc
def Qhi:Sk:=⟨[TS.v true [ci,ci,ci,CS.sl Ah,CS.sl kPt],TS.v true [ci,ci,ci,ci,ci,ci,ci,ci,ci,CS.sl Aa,ci,ci,ci,ci,ci,ci,ci,ci,ci,CS.sl Aa,ci,ci,ci,ci,ci,ci,ci,ci,ci,CS.sl Aa],TS.v true [CS.sl Aq,ci,ci,ci,ci,ci],TS.v true [ci,ci,ci],TS.v true [ci,ci,CS.bool,CS.bool,CS.bool],TS.v true [ci,ci,ci,ci,ci,ci],tf [ci],tf [ci],TS.v true [ci,ci,ci,ci],tf [ci],tf [ci]],[],[]⟩
def Qh2:Sk:=⟨[TS.tup [(true,[ci,ci,ci,ci,ci,ci]),(true,[ci,ci,ci,ci]),(false,[ci])]],[],[]⟩
def Zxv (M:Fn):Nat×Spec:=(181,Ac Qhi Qh2 M)
def Qji (Cf Bk DJ Dt B_ K9 Kj:Fn):Cfg:=cf [Qit Cf,Qfo Bk,Qpi DJ,Qzo Dt,Q2o B_,Zye K9,Zhr Kj]
def ZV (Cf Bk DJ Dt B_ K9 Kj:Fn):Fn:=Am PG (Qji Cf Bk DJ Dt B_ K9 Kj) 64 181 Qhi Qh2
abbrev Qiw (DJ:Fn) (x41 x42 x43:Int) (o33:List AC) (x58:Int) (o26:List AC) (x60 x49 x55:Int) (Bk:Fn) (x50 x51:Int) (B_:Fn) (x52 x53 x54 x59:Int):Option (List AC):=
 (DJ [I x41,I x42,I x43,jA o33 0,jA o33 1,jA o33 2,jA o33 3,jA o33 4,jA o33 5]).bind fun o35=>
 bif decide (IntKind.i64.wrap (IntKind.i64.wrap (IntKind.i64.wrap (x58+gA o26 0)-x60)-x49)>=0)then
 bif decide (gA o35 0>IntKind.i64.wrap (x55*256))then
 (Bk [I x41,I x42,I x43,I x50,I x51]).bind fun o36=>
 (B_ [I x49,I x50,I x51,I x52,I x53,I x54,I (IntKind.i64.wrap (x50+gA o36 0))]).bind fun o37=>
 some [jA o37 0,jA o37 1,jA o37 2,jA o37 3,jA o37 4,jA o37 5,I 3,I x58,I x59,I x60,I 0]
 else
 (Bk [I x41,I x42,I x43,I x50,I x51]).bind fun o38=>
 (B_ [I x49,I x50,I x51,I x52,I x53,I x54,I (IntKind.i64.wrap (x50+gA o38 0))]).bind fun o39=>
 some [jA o39 0,jA o39 1,jA o39 2,jA o39 3,jA o39 4,jA o39 5,I 3,I x58,I x59,I x60,I 18]
 else
 (Bk [I x41,I x42,I x43,I x50,I x51]).bind fun o40=>
 (B_ [I x49,I x50,I x51,I x52,I x53,I x54,I (IntKind.i64.wrap (x50+gA o40 0))]).bind fun o41=>
 some [jA o41 0,jA o41 1,jA o41 2,jA o41 3,jA o41 4,jA o41 5,I 3,I x58,I x59,I x60,I 18]
attribute [go_sem] Qiw
theorem Zpl (Cf Bk DJ Dt B_ K9 Kj:Fn) (x41 x42 x43 x44 x45:Int) (x46 x47 x48:Bool) (x49 x50 x51 x52 x53 x54 x55 x56 x57 x58 x59 x60 x61 x62:Int) (p:Pth) (x:Ax3) (t:Trk):ZV Cf Bk DJ Dt B_ K9 Kj (pxt p x t [I x41,I x42,I x43,I x44,I x45,B x46,B x47,B x48,I x49,I x50,I x51,I x52,I x53,I x54,I x55,I x56,I x57,I x58,I x59,I x60,I x61,I x62])=
 (Kj [I x62,I x59]).bind fun o25=>
 (K9 [I x56,jA o25 0]).bind fun o26=>
 bif x57==1 then
 (Kj [I x61,I x59]).bind fun o27=>
 (K9 [I x56,jA o27 0]).bind fun o28=>
 (B_ [I x49,I x50,I x51,I x52,I x53,I x54,I (IntKind.i64.wrap (gA o26 0-gA o28 0))]).bind fun o29=>
 bif IntKind.i64.wrap (gA o26 0-gA o28 0) !=0 then
 (Dt (pxt p x t [I x41,I x42,I x43,jA o29 0,jA o29 1,jA o29 2,jA o29 3,jA o29 4,jA o29 5,I x55])).bind fun o30=>
 bif bA o30 0 then
 some [jA o29 0,jA o29 1,jA o29 2,jA o29 3,jA o29 4,jA o29 5,I 2,I x58,I x59,I (IntKind.i64.wrap (gA o26 0-IntKind.i64.wrap (gA o29 0-x58))),I 0]
 else
 (Cf (pxt p x t [I x41,I x42,I x43,I x44,I x45,B false,B x47,B x48,I x49,I x50,I x51,I x52,I x53,I x54,I x55])).bind fun o31=>
 some [jA o31 0,jA o31 1,jA o31 2,jA o31 3,jA o31 4,jA o31 5,I x57,I x58,I x59,I x60,I 0]
 else
 (Cf (pxt p x t [I x41,I x42,I x43,I x44,I x45,B false,B x47,B x48,I x49,I x50,I x51,I x52,I x53,I x54,I x55])).bind fun o32=>
 some [jA o32 0,jA o32 1,jA o32 2,jA o32 3,jA o32 4,jA o32 5,I x57,I x58,I x59,I x60,I 0]
 else
 bif x57==2 then
 (B_ [I x49,I x50,I x51,I x52,I x53,I x54,I (IntKind.i64.wrap (IntKind.i64.wrap (IntKind.i64.wrap (x58+gA o26 0)-x60)-x49))]).bind fun o33=>
 bif decide (IntKind.i64.wrap (IntKind.i64.wrap (IntKind.i64.wrap (x58+gA o26 0)-x60)-x49)>=0)then
 (Dt (pxt p x t [I x41,I x42,I x43,jA o33 0,jA o33 1,jA o33 2,jA o33 3,jA o33 4,jA o33 5,I x55])).bind fun o34=>
 bif bA o34 0 then
 some [jA o33 0,jA o33 1,jA o33 2,jA o33 3,jA o33 4,jA o33 5,I x57,I x58,I x59,I x60,I 0]
 else
 Qiw DJ x41 x42 x43 o33 x58 o26 x60 x49 x55 Bk x50 x51 B_ x52 x53 x54 x59
 else
 Qiw DJ x41 x42 x43 o33 x58 o26 x60 x49 x55 Bk x50 x51 B_ x52 x53 x54 x59
 else
 (Cf (pxt p x t [I x41,I x42,I x43,I x44,I x45,B false,B x47,B x48,I x49,I x50,I x51,I x52,I x53,I x54,I x55])).bind fun o49=>
 some [jA o49 0,jA o49 1,jA o49 2,jA o49 3,jA o49 4,jA o49 5,I x57,I x58,I x59,I x60,I 0]:=by kernel_rfl
def JH:=ZV Fj Fg FJ I6 Iv PV OZ
theorem Q8k:Ai PG (Qji Fj Fg FJ I6 Iv PV OZ):=Ao rfl ⟨Qlw,Qc3,Q1g,Q3i,Qu8,Q6o,Zss,trivial⟩
theorem Zbg:Al PG (181,Ac Qhi Qh2 JH):=rw1 (C:=(Qji Fj Fg FJ I6 Iv PV OZ)) Q8k
def ZQ:Sk:=⟨[tf [CS.ptr 20000 0],tf [ci]],[(20000,119,cS)],[]⟩
def U8:Sk:=⟨[TS.tup []],[(20000,119,cS)],[]⟩
def Qg8 (M:Fn):Nat×Spec:=(159,Ac ZQ U8 M)
def Qi6 (Cf:Fn):Cfg:=cf [Qit Cf]
def Qd7 (Cf:Fn):Fn:=Am PG (Qi6 Cf) 64 159 ZQ U8
theorem Zms (Cf:Fn) (x0:Int) (K:Kf) (c:Cv):Qd7 Cf (I x0::Ad K c)=
 (Cf (pxt K.p K.x K.t [I K.pa,I K.pb,I K.pc,I c.o0,I c.o1,B c.o2,B c.o3,B c.o4,I c.m0,I c.m1,I c.m2,I c.m3,I c.m4,I c.m5,I x0])).bind fun o1=>
 some (Ad K {c with m0:=gA o1 0,m1:=gA o1 1,m2:=gA o1 2,m3:=gA o1 3,m4:=gA o1 4,m5:=gA o1 5}):=by kernel_rfl
def G_:=Qd7 Fj
theorem Zpr:Ai PG (Qi6 Fj):=Ao rfl ⟨Qlw,trivial⟩
theorem TZ:Al PG (159,Ac ZQ U8 G_):=rw1 (C:=(Qi6 Fj)) Zpr
def Qlq:Sk:=⟨[tf [CS.ptr 20000 0],tf [ci],TS.v true [ci,ci,ci,ci,ci,ci,ci]],[(20000,119,cS)],[]⟩
def YN:Sk:=⟨[TS.tup []],[(20000,119,cS)],[]⟩
def Zb3 (M:Fn):Nat×Spec:=(162,Ac Qlq YN M)
def T5 (CM Mt Db:Fn):Cfg:=cp [WA CM,Zxv Mt,Qg8 Db] [108,159]
def Qah (CM Mt Db:Fn):Fn:=Am PG (T5 CM Mt Db) 64 162 Qlq YN
theorem Zqh (CM Mt Db:Fn) (x0 x1 x2 x3 x4 x5 x6 x7:Int) (K:Kf) (c:Cv):Qah CM Mt Db (I x0::I x1::I x2::I x3::I x4::I x5::I x6::I x7::Ad K c)=
 bif c.g0 !=0 then
 (Db (I x0::Ad K c)).bind fun o3=>
 some (DI (cR 0 o3) [(82,I 3)])
 else
 (Mt (pxt K.p K.x K.t [I K.pa,I K.pb,I K.pc,I c.o0,I c.o1,B c.o2,B c.o3,B c.o4,I c.m0,I c.m1,I c.m2,I c.m3,I c.m4,I c.m5,I x0,I x7,I c.e0,I c.e1,I c.e2,I c.e3,I c.before,I c.s3])).bind fun o4=>
 bif gA o4 10 !=0 then
 (CM (Ad K {c with m0:=gA o4 0,m1:=gA o4 1,m2:=gA o4 2,m3:=gA o4 3,m4:=gA o4 4,m5:=gA o4 5,e0:=gA o4 6,e1:=gA o4 7,e2:=gA o4 8,e3:=gA o4 9})).bind fun o5=>
 some (cR 0 o5)
 else
 some (Ad K {c with m0:=gA o4 0,m1:=gA o4 1,m2:=gA o4 2,m3:=gA o4 3,m4:=gA o4 4,m5:=gA o4 5,e0:=gA o4 6,e1:=gA o4 7,e2:=gA o4 8,e3:=gA o4 9}):=by kernel_rfl
def PZ:=Qah FW JH G_
theorem Zck:Ai PG (T5 FW JH G_):=Ao rfl ⟨Vx,Zbg,TZ,trivial⟩
theorem Z0b:Al PG (162,Ac Qlq YN PZ):=rw1 (C:=(T5 FW JH G_)) Zck
def V6:Sk:=⟨[tf [ci],tf [ci]],[],[]⟩
def WV:Sk:=⟨[tf [ci]],[],[]⟩
def Zrg (M:Fn):Nat×Spec:=(42,Ac V6 WV M)
def Qau (AE:Fn):Cfg:=cf [Kc AE]
def Ql7 (AE:Fn):Fn:=Am PG (Qau AE) 64 42 V6 WV
theorem Zc7 (AE:Fn) (x0 x1:Int):Ql7 AE [I x0,I x1]=
 (AE [I 4096,I x1,I x0,I 0]).bind fun o1=>
 some [jA o1 0]:=by kernel_rfl
def JB:=Ql7 Be
theorem Zz1:Ai PG (Qau Be):=Ao rfl ⟨K3,trivial⟩
theorem Zd1:Al PG (42,Ac V6 WV JB):=rw1 (C:=(Qau Be)) Zz1
def Zq:Sk:=⟨[tf [CS.ptr 20000 0],tf [ci],TS.v true [ci,ci,ci,ci,ci,ci,ci]],[(20000,119,cS)],[]⟩
def Qh4:Sk:=⟨[TS.tup []],[(20000,119,cS)],[]⟩
def Zvv (M:Fn):Nat×Spec:=(161,Ac Zq Qh4 M)
def Qa0 (KW Bj Db:Fn):Cfg:=cr [Zrg KW,Ni Bj,Qg8 Db] [110,159] [110]
def Wt (KW Bj Db:Fn):Fn:=Am PG (Qa0 KW Bj Db) 64 161 Zq Qh4
theorem Zxr (KW Bj Db:Fn) (x0 x1 x2 x3 x4 x5 x6 x7:Int) (K:Kf) (c:Cv):Wt KW Bj Db (I x0::I x1::I x2::I x3::I x4::I x5::I x6::I x7::Ad K c)=
 (Db (I x0::Ad K c)).bind fun o5=>
 bif decide (0<=x5)&&decide (x5<(↑(wA o5 35).length:Int))then
 bif Af (nth .dead (nth [] (wA o5 35) x5.toNat) 19)==3 then
 (Bj (cR 0 o5)).bind fun o6=>
 (KW [I x7,I (IntKind.i64.wrap (gA o6 0-gA o5 80))]).bind fun o7=>
 some (DI (cR 0 o5) [(67,I (IntKind.i64.wrap (gA o5 81+IntKind.i64.wrap (IntKind.i64.wrap (1*gA o7 0)*256))))])
 else
 (Bj (cR 0 o5)).bind fun o8=>
 (KW [I x7,I (IntKind.i64.wrap (gA o8 0-gA o5 80))]).bind fun o9=>
 some (DI (cR 0 o5) [(67,I (IntKind.i64.wrap (gA o5 81+IntKind.i64.wrap (IntKind.i64.wrap (-1*gA o9 0)*256))))])
 else
 none:=by kernel_rfl
def P_:=Wt JB CO G_
theorem Zbe:Ai PG (Qa0 JB CO G_):=Gc (rs:=[110]) rfl ⟨Zd1,MY,TZ,trivial⟩ rfl (BZ rfl (EA (BZ rfl F_)))
theorem Zgl:Al PG (161,Ac Zq Qh4 P_):=rw1 (C:=(Qa0 JB CO G_)) Zbe
def Qbe:Sk:=⟨[tf [ci],tf [ci]],[],[]⟩
def VO:Sk:=⟨[tf [ci]],[],[]⟩
def Zvo (M:Fn):Nat×Spec:=(199,Ac Qbe VO M)
def YV:Cfg:=cf []
def Qer:Fn:=Am PG YV 64 199 Qbe VO
theorem Zcg (x0 x1:Int):Qer [I x0,I x1]=
 bif decide (x1=0)then
 none
 else
 bif decide (x1=0)then
 none
 else
 bif decide (x0.tmod x1<0)then
 some [I (IntKind.i64.wrap (IntKind.i64.wrap (x0.tdiv x1)-1))]
 else
 some [I (IntKind.i64.wrap (x0.tdiv x1))]:=by kernel_rfl
def Jv:=Qer
theorem Zlk:Ai PG (YV):=Ao rfl trivial
theorem Zvw:Al PG (199,Ac Qbe VO Jv):=rw1 (C:=YV) Zlk
def Qcx:Sk:=⟨[tf [ci],tf [ci]],[],[]⟩
def U6:Sk:=⟨[tf [ci]],[],[]⟩
def Zzj (M:Fn):Nat×Spec:=(180,Ac Qcx U6 M)
def Y_ (Ki:Fn):Cfg:=cf [Zvo Ki]
def YU (Ki:Fn):Fn:=Am PG (Y_ Ki) 64 180 Qcx U6
theorem Ziq (Ki:Fn) (x0 x1:Int):YU Ki [I x0,I x1]=
 bif x1== -1 then
 (Ki [I x0,I 1048576]).bind fun o2=>
 some [I (IntKind.i64.wrap (gA o2 0*1048576))]
 else
 (Ki [I (IntKind.i64.wrap (0-x0)),I 1048576]).bind fun o3=>
 some [I (IntKind.i64.wrap (IntKind.i64.wrap (0-gA o3 0)*1048576))]:=by kernel_rfl
def Jr:=YU Jv
theorem Zw7:Ai PG (Y_ Jv):=Ao rfl ⟨Zvw,trivial⟩
theorem Zyl:Al PG (180,Ac Qcx U6 Jr):=rw1 (C:=(Y_ Jv)) Zw7
def UY:Sk:=⟨[tf [CS.ptr 20000 0],TS.v true [ci,ci,ci,ci,ci,ci,ci]],[(20000,119,cS)],[]⟩
def Qk7:Sk:=⟨[tf [CS.bool]],[(20000,119,cS)],[]⟩
def Zfs (M:Fn):Nat×Spec:=(160,Ac UY Qk7 M)
def W4 (Bj MJ:Fn):Cfg:=cr [Ni Bj,Zzj MJ] [110] [110]
def U9 (Bj MJ:Fn):Fn:=Am PG (W4 Bj MJ) 64 160 UY Qk7
theorem Zhp (Bj MJ:Fn) (x0 x1 x2 x3 x4 x5 x6:Int) (K:Kf) (c:Cv):U9 Bj MJ (I x0::I x1::I x2::I x3::I x4::I x5::I x6::Ad K c)=
 (MJ [I c.before,I c.s0]).bind fun o3=>
 bif decide (0<=x4)&&decide (x4<((K.items.map Ag).length:Int))then
 bif gA (nth [] (K.items.map Ag) x4.toNat) 0 !=6 then
 bif c.s1==0 then
 some (B false::Ad K c)
 else
 bif decide (IntKind.i64.wrap (IntKind.i64.wrap (c.s3-gA o3 0)*c.s0)<0)then
 some (B false::Ad K c)
 else
 (Bj (Ad K c)).bind fun o4=>
 some (B true::Ad K {c with y0:=x4,y1:=gA o4 0,y2:=c.s3,e0:=1,e1:=c.m0,e2:=gA o3 0,e3:=0})
 else
 (Bj (Ad K c)).bind fun o5=>
 some (B true::Ad K {c with y0:=x4,y1:=gA o5 0,y2:=c.s3,e0:=1,e1:=c.m0,e2:=gA o3 0,e3:=0})
 else
 none:=by kernel_rfl
def PP:=U9 CO Jr
theorem Zmr:Ai PG (W4 CO Jr):=Gc (rs:=[110]) rfl ⟨MY,Zyl,trivial⟩ rfl (EA (BZ rfl F_))
theorem Zqq:Al PG (160,Ac UY Qk7 PP):=rw1 (C:=(W4 CO Jr)) Zmr
def Qmc:Sk:=⟨[tf [CS.ptr 20000 0]],[(20000,119,cS)],[]⟩
def WF:Sk:=⟨[TS.tup [(true,[ci,ci,ci,ci,ci,ci,ci]),(false,[CS.bool])]],[],[]⟩
def So (M:Fn):Nat×Spec:=(102,Ep Qmc WF M)
def O6 (C8 Bj:Fn):Cfg:=cr [VR C8,Ni Bj] [110] [110]
def Qc6 (C8 Bj:Fn):Fn:=L2 PG (O6 C8 Bj) 64 102 Qmc WF
theorem Zpj (C8 Bj:Fn) (K:Kf) (c:Cv):Qc6 C8 Bj (Ad K c)=
 (Bj (Ad K c)).bind fun o2=>
 (C8 (Bo K.p++[jA o2 0])).bind fun o3=>
 bif decide (gA o3 0<0)then
 some [I 0,I 0,I 0,I 0,I 0,I 0,I 0,B false]
 else
 bif decide (0<=gA o3 0)&&decide (gA o3 0<((K.p.segs.map Ay).length:Int))then
 some (AK Ah (nth [] (K.p.segs.map Ay) (gA o3 0).toNat)++[B true])
 else
 none:=by kernel_rfl
def Ed:=Qc6 Eg CO
theorem Z06:Ai PG (O6 Eg CO):=Gc (rs:=[110]) rfl ⟨Xx,MY,trivial⟩ rfl (BZ rfl (EA F_))
theorem Zap (vars : List AC) (R : Type) (K : TV -> Mem -> Option R) : EI PG (O6 Eg CO) 64 102 [TV.v false [AC.ptr 20000 0]] ⟨[(20000, (⟨119, (cR 0 vars)⟩ : Box))], []⟩ K = EI PG (O6 Eg CO) 64 102 [TV.v false [AC.ptr 20000 0]] ⟨[(20000, (⟨119, (cR 0 vars)⟩ : Box))], []⟩ (fun v _ => K v ⟨[(20000, (⟨119, (cR 0 vars)⟩ : Box))], []⟩) := Eq.trans (b := ((CO (cR 0 vars)).bind fun o2 =>
 (Eg [jA vars 37,jA vars 38,jA vars 39, .view Ah (wA vars 40), .view kPt (wA vars 41),jA o2 0]).bind fun o3=>
 bif decide (gA o3 0<0)then
 K (TV.tup [(true,[I 0,I 0,I 0,I 0,I 0,I 0,I 0]),(false,[B false])]) ⟨[(20000,(⟨119,(cR 0 vars)⟩:Box))],[]⟩
 else
 bif decide (0<=gA o3 0)&&decide (gA o3 0<(↑(wA vars 40).length:Int))then
 K (TV.tup [(true,[I (Af (nth .dead (nth [] (wA vars 40) (gA o3 0).toNat) 0)),I (Af (nth .dead (nth [] (wA vars 40) (gA o3 0).toNat) 1)),I (Af (nth .dead (nth [] (wA vars 40) (gA o3 0).toNat) 2)),I (Af (nth .dead (nth [] (wA vars 40) (gA o3 0).toNat) 3)),I (Af (nth .dead (nth [] (wA vars 40) (gA o3 0).toNat) 4)),I (Af (nth .dead (nth [] (wA vars 40) (gA o3 0).toNat) 5)),I (Af (nth .dead (nth [] (wA vars 40) (gA o3 0).toNat) 6))]),(false,[B true])]) ⟨[(20000,(⟨119,(cR 0 vars)⟩:Box))],[]⟩
 else
 none)) (by kernel_rfl) (Eq.symm (by kernel_rfl))
theorem S9:Al PG (102,Ep Qmc WF Ed):=RN (C:=(O6 Eg CO)) (L:=64) (by kernel_rfl) (FnOK.bare rfl rfl rfl) Z06 eqOk H6 (by kernel_rfl) (by kernel_rfl) (fun vars R K=>Zap vars R K)
def YY:Sk:=⟨[tf [CS.ptr 20000 0],tf [ci]],[(20000,119,cS)],[]⟩
def U5:Sk:=⟨[TS.tup []],[(20000,119,cS)],[]⟩
def Zvf (M:Fn):Nat×Spec:=(109,Ac YY U5 M)
def Qmm (Ic H1 CM IX Db Dc:Fn):Cfg:=cr [Zb3 Ic,Zvv H1,WA CM,Zfs IX,Qg8 Db,So Dc] [162,161,108,160,159,102] [102]
def Qbv (Ic H1 CM IX Db Dc:Fn):Fn:=Am PG (Qmm Ic H1 CM IX Db Dc) 64 109 YY U5
abbrev QK (c:Cv) (o15:List AC) (IX:Fn) (K:Kf) (CM H1:Fn) (x0:Int) (Ic:Fn):Option (List AC):=
 bif !c.y0==gA o15 4 then
 (IX (jA o15 0::jA o15 1::jA o15 2::jA o15 3::jA o15 4::jA o15 5::jA o15 6::Ad K c)).bind fun o18=>
 bif !bA o18 0 then
 bif gA o18 66==0 then
 (CM (cR 1 o18)).bind fun o19=>
 some (cR 0 o19)
 else
 some (cR 1 o18)
 else
 bif decide (0<=gA o15 4)&&decide (gA o15 4<(↑(wA o18 36).length:Int))then
 bif Af (nth .dead (nth [] (wA o18 36) (gA o15 4).toNat) 0)==6 then
 (H1 (I x0::jA o15 0::jA o15 1::jA o15 2::jA o15 3::jA o15 4::jA o15 5::jA o15 6::cR 1 o18)).bind fun o20=>
 some (cR 0 o20)
 else
 (Ic (I x0::jA o15 0::jA o15 1::jA o15 2::jA o15 3::jA o15 4::jA o15 5::jA o15 6::cR 1 o18)).bind fun o21=>
 some (cR 0 o21)
 else
 none
 else
 bif decide (0<=gA o15 4)&&decide (gA o15 4<((K.items.map Ag).length:Int))then
 bif gA (nth [] (K.items.map Ag) (gA o15 4).toNat) 0==6 then
 (H1 (I x0::jA o15 0::jA o15 1::jA o15 2::jA o15 3::jA o15 4::jA o15 5::jA o15 6::Ad K c)).bind fun o22=>
 some (cR 0 o22)
 else
 (Ic (I x0::jA o15 0::jA o15 1::jA o15 2::jA o15 3::jA o15 4::jA o15 5::jA o15 6::Ad K c)).bind fun o23=>
 some (cR 0 o23)
 else
 none
attribute [go_sem] QK
theorem Zgd (Ic H1 CM IX Db Dc:Fn) (x0:Int) (K:Kf) (c:Cv):Qbv Ic H1 CM IX Db Dc (I x0::Ad K c)=
 (Dc (Ad K c)).bind fun o15=>
 bif gA o15 6==0 then
 (Db (I x0::Ad K c)).bind fun o16=>
 some (cR 0 o16)
 else
 bif c.o2 then
 bif !c.y0==gA o15 4 then
 (Db (I x0::Ad K c)).bind fun o17=>
 some (cR 0 o17)
 else
 QK c o15 IX K CM H1 x0 Ic
 else
 QK c o15 IX K CM H1 x0 Ic:=by kernel_rfl
def OD:=Qbv PZ P_ FW PP G_ Ed
theorem Q7j:Ai PG (Qmm PZ P_ FW PP G_ Ed):=Gc (rs:=[102]) rfl ⟨Z0b,Zgl,Vx,Zqq,TZ,S9,trivial⟩ rfl (BZ rfl (BZ rfl (BZ rfl (BZ rfl (BZ rfl (EA F_))))))
theorem Za5:Al PG (109,Ac YY U5 OD):=rw1 (C:=(Qmm PZ P_ FW PP G_ Ed)) Q7j
def Qkq:Sk:=⟨[tf [ci]],[],[]⟩
def Ys:Sk:=⟨[tf [ci]],[],[]⟩
def Qai (M:Fn):Nat×Spec:=(88,Ac Qkq Ys M)
def Qgi (AE:Fn):Cfg:=cf [Kc AE]
def Qf (AE:Fn):Fn:=Am PG (Qgi AE) 64 88 Qkq Ys
theorem Q21 (AE:Fn) (x0:Int):Qf AE [I x0]=
 (AE [I x0,I 1048576,I 60000,I 2]).bind fun o1=>
 some [jA o1 0]:=by kernel_rfl
def Es:=Qf Be
theorem Zfl:Ai PG (Qgi Be):=Ao rfl ⟨K3,trivial⟩
theorem Y0:Al PG (88,Ac Qkq Ys Es):=rw1 (C:=(Qgi Be)) Zfl
def XS:Sk:=⟨[tf [ci]],[],[]⟩
def Y6:Sk:=⟨[tf [ci]],[],[]⟩
def Qqa (M:Fn):Nat×Spec:=(177,Ac XS Y6 M)
def VI:Cfg:=cf []
def Qen:Fn:=Am PG VI 64 177 XS Y6
theorem Zdc (x0:Int):Qen [I x0]=
 bif x0==3 then
 some [I 1]
 else
 bif x0==4 then
 some [I (-1)]
 else
 some [I 0]:=by kernel_rfl
def F1:=Qen
theorem Zsu:Ai PG (VI):=Ao rfl trivial
theorem Qz1:Al PG (177,Ac XS Y6 F1):=rw1 (C:=VI) Zsu
def UU:Sk:=⟨[TS.v true [ci,ci,ci,ci],tf [ci],tf [ci]],[],[]⟩
def YA:Sk:=⟨[tf [CS.bool]],[],[]⟩
def Zjl (M:Fn):Nat×Spec:=(150,Ac UU YA M)
def X3 (C4 FB:Fn):Cfg:=cf [Qai C4,Qqa FB]
def Qaf (C4 FB:Fn):Fn:=Am PG (X3 C4 FB) 64 150 UU YA
theorem Zgy (C4 FB:Fn) (x0 x1 x2 x3 x4 x5:Int):Qaf C4 FB [I x0,I x1,I x2,I x3,I x4,I x5]=
 (FB [I x4]).bind fun o3=>
 bif gA o3 0==0 then
 bif x4==5 then
 bif x1==0 then
 some [B (x2==0)]
 else
 some [B false]
 else
 some [B false]
 else
 bif x0==gA o3 0 then
 (C4 [I x5]).bind fun o4=>
 bif x1==gA o4 0 then
 (C4 [I x5]).bind fun o5=>
 some [B (x2==gA o5 0)]
 else
 some [B false]
 else
 some [B false]:=by kernel_rfl
def NJ:=Qaf Es F1
theorem Zrh:Ai PG (X3 Es F1):=Ao rfl ⟨Y0,Qz1,trivial⟩
theorem Zmz:Al PG (150,Ac UU YA NJ):=rw1 (C:=(X3 Es F1)) Zrh
def X6:Sk:=⟨[TS.v true [ci,ci,ci,ci],tf [ci],tf [ci]],[],[]⟩
def V7:Sk:=⟨[TS.v true [ci,ci,ci,ci]],[],[]⟩
def Ze8 (M:Fn):Nat×Spec:=(149,Ac X6 V7 M)
def Qh0 (C4 FB:Fn):Cfg:=cf [Qai C4,Qqa FB]
def XE (C4 FB:Fn):Fn:=Am PG (Qh0 C4 FB) 64 149 X6 V7
theorem Zwi (C4 FB:Fn) (x0 x1 x2 x3 x4 x5:Int):XE C4 FB [I x0,I x1,I x2,I x3,I x4,I x5]=
 (FB [I x4]).bind fun o3=>
 bif x4==5 then
 some [I x0,I x1,I 0,I x3]
 else
 bif gA o3 0==0 then
 some [I x0,I x1,I x2,I x3]
 else
 bif x1==0 then
 (C4 [I x5]).bind fun o4=>
 some [jA o3 0,I x1,jA o4 0,I x3]
 else
 bif x0==gA o3 0 then
 (C4 [I x5]).bind fun o5=>
 some [jA o3 0,I x1,jA o5 0,I x3]
 else
 some [I x0,I x1,I 0,I x3]:=by kernel_rfl
def Kk:=XE Es F1
theorem Zwm:Ai PG (Qh0 Es F1):=Ao rfl ⟨Y0,Qz1,trivial⟩
theorem Zba:Al PG (149,Ac X6 V7 Kk):=rw1 (C:=(Qh0 Es F1)) Zwm
def Vy:Sk:=⟨[tf [CS.ptr 20000 0]],[(20000,119,cS)],[]⟩
def XC:Sk:=⟨[tf [ci]],[(20000,119,cS)],[]⟩
def Zlt (M:Fn):Nat×Spec:=(148,Ac Vy XC M)
def W5:Cfg:=cf []
def Qcq:Fn:=Am PG W5 64 148 Vy XC
theorem Zkv (K:Kf) (c:Cv):Qcq (Ad K c)=
 some (I 3::Ad K {c with next:=IntKind.i64.wrap (c.idx+1),on:=false,idx:=0,waits:=false,cnt:=0}):=by kernel_rfl
def NS:=Qcq
theorem Q7w:Ai PG (W5):=Ao rfl trivial
theorem Zjm:Al PG (148,Ac Vy XC NS):=rw1 (C:=W5) Q7w
def Qgb:Sk:=⟨[tf [CS.ptr 20000 0]],[(20000,119,cS)],[]⟩
def Qey:Sk:=⟨[tf [ci]],[(20000,119,cS)],[]⟩
def Qvz (M:Fn):Nat×Spec:=(103,Ac Qgb Qey M)
def Qc1 (NE Ny HE:Fn):Cfg:=cp [Zjl NE,Ze8 Ny,Zlt HE] [148]
def Qak (NE Ny HE:Fn):Fn:=Am PG (Qc1 NE Ny HE) 64 103 Qgb Qey
theorem Q9r (NE Ny HE:Fn) (K:Kf) (c:Cv):Qak NE Ny HE (Ad K c)=
 bif c.waits then
 bif decide (IntKind.i64.wrap (c.cnt+1)>1)then
 bif c.resumed then
 (HE (Ad K {c with cnt:=IntKind.i64.wrap (c.cnt+1)})).bind fun o7=>
 some (jA o7 0::cR 1 o7)
 else
 some (I 2::Ad K {c with cnt:=IntKind.i64.wrap (c.cnt+1)})
 else
 some (I 2::Ad K {c with cnt:=IntKind.i64.wrap (c.cnt+1)})
 else
 bif decide (0<=c.idx)&&decide (c.idx<((K.p.marks.map As).length:Int))then
 bif gA (nth [] (K.p.marks.map As) c.idx.toNat) 1 !=3 then
 (HE (Ad K {c with cnt:=IntKind.i64.wrap (c.cnt+1)})).bind fun o8=>
 some (jA o8 0::cR 1 o8)
 else
 bif decide (0<=gA (nth [] (K.p.marks.map As) c.idx.toNat) 2)&&decide (gA (nth [] (K.p.marks.map As) c.idx.toNat) 2<((K.items.map Ag).length:Int))then
 bif gA (nth [] (K.items.map Ag) (gA (nth [] (K.p.marks.map As) c.idx.toNat) 2).toNat) 0==7 then
 bif decide (IntKind.i64.wrap (c.cnt+1)<gA (nth [] (K.items.map Ag) (gA (nth [] (K.p.marks.map As) c.idx.toNat) 2).toNat) 19)then
 some (I 3::Ad K {c with cnt:=IntKind.i64.wrap (c.cnt+1)})
 else
 (HE (Ad K {c with cnt:=IntKind.i64.wrap (c.cnt+1)})).bind fun o9=>
 some (jA o9 0::cR 1 o9)
 else
 bif gA (nth [] (K.items.map Ag) (gA (nth [] (K.p.marks.map As) c.idx.toNat) 2).toNat) 0==8 then
 (Ny [I c.s0,I c.s1,I c.s2,I c.s3,jA (nth [] (K.items.map Ag) (gA (nth [] (K.p.marks.map As) c.idx.toNat) 2).toNat) 19,jA (nth [] (K.items.map Ag) (gA (nth [] (K.p.marks.map As) c.idx.toNat) 2).toNat) 20]).bind fun o10=>
 (NE [jA o10 0,jA o10 1,jA o10 2,jA o10 3,jA (nth [] (K.items.map Ag) (gA (nth [] (K.p.marks.map As) c.idx.toNat) 2).toNat) 19,jA (nth [] (K.items.map Ag) (gA (nth [] (K.p.marks.map As) c.idx.toNat) 2).toNat) 20]).bind fun o11=>
 bif !bA o11 0 then
 some (I 3::Ad K {c with s0:=gA o10 0,s1:=gA o10 1,s2:=gA o10 2,s3:=gA o10 3,cnt:=IntKind.i64.wrap (c.cnt+1)})
 else
 (HE (Ad K {c with s0:=gA o10 0,s1:=gA o10 1,s2:=gA o10 2,s3:=gA o10 3,cnt:=IntKind.i64.wrap (c.cnt+1)})).bind fun o12=>
 some (jA o12 0::cR 1 o12)
 else
 bif gA (nth [] (K.items.map Ag) (gA (nth [] (K.p.marks.map As) c.idx.toNat) 2).toNat) 0==14 then
 some (I 7::Ad K {c with cnt:=IntKind.i64.wrap (c.cnt+1),ended:=7})
 else
 (HE (Ad K {c with cnt:=IntKind.i64.wrap (c.cnt+1)})).bind fun o13=>
 some (jA o13 0::cR 1 o13)
 else
 none
 else
 none:=by kernel_rfl
def JT:=Qak NJ Kk NS
theorem Q9y:Ai PG (Qc1 NJ Kk NS):=Ao rfl ⟨Zmz,Zba,Zjm,trivial⟩
theorem Qzv:Al PG (103,Ac Qgb Qey JT):=rw1 (C:=(Qc1 NJ Kk NS)) Q9y
def Qek:Sk:=⟨[tf [CS.ptr 20000 0],tf [ci]],[(20000,119,cS)],[]⟩
def Qh8:Sk:=⟨[tf [ci]],[(20000,119,cS)],[]⟩
def Zav (M:Fn):Nat×Spec:=(107,Ac Qek Qh8 M)
def YD (DD:Fn):Cfg:=cp [Qvz DD] [103]
def Qd1 (DD:Fn):Fn:=Am PG (YD DD) 64 107 Qek Qh8
theorem Q99 (DD:Fn) (x0:Int) (K:Kf) (c:Cv):Qd1 DD (I x0::Ad K c)=
 bif decide (0<=x0)&&decide (x0<((K.p.marks.map As).length:Int))then
 bif gA (nth [] (K.p.marks.map As) x0.toNat) 1==1 then
 (DD (Ad K {c with on:=true,idx:=x0,waits:=c.o3,cnt:=0})).bind fun o7=>
 some (jA o7 0::cR 1 o7)
 else
 bif gA (nth [] (K.p.marks.map As) x0.toNat) 1==2 then
 (DD (Ad K {c with on:=true,idx:=x0,waits:=c.o3,cnt:=0})).bind fun o8=>
 some (jA o8 0::cR 1 o8)
 else
 bif gA (nth [] (K.p.marks.map As) x0.toNat) 1==6 then
 (DD (Ad K {c with on:=true,idx:=x0,waits:=c.o3,cnt:=0})).bind fun o9=>
 some (jA o9 0::cR 1 o9)
 else
 bif gA (nth [] (K.p.marks.map As) x0.toNat) 1==4 then
 (DD (Ad K {c with on:=true,idx:=x0,waits:=true,cnt:=0})).bind fun o10=>
 some (jA o10 0::cR 1 o10)
 else
 bif gA (nth [] (K.p.marks.map As) x0.toNat) 1==3 then
 bif decide (0<=gA (nth [] (K.p.marks.map As) x0.toNat) 2)&&decide (gA (nth [] (K.p.marks.map As) x0.toNat) 2<((K.items.map Ag).length:Int))then
 bif gA (nth [] (K.items.map Ag) (gA (nth [] (K.p.marks.map As) x0.toNat) 2).toNat) 0==11 then
 (DD (Ad K {c with on:=true,idx:=x0,waits:=true,cnt:=0})).bind fun o11=>
 some (jA o11 0::cR 1 o11)
 else
 (DD (Ad K {c with on:=true,idx:=x0,waits:=gA (nth [] (K.items.map Ag) (gA (nth [] (K.p.marks.map As) x0.toNat) 2).toNat) 0==12,cnt:=0})).bind fun o12=>
 some (jA o12 0::cR 1 o12)
 else
 none
 else
 (DD (Ad K {c with on:=true,idx:=x0,waits:=false,cnt:=0})).bind fun o13=>
 some (jA o13 0::cR 1 o13)
 else
 none:=by kernel_rfl
def Ow:=Qd1 JT
theorem Zxs:Ai PG (YD JT):=Ao rfl ⟨Qzv,trivial⟩
theorem Zu9:Al PG (107,Ac Qek Qh8 Ow):=rw1 (C:=(YD JT)) Zxs
def Tf:Sk:=⟨[tf [CS.sl kPt],tf [ci],TS.v true [ci,ci,CS.bool,CS.bool,CS.bool],tf [ci],tf [ci]],[],[]⟩
def Qg2:Sk:=⟨[TS.tup [(false,[ci]),(false,[ci])]],[],[]⟩
def Zqz (M:Fn):Nat×Spec:=(158,Ac Tf Qg2 M)
def UJ (Cn:Fn):Cfg:=cf [Qzk Cn]
def Qrm:Sk:=⟨[tf [CS.sl kPt],td,td,tf [ci],tf [ci],td,td,tf [CS.ptr 7 0],td,td,td,td,tf [ci]]++dd 32,[(7,92,[ci,ci,CS.bool,CS.bool,CS.bool])],[]⟩
def Qny:List (Ex×Sk):=[(Ex.ret,⟨[td,td,td,td,td,td,td,td,td,td,tf [ci],tf [ci]]++dd 33,[],[]⟩),(Ex.exit 0,⟨[td,td,td,tf [ci]]++dd 41,[],[]⟩)]
def QC (Cn:Fn):Lp:=AP PG (UJ Cn) 64 2 (AO PG 158 2) Qrm Qny
def Qoh (Cn:Fn) (N2:Lp):Cfg:=(UJ Cn).loop 2 Qrm Qny N2
def Qfc (Cn:Fn) (N2:Lp):Fn:=Am PG (Qoh Cn N2) 64 158 Tf Qg2
theorem Q9c (Cn:Fn) (v0:Rw) (v1 v2 v3 v4 v5:Int) (v6 v7 v8:Bool):QC Cn [.view kPt v0,I v1,I v2,I v3,I v4,I v5,B v6,B v7,B v8]=
 bif decide (v3<(v0.length:Int))then
 bif decide (0<=v3)&&decide (v3<(v0.length:Int))then
 (Cn [jA (nth [] v0 v3.toNat) 0,jA (nth [] v0 v3.toNat) 1,jA (nth [] v0 v3.toNat) 2,I v4,I v5,B v6,B v7,B v8]).bind fun o2=>
 bif bA o2 0 then
 bif decide (v2<=gA (nth [] v0 v3.toNat) 0)then
 bif decide (gA (nth [] v0 v3.toNat) 0<=v1)then
 some (1,[jA (nth [] v0 v3.toNat) 0,I v3])
 else
 some (0,[.view kPt v0,I v1,I v2,I (IntKind.i64.wrap (v3+1)),I v4,I v5,B v6,B v7,B v8])
 else
 some (0,[.view kPt v0,I v1,I v2,I (IntKind.i64.wrap (v3+1)),I v4,I v5,B v6,B v7,B v8])
 else
 some (0,[.view kPt v0,I v1,I v2,I (IntKind.i64.wrap (v3+1)),I v4,I v5,B v6,B v7,B v8])
 else
 none
 else
 some (2,[I v1]):=by kernel_rfl
theorem Zgs (Cn:Fn) (N2:Lp) (x0:Rw) (x1 x2 x3:Int) (x4 x5 x6:Bool) (x7 x8:Int):Qfc Cn N2 [.view kPt x0,I x1,I x2,I x3,B x4,B x5,B x6,I x7,I x8]=
 (N2 [.view kPt x0,I x7,I x8,I (mx x1 0),I x2,I x3,B x4,B x5,B x6]).bind fun o3=>
 bif o3.1.beq 1 then
 some [jA o3.2 0,jA o3.2 1]
 else
 bif o3.1.beq 2 then
 some [jA o3.2 0,I (-1)]
 else
 none:=by kernel_rfl
def Q51:=An (QC HB)
def Qc:=Qfc HB Q51
theorem Q1v:Ai PG (UJ HB):=Ao rfl ⟨Qo6,trivial⟩
theorem Zmy:Al PG (158,Ac Tf Qg2 Qc):=rw2 (C:=(Qoh HB Q51)) (fl fb Q1v) Q1v
def TL:Sk:=⟨[TS.v true [CS.sl Aq,ci,ci,ci,ci,ci],tf [ci]],[],[]⟩
def VG:Sk:=⟨[tf [ci]],[],[]⟩
def Zf3 (M:Fn):Nat×Spec:=(157,Ac TL VG M)
def C_track_Where_0:Cfg:=cf []
def Q5y:Sk:=⟨[td,tf [ci],td,td,td,td,td,td,td,td,td,td,td,tf [CS.sl Aq],tf [ci],tf [ci]]++dd 28,[],[]⟩
def Q43:List (Ex×Sk):=[(Ex.ret,⟨[td,td,td,td,tf [ci]]++dd 39,[],[]⟩),(Ex.exit 0,⟨[td]++dd 43,[],[]⟩)]
def PS:Lp:=AP PG C_track_Where_0 64 4 (AO PG 157 4) Q5y Q43
def Qtc (N4:Lp):Cfg:=C_track_Where_0.loop 4 Q5y Q43 N4
def Q42 (N4:Lp):Fn:=Am PG (Qtc N4) 64 157 TL VG
theorem Qs5 (v0:Int) (v1:Rw) (v2 v3:Int):PS [I v0, .view Aq v1,I v2,I v3]=
 bif decide (v3<v2)then
 bif decide (0<=v3)&&decide (v3<(v1.length:Int))then
 bif gA (nth [] v1 v3.toNat) 3 !=0 then
 bif decide (0<=IntKind.i64.wrap (IntKind.i64.wrap (v0-gA (nth [] v1 v3.toNat) 2)*gA (nth [] v1 v3.toNat) 3))then
 bif decide (IntKind.i64.wrap (IntKind.i64.wrap (v0-gA (nth [] v1 v3.toNat) 2)*gA (nth [] v1 v3.toNat) 3)<=gA (nth [] v1 v3.toNat) 1)then
 some (1,[I (IntKind.i64.wrap (gA (nth [] v1 v3.toNat) 0+IntKind.i64.wrap (IntKind.i64.wrap (v0-gA (nth [] v1 v3.toNat) 2)*gA (nth [] v1 v3.toNat) 3)))])
 else
 some (0,[I v0, .view Aq v1,I v2,I (IntKind.i64.wrap (v3+1))])
 else
 some (0,[I v0, .view Aq v1,I v2,I (IntKind.i64.wrap (v3+1))])
 else
 some (0,[I v0, .view Aq v1,I v2,I (IntKind.i64.wrap (v3+1))])
 else
 none
 else
 some (2,[]):=by kernel_rfl
theorem Zkm (N4:Lp) (x0:Rw) (x1 x2 x3 x4 x5 x6:Int):Q42 N4 [.view Aq x0,I x1,I x2,I x3,I x4,I x5,I x6]=
 bif x6==x2 then
 some [I 0]
 else
 (N4 [I x6, .view Aq x0,I (x0.length:Int),I 0]).bind fun o1=>
 bif o1.1.beq 1 then
 some [jA o1.2 0]
 else
 bif o1.1.beq 2 then
 some [I (-1)]
 else
 none:=by kernel_rfl
def Li:=An (PS)
def NU:=Q42 Li
theorem Qon:Ai PG (C_track_Where_0):=Ao rfl trivial
theorem Zjn:Al PG (157,Ac TL VG NU):=rw2 (C:=(Qtc Li)) (fl fb Qon) Qon
def Qif:Sk:=⟨[tf [CS.ptr 20000 0]],[(20000,119,cS)],[]⟩
def Qcz:Sk:=⟨[TS.tup [(false,[ci]),(false,[ci])]],[(20000,119,cS)],[]⟩
def Zix (M:Fn):Nat×Spec:=(106,Ac Qif Qcz M)
def XX (H0 Hb Bu DJ:Fn):Cfg:=cf [Zqz H0,Zf3 Hb,ON Bu,Qpi DJ]
def TO (H0 Hb Bu DJ:Fn):Fn:=Am PG (XX H0 Hb Bu DJ) 64 106 Qif Qcz
abbrev Sy (DJ:Fn) (K:Kf) (c:Cv) (Bu Hb H0:Fn) (h1_0:AC):Option (List AC):=
 (DJ [I K.pa,I K.pb,I K.pc,I c.m0,I c.m1,I c.m2,I c.m3,I c.m4,I c.m5]).bind fun o14=>
 (Bu (Bh K.t++[I (IntKind.i64.wrap ((IntKind.i64.wrap (IntKind.i64.wrap (gA o14 0+256)-1)).tdiv 256))])).bind fun o15=>
 (Hb (Bh K.t++[jA o15 0])).bind fun o16=>
 bif gA o16 0 !=IntKind.i64.wrap ((IntKind.i64.wrap (IntKind.i64.wrap (gA o14 0+256)-1)).tdiv 256)then
 (H0 [.view kPt (K.p.marks.map As),I c.next,I c.o0,I c.o1,B c.o2,B c.o3,B c.o4,h1_0,I (IntKind.i64.wrap (gA o15 0+1))]).bind fun o17=>
 (Hb (Bh K.t++[jA o17 0])).bind fun o18=>
 some (jA o18 0::jA o17 1::Ad K c)
 else
 (H0 [.view kPt (K.p.marks.map As),I c.next,I c.o0,I c.o1,B c.o2,B c.o3,B c.o4,h1_0,jA o15 0]).bind fun o19=>
 (Hb (Bh K.t++[jA o19 0])).bind fun o20=>
 some (jA o20 0::jA o19 1::Ad K c)
attribute [go_sem] Sy
theorem Znv (H0 Hb Bu DJ:Fn) (K:Kf) (c:Cv):TO H0 Hb Bu DJ (Ad K c)=
 bif K.closed then
 Sy DJ K c Bu Hb H0 (I K.len)
 else
 Sy DJ K c Bu Hb H0 (I K.set):=by kernel_rfl
def Oz:=TO Qc NU Dx FJ
theorem Zfm:Ai PG (XX Qc NU Dx FJ):=Ao rfl ⟨Zmy,Zjn,Oy,Q1g,trivial⟩
theorem Zlo:Al PG (106,Ac Qif Qcz Oz):=rw1 (C:=(XX Qc NU Dx FJ)) Zfm
def Qki:Sk:=⟨[tf [CS.ptr 20000 0]],[(20000,119,cS)],[]⟩
def Qap:Sk:=⟨[tf [ci]],[(20000,119,cS)],[]⟩
def Q96 (M:Fn):Nat×Spec:=(70,Ac Qki Qap M)
def Qas (Ir CM Nr Ma:Fn):Cfg:=cp [Zvf Ir,WA CM,Zav Nr,Zix Ma] [109,108,107,106]
def Yd (Ir CM Nr Ma:Fn):Fn:=Am PG (Qas Ir CM Nr Ma) 64 70 Qki Qap
theorem Zvd (Ir CM Nr Ma:Fn) (K:Kf) (c:Cv):Yd Ir CM Nr Ma (Ad K c)=
 (Ma (Ad K c)).bind fun o7=>
 bif bA o7 90 then
 bif gA o7 52==IntKind.i64.wrap (gA o7 0*256)then
 bif decide (gA o7 1>=0)then
 (Nr (jA o7 1::cR 2 o7)).bind fun o8=>
 bif decide (0<=gA o7 1)&&decide (gA o7 1<(↑(wA o8 42).length:Int))then
 bif Af (nth .dead (nth [] (wA o8 42) (gA o7 1).toNat) 2)==gA o8 80 then
 bif decide (0<=Af (nth .dead (nth [] (wA o8 42) (gA o7 1).toNat) 2))&&decide (Af (nth .dead (nth [] (wA o8 42) (gA o7 1).toNat) 2)<(↑(wA o8 36).length:Int))then
 bif Af (nth .dead (nth [] (wA o8 36) (Af (nth .dead (nth [] (wA o8 42) (gA o7 1).toNat) 2)).toNat) 0)==5 then
 bif gA o8 83==1 then
 (CM (cR 1 o8)).bind fun o9=>
 some (jA o8 0::cR 0 o9)
 else
 some (jA o8 0::cR 1 o8)
 else
 some (jA o8 0::cR 1 o8)
 else
 none
 else
 some (jA o8 0::cR 1 o8)
 else
 none
 else
 bif bA o7 38 then
 some (I 7::DI (cR 2 o7) [(78,I 7)])
 else
 some (I 1::cR 2 o7)
 else
 bif gA o7 63 !=0 then
 (Ir (jA o7 0::cR 2 o7)).bind fun o10=>
 bif bA o7 90 then
 some (I 6::cR 0 o10)
 else
 some (I 1::cR 0 o10)
 else
 (Ir (jA o7 0::cR 2 o7)).bind fun o11=>
 some (I 1::cR 0 o11)
 else
 bif gA o7 63 !=0 then
 (Ir (jA o7 0::cR 2 o7)).bind fun o12=>
 bif bA o7 90 then
 some (I 6::cR 0 o12)
 else
 some (I 1::cR 0 o12)
 else
 (Ir (jA o7 0::cR 2 o7)).bind fun o13=>
 some (I 1::cR 0 o13):=by kernel_rfl
def KY:=Yd OD FW Ow Oz
theorem Zao:Ai PG (Qas OD FW Ow Oz):=Ao rfl ⟨Za5,Vx,Zu9,Zlo,trivial⟩
theorem Zc8:Al PG (70,Ac Qki Qap KY):=rw1 (C:=(Qas OD FW Ow Oz)) Zao
def Qcs:Sk:=⟨[tf [ci]],[],[]⟩
def Qnd:Sk:=⟨[TS.v true [ci,ci,ci,ci,ci,ci]],[],[]⟩
def Qbl (M:Fn):Nat×Spec:=(59,Ac Qcs Qnd M)
def Qb5:Cfg:=cf []
def Z4:Fn:=Am PG Qb5 64 59 Qcs Qnd
theorem Q9f (x0:Int):Z4 [I x0]=
 some [I (IntKind.i64.wrap (x0*256)),I 0,I 0,I (IntKind.i64.wrap (x0*256)),I (IntKind.i64.wrap (x0*256)),I (IntKind.i64.wrap (x0*256))]:=by kernel_rfl
def GD:=Z4
theorem Q8f:Ai PG (Qb5):=Ao rfl trivial
theorem Qaa:Al PG (59,Ac Qcs Qnd GD):=rw1 (C:=Qb5) Q8f
def W1:Sk:=⟨[TS.v true [ci,ci,ci,ci,ci,ci,ci,ci,ci,CS.sl Aa,ci,ci,ci,ci,ci,ci,ci,ci,ci,CS.sl Aa,ci,ci,ci,ci,ci,ci,ci,ci,ci,CS.sl Aa],TS.v true [ci,ci,ci],TS.v true [ci,ci,ci]],[],[]⟩
def Qcb:Sk:=⟨[tf [ci]],[],[]⟩
def Znd (M:Fn):Nat×Spec:=(95,Ac W1 Qcb M)
def Qcu:Cfg:={cf []with unroll:=[3]}
def Qxo:Fn:=Am PG Qcu 64 95 W1 Qcb
theorem Zqi (x0 x1 x2 x3 x4 x5 x6 x7 x8:Int) (x9:Rw) (x10 x11 x12 x13 x14 x15 x16 x17 x18:Int) (x19:Rw) (x20 x21 x22 x23 x24 x25 x26 x27 x28:Int) (x29:Rw) (x30 x31 x32 x33 x34 x35:Int):Qxo [I x0,I x1,I x2,I x3,I x4,I x5,I x6,I x7,I x8, .view Aa x9,I x10,I x11,I x12,I x13,I x14,I x15,I x16,I x17,I x18, .view Aa x19,I x20,I x21,I x22,I x23,I x24,I x25,I x26,I x27,I x28, .view Aa x29,I x30,I x31,I x32,I x33,I x34,I x35]=
 bif x30 !=x33 then
 bif x31 !=x34 then
 bif x32 !=x35 then
 some [I (mx (mx (mx 0 x6) x16) x26)]
 else
 some [I (mx (mx 0 x6) x16)]
 else
 bif x32 !=x35 then
 some [I (mx (mx 0 x6) x26)]
 else
 some [I (mx 0 x6)]
 else
 bif x31 !=x34 then
 bif x32 !=x35 then
 some [I (mx (mx 0 x16) x26)]
 else
 some [I (mx 0 x16)]
 else
 bif x32 !=x35 then
 some [I (mx 0 x26)]
 else
 some [I 0]:=by kernel_rfl
def Od:=Qxo
theorem Zn1:Ai PG (Qcu):=Ao rfl trivial
theorem Q7i:Al PG (95,Ac W1 Qcb Od):=rw1 (C:=Qcu) Zn1
def WR:Sk:=⟨[TS.v true [ci,ci,ci],TS.v true [ci,ci,ci],TS.v true [ci,ci,ci],tf [ci]],[],[]⟩
def Qfa:Sk:=⟨[TS.v true [ci,ci,ci]],[],[]⟩
def Ztb (M:Fn):Nat×Spec:=(94,Ac WR Qfa M)
def Zm:Cfg:={cf []with unroll:=[2]}
def Qsp:Fn:=Am PG Zm 64 94 WR Qfa
abbrev Ry (x8 x5:Int) (h1_0:AC) (x9 x2:Int) (h2_0:AC):Option (List AC):=
 bif decide (x8>x5)then
 some [h1_0,h2_0,I x9]
 else
 bif decide (x8<x5)then
 some [h1_0,h2_0,I (IntKind.i64.wrap (0-x9))]
 else
 some [h1_0,h2_0,I x2]
attribute [go_sem] Ry
abbrev Qh (x7 x4 x8 x5 x9 x2 x1:Int) (h1_0:AC):Option (List AC):=
 bif decide (x7>x4)then
 Ry x8 x5 h1_0 x9 x2 (I x9)
 else
 bif decide (x7<x4)then
 Ry x8 x5 h1_0 x9 x2 (I (IntKind.i64.wrap (0-x9)))
 else
 Ry x8 x5 h1_0 x9 x2 (I x1)
attribute [go_sem] Qh
theorem Zju (x0 x1 x2 x3 x4 x5 x6 x7 x8 x9:Int):Qsp [I x0,I x1,I x2,I x3,I x4,I x5,I x6,I x7,I x8,I x9]=
 bif decide (x6>x3)then
 Qh x7 x4 x8 x5 x9 x2 x1 (I x9)
 else
 bif decide (x6<x3)then
 Qh x7 x4 x8 x5 x9 x2 x1 (I (IntKind.i64.wrap (0-x9)))
 else
 Qh x7 x4 x8 x5 x9 x2 x1 (I x0):=by kernel_rfl
def Mk:=Qsp
theorem Zvi:Ai PG (Zm):=Ao rfl trivial
theorem Zac:Al PG (94,Ac WR Qfa Mk):=rw1 (C:=Zm) Zvi
def Qcf:Sk:=⟨[TS.v true [ci,ci,ci,ci,ci,ci,ci,ci,ci,ci],tf [CS.ptr 20000 0]],[(20000,62,[CS.own 20000 10,ci,ci,ci,ci,ci])],[(20000,135,Aq)]⟩
def Qk1:Sk:=⟨[TS.tup []],[(20000,62,[CS.own 20000 10,ci,ci,ci,ci,ci])],[(20000,135,Aq)]⟩
def Q2z (M:Fn):Nat×Spec:=(92,Ac Qcf Qk1 M)
def Qis:Cfg:=cf []
def Zy:Fn:=Am PG Qis 64 92 Qcf Qk1
theorem Q2b (x0:Rw) (x1 x2 x3 x4 x5 x6 x7 x8 x9 x10 x11 x12 x13 x14 x15:Int):Zy [.view Aq x0,I x1,I x2,I x3,I x4,I x5,I x6,I x7,I x8,I x9,I x10,I x11,I x12,I x13,I x14,I x15]=
 bif decide ((x0.length:Int)>0)then
 bif x4 !=0 then
 bif decide (0<=IntKind.i64.wrap ((x0.length:Int)-1))&&decide (IntKind.i64.wrap ((x0.length:Int)-1)<(x0.length:Int))then
 bif gA (nth [] x0 (IntKind.i64.wrap ((x0.length:Int)-1)).toNat) 3==x4 then
 bif decide (0<=IntKind.i64.wrap ((x0.length:Int)-1))&&decide (IntKind.i64.wrap ((x0.length:Int)-1)<(x0.length:Int))then
 bif gA (nth [] x0 (IntKind.i64.wrap ((x0.length:Int)-1)).toNat) 7==x8&&(gA (nth [] x0 (IntKind.i64.wrap ((x0.length:Int)-1)).toNat) 8==x9&&(gA (nth [] x0 (IntKind.i64.wrap ((x0.length:Int)-1)).toNat) 9==x10&&true))then
 bif decide (0<=IntKind.i64.wrap ((x0.length:Int)-1))&&decide (IntKind.i64.wrap ((x0.length:Int)-1)<(x0.length:Int))then
 bif decide (0<=IntKind.i64.wrap ((x0.length:Int)-1))&&decide (IntKind.i64.wrap ((x0.length:Int)-1)<(x0.length:Int))then
 some [.view Aq (x0.set (IntKind.i64.wrap ((x0.length:Int)-1)).toNat [jA (nth [] x0 (IntKind.i64.wrap ((x0.length:Int)-1)).toNat) 0,I (IntKind.i64.wrap (gA (nth [] x0 (IntKind.i64.wrap ((x0.length:Int)-1)).toNat) 1+x2)),jA (nth [] x0 (IntKind.i64.wrap ((x0.length:Int)-1)).toNat) 2,jA (nth [] x0 (IntKind.i64.wrap ((x0.length:Int)-1)).toNat) 3,jA (nth [] x0 (IntKind.i64.wrap ((x0.length:Int)-1)).toNat) 4,jA (nth [] x0 (IntKind.i64.wrap ((x0.length:Int)-1)).toNat) 5,jA (nth [] x0 (IntKind.i64.wrap ((x0.length:Int)-1)).toNat) 6,jA (nth [] x0 (IntKind.i64.wrap ((x0.length:Int)-1)).toNat) 7,jA (nth [] x0 (IntKind.i64.wrap ((x0.length:Int)-1)).toNat) 8,jA (nth [] x0 (IntKind.i64.wrap ((x0.length:Int)-1)).toNat) 9]),I (IntKind.i64.wrap (x11+x2)),I x12,I x13,I x14,I x15]
 else
 none
 else
 none
 else
 bif((x0++[[I x11,I x2,I x3,I x4,I x5,I x6,I x7,I x8,I x9,I x10]]).length*80).ble 140737488355328 then
 some [.view Aq (x0++[[I x11,I x2,I x3,I x4,I x5,I x6,I x7,I x8,I x9,I x10]]),I (IntKind.i64.wrap (x11+x2)),I x12,I x13,I x14,I x15]
 else
 none
 else
 none
 else
 bif((x0++[[I x11,I x2,I x3,I x4,I x5,I x6,I x7,I x8,I x9,I x10]]).length*80).ble 140737488355328 then
 some [.view Aq (x0++[[I x11,I x2,I x3,I x4,I x5,I x6,I x7,I x8,I x9,I x10]]),I (IntKind.i64.wrap (x11+x2)),I x12,I x13,I x14,I x15]
 else
 none
 else
 none
 else
 bif((x0++[[I x11,I x2,I x3,I x4,I x5,I x6,I x7,I x8,I x9,I x10]]).length*80).ble 140737488355328 then
 some [.view Aq (x0++[[I x11,I x2,I x3,I x4,I x5,I x6,I x7,I x8,I x9,I x10]]),I (IntKind.i64.wrap (x11+x2)),I x12,I x13,I x14,I x15]
 else
 none
 else
 bif((x0++[[I x11,I x2,I x3,I x4,I x5,I x6,I x7,I x8,I x9,I x10]]).length*80).ble 140737488355328 then
 some [.view Aq (x0++[[I x11,I x2,I x3,I x4,I x5,I x6,I x7,I x8,I x9,I x10]]),I (IntKind.i64.wrap (x11+x2)),I x12,I x13,I x14,I x15]
 else
 none:=by kernel_rfl
def Kr:=Zy
theorem Zlz:Ai PG (Qis):=Ao rfl trivial
theorem Qyn:Al PG (92,Ac Qcf Qk1 Kr):=rw1 (C:=Qis) Zlz
def Tz:Sk:=⟨[TS.v true [ci,ci,ci],TS.v true [ci,ci,ci],tf [ci],tf [ci],tf [CS.ptr 20000 0],tf [CS.ptr 20001 0],tf [CS.ptr 20002 0],tf [CS.ptr 20003 0]],[(20000,44,[ci,ci,ci]),(20001,3,[ci]),(20002,27,[ci,ci,ci,ci,ci,ci,ci,ci,ci,CS.sl Aa,ci,ci,ci,ci,ci,ci,ci,ci,ci,CS.sl Aa,ci,ci,ci,ci,ci,ci,ci,ci,ci,CS.sl Aa]),(20003,153,[CS.clo 92 [] [(20004,0)]]),(20004,62,[CS.own 20000 10,ci,ci,ci,ci,ci])],[(20000,135,Aq)]⟩
def Uc:Sk:=⟨[TS.tup []],[(20000,44,[ci,ci,ci]),(20001,3,[ci]),(20002,27,[ci,ci,ci,ci,ci,ci,ci,ci,ci,CS.sl Aa,ci,ci,ci,ci,ci,ci,ci,ci,ci,CS.sl Aa,ci,ci,ci,ci,ci,ci,ci,ci,ci,CS.sl Aa]),(20003,153,[CS.clo 92 [] [(20004,0)]]),(20004,62,[CS.own 20000 10,ci,ci,ci,ci,ci])],[(20000,135,Aq)]⟩
def Q1p (M:Fn):Nat×Spec:=(93,Ac Tz Uc M)
def Ze (Oe Nj Fb:Fn):Cfg:=cp [Znd Oe,Ztb Nj,Q2z Fb] [92]
def Qb4 (Oe Nj Fb:Fn):Fn:=Am PG (Ze Oe Nj Fb) 64 93 Tz Uc
theorem Zg6 (Oe Nj Fb:Fn) (x0:Rw) (x1 x2 x3 x4 x5 x6 x7 x8 x9 x10 x11 x12 x13 x14 x15 x16 x17 x18 x19 x20 x21:Int) (x22:Rw) (x23 x24 x25 x26 x27 x28 x29 x30 x31:Int) (x32:Rw) (x33 x34 x35 x36 x37 x38 x39 x40 x41:Int) (x42:Rw) (x43 x44 x45 x46 x47:Int):Qb4 Oe Nj Fb [.view Aq x0,I x1,I x2,I x3,I x4,I x5,I x6,I x7,I x8,I x9,I x10,I x11,I x12,I x13,I x14,I x15,I x16,I x17,I x18,I x19,I x20,I x21, .view Aa x22,I x23,I x24,I x25,I x26,I x27,I x28,I x29,I x30,I x31, .view Aa x32,I x33,I x34,I x35,I x36,I x37,I x38,I x39,I x40,I x41, .view Aa x42,I x43,I x44,I x45,I x46,I x47]=
 (Nj [I x9,I x10,I x11,I x1,I x2,I x3,I x4,I x5,I x6,I x12]).bind fun o5=>
 (Oe [I x13,I x14,I x15,I x16,I x17,I x18,I x19,I x20,I x21, .view Aa x22,I x23,I x24,I x25,I x26,I x27,I x28,I x29,I x30,I x31, .view Aa x32,I x33,I x34,I x35,I x36,I x37,I x38,I x39,I x40,I x41, .view Aa x42,I x9,I x10,I x11,jA o5 0,jA o5 1,jA o5 2]).bind fun o6=>
 bif decide (gA o6 0>0)then
 (Fb [.view Aq x0,I 0,jA o6 0,I x7,I 0,I x9,I x10,I x11,jA o5 0,jA o5 1,jA o5 2,I x43,I x44,I x45,I x46,I x47]).bind fun o7=>
 (Fb [.view Aq (wA o7 0),I 0,I x8,I x7,I x12,jA o5 0,jA o5 1,jA o5 2,jA o5 0,jA o5 1,jA o5 2,jA o7 1,jA o7 2,jA o7 3,jA o7 4,jA o7 5]).bind fun o8=>
 some [.view Aq (wA o8 0),jA o5 0,jA o5 1,jA o5 2,I x12,I x13,I x14,I x15,I x16,I x17,I x18,I x19,I x20,I x21, .view Aa x22,I x23,I x24,I x25,I x26,I x27,I x28,I x29,I x30,I x31, .view Aa x32,I x33,I x34,I x35,I x36,I x37,I x38,I x39,I x40,I x41, .view Aa x42,jA o8 1,jA o8 2,jA o8 3,jA o8 4,jA o8 5]
 else
 (Fb [.view Aq x0,I 0,I x8,I x7,I x12,jA o5 0,jA o5 1,jA o5 2,jA o5 0,jA o5 1,jA o5 2,I x43,I x44,I x45,I x46,I x47]).bind fun o9=>
 some [.view Aq (wA o9 0),jA o5 0,jA o5 1,jA o5 2,I x12,I x13,I x14,I x15,I x16,I x17,I x18,I x19,I x20,I x21, .view Aa x22,I x23,I x24,I x25,I x26,I x27,I x28,I x29,I x30,I x31, .view Aa x32,I x33,I x34,I x35,I x36,I x37,I x38,I x39,I x40,I x41, .view Aa x42,jA o9 1,jA o9 2,jA o9 3,jA o9 4,jA o9 5]:=by kernel_rfl
def E8:=Qb4 Od Mk Kr
theorem Zq4:Ai PG (Ze Od Mk Kr):=Ao rfl ⟨Q7i,Zac,Qyn,trivial⟩
theorem Qtb:Al PG (93,Ac Tz Uc E8):=rw1 (C:=(Ze Od Mk Kr)) Zq4
def Qex:Sk:=⟨[TS.v true [ci,ci,ci,CS.sl Ah,CS.sl kPt],tf [ci],tf [ci],tf [ci],tf [CS.clo 93 [] [(20000,0),(20001,0),(20002,0),(20003,0)]]],[(20000,44,[ci,ci,ci]),(20001,3,[ci]),(20002,27,[ci,ci,ci,ci,ci,ci,ci,ci,ci,CS.sl Aa,ci,ci,ci,ci,ci,ci,ci,ci,ci,CS.sl Aa,ci,ci,ci,ci,ci,ci,ci,ci,ci,CS.sl Aa]),(20003,153,[CS.clo 92 [] [(20004,0)]]),(20004,62,[CS.own 20000 10,ci,ci,ci,ci,ci])],[(20000,135,Aq)]⟩
def VX:Sk:=⟨[TS.tup []],[(20000,44,[ci,ci,ci]),(20001,3,[ci]),(20002,27,[ci,ci,ci,ci,ci,ci,ci,ci,ci,CS.sl Aa,ci,ci,ci,ci,ci,ci,ci,ci,ci,CS.sl Aa,ci,ci,ci,ci,ci,ci,ci,ci,ci,CS.sl Aa]),(20003,153,[CS.clo 92 [] [(20004,0)]]),(20004,62,[CS.own 20000 10,ci,ci,ci,ci,ci])],[(20000,135,Aq)]⟩
def Q8t (M:Fn):Nat×Spec:=(96,Ac Qex VX M)
def Vi (BE:Fn):Cfg:={cp [Q1p BE] [93]with prom:=fun b=>bif Nat.beq b 4 then [(11,3)]else []}
def Qn6:Sk:=⟨[td,tf [ci],tf [ci],tf [ci],tf [CS.clo 93 [] [(20000,0),(20001,0),(20002,0),(20003,0)]],tf [CS.ptr 5 0],td,td,td,td,tf [ci],tf [CS.own 11 1],td,td,td,td,td,td,td,td,td,tf [CS.sl Ah],tf [ci],tf [ci]]++dd 78,[(5,58,[ci,ci,ci,CS.sl Ah,CS.sl kPt]),(20000,44,[ci,ci,ci]),(20001,3,[ci]),(20002,27,[ci,ci,ci,ci,ci,ci,ci,ci,ci,CS.sl Aa,ci,ci,ci,ci,ci,ci,ci,ci,ci,CS.sl Aa,ci,ci,ci,ci,ci,ci,ci,ci,ci,CS.sl Aa]),(20003,153,[CS.clo 92 [] [(20004,0)]]),(20004,62,[CS.own 20000 10,ci,ci,ci,ci,ci])],[(11,3,Aa),(20000,135,Aq)]⟩
def Qzc:List (Ex×Sk):=[(Ex.exit 0,⟨[td,tf [ci],tf [ci],tf [ci],tf [CS.clo 93 [] [(20000,0),(20001,0),(20002,0),(20003,0)]],tf [CS.ptr 5 0],td,td,td,td,td,tf [CS.own 11 1]]++dd 90,[(5,58,[ci,ci,ci,CS.sl Ah,CS.sl kPt]),(20000,44,[ci,ci,ci]),(20001,3,[ci]),(20002,27,[ci,ci,ci,ci,ci,ci,ci,ci,ci,CS.sl Aa,ci,ci,ci,ci,ci,ci,ci,ci,ci,CS.sl Aa,ci,ci,ci,ci,ci,ci,ci,ci,ci,CS.sl Aa]),(20003,153,[CS.clo 92 [] [(20004,0)]]),(20004,62,[CS.own 20000 10,ci,ci,ci,ci,ci])],[(11,3,Aa),(20000,135,Aq)]⟩)]
def SR (BE:Fn):Lp:=AP PG (Vi BE) 64 4 (AO PG 96 4) Qn6 Qzc
def Qtq (BE:Fn) (N4:Lp):Cfg:=(Vi BE).loop 4 Qn6 Qzc N4
def Qn3:Sk:=⟨[td,tf [ci],tf [ci],tf [ci],tf [CS.clo 93 [] [(20000,0),(20001,0),(20002,0),(20003,0)]],tf [CS.ptr 5 0],td,td,td,td,td,tf [CS.own 11 1],td,td,td,td,td,td,td,td,td,td,td,td,td,td,td,td,td,td,td,td,td,td,td,td,td,td,tf [ci],tf [ci]]++dd 62,[(5,58,[ci,ci,ci,CS.sl Ah,CS.sl kPt]),(20000,44,[ci,ci,ci]),(20001,3,[ci]),(20002,27,[ci,ci,ci,ci,ci,ci,ci,ci,ci,CS.sl Aa,ci,ci,ci,ci,ci,ci,ci,ci,ci,CS.sl Aa,ci,ci,ci,ci,ci,ci,ci,ci,ci,CS.sl Aa]),(20003,153,[CS.clo 92 [] [(20004,0)]]),(20004,62,[CS.own 20000 10,ci,ci,ci,ci,ci])],[(11,3,Aa),(20000,135,Aq)]⟩
def Qoq:List (Ex×Sk):=[(Ex.exit 2,⟨[td]++dd 101,[(20000,44,[ci,ci,ci]),(20001,3,[ci]),(20002,27,[ci,ci,ci,ci,ci,ci,ci,ci,ci,CS.sl Aa,ci,ci,ci,ci,ci,ci,ci,ci,ci,CS.sl Aa,ci,ci,ci,ci,ci,ci,ci,ci,ci,CS.sl Aa]),(20003,153,[CS.clo 92 [] [(20004,0)]]),(20004,62,[CS.own 20000 10,ci,ci,ci,ci,ci])],[(20000,135,Aq)]⟩)]
def Sl (BE:Fn) (N4:Lp):Lp:=AP PG (Qtq BE N4) 64 10 (AO PG 96 10) Qn3 Qoq
def Qzy (BE:Fn) (N4 N10:Lp):Cfg:=(Qtq BE N4).loop 10 Qn3 Qoq N10
def Ue (BE:Fn) (N4 N10:Lp):Fn:=Am PG (Qzy BE N4 N10) 64 96 Qex VX
theorem Qqz (BE:Fn) (v0 v1:Rw) (v2 v3 v4 v5:Int) (v6:Rw) (v7 v8 v9 v10 v11:Int) (v12 v13:Rw) (v14 v15 v16 v17 v18 v19 v20 v21 v22 v23 v24 v25 v26:Int) (v27:Rw) (v28 v29 v30 v31 v32 v33 v34 v35 v36:Int) (v37:Rw) (v38 v39 v40 v41 v42 v43 v44 v45 v46:Int) (v47:Rw) (v48 v49 v50 v51 v52:Int):SR BE [.view Aa v0, .view Aq v1,I v2,I v3,I v4,I v5, .view Ah v6,I v7,I v8,I v9,I v10,I v11, .view Ah v12, .view kPt v13,I v14,I v15,I v16,I v17,I v18,I v19,I v20,I v21,I v22,I v23,I v24,I v25,I v26, .view Aa v27,I v28,I v29,I v30,I v31,I v32,I v33,I v34,I v35,I v36, .view Aa v37,I v38,I v39,I v40,I v41,I v42,I v43,I v44,I v45,I v46, .view Aa v47,I v48,I v49,I v50,I v51,I v52]=
 bif decide (v8<v7)then
 bif decide (0<=v8)&&decide (v8<(v6.length:Int))then
 bif((v0++[[I v5]]).length*8).ble 140737488355328 then
 some (0,[.view Aa (v0++[[I v5]]), .view Aq v1,I v2,I v3,I v4,I (IntKind.i64.wrap (v5+gA (nth [] v6 v8.toNat) 3)), .view Ah v6,I v7,I (IntKind.i64.wrap (v8+1)),I v9,I v10,I v11, .view Ah v12, .view kPt v13,I v14,I v15,I v16,I v17,I v18,I v19,I v20,I v21,I v22,I v23,I v24,I v25,I v26, .view Aa v27,I v28,I v29,I v30,I v31,I v32,I v33,I v34,I v35,I v36, .view Aa v37,I v38,I v39,I v40,I v41,I v42,I v43,I v44,I v45,I v46, .view Aa v47,I v48,I v49,I v50,I v51,I v52])
 else
 none
 else
 none
 else
 some (1,[.view Aa v0, .view Aq v1,I v2,I v3,I v4,I v9,I v10,I v11, .view Ah v12, .view kPt v13,I v14,I v15,I v16,I v17,I v18,I v19,I v20,I v21,I v22,I v23,I v24,I v25,I v26, .view Aa v27,I v28,I v29,I v30,I v31,I v32,I v33,I v34,I v35,I v36, .view Aa v37,I v38,I v39,I v40,I v41,I v42,I v43,I v44,I v45,I v46, .view Aa v47,I v48,I v49,I v50,I v51,I v52]):=by kernel_rfl
abbrev OI (h1_1:Bool) (BE:Fn) (v1:Rw) (h1_8 h1_9 h1_10 h1_12:AC) (v12 v13 v14 v15 v16 v17 v18 v19 v20 v21 v22 v23 v24:Int) (v25:Rw) (v26 v27 v28 v29 v30 v31 v32 v33 v34:Int) (v35:Rw) (v36 v37 v38 v39 v40 v41 v42 v43 v44:Int) (v45:Rw) (v46 v47 v48 v49 v50:Int) (v0:Rw) (v2 v3 v4 v5 v6 v7 v8 v9:Int) (v10 v11:Rw) (h2_0 h2_1 h2_2 h2_3:AC):Option (Nat×List AC):=
 bif h1_1 then
 (BE [.view Aq v1,h2_0,h2_1,h2_2,h1_8,h1_9,h1_10,h2_3,h1_12,I v12,I v13,I v14,I v15,I v16,I v17,I v18,I v19,I v20,I v21,I v22,I v23,I v24, .view Aa v25,I v26,I v27,I v28,I v29,I v30,I v31,I v32,I v33,I v34, .view Aa v35,I v36,I v37,I v38,I v39,I v40,I v41,I v42,I v43,I v44, .view Aa v45,I v46,I v47,I v48,I v49,I v50]).bind fun o11=>
 some (0,[.view Aa v0, .view Aq (wA o11 0),I v2,I v3,I v4,I v5,I (IntKind.i64.wrap (v6+1)),I v7,I v8,I v9, .view Ah v10, .view kPt v11,jA o11 1,jA o11 2,jA o11 3,jA o11 4,jA o11 5,jA o11 6,jA o11 7,jA o11 8,jA o11 9,jA o11 10,jA o11 11,jA o11 12,jA o11 13, .view Aa (wA o11 14),jA o11 15,jA o11 16,jA o11 17,jA o11 18,jA o11 19,jA o11 20,jA o11 21,jA o11 22,jA o11 23, .view Aa (wA o11 24),jA o11 25,jA o11 26,jA o11 27,jA o11 28,jA o11 29,jA o11 30,jA o11 31,jA o11 32,jA o11 33, .view Aa (wA o11 34),jA o11 35,jA o11 36,jA o11 37,jA o11 38,jA o11 39])
 else
 none
attribute [go_sem] OI
abbrev V3 (v0 v1:Rw) (v2 v3 v4 v5 v6 v7 v8 v9:Int) (v10 v11:Rw) (v12 v13 v14 v15 v16 v17 v18 v19 v20 v21 v22 v23 v24:Int) (v25:Rw) (v26 v27 v28 v29 v30 v31 v32 v33 v34:Int) (v35:Rw) (v36 v37 v38 v39 v40 v41 v42 v43 v44:Int) (v45:Rw) (v46 v47 v48 v49 v50:Int) (BE:Fn) (h1_0 h1_1 h1_2 h1_3 h1_4:Bool) (h1_5 h1_6 h1_7 h1_8 h1_9 h1_10 h1_11 h1_12 h1_13:AC):Option (Nat×List AC):=
 bif h1_0 then
 bif h1_0 then
 bif h1_1 then
 bif h1_2 then
 some (0,[.view Aa v0, .view Aq v1,I v2,I v3,I v4,I v5,I (IntKind.i64.wrap (v6+1)),I v7,I v8,I v9, .view Ah v10, .view kPt v11,I v12,I v13,I v14,I v15,I v16,I v17,I v18,I v19,I v20,I v21,I v22,I v23,I v24, .view Aa v25,I v26,I v27,I v28,I v29,I v30,I v31,I v32,I v33,I v34, .view Aa v35,I v36,I v37,I v38,I v39,I v40,I v41,I v42,I v43,I v44, .view Aa v45,I v46,I v47,I v48,I v49,I v50])
 else
 bif h1_3 then
 bif h1_4 then
 bif decide (v4<0)then
 OI h1_1 BE v1 h1_8 h1_9 h1_10 h1_12 v12 v13 v14 v15 v16 v17 v18 v19 v20 v21 v22 v23 v24 v25 v26 v27 v28 v29 v30 v31 v32 v33 v34 v35 v36 v37 v38 v39 v40 v41 v42 v43 v44 v45 v46 v47 v48 v49 v50 v0 v2 v3 v4 v5 v6 v7 v8 v9 v10 v11 h1_5 h1_6 h1_7 h1_11
 else
 OI h1_1 BE v1 h1_8 h1_9 h1_10 h1_12 v12 v13 v14 v15 v16 v17 v18 v19 v20 v21 v22 v23 v24 v25 v26 v27 v28 v29 v30 v31 v32 v33 v34 v35 v36 v37 v38 v39 v40 v41 v42 v43 v44 v45 v46 v47 v48 v49 v50 v0 v2 v3 v4 v5 v6 v7 v8 v9 v10 v11 h1_5 h1_6 h1_7 h1_13
 else
 none
 else
 bif decide (v4<0)then
 OI h1_1 BE v1 h1_8 h1_9 h1_10 h1_12 v12 v13 v14 v15 v16 v17 v18 v19 v20 v21 v22 v23 v24 v25 v26 v27 v28 v29 v30 v31 v32 v33 v34 v35 v36 v37 v38 v39 v40 v41 v42 v43 v44 v45 v46 v47 v48 v49 v50 v0 v2 v3 v4 v5 v6 v7 v8 v9 v10 v11 (I v7) (I v8) (I v9) h1_11
 else
 OI h1_1 BE v1 h1_8 h1_9 h1_10 h1_12 v12 v13 v14 v15 v16 v17 v18 v19 v20 v21 v22 v23 v24 v25 v26 v27 v28 v29 v30 v31 v32 v33 v34 v35 v36 v37 v38 v39 v40 v41 v42 v43 v44 v45 v46 v47 v48 v49 v50 v0 v2 v3 v4 v5 v6 v7 v8 v9 v10 v11 (I v7) (I v8) (I v9) h1_13
 else
 none
 else
 none
 else
 none
attribute [go_sem] V3
theorem Qwx (BE:Fn) (N4:Lp) (v0 v1:Rw) (v2 v3 v4 v5 v6 v7 v8 v9:Int) (v10 v11:Rw) (v12 v13 v14 v15 v16 v17 v18 v19 v20 v21 v22 v23 v24:Int) (v25:Rw) (v26 v27 v28 v29 v30 v31 v32 v33 v34:Int) (v35:Rw) (v36 v37 v38 v39 v40 v41 v42 v43 v44:Int) (v45:Rw) (v46 v47 v48 v49 v50:Int):Sl BE N4 [.view Aa v0, .view Aq v1,I v2,I v3,I v4,I v5,I v6,I v7,I v8,I v9, .view Ah v10, .view kPt v11,I v12,I v13,I v14,I v15,I v16,I v17,I v18,I v19,I v20,I v21,I v22,I v23,I v24, .view Aa v25,I v26,I v27,I v28,I v29,I v30,I v31,I v32,I v33,I v34, .view Aa v35,I v36,I v37,I v38,I v39,I v40,I v41,I v42,I v43,I v44, .view Aa v45,I v46,I v47,I v48,I v49,I v50]=
 bif decide (v6<v5)then
 bif decide (v4<0)then
 V3 v0 v1 v2 v3 v4 v5 v6 v7 v8 v9 v10 v11 v12 v13 v14 v15 v16 v17 v18 v19 v20 v21 v22 v23 v24 v25 v26 v27 v28 v29 v30 v31 v32 v33 v34 v35 v36 v37 v38 v39 v40 v41 v42 v43 v44 v45 v46 v47 v48 v49 v50 BE (decide (0<=IntKind.i64.wrap (IntKind.i64.wrap ((v10.length:Int)-1)-v6))&&decide (IntKind.i64.wrap (IntKind.i64.wrap ((v10.length:Int)-1)-v6)<(v0.length:Int))) (decide (0<=IntKind.i64.wrap (IntKind.i64.wrap ((v10.length:Int)-1)-v6))&&decide (IntKind.i64.wrap (IntKind.i64.wrap ((v10.length:Int)-1)-v6)<(v10.length:Int))) (decide (mx (Af (nth .dead (nth [] v0 (IntKind.i64.wrap (IntKind.i64.wrap ((v10.length:Int)-1)-v6)).toNat) 0)) v2>=mn (IntKind.i64.wrap (Af (nth .dead (nth [] v0 (IntKind.i64.wrap (IntKind.i64.wrap ((v10.length:Int)-1)-v6)).toNat) 0)+Af (nth .dead (nth [] v10 (IntKind.i64.wrap (IntKind.i64.wrap ((v10.length:Int)-1)-v6)).toNat) 3))) v3)) (decide (IntKind.i64.wrap (IntKind.i64.wrap ((v10.length:Int)-1)-v6)>0)) (decide (0<=IntKind.i64.wrap (IntKind.i64.wrap (IntKind.i64.wrap ((v10.length:Int)-1)-v6)-1))&&decide (IntKind.i64.wrap (IntKind.i64.wrap (IntKind.i64.wrap ((v10.length:Int)-1)-v6)-1)<(v10.length:Int))) (I (Af (nth .dead (nth [] v10 (IntKind.i64.wrap (IntKind.i64.wrap (IntKind.i64.wrap ((v10.length:Int)-1)-v6)-1)).toNat) 0))) (I (Af (nth .dead (nth [] v10 (IntKind.i64.wrap (IntKind.i64.wrap (IntKind.i64.wrap ((v10.length:Int)-1)-v6)-1)).toNat) 1))) (I (Af (nth .dead (nth [] v10 (IntKind.i64.wrap (IntKind.i64.wrap (IntKind.i64.wrap ((v10.length:Int)-1)-v6)-1)).toNat) 2))) (I (Af (nth .dead (nth [] v10 (IntKind.i64.wrap (IntKind.i64.wrap ((v10.length:Int)-1)-v6)).toNat) 0))) (I (Af (nth .dead (nth [] v10 (IntKind.i64.wrap (IntKind.i64.wrap ((v10.length:Int)-1)-v6)).toNat) 1))) (I (Af (nth .dead (nth [] v10 (IntKind.i64.wrap (IntKind.i64.wrap ((v10.length:Int)-1)-v6)).toNat) 2))) (I (mn (IntKind.i64.wrap (Af (nth .dead (nth [] v0 (IntKind.i64.wrap (IntKind.i64.wrap ((v10.length:Int)-1)-v6)).toNat) 0)+Af (nth .dead (nth [] v10 (IntKind.i64.wrap (IntKind.i64.wrap ((v10.length:Int)-1)-v6)).toNat) 3))) v3)) (I (IntKind.i64.wrap (mn (IntKind.i64.wrap (Af (nth .dead (nth [] v0 (IntKind.i64.wrap (IntKind.i64.wrap ((v10.length:Int)-1)-v6)).toNat) 0)+Af (nth .dead (nth [] v10 (IntKind.i64.wrap (IntKind.i64.wrap ((v10.length:Int)-1)-v6)).toNat) 3))) v3-mx (Af (nth .dead (nth [] v0 (IntKind.i64.wrap (IntKind.i64.wrap ((v10.length:Int)-1)-v6)).toNat) 0)) v2))) (I (mx (Af (nth .dead (nth [] v0 (IntKind.i64.wrap (IntKind.i64.wrap ((v10.length:Int)-1)-v6)).toNat) 0)) v2))
 else
 V3 v0 v1 v2 v3 v4 v5 v6 v7 v8 v9 v10 v11 v12 v13 v14 v15 v16 v17 v18 v19 v20 v21 v22 v23 v24 v25 v26 v27 v28 v29 v30 v31 v32 v33 v34 v35 v36 v37 v38 v39 v40 v41 v42 v43 v44 v45 v46 v47 v48 v49 v50 BE (decide (0<=v6)&&decide (v6<(v0.length:Int))) (decide (0<=v6)&&decide (v6<(v10.length:Int))) (decide (mx (gA (nth [] v0 v6.toNat) 0) v2>=mn (IntKind.i64.wrap (gA (nth [] v0 v6.toNat) 0+gA (nth [] v10 v6.toNat) 3)) v3)) (decide (v6>0)) (decide (0<=IntKind.i64.wrap (v6-1))&&decide (IntKind.i64.wrap (v6-1)<(v10.length:Int))) (jA (nth [] v10 (IntKind.i64.wrap (v6-1)).toNat) 0) (jA (nth [] v10 (IntKind.i64.wrap (v6-1)).toNat) 1) (jA (nth [] v10 (IntKind.i64.wrap (v6-1)).toNat) 2) (jA (nth [] v10 v6.toNat) 0) (jA (nth [] v10 v6.toNat) 1) (jA (nth [] v10 v6.toNat) 2) (I (mn (IntKind.i64.wrap (gA (nth [] v0 v6.toNat) 0+gA (nth [] v10 v6.toNat) 3)) v3)) (I (IntKind.i64.wrap (mn (IntKind.i64.wrap (gA (nth [] v0 v6.toNat) 0+gA (nth [] v10 v6.toNat) 3)) v3-mx (gA (nth [] v0 v6.toNat) 0) v2))) (I (mx (gA (nth [] v0 v6.toNat) 0) v2))
 else
 some (1,[.view Aq v1,I v12,I v13,I v14,I v15,I v16,I v17,I v18,I v19,I v20,I v21,I v22,I v23,I v24, .view Aa v25,I v26,I v27,I v28,I v29,I v30,I v31,I v32,I v33,I v34, .view Aa v35,I v36,I v37,I v38,I v39,I v40,I v41,I v42,I v43,I v44, .view Aa v45,I v46,I v47,I v48,I v49,I v50]):=by kernel_rfl
theorem Q7p (BE:Fn) (N4 N10:Lp) (x0:Rw) (x1 x2 x3:Int) (x4 x5:Rw) (x6 x7 x8 x9 x10 x11 x12 x13 x14 x15 x16 x17 x18 x19 x20 x21:Int) (x22:Rw) (x23 x24 x25 x26 x27 x28 x29 x30 x31:Int) (x32:Rw) (x33 x34 x35 x36 x37 x38 x39 x40 x41:Int) (x42:Rw) (x43 x44 x45 x46 x47:Int):Ue BE N4 N10 [.view Aq x0,I x1,I x2,I x3, .view Ah x4, .view kPt x5,I x6,I x7,I x8,I x9,I x10,I x11,I x12,I x13,I x14,I x15,I x16,I x17,I x18,I x19,I x20,I x21, .view Aa x22,I x23,I x24,I x25,I x26,I x27,I x28,I x29,I x30,I x31, .view Aa x32,I x33,I x34,I x35,I x36,I x37,I x38,I x39,I x40,I x41, .view Aa x42,I x43,I x44,I x45,I x46,I x47]=
 (N4 [.view Aa [], .view Aq x0,I x6,I x7,I x8,I 0, .view Ah x4,I (x4.length:Int),I 0,I x1,I x2,I x3, .view Ah x4, .view kPt x5,I x9,I x10,I x11,I x12,I x13,I x14,I x15,I x16,I x17,I x18,I x19,I x20,I x21, .view Aa x22,I x23,I x24,I x25,I x26,I x27,I x28,I x29,I x30,I x31, .view Aa x32,I x33,I x34,I x35,I x36,I x37,I x38,I x39,I x40,I x41, .view Aa x42,I x43,I x44,I x45,I x46,I x47]).bind fun o19=>
 bif o19.1.beq 1 then
 (N10 [.view Aa (wA o19.2 0), .view Aq (wA o19.2 1),jA o19.2 2,jA o19.2 3,jA o19.2 4,I (↑(wA o19.2 8).length:Int),I 0,jA o19.2 5,jA o19.2 6,jA o19.2 7, .view Ah (wA o19.2 8), .view kPt (wA o19.2 9),jA o19.2 10,jA o19.2 11,jA o19.2 12,jA o19.2 13,jA o19.2 14,jA o19.2 15,jA o19.2 16,jA o19.2 17,jA o19.2 18,jA o19.2 19,jA o19.2 20,jA o19.2 21,jA o19.2 22, .view Aa (wA o19.2 23),jA o19.2 24,jA o19.2 25,jA o19.2 26,jA o19.2 27,jA o19.2 28,jA o19.2 29,jA o19.2 30,jA o19.2 31,jA o19.2 32, .view Aa (wA o19.2 33),jA o19.2 34,jA o19.2 35,jA o19.2 36,jA o19.2 37,jA o19.2 38,jA o19.2 39,jA o19.2 40,jA o19.2 41,jA o19.2 42, .view Aa (wA o19.2 43),jA o19.2 44,jA o19.2 45,jA o19.2 46,jA o19.2 47,jA o19.2 48]).bind fun o20=>
 bif o20.1.beq 1 then
 some [.view Aq (wA o20.2 0),jA o20.2 1,jA o20.2 2,jA o20.2 3,jA o20.2 4,jA o20.2 5,jA o20.2 6,jA o20.2 7,jA o20.2 8,jA o20.2 9,jA o20.2 10,jA o20.2 11,jA o20.2 12,jA o20.2 13, .view Aa (wA o20.2 14),jA o20.2 15,jA o20.2 16,jA o20.2 17,jA o20.2 18,jA o20.2 19,jA o20.2 20,jA o20.2 21,jA o20.2 22,jA o20.2 23, .view Aa (wA o20.2 24),jA o20.2 25,jA o20.2 26,jA o20.2 27,jA o20.2 28,jA o20.2 29,jA o20.2 30,jA o20.2 31,jA o20.2 32,jA o20.2 33, .view Aa (wA o20.2 34),jA o20.2 35,jA o20.2 36,jA o20.2 37,jA o20.2 38,jA o20.2 39]
 else
 none
 else
 none:=by kernel_rfl
def NL:=An (SR E8)
def Zh:=An (Sl E8 NL)
def OC:=Ue E8 NL Zh
theorem Qfx:Ai PG (Vi E8):=Ao rfl ⟨Qtb,trivial⟩
theorem Q7u:Al PG (96,Ac Qex VX OC):=rw2 (C:=(Qzy E8 NL Zh)) (fl (fl fb Qfx) Qfx) Qfx
def Xd:Sk:=⟨[TS.v true [ci,ci,ci,CS.sl Ah,CS.sl kPt]],[],[]⟩
def Wl:Sk:=⟨[tf [ci]],[],[]⟩
def Qrb (M:Fn):Nat×Spec:=(91,Ac Xd Wl M)
def C_path_Length_0:Cfg:=cf []
def Qz2:Sk:=⟨[td,td,td,tf [ci],td,td,td,tf [CS.sl Ah],tf [ci],tf [ci]]++dd 9,[],[]⟩
def Qzw:List (Ex×Sk):=[(Ex.exit 0,⟨[td,td,td,tf [ci]]++dd 15,[],[]⟩)]
def S1:Lp:=AP PG C_path_Length_0 64 3 (AO PG 91 3) Qz2 Qzw
def Qut (N3:Lp):Cfg:=C_path_Length_0.loop 3 Qz2 Qzw N3
def Q2e (N3:Lp):Fn:=Am PG (Qut N3) 64 91 Xd Wl
theorem Qsn (v0:Int) (v1:Rw) (v2 v3:Int):S1 [I v0, .view Ah v1,I v2,I v3]=
 bif decide (v3<v2)then
 bif decide (0<=v3)&&decide (v3<(v1.length:Int))then
 some (0,[I (IntKind.i64.wrap (v0+gA (nth [] v1 v3.toNat) 3)), .view Ah v1,I v2,I (IntKind.i64.wrap (v3+1))])
 else
 none
 else
 some (1,[I v0]):=by kernel_rfl
theorem Zjp (N3:Lp) (x0 x1 x2:Int) (x3 x4:Rw):Q2e N3 [I x0,I x1,I x2, .view Ah x3, .view kPt x4]=
 (N3 [I 0, .view Ah x3,I (x3.length:Int),I 0]).bind fun o1=>
 bif o1.1.beq 1 then
 some [jA o1.2 0]
 else
 none:=by kernel_rfl
def QR:=An (S1)
def If:=Q2e QR
theorem Qr7:Ai PG (C_path_Length_0):=Ao rfl trivial
theorem Qzu:Al PG (91,Ac Xd Wl If):=rw2 (C:=(Qut QR)) (fl fb Qr7) Qr7
def Qjj:Sk:=⟨[TS.v true [ci,ci,ci,CS.sl Ah,CS.sl kPt],TS.v true [ci,ci,ci,ci,ci,ci,ci,ci,ci,CS.sl Aa,ci,ci,ci,ci,ci,ci,ci,ci,ci,CS.sl Aa,ci,ci,ci,ci,ci,ci,ci,ci,ci,CS.sl Aa],TS.v true [ci,ci,ci],tf [ci],tf [ci]],[],[]⟩
def Qct:Sk:=⟨[TS.v true [CS.sl Aq,ci,ci,ci,ci,ci]],[],[]⟩
def Qxl (M:Fn):Nat×Spec:=(58,Ac Qjj Qct M)
def Qcc (K_ BE Fb Cw FC:Fn):Cfg:=cp [Q8t K_,Q1p BE,Q2z Fb,SI Cw,Qrb FC] [96,93,92]
def Qci (K_ BE Fb Cw FC:Fn):Fn:=Am PG (Qcc K_ BE Fb Cw FC) 64 58 Qjj Qct
theorem Zhx (K_ BE Fb Cw FC:Fn) (x0 x1 x2:Int) (x3 x4:Rw) (x5 x6 x7 x8 x9 x10 x11 x12 x13:Int) (x14:Rw) (x15 x16 x17 x18 x19 x20 x21 x22 x23:Int) (x24:Rw) (x25 x26 x27 x28 x29 x30 x31 x32 x33:Int) (x34:Rw) (x35 x36 x37 x38 x39:Int):Qci K_ BE Fb Cw FC [I x0,I x1,I x2, .view Ah x3, .view kPt x4,I x5,I x6,I x7,I x8,I x9,I x10,I x11,I x12,I x13, .view Aa x14,I x15,I x16,I x17,I x18,I x19,I x20,I x21,I x22,I x23, .view Aa x24,I x25,I x26,I x27,I x28,I x29,I x30,I x31,I x32,I x33, .view Aa x34,I x35,I x36,I x37,I x38,I x39]=
 (FC [I x0,I x1,I x2, .view Ah x3, .view kPt x4]).bind fun o5=>
 (Cw [I x38,jA o5 0]).bind fun o6=>
 (Cw [I x39,jA o5 0]).bind fun o7=>
 bif decide (gA o6 0>gA o7 0)then
 (K_ [.view Aq [],I x0,I x1,I x2, .view Ah x3, .view kPt x4,I (mn (gA o6 0) (gA o7 0)),I (mx (gA o6 0) (gA o7 0)),I (-1),I x35,I x36,I x37,I (-1),I x5,I x6,I x7,I x8,I x9,I x10,I x11,I x12,I x13, .view Aa x14,I x15,I x16,I x17,I x18,I x19,I x20,I x21,I x22,I x23, .view Aa x24,I x25,I x26,I x27,I x28,I x29,I x30,I x31,I x32,I x33, .view Aa x34,I 0,jA o6 0,I x35,I x36,I x37]).bind fun o8=>
 some [.view Aq (wA o8 0),jA o8 35,jA o8 36,jA o8 37,jA o8 38,jA o8 39]
 else
 (K_ [.view Aq [],I x0,I x1,I x2, .view Ah x3, .view kPt x4,I (mn (gA o6 0) (gA o7 0)),I (mx (gA o6 0) (gA o7 0)),I 1,I x35,I x36,I x37,I 1,I x5,I x6,I x7,I x8,I x9,I x10,I x11,I x12,I x13, .view Aa x14,I x15,I x16,I x17,I x18,I x19,I x20,I x21,I x22,I x23, .view Aa x24,I x25,I x26,I x27,I x28,I x29,I x30,I x31,I x32,I x33, .view Aa x34,I 0,jA o6 0,I x35,I x36,I x37]).bind fun o9=>
 some [.view Aq (wA o9 0),jA o9 35,jA o9 36,jA o9 37,jA o9 38,jA o9 39]:=by kernel_rfl
def Ju:=Qci OC E8 Kr EM If
theorem Zyu:Ai PG (Qcc OC E8 Kr EM If):=Ao rfl ⟨Q7u,Qtb,Qyn,R2,Qzu,trivial⟩
theorem Qtv:Al PG (58,Ac Qjj Qct Ju):=rw1 (C:=(Qcc OC E8 Kr EM If)) Zyu
def XL:Sk:=⟨[TS.v true [CS.sl Aq,ci,ci,ci,ci,ci],tf [ci]],[],[]⟩
def Qhl:Sk:=⟨[TS.v true [ci,ci,ci]],[],[]⟩
def Zym (M:Fn):Nat×Spec:=(156,Ac XL Qhl M)
def C_retrace_Facing_0:Cfg:=cf []
def Qr5:Sk:=⟨[td,tf [ci],tf [CS.ptr 2 0],td,tf [CS.ptr 4 0],td,td,td,td,td,td,td,td,tf [CS.sl Aq],tf [ci],tf [ci]]++dd 29,[(2,62,[CS.sl Aq,ci,ci,ci,ci,ci]),(4,44,[ci,ci,ci])],[]⟩
def Qrf:List (Ex×Sk):=[(Ex.ret,⟨[td,td,td,td,tf [CS.ptr 4 0]]++dd 40,[(4,44,[ci,ci,ci])],[]⟩),(Ex.exit 0,⟨[td,td,tf [CS.ptr 2 0],td,tf [CS.ptr 4 0]]++dd 40,[(2,62,[CS.sl Aq,ci,ci,ci,ci,ci]),(4,44,[ci,ci,ci])],[]⟩)]
def Zcn:Lp:=AP PG C_retrace_Facing_0 64 3 (AO PG 156 3) Qr5 Qrf
def Q34 (N3:Lp):Cfg:=C_retrace_Facing_0.loop 3 Qr5 Qrf N3
def Zf8 (N3:Lp):Fn:=Am PG (Q34 N3) 64 156 XL Qhl
def Q3n:=An (Zcn)
def Rb:=Zf8 Q3n
theorem Qru:Ai PG (C_retrace_Facing_0):=Ao rfl trivial
theorem Zno:Al PG (156,Ac XL Qhl Rb):=rw2 (C:=(Q34 Q3n)) (fl fb Qru) Qru
def XA:Sk:=⟨[TS.v true [CS.sl Aq,ci,ci,ci,ci,ci],tf [ci]],[],[]⟩
def Qio:Sk:=⟨[tf [CS.bool]],[],[]⟩
def Z01 (M:Fn):Nat×Spec:=(155,Ac XA Qio M)
def Ye (El Cw:Fn):Cfg:=cf [Qf0 El,SI Cw]
def Zmx (El Cw:Fn):Fn:=Am PG (Ye El Cw) 64 155 XA Qio
def S7:=Zmx Ga EM
theorem Ztj:Ai PG (Ye Ga EM):=Ao rfl ⟨Y8,R2,trivial⟩
theorem Q9d:Al PG (155,Ac XA Qio S7):=rw1 (C:=(Ye Ga EM)) Ztj
def Qan:Sk:=⟨[TS.v true [ci,ci,ci,ci,ci,ci]],[],[]⟩
def Qgj:Sk:=⟨[tf [CS.bool]],[],[]⟩
def Qn5 (M:Fn):Nat×Spec:=(64,Ac Qan Qgj M)
def VC:Cfg:=cf []
def W8:Fn:=Am PG VC 64 64 Qan Qgj
theorem Zvg (x0 x1 x2 x3 x4 x5:Int):W8 [I x0,I x1,I x2,I x3,I x4,I x5]=
 bif x1==0 then
 bif x2==0 then
 bif x3==x0 then
 some [B (x4==x0)]
 else
 some [B false]
 else
 some [B false]
 else
 some [B false]:=by kernel_rfl
def HO:=W8
theorem Zax:Ai PG (VC):=Ao rfl trivial
theorem Qsh:Al PG (64,Ac Qan Qgj HO):=rw1 (C:=VC) Zax
def Qmg:Sk:=⟨[TS.v true [ci,ci,ci,CS.sl Ah,CS.sl kPt],TS.v true [ci,ci,ci,ci,ci,ci,ci,ci,ci,CS.sl Aa,ci,ci,ci,ci,ci,ci,ci,ci,ci,CS.sl Aa,ci,ci,ci,ci,ci,ci,ci,ci,ci,CS.sl Aa],TS.v true [CS.sl Aq,ci,ci,ci,ci,ci],TS.v true [ci,ci,ci,ci,ci,ci],tf [ci]],[],[]⟩
def Wi:Sk:=⟨[TS.tup [(true,[CS.sl Aq,ci,ci,ci,ci,ci]),(true,[ci,ci,ci,ci,ci,ci]),(false,[CS.bool])]],[],[]⟩
def Quu (M:Fn):Nat×Spec:=(105,Ac Qmg Wi M)
def Y3 (Ea Ia Bu XJ Qgf B0:Fn):Cfg:={cf [Qbl Ea,Qxl Ia,ON Bu,Zym XJ,Z01 Qgf,Qn5 B0]with ownBut:=[10]}
def Zhn (Ea Ia Bu XJ Qgf B0:Fn):Fn:=Am PG (Y3 Ea Ia Bu XJ Qgf B0) 64 105 Qmg Wi
def Lk:=Zhn GD Ju Dx Rb S7 HO
theorem Q8v:Ai PG (Y3 GD Ju Dx Rb S7 HO):=Ao rfl ⟨Qaa,Qtv,Oy,Zno,Q9d,Qsh,trivial⟩
theorem Q1a:Al PG (105,Ac Qmg Wi Lk):=rw1 (C:=(Y3 GD Ju Dx Rb S7 HO)) Q8v
def Qln:Sk:=⟨[tf [CS.ptr 20000 0]],[(20000,119,cS)],[]⟩
def Qe1:Sk:=⟨[TS.tup [(false,[ci]),(false,[CS.bool])]],[(20000,119,cS)],[]⟩
def Q66 (M:Fn):Nat×Spec:=(69,Ac Qln Qe1 M)
def VQ (Er Cf:Fn):Cfg:=cf [Quu Er,Qit Cf]
def Qd8 (Er Cf:Fn):Fn:=Am PG (VQ Er Cf) 64 69 Qln Qe1
abbrev TW (Er:Fn) (K:Kf) (c:Cv) (h1_0 h2_0:AC):Option (List AC):=
 (Er (pxt K.p K.x K.t [I c.m0,I c.m1,I c.m2,I c.m3,I c.m4,I c.m5,h2_0])).bind fun o10=>
 bif !bA o10 12 then
 some (h1_0::B true::Ad K c)
 else
 bif c.way==1 then
 some (h1_0::B true::DI (Ad K c) [(44, .view Aq (wA o10 0)),(45,jA o10 1),(46,jA o10 2),(47,jA o10 3),(48,jA o10 4),(49,jA o10 5),(50,jA o10 6),(51,jA o10 7),(52,jA o10 8),(53,jA o10 9),(54,jA o10 10),(55,jA o10 11),(71,I 2),(89,B true)])
 else
 some (h1_0::B true::DI (Ad K c) [(44, .view Aq (wA o10 0)),(45,jA o10 1),(46,jA o10 2),(47,jA o10 3),(48,jA o10 4),(49,jA o10 5),(50,jA o10 6),(51,jA o10 7),(52,jA o10 8),(53,jA o10 9),(54,jA o10 10),(55,jA o10 11),(58,B true),(71,I 0),(89,B true)])
attribute [go_sem] TW
abbrev Qm8 (c:Cv) (Cf:Fn) (K:Kf) (Er:Fn) (h1_0:AC):Option (List AC):=
 bif !c.stood then
 (Cf (pxt K.p K.x K.t [I K.pa,I K.pb,I K.pc,I c.o0,I c.o1,B c.o2,B c.o3,B c.o4,I c.m0,I c.m1,I c.m2,I c.m3,I c.m4,I c.m5,I K.t.length])).bind fun o8=>
 some (h1_0::B true::Ad K {c with m0:=gA o8 0,m1:=gA o8 1,m2:=gA o8 2,m3:=gA o8 3,m4:=gA o8 4,m5:=gA o8 5})
 else
 bif c.m0 !=IntKind.i64.wrap (K.t.length*256)then
 (Cf (pxt K.p K.x K.t [I K.pa,I K.pb,I K.pc,I c.o0,I c.o1,B c.o2,B c.o3,B c.o4,I c.m0,I c.m1,I c.m2,I c.m3,I c.m4,I c.m5,I K.t.length])).bind fun o9=>
 some (h1_0::B true::Ad K {c with m0:=gA o9 0,m1:=gA o9 1,m2:=gA o9 2,m3:=gA o9 3,m4:=gA o9 4,m5:=gA o9 5})
 else
 bif c.way==2 then
 TW Er K c h1_0 (I K.len)
 else
 TW Er K c h1_0 (I c.home)
attribute [go_sem] Qm8
theorem Q9b (Er Cf:Fn) (K:Kf) (c:Cv):Qd8 Er Cf (Ad K c)=
 bif c.way==0 then
 some (I 0::B false::Ad K c)
 else
 bif c.way==2 then
 Qm8 c Cf K Er (I 5)
 else
 Qm8 c Cf K Er (I 4):=by kernel_rfl
def KS:=Qd8 Lk Fj
theorem Zd8:Ai PG (VQ Lk Fj):=Ao rfl ⟨Q1a,Qlw,trivial⟩
theorem Za1:Al PG (69,Ac Qln Qe1 KS):=rw1 (C:=(VQ Lk Fj)) Zd8
def Ym:Sk:=⟨[tf [CS.ptr 20000 0]],[(20000,119,cS)],[]⟩
def YW:Sk:=⟨[TS.tup [(false,[ci]),(false,[CS.bool])]],[(20000,119,cS)],[]⟩
def Q8p (M:Fn):Nat×Spec:=(68,Ac Ym YW M)
def YF (DD:Fn):Cfg:=cp [Qvz DD] [103]
def Qjo (DD:Fn):Fn:=Am PG (YF DD) 64 68 Ym YW
theorem Zla (DD:Fn) (K:Kf) (c:Cv):Qjo DD (Ad K c)=
 bif !c.on then
 some (I 0::B false::Ad K c)
 else
 (DD (Ad K c)).bind fun o1=>
 some (jA o1 0::B true::cR 1 o1):=by kernel_rfl
def Km:=Qjo JT
theorem Zwz:Ai PG (YF JT):=Ao rfl ⟨Qzv,trivial⟩
theorem Z0n:Al PG (68,Ac Ym YW Km):=rw1 (C:=(YF JT)) Zwz
def Qik:Sk:=⟨[tf [CS.ptr 20000 0]],[(20000,119,cS)],[]⟩
def Wp:Sk:=⟨[TS.tup [(false,[ci]),(false,[CS.bool])]],[(20000,119,cS)],[]⟩
def Zqg (M:Fn):Nat×Spec:=(67,Ac Qik Wp M)
def UH:Cfg:=cf []
def Qi3:Fn:=Am PG UH 64 67 Qik Wp
theorem Zpm (K:Kf) (c:Cv):Qi3 (Ad K c)=
 bif !c.touched then
 some (I 0::B false::Ad K c)
 else
 bif !c.stood then
 some (I 0::B false::Ad K c)
 else
 some (I 8::B true::Ad K {c with ended:=8}):=by kernel_rfl
def Kh:=Qi3
theorem Zly:Ai PG (UH):=Ao rfl trivial
theorem Zup:Al PG (67,Ac Qik Wp Kh):=rw1 (C:=UH) Zly
def Wr:Sk:=⟨[tf [CS.ptr 20000 0]],[(20000,119,cS)],[]⟩
def Za:Sk:=⟨[TS.tup [(false,[ci]),(false,[CS.bool])]],[(20000,119,cS)],[]⟩
def Zpn (M:Fn):Nat×Spec:=(66,Ac Wr Za M)
def Zu:Cfg:=cf []
def W9:Fn:=Am PG Zu 64 66 Wr Za
theorem Zr7 (K:Kf) (c:Cv):W9 (Ad K c)=
 some (I c.ended::B (c.ended !=0)::Ad K c):=by kernel_rfl
def La:=W9
theorem Z04:Ai PG (Zu):=Ao rfl trivial
theorem Zrv:Al PG (66,Ac Wr Za La):=rw1 (C:=Zu) Z04
def Qj5:Sk:=⟨[tf [CS.ptr 20000 0]],[(20000,119,cS)],[]⟩
def Qkd:Sk:=⟨[TS.tup [(false,[ci]),(false,[CS.bool])]],[(20000,119,cS)],[]⟩
def Q7z (M:Fn):Nat×Spec:=(65,Ac Qj5 Qkd M)
def Qmf (Ea AZ:Fn):Cfg:=cr [Qbl Ea,OO AZ] [63] [63]
def Yj (Ea AZ:Fn):Fn:=Am PG (Qmf Ea AZ) 64 65 Qj5 Qkd
theorem Q91 (Ea AZ:Fn) (K:Kf) (c:Cv):Yj Ea AZ (Ad K c)=
 bif c.g0 !=2 then
 some (I 0::B false::Ad K c)
 else
 (AZ (Ad K c)).bind fun o2=>
 (Ea [jA o2 0]).bind fun o3=>
 some (I 6::B true::Ad K {c with m0:=gA o3 0,m1:=gA o3 1,m2:=gA o3 2,m3:=gA o3 3,m4:=gA o3 4,m5:=gA o3 5}):=by kernel_rfl
def Ly:=Yj GD C7
theorem Zop:Ai PG (Qmf GD C7):=Gc (rs:=[63]) rfl ⟨Qaa,OY,trivial⟩ rfl (BZ rfl (EA F_))
theorem Zy6:Al PG (65,Ac Qj5 Qkd Ly):=rw1 (C:=(Qmf GD C7)) Zop
def Z3:Sk:=⟨[TS.v true [ci,ci,ci,ci],tf [ci]],[],[]⟩
def Qkx:Sk:=⟨[TS.v true [ci,ci,ci,ci]],[],[]⟩
def Zz3 (M:Fn):Nat×Spec:=(62,Ac Z3 Qkx M)
def XZ:Cfg:=cf []
def Qkn:Fn:=Am PG XZ 64 62 Z3 Qkx
theorem Zb8 (x0 x1 x2 x3 x4:Int):Qkn [I x0,I x1,I x2,I x3,I x4]=
 bif decide (x1<x2)then
 some [I x0,I (mn (IntKind.i64.wrap (x1+x4)) x2),I x2,I (IntKind.i64.wrap (x3+IntKind.i64.wrap (x0*mn (IntKind.i64.wrap (x1+x4)) x2)))]
 else
 some [I x0,I (mx (IntKind.i64.wrap (x1-x4)) x2),I x2,I (IntKind.i64.wrap (x3+IntKind.i64.wrap (x0*mx (IntKind.i64.wrap (x1-x4)) x2)))]:=by kernel_rfl
def Ln:=Qkn
theorem Q7c:Ai PG (XZ):=Ao rfl trivial
theorem Zv5:Al PG (62,Ac Z3 Qkx Ln):=rw1 (C:=XZ) Q7c
def WZ:Sk:=⟨[tf [CS.ptr 20000 0]],[(20000,119,cS)],[]⟩
def Uo:Sk:=⟨[tf [CS.bool]],[],[]⟩
def Zmc (M:Fn):Nat×Spec:=(61,Ep WZ Uo M)
def O5 (Dc:Fn):Cfg:=cr [So Dc] [102] [102]
def VH (Dc:Fn):Fn:=L2 PG (O5 Dc) 64 61 WZ Uo
theorem Zgw (Dc:Fn) (K:Kf) (c:Cv):VH Dc (Ad K c)=
 (Dc (Ad K c)).bind fun o1=>
 bif bA o1 7 then
 bif decide (0<=gA o1 4)&&decide (gA o1 4<((K.items.map Ag).length:Int))then
 bif gA (nth [] (K.items.map Ag) (gA o1 4).toNat) 0==6 then
 some [B (c.y0==gA o1 4)]
 else
 some [B false]
 else
 none
 else
 some [B false]:=by kernel_rfl
def KA:=VH Ed
theorem Zxd:Ai PG (O5 Ed):=Gc (rs:=[102]) rfl ⟨S9,trivial⟩ rfl (EA F_)
theorem Zv0 (vars : List AC) (R : Type) (K : TV -> Mem -> Option R) : EI PG (O5 Ed) 64 61 [TV.v false [AC.ptr 20000 0]] ⟨[(20000, (⟨119, (cR 0 vars)⟩ : Box))], []⟩ K = EI PG (O5 Ed) 64 61 [TV.v false [AC.ptr 20000 0]] ⟨[(20000, (⟨119, (cR 0 vars)⟩ : Box))], []⟩ (fun v _ => K v ⟨[(20000, (⟨119, (cR 0 vars)⟩ : Box))], []⟩) := Eq.trans (b := ((Ed (cR 0 vars)).bind fun o1 =>
 bif bA o1 7 then
 bif decide (0<=gA o1 4)&&decide (gA o1 4<(↑(wA vars 35).length:Int))then
 bif Af (nth .dead (nth [] (wA vars 35) (gA o1 4).toNat) 0)==6 then
 K (TV.v false [B ((gA vars 79)==gA o1 4)]) ⟨[(20000,(⟨119,(cR 0 vars)⟩:Box))],[]⟩
 else
 K (TV.v false [B false]) ⟨[(20000,(⟨119,(cR 0 vars)⟩:Box))],[]⟩
 else
 none
 else
 K (TV.v false [B false]) ⟨[(20000,(⟨119,(cR 0 vars)⟩:Box))],[]⟩)) (by kernel_rfl) (Eq.symm (by kernel_rfl))
theorem Zzy:Al PG (61,Ep WZ Uo KA):=RN (C:=(O5 Ed)) (L:=64) (by kernel_rfl) (FnOK.bare rfl rfl rfl) Zxd eqOk H6 (by kernel_rfl) (by kernel_rfl) (fun vars R K=>Zv0 vars R K)
def Qm5:Sk:=⟨[tf [CS.ptr 20000 0],tf [ci]],[(20000,119,cS)],[]⟩
def Qkv:Sk:=⟨[tf [ci]],[(20000,119,cS)],[]⟩
def Za8 (M:Fn):Nat×Spec:=(147,Ac Qm5 Qkv M)
def C_controller_Controller_synced_0:Cfg:=cf []
def Q4n:Sk:=⟨[td,tf [ci],td,td,td,tf [ci],tf [ci],td,td,td,td,td,td,tf [CS.sl Ah],tf [ci],tf [ci]]++dd 18,[(20000,119,cS)],[]⟩
def Qpe:List (Ex×Sk):=[(Ex.exit 0,⟨[td,td,td,td,td,td,tf [ci]]++dd 27,[(20000,119,cS)],[]⟩)]
def Zzx:Lp:=AP PG C_controller_Controller_synced_0 64 3 (AO PG 147 3) Q4n Qpe
def Qvr (N3:Lp):Cfg:=C_controller_Controller_synced_0.loop 3 Q4n Qpe N3
def Zhi (N3:Lp):Fn:=Am PG (Qvr N3) 64 147 Qm5 Qkv
def Qq4:=An (Zzx)
def R3:=Zhi Qq4
theorem Qs3:Ai PG (C_controller_Controller_synced_0):=Ao rfl trivial
theorem Zh6:Al PG (147,Ac Qm5 Qkv R3):=rw2 (C:=(Qvr Qq4)) (fl fb Qs3) Qs3
def Qgt:Sk:=⟨[tf [CS.ptr 20000 0],tf [ci]],[(20000,119,cS)],[]⟩
def Uv:Sk:=⟨[TS.tup []],[(20000,119,cS)],[]⟩
def Zmw (M:Fn):Nat×Spec:=(101,Ac Qgt Uv M)
def Qem (Er ZU Bj Dc:Fn):Cfg:=cr [Quu Er,Za8 ZU,Ni Bj,So Dc] [147,110,102] [110,102]
def Zgi (Er ZU Bj Dc:Fn):Fn:=Am PG (Qem Er ZU Bj Dc) 64 101 Qgt Uv
def RZ:=Zgi Lk R3 CO Ed
theorem Q6r:Ai PG (Qem Lk R3 CO Ed):=Gc (rs:=[110,102]) rfl ⟨Q1a,Zh6,MY,S9,trivial⟩ rfl (BZ rfl (BZ rfl (EA (EA F_))))
theorem Ztc:Al PG (101,Ac Qgt Uv RZ):=rw1 (C:=(Qem Lk R3 CO Ed)) Q6r
def Qi0:Sk:=⟨[tf [CS.ptr 20000 0],tf [ci]],[(20000,119,cS)],[]⟩
def Qdo:Sk:=⟨[tf [ci]],[(20000,119,cS)],[]⟩
def Z09 (M:Fn):Nat×Spec:=(146,Ac Qi0 Qdo M)
def C_controller_Controller_beginning_0:Cfg:=cf []
def Qr2:Sk:=⟨[td,tf [ci],td,td,td,tf [ci],td,td,td,td,td,td,tf [CS.sl Ah],tf [ci],tf [ci]]++dd 13,[(20000,119,cS)],[]⟩
def Qvx:List (Ex×Sk):=[(Ex.exit 0,⟨[td,td,td,td,td,tf [ci]]++dd 22,[(20000,119,cS)],[]⟩)]
def Q8l:Lp:=AP PG C_controller_Controller_beginning_0 64 3 (AO PG 146 3) Qr2 Qvx
def Q09 (N3:Lp):Cfg:=C_controller_Controller_beginning_0.loop 3 Qr2 Qvx N3
def Zl7 (N3:Lp):Fn:=Am PG (Q09 N3) 64 146 Qi0 Qdo
def Q3q:=An (Q8l)
def Sd:=Zl7 Q3q
theorem Qox:Ai PG (C_controller_Controller_beginning_0):=Ao rfl trivial
theorem Zvn:Al PG (146,Ac Qi0 Qdo Sd):=rw2 (C:=(Q09 Q3q)) (fl fb Qox) Qox
def WJ:Sk:=⟨[tf [CS.ptr 20000 0]],[(20000,119,cS)],[]⟩
def Qda:Sk:=⟨[TS.tup []],[(20000,119,cS)],[]⟩
def Zbn (M:Fn):Nat×Spec:=(100,Ac WJ Qda M)
def Qev (Qj4 Bj Dc:Fn):Cfg:=cr [Z09 Qj4,Ni Bj,So Dc] [146,110,102] [110,102]
def Zre (Qj4 Bj Dc:Fn):Fn:=Am PG (Qev Qj4 Bj Dc) 64 100 WJ Qda
def RX:=Zre Sd CO Ed
theorem Zl6:Ai PG (Qev Sd CO Ed):=Gc (rs:=[110,102]) rfl ⟨Zvn,MY,S9,trivial⟩ rfl (BZ rfl (EA (EA F_)))
theorem Zwh:Al PG (100,Ac WJ Qda RX):=rw1 (C:=(Qev Sd CO Ed)) Zl6
def U7:Sk:=⟨[TS.v true [ci,ci,ci],tf [ci],TS.v true [ci,ci,ci],TS.v true [ci,ci,ci]],[],[]⟩
def VS:Sk:=⟨[TS.v true [ci,ci,ci]],[],[]⟩
def Q6q (M:Fn):Nat×Spec:=(145,Ac U7 VS M)
def Yv:Cfg:={cf []with unroll:=[4]}
def Z0c:Fn:=Am PG Yv 64 145 U7 VS
def Qd:=Z0c
theorem Ze2:Ai PG (Yv):=Ao rfl trivial
theorem Ziu:Al PG (145,Ac U7 VS Qd):=rw1 (C:=Yv) Ze2
def Qax:Sk:=⟨[tf [CS.ptr 20000 0],tf [ci]],[(20000,119,cS)],[]⟩
def Qh9:Sk:=⟨[TS.tup []],[(20000,119,cS)],[]⟩
def Zov (M:Fn):Nat×Spec:=(99,Ac Qax Qh9 M)
def Vq (Lz Ba AZ:Fn):Cfg:=cr [Q6q Lz,SU Ba,OO AZ] [63] [63]
def Q9g (Lz Ba AZ:Fn):Fn:=Am PG (Vq Lz Ba AZ) 64 99 Qax Qh9
abbrev Zut (x0:Int) (Lz:Fn) (c:Cv) (K:Kf) (o12:List AC) (h1_0:AC):Option (List AC):=
 bif decide (IntKind.i64.wrap (x0.tdiv 1048576)=(↑0:Int))then
 (Lz [I c.g0,I c.g1,I c.g2,I K.lag,jA o12 0,jA o12 1,jA o12 2,h1_0,jA o12 1,jA o12 2]).bind fun o13=>
 some (Ad K {c with g0:=gA o13 0,g1:=gA o13 1,g2:=gA o13 2})
 else
 bif decide (IntKind.i64.wrap (x0.tdiv 1048576)=(↑(0+1):Int))then
 (Lz [I c.g0,I c.g1,I c.g2,I K.lag,jA o12 0,jA o12 1,jA o12 2,jA o12 0,h1_0,jA o12 2]).bind fun o14=>
 some (Ad K {c with g0:=gA o14 0,g1:=gA o14 1,g2:=gA o14 2})
 else
 bif decide (IntKind.i64.wrap (x0.tdiv 1048576)=(↑(0+1+1):Int))then
 (Lz [I c.g0,I c.g1,I c.g2,I K.lag,jA o12 0,jA o12 1,jA o12 2,jA o12 0,jA o12 1,h1_0]).bind fun o15=>
 some (Ad K {c with g0:=gA o15 0,g1:=gA o15 1,g2:=gA o15 2})
 else
 none
attribute [go_sem] Zut
def Qm:=Q9g Qd En C7
theorem Zqb:Ai PG (Vq Qd En C7):=Gc (rs:=[63]) rfl ⟨Ziu,SG,OY,trivial⟩ rfl (BZ rfl (BZ rfl (EA F_)))
theorem Zaf:Al PG (99,Ac Qax Qh9 Qm):=rw1 (C:=(Vq Qd En C7)) Zqb
def Ql6:Sk:=⟨[],[],[]⟩
def Yx:Sk:=⟨[TS.v true [ci,ci,ci]],[],[]⟩
def Qxp (M:Fn):Nat×Spec:=(56,Ac Ql6 Yx M)
def UD:Cfg:=cf []
def Q0:Fn:=Am PG UD 64 56 Ql6 Yx
theorem Q2a:Q0 []=
 some [I 0,I 0,I (-1)]:=by kernel_rfl
def JC:=Q0
theorem Z0v:Ai PG (UD):=Ao rfl trivial
theorem Q3b:Al PG (56,Ac Ql6 Yx JC):=rw1 (C:=UD) Z0v
def Qgp:Sk:=⟨[TS.v true [ci,ci,ci],tf [ci],tf [ci]],[],[]⟩
def TG:Sk:=⟨[TS.v true [ci,ci,ci]],[],[]⟩
def Zgv (M:Fn):Nat×Spec:=(144,Ac Qgp TG M)
def Qlh:Cfg:=cf []
def VJ:Fn:=Am PG Qlh 64 144 Qgp TG
theorem Q9a (x0 x1 x2 x3 x4:Int):VJ [I x0,I x1,I x2,I x3,I x4]=
 bif x0==2 then
 some [I x0,I x1,I x2]
 else
 bif x1==0 then
 some [I 1,I x3,I x4]
 else
 some [I 1,I x1,I x2]:=by kernel_rfl
def O7:=VJ
theorem Zen:Ai PG (Qlh):=Ao rfl trivial
theorem Zcq:Al PG (144,Ac Qgp TG O7):=rw1 (C:=Qlh) Zen
def Ur:Sk:=⟨[TS.v true [ci,ci,ci],TS.v true [ci,ci,ci]],[],[]⟩
def Qa4:Sk:=⟨[TS.v true [ci,ci,ci]],[],[]⟩
def Zew (M:Fn):Nat×Spec:=(98,Ac Ur Qa4 M)
def TU (Fw Lc:Fn):Cfg:=cf [Qxp Fw,Zgv Lc]
def Yu (Fw Lc:Fn):Fn:=Am PG (TU Fw Lc) 64 98 Ur Qa4
theorem Zhz (Fw Lc:Fn) (x0 x1 x2 x3 x4 x5:Int):Yu Fw Lc [I x0,I x1,I x2,I x3,I x4,I x5]=
 bif x4==10 then
 some [I 2,I 22,I (-1)]
 else
 bif x4==9 then
 (Lc [I x0,I x1,I x2,I 21,I (-1)]).bind fun o3=>
 some [jA o3 0,jA o3 1,jA o3 2]
 else
 bif x4==8 then
 bif decide (x5>=0)then
 bif decide (x5<=2)then
 (Lc [I x0,I x1,I x2,I 20,I x5]).bind fun o4=>
 some [jA o4 0,jA o4 1,jA o4 2]
 else
 some [I x0,I x1,I x2]
 else
 some [I x0,I x1,I x2]
 else
 bif x4==11 then
 (Fw []).bind fun o5=>
 some [jA o5 0,jA o5 1,jA o5 2]
 else
 some [I x0,I x1,I x2]:=by kernel_rfl
def S5:=Yu JC O7
theorem Zny:Ai PG (TU JC O7):=Ao rfl ⟨Q3b,Zcq,trivial⟩
theorem Zdr:Al PG (98,Ac Ur Qa4 S5):=rw1 (C:=(TU JC O7)) Zny
def UM:Sk:=⟨[tf [CS.bool],tf [ci]],[],[]⟩
def Qi2:Sk:=⟨[tf [CS.bool]],[],[]⟩
def Zn0 (M:Fn):Nat×Spec:=(143,Ac UM Qi2 M)
def Qf2:Cfg:=cf []
def Qm2:Fn:=Am PG Qf2 64 143 UM Qi2
theorem Zi8 (x0:Bool) (x1:Int):Qm2 [B x0,I x1]=
 bif x1==0 then
 some [B false]
 else
 bif x1==1 then
 some [B true]
 else
 some [B x0]:=by kernel_rfl
def O3:=Qm2
theorem Zsn:Ai PG (Qf2):=Ao rfl trivial
theorem Q9v:Al PG (143,Ac UM Qi2 O3):=rw1 (C:=Qf2) Zsn
def Qdz:Sk:=⟨[TS.v true [ci,ci,CS.bool,CS.bool,CS.bool],TS.v true [ci,ci,ci]],[],[]⟩
def Qge:Sk:=⟨[TS.v true [ci,ci,CS.bool,CS.bool,CS.bool]],[],[]⟩
def Zr0 (M:Fn):Nat×Spec:=(97,Ac Qdz Qge M)
def Qbn (Ku:Fn):Cfg:=cf [Zn0 Ku]
def RF (Ku:Fn):Fn:=Am PG (Qbn Ku) 64 97 Qdz Qge
theorem Qo4 (Ku:Fn) (x0 x1:Int) (x2 x3 x4:Bool) (x5 x6 x7:Int):RF Ku [I x0,I x1,B x2,B x3,B x4,I x5,I x6,I x7]=
 bif x6==1 then
 bif decide (0<=x7)then
 bif decide (x7<=200)then
 some [I x7,I x1,B x2,B x3,B x4]
 else
 some [I x0,I x1,B x2,B x3,B x4]
 else
 some [I x0,I x1,B x2,B x3,B x4]
 else
 bif x6==2 then
 bif decide (0<=x7)then
 bif decide (x7<=100)then
 some [I x0,I x7,B x2,B x3,B x4]
 else
 some [I x0,I x1,B x2,B x3,B x4]
 else
 some [I x0,I x1,B x2,B x3,B x4]
 else
 bif x6==3 then
 some [I x0,I x1,B true,B x3,B x4]
 else
 bif x6==4 then
 some [I x0,I x1,B false,B x3,B x4]
 else
 bif x6==5 then
 (Ku [B x3,I x7]).bind fun o2=>
 some [I x0,I x1,B x2,B (bA o2 0),B x4]
 else
 bif x6==6 then
 (Ku [B x4,I x7]).bind fun o3=>
 some [I x0,I x1,B x2,B x3,B (bA o3 0)]
 else
 some [I x0,I x1,B x2,B x3,B x4]:=by kernel_rfl
def Tc:=RF O3
theorem Zk2:Ai PG (Qbn O3):=Ao rfl ⟨Q9v,trivial⟩
theorem Q71:Al PG (97,Ac Qdz Qge Tc):=rw1 (C:=(Qbn O3)) Zk2
end Go.Bm
