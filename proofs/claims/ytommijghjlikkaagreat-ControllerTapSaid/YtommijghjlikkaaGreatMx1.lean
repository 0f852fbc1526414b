/- functions of the program and of the references, as models -/
import Derived.Test.YtommijghjlikkaaGreatSeShelf
import Derived.Test.YtommijghjlikkaaGreatSeExt
import Derived.Test.YtommijghjlikkaaGreatSePre
import Derived.Test.YtommijghjlikkaaGreatSeKc
import Derived.Test.YtommijghjlikkaaGreatBmTy
set_option linter.unusedSimpArgs false
set_option linter.unusedVariables false
set_option maxRecDepth 100000
noncomputable section
open Go.IntKind (wrap)
namespace Go.Bm
open Go.Proofs
def Y3:Sk:=⟨[TS.v true (cc 9++[CS.sl Aa]),tf [ci]],[],[]⟩
def Qjo:Sk:=⟨[tf [ci]],[],[]⟩
def Qt6 (M:Fn):Nat×Spec:=(77,Ac Y3 Qjo M)
def Qh6:Cfg:=cf []
def Q3r:Fn:=An PG Qh6 64 77 Y3 Qjo
theorem Zvw (x0 x1 x2 x3 x4 x5 x6 x7 x8:Int) (x9:Rw) (x10:Int):Q3r [I x0,I x1,I x2,I x3,I x4,I x5,I x6,I x7,I x8, .view Aa x9,I x10]=
 bif x10== -1 then
 some [I (wrap .i64 (0-x6))]
 else
 some [I 0]:=by kernel_rfl
def I2:=Q3r
theorem Zi9:Ai PG (Qh6):=Ap rfl trivial
theorem Qtl:Ak PG (77,Ac Y3 Qjo I2):=rw1 (C:=Qh6) Zi9
def Qhh:Sk:=⟨[TS.v true (cc 9++[CS.sl Aa]),TS.v true (cc 10),tf [ci],tf [ci]],[],[]⟩
def Qid:Sk:=⟨[tf [ci]],[],[]⟩
def Z0f (M:Fn):Nat×Spec:=(78,Ac Qhh Qid M)
def Qgd (BJ:Fn):Cfg:=cf [Qt6 BJ]
def OE (BJ:Fn):Fn:=An PG (Qgd BJ) 64 78 Qhh Qid
abbrev Zs (x20:Int) (BJ:Fn) (x0 x1 x2 x3 x4 x5 x6 x7 x8:Int) (x9:Rw) (x17 x18 x19:Int):Option (List AC):=
 bif decide (x20=(↑0:Int))then
 (BJ [I x0,I x1,I x2,I x3,I x4,I x5,I x6,I x7,I x8, .view Aa x9,I x17]).bind fun o30=>
 some [jA o30 0]
 else
 bif decide (x20=(↑(0+1):Int))then
 (BJ [I x0,I x1,I x2,I x3,I x4,I x5,I x6,I x7,I x8, .view Aa x9,I x18]).bind fun o31=>
 some [jA o31 0]
 else
 bif decide (x20=(↑(0+1+1):Int))then
 (BJ [I x0,I x1,I x2,I x3,I x4,I x5,I x6,I x7,I x8, .view Aa x9,I x19]).bind fun o32=>
 some [jA o32 0]
 else
 none
attribute [go_sem] Zs
abbrev Sl (x21 x10 x6:Int) (h4_0:Bool):Option (List AC):=
 bif h4_0 then
 some [I (wrap .i64 (0-mn (wrap .i64 (x21-x10)) x6))]
 else
 some [I (wrap .i64 (mn (wrap .i64 (x21-x10)) x6-x6))]
attribute [go_sem] Sl
abbrev Sz (x20:Int) (BJ:Fn) (x0 x1 x2 x3 x4 x5 x6 x7 x8:Int) (x9:Rw) (x17 x18 x19 x21 x10:Int) (h1_0:Bool):Option (List AC):=
 bif h1_0 then
 Zs x20 BJ x0 x1 x2 x3 x4 x5 x6 x7 x8 x9 x17 x18 x19
 else
 bif decide (x20=(↑0:Int))then
 Sl x21 x10 x6 (x17== -1)
 else
 bif decide (x20=(↑(0+1):Int))then
 Sl x21 x10 x6 (x18== -1)
 else
 bif decide (x20=(↑(0+1+1):Int))then
 Sl x21 x10 x6 (x19== -1)
 else
 none
attribute [go_sem] Sz
abbrev Q0 (x20:Int) (BJ:Fn) (x0 x1 x2 x3 x4 x5 x6 x7 x8:Int) (x9:Rw) (x17 x18 x19 x21 x10:Int) (h2_0 h2_1 h2_2:Bool):Option (List AC):=
 bif decide (x20=(↑0:Int))then
 Sz x20 BJ x0 x1 x2 x3 x4 x5 x6 x7 x8 x9 x17 x18 x19 x21 x10 h2_0
 else
 bif decide (x20=(↑(0+1):Int))then
 Sz x20 BJ x0 x1 x2 x3 x4 x5 x6 x7 x8 x9 x17 x18 x19 x21 x10 h2_1
 else
 bif decide (x20=(↑(0+1+1):Int))then
 Sz x20 BJ x0 x1 x2 x3 x4 x5 x6 x7 x8 x9 x17 x18 x19 x21 x10 h2_2
 else
 none
attribute [go_sem] Q0
theorem Qbx (BJ:Fn) (x0 x1 x2 x3 x4 x5 x6 x7 x8:Int) (x9:Rw) (x10 x11 x12 x13 x14 x15 x16 x17 x18 x19 x20 x21:Int):OE BJ [I x0,I x1,I x2,I x3,I x4,I x5,I x6,I x7,I x8, .view Aa x9,I x10,I x11,I x12,I x13,I x14,I x15,I x16,I x17,I x18,I x19,I x20,I x21]=
 bif x13 !=0 then
 Zs x20 BJ x0 x1 x2 x3 x4 x5 x6 x7 x8 x9 x17 x18 x19
 else
 bif decide (x20=(↑0:Int))then
 Q0 x20 BJ x0 x1 x2 x3 x4 x5 x6 x7 x8 x9 x17 x18 x19 x21 x10 (x14==x17) (x14==x18) (x14==x19)
 else
 bif decide (x20=(↑(0+1):Int))then
 Q0 x20 BJ x0 x1 x2 x3 x4 x5 x6 x7 x8 x9 x17 x18 x19 x21 x10 (x15==x17) (x15==x18) (x15==x19)
 else
 bif decide (x20=(↑(0+1+1):Int))then
 Q0 x20 BJ x0 x1 x2 x3 x4 x5 x6 x7 x8 x9 x17 x18 x19 x21 x10 (x16==x17) (x16==x18) (x16==x19)
 else
 none:=by kernel_rfl
def RQ:=OE I2
theorem Zn5:Ai PG (Qgd I2):=Ap rfl ⟨Qtl,trivial⟩
theorem Zer:Ak PG (78,Ac Qhh Qid RQ):=rw1 (C:=(Qgd I2)) Zn5
def Xo:Sk:=⟨[TS.v true (cc 9++[CS.sl Aa]),tf [ci]],[],[]⟩
def Ze:Sk:=⟨[tf [ci]],[],[]⟩
def Q8p (M:Fn):Nat×Spec:=(118,Ac Xo Ze M)
def Qbw:Cfg:=cf []
def Qtt:Fn:=An PG Qbw 64 118 Xo Ze
theorem Zf9 (x0 x1 x2 x3 x4 x5 x6 x7 x8:Int) (x9:Rw) (x10:Int):Qtt [I x0,I x1,I x2,I x3,I x4,I x5,I x6,I x7,I x8, .view Aa x9,I x10]=
 bif decide (x0<=0)then
 some [I 0]
 else
 bif decide (wrap .i64 (2*x0)<=0)then
 some [I 0]
 else
 bif decide (wrap .i64 (2*x0)=0)then
 none
 else
 bif decide (wrap .i64 (2*x0)=0)then
 none
 else
 bif decide ((wrap .i64 (wrap .i64 (2*x10)+x0)).tmod (wrap .i64 (2*x0))<0)then
 some [I (wrap .i64 (wrap .i64 ((wrap .i64 (wrap .i64 (2*x10)+x0)).tdiv (wrap .i64 (2*x0)))-1))]
 else
 some [I (wrap .i64 ((wrap .i64 (wrap .i64 (2*x10)+x0)).tdiv (wrap .i64 (2*x0))))]:=by kernel_rfl
def Jo:=Qtt
theorem Zia:Ai PG (Qbw):=Ap rfl trivial
theorem Zxl:Ak PG (118,Ac Xo Ze Jo):=rw1 (C:=Qbw) Zia
def Um:Sk:=⟨[tf [CS.int .u64],tf [CS.bool]],[],[]⟩
def Qeb:Sk:=⟨[TS.tup [(false,[ci]),(false,[CS.bool])]],[],[]⟩
def UH (M:Fn):Nat×Spec:=(136,Ac Um Qeb M)
def Qms:Cfg:=cf []
def S2:Fn:=An PG Qms 64 136 Um Qeb
theorem QQ (x0:Int) (x1:Bool):S2 [U x0,B x1]=
 bif x1 then
 bif decide (x0<=9223372036854775808)then
 some [I (wrap .i64 (wrap .u64 (0-x0))),B true]
 else
 bif !x1 then
 bif decide (x0<9223372036854775808)then
 some [I (wrap .i64 x0),B true]
 else
 some [I 0,B false]
 else
 some [I 0,B false]
 else
 bif !x1 then
 bif decide (x0<9223372036854775808)then
 some [I (wrap .i64 x0),B true]
 else
 some [I 0,B false]
 else
 some [I 0,B false]:=by kernel_rfl
def E3:=S2
theorem Znr:Ai PG (Qms):=Ap rfl trivial
theorem Xg:Ak PG (136,Ac Um Qeb E3):=rw1 (C:=Qms) Znr
def Qdg:Sk:=⟨[tf [ci],tf [ci],tf [CS.bool],tf [CS.bool]],[],[]⟩
def Qf7:Sk:=⟨[tf [CS.bool]],[],[]⟩
def Qtj (M:Fn):Nat×Spec:=(135,Ac Qdg Qf7 M)
def Xq:Cfg:=cf []
def QC:Fn:=An PG Xq 64 135 Qdg Qf7
theorem Qbq (x0 x1:Int) (x2 x3:Bool):QC [I x0,I x1,B x2,B x3]=
 bif x0==0 then
 bif x2 then
 some [B x3]
 else
 some [B false]
 else
 bif x0==1 then
 bif x2 then
 some [B !x3]
 else
 some [B false]
 else
 bif decide (x1>0)then
 some [B true]
 else
 bif x1==0 then
 some [B !x3]
 else
 some [B false]:=by kernel_rfl
def Hw:=QC
theorem Zdg:Ai PG (Xq):=Ap rfl trivial
theorem Qpe:Ak PG (135,Ac Qdg Qf7 Hw):=rw1 (C:=Xq) Zdg
def XU:Sk:=⟨[tf [ci],tf [ci]],[],[]⟩
def Qhv:Sk:=⟨[tf [ci]],[],[]⟩
def W4 (M:Fn):Nat×Spec:=(134,Ac XU Qhv M)
def Z9:Cfg:=cf []
def Qcl:Fn:=An PG Z9 64 134 XU Qhv
theorem Q5z (x0 x1:Int):Qcl [I x0,I x1]=
 bif x0==0 then
 some [I 0]
 else
 bif x1==0 then
 some [I 0]
 else
 bif decide (x0<0)==decide (x1<0)then
 some [I 1]
 else
 some [I (-1)]:=by kernel_rfl
def Fz:=Qcl
theorem Zv3:Ai PG (Z9):=Ap rfl trivial
theorem Qk2:Ak PG (134,Ac XU Qhv Fz):=rw1 (C:=Z9) Zv3
def Z2:Sk:=⟨[tf [CS.int .u64],tf [CS.int .u64],tf [CS.int .u64]],[],[]⟩
def Xu:Sk:=⟨[TS.tup [(false,[CS.int .u64]),(false,[CS.int .u64])]],[],[]⟩
def Q3s (M:Fn):Nat×Spec:=(133,Ac Z2 Xu M)
def Qdv (DH:Fn):Cfg:=cf [(176,Ac Qqx Q3e DH)]
def Q6p:Sk:=⟨[td,td,tf [CS.int .u64],td,td,td,td,td,tf [CS.int .u64],tf [CS.int .u64],tf [CS.int .u64],tf [CS.int .u64],td,tf [CS.int .u64],tf [CS.int .u64],tf [CS.int .u64],tf [CS.int .u64]]++dd 118,[],[]⟩
def Qzp:List (Ex×Sk):=[(Ex.exit 0,⟨[td,td,tf [CS.int .u64],td,td,td,td,td,tf [CS.int .u64],tf [CS.int .u64],tf [CS.int .u64],tf [CS.int .u64],td,tf [CS.int .u64],tf [CS.int .u64],tf [CS.int .u64]]++dd 119,[],[]⟩)]
def K3 (DH:Fn):Lp:=A4 PG (Qdv DH) 64 17 (A3 PG 133 17) Q6p Qzp
def Qto (DH:Fn) (N17:Lp):Cfg:=(Qdv DH).loop 17 Q6p Qzp N17
def Q4q:Sk:=⟨[td,td,tf [CS.int .u64],td,td,td,td,td,tf [CS.int .u64],tf [CS.int .u64],tf [CS.int .u64],td,td,td,tf [CS.int .u64],tf [CS.int .u64],tf [CS.int .u64],tf [CS.int .u64],tf [CS.int .u64]]++dd 116,[],[]⟩
def Qp0:List (Ex×Sk):=[(Ex.exit 2,⟨[td,td,tf [CS.int .u64],td,td,td,td,td,tf [CS.int .u64],td,td,td,td,td,tf [CS.int .u64],tf [CS.int .u64],td,tf [CS.int .u64],tf [CS.int .u64]]++dd 116,[],[]⟩)]
def PF (DH:Fn) (N17:Lp):Lp:=A4 PG (Qto DH N17) 64 24 (A3 PG 133 24) Q4q Qp0
def Quu (DH:Fn) (N17 N24:Lp):Cfg:=(Qto DH N17).loop 24 Q4q Qp0 N24
def V0 (DH:Fn) (N17 N24:Lp):Fn:=An PG (Quu DH N17 N24) 64 133 Z2 Xu
theorem Zu1 (DH:Fn) (v0 v1 v2 v3 v4 v5 v6 v7 v8:Int):K3 DH [U v0,U v1,U v2,U v3,U v4,U v5,U v6,U v7,U v8]=
 bif decide (v7>=4294967296)then
 bif decide (wrap .u64 (v8+v2)>=4294967296)then
 some (1,[U v0,U v1,U v2,U v3,U v4,U v5,U v6,U (wrap .u64 (v7-1))])
 else
 some (0,[U v0,U v1,U v2,U v3,U v4,U v5,U v6,U (wrap .u64 (v7-1)),U (wrap .u64 (v8+v2))])
 else
 bif decide (wrap .u64 (v7*v3)>wrap .u64 (wrap .u64 (4294967296*v8)+v5))then
 bif decide (wrap .u64 (v8+v2)>=4294967296)then
 some (1,[U v0,U v1,U v2,U v3,U v4,U v5,U v6,U (wrap .u64 (v7-1))])
 else
 some (0,[U v0,U v1,U v2,U v3,U v4,U v5,U v6,U (wrap .u64 (v7-1)),U (wrap .u64 (v8+v2))])
 else
 some (1,[U v0,U v1,U v2,U v3,U v4,U v5,U v6,U v7]):=by kernel_rfl
theorem Zur (DH:Fn) (N17:Lp) (v0 v1 v2 v3 v4 v5 v6 v7 v8:Int):PF DH N17 [U v0,U v1,U v2,U v3,U v4,U v5,U v6,U v7,U v8]=
 bif decide (v8>=4294967296)then
 bif decide (wrap .u64 (v6+v2)>=4294967296)then
 some (1,[U v0,U v1,U v4,U v5,U v7,U (wrap .u64 (v8-1))])
 else
 some (0,[U v0,U v1,U v2,U v3,U v4,U v5,U (wrap .u64 (v6+v2)),U v7,U (wrap .u64 (v8-1))])
 else
 bif decide (wrap .u64 (v8*v3)>wrap .u64 (wrap .u64 (4294967296*v6)+v4))then
 bif decide (wrap .u64 (v6+v2)>=4294967296)then
 some (1,[U v0,U v1,U v4,U v5,U v7,U (wrap .u64 (v8-1))])
 else
 some (0,[U v0,U v1,U v2,U v3,U v4,U v5,U (wrap .u64 (v6+v2)),U v7,U (wrap .u64 (v8-1))])
 else
 some (1,[U v0,U v1,U v4,U v5,U v7,U v8]):=by kernel_rfl
theorem Qx5 (DH:Fn) (N17 N24:Lp) (x0 x1 x2:Int):V0 DH N17 N24 [U x0,U x1,U x2]=
 bif x2==0 then
 none
 else
 bif decide (x2<=x0)then
 none
 else
 bif x0==0 then
 bif decide (x2=0)then
 none
 else
 bif decide (x2=0)then
 none
 else
 some [U (wrap .u64 (x1.tdiv x2)),U (x1.tmod x2)]
 else
 (DH [U x2]).bind fun o6=>
 bif decide (wrap .u64 (gA o6 0)<0)then
 none
 else
 bif decide (wrap .u64 (gA o6 0)<0)then
 none
 else
 bif decide (wrap .u64 (64-wrap .u64 (gA o6 0))<0)then
 none
 else
 bif decide (wrap .u64 (gA o6 0)<0)then
 none
 else
 bif decide ((wrap .u64 (x2*2^min (wrap .u64 (gA o6 0)).toNat IntKind.u64.bits)).fdiv (2^min (Int.toNat 32) IntKind.u64.bits)=0)then
 none
 else
 (N17 [U (wrap .u64 (x2*2^min (wrap .u64 (gA o6 0)).toNat IntKind.u64.bits)),U (wrap .u64 (gA o6 0)),U ((wrap .u64 (x2*2^min (wrap .u64 (gA o6 0)).toNat IntKind.u64.bits)).fdiv (2^min (Int.toNat 32) IntKind.u64.bits)),U (wrap .u64 (↑(BitVec.ofInt IntKind.u64.bits (wrap .u64 (x2*2^min (wrap .u64 (gA o6 0)).toNat IntKind.u64.bits))&&&BitVec.ofInt IntKind.u64.bits 4294967295).toNat:Int)),U (wrap .u64 (↑(BitVec.ofInt IntKind.u64.bits (wrap .u64 (x0*2^min (wrap .u64 (gA o6 0)).toNat IntKind.u64.bits))|||BitVec.ofInt IntKind.u64.bits (x1.fdiv (2^min (wrap .u64 (64-wrap .u64 (gA o6 0))).toNat IntKind.u64.bits))).toNat:Int)),U ((wrap .u64 (x1*2^min (wrap .u64 (gA o6 0)).toNat IntKind.u64.bits)).fdiv (2^min (Int.toNat 32) IntKind.u64.bits)),U (wrap .u64 (↑(BitVec.ofInt IntKind.u64.bits (wrap .u64 (x1*2^min (wrap .u64 (gA o6 0)).toNat IntKind.u64.bits))&&&BitVec.ofInt IntKind.u64.bits 4294967295).toNat:Int)),U (wrap .u64 ((wrap .u64 (↑(BitVec.ofInt IntKind.u64.bits (wrap .u64 (x0*2^min (wrap .u64 (gA o6 0)).toNat IntKind.u64.bits))|||BitVec.ofInt IntKind.u64.bits (x1.fdiv (2^min (wrap .u64 (64-wrap .u64 (gA o6 0))).toNat IntKind.u64.bits))).toNat:Int)).tdiv ((wrap .u64 (x2*2^min (wrap .u64 (gA o6 0)).toNat IntKind.u64.bits)).fdiv (2^min (Int.toNat 32) IntKind.u64.bits)))),U (wrap .u64 (wrap .u64 (↑(BitVec.ofInt IntKind.u64.bits (wrap .u64 (x0*2^min (wrap .u64 (gA o6 0)).toNat IntKind.u64.bits))|||BitVec.ofInt IntKind.u64.bits (x1.fdiv (2^min (wrap .u64 (64-wrap .u64 (gA o6 0))).toNat IntKind.u64.bits))).toNat:Int)-wrap .u64 (wrap .u64 ((wrap .u64 (↑(BitVec.ofInt IntKind.u64.bits (wrap .u64 (x0*2^min (wrap .u64 (gA o6 0)).toNat IntKind.u64.bits))|||BitVec.ofInt IntKind.u64.bits (x1.fdiv (2^min (wrap .u64 (64-wrap .u64 (gA o6 0))).toNat IntKind.u64.bits))).toNat:Int)).tdiv ((wrap .u64 (x2*2^min (wrap .u64 (gA o6 0)).toNat IntKind.u64.bits)).fdiv (2^min (Int.toNat 32) IntKind.u64.bits)))*(wrap .u64 (x2*2^min (wrap .u64 (gA o6 0)).toNat IntKind.u64.bits)).fdiv (2^min (Int.toNat 32) IntKind.u64.bits))))]).bind fun o7=>
 bif o7.1.beq 1 then
 bif decide (gA o7.2 2=0)then
 none
 else
 (N24 [U (gA o7.2 0),U (gA o7.2 1),U (gA o7.2 2),U (gA o7.2 3),U (gA o7.2 6),U (gA o7.2 7),U (wrap .u64 (wrap .u64 (wrap .u64 (wrap .u64 (gA o7.2 4*4294967296)+gA o7.2 5)-wrap .u64 (gA o7.2 7*gA o7.2 0))-wrap .u64 (wrap .u64 ((wrap .u64 (wrap .u64 (wrap .u64 (gA o7.2 4*4294967296)+gA o7.2 5)-wrap .u64 (gA o7.2 7*gA o7.2 0))).tdiv (gA o7.2 2))*gA o7.2 2))),U (wrap .u64 (wrap .u64 (wrap .u64 (gA o7.2 4*4294967296)+gA o7.2 5)-wrap .u64 (gA o7.2 7*gA o7.2 0))),U (wrap .u64 ((wrap .u64 (wrap .u64 (wrap .u64 (gA o7.2 4*4294967296)+gA o7.2 5)-wrap .u64 (gA o7.2 7*gA o7.2 0))).tdiv (gA o7.2 2)))]).bind fun o8=>
 bif o8.1.beq 1 then
 bif decide (gA o8.2 1<0)then
 none
 else
 some [U (wrap .u64 (wrap .u64 (gA o8.2 3*4294967296)+gA o8.2 5)),U ((wrap .u64 (wrap .u64 (wrap .u64 (gA o8.2 4*4294967296)+gA o8.2 2)-wrap .u64 (gA o8.2 5*gA o8.2 0))).fdiv (2^min (gA o8.2 1).toNat IntKind.u64.bits))]
 else
 none
 else
 none:=by kernel_rfl
def SE:=Am (K3 H_)
def Qij:=Am (PF H_ SE)
def GE:=V0 H_ SE Qij
theorem Qcy:Ai PG (Qdv H_):=Ap rfl ⟨Q9z,trivial⟩
theorem Qrf:Ak PG (133,Ac Z2 Xu GE):=rw2 (C:=(Quu H_ SE Qij)) (fl (fl fb Qcy) Qcy) Qcy
def Qgv:Sk:=⟨[tf [CS.int .u64],tf [CS.int .u64]],[],[]⟩
def Qmq:Sk:=⟨[TS.v true [CS.int .u64,CS.int .u64]],[],[]⟩
def S7 (M:Fn):Nat×Spec:=(131,Ac Qgv Qmq M)
def Qhj (FP:Fn):Cfg:=cf [(175,Ac Qlt Qa4 FP)]
def Q68 (FP:Fn):Fn:=An PG (Qhj FP) 64 131 Qgv Qmq
theorem Zkm (FP:Fn) (x0 x1:Int):Q68 FP [U x0,U x1]=
 (FP [U x0,U x1]).bind fun o1=>
 some [U (gA o1 0),U (gA o1 1)]:=by kernel_rfl
def Ep:=Q68 It
theorem Zmx:Ai PG (Qhj It):=Ap rfl ⟨Qpu,trivial⟩
theorem Ti:Ak PG (131,Ac Qgv Qmq Ep):=rw1 (C:=(Qhj It)) Zmx
def Qir:Sk:=⟨[tf [ci]],[],[]⟩
def Qfl:Sk:=⟨[tf [CS.int .u64]],[],[]⟩
def WS (M:Fn):Nat×Spec:=(132,Ac Qir Qfl M)
def WX:Cfg:=cf []
def Q6x:Fn:=An PG WX 64 132 Qir Qfl
theorem Znu (x0:Int):Q6x [I x0]=
 bif decide (x0<0)then
 some [U (wrap .u64 (wrap .u64 (wrap .i64 (0-wrap .i64 (x0+1)))+1))]
 else
 some [U (wrap .u64 x0)]:=by kernel_rfl
def F2:=Q6x
theorem Zd5:Ai PG (WX):=Ap rfl trivial
theorem Vx:Ak PG (132,Ac Qir Qfl F2):=rw1 (C:=WX) Zd5
def Qh1:Sk:=⟨[tf [ci]],[],[]⟩
def Qjd:Sk:=⟨[tf [CS.bool]],[],[]⟩
def Qj5 (M:Fn):Nat×Spec:=(130,Ac Qh1 Qjd M)
def Qkd:Cfg:=cf []
def QU:Fn:=An PG Qkd 64 130 Qh1 Qjd
theorem Qa8 (x0:Int):QU [I x0]=
 bif x0==0 then
 some [B true]
 else
 bif x0==1 then
 some [B true]
 else
 some [B (x0==2)]:=by kernel_rfl
def FK:=QU
theorem Zg5:Ai PG (Qkd):=Ap rfl trivial
theorem Qjw:Ak PG (130,Ac Qh1 Qjd FK):=rw1 (C:=Qkd) Zg5
def YM:Sk:=⟨[tf [ci],tf [ci],tf [ci],tf [ci]],[],[]⟩
def Qgb:Sk:=⟨[TS.tup [(false,[ci]),(false,[CS.bool])]],[],[]⟩
def KR (M:Fn):Nat×Spec:=(83,Ac YM Qgb M)
def Qk7 (Bc CB C9 FH BE Ch DN:Fn):Cfg:=cf [UH Bc,Qtj CB,W4 C9,Q3s FH,S7 BE,WS Ch,Qj5 DN]
def Qt (Bc CB C9 FH BE Ch DN:Fn):Fn:=An PG (Qk7 Bc CB C9 FH BE Ch DN) 64 83 YM Qgb
abbrev TA (CB:Fn) (x3:Int) (o31:List AC) (Bc:Fn) (h1_0 h1_1:AC):Option (List AC):=
 (CB [I x3,h1_0,B (decide (gA o31 1>0)),h1_1]).bind fun o34=>
 bif bA o34 0 then
 bif wrap .u64 (gA o31 0+1)==0 then
 some [I 0,B false]
 else
 (Bc [U (wrap .u64 (gA o31 0+1)),h1_1]).bind fun o35=>
 some [jA o35 0,B (bA o35 1)]
 else
 (Bc [U (gA o31 0),h1_1]).bind fun o36=>
 some [jA o36 0,B (bA o36 1)]
attribute [go_sem] TA
abbrev Z1 (o31 o30:List AC) (CB:Fn) (x3:Int) (Bc:Fn) (h2_0:AC):Option (List AC):=
 bif decide (gA o31 1>wrap .u64 (gA o30 0-gA o31 1))then
 TA CB x3 o31 Bc (I 1) h2_0
 else
 bif decide (gA o31 1<wrap .u64 (gA o30 0-gA o31 1))then
 TA CB x3 o31 Bc (I (-1)) h2_0
 else
 TA CB x3 o31 Bc (I 0) h2_0
attribute [go_sem] Z1
theorem Ua (Bc CB C9 FH BE Ch DN:Fn) (x0 x1 x2 x3:Int):Qt Bc CB C9 FH BE Ch DN [I x0,I x1,I x2,I x3]=
 bif x2==0 then
 some [I 0,B false]
 else
 (DN [I x3]).bind fun o26=>
 bif !bA o26 0 then
 some [I 0,B false]
 else
 (Ch [I x0]).bind fun o27=>
 (Ch [I x1]).bind fun o28=>
 (BE [U (gA o27 0),U (gA o28 0)]).bind fun o29=>
 (Ch [I x2]).bind fun o30=>
 bif decide (gA o29 0>=gA o30 0)then
 some [I 0,B false]
 else
 (FH [U (gA o29 0),U (gA o29 1),U (gA o30 0)]).bind fun o31=>
 (C9 [I x0,I x1]).bind fun o32=>
 bif !decide (gA o32 0<0)==decide (x2<0)then
 (C9 [I x0,I x1]).bind fun o33=>
 Z1 o31 o30 CB x3 Bc (B (gA o33 0 !=0))
 else
 Z1 o31 o30 CB x3 Bc (B false):=by kernel_rfl
def Bi:=Qt E3 Hw Fz GE Ep F2 FK
theorem Zhz:Ai PG (Qk7 E3 Hw Fz GE Ep F2 FK):=Ap rfl ⟨Xg,Qpe,Qk2,Qrf,Ti,Vx,Qjw,trivial⟩
theorem KG:Ak PG (83,Ac YM Qgb Bi):=rw1 (C:=(Qk7 E3 Hw Fz GE Ep F2 FK)) Zhz
def ZV:Sk:=⟨[TS.v true (cc 9++[CS.sl Aa]),tf [ci]],[],[]⟩
def Qfd:Sk:=⟨[tf [ci]],[],[]⟩
def Zau (M:Fn):Nat×Spec:=(119,Ac ZV Qfd M)
def Qm4 (AI:Fn):Cfg:=cf [KR AI]
def Qy5 (AI:Fn):Fn:=An PG (Qm4 AI) 64 119 ZV Qfd
theorem Zrw (AI:Fn) (x0 x1 x2 x3 x4 x5 x6 x7 x8:Int) (x9:Rw) (x10:Int):Qy5 AI [I x0,I x1,I x2,I x3,I x4,I x5,I x6,I x7,I x8, .view Aa x9,I x10]=
 bif decide (wrap .i64 ((x9.length:Int)-1)<0)then
 some [I 0]
 else
 bif decide (wrap .i64 (x10-x7)<=0)then
 bif decide (0<=0)&&decide (0<(x9.length:Int))then
 some [jA (nth [] x9 0) 0]
 else
 none
 else
 bif decide (x8<=0)then
 bif decide (0<=0)&&decide (0<(x9.length:Int))then
 some [jA (nth [] x9 0) 0]
 else
 none
 else
 bif decide (x8=0)then
 none
 else
 bif decide (wrap .i64 ((wrap .i64 (x10-x7)).tdiv x8)>=wrap .i64 ((x9.length:Int)-1))then
 bif decide (0<=wrap .i64 ((x9.length:Int)-1))&&decide (wrap .i64 ((x9.length:Int)-1)<(x9.length:Int))then
 some [jA (nth [] x9 (wrap .i64 ((x9.length:Int)-1)).toNat) 0]
 else
 none
 else
 bif decide (0<=wrap .i64 (wrap .i64 ((wrap .i64 (x10-x7)).tdiv x8)+1))&&decide (wrap .i64 (wrap .i64 ((wrap .i64 (x10-x7)).tdiv x8)+1)<(x9.length:Int))then
 bif decide (0<=wrap .i64 ((wrap .i64 (x10-x7)).tdiv x8))&&decide (wrap .i64 ((wrap .i64 (x10-x7)).tdiv x8)<(x9.length:Int))then
 (AI [I (wrap .i64 (Af (nth .dead (nth [] x9 (wrap .i64 (wrap .i64 ((wrap .i64 (x10-x7)).tdiv x8)+1)).toNat) 0)-Af (nth .dead (nth [] x9 (wrap .i64 ((wrap .i64 (x10-x7)).tdiv x8)).toNat) 0))),I (wrap .i64 (wrap .i64 (x10-x7)-wrap .i64 (wrap .i64 ((wrap .i64 (x10-x7)).tdiv x8)*x8))),I x8,I 2]).bind fun o1=>
 bif decide (0<=wrap .i64 ((wrap .i64 (x10-x7)).tdiv x8))&&decide (wrap .i64 ((wrap .i64 (x10-x7)).tdiv x8)<(x9.length:Int))then
 some [I (wrap .i64 (Af (nth .dead (nth [] x9 (wrap .i64 ((wrap .i64 (x10-x7)).tdiv x8)).toNat) 0)+gA o1 0))]
 else
 none
 else
 none
 else
 none:=by kernel_rfl
def Kb:=Qy5 Bi
theorem Zue:Ai PG (Qm4 Bi):=Ap rfl ⟨KG,trivial⟩
theorem Zl1:Ak PG (119,Ac ZV Qfd Kb):=rw1 (C:=(Qm4 Bi)) Zue
def Qns:Sk:=⟨[TS.v true (cc 9++[CS.sl Aa]),tf [ci]],[],[]⟩
def X5:Sk:=⟨[tf [ci]],[],[]⟩
def Zpe (M:Fn):Nat×Spec:=(76,Ac Qns X5 M)
def Qed (Nb L2:Fn):Cfg:=cf [Q8p Nb,Zau L2]
def Q7d (Nb L2:Fn):Fn:=An PG (Qed Nb L2) 64 76 Qns X5
theorem Zhs (Nb L2:Fn) (x0 x1 x2 x3 x4 x5 x6 x7 x8:Int) (x9:Rw) (x10:Int):Q7d Nb L2 [I x0,I x1,I x2,I x3,I x4,I x5,I x6,I x7,I x8, .view Aa x9,I x10]=
 (L2 [I x0,I x1,I x2,I x3,I x4,I x5,I x6,I x7,I x8, .view Aa x9,I x10]).bind fun o2=>
 (Nb [I x0,I x1,I x2,I x3,I x4,I x5,I x6,I x7,I x8, .view Aa x9,I (wrap .i64 (x10+gA o2 0))]).bind fun o3=>
 some [jA o3 0]:=by kernel_rfl
def Oq:=Q7d Jo Kb
theorem Q9u:Ai PG (Qed Jo Kb):=Ap rfl ⟨Zxl,Zl1,trivial⟩
theorem Zwz:Ak PG (76,Ac Qns X5 Oq):=rw1 (C:=(Qed Jo Kb)) Q9u
def Qj4:Sk:=⟨[TS.v true ([CS.sl As]++cc 5),tf [ci]],[],[]⟩
def Uc:Sk:=⟨[tf [ci]],[],[]⟩
def Q3z (M:Fn):Nat×Spec:=(75,Ac Qj4 Uc M)
def C_track_find_0:Cfg:=cf []
def Q1z:Sk:=⟨[td,tf [ci],tf [CS.ptr 2 0],td,td,tf [ci],tf [ci]]++dd 29,[(2,62,[CS.sl As]++cc 5)],[]⟩
def Qn9:List (Ex×Sk):=[(Ex.exit 0,⟨dd 6++[tf [ci]]++dd 29,[],[]⟩)]
def RP:Lp:=A4 PG C_track_find_0 64 2 (A3 PG 75 2) Q1z Qn9
def Qxo (N2:Lp):Cfg:=C_track_find_0.loop 2 Q1z Qn9 N2
def Qxa (N2:Lp):Fn:=An PG (Qxo N2) 64 75 Qj4 Uc
theorem V8 (v0 v1 v2:Int) (v3:Rw) (v4 v5 v6 v7 v8:Int):RP [I v0,I v1,I v2, .view As v3,I v4,I v5,I v6,I v7,I v8]=
 bif decide (v1<v2)then
 bif decide (0<=wrap .i64 ((wrap .i64 (v1+v2)).tdiv 2))&&decide (wrap .i64 ((wrap .i64 (v1+v2)).tdiv 2)<(v3.length:Int))then
 bif decide (v0<=wrap .i64 (Af (nth .dead (nth [] v3 (wrap .i64 ((wrap .i64 (v1+v2)).tdiv 2)).toNat) 0)+Af (nth .dead (nth [] v3 (wrap .i64 ((wrap .i64 (v1+v2)).tdiv 2)).toNat) 1)))then
 some (0,[I v0,I v1,I (wrap .i64 ((wrap .i64 (v1+v2)).tdiv 2)), .view As v3,I v4,I v5,I v6,I v7,I v8])
 else
 some (0,[I v0,I (wrap .i64 (wrap .i64 ((wrap .i64 (v1+v2)).tdiv 2)+1)),I v2, .view As v3,I v4,I v5,I v6,I v7,I v8])
 else
 none
 else
 some (1,[I v2]):=by kernel_rfl
theorem Zfw (N2:Lp) (x0:Rw) (x1 x2 x3 x4 x5 x6:Int):Qxa N2 [.view As x0,I x1,I x2,I x3,I x4,I x5,I x6]=
 (N2 [I x6,I 0,I (wrap .i64 ((x0.length:Int)-1)), .view As x0,I x1,I x2,I x3,I x4,I x5]).bind fun o1=>
 bif o1.1.beq 1 then
 some [jA o1.2 0]
 else
 none:=by kernel_rfl
def Ld:=Am (RP)
def II:=Qxa Ld
theorem Qqn:Ai PG (C_track_find_0):=Ap rfl trivial
theorem Qsd:Ak PG (75,Ac Qj4 Uc II):=rw2 (C:=(Qxo Ld)) (fl fb Qqn) Qqn
def Qg1:Sk:=⟨[TS.v true [ci,ci,ci,CS.sl Ag,CS.sl kPt],tf [ci]],[],[]⟩
def YY:Sk:=⟨[TS.tup [(false,[ci]),(false,[ci])]],[],[]⟩
def Qnn (M:Fn):Nat×Spec:=(117,Ac Qg1 YY M)
def C_path_Find_0:Cfg:=cf []
def Qsl:Sk:=⟨[td,tf [ci],tf [CS.ptr 2 0]]++dd 8++[tf [CS.sl Ag],tf [ci],tf [ci]]++dd 24,[(2,58,[ci,ci,ci,CS.sl Ag,CS.sl kPt])],[]⟩
def Quo:List (Ex×Sk):=[(Ex.ret,⟨[td,td,td,td,tf [ci],tf [ci]]++dd 32,[],[]⟩),(Ex.exit 0,⟨[td]++dd 37,[],[]⟩)]
def Tx:Lp:=A4 PG C_path_Find_0 64 3 (A3 PG 117 3) Qsl Quo
def Qrj (N3:Lp):Cfg:=C_path_Find_0.loop 3 Qsl Quo N3
def Q4l (N3:Lp):Fn:=An PG (Qrj N3) 64 117 Qg1 YY
theorem Q4f (v0:Int) (v1:Rw) (v2 v3 v4 v5 v6:Int) (v7 v8:Rw):Tx [I v0, .view Ag v1,I v2,I v3,I v4,I v5,I v6, .view Ag v7, .view kPt v8]=
 bif decide (v3<v2)then
 bif decide (0<=v3)&&decide (v3<(v1.length:Int))then
 bif decide (v0<gA (nth [] v1 v3.toNat) 3)then
 some (1,[I v3,I v0])
 else
 bif v3==wrap .i64 ((v7.length:Int)-1)then
 some (1,[I v3,jA (nth [] v1 v3.toNat) 3])
 else
 some (0,[I (wrap .i64 (v0-gA (nth [] v1 v3.toNat) 3)), .view Ag v1,I v2,I (wrap .i64 (v3+1)),I v4,I v5,I v6, .view Ag v7, .view kPt v8])
 else
 none
 else
 some (2,[]):=by kernel_rfl
theorem Qpi (N3:Lp) (x0 x1 x2:Int) (x3 x4:Rw) (x5:Int):Q4l N3 [I x0,I x1,I x2, .view Ag x3, .view kPt x4,I x5]=
 (N3 [I (mx x5 0), .view Ag x3,I (x3.length:Int),I 0,I x0,I x1,I x2, .view Ag x3, .view kPt x4]).bind fun o1=>
 bif o1.1.beq 1 then
 some [jA o1.2 0,jA o1.2 1]
 else
 bif o1.1.beq 2 then
 some [I (-1),I 0]
 else
 none:=by kernel_rfl
def NQ:=Am (Tx)
def EM:=Q4l NQ
theorem Qv6:Ai PG (C_path_Find_0):=Ap rfl trivial
theorem Yd:Ak PG (117,Ac Qg1 YY EM):=rw2 (C:=(Qrj NQ)) (fl fb Qv6) Qv6
def Qbr:Sk:=⟨[TS.v true [ci,ci,ci,CS.sl Ag,CS.sl kPt],tf [ci]],[],[]⟩
def Qax:Sk:=⟨[TS.v true [ci,ci,ci]],[],[]⟩
def Zcs (M:Fn):Nat×Spec:=(74,Ac Qbr Qax M)
def Qmh (AI Dy:Fn):Cfg:={cf [KR AI,Qnn Dy]with unroll:=[9]}
def Qiy (AI Dy:Fn):Fn:=An PG (Qmh AI Dy) 64 74 Qbr Qax
theorem Za8 (AI Dy:Fn) (x0 x1 x2:Int) (x3 x4:Rw) (x5:Int):Qiy AI Dy [I x0,I x1,I x2, .view Ag x3, .view kPt x4,I x5]=
 (Dy [I x0,I x1,I x2, .view Ag x3, .view kPt x4,I x5]).bind fun o7=>
 bif decide (gA o7 0<0)then
 some [I x0,I x1,I x2]
 else
 bif decide (gA o7 0>0)then
 bif decide (0<=wrap .i64 (gA o7 0-1))&&decide (wrap .i64 (gA o7 0-1)<(x3.length:Int))then
 bif decide (0<=gA o7 0)&&decide (gA o7 0<(x3.length:Int))then
 (AI [I (wrap .i64 (gA (nth [] x3 (gA o7 0).toNat) 0-gA (nth [] x3 (wrap .i64 (gA o7 0-1)).toNat) 0)),jA o7 1,jA (nth [] x3 (gA o7 0).toNat) 3,I 2]).bind fun o8=>
 (AI [I (wrap .i64 (gA (nth [] x3 (gA o7 0).toNat) 1-gA (nth [] x3 (wrap .i64 (gA o7 0-1)).toNat) 1)),jA o7 1,jA (nth [] x3 (gA o7 0).toNat) 3,I 2]).bind fun o9=>
 (AI [I (wrap .i64 (gA (nth [] x3 (gA o7 0).toNat) 2-gA (nth [] x3 (wrap .i64 (gA o7 0-1)).toNat) 2)),jA o7 1,jA (nth [] x3 (gA o7 0).toNat) 3,I 2]).bind fun o10=>
 some [I (wrap .i64 (gA (nth [] x3 (wrap .i64 (gA o7 0-1)).toNat) 0+gA o8 0)),I (wrap .i64 (gA (nth [] x3 (wrap .i64 (gA o7 0-1)).toNat) 1+gA o9 0)),I (wrap .i64 (gA (nth [] x3 (wrap .i64 (gA o7 0-1)).toNat) 2+gA o10 0))]
 else
 none
 else
 none
 else
 bif decide (0<=gA o7 0)&&decide (gA o7 0<(x3.length:Int))then
 (AI [I (wrap .i64 (gA (nth [] x3 (gA o7 0).toNat) 0-x0)),jA o7 1,jA (nth [] x3 (gA o7 0).toNat) 3,I 2]).bind fun o11=>
 (AI [I (wrap .i64 (gA (nth [] x3 (gA o7 0).toNat) 1-x1)),jA o7 1,jA (nth [] x3 (gA o7 0).toNat) 3,I 2]).bind fun o12=>
 (AI [I (wrap .i64 (gA (nth [] x3 (gA o7 0).toNat) 2-x2)),jA o7 1,jA (nth [] x3 (gA o7 0).toNat) 3,I 2]).bind fun o13=>
 some [I (wrap .i64 (x0+gA o11 0)),I (wrap .i64 (x1+gA o12 0)),I (wrap .i64 (x2+gA o13 0))]
 else
 none:=by kernel_rfl
def P9:=Qiy Bi EM
theorem Zhk:Ai PG (Qmh Bi EM):=Ap rfl ⟨KG,Yd,trivial⟩
theorem Zab:Ak PG (74,Ac Qbr Qax P9):=rw1 (C:=(Qmh Bi EM)) Zhk
def ZT:Sk:=⟨[tf [ci],tf [ci]],[],[]⟩
def Qjt:Sk:=⟨[tf [ci]],[],[]⟩
def Wt (M:Fn):Nat×Spec:=(73,Ac ZT Qjt M)
def Qjv:Cfg:=cf []
def Q50:Fn:=An PG Qjv 64 73 ZT Qjt
theorem Q9a (x0 x1:Int):Q50 [I x0,I x1]=
 some [I (mx 0 (mn x0 x1))]:=by kernel_rfl
def G5:=Q50
theorem Z1q:Ai PG (Qjv):=Ap rfl trivial
theorem Qdl:Ak PG (73,Ac ZT Qjt G5):=rw1 (C:=Qjv) Z1q
def Ql0:Sk:=⟨[TS.v true ([CS.sl As]++cc 5),tf [ci]],[],[]⟩
def Qel:Sk:=⟨[tf [ci]],[],[]⟩
def SK (M:Fn):Nat×Spec:=(36,Ac Ql0 Qel M)
def Qi9 (FQ Dx:Fn):Cfg:=cf [Q3z FQ,Wt Dx]
def Qg0 (FQ Dx:Fn):Fn:=An PG (Qi9 FQ Dx) 64 36 Ql0 Qel
theorem Zmj (FQ Dx:Fn) (x0:Rw) (x1 x2 x3 x4 x5 x6:Int):Qg0 FQ Dx [.view As x0,I x1,I x2,I x3,I x4,I x5,I x6]=
 (Dx [I x6,I x1]).bind fun o2=>
 (FQ [.view As x0,I x1,I x2,I x3,I x4,I x5,jA o2 0]).bind fun o3=>
 bif decide (gA o3 0<0)then
 some [I x2]
 else
 bif decide (0<=gA o3 0)&&decide (gA o3 0<(x0.length:Int))then
 bif decide (0<=gA o3 0)&&decide (gA o3 0<(x0.length:Int))then
 bif decide (0<=gA o3 0)&&decide (gA o3 0<(x0.length:Int))then
 some [I (wrap .i64 (gA (nth [] x0 (gA o3 0).toNat) 2+wrap .i64 (gA (nth [] x0 (gA o3 0).toNat) 3*wrap .i64 (gA o2 0-gA (nth [] x0 (gA o3 0).toNat) 0))))]
 else
 none
 else
 none
 else
 none:=by kernel_rfl
def EQ:=Qg0 II G5
theorem Zuj:Ai PG (Qi9 II G5):=Ap rfl ⟨Qsd,Qdl,trivial⟩
theorem TF:Ak PG (36,Ac Ql0 Qel EQ):=rw1 (C:=(Qi9 II G5)) Zuj
def Qca:Sk:=⟨[TS.v true [ci,ci,ci,CS.sl Ag,CS.sl kPt],TS.v true (cc 9++[CS.sl Aa]++cc 9++[CS.sl Aa]++cc 9++[CS.sl Aa]),TS.v true ([CS.sl As]++cc 5),tf [ci]],[],[]⟩
def ZH:Sk:=⟨[TS.v true [ci,ci,ci]],[],[]⟩
def T5 (M:Fn):Nat×Spec:=(29,Ac Qca ZH M)
def Qfq (Fy BJ FI FQ Od B4 Dx:Fn):Cfg:={cf [Z0f Fy,Qt6 BJ,Zpe FI,Q3z FQ,Zcs Od,SK B4,Wt Dx]with unroll:=[6]}
def XW (Fy BJ FI FQ Od B4 Dx:Fn):Fn:=An PG (Qfq Fy BJ FI FQ Od B4 Dx) 64 29 Qca ZH
abbrev Qeg (FI:Fn) (x:Ax3) (o27 o28:List AC) (BJ:Fn) (t:Trk) (h1_0:AC) (Fy:Fn) (o25:List AC) (h2_0:AC):Option (List AC):=
 (FI [I x.c.step,I x.c.speed,I x.c.accel,I x.c.jerk,I x.c.low,I x.c.high,I x.c.back,I x.c.origin,I x.c.spacing, .view Aa (x.c.pitch.map Ao),jA o27 2]).bind fun o33=>
 bif decide (gA o28 0<0)then
 (BJ [I x.c.step,I x.c.speed,I x.c.accel,I x.c.jerk,I x.c.low,I x.c.high,I x.c.back,I x.c.origin,I x.c.spacing, .view Aa (x.c.pitch.map Ao),I t.dirs.z]).bind fun o34=>
 some [h1_0,h2_0,I (wrap .i64 (gA o33 0+gA o34 0))]
 else
 bif decide (0<=gA o28 0)&&decide (gA o28 0<((t.aE.map AL).length:Int))then
 (Fy (I x.c.step::I x.c.speed::I x.c.accel::I x.c.jerk::I x.c.low::I x.c.high::I x.c.back::I x.c.origin::I x.c.spacing:: .view Aa (x.c.pitch.map Ao)::(AJ As (nth [] (t.aE.map AL) (gA o28 0).toNat)++[I (wrap .i64 (wrap .i64 (0+1)+1)),jA o25 0]))).bind fun o35=>
 some [h1_0,h2_0,I (wrap .i64 (gA o33 0+gA o35 0))]
 else
 none
attribute [go_sem] Qeg
abbrev Zg (FI:Fn) (x:Ax3) (o27 o28:List AC) (BJ:Fn) (t:Trk) (Fy:Fn) (o25:List AC) (h1_0:AC):Option (List AC):=
 (FI [I x.b.step,I x.b.speed,I x.b.accel,I x.b.jerk,I x.b.low,I x.b.high,I x.b.back,I x.b.origin,I x.b.spacing, .view Aa (x.b.pitch.map Ao),jA o27 1]).bind fun o31=>
 bif decide (gA o28 0<0)then
 (BJ [I x.b.step,I x.b.speed,I x.b.accel,I x.b.jerk,I x.b.low,I x.b.high,I x.b.back,I x.b.origin,I x.b.spacing, .view Aa (x.b.pitch.map Ao),I t.dirs.y]).bind fun o32=>
 Qeg FI x o27 o28 BJ t h1_0 Fy o25 (I (wrap .i64 (gA o31 0+gA o32 0)))
 else
 bif decide (0<=gA o28 0)&&decide (gA o28 0<((t.aE.map AL).length:Int))then
 (Fy (I x.b.step::I x.b.speed::I x.b.accel::I x.b.jerk::I x.b.low::I x.b.high::I x.b.back::I x.b.origin::I x.b.spacing:: .view Aa (x.b.pitch.map Ao)::(AJ As (nth [] (t.aE.map AL) (gA o28 0).toNat)++[I (wrap .i64 (0+1)),jA o25 0]))).bind fun o36=>
 Qeg FI x o27 o28 BJ t h1_0 Fy o25 (I (wrap .i64 (gA o31 0+gA o36 0)))
 else
 none
attribute [go_sem] Zg
theorem Zfh (Fy BJ FI FQ Od B4 Dx:Fn) (x41:Int) (p:Pth) (x:Ax3) (t:Trk):XW Fy BJ FI FQ Od B4 Dx (pxt p x t [I x41])=
 (Dx [I x41,I t.length]).bind fun o25=>
 (B4 [.view As (t.aE.map AL),I t.length,I t.start,I t.dirs.x,I t.dirs.y,I t.dirs.z,jA o25 0]).bind fun o26=>
 (Od [I p.start.x,I p.start.y,I p.start.z, .view Ag (p.aF.map Ay), .view kPt (p.aD.map At),jA o26 0]).bind fun o27=>
 (FQ [.view As (t.aE.map AL),I t.length,I t.start,I t.dirs.x,I t.dirs.y,I t.dirs.z,jA o25 0]).bind fun o28=>
 (FI [I x.a.step,I x.a.speed,I x.a.accel,I x.a.jerk,I x.a.low,I x.a.high,I x.a.back,I x.a.origin,I x.a.spacing, .view Aa (x.a.pitch.map Ao),jA o27 0]).bind fun o29=>
 bif decide (gA o28 0<0)then
 (BJ [I x.a.step,I x.a.speed,I x.a.accel,I x.a.jerk,I x.a.low,I x.a.high,I x.a.back,I x.a.origin,I x.a.spacing, .view Aa (x.a.pitch.map Ao),I t.dirs.x]).bind fun o30=>
 Zg FI x o27 o28 BJ t Fy o25 (I (wrap .i64 (gA o29 0+gA o30 0)))
 else
 bif decide (0<=gA o28 0)&&decide (gA o28 0<((t.aE.map AL).length:Int))then
 (Fy (I x.a.step::I x.a.speed::I x.a.accel::I x.a.jerk::I x.a.low::I x.a.high::I x.a.back::I x.a.origin::I x.a.spacing:: .view Aa (x.a.pitch.map Ao)::(AJ As (nth [] (t.aE.map AL) (gA o28 0).toNat)++[I 0,jA o25 0]))).bind fun o40=>
 Zg FI x o27 o28 BJ t Fy o25 (I (wrap .i64 (gA o29 0+gA o40 0)))
 else
 none:=by kernel_rfl
def FF:=XW RQ I2 Oq II P9 EQ G5
theorem Zn4:Ai PG (Qfq RQ I2 Oq II P9 EQ G5):=Ap rfl ⟨Zer,Qtl,Zwz,Qsd,Zab,TF,Qdl,trivial⟩
theorem UV:Ak PG (29,Ac Qca ZH FF):=rw1 (C:=(Qfq RQ I2 Oq II P9 EQ G5)) Zn4
def Qdw:Sk:=⟨[tf [ci],TS.v true (cc 13++[CS.bool,ci,CS.bool]++cc 5++[CS.bool])],[],[]⟩
def Uy:Sk:=⟨[tf [ci]],[],[]⟩
def Zg6 (M:Fn):Nat×Spec:=(164,Ac Qdw Uy M)
def ZR:Cfg:=cf []
def Qe4:Fn:=An PG ZR 64 164 Qdw Uy
theorem Zld (x0 x1 x2 x3 x4 x5 x6 x7 x8 x9 x10 x11 x12 x13:Int) (x14:Bool) (x15:Int) (x16:Bool) (x17 x18 x19 x20 x21:Int) (x22:Bool):Qe4 [I x0,I x1,I x2,I x3,I x4,I x5,I x6,I x7,I x8,I x9,I x10,I x11,I x12,I x13,B x14,I x15,B x16,I x17,I x18,I x19,I x20,I x21,B x22]=
 bif x1 !=10 then
 some [I x0]
 else
 bif decide (x20<0)then
 some [I x0]
 else
 bif decide (x20>=16)then
 some [I x0]
 else
 bif decide (wrap .u64 x20<0)then
 none
 else
 bif x22 then
 some [I (wrap .i64 (↑(BitVec.ofInt IntKind.i64.bits x0|||BitVec.ofInt IntKind.i64.bits (wrap .i64 (1*2^min (wrap .u64 x20).toNat IntKind.i64.bits))).toNat:Int))]
 else
 some [I (wrap .i64 (↑(BitVec.ofInt IntKind.i64.bits x0&&& ~~~BitVec.ofInt IntKind.i64.bits (wrap .i64 (1*2^min (wrap .u64 x20).toNat IntKind.i64.bits))).toNat:Int))]:=by kernel_rfl
def JF:=Qe4
theorem Zul:Ai PG (ZR):=Ap rfl trivial
theorem Zwh:Ak PG (164,Ac Qdw Uy JF):=rw1 (C:=ZR) Zul
def Qei:Sk:=⟨[TS.v true [ci,ci,ci],TS.v true [ci,ci,CS.bool,CS.bool,CS.bool]],[],[]⟩
def Y0:Sk:=⟨[tf [CS.bool]],[],[]⟩
def Qy6 (M:Fn):Nat×Spec:=(163,Ac Qei Y0 M)
def Qgm:Cfg:=cf []
def Qhb:Fn:=An PG Qgm 64 163 Qei Y0
theorem Zit (x0 x1 x2 x3 x4:Int) (x5 x6 x7:Bool):Qhb [I x0,I x1,I x2,I x3,I x4,B x5,B x6,B x7]=
 bif x1==1 then
 some [B true]
 else
 bif x1==3 then
 some [B true]
 else
 bif x1==6 then
 some [B true]
 else
 bif x1==4 then
 bif x7 then
 some [B true]
 else
 some [B x6]
 else
 bif x1==2 then
 some [B x6]
 else
 some [B false]:=by kernel_rfl
def Ih:=Qhb
theorem Z09:Ai PG (Qgm):=Ap rfl trivial
theorem Q08:Ak PG (163,Ac Qei Y0 Ih):=rw1 (C:=Qgm) Z09
def Uz:Sk:=⟨[tf [CS.ptr 20000 0],tf [ci]],[(20000,119,cS)],[]⟩
def Xi:Sk:=⟨[tf [CS.sl Aa]],[(20000,119,cS)],[]⟩
def Zhg (M:Fn):Nat×Spec:=(111,Ac Uz Xi M)
def UY (E0 CW:Fn):Cfg:={cf [Zg6 E0,Qy6 CW]with prom:=fun b=>bif Nat.beq b 2 then [(5,3)]else []}
def Qrs:Sk:=⟨[tf [CS.ptr 20000 0],tf [ci],td,td,td,tf [CS.own 5 1]]++dd 84,[(20000,119,cS)],[(5,3,Aa)]⟩
def Qqd:List (Ex×Sk):=[(Ex.exit 0,⟨[td,td,td,td,td,tf [CS.own 5 1]]++dd 84,[(20000,119,cS)],[(5,3,Aa)]⟩)]
def R7 (E0 CW:Fn):Lp:=A4 PG (UY E0 CW) 64 2 (A3 PG 111 2) Qrs Qqd
def Qsg (E0 CW:Fn) (N2:Lp):Cfg:=(UY E0 CW).loop 2 Qrs Qqd N2
def Qeu (E0 CW:Fn) (N2:Lp):Fn:=An PG (Qsg E0 CW N2) 64 111 Uz Xi
abbrev Oz (K:Kf) (c:Cv) (v0:Rw) (E0:Fn) (v1:Int):Option (Nat×List AC):=
 bif gA (nth [] (K.p.aD.map At) c.aK.toNat) 1==5 then
 bif((v0++[[jA (nth [] (K.p.aD.map At) c.aK.toNat) 2]]).length*8).ble 140737488355328 then
 bif decide (0<=gA (nth [] (K.p.aD.map At) c.aK.toNat) 2)&&decide (gA (nth [] (K.p.aD.map At) c.aK.toNat) 2<((K.aA.map Ah).length:Int))then
 (E0 (I c.outs::AJ Al (nth [] (K.aA.map Ah) (gA (nth [] (K.p.aD.map At) c.aK.toNat) 2).toNat))).bind fun o10=>
 some (0,(.view Aa (v0++[[jA (nth [] (K.p.aD.map At) c.aK.toNat) 2]])::I v1::Ad K {c with outs:=gA o10 0,aK:=wrap .i64 (c.aK+1)}))
 else
 none
 else
 none
 else
 some (0,(.view Aa v0::I v1::Ad K {c with aK:=wrap .i64 (c.aK+1)}))
attribute [go_sem] Oz
theorem Zr2 (E0 CW:Fn) (v0:Rw) (v1:Int) (K:Kf) (c:Cv):R7 E0 CW (.view Aa v0::I v1::Ad K c)=
 bif decide (c.aK<((K.p.aD.map At).length:Int))then
 bif decide (0<=c.aK)&&decide (c.aK<((K.p.aD.map At).length:Int))then
 bif decide (gA (nth [] (K.p.aD.map At) c.aK.toNat) 0>v1)then
 some (1,(.view Aa v0::Ad K c))
 else
 bif gA (nth [] (K.p.aD.map At) c.aK.toNat) 0==v1 then
 bif decide (c.aK>=c.next)then
 (CW [jA (nth [] (K.p.aD.map At) c.aK.toNat) 0,jA (nth [] (K.p.aD.map At) c.aK.toNat) 1,jA (nth [] (K.p.aD.map At) c.aK.toNat) 2,I c.o0,I c.o1,B c.o2,B c.o3,B c.o4]).bind fun o9=>
 bif bA o9 0 then
 some (1,(.view Aa v0::Ad K c))
 else
 Oz K c v0 E0 v1
 else
 Oz K c v0 E0 v1
 else
 Oz K c v0 E0 v1
 else
 none
 else
 some (1,(.view Aa v0::Ad K c)):=by kernel_rfl
theorem Zok (E0 CW:Fn) (N2:Lp) (x0:Int) (K:Kf) (c:Cv):Qeu E0 CW N2 (I x0::Ad K c)=
 (N2 (.view Aa []::I x0::Ad K c)).bind fun o13=>
 bif o13.1.beq 1 then
 some (.view Aa (wA o13.2 0)::cR 1 o13.2)
 else
 none:=by kernel_rfl
def Qr1:=Am (R7 JF Ih)
def PB:=Qeu JF Ih Qr1
theorem Qzm:Ai PG (UY JF Ih):=Ap rfl ⟨Zwh,Q08,trivial⟩
theorem Zvs:Ak PG (111,Ac Uz Xi PB):=rw2 (C:=(Qsg JF Ih Qr1)) (fl fb Qzm) Qzm
def Wh:Sk:=⟨[TS.v true [ci,ci,ci,CS.sl Ag,CS.sl kPt],TS.v true (cc 9++[CS.sl Aa]++cc 9++[CS.sl Aa]++cc 9++[CS.sl Aa]),TS.v true ([CS.sl As]++cc 5),tf [ci],tf [ci]],[],[]⟩
def Qgn:Sk:=⟨[tf [CS.sl kPt]],[],[]⟩
def Zya (M:Fn):Nat×Spec:=(25,Ac Wh Qgn M)
def VS (Bv:Fn):Cfg:={cf [T5 Bv]with prom:=fun b=>bif Nat.beq b 5 then [(11,130)]else [],unroll:=[9]}
def Q7k:Sk:=⟨[td,td,td,td,tf [ci],tf [CS.ptr 5 0],tf [CS.ptr 6 0],tf [CS.ptr 7 0],td,td,td,tf [CS.own 11 3],tf [CS.ptr 12 0],tf [ci]]++dd 54,[(5,58,[ci,ci,ci,CS.sl Ag,CS.sl kPt]),(6,27,cc 9++[CS.sl Aa]++cc 9++[CS.sl Aa]++cc 9++[CS.sl Aa]),(7,62,[CS.sl As]++cc 5),(12,44,[ci,ci,ci])],[(11,130,kPt)]⟩
def Q42:List (Ex×Sk):=[(Ex.exit 0,⟨dd 11++[tf [CS.own 11 3]]++dd 56,[],[(11,130,kPt)]⟩)]
def Zd (Bv:Fn):Lp:=A4 PG (VS Bv) 64 5 (A3 PG 25 5) Q7k Q42
def Q3j (Bv:Fn) (N5:Lp):Cfg:=(VS Bv).loop 5 Q7k Q42 N5
def Y7 (Bv:Fn) (N5:Lp):Fn:=An PG (Q3j Bv N5) 64 25 Wh Qgn
abbrev Mz (o6:List AC) (v46 v1 v2:Int) (p:Pth) (x:Ax3) (t:Trk) (h1_0:Bool) (h1_1 h1_2:AC):Option (Nat×List AC):=
 bif gA o6 2 !=v46 then
 bif h1_0 then
 some (0,(h1_1::I v1::I (wrap .i64 (v2+1))::pxt p x t [jA o6 0,jA o6 1,jA o6 2]))
 else
 none
 else
 some (0,(h1_2::I v1::I (wrap .i64 (v2+1))::pxt p x t [jA o6 0,jA o6 1,jA o6 2]))
attribute [go_sem] Mz
theorem Zzg (Bv:Fn) (v0:Rw) (v1 v2:Int) (v44 v45 v46:Int) (p:Pth) (x:Ax3) (t:Trk):Zd Bv (.view kPt v0::I v1::I v2::pxt p x t [I v44,I v45,I v46])=
 bif decide (v2<v1)then
 (Bv (pxt p x t [I (wrap .i64 (v2+1))])).bind fun o6=>
 bif gA o6 0 !=v44 then
 bif((v0++[[I (wrap .i64 (v2+1)),I 0,I (wrap .i64 (gA o6 0-v44))]]).length*24).ble 140737488355328 then
 bif gA o6 1 !=v45 then
 bif((v0++[[I (wrap .i64 (v2+1)),I 0,I (wrap .i64 (gA o6 0-v44))]]++[[I (wrap .i64 (v2+1)),I (wrap .i64 (0+1)),I (wrap .i64 (gA o6 1-v45))]]).length*24).ble 140737488355328 then
 Mz o6 v46 v1 v2 p x t (((v0++[[I (wrap .i64 (v2+1)),I 0,I (wrap .i64 (gA o6 0-v44))]]++[[I (wrap .i64 (v2+1)),I (wrap .i64 (0+1)),I (wrap .i64 (gA o6 1-v45))]]++[[I (wrap .i64 (v2+1)),I (wrap .i64 (wrap .i64 (0+1)+1)),I (wrap .i64 (gA o6 2-v46))]]).length*24).ble 140737488355328) (.view kPt (v0++[[I (wrap .i64 (v2+1)),I 0,I (wrap .i64 (gA o6 0-v44))]]++[[I (wrap .i64 (v2+1)),I (wrap .i64 (0+1)),I (wrap .i64 (gA o6 1-v45))]]++[[I (wrap .i64 (v2+1)),I (wrap .i64 (wrap .i64 (0+1)+1)),I (wrap .i64 (gA o6 2-v46))]])) (.view kPt (v0++[[I (wrap .i64 (v2+1)),I 0,I (wrap .i64 (gA o6 0-v44))]]++[[I (wrap .i64 (v2+1)),I (wrap .i64 (0+1)),I (wrap .i64 (gA o6 1-v45))]]))
 else
 none
 else
 Mz o6 v46 v1 v2 p x t (((v0++[[I (wrap .i64 (v2+1)),I 0,I (wrap .i64 (gA o6 0-v44))]]++[[I (wrap .i64 (v2+1)),I (wrap .i64 (wrap .i64 (0+1)+1)),I (wrap .i64 (gA o6 2-v46))]]).length*24).ble 140737488355328) (.view kPt (v0++[[I (wrap .i64 (v2+1)),I 0,I (wrap .i64 (gA o6 0-v44))]]++[[I (wrap .i64 (v2+1)),I (wrap .i64 (wrap .i64 (0+1)+1)),I (wrap .i64 (gA o6 2-v46))]])) (.view kPt (v0++[[I (wrap .i64 (v2+1)),I 0,I (wrap .i64 (gA o6 0-v44))]]))
 else
 none
 else
 bif gA o6 1 !=v45 then
 bif((v0++[[I (wrap .i64 (v2+1)),I (wrap .i64 (0+1)),I (wrap .i64 (gA o6 1-v45))]]).length*24).ble 140737488355328 then
 Mz o6 v46 v1 v2 p x t (((v0++[[I (wrap .i64 (v2+1)),I (wrap .i64 (0+1)),I (wrap .i64 (gA o6 1-v45))]]++[[I (wrap .i64 (v2+1)),I (wrap .i64 (wrap .i64 (0+1)+1)),I (wrap .i64 (gA o6 2-v46))]]).length*24).ble 140737488355328) (.view kPt (v0++[[I (wrap .i64 (v2+1)),I (wrap .i64 (0+1)),I (wrap .i64 (gA o6 1-v45))]]++[[I (wrap .i64 (v2+1)),I (wrap .i64 (wrap .i64 (0+1)+1)),I (wrap .i64 (gA o6 2-v46))]])) (.view kPt (v0++[[I (wrap .i64 (v2+1)),I (wrap .i64 (0+1)),I (wrap .i64 (gA o6 1-v45))]]))
 else
 none
 else
 Mz o6 v46 v1 v2 p x t (((v0++[[I (wrap .i64 (v2+1)),I (wrap .i64 (wrap .i64 (0+1)+1)),I (wrap .i64 (gA o6 2-v46))]]).length*24).ble 140737488355328) (.view kPt (v0++[[I (wrap .i64 (v2+1)),I (wrap .i64 (wrap .i64 (0+1)+1)),I (wrap .i64 (gA o6 2-v46))]])) (.view kPt v0)
 else
 some (1,[.view kPt v0]):=by kernel_rfl
theorem Zrr (Bv:Fn) (N5:Lp) (x41 x42:Int) (p:Pth) (x:Ax3) (t:Trk):Y7 Bv N5 (pxt p x t [I x41,I x42])=
 (Bv (pxt p x t [I (mx 0 (mn x41 t.length))])).bind fun o7=>
 (N5 (.view kPt []::I (mx 0 (mn x42 t.length))::I (mx 0 (mn x41 t.length))::pxt p x t [jA o7 0,jA o7 1,jA o7 2])).bind fun o8=>
 bif o8.1.beq 1 then
 some [.view kPt (wA o8.2 0)]
 else
 none:=by kernel_rfl
def Qzy:=Am (Zd FF)
def KA:=Y7 FF Qzy
theorem Qva:Ai PG (VS FF):=Ap rfl ⟨UV,trivial⟩
theorem Zbg:Ak PG (25,Ac Wh Qgn KA):=rw2 (C:=(Q3j FF Qzy)) (fl fb Qva) Qva
def US:Sk:=⟨[tf [CS.ptr 20000 0]],[(20000,119,cS)],[]⟩
def Qbt:Sk:=⟨[tf [ci]],[],[]⟩
def RU (M:Fn):Nat×Spec:=(63,EZ US Qbt M)
def PZ:Cfg:=cf []
def V2:Fn:=Nc PG PZ 64 63 US Qbt
theorem Q78 (K:Kf) (c:Cv):V2 (Ad K c)=
 some [I (wrap .i64 (c.m0.tdiv 256))]:=by kernel_rfl
def D6:=V2
theorem Ztk:Ai PG (PZ):=Ap rfl trivial
theorem Zgn (vars:List AC) (R:Type) (K:TV->Mem->Option R):Fb PG PZ 64 63 [TV.v false [AC.ptr 20000 0]] ⟨[(20000,(⟨119,(cR 0 vars)⟩:Box))],[]⟩ K=Fb PG PZ 64 63 [TV.v false [AC.ptr 20000 0]] ⟨[(20000,(⟨119,(cR 0 vars)⟩:Box))],[]⟩ (fun v _=>K v ⟨[(20000,(⟨119,(cR 0 vars)⟩:Box))],[]⟩):=Eq.trans (b:=(K (TV.v false [I (wrap .i64 ((gA vars 50).tdiv 256))]) ⟨[(20000,(⟨119,(cR 0 vars)⟩:Box))],[]⟩)) (by kernel_rfl) (Eq.symm (by kernel_rfl))
theorem QX:Ak PG (63,EZ US Qbt D6):=RA (C:=PZ) (L:=64) (by kernel_rfl) (FnOK.bare rfl rfl rfl) Ztk eqOk Ii (by kernel_rfl) (by kernel_rfl) (fun vars R K=>Zgn vars R K)
def Y5:Sk:=⟨[tf [CS.ptr 20000 0]],[(20000,119,cS)],[]⟩
def Yi:Sk:=⟨[tf [ci]],[],[]⟩
def Rt (M:Fn):Nat×Spec:=(110,EZ Y5 Yi M)
def Pf (B4 A_:Fn):Cfg:=cr [SK B4,RU A_] [63] [63]
def Xd (B4 A_:Fn):Fn:=Nc PG (Pf B4 A_) 64 110 Y5 Yi
theorem Zkg (B4 A_:Fn) (K:Kf) (c:Cv):Xd B4 A_ (Ad K c)=
 (A_ (Ad K c)).bind fun o2=>
 (B4 (Bo K.t++[jA o2 0])).bind fun o3=>
 some [jA o3 0]:=by kernel_rfl
def EF:=Xd EQ D6
theorem Zh3:Ai PG (Pf EQ D6):=IC (rs:=[63]) rfl ⟨TF,QX,trivial⟩ rfl (CZ rfl (Hh I9))
theorem Zzq (vars : List AC) (R : Type) (K : TV -> Mem -> Option R) : Fb PG (Pf EQ D6) 64 110 [TV.v false [AC.ptr 20000 0]] ⟨[(20000, (⟨119, (cR 0 vars)⟩ : Box))], []⟩ K = Fb PG (Pf EQ D6) 64 110 [TV.v false [AC.ptr 20000 0]] ⟨[(20000, (⟨119, (cR 0 vars)⟩ : Box))], []⟩ (fun v _ => K v ⟨[(20000, (⟨119, (cR 0 vars)⟩ : Box))], []⟩) := Eq.trans (b := ((D6 (cR 0 vars)).bind fun o2 =>
 (EQ [.view As (wA vars 44),jA vars 45,jA vars 46,jA vars 47,jA vars 48,jA vars 49,jA o2 0]).bind fun o3=>
 K (TV.v false [jA o3 0]) ⟨[(20000,(⟨119,(cR 0 vars)⟩:Box))],[]⟩)) (by kernel_rfl) (Eq.symm (by kernel_rfl))
theorem S9:Ak PG (110,EZ Y5 Yi EF):=RA (C:=(Pf EQ D6)) (L:=64) (by kernel_rfl) (FnOK.bare rfl rfl rfl) Zh3 eqOk Ii (by kernel_rfl) (by kernel_rfl) (fun vars R K=>Zzq vars R K)
def Ur:Sk:=⟨[tf [CS.ptr 20000 0],tf [CS.ptr 20001 0],tf [ci]],[(20000,119,cS),(20001,46,[CS.sl kPt,CS.sl Aa]++cc 7)],[]⟩
def Uj:Sk:=⟨[TS.tup []],[(20000,119,cS),(20001,46,[CS.sl kPt,CS.sl Aa]++cc 7)],[]⟩
def Zcr (M:Fn):Nat×Spec:=(71,Ac Ur Uj M)
def Qi3 (Bv Jj L4 B8 A_:Fn):Cfg:=cr [T5 Bv,Zhg Jj,Zya L4,Rt B8,RU A_] [111,110,63] [110,63]
def Qa9 (Bv Jj L4 B8 A_:Fn):Fn:=An PG (Qi3 Bv Jj L4 B8 A_) 64 71 Ur Uj
abbrev Wx (c:Cv) (Jj:Fn) (o10:List AC) (K:Kf) (Bv:Fn) (o9:List AC) (x93:Int) (x92:Rw) (h1_0:AC):Option (List AC):=
 bif c.way==0 then
 (Jj (jA o10 0::Ad K c)).bind fun o12=>
 (Bv [jA o12 38,jA o12 39,jA o12 40, .view Ag (wA o12 41), .view kPt (wA o12 42),jA o12 1,jA o12 2,jA o12 3,jA o12 4,jA o12 5,jA o12 6,jA o12 7,jA o12 8,jA o12 9, .view Aa (wA o12 10),jA o12 11,jA o12 12,jA o12 13,jA o12 14,jA o12 15,jA o12 16,jA o12 17,jA o12 18,jA o12 19, .view Aa (wA o12 20),jA o12 21,jA o12 22,jA o12 23,jA o12 24,jA o12 25,jA o12 26,jA o12 27,jA o12 28,jA o12 29, .view Aa (wA o12 30), .view As (wA o12 45),jA o12 46,jA o12 47,jA o12 48,jA o12 49,jA o12 50,jA o9 0]).bind fun o13=>
 some (cR 1 o12++[h1_0, .view Aa (wA o12 0),I x93,jA o10 0,jA o13 0,jA o13 1,jA o13 2,jA o12 68,jA o12 63])
 else
 (Bv (pxt K.p K.x K.t [jA o9 0])).bind fun o14=>
 some (Ad K c++[h1_0, .view Aa x92,I x93,jA o10 0,jA o14 0,jA o14 1,jA o14 2,I c.s3,I c.g1])
attribute [go_sem] Wx
theorem Zbi (Bv Jj L4 B8 A_:Fn) (x0:Int) (x91 x92:Rw) (x93 x94 x95 x96 x97 x98 x99:Int) (K:Kf) (c:Cv):Qa9 Bv Jj L4 B8 A_ (I x0::(Ad K c++[.view kPt x91, .view Aa x92,I x93,I x94,I x95,I x96,I x97,I x98,I x99]))=
 (A_ (Ad K c)).bind fun o9=>
 (B8 (Ad K c)).bind fun o10=>
 bif !c.aL then
 (L4 (pxt K.p K.x K.t [I x0,jA o9 0])).bind fun o11=>
 Wx c Jj o10 K Bv o9 x93 x92 (.view kPt (wA o11 0))
 else
 Wx c Jj o10 K Bv o9 x93 x92 (.view kPt x91):=by kernel_rfl
def KQ:=Qa9 FF PB KA EF D6
theorem Zcf:Ai PG (Qi3 FF PB KA EF D6):=IC (rs:=[110,63]) rfl ⟨UV,Zvs,Zbg,S9,QX,trivial⟩ rfl (CZ rfl (CZ rfl (CZ rfl (Hh (Hh I9)))))
theorem Zo9:Ak PG (71,Ac Ur Uj KQ):=rw1 (C:=(Qi3 FF PB KA EF D6)) Zcf
def Ul:Sk:=⟨[tf [CS.ptr 20000 0]],[(20000,119,cS)],[]⟩
def Za:Sk:=⟨[TS.tup []],[(20000,119,cS)],[]⟩
def Qao (M:Fn):Nat×Spec:=(108,Ac Ul Za M)
def Qhz:Cfg:=cf []
def Qmy:Fn:=An PG Qhz 64 108 Ul Za
theorem Zjy (K:Kf) (c:Cv):Qmy (Ad K c)=
 bif c.g0==0 then
 some (Ad K {c with o2:=true,g0:=1,g1:=18,g2:= -1})
 else
 some (Ad K c):=by kernel_rfl
def GT:=Qmy
theorem Zg2:Ai PG (Qhz):=Ap rfl trivial
theorem Zm:Ak PG (108,Ac Ul Za GT):=rw1 (C:=Qhz) Zg2
def Z3:Sk:=⟨[TS.v true [ci,ci,ci],tf [ci]],[],[]⟩
def XI:Sk:=⟨[tf [ci]],[],[]⟩
def Qpz (M:Fn):Nat×Spec:=(174,Ac Z3 XI M)
def WC:Cfg:=cf []
def QY:Fn:=An PG WC 64 174 Z3 XI
theorem Qiu (x0 x1 x2 x3:Int):QY [I x0,I x1,I x2,I x3]=
 bif decide (x3<=0)then
 some [I 0]
 else
 bif decide (x1<=0)then
 some [I 0]
 else
 bif decide (x1=0)then
 none
 else
 some [I (wrap .i64 (wrap .i64 (wrap .i64 ((wrap .i64 (x3-1)).tdiv x1)*x3)-wrap .i64 (x1*wrap .i64 ((wrap .i64 (wrap .i64 ((wrap .i64 (x3-1)).tdiv x1)*wrap .i64 (wrap .i64 ((wrap .i64 (x3-1)).tdiv x1)+1))).tdiv 2))))]:=by kernel_rfl
def G4:=QY
theorem Q9l:Ai PG (WC):=Ap rfl trivial
theorem Qov:Ak PG (174,Ac Z3 XI G4):=rw1 (C:=WC) Q9l
def Qc6:Sk:=⟨[TS.v true [ci,ci,ci]],[],[]⟩
def Qh7:Sk:=⟨[tf [CS.bool]],[],[]⟩
def Vy (M:Fn):Nat×Spec:=(87,Ac Qc6 Qh7 M)
def Qda:Cfg:=cf []
def Q5l:Fn:=An PG Qda 64 87 Qc6 Qh7
theorem Q9o (x0 x1 x2:Int):Q5l [I x0,I x1,I x2]=
 bif decide (1<=x0)then
 bif decide (x0<=65536)then
 bif decide (2<=x1)then
 bif decide (x1<=65536)then
 bif decide (1<=x2)then
 some [B (decide (x2<=16777216))]
 else
 some [B false]
 else
 some [B false]
 else
 some [B false]
 else
 some [B false]
 else
 some [B false]:=by kernel_rfl
def EV:=Q5l
theorem Znw:Ai PG (Qda):=Ap rfl trivial
theorem Qmd:Ak PG (87,Ac Qc6 Qh7 EV):=rw1 (C:=Qda) Znw
def Qh4:Sk:=⟨[TS.v true [ci,ci,ci],tf [ci],tf [ci]],[],[]⟩
def Vf:Sk:=⟨[tf [ci]],[],[]⟩
def Qck (M:Fn):Nat×Spec:=(129,Ac Qh4 Vf M)
def Qng (Dl BS:Fn):Cfg:=cf [Qpz Dl,Vy BS]
def Q12:Sk:=⟨[td,tf [ci],td,tf [CS.ptr 3 0],td,td,td,tf [ci],tf [ci]]++dd 49,[(3,29,[ci,ci,ci])],[]⟩
def Qu7:List (Ex×Sk):=[(Ex.exit 0,⟨dd 7++[tf [ci]]++dd 50,[],[]⟩)]
def LL (Dl BS:Fn):Lp:=A4 PG (Qng Dl BS) 64 4 (A3 PG 129 4) Q12 Qu7
def Qv2 (Dl BS:Fn) (N4:Lp):Cfg:=(Qng Dl BS).loop 4 Q12 Qu7 N4
def R8 (Dl BS:Fn) (N4:Lp):Fn:=An PG (Qv2 Dl BS N4) 64 129 Qh4 Vf
theorem UL (Dl BS:Fn) (v0 v1 v2 v3 v4 v5:Int):LL Dl BS [I v0,I v1,I v2,I v3,I v4,I v5]=
 bif decide (v1<v2)then
 (Dl [I v3,I v4,I v5,I (wrap .i64 (v2-wrap .i64 ((wrap .i64 (v2-v1)).tdiv 2)))]).bind fun o4=>
 bif decide (wrap .i64 (v0-wrap .i64 (v2-wrap .i64 ((wrap .i64 (v2-v1)).tdiv 2)))>=gA o4 0)then
 some (0,[I v0,I (wrap .i64 (v2-wrap .i64 ((wrap .i64 (v2-v1)).tdiv 2))),I v2,I v3,I v4,I v5])
 else
 some (0,[I v0,I v1,I (wrap .i64 (wrap .i64 (v2-wrap .i64 ((wrap .i64 (v2-v1)).tdiv 2))-1)),I v3,I v4,I v5])
 else
 some (1,[I v1]):=by kernel_rfl
theorem Qoy (Dl BS:Fn) (N4:Lp) (x0 x1 x2 x3 x4:Int):R8 Dl BS N4 [I x0,I x1,I x2,I x3,I x4]=
 (BS [I x0,I x1,I x2]).bind fun o5=>
 bif !bA o5 0 then
 some [I 0]
 else
 bif decide (mx x4 x3>1099511627776)then
 some [I 0]
 else
 bif decide (mn x4 x3< -1099511627776)then
 some [I 0]
 else
 (N4 [I x3,I (wrap .i64 (wrap .i64 (0-x4)-x1)),I (mn (wrap .i64 (x1-x4)) x0),I x0,I x1,I x2]).bind fun o6=>
 bif o6.1.beq 1 then
 some [I (wrap .i64 (0-gA o6.2 0))]
 else
 none:=by kernel_rfl
def Qxy:=Am (LL G4 EV)
def Fp:=R8 G4 EV Qxy
theorem Qum:Ai PG (Qng G4 EV):=Ap rfl ⟨Qov,Qmd,trivial⟩
theorem Qfo:Ak PG (129,Ac Qh4 Vf Fp):=rw2 (C:=(Qv2 G4 EV Qxy)) (fl fb Qum) Qum
def Z4:Sk:=⟨[tf [CS.sl Aa],tf [ci]],[],[]⟩
def YI:Sk:=⟨[tf [CS.bool]],[],[]⟩
def Z1g (M:Fn):Nat×Spec:=(121,Ac Z4 YI M)
def C_limits_bounded_0:Cfg:=cf []
def Qp3:Sk:=⟨[td,tf [ci],td,td,td,td,td,tf [CS.sl Aa],tf [ci],tf [ci]]++dd 13,[],[]⟩
def Q4o:List (Ex×Sk):=[(Ex.ret,⟨[td,td,td,td,tf [CS.bool]]++dd 18,[],[]⟩),(Ex.exit 0,⟨[td]++dd 22,[],[]⟩)]
def Qfy:Lp:=A4 PG C_limits_bounded_0 64 2 (A3 PG 121 2) Qp3 Q4o
def Qy1 (N2:Lp):Cfg:=C_limits_bounded_0.loop 2 Qp3 Q4o N2
def Qdb (N2:Lp):Fn:=An PG (Qy1 N2) 64 121 Z4 YI
theorem Z1f (v0:Int) (v1:Rw) (v2 v3:Int):Qfy [I v0, .view Aa v1,I v2,I v3]=
 bif decide (v3<v2)then
 bif decide (0<=v3)&&decide (v3<(v1.length:Int))then
 bif decide (gA (nth [] v1 v3.toNat) 0>v0)then
 some (1,[B false])
 else
 bif decide (gA (nth [] v1 v3.toNat) 0<wrap .i64 (0-v0))then
 some (1,[B false])
 else
 some (0,[I v0, .view Aa v1,I v2,I (wrap .i64 (v3+1))])
 else
 none
 else
 some (2,[]):=by kernel_rfl
theorem Za7 (N2:Lp) (x0:Rw) (x1:Int):Qdb N2 [.view Aa x0,I x1]=
 (N2 [I x1, .view Aa x0,I (x0.length:Int),I 0]).bind fun o1=>
 bif o1.1.beq 1 then
 some [B (bA o1.2 0)]
 else
 bif o1.1.beq 2 then
 some [B true]
 else
 none:=by kernel_rfl
def Qt7:=Am (Qfy)
def Pq:=Qdb Qt7
theorem Qxt:Ai PG (C_limits_bounded_0):=Ap rfl trivial
theorem Zdm:Ak PG (121,Ac Z4 YI Pq):=rw2 (C:=(Qy1 Qt7)) (fl fb Qxt) Qxt
def Qce:Sk:=⟨[tf [CS.sl Aa]],[],[]⟩
def U8:Sk:=⟨[tf [CS.sl Aa]],[],[]⟩
def Zjs (M:Fn):Nat×Spec:=(120,Ac Qce U8 M)
def C_limits_Differences_0:Cfg:={cf []with prom:=fun b=>bif Nat.beq b 3 then [(3,3)]else []}
def Qq4:Sk:=⟨[tf [CS.sl Aa],td,td,tf [CS.own 3 1],tf [ci]]++dd 20,[],[(3,3,Aa)]⟩
def Qt0:List (Ex×Sk):=[(Ex.exit 0,⟨[td,td,td,tf [CS.own 3 1]]++dd 21,[],[(3,3,Aa)]⟩)]
def Qgp:Lp:=A4 PG C_limits_Differences_0 64 3 (A3 PG 120 3) Qq4 Qt0
def Qvx (N3:Lp):Cfg:=C_limits_Differences_0.loop 3 Qq4 Qt0 N3
def ZW (N3:Lp):Fn:=An PG (Qvx N3) 64 120 Qce U8
theorem Zwc (v0 v1:Rw) (v2:Int):Qgp [.view Aa v0, .view Aa v1,I v2]=
 bif decide (v2<(v1.length:Int))then
 bif decide (0<=v2)&&decide (v2<(v1.length:Int))then
 bif decide (0<=wrap .i64 (v2-1))&&decide (wrap .i64 (v2-1)<(v1.length:Int))then
 bif((v0++[[I (wrap .i64 (gA (nth [] v1 v2.toNat) 0-gA (nth [] v1 (wrap .i64 (v2-1)).toNat) 0))]]).length*8).ble 140737488355328 then
 some (0,[.view Aa (v0++[[I (wrap .i64 (gA (nth [] v1 v2.toNat) 0-gA (nth [] v1 (wrap .i64 (v2-1)).toNat) 0))]]), .view Aa v1,I (wrap .i64 (v2+1))])
 else
 none
 else
 none
 else
 none
 else
 some (1,[.view Aa v0]):=by kernel_rfl
theorem Zxw (N3:Lp) (x0:Rw):ZW N3 [.view Aa x0]=
 (N3 [.view Aa [], .view Aa x0,I 1]).bind fun o1=>
 bif o1.1.beq 1 then
 some [.view Aa (wA o1.2 0)]
 else
 none:=by kernel_rfl
def Qxb:=Am (Qgp)
def OR:=ZW Qxb
theorem Qus:Ai PG (C_limits_Differences_0):=Ap rfl trivial
theorem Zfl:Ak PG (120,Ac Qce U8 OR):=rw2 (C:=(Qvx Qxb)) (fl fb Qus) Qus
def Qko:Sk:=⟨[TS.v true (cc 9++[CS.sl Aa]),tf [CS.sl Aa]],[],[]⟩
def Qlo:Sk:=⟨[tf [CS.bool]],[],[]⟩
def Znp (M:Fn):Nat×Spec:=(79,Ac Qko Qlo M)
def Qdz (Jt JZ:Fn):Cfg:={cf [Z1g Jt,Zjs JZ]with unroll:=[2]}
def Ym (Jt JZ:Fn):Fn:=An PG (Qdz Jt JZ) 64 79 Qko Qlo
theorem Znc (Jt JZ:Fn) (x0 x1 x2 x3 x4 x5 x6 x7 x8:Int) (x9 x10:Rw):Ym Jt JZ [I x0,I x1,I x2,I x3,I x4,I x5,I x6,I x7,I x8, .view Aa x9, .view Aa x10]=
 (JZ [.view Aa x10]).bind fun o6=>
 (Jt [.view Aa (wA o6 0),I x1]).bind fun o7=>
 bif !bA o7 0 then
 some [B false]
 else
 (JZ [.view Aa (wA o6 0)]).bind fun o8=>
 (Jt [.view Aa (wA o8 0),I x2]).bind fun o9=>
 bif !bA o9 0 then
 some [B false]
 else
 (JZ [.view Aa (wA o8 0)]).bind fun o10=>
 (Jt [.view Aa (wA o10 0),I x3]).bind fun o11=>
 bif !bA o11 0 then
 some [B false]
 else
 some [B true]:=by kernel_rfl
def Lt:=Ym Pq OR
theorem Zop:Ai PG (Qdz Pq OR):=Ap rfl ⟨Zdm,Zfl,trivial⟩
theorem Zse:Ak PG (79,Ac Qko Qlo Lt):=rw1 (C:=(Qdz Pq OR)) Zop
def Qc7:Sk:=⟨[TS.v true (cc 9++[CS.sl Aa]++cc 9++[CS.sl Aa]++cc 9++[CS.sl Aa]),tf [CS.sl kPt]],[],[]⟩
def Qfv:Sk:=⟨[tf [CS.bool]],[],[]⟩
def Zb2 (M:Fn):Nat×Spec:=(31,Ac Qc7 Qfv M)
def Wb (DV:Fn):Cfg:=cf [Znp DV]
def Q0x:Sk:=⟨[td,tf [CS.sl kPt],tf [CS.ptr 2 0],td,td,tf [ci],tf [CS.own 13 1],td,tf [ci]]++dd 6++[tf [ci],tf [ci]]++dd 19,[(2,27,cc 9++[CS.sl Aa]++cc 9++[CS.sl Aa]++cc 9++[CS.sl Aa])],[(13,3,Aa)]⟩
def Qwn:List (Ex×Sk):=[(Ex.exit 2,⟨[td,tf [CS.sl kPt],tf [CS.ptr 2 0],td,td,tf [ci],tf [CS.own 13 1],td,tf [ci]]++dd 27,[(2,27,cc 9++[CS.sl Aa]++cc 9++[CS.sl Aa]++cc 9++[CS.sl Aa])],[(13,3,Aa)]⟩)]
def KS (DV:Fn):Lp:=A4 PG (Wb DV) 64 6 (A3 PG 31 6) Q0x Qwn
def Quh (DV:Fn) (N6:Lp):Cfg:=(Wb DV).loop 6 Q0x Qwn N6
def Qsv:Sk:=⟨[td,tf [CS.sl kPt],tf [CS.ptr 2 0],td,td,td,td,td,tf [ci]]++dd 27,[(2,27,cc 9++[CS.sl Aa]++cc 9++[CS.sl Aa]++cc 9++[CS.sl Aa])],[]⟩
def Qs6:List (Ex×Sk):=[(Ex.ret,⟨[td,td,td,td,tf [CS.bool]]++dd 31,[],[]⟩),(Ex.exit 0,⟨[td]++dd 35,[],[]⟩)]
def Tf (DV:Fn) (N6:Lp):Lp:=A4 PG (Quh DV N6) 64 2 (A3 PG 31 2) Qsv Qs6
def Qof (DV:Fn) (N6 N2:Lp):Cfg:=(Quh DV N6).loop 2 Qsv Qs6 N2
def Tv (DV:Fn) (N6 N2:Lp):Fn:=An PG (Qof DV N6 N2) 64 31 Qc7 Qfv
theorem Zj1 (DV:Fn) (v0 v1:Rw) (v2 v3 v4 v5 v6 v7 v8 v9 v10 v11 v12 v13 v14:Int) (v15:Rw) (v16 v17 v18 v19 v20 v21 v22 v23 v24:Int) (v25:Rw) (v26 v27 v28 v29 v30 v31 v32 v33 v34:Int) (v35:Rw):KS DV [.view Aa v0, .view kPt v1,I v2,I v3,I v4,I v5,I v6,I v7,I v8,I v9,I v10,I v11,I v12,I v13,I v14, .view Aa v15,I v16,I v17,I v18,I v19,I v20,I v21,I v22,I v23,I v24, .view Aa v25,I v26,I v27,I v28,I v29,I v30,I v31,I v32,I v33,I v34, .view Aa v35]=
 bif decide (v5<v4)then
 bif decide (0<=v5)&&decide (v5<(v1.length:Int))then
 bif decide (v2=(↑0:Int))then
 bif decide (0<=v5)&&decide (v5<(v0.length:Int))then
 some (0,[.view Aa (v0.set v5.toNat [jA (nth [] v1 v5.toNat) 0]), .view kPt v1,I v2,I v3,I v4,I (wrap .i64 (v5+1)),I v6,I v7,I v8,I v9,I v10,I v11,I v12,I v13,I v14, .view Aa v15,I v16,I v17,I v18,I v19,I v20,I v21,I v22,I v23,I v24, .view Aa v25,I v26,I v27,I v28,I v29,I v30,I v31,I v32,I v33,I v34, .view Aa v35])
 else
 none
 else
 bif decide (v2=(↑(0+1):Int))then
 bif decide (0<=v5)&&decide (v5<(v0.length:Int))then
 some (0,[.view Aa (v0.set v5.toNat [jA (nth [] v1 v5.toNat) 1]), .view kPt v1,I v2,I v3,I v4,I (wrap .i64 (v5+1)),I v6,I v7,I v8,I v9,I v10,I v11,I v12,I v13,I v14, .view Aa v15,I v16,I v17,I v18,I v19,I v20,I v21,I v22,I v23,I v24, .view Aa v25,I v26,I v27,I v28,I v29,I v30,I v31,I v32,I v33,I v34, .view Aa v35])
 else
 none
 else
 bif decide (v2=(↑(0+1+1):Int))then
 bif decide (0<=v5)&&decide (v5<(v0.length:Int))then
 some (0,[.view Aa (v0.set v5.toNat [jA (nth [] v1 v5.toNat) 2]), .view kPt v1,I v2,I v3,I v4,I (wrap .i64 (v5+1)),I v6,I v7,I v8,I v9,I v10,I v11,I v12,I v13,I v14, .view Aa v15,I v16,I v17,I v18,I v19,I v20,I v21,I v22,I v23,I v24, .view Aa v25,I v26,I v27,I v28,I v29,I v30,I v31,I v32,I v33,I v34, .view Aa v35])
 else
 none
 else
 none
 else
 none
 else
 some (1,[.view Aa v0, .view kPt v1,I v2,I v3,I v6,I v7,I v8,I v9,I v10,I v11,I v12,I v13,I v14, .view Aa v15,I v16,I v17,I v18,I v19,I v20,I v21,I v22,I v23,I v24, .view Aa v25,I v26,I v27,I v28,I v29,I v30,I v31,I v32,I v33,I v34, .view Aa v35]):=by kernel_rfl
abbrev Rh (o5:Nat×List AC) (h1_0:Bool):Option (Nat×List AC):=
 bif h1_0 then
 some (1,[B false])
 else
 some (0,[.view kPt (wA o5.2 1),I (wrap .i64 (gA o5.2 3+1)),jA o5.2 4,jA o5.2 5,jA o5.2 6,jA o5.2 7,jA o5.2 8,jA o5.2 9,jA o5.2 10,jA o5.2 11,jA o5.2 12, .view Aa (wA o5.2 13),jA o5.2 14,jA o5.2 15,jA o5.2 16,jA o5.2 17,jA o5.2 18,jA o5.2 19,jA o5.2 20,jA o5.2 21,jA o5.2 22, .view Aa (wA o5.2 23),jA o5.2 24,jA o5.2 25,jA o5.2 26,jA o5.2 27,jA o5.2 28,jA o5.2 29,jA o5.2 30,jA o5.2 31,jA o5.2 32, .view Aa (wA o5.2 33)])
attribute [go_sem] Rh
theorem Z1v (DV:Fn) (N6:Lp) (v0:Rw) (v1 v2 v3 v4 v5 v6 v7 v8 v9 v10:Int) (v11:Rw) (v12 v13 v14 v15 v16 v17 v18 v19 v20:Int) (v21:Rw) (v22 v23 v24 v25 v26 v27 v28 v29 v30:Int) (v31:Rw):Tf DV N6 [.view kPt v0,I v1,I v2,I v3,I v4,I v5,I v6,I v7,I v8,I v9,I v10, .view Aa v11,I v12,I v13,I v14,I v15,I v16,I v17,I v18,I v19,I v20, .view Aa v21,I v22,I v23,I v24,I v25,I v26,I v27,I v28,I v29,I v30, .view Aa v31]=
 bif decide (v1<3)then
 bif decide ((v0.length:Int)=(v0.length:Int))then
 bif decide (0<=(v0.length:Int))&&decide ((v0.length:Int)*(↑8:Int)<=140737488355328)then
 (N6 [.view Aa (List.replicate (v0.length:Int).toNat [I 0]), .view kPt v0,I v1,I v1,I (v0.length:Int),I 0,I v2,I v3,I v4,I v5,I v6,I v7,I v8,I v9,I v10, .view Aa v11,I v12,I v13,I v14,I v15,I v16,I v17,I v18,I v19,I v20, .view Aa v21,I v22,I v23,I v24,I v25,I v26,I v27,I v28,I v29,I v30, .view Aa v31]).bind fun o5=>
 bif o5.1.beq 1 then
 bif decide (gA o5.2 2=(↑0:Int))then
 (DV [jA o5.2 4,jA o5.2 5,jA o5.2 6,jA o5.2 7,jA o5.2 8,jA o5.2 9,jA o5.2 10,jA o5.2 11,jA o5.2 12, .view Aa (wA o5.2 13), .view Aa (wA o5.2 0)]).bind fun o6=>
 Rh o5 (!bA o6 0)
 else
 bif decide (gA o5.2 2=(↑(0+1):Int))then
 (DV [jA o5.2 14,jA o5.2 15,jA o5.2 16,jA o5.2 17,jA o5.2 18,jA o5.2 19,jA o5.2 20,jA o5.2 21,jA o5.2 22, .view Aa (wA o5.2 23), .view Aa (wA o5.2 0)]).bind fun o7=>
 Rh o5 (!bA o7 0)
 else
 bif decide (gA o5.2 2=(↑(0+1+1):Int))then
 (DV [jA o5.2 24,jA o5.2 25,jA o5.2 26,jA o5.2 27,jA o5.2 28,jA o5.2 29,jA o5.2 30,jA o5.2 31,jA o5.2 32, .view Aa (wA o5.2 33), .view Aa (wA o5.2 0)]).bind fun o8=>
 Rh o5 (!bA o8 0)
 else
 none
 else
 none
 else
 none
 else
 none
 else
 some (2,[]):=by kernel_rfl
theorem Zi0 (DV:Fn) (N6 N2:Lp) (x0 x1 x2 x3 x4 x5 x6 x7 x8:Int) (x9:Rw) (x10 x11 x12 x13 x14 x15 x16 x17 x18:Int) (x19:Rw) (x20 x21 x22 x23 x24 x25 x26 x27 x28:Int) (x29 x30:Rw):Tv DV N6 N2 [I x0,I x1,I x2,I x3,I x4,I x5,I x6,I x7,I x8, .view Aa x9,I x10,I x11,I x12,I x13,I x14,I x15,I x16,I x17,I x18, .view Aa x19,I x20,I x21,I x22,I x23,I x24,I x25,I x26,I x27,I x28, .view Aa x29, .view kPt x30]=
 (N2 [.view kPt x30,I 0,I x0,I x1,I x2,I x3,I x4,I x5,I x6,I x7,I x8, .view Aa x9,I x10,I x11,I x12,I x13,I x14,I x15,I x16,I x17,I x18, .view Aa x19,I x20,I x21,I x22,I x23,I x24,I x25,I x26,I x27,I x28, .view Aa x29]).bind fun o9=>
 bif o9.1.beq 1 then
 some [B (bA o9.2 0)]
 else
 bif o9.1.beq 2 then
 some [B true]
 else
 none:=by kernel_rfl
def VF:=Am (KS Lt)
def Qxp:=Am (Tf Lt VF)
def NJ:=Tv Lt VF Qxp
theorem Qm1:Ai PG (Wb Lt):=Ap rfl ⟨Zse,trivial⟩
theorem Zm7:Ak PG (31,Ac Qc7 Qfv NJ):=rw2 (C:=(Qof Lt VF Qxp)) (fl (fl fb Qm1) Qm1) Qm1
def Qmv:Sk:=⟨[tf [ci]],[],[]⟩
def XO:Sk:=⟨[tf [ci]],[],[]⟩
def Qsm (M:Fn):Nat×Spec:=(197,Ac Qmv XO M)
def Qf9:Cfg:=cf []
def Wa:Fn:=An PG Qf9 64 197 Qmv XO
theorem Zxi (x0:Int):Wa [I x0]=
 bif decide (x0.tmod 256<0)then
 some [I (wrap .i64 (wrap .i64 (x0.tdiv 256)-1))]
 else
 some [I (wrap .i64 (x0.tdiv 256))]:=by kernel_rfl
def I8:=Wa
theorem Z00:Ai PG (Qf9):=Ap rfl trivial
theorem Q6g:Ak PG (197,Ac Qmv XO I8):=rw1 (C:=Qf9) Z00
def VN:Sk:=⟨[TS.v true [ci,ci,ci,CS.sl Ag,CS.sl kPt],TS.v true (cc 9++[CS.sl Aa]++cc 9++[CS.sl Aa]++cc 9++[CS.sl Aa]),TS.v true ([CS.sl As]++cc 5),tf [CS.sl Aa]],[],[]⟩
def Zh:Sk:=⟨[tf [CS.bool]],[],[]⟩
def Zft (M:Fn):Nat×Spec:=(179,Ac VN Zh M)
def Qjr (FT Bv D5:Fn):Cfg:={cf [Zb2 FT,T5 Bv,Qsm D5]with lend:=fun f=>AN [31] f,cuts:=[30],prom:=fun b=>bif Nat.beq b 3 then [(9,44)]else []}
def Q0f:Sk:=⟨[td,td,td,td,tf [CS.ptr 4 0],tf [CS.ptr 5 0],tf [CS.ptr 6 0],td,td,tf [CS.own 9 3],td,td,tf [CS.sl Aa],tf [ci],tf [ci]]++dd 22,[(4,58,[ci,ci,ci,CS.sl Ag,CS.sl kPt]),(5,27,cc 9++[CS.sl Aa]++cc 9++[CS.sl Aa]++cc 9++[CS.sl Aa]),(6,62,[CS.sl As]++cc 5)],[(9,44,kPt)]⟩
def Qz7:List (Ex×Sk):=[(Ex.ret,⟨dd 8++[tf [CS.bool]]++dd 28,[],[]⟩),(Ex.exit 0,⟨[td]++dd 36,[],[]⟩)]
def Qll (FT Bv D5:Fn):Lp:=A4 PG (Qjr FT Bv D5) 64 3 (A3 PG 179 3) Q0f Qz7
def Q59 (FT Bv D5:Fn) (N3:Lp):Cfg:=(Qjr FT Bv D5).loop 3 Q0f Qz7 N3
def Ql5 (FT Bv D5:Fn) (N3:Lp):Fn:=An PG (Q59 FT Bv D5 N3) 64 179 VN Zh
theorem Zdf (FT Bv D5:Fn) (v0 v1:Rw) (v2 v3:Int) (p:Pth) (x:Ax3) (t:Trk):Qll FT Bv D5 (.view kPt v0:: .view Aa v1::I v2::I v3::pxt p x t [])=
 bif decide (v3<v2)then
 bif decide (0<=v3)&&decide (v3<(v1.length:Int))then
 (D5 [jA (nth [] v1 v3.toNat) 0]).bind fun o8=>
 (Bv (pxt p x t [jA o8 0])).bind fun o9=>
 bif((v0++[[jA o9 0,jA o9 1,jA o9 2]]).length*24).ble 140737488355328 then
 bif decide ((↑(v0++[[jA o9 0,jA o9 1,jA o9 2]]).length:Int)>4)then
 bif decide (0<=1)&&decide (1<=(↑(v0++[[jA o9 0,jA o9 1,jA o9 2]]).length:Int))then
 bif(Int.toNat 1).ble (v0++[[jA o9 0,jA o9 1,jA o9 2]]).length then
 (FT (AO x++[.view kPt (List.drop (Int.toNat 1) (v0++[[jA o9 0,jA o9 1,jA o9 2]]))])).bind fun o10=>
 bif !bA o10 0 then
 some (1,[B false])
 else
 some (0,(.view kPt (List.drop (Int.toNat 1) (v0++[[jA o9 0,jA o9 1,jA o9 2]])):: .view Aa v1::I v2::I (wrap .i64 (v3+1))::pxt p x t []))
 else
 none
 else
 none
 else
 (FT (AO x++[.view kPt (v0++[[jA o9 0,jA o9 1,jA o9 2]])])).bind fun o11=>
 bif !bA o11 0 then
 some (1,[B false])
 else
 some (0,(.view kPt (v0++[[jA o9 0,jA o9 1,jA o9 2]]):: .view Aa v1::I v2::I (wrap .i64 (v3+1))::pxt p x t []))
 else
 none
 else
 none
 else
 some (2,[]):=by kernel_rfl
theorem Zu0 (FT Bv D5:Fn) (N3:Lp) (x41:Rw) (p:Pth) (x:Ax3) (t:Trk):Ql5 FT Bv D5 N3 (pxt p x t [.view Aa x41])=
 (N3 (.view kPt []:: .view Aa x41::I (x41.length:Int)::I 0::pxt p x t [])).bind fun o12=>
 bif o12.1.beq 1 then
 some [B (bA o12.2 0)]
 else
 bif o12.1.beq 2 then
 some [B true]
 else
 none:=by kernel_rfl
def Qrt:=Am (Qll NJ FF I8)
def Na:=Ql5 NJ FF I8 Qrt
theorem Qvo:Ai PG (Qjr NJ FF I8):=Ap rfl ⟨Zm7,UV,Q6g,trivial⟩
theorem Zfz:Ak PG (179,Ac VN Zh Na):=rw2 (C:=(Q59 NJ FF I8 Qrt)) (fl fb Qvo) Qvo
def Qdc:Sk:=⟨[TS.v true [ci,ci,ci],tf [ci],tf [ci]],[],[]⟩
def Qas:Sk:=⟨[tf [CS.bool]],[],[]⟩
def Qn8 (M:Fn):Nat×Spec:=(128,Ac Qdc Qas M)
def XG (Dl:Fn):Cfg:=cf [Qpz Dl]
def Qr (Dl:Fn):Fn:=An PG (XG Dl) 64 128 Qdc Qas
theorem YD (Dl:Fn) (x0 x1 x2 x3 x4:Int):Qr Dl [I x0,I x1,I x2,I x3,I x4]=
 bif decide (x4<wrap .i64 (0-x0))then
 some [B false]
 else
 bif decide (x4>x0)then
 some [B false]
 else
 bif x3==0 then
 bif decide (x4>x1)then
 some [B false]
 else
 (Dl [I x0,I x1,I x2,I (wrap .i64 (0-x4))]).bind fun o4=>
 bif decide (x3>=gA o4 0)then
 (Dl [I x0,I x1,I x2,I x4]).bind fun o5=>
 some [B (decide (x3<=wrap .i64 (16777216-gA o5 0)))]
 else
 some [B false]
 else
 (Dl [I x0,I x1,I x2,I (wrap .i64 (0-x4))]).bind fun o6=>
 bif decide (x3>=gA o6 0)then
 (Dl [I x0,I x1,I x2,I x4]).bind fun o7=>
 some [B (decide (x3<=wrap .i64 (16777216-gA o7 0)))]
 else
 some [B false]:=by kernel_rfl
def Gm:=Qr G4
theorem Zge:Ai PG (XG G4):=Ap rfl ⟨Qov,trivial⟩
theorem Qwf:Ak PG (128,Ac Qdc Qas Gm):=rw1 (C:=(XG G4)) Zge
def Qew:Sk:=⟨[TS.v true [ci,ci,ci],tf [ci],tf [ci]],[],[]⟩
def Qet:Sk:=⟨[TS.tup [(false,[CS.sl Aa]),(false,[CS.bool])]],[],[]⟩
def Q8o (M:Fn):Nat×Spec:=(82,Ac Qew Qet M)
def Wu (Bx CQ BS:Fn):Cfg:={cf [Qck Bx,Qn8 CQ,Vy BS]with prom:=fun b=>bif Nat.beq b 4 then [(8,3)]else []}
def Q3t:Sk:=⟨[td,tf [ci],tf [ci],tf [CS.ptr 3 0],td,td,td,td,tf [CS.own 8 1]]++dd 27,[(3,29,[ci,ci,ci])],[(8,3,Aa)]⟩
def Q4b:List (Ex×Sk):=[(Ex.ret,⟨dd 6++[tf [CS.nil],tf [CS.bool]]++dd 28,[],[]⟩),(Ex.exit 0,⟨dd 8++[tf [CS.own 8 1]]++dd 27,[],[(8,3,Aa)]⟩)]
def H2 (Bx CQ BS:Fn):Lp:=A4 PG (Wu Bx CQ BS) 64 4 (A3 PG 82 4) Q3t Q4b
def Qpc (Bx CQ BS:Fn) (N4:Lp):Cfg:=(Wu Bx CQ BS).loop 4 Q3t Q4b N4
def Pa (Bx CQ BS:Fn) (N4:Lp):Fn:=An PG (Qpc Bx CQ BS N4) 64 82 Qew Qet
theorem PY (Bx CQ BS:Fn) (v0:Rw) (v1 v2 v3 v4 v5:Int):H2 Bx CQ BS [.view Aa v0,I v1,I v2,I v3,I v4,I v5]=
 bif decide (v1>0)then
 bif(v0.length:Int)==4096 then
 some (1,[B false])
 else
 (Bx [I v3,I v4,I v5,I v1,I v2]).bind fun o9=>
 bif((v0++[[I (wrap .i64 (v1+gA o9 0))]]).length*8).ble 140737488355328 then
 some (0,[.view Aa (v0++[[I (wrap .i64 (v1+gA o9 0))]]),I (wrap .i64 (v1+gA o9 0)),jA o9 0,I v3,I v4,I v5])
 else
 none
 else
 some (2,[.view Aa v0]):=by kernel_rfl
theorem Qbv (Bx CQ BS:Fn) (N4:Lp) (x0 x1 x2 x3 x4:Int):Pa Bx CQ BS N4 [I x0,I x1,I x2,I x3,I x4]=
 (BS [I x0,I x1,I x2]).bind fun o10=>
 bif !bA o10 0 then
 some [.view Aa [],B false]
 else
 (CQ [I x0,I x1,I x2,I x3,I x4]).bind fun o11=>
 bif !bA o11 0 then
 some [.view Aa [],B false]
 else
 (N4 [.view Aa [],I x3,I x4,I x0,I x1,I x2]).bind fun o12=>
 bif o12.1.beq 1 then
 some [.view Aa [],B (bA o12.2 0)]
 else
 bif o12.1.beq 2 then
 some [.view Aa (wA o12.2 0),B true]
 else
 none:=by kernel_rfl
def Q46:=Am (H2 Fp Gm EV)
def Kl:=Pa Fp Gm EV Q46
theorem Q5r:Ai PG (Wu Fp Gm EV):=Ap rfl ⟨Qfo,Qwf,Qmd,trivial⟩
theorem Zkn:Ak PG (82,Ac Qew Qet Kl):=rw2 (C:=(Qpc Fp Gm EV Q46)) (fl fb Q5r) Q5r
def Qkj:Sk:=⟨[TS.v true [ci,ci,ci],TS.v true (cc 6)],[],[]⟩
def Qmi:Sk:=⟨[TS.tup [(false,[CS.sl Aa]),(false,[CS.bool])]],[],[]⟩
def Qgl (M:Fn):Nat×Spec:=(39,Ac Qkj Qmi M)
def Wo (Gr:Fn):Cfg:=cf [Q8o Gr]
def Quj:Sk:=⟨dd 8++[tf [CS.own 25 1],tf [ci]]++dd 18++[tf [CS.sl Aa],tf [ci],tf [ci]]++dd 13,[],[(25,3,Aa)]⟩
def Qv9:List (Ex×Sk):=[(Ex.exit 0,⟨dd 8++[tf [CS.own 25 1]]++dd 35,[],[(25,3,Aa)]⟩)]
def Hm (Gr:Fn):Lp:=A4 PG (Wo Gr) 64 7 (A3 PG 39 7) Quj Qv9
def Qq8 (Gr:Fn) (N7:Lp):Cfg:=(Wo Gr).loop 7 Quj Qv9 N7
def Om (Gr:Fn) (N7:Lp):Fn:=An PG (Qq8 Gr N7) 64 39 Qkj Qmi
theorem Qfn (Gr:Fn) (v0:Rw) (v1:Int) (v2:Rw) (v3 v4:Int):Hm Gr [.view Aa v0,I v1, .view Aa v2,I v3,I v4]=
 bif decide (v4<v3)then
 bif decide (0<=v4)&&decide (v4<(v2.length:Int))then
 bif decide (0<=v4)&&decide (v4<(v0.length:Int))then
 some (0,[.view Aa (v0.set v4.toNat [I (wrap .i64 (v1+gA (nth [] v2 v4.toNat) 0))]),I (wrap .i64 (v1+gA (nth [] v2 v4.toNat) 0)), .view Aa v2,I v3,I (wrap .i64 (v4+1))])
 else
 none
 else
 none
 else
 some (1,[.view Aa v0]):=by kernel_rfl
theorem Tw (Gr:Fn) (N7:Lp) (x0 x1 x2 x3 x4 x5 x6 x7 x8:Int):Om Gr N7 [I x0,I x1,I x2,I x3,I x4,I x5,I x6,I x7,I x8]=
 (Gr [I x0,I x1,I x2,I x4,I x5]).bind fun o3=>
 bif !bA o3 1 then
 some [.view Aa [],B false]
 else
 bif decide ((↑(wA o3 0).length:Int)=(↑(wA o3 0).length:Int))then
 bif decide (0<=(↑(wA o3 0).length:Int))&&decide ((↑(wA o3 0).length:Int)*(↑8:Int)<=140737488355328)then
 (N7 [.view Aa (List.replicate (↑(wA o3 0).length:Int).toNat [I 0]),I x3, .view Aa (wA o3 0),I (↑(wA o3 0).length:Int),I 0]).bind fun o4=>
 bif o4.1.beq 1 then
 some [.view Aa (wA o4.2 0),B true]
 else
 none
 else
 none
 else
 none:=by kernel_rfl
def Qr9:=Am (Hm Kl)
def EE:=Om Kl Qr9
theorem Qpr:Ai PG (Wo Kl):=Ap rfl ⟨Zkn,trivial⟩
theorem Vo:Ak PG (39,Ac Qkj Qmi EE):=rw2 (C:=(Qq8 Kl Qr9)) (fl fb Qpr) Qpr
def Qji:Sk:=⟨[TS.v true [ci,ci,ci,CS.sl Ag,CS.sl kPt],TS.v true (cc 9++[CS.sl Aa]++cc 9++[CS.sl Aa]++cc 9++[CS.sl Aa]),TS.v true ([CS.sl As]++cc 5),TS.v true [ci,ci,ci],TS.v true (cc 6),tf [ci]],[],[]⟩
def Qd1:Sk:=⟨[tf [CS.bool]],[],[]⟩
def Qpt (M:Fn):Nat×Spec:=(154,Ac Qji Qd1 M)
def Qgj (Lo CI:Fn):Cfg:={cf [Zft Lo,Qgl CI]with rowDst:=[48]}
def Ra (Lo CI:Fn):Fn:=An PG (Qgj Lo CI) 64 154 Qji Qd1
theorem Q5g (Lo CI:Fn) (x41 x42 x43 x44 x45 x46 x47 x48 x49 x50:Int) (p:Pth) (x:Ax3) (t:Trk):Ra Lo CI (pxt p x t [I x41,I x42,I x43,I x44,I x45,I x46,I x47,I x48,I x49,I x50])=
 (CI [I x41,I x42,I x43,I x44,I x45,I x46,I x47,I x48,I x49]).bind fun o3=>
 bif !bA o3 1 then
 some [B false]
 else
 bif decide ((↑(wA o3 0).length:Int)>0)then
 bif decide (0<=wrap .i64 ((↑(wA o3 0).length:Int)-1))&&decide (wrap .i64 ((↑(wA o3 0).length:Int)-1)<(↑(wA o3 0).length:Int))then
 bif decide (Af (nth .dead (nth [] (wA o3 0) (wrap .i64 ((↑(wA o3 0).length:Int)-1)).toNat) 0)>wrap .i64 (x50*256))then
 some [B false]
 else
 bif(([[I x49],[I x48],[I x47],[I x44]]++wA o3 0).length*8).ble 140737488355328 then
 bif(([[I x49],[I x48],[I x47],[I x44]]++wA o3 0++[[I (Af (nth .dead (nth [] (wA o3 0) (wrap .i64 ((↑(wA o3 0).length:Int)-1)).toNat) 0))],[I (Af (nth .dead (nth [] (wA o3 0) (wrap .i64 ((↑(wA o3 0).length:Int)-1)).toNat) 0))]]).length*8).ble 140737488355328 then
 (Lo (pxt p x t [.view Aa ([[I x49],[I x48],[I x47],[I x44]]++wA o3 0++[[I (Af (nth .dead (nth [] (wA o3 0) (wrap .i64 ((↑(wA o3 0).length:Int)-1)).toNat) 0))],[I (Af (nth .dead (nth [] (wA o3 0) (wrap .i64 ((↑(wA o3 0).length:Int)-1)).toNat) 0))]])])).bind fun o4=>
 some [B (bA o4 0)]
 else
 none
 else
 none
 else
 none
 else
 bif decide (x44>wrap .i64 (x50*256))then
 some [B false]
 else
 bif(([[I x49],[I x48],[I x47],[I x44]]++wA o3 0).length*8).ble 140737488355328 then
 bif(([[I x49],[I x48],[I x47],[I x44]]++wA o3 0++[[I x44],[I x44]]).length*8).ble 140737488355328 then
 (Lo (pxt p x t [.view Aa ([[I x49],[I x48],[I x47],[I x44]]++wA o3 0++[[I x44],[I x44]])])).bind fun o5=>
 some [B (bA o5 0)]
 else
 none
 else
 none:=by kernel_rfl
def HP:=Ra Na EE
theorem Zaf:Ai PG (Qgj Na EE):=Ap rfl ⟨Zfz,Vo,trivial⟩
theorem Qtx:Ak PG (154,Ac Qji Qd1 HP):=rw1 (C:=(Qgj Na EE)) Zaf
def Qcp:Sk:=⟨[TS.v true [ci,ci,CS.bool,CS.bool,CS.bool],TS.v true [ci,ci,ci],TS.v true (cc 7)],[],[]⟩
def Qdx:Sk:=⟨[tf [ci]],[],[]⟩
def Zx4 (M:Fn):Nat×Spec:=(198,Ac Qcp Qdx M)
def Uo:Cfg:=cf []
def Rf:Fn:=An PG Uo 64 198 Qcp Qdx
theorem Q33 (x0 x1:Int) (x2 x3 x4:Bool) (x5 x6 x7 x8 x9 x10 x11 x12 x13 x14:Int):Rf [I x0,I x1,B x2,B x3,B x4,I x5,I x6,I x7,I x8,I x9,I x10,I x11,I x12,I x13,I x14]=
 bif x2 then
 some [I 0]
 else
 bif x14 !=0 then
 some [I (mn (mx x13 1) 16777216)]
 else
 bif x13==0 then
 bif x1==0 then
 some [I 0]
 else
 some [I (mn (mx (wrap .i64 ((wrap .i64 (x7*x1)).tdiv 100)) 1) 16777216)]
 else
 bif x0==0 then
 some [I 0]
 else
 some [I (mn (mx (wrap .i64 ((wrap .i64 (x13*x0)).tdiv 100)) 1) 16777216)]:=by kernel_rfl
def L8:=Rf
theorem Z1o:Ai PG (Uo):=Ap rfl trivial
theorem Zg3:Ak PG (198,Ac Qcp Qdx L8):=rw1 (C:=Uo) Z1o
def Zx:Sk:=⟨[TS.v true [ci,ci,ci,CS.sl Ag,CS.sl kPt],TS.v true ([CS.sl As]++cc 5),TS.v true [ci,ci,ci],TS.v true [ci,ci,CS.bool,CS.bool,CS.bool],tf [ci]],[],[]⟩
def Qap:Sk:=⟨[tf [ci]],[],[]⟩
def Zgk (M:Fn):Nat×Spec:=(178,Ac Zx Qap M)
def Qne (MY Dy B4 D5:Fn):Cfg:=cf [Zx4 MY,Qnn Dy,SK B4,Qsm D5]
def RN (MY Dy B4 D5:Fn):Fn:=An PG (Qne MY Dy B4 D5) 64 178 Zx Qap
theorem Qog (MY Dy B4 D5:Fn) (x11 x12 x13 x14 x15:Int) (x16 x17 x18:Bool) (x19:Int) (p:Pth) (t:Trk):RN MY Dy B4 D5 (Dg p t [I x11,I x12,I x13,I x14,I x15,B x16,B x17,B x18,I x19])=
 (D5 [I x19]).bind fun o4=>
 (B4 (Bo t++[jA o4 0])).bind fun o5=>
 (Dy (Bp p++[jA o5 0])).bind fun o6=>
 bif decide (0<=gA o6 0)&&decide (gA o6 0<((p.aF.map Ay).length:Int))then
 (MY (I x14::I x15::B x16::B x17::B x18::I x11::I x12::I x13::AJ Ag (nth [] (p.aF.map Ay) (gA o6 0).toNat))).bind fun o7=>
 some [jA o7 0]
 else
 none:=by kernel_rfl
def Kx:=RN L8 EM EQ I8
theorem Zn9:Ai PG (Qne L8 EM EQ I8):=Ap rfl ⟨Zg3,Yd,TF,Q6g,trivial⟩
theorem Zs0:Ak PG (178,Ac Zx Qap Kx):=rw1 (C:=(Qne L8 EM EQ I8)) Zn9
def Qdd:Sk:=⟨[TS.v true [ci,ci,ci,CS.sl Ag,CS.sl kPt],TS.v true ([CS.sl As]++cc 5),TS.v true [ci,ci,ci],TS.v true [ci,ci,CS.bool,CS.bool,CS.bool],TS.v true (cc 6)],[],[]⟩
def Qeh:Sk:=⟨[tf [CS.bool]],[],[]⟩
def Zuv (M:Fn):Nat×Spec:=(153,Ac Qdd Qeh M)
def W0 (F4 CI:Fn):Cfg:=cf [Zgk F4,Qgl CI]
def Qxs:Sk:=⟨[td,td,td,td,td,tf [CS.ptr 5 0],tf [CS.ptr 6 0],tf [CS.ptr 7 0],tf [CS.ptr 8 0],td,td,td,td,tf [ci]]++dd 30++[tf [CS.sl Aa],tf [ci],tf [ci]]++dd 15,[(5,58,[ci,ci,ci,CS.sl Ag,CS.sl kPt]),(6,62,[CS.sl As]++cc 5),(7,29,[ci,ci,ci]),(8,92,[ci,ci,CS.bool,CS.bool,CS.bool])],[]⟩
def Qrm:List (Ex×Sk):=[(Ex.ret,⟨dd 10++[tf [CS.bool]]++dd 51,[],[]⟩),(Ex.exit 0,⟨[td]++dd 61,[],[]⟩)]
def Tt (F4 CI:Fn):Lp:=A4 PG (W0 F4 CI) 64 6 (A3 PG 153 6) Qxs Qrm
def Q6s (F4 CI:Fn) (N6:Lp):Cfg:=(W0 F4 CI).loop 6 Qxs Qrm N6
def TU (F4 CI:Fn) (N6:Lp):Fn:=An PG (Q6s F4 CI N6) 64 153 Qdd Qeh
theorem Q19 (F4 CI:Fn) (v0:Int) (v1:Rw) (v2 v3:Int) (v15 v16 v17 v18 v19:Int) (v20 v21 v22:Bool) (p:Pth) (t:Trk):Tt F4 CI (I v0:: .view Aa v1::I v2::I v3::Dg p t [I v15,I v16,I v17,I v18,I v19,B v20,B v21,B v22])=
 bif decide (v3<v2)then
 bif decide (0<=v3)&&decide (v3<(v1.length:Int))then
 (F4 (Dg p t [I v15,I v16,I v17,I v18,I v19,B v20,B v21,B v22,jA (nth [] v1 v3.toNat) 0])).bind fun o6=>
 bif decide (wrap .i64 (gA (nth [] v1 v3.toNat) 0-v0)>gA o6 0)then
 some (1,[B false])
 else
 some (0,(jA (nth [] v1 v3.toNat) 0:: .view Aa v1::I v2::I (wrap .i64 (v3+1))::Dg p t [I v15,I v16,I v17,I v18,I v19,B v20,B v21,B v22]))
 else
 none
 else
 some (2,[]):=by kernel_rfl
theorem Q1k (F4 CI:Fn) (N6:Lp) (x11 x12 x13 x14 x15:Int) (x16 x17 x18:Bool) (x19 x20 x21 x22 x23 x24:Int) (p:Pth) (t:Trk):TU F4 CI N6 (Dg p t [I x11,I x12,I x13,I x14,I x15,B x16,B x17,B x18,I x19,I x20,I x21,I x22,I x23,I x24])=
 (CI [I x11,I x12,I x13,I x19,I x20,I x21,I x22,I x23,I x24]).bind fun o7=>
 bif !bA o7 1 then
 some [B false]
 else
 bif((p.aF.map Ay).length:Int)==0 then
 some [B false]
 else
 (F4 (Dg p t [I x11,I x12,I x13,I x14,I x15,B x16,B x17,B x18,I x19])).bind fun o8=>
 bif decide (x20>gA o8 0)then
 some [B false]
 else
 (N6 (I x19:: .view Aa (wA o7 0)::I (↑(wA o7 0).length:Int)::I 0::Dg p t [I x11,I x12,I x13,I x14,I x15,B x16,B x17,B x18])).bind fun o9=>
 bif o9.1.beq 1 then
 some [B (bA o9.2 0)]
 else
 bif o9.1.beq 2 then
 some [B true]
 else
 none:=by kernel_rfl
def Q56:=Am (Tt Kx EE)
def JC:=TU Kx EE Q56
theorem Qyh:Ai PG (W0 Kx EE):=Ap rfl ⟨Zs0,Vo,trivial⟩
theorem Zup:Ak PG (153,Ac Qdd Qeh JC):=rw2 (C:=(Q6s Kx EE Q56)) (fl fb Qyh) Qyh
def V7:Sk:=⟨[TS.v true (cc 6),tf [ci]],[],[]⟩
def V3:Sk:=⟨[TS.v true (cc 6)],[],[]⟩
def Q06 (M:Fn):Nat×Spec:=(152,Ac V7 V3 M)
def Qgf:Cfg:=cf []
def Qai:Fn:=An PG Qgf 64 152 V7 V3
theorem Zfx (x0 x1 x2 x3 x4 x5 x6:Int):Qai [I x0,I x1,I x2,I x3,I x4,I x5,I x6]=
 some [I (wrap .i64 (x0+x6)),I x6,I (wrap .i64 (x6-x1)),I x0,I x3,I x4]:=by kernel_rfl
def Jd:=Qai
theorem Zha:Ai PG (Qgf):=Ap rfl trivial
theorem Qyy:Ak PG (152,Ac V7 V3 Jd):=rw1 (C:=Qgf) Zha
def X7:Sk:=⟨[tf [ci]],[],[]⟩
def WZ:Sk:=⟨[tf [CS.sl Aa]],[],[]⟩
def Zol (M:Fn):Nat×Spec:=(151,Ac X7 WZ M)
def C_planner_changes_0:Cfg:={cf []with prom:=fun b=>bif Nat.beq b 3 then [(3,3)]else []}
def Qwi:Sk:=⟨[td,td,td,tf [CS.own 3 1],tf [ci]]++dd 32,[],[(3,3,Aa)]⟩
def Qp7:List (Ex×Sk):=[(Ex.exit 0,⟨[td,td,td,tf [CS.own 3 1]]++dd 33,[],[(3,3,Aa)]⟩)]
def Qg:Lp:=A4 PG C_planner_changes_0 64 3 (A3 PG 151 3) Qwi Qp7
def Q2i (N3:Lp):Cfg:=C_planner_changes_0.loop 3 Qwi Qp7 N3
def Q2g:Sk:=⟨[td,td,td,tf [CS.own 3 1],td,tf [CS.own 16 1],tf [ci]]++dd 30,[],[(3,3,Aa),(16,3,Aa)]⟩
def Qo7:List (Ex×Sk):=[(Ex.exit 2,⟨[td,td,td,td,td,tf [CS.own 16 1]]++dd 31,[],[(16,3,Aa)]⟩)]
def Rn (N3:Lp):Lp:=A4 PG (Q2i N3) 64 8 (A3 PG 151 8) Q2g Qo7
def Q2j (N3 N8:Lp):Cfg:=(Q2i N3).loop 8 Q2g Qo7 N8
def Wk (N3 N8:Lp):Fn:=An PG (Q2j N3 N8) 64 151 X7 WZ
theorem Zey (v0:Rw) (v1:Int):Qg [.view Aa v0,I v1]=
 bif decide (v1>0)then
 bif((v0++[[I v1]]).length*8).ble 140737488355328 then
 some (0,[.view Aa (v0++[[I v1]]),I (wrap .i64 (v1.tdiv 2))])
 else
 none
 else
 some (1,[.view Aa v0]):=by kernel_rfl
theorem Zep (N3:Lp) (v0 v1:Rw) (v2:Int):Rn N3 [.view Aa v0, .view Aa v1,I v2]=
 bif decide (v2>=0)then
 bif decide (0<=v2)&&decide (v2<(v0.length:Int))then
 bif((v1++[[I (wrap .i64 (0-gA (nth [] v0 v2.toNat) 0))]]).length*8).ble 140737488355328 then
 some (0,[.view Aa v0, .view Aa (v1++[[I (wrap .i64 (0-gA (nth [] v0 v2.toNat) 0))]]),I (wrap .i64 (v2-1))])
 else
 none
 else
 none
 else
 some (1,[.view Aa v1]):=by kernel_rfl
theorem Zyy (N3 N8:Lp) (x0:Int):Wk N3 N8 [I x0]=
 (N3 [.view Aa [],I x0]).bind fun o3=>
 bif o3.1.beq 1 then
 bif(([]++wA o3.2 0).length*8).ble 140737488355328 then
 bif(([]++wA o3.2 0++[[I 0]]).length*8).ble 140737488355328 then
 (N8 [.view Aa (wA o3.2 0), .view Aa ([]++wA o3.2 0++[[I 0]]),I (wrap .i64 ((↑(wA o3.2 0).length:Int)-1))]).bind fun o4=>
 bif o4.1.beq 1 then
 some [.view Aa (wA o4.2 0)]
 else
 none
 else
 none
 else
 none
 else
 none:=by kernel_rfl
def X4:=Am (Qg)
def Q4y:=Am (Rn X4)
def Oa:=Wk X4 Q4y
theorem Qg4:Ai PG (C_planner_changes_0):=Ap rfl trivial
theorem Zd4:Ak PG (151,Ac X7 WZ Oa):=rw2 (C:=(Q2j X4 Q4y)) (fl (fl fb Qg4) Qg4) Qg4
def XD:Sk:=⟨[TS.v true [ci,ci,ci,CS.sl Ag,CS.sl kPt],TS.v true (cc 9++[CS.sl Aa]++cc 9++[CS.sl Aa]++cc 9++[CS.sl Aa]),TS.v true ([CS.sl As]++cc 5),TS.v true [ci,ci,ci],TS.v true [ci,ci,CS.bool,CS.bool,CS.bool],TS.v true (cc 6),tf [ci]],[],[]⟩
def Qf2:Sk:=⟨[TS.v true (cc 6)],[],[]⟩
def Qj3 (M:Fn):Nat×Spec:=(104,Ac XD Qf2 M)
def WH (Bx DJ GR Cj CQ Gz:Fn):Cfg:=cf [Qck Bx,Qpt DJ,Zuv GR,Q06 Cj,Qn8 CQ,Zol Gz]
def Qwu:Sk:=⟨dd 6++[tf [ci],tf [CS.ptr 7 0],tf [CS.ptr 8 0],tf [CS.ptr 9 0],tf [CS.ptr 10 0],tf [CS.ptr 11 0],tf [CS.ptr 12 0],td,tf [CS.ptr 14 0],tf [CS.ptr 15 0],tf [CS.bool]]++dd 6++[tf [CS.sl Aa],tf [ci],tf [ci]]++dd 57,[(7,58,[ci,ci,ci,CS.sl Ag,CS.sl kPt]),(8,27,cc 9++[CS.sl Aa]++cc 9++[CS.sl Aa]++cc 9++[CS.sl Aa]),(9,62,[CS.sl As]++cc 5),(10,29,[ci,ci,ci]),(11,92,[ci,ci,CS.bool,CS.bool,CS.bool]),(12,50,cc 6),(14,50,cc 6),(15,50,cc 6)],[]⟩
def Q25:List (Ex×Sk):=[(Ex.exit 0,⟨dd 10++[tf [CS.ptr 10 0],td,tf [CS.ptr 12 0],td,tf [CS.ptr 14 0],tf [CS.ptr 15 0],tf [CS.bool]]++dd 66,[(10,29,[ci,ci,ci]),(12,50,cc 6),(14,50,cc 6),(15,50,cc 6)],[]⟩)]
def WJ (Bx DJ GR Cj CQ Gz:Fn):Lp:=A4 PG (WH Bx DJ GR Cj CQ Gz) 64 4 (A3 PG 104 4) Qwu Q25
def Qza (Bx DJ GR Cj CQ Gz:Fn) (N4:Lp):Cfg:=(WH Bx DJ GR Cj CQ Gz).loop 4 Qwu Q25 N4
def WA (Bx DJ GR Cj CQ Gz:Fn) (N4:Lp):Fn:=An PG (Qza Bx DJ GR Cj CQ Gz N4) 64 104 XD Qf2
theorem Zmz (Bx DJ GR Cj CQ Gz:Fn) (v0:Int) (v1:Bool) (v2:Rw) (v3 v4:Int) (v46 v47 v48 v49 v50:Int) (v51 v52 v53:Bool) (v54 v55 v56 v57 v58 v59 v60 v61 v62 v63 v64 v65 v66 v67 v68 v69 v70 v71:Int) (p:Pth) (x:Ax3) (t:Trk):WJ Bx DJ GR Cj CQ Gz (I v0::B v1:: .view Aa v2::I v3::I v4::pxt p x t [I v46,I v47,I v48,I v49,I v50,B v51,B v52,B v53,I v54,I v55,I v56,I v57,I v58,I v59,I v60,I v61,I v62,I v63,I v64,I v65,I v66,I v67,I v68,I v69,I v70,I v71])=
 bif decide (v4<v3)then
 bif decide (0<=v4)&&decide (v4<(v2.length:Int))then
 bif decide (wrap .i64 (v55+wrap .i64 (v56+gA (nth [] v2 v4.toNat) 0))<0)then
 some (0,(I v0::B v1:: .view Aa v2::I v3::I (wrap .i64 (v4+1))::pxt p x t [I v46,I v47,I v48,I v49,I v50,B v51,B v52,B v53,I v54,I v55,I v56,I v57,I v58,I v59,I v60,I v61,I v62,I v63,I v64,I v65,I v66,I v67,I v68,I v69,I v70,I v71]))
 else
 (CQ [I v46,I v47,I v48,I (wrap .i64 (v55+wrap .i64 (v56+gA (nth [] v2 v4.toNat) 0))),I (wrap .i64 (v56+gA (nth [] v2 v4.toNat) 0))]).bind fun o9=>
 bif !bA o9 0 then
 some (0,(I v0::B v1:: .view Aa v2::I v3::I (wrap .i64 (v4+1))::pxt p x t [I v46,I v47,I v48,I v49,I v50,B v51,B v52,B v53,I v54,I v55,I v56,I v57,I v58,I v59,I v60,I v61,I v62,I v63,I v64,I v65,I v66,I v67,I v68,I v69,I v70,I v71]))
 else
 (Cj [I v54,I v55,I v56,I v57,I v58,I v59,I (wrap .i64 (v55+wrap .i64 (v56+gA (nth [] v2 v4.toNat) 0)))]).bind fun o10=>
 (GR (Dg p t [I v46,I v47,I v48,I v49,I v50,B v51,B v52,B v53,jA o10 0,jA o10 1,jA o10 2,jA o10 3,jA o10 4,jA o10 5])).bind fun o11=>
 bif bA o11 0 then
 (DJ (pxt p x t [I v46,I v47,I v48,jA o10 0,jA o10 1,jA o10 2,jA o10 3,jA o10 4,jA o10 5,I v0])).bind fun o12=>
 bif bA o12 0 then
 some (1,[B true,I v46,I v47,I v48,I v54,I v55,I v56,I v57,I v58,I v59,I v60,I v61,I v62,I v63,I v64,I v65,jA o10 0,jA o10 1,jA o10 2,jA o10 3,jA o10 4,jA o10 5])
 else
 some (0,(I v0::B v1:: .view Aa v2::I v3::I (wrap .i64 (v4+1))::pxt p x t [I v46,I v47,I v48,I v49,I v50,B v51,B v52,B v53,I v54,I v55,I v56,I v57,I v58,I v59,I v60,I v61,I v62,I v63,I v64,I v65,jA o10 0,jA o10 1,jA o10 2,jA o10 3,jA o10 4,jA o10 5]))
 else
 some (0,(I v0::B v1:: .view Aa v2::I v3::I (wrap .i64 (v4+1))::pxt p x t [I v46,I v47,I v48,I v49,I v50,B v51,B v52,B v53,I v54,I v55,I v56,I v57,I v58,I v59,I v60,I v61,I v62,I v63,I v64,I v65,jA o10 0,jA o10 1,jA o10 2,jA o10 3,jA o10 4,jA o10 5]))
 else
 none
 else
 some (1,[B v1,I v46,I v47,I v48,I v54,I v55,I v56,I v57,I v58,I v59,I v60,I v61,I v62,I v63,I v64,I v65,I v66,I v67,I v68,I v69,I v70,I v71]):=by kernel_rfl
theorem Zx0 (Bx DJ GR Cj CQ Gz:Fn) (N4:Lp) (x41 x42 x43 x44 x45:Int) (x46 x47 x48:Bool) (x49 x50 x51 x52 x53 x54 x55:Int) (p:Pth) (x:Ax3) (t:Trk):WA Bx DJ GR Cj CQ Gz N4 (pxt p x t [I x41,I x42,I x43,I x44,I x45,B x46,B x47,B x48,I x49,I x50,I x51,I x52,I x53,I x54,I x55])=
 (Gz [I x42]).bind fun o13=>
 (N4 (I x55::B false:: .view Aa (wA o13 0)::I (↑(wA o13 0).length:Int)::I 0::pxt p x t [I x41,I x42,I x43,I x44,I x45,B x46,B x47,B x48,I x49,I x50,I x51,I x52,I x53,I x54,I 0,I 0,I 0,I 0,I 0,I 0,I 0,I 0,I 0,I 0,I 0,I 0])).bind fun o14=>
 bif o14.1.beq 1 then
 bif bA o14.2 0 then
 some [jA o14.2 16,jA o14.2 17,jA o14.2 18,jA o14.2 19,jA o14.2 20,jA o14.2 21]
 else
 (Bx [jA o14.2 1,jA o14.2 2,jA o14.2 3,jA o14.2 5,jA o14.2 6]).bind fun o15=>
 (Cj [jA o14.2 4,jA o14.2 5,jA o14.2 6,jA o14.2 7,jA o14.2 8,jA o14.2 9,I (wrap .i64 (gA o14.2 5+gA o15 0))]).bind fun o16=>
 some [jA o16 0,jA o16 1,jA o16 2,jA o16 3,jA o16 4,jA o16 5]
 else
 none:=by kernel_rfl
def Qv3:=Am (WJ Fp HP JC Jd Gm Oa)
def EK:=WA Fp HP JC Jd Gm Oa Qv3
theorem Qua:Ai PG (WH Fp HP JC Jd Gm Oa):=Ap rfl ⟨Qfo,Qtx,Zup,Qyy,Qwf,Zd4,trivial⟩
theorem Qbb:Ak PG (104,Ac XD Qf2 EK):=rw2 (C:=(Qza Fp HP JC Jd Gm Oa Qv3)) (fl fb Qua) Qua
def Qhc:Sk:=⟨[TS.v true [ci,ci,ci],TS.v true (cc 6)],[],[]⟩
def Qjl:Sk:=⟨[TS.tup [(false,[ci]),(false,[CS.bool])]],[],[]⟩
def Qsi (M:Fn):Nat×Spec:=(35,Ac Qhc Qjl M)
def Qdi (CI:Fn):Cfg:=cf [Qgl CI]
def Kr (CI:Fn):Fn:=An PG (Qdi CI) 64 35 Qhc Qjl
theorem TM (CI:Fn) (x0 x1 x2 x3 x4 x5 x6 x7 x8:Int):Kr CI [I x0,I x1,I x2,I x3,I x4,I x5,I x6,I x7,I x8]=
 (CI [I x0,I x1,I x2,I x3,I x4,I x5,I x6,I x7,I x8]).bind fun o1=>
 bif !bA o1 1 then
 some [I 0,B false]
 else
 bif(↑(wA o1 0).length:Int)==0 then
 some [I x3,B true]
 else
 bif decide (0<=wrap .i64 ((↑(wA o1 0).length:Int)-1))&&decide (wrap .i64 ((↑(wA o1 0).length:Int)-1)<(↑(wA o1 0).length:Int))then
 some [I (Af (nth .dead (nth [] (wA o1 0) (wrap .i64 ((↑(wA o1 0).length:Int)-1)).toNat) 0)),B true]
 else
 none:=by kernel_rfl
def FB:=Kr EE
theorem Zih:Ai PG (Qdi EE):=Ap rfl ⟨Vo,trivial⟩
theorem Q1o:Ak PG (35,Ac Qhc Qjl FB):=rw1 (C:=(Qdi EE)) Zih
def Wl:Sk:=⟨[tf [ci],tf [ci]],[],[]⟩
def Qik:Sk:=⟨[tf [ci]],[],[]⟩
def Zag (M:Fn):Nat×Spec:=(200,Ac Wl Qik M)
def Qjf (AI:Fn):Cfg:=cf [KR AI]
def Qmw (AI:Fn):Fn:=An PG (Qjf AI) 64 200 Wl Qik
theorem Zve (AI:Fn) (x0 x1:Int):Qmw AI [I x0,I x1]=
 (AI [I x0,I x1,I 4096,I 0]).bind fun o1=>
 some [jA o1 0]:=by kernel_rfl
def Pp:=Qmw Bi
theorem Zal:Ai PG (Qjf Bi):=Ap rfl ⟨KG,trivial⟩
theorem Zmr:Ak PG (200,Ac Wl Qik Pp):=rw1 (C:=(Qjf Bi)) Zal
def Wc:Sk:=⟨[tf [ci],tf [ci]],[],[]⟩
def Qmt:Sk:=⟨[tf [ci]],[],[]⟩
def Z0v (M:Fn):Nat×Spec:=(201,Ac Wc Qmt M)
def Qm2:Cfg:=cf []
def Qj8:Fn:=An PG Qm2 64 201 Wc Qmt
theorem Zoe (x0 x1:Int):Qj8 [I x0,I x1]=
 some [I (mx (wrap .i64 (x0-x1)) (wrap .i64 (x1-x0)))]:=by kernel_rfl
def OV:=Qj8
theorem Znf:Ai PG (Qm2):=Ap rfl trivial
theorem Q9r:Ak PG (201,Ac Wc Qmt OV):=rw1 (C:=Qm2) Znf
def Qb9:Sk:=⟨[TS.v true [ci,ci,ci,CS.sl Ag,CS.sl kPt],TS.v true (cc 9++[CS.sl Aa]++cc 9++[CS.sl Aa]++cc 9++[CS.sl Aa]),TS.v true ([CS.sl As]++cc 5),TS.v true [ci,ci,ci],TS.v true [ci,ci,CS.bool,CS.bool,CS.bool],TS.v true (cc 6),tf [ci],tf [ci],TS.v true [ci,ci,ci,ci],tf [ci],tf [ci]],[],[]⟩
def Qkh:Sk:=⟨[TS.tup [(true,cc 6),(true,[ci,ci,ci,ci]),(false,[ci])]],[],[]⟩
def Zds (M:Fn):Nat×Spec:=(181,Ac Qb9 Qkh M)
def Y9 (CH Bx Ea DJ Cj LK Lf:Fn):Cfg:=cf [Qj3 CH,Qck Bx,Qsi Ea,Qpt DJ,Q06 Cj,Zag LK,Z0v Lf]
def Qkl (CH Bx Ea DJ Cj LK Lf:Fn):Fn:=An PG (Y9 CH Bx Ea DJ Cj LK Lf) 64 181 Qb9 Qkh
abbrev Qbd (Ea:Fn) (x41 x42 x43:Int) (o33:List AC) (x58:Int) (o26:List AC) (x60 x49 x55:Int) (Bx:Fn) (x50 x51:Int) (Cj:Fn) (x52 x53 x54 x59:Int):Option (List AC):=
 (Ea [I x41,I x42,I x43,jA o33 0,jA o33 1,jA o33 2,jA o33 3,jA o33 4,jA o33 5]).bind fun o35=>
 bif decide (wrap .i64 (wrap .i64 (wrap .i64 (x58+gA o26 0)-x60)-x49)>=0)then
 bif decide (gA o35 0>wrap .i64 (x55*256))then
 (Bx [I x41,I x42,I x43,I x50,I x51]).bind fun o36=>
 (Cj [I x49,I x50,I x51,I x52,I x53,I x54,I (wrap .i64 (x50+gA o36 0))]).bind fun o37=>
 some [jA o37 0,jA o37 1,jA o37 2,jA o37 3,jA o37 4,jA o37 5,I 3,I x58,I x59,I x60,I 0]
 else
 (Bx [I x41,I x42,I x43,I x50,I x51]).bind fun o38=>
 (Cj [I x49,I x50,I x51,I x52,I x53,I x54,I (wrap .i64 (x50+gA o38 0))]).bind fun o39=>
 some [jA o39 0,jA o39 1,jA o39 2,jA o39 3,jA o39 4,jA o39 5,I 3,I x58,I x59,I x60,I 18]
 else
 (Bx [I x41,I x42,I x43,I x50,I x51]).bind fun o40=>
 (Cj [I x49,I x50,I x51,I x52,I x53,I x54,I (wrap .i64 (x50+gA o40 0))]).bind fun o41=>
 some [jA o41 0,jA o41 1,jA o41 2,jA o41 3,jA o41 4,jA o41 5,I 3,I x58,I x59,I x60,I 18]
attribute [go_sem] Qbd
theorem Zhy (CH Bx Ea DJ Cj LK Lf:Fn) (x41 x42 x43 x44 x45:Int) (x46 x47 x48:Bool) (x49 x50 x51 x52 x53 x54 x55 x56 x57 x58 x59 x60 x61 x62:Int) (p:Pth) (x:Ax3) (t:Trk):Qkl CH Bx Ea DJ Cj LK Lf (pxt p x t [I x41,I x42,I x43,I x44,I x45,B x46,B x47,B x48,I x49,I x50,I x51,I x52,I x53,I x54,I x55,I x56,I x57,I x58,I x59,I x60,I x61,I x62])=
 (Lf [I x62,I x59]).bind fun o25=>
 (LK [I x56,jA o25 0]).bind fun o26=>
 bif x57==1 then
 (Lf [I x61,I x59]).bind fun o27=>
 (LK [I x56,jA o27 0]).bind fun o28=>
 (Cj [I x49,I x50,I x51,I x52,I x53,I x54,I (wrap .i64 (gA o26 0-gA o28 0))]).bind fun o29=>
 bif wrap .i64 (gA o26 0-gA o28 0) !=0 then
 (DJ (pxt p x t [I x41,I x42,I x43,jA o29 0,jA o29 1,jA o29 2,jA o29 3,jA o29 4,jA o29 5,I x55])).bind fun o30=>
 bif bA o30 0 then
 some [jA o29 0,jA o29 1,jA o29 2,jA o29 3,jA o29 4,jA o29 5,I 2,I x58,I x59,I (wrap .i64 (gA o26 0-wrap .i64 (gA o29 0-x58))),I 0]
 else
 (CH (pxt p x t [I x41,I x42,I x43,I x44,I x45,B false,B x47,B x48,I x49,I x50,I x51,I x52,I x53,I x54,I x55])).bind fun o31=>
 some [jA o31 0,jA o31 1,jA o31 2,jA o31 3,jA o31 4,jA o31 5,I x57,I x58,I x59,I x60,I 0]
 else
 (CH (pxt p x t [I x41,I x42,I x43,I x44,I x45,B false,B x47,B x48,I x49,I x50,I x51,I x52,I x53,I x54,I x55])).bind fun o32=>
 some [jA o32 0,jA o32 1,jA o32 2,jA o32 3,jA o32 4,jA o32 5,I x57,I x58,I x59,I x60,I 0]
 else
 bif x57==2 then
 (Cj [I x49,I x50,I x51,I x52,I x53,I x54,I (wrap .i64 (wrap .i64 (wrap .i64 (x58+gA o26 0)-x60)-x49))]).bind fun o33=>
 bif decide (wrap .i64 (wrap .i64 (wrap .i64 (x58+gA o26 0)-x60)-x49)>=0)then
 (DJ (pxt p x t [I x41,I x42,I x43,jA o33 0,jA o33 1,jA o33 2,jA o33 3,jA o33 4,jA o33 5,I x55])).bind fun o34=>
 bif bA o34 0 then
 some [jA o33 0,jA o33 1,jA o33 2,jA o33 3,jA o33 4,jA o33 5,I x57,I x58,I x59,I x60,I 0]
 else
 Qbd Ea x41 x42 x43 o33 x58 o26 x60 x49 x55 Bx x50 x51 Cj x52 x53 x54 x59
 else
 Qbd Ea x41 x42 x43 o33 x58 o26 x60 x49 x55 Bx x50 x51 Cj x52 x53 x54 x59
 else
 (CH (pxt p x t [I x41,I x42,I x43,I x44,I x45,B false,B x47,B x48,I x49,I x50,I x51,I x52,I x53,I x54,I x55])).bind fun o49=>
 some [jA o49 0,jA o49 1,jA o49 2,jA o49 3,jA o49 4,jA o49 5,I x57,I x58,I x59,I x60,I 0]:=by kernel_rfl
def H6:=Qkl EK Fp FB HP Jd Pp OV
theorem Zx6:Ai PG (Y9 EK Fp FB HP Jd Pp OV):=Ap rfl ⟨Qbb,Qfo,Q1o,Qtx,Qyy,Zmr,Q9r,trivial⟩
theorem Zk9:Ak PG (181,Ac Qb9 Qkh H6):=rw1 (C:=(Y9 EK Fp FB HP Jd Pp OV)) Zx6
def Xf:Sk:=⟨[tf [CS.ptr 20000 0],tf [ci]],[(20000,119,cS)],[]⟩
def Zl:Sk:=⟨[TS.tup []],[(20000,119,cS)],[]⟩
def Qgg (M:Fn):Nat×Spec:=(159,Ac Xf Zl M)
def Qj9 (CH:Fn):Cfg:=cf [Qj3 CH]
def Uk (CH:Fn):Fn:=An PG (Qj9 CH) 64 159 Xf Zl
theorem Q9y (CH:Fn) (x0:Int) (K:Kf) (c:Cv):Uk CH (I x0::Ad K c)=
 (CH (pxt K.p K.x K.t [I K.pa,I K.pb,I K.pc,I c.o0,I c.o1,B c.o2,B c.o3,B c.o4,I c.m0,I c.m1,I c.m2,I c.m3,I c.m4,I c.m5,I x0])).bind fun o1=>
 some (Ad K {c with m0:=gA o1 0,m1:=gA o1 1,m2:=gA o1 2,m3:=gA o1 3,m4:=gA o1 4,m5:=gA o1 5}):=by kernel_rfl
def Hp:=Uk EK
theorem Zpo:Ai PG (Qj9 EK):=Ap rfl ⟨Qbb,trivial⟩
theorem U4:Ak PG (159,Ac Xf Zl Hp):=rw1 (C:=(Qj9 EK)) Zpo
def Wm:Sk:=⟨[tf [CS.ptr 20000 0],tf [ci],TS.v true (cc 7)],[(20000,119,cS)],[]⟩
def Qmf:Sk:=⟨[TS.tup []],[(20000,119,cS)],[]⟩
def Q9k (M:Fn):Nat×Spec:=(162,Ac Wm Qmf M)
def Qg3 (Db Mi Dz:Fn):Cfg:=cp [Qao Db,Zds Mi,Qgg Dz] [108,159]
def Yg (Db Mi Dz:Fn):Fn:=An PG (Qg3 Db Mi Dz) 64 162 Wm Qmf
theorem Z1a (Db Mi Dz:Fn) (x0 x1 x2 x3 x4 x5 x6 x7:Int) (K:Kf) (c:Cv):Yg Db Mi Dz (I x0::I x1::I x2::I x3::I x4::I x5::I x6::I x7::Ad K c)=
 bif c.g0 !=0 then
 (Dz (I x0::Ad K c)).bind fun o3=>
 some (D_ (cR 0 o3) [(82,I 3)])
 else
 (Mi (pxt K.p K.x K.t [I K.pa,I K.pb,I K.pc,I c.o0,I c.o1,B c.o2,B c.o3,B c.o4,I c.m0,I c.m1,I c.m2,I c.m3,I c.m4,I c.m5,I x0,I x7,I c.e0,I c.e1,I c.e2,I c.e3,I c.before,I c.s3])).bind fun o4=>
 bif gA o4 10 !=0 then
 (Db (Ad K {c with m0:=gA o4 0,m1:=gA o4 1,m2:=gA o4 2,m3:=gA o4 3,m4:=gA o4 4,m5:=gA o4 5,e0:=gA o4 6,e1:=gA o4 7,e2:=gA o4 8,e3:=gA o4 9})).bind fun o5=>
 some (cR 0 o5)
 else
 some (Ad K {c with m0:=gA o4 0,m1:=gA o4 1,m2:=gA o4 2,m3:=gA o4 3,m4:=gA o4 4,m5:=gA o4 5,e0:=gA o4 6,e1:=gA o4 7,e2:=gA o4 8,e3:=gA o4 9}):=by kernel_rfl
def O3:=Yg GT H6 Hp
theorem Zd9:Ai PG (Qg3 GT H6 Hp):=Ap rfl ⟨Zm,Zk9,U4,trivial⟩
theorem Zsw:Ak PG (162,Ac Wm Qmf O3):=rw1 (C:=(Qg3 GT H6 Hp)) Zd9
def UI:Sk:=⟨[tf [ci],tf [ci]],[],[]⟩
def Qcs:Sk:=⟨[tf [ci]],[],[]⟩
def Qrb (M:Fn):Nat×Spec:=(42,Ac UI Qcs M)
def Qa7 (AI:Fn):Cfg:=cf [KR AI]
def QR (AI:Fn):Fn:=An PG (Qa7 AI) 64 42 UI Qcs
theorem Q2v (AI:Fn) (x0 x1:Int):QR AI [I x0,I x1]=
 (AI [I 4096,I x1,I x0,I 0]).bind fun o1=>
 some [jA o1 0]:=by kernel_rfl
def Fu:=QR Bi
theorem Zu2:Ai PG (Qa7 Bi):=Ap rfl ⟨KG,trivial⟩
theorem Qrn:Ak PG (42,Ac UI Qcs Fu):=rw1 (C:=(Qa7 Bi)) Zu2
def Qit:Sk:=⟨[tf [CS.ptr 20000 0],tf [ci],TS.v true (cc 7)],[(20000,119,cS)],[]⟩
def Qar:Sk:=⟨[TS.tup []],[(20000,119,cS)],[]⟩
def Zmg (M:Fn):Nat×Spec:=(161,Ac Qit Qar M)
def Qnm (DA B8 Dz:Fn):Cfg:=cr [Qrb DA,Rt B8,Qgg Dz] [110,159] [110]
def Qi2 (DA B8 Dz:Fn):Fn:=An PG (Qnm DA B8 Dz) 64 161 Qit Qar
theorem Zwo (DA B8 Dz:Fn) (x0 x1 x2 x3 x4 x5 x6 x7:Int) (K:Kf) (c:Cv):Qi2 DA B8 Dz (I x0::I x1::I x2::I x3::I x4::I x5::I x6::I x7::Ad K c)=
 (Dz (I x0::Ad K c)).bind fun o5=>
 bif decide (0<=x5)&&decide (x5<(↑(wA o5 35).length:Int))then
 bif Af (nth .dead (nth [] (wA o5 35) x5.toNat) 19)==3 then
 (B8 (cR 0 o5)).bind fun o6=>
 (DA [I x7,I (wrap .i64 (gA o6 0-gA o5 80))]).bind fun o7=>
 some (D_ (cR 0 o5) [(67,I (wrap .i64 (gA o5 81+wrap .i64 (wrap .i64 (1*gA o7 0)*256))))])
 else
 (B8 (cR 0 o5)).bind fun o8=>
 (DA [I x7,I (wrap .i64 (gA o8 0-gA o5 80))]).bind fun o9=>
 some (D_ (cR 0 o5) [(67,I (wrap .i64 (gA o5 81+wrap .i64 (wrap .i64 (-1*gA o9 0)*256))))])
 else
 none:=by kernel_rfl
def Qj:=Qi2 Fu EF Hp
theorem Ztf:Ai PG (Qnm Fu EF Hp):=IC (rs:=[110]) rfl ⟨Qrn,S9,U4,trivial⟩ rfl (CZ rfl (Hh (CZ rfl I9)))
theorem Zh4:Ak PG (161,Ac Qit Qar Qj):=rw1 (C:=(Qnm Fu EF Hp)) Ztf
def Vn:Sk:=⟨[tf [ci],tf [ci]],[],[]⟩
def VW:Sk:=⟨[tf [ci]],[],[]⟩
def Zxm (M:Fn):Nat×Spec:=(199,Ac Vn VW M)
def Qfr:Cfg:=cf []
def Wy:Fn:=An PG Qfr 64 199 Vn VW
theorem Zav (x0 x1:Int):Wy [I x0,I x1]=
 bif decide (x1=0)then
 none
 else
 bif decide (x1=0)then
 none
 else
 bif decide (x0.tmod x1<0)then
 some [I (wrap .i64 (wrap .i64 (x0.tdiv x1)-1))]
 else
 some [I (wrap .i64 (x0.tdiv x1))]:=by kernel_rfl
def JO:=Wy
theorem Zs6:Ai PG (Qfr):=Ap rfl trivial
theorem Zrq:Ak PG (199,Ac Vn VW JO):=rw1 (C:=Qfr) Zs6
def Qnf:Sk:=⟨[tf [ci],tf [ci]],[],[]⟩
def Qb1:Sk:=⟨[tf [ci]],[],[]⟩
def Q8j (M:Fn):Nat×Spec:=(180,Ac Qnf Qb1 M)
def Yx (KI:Fn):Cfg:=cf [Zxm KI]
def Yy (KI:Fn):Fn:=An PG (Yx KI) 64 180 Qnf Qb1
theorem Zny (KI:Fn) (x0 x1:Int):Yy KI [I x0,I x1]=
 bif x1== -1 then
 (KI [I x0,I 1048576]).bind fun o2=>
 some [I (wrap .i64 (gA o2 0*1048576))]
 else
 (KI [I (wrap .i64 (0-x0)),I 1048576]).bind fun o3=>
 some [I (wrap .i64 (wrap .i64 (0-gA o3 0)*1048576))]:=by kernel_rfl
def JI:=Yy JO
theorem Zow:Ai PG (Yx JO):=Ap rfl ⟨Zrq,trivial⟩
theorem Zjj:Ak PG (180,Ac Qnf Qb1 JI):=rw1 (C:=(Yx JO)) Zow
def Qma:Sk:=⟨[tf [CS.ptr 20000 0],TS.v true (cc 7)],[(20000,119,cS)],[]⟩
def Vp:Sk:=⟨[tf [CS.bool]],[(20000,119,cS)],[]⟩
def Zem (M:Fn):Nat×Spec:=(160,Ac Qma Vp M)
def Qe8 (B8 Oc:Fn):Cfg:=cr [Rt B8,Q8j Oc] [110] [110]
def Qm9 (B8 Oc:Fn):Fn:=An PG (Qe8 B8 Oc) 64 160 Qma Vp
theorem Q9v (B8 Oc:Fn) (x0 x1 x2 x3 x4 x5 x6:Int) (K:Kf) (c:Cv):Qm9 B8 Oc (I x0::I x1::I x2::I x3::I x4::I x5::I x6::Ad K c)=
 (Oc [I c.before,I c.s0]).bind fun o3=>
 bif decide (0<=x4)&&decide (x4<((K.aA.map Ah).length:Int))then
 bif gA (nth [] (K.aA.map Ah) x4.toNat) 0 !=6 then
 bif c.s1==0 then
 some (B false::Ad K c)
 else
 bif decide (wrap .i64 (wrap .i64 (c.s3-gA o3 0)*c.s0)<0)then
 some (B false::Ad K c)
 else
 (B8 (Ad K c)).bind fun o4=>
 some (B true::Ad K {c with y0:=x4,y1:=gA o4 0,y2:=c.s3,e0:=1,e1:=c.m0,e2:=gA o3 0,e3:=0})
 else
 (B8 (Ad K c)).bind fun o5=>
 some (B true::Ad K {c with y0:=x4,y1:=gA o5 0,y2:=c.s3,e0:=1,e1:=c.m0,e2:=gA o3 0,e3:=0})
 else
 none:=by kernel_rfl
def Pk:=Qm9 EF JI
theorem Zn8:Ai PG (Qe8 EF JI):=IC (rs:=[110]) rfl ⟨S9,Zjj,trivial⟩ rfl (Hh (CZ rfl I9))
theorem Zqk:Ak PG (160,Ac Qma Vp Pk):=rw1 (C:=(Qe8 EF JI)) Zn8
def ZE:Sk:=⟨[tf [CS.ptr 20000 0]],[(20000,119,cS)],[]⟩
def Qml:Sk:=⟨[TS.tup [(true,cc 7),(false,[CS.bool])]],[],[]⟩
def Qs8 (M:Fn):Nat×Spec:=(102,EZ ZE Qml M)
def Qm (Dy B8:Fn):Cfg:=cr [Qnn Dy,Rt B8] [110] [110]
def Qey (Dy B8:Fn):Fn:=Nc PG (Qm Dy B8) 64 102 ZE Qml
theorem Zh6 (Dy B8:Fn) (K:Kf) (c:Cv):Qey Dy B8 (Ad K c)=
 (B8 (Ad K c)).bind fun o2=>
 (Dy (Bp K.p++[jA o2 0])).bind fun o3=>
 bif decide (gA o3 0<0)then
 some [I 0,I 0,I 0,I 0,I 0,I 0,I 0,B false]
 else
 bif decide (0<=gA o3 0)&&decide (gA o3 0<((K.p.aF.map Ay).length:Int))then
 some (AJ Ag (nth [] (K.p.aF.map Ay) (gA o3 0).toNat)++[B true])
 else
 none:=by kernel_rfl
def Hj:=Qey EM EF
theorem Zmi:Ai PG (Qm EM EF):=IC (rs:=[110]) rfl ⟨Yd,S9,trivial⟩ rfl (CZ rfl (Hh I9))
theorem Zk3 (vars : List AC) (R : Type) (K : TV -> Mem -> Option R) : Fb PG (Qm EM EF) 64 102 [TV.v false [AC.ptr 20000 0]] ⟨[(20000, (⟨119, (cR 0 vars)⟩ : Box))], []⟩ K = Fb PG (Qm EM EF) 64 102 [TV.v false [AC.ptr 20000 0]] ⟨[(20000, (⟨119, (cR 0 vars)⟩ : Box))], []⟩ (fun v _ => K v ⟨[(20000, (⟨119, (cR 0 vars)⟩ : Box))], []⟩) := Eq.trans (b := ((EF (cR 0 vars)).bind fun o2 =>
 (EM [jA vars 37,jA vars 38,jA vars 39, .view Ag (wA vars 40), .view kPt (wA vars 41),jA o2 0]).bind fun o3=>
 bif decide (gA o3 0<0)then
 K (TV.tup [(true,[I 0,I 0,I 0,I 0,I 0,I 0,I 0]),(false,[B false])]) ⟨[(20000,(⟨119,(cR 0 vars)⟩:Box))],[]⟩
 else
 bif decide (0<=gA o3 0)&&decide (gA o3 0<(↑(wA vars 40).length:Int))then
 K (TV.tup [(true,[I (Af (nth .dead (nth [] (wA vars 40) (gA o3 0).toNat) 0)),I (Af (nth .dead (nth [] (wA vars 40) (gA o3 0).toNat) 1)),I (Af (nth .dead (nth [] (wA vars 40) (gA o3 0).toNat) 2)),I (Af (nth .dead (nth [] (wA vars 40) (gA o3 0).toNat) 3)),I (Af (nth .dead (nth [] (wA vars 40) (gA o3 0).toNat) 4)),I (Af (nth .dead (nth [] (wA vars 40) (gA o3 0).toNat) 5)),I (Af (nth .dead (nth [] (wA vars 40) (gA o3 0).toNat) 6))]),(false,[B true])]) ⟨[(20000,(⟨119,(cR 0 vars)⟩:Box))],[]⟩
 else
 none)) (by kernel_rfl) (Eq.symm (by kernel_rfl))
theorem Q1v:Ak PG (102,EZ ZE Qml Hj):=RA (C:=(Qm EM EF)) (L:=64) (by kernel_rfl) (FnOK.bare rfl rfl rfl) Zmi eqOk Ii (by kernel_rfl) (by kernel_rfl) (fun vars R K=>Zk3 vars R K)
def T7:Sk:=⟨[tf [CS.ptr 20000 0],tf [ci]],[(20000,119,cS)],[]⟩
def Qhr:Sk:=⟨[TS.tup []],[(20000,119,cS)],[]⟩
def Zt6 (M:Fn):Nat×Spec:=(109,Ac T7 Qhr M)
def Qcn (H8 Iu Db IE Dz FR:Fn):Cfg:=cr [Q9k H8,Zmg Iu,Qao Db,Zem IE,Qgg Dz,Qs8 FR] [162,161,108,160,159,102] [102]
def Qlm (H8 Iu Db IE Dz FR:Fn):Fn:=An PG (Qcn H8 Iu Db IE Dz FR) 64 109 T7 Qhr
abbrev Sy (c:Cv) (o15:List AC) (IE:Fn) (K:Kf) (Db Iu:Fn) (x0:Int) (H8:Fn):Option (List AC):=
 bif !c.y0==gA o15 4 then
 (IE (jA o15 0::jA o15 1::jA o15 2::jA o15 3::jA o15 4::jA o15 5::jA o15 6::Ad K c)).bind fun o18=>
 bif !bA o18 0 then
 bif gA o18 66==0 then
 (Db (cR 1 o18)).bind fun o19=>
 some (cR 0 o19)
 else
 some (cR 1 o18)
 else
 bif decide (0<=gA o15 4)&&decide (gA o15 4<(↑(wA o18 36).length:Int))then
 bif Af (nth .dead (nth [] (wA o18 36) (gA o15 4).toNat) 0)==6 then
 (Iu (I x0::jA o15 0::jA o15 1::jA o15 2::jA o15 3::jA o15 4::jA o15 5::jA o15 6::cR 1 o18)).bind fun o20=>
 some (cR 0 o20)
 else
 (H8 (I x0::jA o15 0::jA o15 1::jA o15 2::jA o15 3::jA o15 4::jA o15 5::jA o15 6::cR 1 o18)).bind fun o21=>
 some (cR 0 o21)
 else
 none
 else
 bif decide (0<=gA o15 4)&&decide (gA o15 4<((K.aA.map Ah).length:Int))then
 bif gA (nth [] (K.aA.map Ah) (gA o15 4).toNat) 0==6 then
 (Iu (I x0::jA o15 0::jA o15 1::jA o15 2::jA o15 3::jA o15 4::jA o15 5::jA o15 6::Ad K c)).bind fun o22=>
 some (cR 0 o22)
 else
 (H8 (I x0::jA o15 0::jA o15 1::jA o15 2::jA o15 3::jA o15 4::jA o15 5::jA o15 6::Ad K c)).bind fun o23=>
 some (cR 0 o23)
 else
 none
attribute [go_sem] Sy
theorem Zz2 (H8 Iu Db IE Dz FR:Fn) (x0:Int) (K:Kf) (c:Cv):Qlm H8 Iu Db IE Dz FR (I x0::Ad K c)=
 (FR (Ad K c)).bind fun o15=>
 bif gA o15 6==0 then
 (Dz (I x0::Ad K c)).bind fun o16=>
 some (cR 0 o16)
 else
 bif c.o2 then
 bif !c.y0==gA o15 4 then
 (Dz (I x0::Ad K c)).bind fun o17=>
 some (cR 0 o17)
 else
 Sy c o15 IE K Db Iu x0 H8
 else
 Sy c o15 IE K Db Iu x0 H8:=by kernel_rfl
def O8:=Qlm O3 Qj GT Pk Hp Hj
theorem Zuf:Ai PG (Qcn O3 Qj GT Pk Hp Hj):=IC (rs:=[102]) rfl ⟨Zsw,Zh4,Zm,Zqk,U4,Q1v,trivial⟩ rfl (CZ rfl (CZ rfl (CZ rfl (CZ rfl (CZ rfl (Hh I9))))))
theorem Zvk:Ak PG (109,Ac T7 Qhr O8):=rw1 (C:=(Qcn O3 Qj GT Pk Hp Hj)) Zuf
def Zv:Sk:=⟨[tf [ci]],[],[]⟩
def Up:Sk:=⟨[tf [ci]],[],[]⟩
def Qks (M:Fn):Nat×Spec:=(88,Ac Zv Up M)
def Qe9 (AI:Fn):Cfg:=cf [KR AI]
def TK (AI:Fn):Fn:=An PG (Qe9 AI) 64 88 Zv Up
theorem Q3q (AI:Fn) (x0:Int):TK AI [I x0]=
 (AI [I x0,I 1048576,I 60000,I 2]).bind fun o1=>
 some [jA o1 0]:=by kernel_rfl
def EW:=TK Bi
theorem Zn1:Ai PG (Qe9 Bi):=Ap rfl ⟨KG,trivial⟩
theorem UC:Ak PG (88,Ac Zv Up EW):=rw1 (C:=(Qe9 Bi)) Zn1
def Qlp:Sk:=⟨[tf [ci]],[],[]⟩
def Qcb:Sk:=⟨[tf [ci]],[],[]⟩
def Qu2 (M:Fn):Nat×Spec:=(177,Ac Qlp Qcb M)
def Qi8:Cfg:=cf []
def Vg:Fn:=An PG Qi8 64 177 Qlp Qcb
theorem Zmp (x0:Int):Vg [I x0]=
 bif x0==3 then
 some [I 1]
 else
 bif x0==4 then
 some [I (-1)]
 else
 some [I 0]:=by kernel_rfl
def Gk:=Vg
theorem Zr7:Ai PG (Qi8):=Ap rfl trivial
theorem Qs7:Ak PG (177,Ac Qlp Qcb Gk):=rw1 (C:=Qi8) Zr7
def Qb8:Sk:=⟨[TS.v true [ci,ci,ci,ci],tf [ci],tf [ci]],[],[]⟩
def Qb2:Sk:=⟨[tf [CS.bool]],[],[]⟩
def Zbm (M:Fn):Nat×Spec:=(150,Ac Qb8 Qb2 M)
def Qcm (Dk Gc:Fn):Cfg:=cf [Qks Dk,Qu2 Gc]
def Qfj (Dk Gc:Fn):Fn:=An PG (Qcm Dk Gc) 64 150 Qb8 Qb2
theorem Z1r (Dk Gc:Fn) (x0 x1 x2 x3 x4 x5:Int):Qfj Dk Gc [I x0,I x1,I x2,I x3,I x4,I x5]=
 (Gc [I x4]).bind fun o3=>
 bif gA o3 0==0 then
 bif x4==5 then
 bif x1==0 then
 some [B (x2==0)]
 else
 some [B false]
 else
 some [B false]
 else
 bif x0==gA o3 0 then
 (Dk [I x5]).bind fun o4=>
 bif x1==gA o4 0 then
 (Dk [I x5]).bind fun o5=>
 some [B (x2==gA o5 0)]
 else
 some [B false]
 else
 some [B false]:=by kernel_rfl
def Oe:=Qfj EW Gk
theorem Zei:Ai PG (Qcm EW Gk):=Ap rfl ⟨UC,Qs7,trivial⟩
theorem Zwn:Ak PG (150,Ac Qb8 Qb2 Oe):=rw1 (C:=(Qcm EW Gk)) Zei
def Ut:Sk:=⟨[TS.v true [ci,ci,ci,ci],tf [ci],tf [ci]],[],[]⟩
def Ql9:Sk:=⟨[TS.v true [ci,ci,ci,ci]],[],[]⟩
def Zv8 (M:Fn):Nat×Spec:=(149,Ac Ut Ql9 M)
def Yj (Dk Gc:Fn):Cfg:=cf [Qks Dk,Qu2 Gc]
def Qht (Dk Gc:Fn):Fn:=An PG (Yj Dk Gc) 64 149 Ut Ql9
theorem Zuy (Dk Gc:Fn) (x0 x1 x2 x3 x4 x5:Int):Qht Dk Gc [I x0,I x1,I x2,I x3,I x4,I x5]=
 (Gc [I x4]).bind fun o3=>
 bif x4==5 then
 some [I x0,I x1,I 0,I x3]
 else
 bif gA o3 0==0 then
 some [I x0,I x1,I x2,I x3]
 else
 bif x1==0 then
 (Dk [I x5]).bind fun o4=>
 some [jA o3 0,I x1,jA o4 0,I x3]
 else
 bif x0==gA o3 0 then
 (Dk [I x5]).bind fun o5=>
 some [jA o3 0,I x1,jA o5 0,I x3]
 else
 some [I x0,I x1,I 0,I x3]:=by kernel_rfl
def Kq:=Qht EW Gk
theorem Ziq:Ai PG (Yj EW Gk):=Ap rfl ⟨UC,Qs7,trivial⟩
theorem Zxc:Ak PG (149,Ac Ut Ql9 Kq):=rw1 (C:=(Yj EW Gk)) Ziq
def Qkm:Sk:=⟨[tf [CS.ptr 20000 0]],[(20000,119,cS)],[]⟩
def Qnu:Sk:=⟨[tf [ci]],[(20000,119,cS)],[]⟩
def Q7q (M:Fn):Nat×Spec:=(148,Ac Qkm Qnu M)
def VI:Cfg:=cf []
def UU:Fn:=An PG VI 64 148 Qkm Qnu
theorem Zl0 (K:Kf) (c:Cv):UU (Ad K c)=
 some (I 3::Ad K {c with next:=wrap .i64 (c.idx+1),on:=false,idx:=0,aN:=false,cnt:=0}):=by kernel_rfl
def L5:=UU
theorem Z0w:Ai PG (VI):=Ap rfl trivial
theorem Zeo:Ak PG (148,Ac Qkm Qnu L5):=rw1 (C:=VI) Z0w
def UZ:Sk:=⟨[tf [CS.ptr 20000 0]],[(20000,119,cS)],[]⟩
def Qev:Sk:=⟨[tf [ci]],[(20000,119,cS)],[]⟩
def Q55 (M:Fn):Nat×Spec:=(103,Ac UZ Qev M)
def Qdr (On Mb HX:Fn):Cfg:=cp [Zbm On,Zv8 Mb,Q7q HX] [148]
def U1 (On Mb HX:Fn):Fn:=An PG (Qdr On Mb HX) 64 103 UZ Qev
theorem Zkq (On Mb HX:Fn) (K:Kf) (c:Cv):U1 On Mb HX (Ad K c)=
 bif c.aN then
 bif decide (wrap .i64 (c.cnt+1)>1)then
 bif c.aJ then
 (HX (Ad K {c with cnt:=wrap .i64 (c.cnt+1)})).bind fun o7=>
 some (jA o7 0::cR 1 o7)
 else
 some (I 2::Ad K {c with cnt:=wrap .i64 (c.cnt+1)})
 else
 some (I 2::Ad K {c with cnt:=wrap .i64 (c.cnt+1)})
 else
 bif decide (0<=c.idx)&&decide (c.idx<((K.p.aD.map At).length:Int))then
 bif gA (nth [] (K.p.aD.map At) c.idx.toNat) 1 !=3 then
 (HX (Ad K {c with cnt:=wrap .i64 (c.cnt+1)})).bind fun o8=>
 some (jA o8 0::cR 1 o8)
 else
 bif decide (0<=gA (nth [] (K.p.aD.map At) c.idx.toNat) 2)&&decide (gA (nth [] (K.p.aD.map At) c.idx.toNat) 2<((K.aA.map Ah).length:Int))then
 bif gA (nth [] (K.aA.map Ah) (gA (nth [] (K.p.aD.map At) c.idx.toNat) 2).toNat) 0==7 then
 bif decide (wrap .i64 (c.cnt+1)<gA (nth [] (K.aA.map Ah) (gA (nth [] (K.p.aD.map At) c.idx.toNat) 2).toNat) 19)then
 some (I 3::Ad K {c with cnt:=wrap .i64 (c.cnt+1)})
 else
 (HX (Ad K {c with cnt:=wrap .i64 (c.cnt+1)})).bind fun o9=>
 some (jA o9 0::cR 1 o9)
 else
 bif gA (nth [] (K.aA.map Ah) (gA (nth [] (K.p.aD.map At) c.idx.toNat) 2).toNat) 0==8 then
 (Mb [I c.s0,I c.s1,I c.s2,I c.s3,jA (nth [] (K.aA.map Ah) (gA (nth [] (K.p.aD.map At) c.idx.toNat) 2).toNat) 19,jA (nth [] (K.aA.map Ah) (gA (nth [] (K.p.aD.map At) c.idx.toNat) 2).toNat) 20]).bind fun o10=>
 (On [jA o10 0,jA o10 1,jA o10 2,jA o10 3,jA (nth [] (K.aA.map Ah) (gA (nth [] (K.p.aD.map At) c.idx.toNat) 2).toNat) 19,jA (nth [] (K.aA.map Ah) (gA (nth [] (K.p.aD.map At) c.idx.toNat) 2).toNat) 20]).bind fun o11=>
 bif !bA o11 0 then
 some (I 3::Ad K {c with s0:=gA o10 0,s1:=gA o10 1,s2:=gA o10 2,s3:=gA o10 3,cnt:=wrap .i64 (c.cnt+1)})
 else
 (HX (Ad K {c with s0:=gA o10 0,s1:=gA o10 1,s2:=gA o10 2,s3:=gA o10 3,cnt:=wrap .i64 (c.cnt+1)})).bind fun o12=>
 some (jA o12 0::cR 1 o12)
 else
 bif gA (nth [] (K.aA.map Ah) (gA (nth [] (K.p.aD.map At) c.idx.toNat) 2).toNat) 0==14 then
 some (I 7::Ad K {c with cnt:=wrap .i64 (c.cnt+1),aI:=7})
 else
 (HX (Ad K {c with cnt:=wrap .i64 (c.cnt+1)})).bind fun o13=>
 some (jA o13 0::cR 1 o13)
 else
 none
 else
 none:=by kernel_rfl
def JM:=U1 Oe Kq L5
theorem Zex:Ai PG (Qdr Oe Kq L5):=Ap rfl ⟨Zwn,Zxc,Zeo,trivial⟩
theorem Qqt:Ak PG (103,Ac UZ Qev JM):=rw1 (C:=(Qdr Oe Kq L5)) Zex
def YX:Sk:=⟨[tf [CS.ptr 20000 0],tf [ci]],[(20000,119,cS)],[]⟩
def Xy:Sk:=⟨[tf [ci]],[(20000,119,cS)],[]⟩
def Zr1 (M:Fn):Nat×Spec:=(107,Ac YX Xy M)
def UO (D9:Fn):Cfg:=cp [Q55 D9] [103]
def ZF (D9:Fn):Fn:=An PG (UO D9) 64 107 YX Xy
theorem Q9m (D9:Fn) (x0:Int) (K:Kf) (c:Cv):ZF D9 (I x0::Ad K c)=
 bif decide (0<=x0)&&decide (x0<((K.p.aD.map At).length:Int))then
 bif gA (nth [] (K.p.aD.map At) x0.toNat) 1==1 then
 (D9 (Ad K {c with on:=true,idx:=x0,aN:=c.o3,cnt:=0})).bind fun o7=>
 some (jA o7 0::cR 1 o7)
 else
 bif gA (nth [] (K.p.aD.map At) x0.toNat) 1==2 then
 (D9 (Ad K {c with on:=true,idx:=x0,aN:=c.o3,cnt:=0})).bind fun o8=>
 some (jA o8 0::cR 1 o8)
 else
 bif gA (nth [] (K.p.aD.map At) x0.toNat) 1==6 then
 (D9 (Ad K {c with on:=true,idx:=x0,aN:=c.o3,cnt:=0})).bind fun o9=>
 some (jA o9 0::cR 1 o9)
 else
 bif gA (nth [] (K.p.aD.map At) x0.toNat) 1==4 then
 (D9 (Ad K {c with on:=true,idx:=x0,aN:=true,cnt:=0})).bind fun o10=>
 some (jA o10 0::cR 1 o10)
 else
 bif gA (nth [] (K.p.aD.map At) x0.toNat) 1==3 then
 bif decide (0<=gA (nth [] (K.p.aD.map At) x0.toNat) 2)&&decide (gA (nth [] (K.p.aD.map At) x0.toNat) 2<((K.aA.map Ah).length:Int))then
 bif gA (nth [] (K.aA.map Ah) (gA (nth [] (K.p.aD.map At) x0.toNat) 2).toNat) 0==11 then
 (D9 (Ad K {c with on:=true,idx:=x0,aN:=true,cnt:=0})).bind fun o11=>
 some (jA o11 0::cR 1 o11)
 else
 (D9 (Ad K {c with on:=true,idx:=x0,aN:=gA (nth [] (K.aA.map Ah) (gA (nth [] (K.p.aD.map At) x0.toNat) 2).toNat) 0==12,cnt:=0})).bind fun o12=>
 some (jA o12 0::cR 1 o12)
 else
 none
 else
 (D9 (Ad K {c with on:=true,idx:=x0,aN:=false,cnt:=0})).bind fun o13=>
 some (jA o13 0::cR 1 o13)
 else
 none:=by kernel_rfl
def OI:=ZF JM
theorem Zsz:Ai PG (UO JM):=Ap rfl ⟨Qqt,trivial⟩
theorem Zp4:Ak PG (107,Ac YX Xy OI):=rw1 (C:=(UO JM)) Zsz
def Ww:Sk:=⟨[tf [CS.sl kPt],tf [ci],TS.v true [ci,ci,CS.bool,CS.bool,CS.bool],tf [ci],tf [ci]],[],[]⟩
def VC:Sk:=⟨[TS.tup [(false,[ci]),(false,[ci])]],[],[]⟩
def Zjq (M:Fn):Nat×Spec:=(158,Ac Ww VC M)
def Yf (CW:Fn):Cfg:=cf [Qy6 CW]
def Qox:Sk:=⟨[tf [CS.sl kPt],td,td,tf [ci],tf [ci],td,td,tf [CS.ptr 7 0],td,td,td,td,tf [ci]]++dd 32,[(7,92,[ci,ci,CS.bool,CS.bool,CS.bool])],[]⟩
def Quc:List (Ex×Sk):=[(Ex.ret,⟨dd 10++[tf [ci],tf [ci]]++dd 33,[],[]⟩),(Ex.exit 0,⟨[td,td,td,tf [ci]]++dd 41,[],[]⟩)]
def Sc (CW:Fn):Lp:=A4 PG (Yf CW) 64 2 (A3 PG 158 2) Qox Quc
def Qym (CW:Fn) (N2:Lp):Cfg:=(Yf CW).loop 2 Qox Quc N2
def YG (CW:Fn) (N2:Lp):Fn:=An PG (Qym CW N2) 64 158 Ww VC
theorem Zuc (CW:Fn) (v0:Rw) (v1 v2 v3 v4 v5:Int) (v6 v7 v8:Bool):Sc CW [.view kPt v0,I v1,I v2,I v3,I v4,I v5,B v6,B v7,B v8]=
 bif decide (v3<(v0.length:Int))then
 bif decide (0<=v3)&&decide (v3<(v0.length:Int))then
 (CW [jA (nth [] v0 v3.toNat) 0,jA (nth [] v0 v3.toNat) 1,jA (nth [] v0 v3.toNat) 2,I v4,I v5,B v6,B v7,B v8]).bind fun o2=>
 bif bA o2 0 then
 bif decide (v2<=gA (nth [] v0 v3.toNat) 0)then
 bif decide (gA (nth [] v0 v3.toNat) 0<=v1)then
 some (1,[jA (nth [] v0 v3.toNat) 0,I v3])
 else
 some (0,[.view kPt v0,I v1,I v2,I (wrap .i64 (v3+1)),I v4,I v5,B v6,B v7,B v8])
 else
 some (0,[.view kPt v0,I v1,I v2,I (wrap .i64 (v3+1)),I v4,I v5,B v6,B v7,B v8])
 else
 some (0,[.view kPt v0,I v1,I v2,I (wrap .i64 (v3+1)),I v4,I v5,B v6,B v7,B v8])
 else
 none
 else
 some (2,[I v1]):=by kernel_rfl
theorem Zjl (CW:Fn) (N2:Lp) (x0:Rw) (x1 x2 x3:Int) (x4 x5 x6:Bool) (x7 x8:Int):YG CW N2 [.view kPt x0,I x1,I x2,I x3,B x4,B x5,B x6,I x7,I x8]=
 (N2 [.view kPt x0,I x7,I x8,I (mx x1 0),I x2,I x3,B x4,B x5,B x6]).bind fun o3=>
 bif o3.1.beq 1 then
 some [jA o3.2 0,jA o3.2 1]
 else
 bif o3.1.beq 2 then
 some [jA o3.2 0,I (-1)]
 else
 none:=by kernel_rfl
def Qn7:=Am (Sc Ih)
def Qw:=YG Ih Qn7
theorem Qod:Ai PG (Yf Ih):=Ap rfl ⟨Q08,trivial⟩
theorem Zvd:Ak PG (158,Ac Ww VC Qw):=rw2 (C:=(Qym Ih Qn7)) (fl fb Qod) Qod
def Ql1:Sk:=⟨[TS.v true ([CS.sl As]++cc 5),tf [ci]],[],[]⟩
def Qd2:Sk:=⟨[tf [ci]],[],[]⟩
def Zsj (M:Fn):Nat×Spec:=(157,Ac Ql1 Qd2 M)
def C_track_Where_0:Cfg:=cf []
def Quw:Sk:=⟨[td,tf [ci]]++dd 11++[tf [CS.sl As],tf [ci],tf [ci]]++dd 28,[],[]⟩
def Qoc:List (Ex×Sk):=[(Ex.ret,⟨[td,td,td,td,tf [ci]]++dd 39,[],[]⟩),(Ex.exit 0,⟨[td]++dd 43,[],[]⟩)]
def PI:Lp:=A4 PG C_track_Where_0 64 4 (A3 PG 157 4) Quw Qoc
def Q67 (N4:Lp):Cfg:=C_track_Where_0.loop 4 Quw Qoc N4
def Qpk (N4:Lp):Fn:=An PG (Q67 N4) 64 157 Ql1 Qd2
theorem Qn6 (v0:Int) (v1:Rw) (v2 v3:Int):PI [I v0, .view As v1,I v2,I v3]=
 bif decide (v3<v2)then
 bif decide (0<=v3)&&decide (v3<(v1.length:Int))then
 bif gA (nth [] v1 v3.toNat) 3 !=0 then
 bif decide (0<=wrap .i64 (wrap .i64 (v0-gA (nth [] v1 v3.toNat) 2)*gA (nth [] v1 v3.toNat) 3))then
 bif decide (wrap .i64 (wrap .i64 (v0-gA (nth [] v1 v3.toNat) 2)*gA (nth [] v1 v3.toNat) 3)<=gA (nth [] v1 v3.toNat) 1)then
 some (1,[I (wrap .i64 (gA (nth [] v1 v3.toNat) 0+wrap .i64 (wrap .i64 (v0-gA (nth [] v1 v3.toNat) 2)*gA (nth [] v1 v3.toNat) 3)))])
 else
 some (0,[I v0, .view As v1,I v2,I (wrap .i64 (v3+1))])
 else
 some (0,[I v0, .view As v1,I v2,I (wrap .i64 (v3+1))])
 else
 some (0,[I v0, .view As v1,I v2,I (wrap .i64 (v3+1))])
 else
 none
 else
 some (2,[]):=by kernel_rfl
theorem Zen (N4:Lp) (x0:Rw) (x1 x2 x3 x4 x5 x6:Int):Qpk N4 [.view As x0,I x1,I x2,I x3,I x4,I x5,I x6]=
 bif x6==x2 then
 some [I 0]
 else
 (N4 [I x6, .view As x0,I (x0.length:Int),I 0]).bind fun o1=>
 bif o1.1.beq 1 then
 some [jA o1.2 0]
 else
 bif o1.1.beq 2 then
 some [I (-1)]
 else
 none:=by kernel_rfl
def Kv:=Am (PI)
def Mv:=Qpk Kv
theorem Q32:Ai PG (C_track_Where_0):=Ap rfl trivial
theorem Zt9:Ak PG (157,Ac Ql1 Qd2 Mv):=rw2 (C:=(Q67 Kv)) (fl fb Q32) Q32
def Qjq:Sk:=⟨[tf [CS.ptr 20000 0]],[(20000,119,cS)],[]⟩
def Qk9:Sk:=⟨[TS.tup [(false,[ci]),(false,[ci])]],[(20000,119,cS)],[]⟩
def Zfn (M:Fn):Nat×Spec:=(106,Ac Qjq Qk9 M)
def ZJ (Iv Hv B4 Ea:Fn):Cfg:=cf [Zjq Iv,Zsj Hv,SK B4,Qsi Ea]
def Qbz (Iv Hv B4 Ea:Fn):Fn:=An PG (ZJ Iv Hv B4 Ea) 64 106 Qjq Qk9
abbrev QA (Ea:Fn) (K:Kf) (c:Cv) (B4 Hv Iv:Fn) (h1_0:AC):Option (List AC):=
 (Ea [I K.pa,I K.pb,I K.pc,I c.m0,I c.m1,I c.m2,I c.m3,I c.m4,I c.m5]).bind fun o14=>
 (B4 (Bo K.t++[I (wrap .i64 ((wrap .i64 (wrap .i64 (gA o14 0+256)-1)).tdiv 256))])).bind fun o15=>
 (Hv (Bo K.t++[jA o15 0])).bind fun o16=>
 bif gA o16 0 !=wrap .i64 ((wrap .i64 (wrap .i64 (gA o14 0+256)-1)).tdiv 256)then
 (Iv [.view kPt (K.p.aD.map At),I c.next,I c.o0,I c.o1,B c.o2,B c.o3,B c.o4,h1_0,I (wrap .i64 (gA o15 0+1))]).bind fun o17=>
 (Hv (Bo K.t++[jA o17 0])).bind fun o18=>
 some (jA o18 0::jA o17 1::Ad K c)
 else
 (Iv [.view kPt (K.p.aD.map At),I c.next,I c.o0,I c.o1,B c.o2,B c.o3,B c.o4,h1_0,jA o15 0]).bind fun o19=>
 (Hv (Bo K.t++[jA o19 0])).bind fun o20=>
 some (jA o20 0::jA o19 1::Ad K c)
attribute [go_sem] QA
theorem Q7v (Iv Hv B4 Ea:Fn) (K:Kf) (c:Cv):Qbz Iv Hv B4 Ea (Ad K c)=
 bif K.closed then
 QA Ea K c B4 Hv Iv (I K.len)
 else
 QA Ea K c B4 Hv Iv (I K.set):=by kernel_rfl
def P7:=Qbz Qw Mv EQ FB
theorem Zjc:Ai PG (ZJ Qw Mv EQ FB):=Ap rfl ⟨Zvd,Zt9,TF,Q1o,trivial⟩
theorem Zzz:Ak PG (106,Ac Qjq Qk9 P7):=rw1 (C:=(ZJ Qw Mv EQ FB)) Zjc
def VH:Sk:=⟨[tf [CS.ptr 20000 0]],[(20000,119,cS)],[]⟩
def VX:Sk:=⟨[tf [ci]],[(20000,119,cS)],[]⟩
def Zx7 (M:Fn):Nat×Spec:=(70,Ac VH VX M)
def Zu (Jc Db Og Ob:Fn):Cfg:=cp [Zt6 Jc,Qao Db,Zr1 Og,Zfn Ob] [109,108,107,106]
def XM (Jc Db Og Ob:Fn):Fn:=An PG (Zu Jc Db Og Ob) 64 70 VH VX
theorem Zui (Jc Db Og Ob:Fn) (K:Kf) (c:Cv):XM Jc Db Og Ob (Ad K c)=
 (Ob (Ad K c)).bind fun o7=>
 bif bA o7 90 then
 bif gA o7 52==wrap .i64 (gA o7 0*256)then
 bif decide (gA o7 1>=0)then
 (Og (jA o7 1::cR 2 o7)).bind fun o8=>
 bif decide (0<=gA o7 1)&&decide (gA o7 1<(↑(wA o8 42).length:Int))then
 bif Af (nth .dead (nth [] (wA o8 42) (gA o7 1).toNat) 2)==gA o8 80 then
 bif decide (0<=Af (nth .dead (nth [] (wA o8 42) (gA o7 1).toNat) 2))&&decide (Af (nth .dead (nth [] (wA o8 42) (gA o7 1).toNat) 2)<(↑(wA o8 36).length:Int))then
 bif Af (nth .dead (nth [] (wA o8 36) (Af (nth .dead (nth [] (wA o8 42) (gA o7 1).toNat) 2)).toNat) 0)==5 then
 bif gA o8 83==1 then
 (Db (cR 1 o8)).bind fun o9=>
 some (jA o8 0::cR 0 o9)
 else
 some (jA o8 0::cR 1 o8)
 else
 some (jA o8 0::cR 1 o8)
 else
 none
 else
 some (jA o8 0::cR 1 o8)
 else
 none
 else
 bif bA o7 38 then
 some (I 7::D_ (cR 2 o7) [(78,I 7)])
 else
 some (I 1::cR 2 o7)
 else
 bif gA o7 63 !=0 then
 (Jc (jA o7 0::cR 2 o7)).bind fun o10=>
 bif bA o7 90 then
 some (I 6::cR 0 o10)
 else
 some (I 1::cR 0 o10)
 else
 (Jc (jA o7 0::cR 2 o7)).bind fun o11=>
 some (I 1::cR 0 o11)
 else
 bif gA o7 63 !=0 then
 (Jc (jA o7 0::cR 2 o7)).bind fun o12=>
 bif bA o7 90 then
 some (I 6::cR 0 o12)
 else
 some (I 1::cR 0 o12)
 else
 (Jc (jA o7 0::cR 2 o7)).bind fun o13=>
 some (I 1::cR 0 o13):=by kernel_rfl
def K1:=XM O8 GT OI P7
theorem Za9:Ai PG (Zu O8 GT OI P7):=Ap rfl ⟨Zvk,Zm,Zp4,Zzz,trivial⟩
theorem Zrx:Ak PG (70,Ac VH VX K1):=rw1 (C:=(Zu O8 GT OI P7)) Za9
def Qdu:Sk:=⟨[tf [ci]],[],[]⟩
def Qd5:Sk:=⟨[TS.v true (cc 6)],[],[]⟩
def Qwa (M:Fn):Nat×Spec:=(59,Ac Qdu Qd5 M)
def Uu:Cfg:=cf []
def Qjx:Fn:=An PG Uu 64 59 Qdu Qd5
theorem Z1k (x0:Int):Qjx [I x0]=
 some [I (wrap .i64 (x0*256)),I 0,I 0,I (wrap .i64 (x0*256)),I (wrap .i64 (x0*256)),I (wrap .i64 (x0*256))]:=by kernel_rfl
def IK:=Qjx
theorem Zus:Ai PG (Uu):=Ap rfl trivial
theorem Qp4:Ak PG (59,Ac Qdu Qd5 IK):=rw1 (C:=Uu) Zus
def Qfg:Sk:=⟨[TS.v true (cc 9++[CS.sl Aa]++cc 9++[CS.sl Aa]++cc 9++[CS.sl Aa]),TS.v true [ci,ci,ci],TS.v true [ci,ci,ci]],[],[]⟩
def Qj2:Sk:=⟨[tf [ci]],[],[]⟩
def Zo3 (M:Fn):Nat×Spec:=(95,Ac Qfg Qj2 M)
def Qh8:Cfg:={cf []with unroll:=[3]}
def Q1f:Fn:=An PG Qh8 64 95 Qfg Qj2
theorem Ztv (x0 x1 x2 x3 x4 x5 x6 x7 x8:Int) (x9:Rw) (x10 x11 x12 x13 x14 x15 x16 x17 x18:Int) (x19:Rw) (x20 x21 x22 x23 x24 x25 x26 x27 x28:Int) (x29:Rw) (x30 x31 x32 x33 x34 x35:Int):Q1f [I x0,I x1,I x2,I x3,I x4,I x5,I x6,I x7,I x8, .view Aa x9,I x10,I x11,I x12,I x13,I x14,I x15,I x16,I x17,I x18, .view Aa x19,I x20,I x21,I x22,I x23,I x24,I x25,I x26,I x27,I x28, .view Aa x29,I x30,I x31,I x32,I x33,I x34,I x35]=
 bif x30 !=x33 then
 bif x31 !=x34 then
 bif x32 !=x35 then
 some [I (mx (mx (mx 0 x6) x16) x26)]
 else
 some [I (mx (mx 0 x6) x16)]
 else
 bif x32 !=x35 then
 some [I (mx (mx 0 x6) x26)]
 else
 some [I (mx 0 x6)]
 else
 bif x31 !=x34 then
 bif x32 !=x35 then
 some [I (mx (mx 0 x16) x26)]
 else
 some [I (mx 0 x16)]
 else
 bif x32 !=x35 then
 some [I (mx 0 x26)]
 else
 some [I 0]:=by kernel_rfl
def N0:=Q1f
theorem Zc6:Ai PG (Qh8):=Ap rfl trivial
theorem Ziy:Ak PG (95,Ac Qfg Qj2 N0):=rw1 (C:=Qh8) Zc6
def Zf:Sk:=⟨[TS.v true [ci,ci,ci],TS.v true [ci,ci,ci],TS.v true [ci,ci,ci],tf [ci]],[],[]⟩
def Qes:Sk:=⟨[TS.v true [ci,ci,ci]],[],[]⟩
def Zru (M:Fn):Nat×Spec:=(94,Ac Zf Qes M)
def XX:Cfg:={cf []with unroll:=[2]}
def Q0p:Fn:=An PG XX 64 94 Zf Qes
abbrev ST (x8 x5:Int) (h1_0:AC) (x9 x2:Int) (h2_0:AC):Option (List AC):=
 bif decide (x8>x5)then
 some [h1_0,h2_0,I x9]
 else
 bif decide (x8<x5)then
 some [h1_0,h2_0,I (wrap .i64 (0-x9))]
 else
 some [h1_0,h2_0,I x2]
attribute [go_sem] ST
abbrev Ts (x7 x4 x8 x5 x9 x2 x1:Int) (h1_0:AC):Option (List AC):=
 bif decide (x7>x4)then
 ST x8 x5 h1_0 x9 x2 (I x9)
 else
 bif decide (x7<x4)then
 ST x8 x5 h1_0 x9 x2 (I (wrap .i64 (0-x9)))
 else
 ST x8 x5 h1_0 x9 x2 (I x1)
attribute [go_sem] Ts
theorem Zvt (x0 x1 x2 x3 x4 x5 x6 x7 x8 x9:Int):Q0p [I x0,I x1,I x2,I x3,I x4,I x5,I x6,I x7,I x8,I x9]=
 bif decide (x6>x3)then
 Ts x7 x4 x8 x5 x9 x2 x1 (I x9)
 else
 bif decide (x6<x3)then
 Ts x7 x4 x8 x5 x9 x2 x1 (I (wrap .i64 (0-x9)))
 else
 Ts x7 x4 x8 x5 x9 x2 x1 (I x0):=by kernel_rfl
def Ow:=Q0p
theorem Zng:Ai PG (XX):=Ap rfl trivial
theorem Zob:Ak PG (94,Ac Zf Qes Ow):=rw1 (C:=XX) Zng
def Vu:Sk:=⟨[TS.v true (cc 10),tf [CS.ptr 20000 0]],[(20000,62,[CS.own 20000 10]++cc 5)],[(20000,135,As)]⟩
def UF:Sk:=⟨[TS.tup []],[(20000,62,[CS.own 20000 10]++cc 5)],[(20000,135,As)]⟩
def Q17 (M:Fn):Nat×Spec:=(92,Ac Vu UF M)
def Qi4:Cfg:=cf []
def Qhg:Fn:=An PG Qi4 64 92 Vu UF
theorem Qz8 (x0:Rw) (x1 x2 x3 x4 x5 x6 x7 x8 x9 x10 x11 x12 x13 x14 x15:Int):Qhg [.view As x0,I x1,I x2,I x3,I x4,I x5,I x6,I x7,I x8,I x9,I x10,I x11,I x12,I x13,I x14,I x15]=
 bif decide ((x0.length:Int)>0)then
 bif x4 !=0 then
 bif decide (0<=wrap .i64 ((x0.length:Int)-1))&&decide (wrap .i64 ((x0.length:Int)-1)<(x0.length:Int))then
 bif gA (nth [] x0 (wrap .i64 ((x0.length:Int)-1)).toNat) 3==x4 then
 bif decide (0<=wrap .i64 ((x0.length:Int)-1))&&decide (wrap .i64 ((x0.length:Int)-1)<(x0.length:Int))then
 bif gA (nth [] x0 (wrap .i64 ((x0.length:Int)-1)).toNat) 7==x8&&(gA (nth [] x0 (wrap .i64 ((x0.length:Int)-1)).toNat) 8==x9&&(gA (nth [] x0 (wrap .i64 ((x0.length:Int)-1)).toNat) 9==x10&&true))then
 bif decide (0<=wrap .i64 ((x0.length:Int)-1))&&decide (wrap .i64 ((x0.length:Int)-1)<(x0.length:Int))then
 bif decide (0<=wrap .i64 ((x0.length:Int)-1))&&decide (wrap .i64 ((x0.length:Int)-1)<(x0.length:Int))then
 some [.view As (x0.set (wrap .i64 ((x0.length:Int)-1)).toNat [jA (nth [] x0 (wrap .i64 ((x0.length:Int)-1)).toNat) 0,I (wrap .i64 (gA (nth [] x0 (wrap .i64 ((x0.length:Int)-1)).toNat) 1+x2)),jA (nth [] x0 (wrap .i64 ((x0.length:Int)-1)).toNat) 2,jA (nth [] x0 (wrap .i64 ((x0.length:Int)-1)).toNat) 3,jA (nth [] x0 (wrap .i64 ((x0.length:Int)-1)).toNat) 4,jA (nth [] x0 (wrap .i64 ((x0.length:Int)-1)).toNat) 5,jA (nth [] x0 (wrap .i64 ((x0.length:Int)-1)).toNat) 6,jA (nth [] x0 (wrap .i64 ((x0.length:Int)-1)).toNat) 7,jA (nth [] x0 (wrap .i64 ((x0.length:Int)-1)).toNat) 8,jA (nth [] x0 (wrap .i64 ((x0.length:Int)-1)).toNat) 9]),I (wrap .i64 (x11+x2)),I x12,I x13,I x14,I x15]
 else
 none
 else
 none
 else
 bif((x0++[[I x11,I x2,I x3,I x4,I x5,I x6,I x7,I x8,I x9,I x10]]).length*80).ble 140737488355328 then
 some [.view As (x0++[[I x11,I x2,I x3,I x4,I x5,I x6,I x7,I x8,I x9,I x10]]),I (wrap .i64 (x11+x2)),I x12,I x13,I x14,I x15]
 else
 none
 else
 none
 else
 bif((x0++[[I x11,I x2,I x3,I x4,I x5,I x6,I x7,I x8,I x9,I x10]]).length*80).ble 140737488355328 then
 some [.view As (x0++[[I x11,I x2,I x3,I x4,I x5,I x6,I x7,I x8,I x9,I x10]]),I (wrap .i64 (x11+x2)),I x12,I x13,I x14,I x15]
 else
 none
 else
 none
 else
 bif((x0++[[I x11,I x2,I x3,I x4,I x5,I x6,I x7,I x8,I x9,I x10]]).length*80).ble 140737488355328 then
 some [.view As (x0++[[I x11,I x2,I x3,I x4,I x5,I x6,I x7,I x8,I x9,I x10]]),I (wrap .i64 (x11+x2)),I x12,I x13,I x14,I x15]
 else
 none
 else
 bif((x0++[[I x11,I x2,I x3,I x4,I x5,I x6,I x7,I x8,I x9,I x10]]).length*80).ble 140737488355328 then
 some [.view As (x0++[[I x11,I x2,I x3,I x4,I x5,I x6,I x7,I x8,I x9,I x10]]),I (wrap .i64 (x11+x2)),I x12,I x13,I x14,I x15]
 else
 none:=by kernel_rfl
def Lh:=Qhg
theorem Q7y:Ai PG (Qi4):=Ap rfl trivial
theorem Qtr:Ak PG (92,Ac Vu UF Lh):=rw1 (C:=Qi4) Q7y
def ZA:Sk:=⟨[TS.v true [ci,ci,ci],TS.v true [ci,ci,ci],tf [ci],tf [ci],tf [CS.ptr 20000 0],tf [CS.ptr 20001 0],tf [CS.ptr 20002 0],tf [CS.ptr 20003 0]],[(20000,44,[ci,ci,ci]),(20001,3,[ci]),(20002,27,cc 9++[CS.sl Aa]++cc 9++[CS.sl Aa]++cc 9++[CS.sl Aa]),(20003,153,[CS.clo 92 [] [(20004,0)]]),(20004,62,[CS.own 20000 10]++cc 5)],[(20000,135,As)]⟩
def Qb7:Sk:=⟨[TS.tup []],[(20000,44,[ci,ci,ci]),(20001,3,[ci]),(20002,27,cc 9++[CS.sl Aa]++cc 9++[CS.sl Aa]++cc 9++[CS.sl Aa]),(20003,153,[CS.clo 92 [] [(20004,0)]]),(20004,62,[CS.own 20000 10]++cc 5)],[(20000,135,As)]⟩
def Qtp (M:Fn):Nat×Spec:=(93,Ac ZA Qb7 M)
def Qdo (Mc Nj FJ:Fn):Cfg:=cp [Zo3 Mc,Zru Nj,Q17 FJ] [92]
def Qnr (Mc Nj FJ:Fn):Fn:=An PG (Qdo Mc Nj FJ) 64 93 ZA Qb7
theorem Zfo (Mc Nj FJ:Fn) (x0:Rw) (x1 x2 x3 x4 x5 x6 x7 x8 x9 x10 x11 x12 x13 x14 x15 x16 x17 x18 x19 x20 x21:Int) (x22:Rw) (x23 x24 x25 x26 x27 x28 x29 x30 x31:Int) (x32:Rw) (x33 x34 x35 x36 x37 x38 x39 x40 x41:Int) (x42:Rw) (x43 x44 x45 x46 x47:Int):Qnr Mc Nj FJ [.view As x0,I x1,I x2,I x3,I x4,I x5,I x6,I x7,I x8,I x9,I x10,I x11,I x12,I x13,I x14,I x15,I x16,I x17,I x18,I x19,I x20,I x21, .view Aa x22,I x23,I x24,I x25,I x26,I x27,I x28,I x29,I x30,I x31, .view Aa x32,I x33,I x34,I x35,I x36,I x37,I x38,I x39,I x40,I x41, .view Aa x42,I x43,I x44,I x45,I x46,I x47]=
 (Nj [I x9,I x10,I x11,I x1,I x2,I x3,I x4,I x5,I x6,I x12]).bind fun o5=>
 (Mc [I x13,I x14,I x15,I x16,I x17,I x18,I x19,I x20,I x21, .view Aa x22,I x23,I x24,I x25,I x26,I x27,I x28,I x29,I x30,I x31, .view Aa x32,I x33,I x34,I x35,I x36,I x37,I x38,I x39,I x40,I x41, .view Aa x42,I x9,I x10,I x11,jA o5 0,jA o5 1,jA o5 2]).bind fun o6=>
 bif decide (gA o6 0>0)then
 (FJ [.view As x0,I 0,jA o6 0,I x7,I 0,I x9,I x10,I x11,jA o5 0,jA o5 1,jA o5 2,I x43,I x44,I x45,I x46,I x47]).bind fun o7=>
 (FJ [.view As (wA o7 0),I 0,I x8,I x7,I x12,jA o5 0,jA o5 1,jA o5 2,jA o5 0,jA o5 1,jA o5 2,jA o7 1,jA o7 2,jA o7 3,jA o7 4,jA o7 5]).bind fun o8=>
 some [.view As (wA o8 0),jA o5 0,jA o5 1,jA o5 2,I x12,I x13,I x14,I x15,I x16,I x17,I x18,I x19,I x20,I x21, .view Aa x22,I x23,I x24,I x25,I x26,I x27,I x28,I x29,I x30,I x31, .view Aa x32,I x33,I x34,I x35,I x36,I x37,I x38,I x39,I x40,I x41, .view Aa x42,jA o8 1,jA o8 2,jA o8 3,jA o8 4,jA o8 5]
 else
 (FJ [.view As x0,I 0,I x8,I x7,I x12,jA o5 0,jA o5 1,jA o5 2,jA o5 0,jA o5 1,jA o5 2,I x43,I x44,I x45,I x46,I x47]).bind fun o9=>
 some [.view As (wA o9 0),jA o5 0,jA o5 1,jA o5 2,I x12,I x13,I x14,I x15,I x16,I x17,I x18,I x19,I x20,I x21, .view Aa x22,I x23,I x24,I x25,I x26,I x27,I x28,I x29,I x30,I x31, .view Aa x32,I x33,I x34,I x35,I x36,I x37,I x38,I x39,I x40,I x41, .view Aa x42,jA o9 1,jA o9 2,jA o9 3,jA o9 4,jA o9 5]:=by kernel_rfl
def FA:=Qnr N0 Ow Lh
theorem Zq8:Ai PG (Qdo N0 Ow Lh):=Ap rfl ⟨Ziy,Zob,Qtr,trivial⟩
theorem Q0j:Ak PG (93,Ac ZA Qb7 FA):=rw1 (C:=(Qdo N0 Ow Lh)) Zq8
def YP:Sk:=⟨[TS.v true [ci,ci,ci,CS.sl Ag,CS.sl kPt],tf [ci],tf [ci],tf [ci],tf [CS.clo 93 [] [(20000,0),(20001,0),(20002,0),(20003,0)]]],[(20000,44,[ci,ci,ci]),(20001,3,[ci]),(20002,27,cc 9++[CS.sl Aa]++cc 9++[CS.sl Aa]++cc 9++[CS.sl Aa]),(20003,153,[CS.clo 92 [] [(20004,0)]]),(20004,62,[CS.own 20000 10]++cc 5)],[(20000,135,As)]⟩
def Qeq:Sk:=⟨[TS.tup []],[(20000,44,[ci,ci,ci]),(20001,3,[ci]),(20002,27,cc 9++[CS.sl Aa]++cc 9++[CS.sl Aa]++cc 9++[CS.sl Aa]),(20003,153,[CS.clo 92 [] [(20004,0)]]),(20004,62,[CS.own 20000 10]++cc 5)],[(20000,135,As)]⟩
def Zdz (M:Fn):Nat×Spec:=(96,Ac YP Qeq M)
def Va (BT:Fn):Cfg:={cp [Qtp BT] [93]with prom:=fun b=>bif Nat.beq b 4 then [(11,3)]else []}
def Qso:Sk:=⟨[td,tf [ci],tf [ci],tf [ci],tf [CS.clo 93 [] [(20000,0),(20001,0),(20002,0),(20003,0)]],tf [CS.ptr 5 0],td,td,td,td,tf [ci],tf [CS.own 11 1]]++dd 9++[tf [CS.sl Ag],tf [ci],tf [ci]]++dd 78,[(5,58,[ci,ci,ci,CS.sl Ag,CS.sl kPt]),(20000,44,[ci,ci,ci]),(20001,3,[ci]),(20002,27,cc 9++[CS.sl Aa]++cc 9++[CS.sl Aa]++cc 9++[CS.sl Aa]),(20003,153,[CS.clo 92 [] [(20004,0)]]),(20004,62,[CS.own 20000 10]++cc 5)],[(11,3,Aa),(20000,135,As)]⟩
def Qw2:List (Ex×Sk):=[(Ex.exit 0,⟨[td,tf [ci],tf [ci],tf [ci],tf [CS.clo 93 [] [(20000,0),(20001,0),(20002,0),(20003,0)]],tf [CS.ptr 5 0],td,td,td,td,td,tf [CS.own 11 1]]++dd 90,[(5,58,[ci,ci,ci,CS.sl Ag,CS.sl kPt]),(20000,44,[ci,ci,ci]),(20001,3,[ci]),(20002,27,cc 9++[CS.sl Aa]++cc 9++[CS.sl Aa]++cc 9++[CS.sl Aa]),(20003,153,[CS.clo 92 [] [(20004,0)]]),(20004,62,[CS.own 20000 10]++cc 5)],[(11,3,Aa),(20000,135,As)]⟩)]
def So (BT:Fn):Lp:=A4 PG (Va BT) 64 4 (A3 PG 96 4) Qso Qw2
def Qx3 (BT:Fn) (N4:Lp):Cfg:=(Va BT).loop 4 Qso Qw2 N4
def Qzw:Sk:=⟨[td,tf [ci],tf [ci],tf [ci],tf [CS.clo 93 [] [(20000,0),(20001,0),(20002,0),(20003,0)]],tf [CS.ptr 5 0],td,td,td,td,td,tf [CS.own 11 1]]++dd 26++[tf [ci],tf [ci]]++dd 62,[(5,58,[ci,ci,ci,CS.sl Ag,CS.sl kPt]),(20000,44,[ci,ci,ci]),(20001,3,[ci]),(20002,27,cc 9++[CS.sl Aa]++cc 9++[CS.sl Aa]++cc 9++[CS.sl Aa]),(20003,153,[CS.clo 92 [] [(20004,0)]]),(20004,62,[CS.own 20000 10]++cc 5)],[(11,3,Aa),(20000,135,As)]⟩
def Qwd:List (Ex×Sk):=[(Ex.exit 2,⟨[td]++dd 101,[(20000,44,[ci,ci,ci]),(20001,3,[ci]),(20002,27,cc 9++[CS.sl Aa]++cc 9++[CS.sl Aa]++cc 9++[CS.sl Aa]),(20003,153,[CS.clo 92 [] [(20004,0)]]),(20004,62,[CS.own 20000 10]++cc 5)],[(20000,135,As)]⟩)]
def Tq (BT:Fn) (N4:Lp):Lp:=A4 PG (Qx3 BT N4) 64 10 (A3 PG 96 10) Qzw Qwd
def Qzo (BT:Fn) (N4 N10:Lp):Cfg:=(Qx3 BT N4).loop 10 Qzw Qwd N10
def Yl (BT:Fn) (N4 N10:Lp):Fn:=An PG (Qzo BT N4 N10) 64 96 YP Qeq
theorem Qse (BT:Fn) (v0 v1:Rw) (v2 v3 v4 v5:Int) (v6:Rw) (v7 v8 v9 v10 v11:Int) (v12 v13:Rw) (v14 v15 v16 v17 v18 v19 v20 v21 v22 v23 v24 v25 v26:Int) (v27:Rw) (v28 v29 v30 v31 v32 v33 v34 v35 v36:Int) (v37:Rw) (v38 v39 v40 v41 v42 v43 v44 v45 v46:Int) (v47:Rw) (v48 v49 v50 v51 v52:Int):So BT [.view Aa v0, .view As v1,I v2,I v3,I v4,I v5, .view Ag v6,I v7,I v8,I v9,I v10,I v11, .view Ag v12, .view kPt v13,I v14,I v15,I v16,I v17,I v18,I v19,I v20,I v21,I v22,I v23,I v24,I v25,I v26, .view Aa v27,I v28,I v29,I v30,I v31,I v32,I v33,I v34,I v35,I v36, .view Aa v37,I v38,I v39,I v40,I v41,I v42,I v43,I v44,I v45,I v46, .view Aa v47,I v48,I v49,I v50,I v51,I v52]=
 bif decide (v8<v7)then
 bif decide (0<=v8)&&decide (v8<(v6.length:Int))then
 bif((v0++[[I v5]]).length*8).ble 140737488355328 then
 some (0,[.view Aa (v0++[[I v5]]), .view As v1,I v2,I v3,I v4,I (wrap .i64 (v5+gA (nth [] v6 v8.toNat) 3)), .view Ag v6,I v7,I (wrap .i64 (v8+1)),I v9,I v10,I v11, .view Ag v12, .view kPt v13,I v14,I v15,I v16,I v17,I v18,I v19,I v20,I v21,I v22,I v23,I v24,I v25,I v26, .view Aa v27,I v28,I v29,I v30,I v31,I v32,I v33,I v34,I v35,I v36, .view Aa v37,I v38,I v39,I v40,I v41,I v42,I v43,I v44,I v45,I v46, .view Aa v47,I v48,I v49,I v50,I v51,I v52])
 else
 none
 else
 none
 else
 some (1,[.view Aa v0, .view As v1,I v2,I v3,I v4,I v9,I v10,I v11, .view Ag v12, .view kPt v13,I v14,I v15,I v16,I v17,I v18,I v19,I v20,I v21,I v22,I v23,I v24,I v25,I v26, .view Aa v27,I v28,I v29,I v30,I v31,I v32,I v33,I v34,I v35,I v36, .view Aa v37,I v38,I v39,I v40,I v41,I v42,I v43,I v44,I v45,I v46, .view Aa v47,I v48,I v49,I v50,I v51,I v52]):=by kernel_rfl
abbrev O_ (h1_1:Bool) (BT:Fn) (v1:Rw) (h1_8 h1_9 h1_10 h1_12:AC) (v12 v13 v14 v15 v16 v17 v18 v19 v20 v21 v22 v23 v24:Int) (v25:Rw) (v26 v27 v28 v29 v30 v31 v32 v33 v34:Int) (v35:Rw) (v36 v37 v38 v39 v40 v41 v42 v43 v44:Int) (v45:Rw) (v46 v47 v48 v49 v50:Int) (v0:Rw) (v2 v3 v4 v5 v6 v7 v8 v9:Int) (v10 v11:Rw) (h2_0 h2_1 h2_2 h2_3:AC):Option (Nat×List AC):=
 bif h1_1 then
 (BT [.view As v1,h2_0,h2_1,h2_2,h1_8,h1_9,h1_10,h2_3,h1_12,I v12,I v13,I v14,I v15,I v16,I v17,I v18,I v19,I v20,I v21,I v22,I v23,I v24, .view Aa v25,I v26,I v27,I v28,I v29,I v30,I v31,I v32,I v33,I v34, .view Aa v35,I v36,I v37,I v38,I v39,I v40,I v41,I v42,I v43,I v44, .view Aa v45,I v46,I v47,I v48,I v49,I v50]).bind fun o11=>
 some (0,[.view Aa v0, .view As (wA o11 0),I v2,I v3,I v4,I v5,I (wrap .i64 (v6+1)),I v7,I v8,I v9, .view Ag v10, .view kPt v11,jA o11 1,jA o11 2,jA o11 3,jA o11 4,jA o11 5,jA o11 6,jA o11 7,jA o11 8,jA o11 9,jA o11 10,jA o11 11,jA o11 12,jA o11 13, .view Aa (wA o11 14),jA o11 15,jA o11 16,jA o11 17,jA o11 18,jA o11 19,jA o11 20,jA o11 21,jA o11 22,jA o11 23, .view Aa (wA o11 24),jA o11 25,jA o11 26,jA o11 27,jA o11 28,jA o11 29,jA o11 30,jA o11 31,jA o11 32,jA o11 33, .view Aa (wA o11 34),jA o11 35,jA o11 36,jA o11 37,jA o11 38,jA o11 39])
 else
 none
attribute [go_sem] O_
abbrev Qc1 (v0 v1:Rw) (v2 v3 v4 v5 v6 v7 v8 v9:Int) (v10 v11:Rw) (v12 v13 v14 v15 v16 v17 v18 v19 v20 v21 v22 v23 v24:Int) (v25:Rw) (v26 v27 v28 v29 v30 v31 v32 v33 v34:Int) (v35:Rw) (v36 v37 v38 v39 v40 v41 v42 v43 v44:Int) (v45:Rw) (v46 v47 v48 v49 v50:Int) (BT:Fn) (h1_0 h1_1 h1_2 h1_3 h1_4:Bool) (h1_5 h1_6 h1_7 h1_8 h1_9 h1_10 h1_11 h1_12 h1_13:AC):Option (Nat×List AC):=
 bif h1_0 then
 bif h1_0 then
 bif h1_1 then
 bif h1_2 then
 some (0,[.view Aa v0, .view As v1,I v2,I v3,I v4,I v5,I (wrap .i64 (v6+1)),I v7,I v8,I v9, .view Ag v10, .view kPt v11,I v12,I v13,I v14,I v15,I v16,I v17,I v18,I v19,I v20,I v21,I v22,I v23,I v24, .view Aa v25,I v26,I v27,I v28,I v29,I v30,I v31,I v32,I v33,I v34, .view Aa v35,I v36,I v37,I v38,I v39,I v40,I v41,I v42,I v43,I v44, .view Aa v45,I v46,I v47,I v48,I v49,I v50])
 else
 bif h1_3 then
 bif h1_4 then
 bif decide (v4<0)then
 O_ h1_1 BT v1 h1_8 h1_9 h1_10 h1_12 v12 v13 v14 v15 v16 v17 v18 v19 v20 v21 v22 v23 v24 v25 v26 v27 v28 v29 v30 v31 v32 v33 v34 v35 v36 v37 v38 v39 v40 v41 v42 v43 v44 v45 v46 v47 v48 v49 v50 v0 v2 v3 v4 v5 v6 v7 v8 v9 v10 v11 h1_5 h1_6 h1_7 h1_11
 else
 O_ h1_1 BT v1 h1_8 h1_9 h1_10 h1_12 v12 v13 v14 v15 v16 v17 v18 v19 v20 v21 v22 v23 v24 v25 v26 v27 v28 v29 v30 v31 v32 v33 v34 v35 v36 v37 v38 v39 v40 v41 v42 v43 v44 v45 v46 v47 v48 v49 v50 v0 v2 v3 v4 v5 v6 v7 v8 v9 v10 v11 h1_5 h1_6 h1_7 h1_13
 else
 none
 else
 bif decide (v4<0)then
 O_ h1_1 BT v1 h1_8 h1_9 h1_10 h1_12 v12 v13 v14 v15 v16 v17 v18 v19 v20 v21 v22 v23 v24 v25 v26 v27 v28 v29 v30 v31 v32 v33 v34 v35 v36 v37 v38 v39 v40 v41 v42 v43 v44 v45 v46 v47 v48 v49 v50 v0 v2 v3 v4 v5 v6 v7 v8 v9 v10 v11 (I v7) (I v8) (I v9) h1_11
 else
 O_ h1_1 BT v1 h1_8 h1_9 h1_10 h1_12 v12 v13 v14 v15 v16 v17 v18 v19 v20 v21 v22 v23 v24 v25 v26 v27 v28 v29 v30 v31 v32 v33 v34 v35 v36 v37 v38 v39 v40 v41 v42 v43 v44 v45 v46 v47 v48 v49 v50 v0 v2 v3 v4 v5 v6 v7 v8 v9 v10 v11 (I v7) (I v8) (I v9) h1_13
 else
 none
 else
 none
 else
 none
attribute [go_sem] Qc1
theorem Qu8 (BT:Fn) (N4:Lp) (v0 v1:Rw) (v2 v3 v4 v5 v6 v7 v8 v9:Int) (v10 v11:Rw) (v12 v13 v14 v15 v16 v17 v18 v19 v20 v21 v22 v23 v24:Int) (v25:Rw) (v26 v27 v28 v29 v30 v31 v32 v33 v34:Int) (v35:Rw) (v36 v37 v38 v39 v40 v41 v42 v43 v44:Int) (v45:Rw) (v46 v47 v48 v49 v50:Int):Tq BT N4 [.view Aa v0, .view As v1,I v2,I v3,I v4,I v5,I v6,I v7,I v8,I v9, .view Ag v10, .view kPt v11,I v12,I v13,I v14,I v15,I v16,I v17,I v18,I v19,I v20,I v21,I v22,I v23,I v24, .view Aa v25,I v26,I v27,I v28,I v29,I v30,I v31,I v32,I v33,I v34, .view Aa v35,I v36,I v37,I v38,I v39,I v40,I v41,I v42,I v43,I v44, .view Aa v45,I v46,I v47,I v48,I v49,I v50]=
 bif decide (v6<v5)then
 bif decide (v4<0)then
 Qc1 v0 v1 v2 v3 v4 v5 v6 v7 v8 v9 v10 v11 v12 v13 v14 v15 v16 v17 v18 v19 v20 v21 v22 v23 v24 v25 v26 v27 v28 v29 v30 v31 v32 v33 v34 v35 v36 v37 v38 v39 v40 v41 v42 v43 v44 v45 v46 v47 v48 v49 v50 BT (decide (0<=wrap .i64 (wrap .i64 ((v10.length:Int)-1)-v6))&&decide (wrap .i64 (wrap .i64 ((v10.length:Int)-1)-v6)<(v0.length:Int))) (decide (0<=wrap .i64 (wrap .i64 ((v10.length:Int)-1)-v6))&&decide (wrap .i64 (wrap .i64 ((v10.length:Int)-1)-v6)<(v10.length:Int))) (decide (mx (Af (nth .dead (nth [] v0 (wrap .i64 (wrap .i64 ((v10.length:Int)-1)-v6)).toNat) 0)) v2>=mn (wrap .i64 (Af (nth .dead (nth [] v0 (wrap .i64 (wrap .i64 ((v10.length:Int)-1)-v6)).toNat) 0)+Af (nth .dead (nth [] v10 (wrap .i64 (wrap .i64 ((v10.length:Int)-1)-v6)).toNat) 3))) v3)) (decide (wrap .i64 (wrap .i64 ((v10.length:Int)-1)-v6)>0)) (decide (0<=wrap .i64 (wrap .i64 (wrap .i64 ((v10.length:Int)-1)-v6)-1))&&decide (wrap .i64 (wrap .i64 (wrap .i64 ((v10.length:Int)-1)-v6)-1)<(v10.length:Int))) (I (Af (nth .dead (nth [] v10 (wrap .i64 (wrap .i64 (wrap .i64 ((v10.length:Int)-1)-v6)-1)).toNat) 0))) (I (Af (nth .dead (nth [] v10 (wrap .i64 (wrap .i64 (wrap .i64 ((v10.length:Int)-1)-v6)-1)).toNat) 1))) (I (Af (nth .dead (nth [] v10 (wrap .i64 (wrap .i64 (wrap .i64 ((v10.length:Int)-1)-v6)-1)).toNat) 2))) (I (Af (nth .dead (nth [] v10 (wrap .i64 (wrap .i64 ((v10.length:Int)-1)-v6)).toNat) 0))) (I (Af (nth .dead (nth [] v10 (wrap .i64 (wrap .i64 ((v10.length:Int)-1)-v6)).toNat) 1))) (I (Af (nth .dead (nth [] v10 (wrap .i64 (wrap .i64 ((v10.length:Int)-1)-v6)).toNat) 2))) (I (mn (wrap .i64 (Af (nth .dead (nth [] v0 (wrap .i64 (wrap .i64 ((v10.length:Int)-1)-v6)).toNat) 0)+Af (nth .dead (nth [] v10 (wrap .i64 (wrap .i64 ((v10.length:Int)-1)-v6)).toNat) 3))) v3)) (I (wrap .i64 (mn (wrap .i64 (Af (nth .dead (nth [] v0 (wrap .i64 (wrap .i64 ((v10.length:Int)-1)-v6)).toNat) 0)+Af (nth .dead (nth [] v10 (wrap .i64 (wrap .i64 ((v10.length:Int)-1)-v6)).toNat) 3))) v3-mx (Af (nth .dead (nth [] v0 (wrap .i64 (wrap .i64 ((v10.length:Int)-1)-v6)).toNat) 0)) v2))) (I (mx (Af (nth .dead (nth [] v0 (wrap .i64 (wrap .i64 ((v10.length:Int)-1)-v6)).toNat) 0)) v2))
 else
 Qc1 v0 v1 v2 v3 v4 v5 v6 v7 v8 v9 v10 v11 v12 v13 v14 v15 v16 v17 v18 v19 v20 v21 v22 v23 v24 v25 v26 v27 v28 v29 v30 v31 v32 v33 v34 v35 v36 v37 v38 v39 v40 v41 v42 v43 v44 v45 v46 v47 v48 v49 v50 BT (decide (0<=v6)&&decide (v6<(v0.length:Int))) (decide (0<=v6)&&decide (v6<(v10.length:Int))) (decide (mx (gA (nth [] v0 v6.toNat) 0) v2>=mn (wrap .i64 (gA (nth [] v0 v6.toNat) 0+gA (nth [] v10 v6.toNat) 3)) v3)) (decide (v6>0)) (decide (0<=wrap .i64 (v6-1))&&decide (wrap .i64 (v6-1)<(v10.length:Int))) (jA (nth [] v10 (wrap .i64 (v6-1)).toNat) 0) (jA (nth [] v10 (wrap .i64 (v6-1)).toNat) 1) (jA (nth [] v10 (wrap .i64 (v6-1)).toNat) 2) (jA (nth [] v10 v6.toNat) 0) (jA (nth [] v10 v6.toNat) 1) (jA (nth [] v10 v6.toNat) 2) (I (mn (wrap .i64 (gA (nth [] v0 v6.toNat) 0+gA (nth [] v10 v6.toNat) 3)) v3)) (I (wrap .i64 (mn (wrap .i64 (gA (nth [] v0 v6.toNat) 0+gA (nth [] v10 v6.toNat) 3)) v3-mx (gA (nth [] v0 v6.toNat) 0) v2))) (I (mx (gA (nth [] v0 v6.toNat) 0) v2))
 else
 some (1,[.view As v1,I v12,I v13,I v14,I v15,I v16,I v17,I v18,I v19,I v20,I v21,I v22,I v23,I v24, .view Aa v25,I v26,I v27,I v28,I v29,I v30,I v31,I v32,I v33,I v34, .view Aa v35,I v36,I v37,I v38,I v39,I v40,I v41,I v42,I v43,I v44, .view Aa v45,I v46,I v47,I v48,I v49,I v50]):=by kernel_rfl
theorem Zk4 (BT:Fn) (N4 N10:Lp) (x0:Rw) (x1 x2 x3:Int) (x4 x5:Rw) (x6 x7 x8 x9 x10 x11 x12 x13 x14 x15 x16 x17 x18 x19 x20 x21:Int) (x22:Rw) (x23 x24 x25 x26 x27 x28 x29 x30 x31:Int) (x32:Rw) (x33 x34 x35 x36 x37 x38 x39 x40 x41:Int) (x42:Rw) (x43 x44 x45 x46 x47:Int):Yl BT N4 N10 [.view As x0,I x1,I x2,I x3, .view Ag x4, .view kPt x5,I x6,I x7,I x8,I x9,I x10,I x11,I x12,I x13,I x14,I x15,I x16,I x17,I x18,I x19,I x20,I x21, .view Aa x22,I x23,I x24,I x25,I x26,I x27,I x28,I x29,I x30,I x31, .view Aa x32,I x33,I x34,I x35,I x36,I x37,I x38,I x39,I x40,I x41, .view Aa x42,I x43,I x44,I x45,I x46,I x47]=
 (N4 [.view Aa [], .view As x0,I x6,I x7,I x8,I 0, .view Ag x4,I (x4.length:Int),I 0,I x1,I x2,I x3, .view Ag x4, .view kPt x5,I x9,I x10,I x11,I x12,I x13,I x14,I x15,I x16,I x17,I x18,I x19,I x20,I x21, .view Aa x22,I x23,I x24,I x25,I x26,I x27,I x28,I x29,I x30,I x31, .view Aa x32,I x33,I x34,I x35,I x36,I x37,I x38,I x39,I x40,I x41, .view Aa x42,I x43,I x44,I x45,I x46,I x47]).bind fun o19=>
 bif o19.1.beq 1 then
 (N10 [.view Aa (wA o19.2 0), .view As (wA o19.2 1),jA o19.2 2,jA o19.2 3,jA o19.2 4,I (↑(wA o19.2 8).length:Int),I 0,jA o19.2 5,jA o19.2 6,jA o19.2 7, .view Ag (wA o19.2 8), .view kPt (wA o19.2 9),jA o19.2 10,jA o19.2 11,jA o19.2 12,jA o19.2 13,jA o19.2 14,jA o19.2 15,jA o19.2 16,jA o19.2 17,jA o19.2 18,jA o19.2 19,jA o19.2 20,jA o19.2 21,jA o19.2 22, .view Aa (wA o19.2 23),jA o19.2 24,jA o19.2 25,jA o19.2 26,jA o19.2 27,jA o19.2 28,jA o19.2 29,jA o19.2 30,jA o19.2 31,jA o19.2 32, .view Aa (wA o19.2 33),jA o19.2 34,jA o19.2 35,jA o19.2 36,jA o19.2 37,jA o19.2 38,jA o19.2 39,jA o19.2 40,jA o19.2 41,jA o19.2 42, .view Aa (wA o19.2 43),jA o19.2 44,jA o19.2 45,jA o19.2 46,jA o19.2 47,jA o19.2 48]).bind fun o20=>
 bif o20.1.beq 1 then
 some [.view As (wA o20.2 0),jA o20.2 1,jA o20.2 2,jA o20.2 3,jA o20.2 4,jA o20.2 5,jA o20.2 6,jA o20.2 7,jA o20.2 8,jA o20.2 9,jA o20.2 10,jA o20.2 11,jA o20.2 12,jA o20.2 13, .view Aa (wA o20.2 14),jA o20.2 15,jA o20.2 16,jA o20.2 17,jA o20.2 18,jA o20.2 19,jA o20.2 20,jA o20.2 21,jA o20.2 22,jA o20.2 23, .view Aa (wA o20.2 24),jA o20.2 25,jA o20.2 26,jA o20.2 27,jA o20.2 28,jA o20.2 29,jA o20.2 30,jA o20.2 31,jA o20.2 32,jA o20.2 33, .view Aa (wA o20.2 34),jA o20.2 35,jA o20.2 36,jA o20.2 37,jA o20.2 38,jA o20.2 39]
 else
 none
 else
 none:=by kernel_rfl
def Nr:=Am (So FA)
def XE:=Am (Tq FA Nr)
def O7:=Yl FA Nr XE
theorem VJ:Ai PG (Va FA):=Ap rfl ⟨Q0j,trivial⟩
theorem Z0g:Ak PG (96,Ac YP Qeq O7):=rw2 (C:=(Qzo FA Nr XE)) (fl (fl fb VJ) VJ) VJ
def Qe6:Sk:=⟨[TS.v true [ci,ci,ci,CS.sl Ag,CS.sl kPt]],[],[]⟩
def Qgc:Sk:=⟨[tf [ci]],[],[]⟩
def Qoj (M:Fn):Nat×Spec:=(91,Ac Qe6 Qgc M)
def C_path_Length_0:Cfg:=cf []
def Qrx:Sk:=⟨[td,td,td,tf [ci],td,td,td,tf [CS.sl Ag],tf [ci],tf [ci]]++dd 9,[],[]⟩
def Qu4:List (Ex×Sk):=[(Ex.exit 0,⟨[td,td,td,tf [ci]]++dd 15,[],[]⟩)]
def T0:Lp:=A4 PG C_path_Length_0 64 3 (A3 PG 91 3) Qrx Qu4
def Qyt (N3:Lp):Cfg:=C_path_Length_0.loop 3 Qrx Qu4 N3
def Q3x (N3:Lp):Fn:=An PG (Qyt N3) 64 91 Qe6 Qgc
theorem Q6y (v0:Int) (v1:Rw) (v2 v3:Int):T0 [I v0, .view Ag v1,I v2,I v3]=
 bif decide (v3<v2)then
 bif decide (0<=v3)&&decide (v3<(v1.length:Int))then
 some (0,[I (wrap .i64 (v0+gA (nth [] v1 v3.toNat) 3)), .view Ag v1,I v2,I (wrap .i64 (v3+1))])
 else
 none
 else
 some (1,[I v0]):=by kernel_rfl
theorem Zni (N3:Lp) (x0 x1 x2:Int) (x3 x4:Rw):Q3x N3 [I x0,I x1,I x2, .view Ag x3, .view kPt x4]=
 (N3 [I 0, .view Ag x3,I (x3.length:Int),I 0]).bind fun o1=>
 bif o1.1.beq 1 then
 some [jA o1.2 0]
 else
 none:=by kernel_rfl
def Q5:=Am (T0)
def I3:=Q3x Q5
theorem Qzj:Ai PG (C_path_Length_0):=Ap rfl trivial
theorem Q5n:Ak PG (91,Ac Qe6 Qgc I3):=rw2 (C:=(Qyt Q5)) (fl fb Qzj) Qzj
def Qa3:Sk:=⟨[TS.v true [ci,ci,ci,CS.sl Ag,CS.sl kPt],TS.v true (cc 9++[CS.sl Aa]++cc 9++[CS.sl Aa]++cc 9++[CS.sl Aa]),TS.v true [ci,ci,ci],tf [ci],tf [ci]],[],[]⟩
def Qlk:Sk:=⟨[TS.v true ([CS.sl As]++cc 5)],[],[]⟩
def Zqe (M:Fn):Nat×Spec:=(58,Ac Qa3 Qlk M)
def Qj7 (K7 BT FJ Dx F3:Fn):Cfg:=cp [Zdz K7,Qtp BT,Q17 FJ,Wt Dx,Qoj F3] [96,93,92]
def Ql3 (K7 BT FJ Dx F3:Fn):Fn:=An PG (Qj7 K7 BT FJ Dx F3) 64 58 Qa3 Qlk
theorem Zpi (K7 BT FJ Dx F3:Fn) (x0 x1 x2:Int) (x3 x4:Rw) (x5 x6 x7 x8 x9 x10 x11 x12 x13:Int) (x14:Rw) (x15 x16 x17 x18 x19 x20 x21 x22 x23:Int) (x24:Rw) (x25 x26 x27 x28 x29 x30 x31 x32 x33:Int) (x34:Rw) (x35 x36 x37 x38 x39:Int):Ql3 K7 BT FJ Dx F3 [I x0,I x1,I x2, .view Ag x3, .view kPt x4,I x5,I x6,I x7,I x8,I x9,I x10,I x11,I x12,I x13, .view Aa x14,I x15,I x16,I x17,I x18,I x19,I x20,I x21,I x22,I x23, .view Aa x24,I x25,I x26,I x27,I x28,I x29,I x30,I x31,I x32,I x33, .view Aa x34,I x35,I x36,I x37,I x38,I x39]=
 (F3 [I x0,I x1,I x2, .view Ag x3, .view kPt x4]).bind fun o5=>
 (Dx [I x38,jA o5 0]).bind fun o6=>
 (Dx [I x39,jA o5 0]).bind fun o7=>
 bif decide (gA o6 0>gA o7 0)then
 (K7 [.view As [],I x0,I x1,I x2, .view Ag x3, .view kPt x4,I (mn (gA o6 0) (gA o7 0)),I (mx (gA o6 0) (gA o7 0)),I (-1),I x35,I x36,I x37,I (-1),I x5,I x6,I x7,I x8,I x9,I x10,I x11,I x12,I x13, .view Aa x14,I x15,I x16,I x17,I x18,I x19,I x20,I x21,I x22,I x23, .view Aa x24,I x25,I x26,I x27,I x28,I x29,I x30,I x31,I x32,I x33, .view Aa x34,I 0,jA o6 0,I x35,I x36,I x37]).bind fun o8=>
 some [.view As (wA o8 0),jA o8 35,jA o8 36,jA o8 37,jA o8 38,jA o8 39]
 else
 (K7 [.view As [],I x0,I x1,I x2, .view Ag x3, .view kPt x4,I (mn (gA o6 0) (gA o7 0)),I (mx (gA o6 0) (gA o7 0)),I 1,I x35,I x36,I x37,I 1,I x5,I x6,I x7,I x8,I x9,I x10,I x11,I x12,I x13, .view Aa x14,I x15,I x16,I x17,I x18,I x19,I x20,I x21,I x22,I x23, .view Aa x24,I x25,I x26,I x27,I x28,I x29,I x30,I x31,I x32,I x33, .view Aa x34,I 0,jA o6 0,I x35,I x36,I x37]).bind fun o9=>
 some [.view As (wA o9 0),jA o9 35,jA o9 36,jA o9 37,jA o9 38,jA o9 39]:=by kernel_rfl
def Qn:=Ql3 O7 FA Lh G5 I3
theorem Zj7:Ai PG (Qj7 O7 FA Lh G5 I3):=Ap rfl ⟨Z0g,Q0j,Qtr,Qdl,Q5n,trivial⟩
theorem Za1:Ak PG (58,Ac Qa3 Qlk Qn):=rw1 (C:=(Qj7 O7 FA Lh G5 I3)) Zj7
def YZ:Sk:=⟨[TS.v true (cc 6)],[],[]⟩
def Yc:Sk:=⟨[tf [CS.bool]],[],[]⟩
def Zjo (M:Fn):Nat×Spec:=(64,Ac YZ Yc M)
def YK:Cfg:=cf []
def Qnc:Fn:=An PG YK 64 64 YZ Yc
theorem Zl8 (x0 x1 x2 x3 x4 x5:Int):Qnc [I x0,I x1,I x2,I x3,I x4,I x5]=
 bif x1==0 then
 bif x2==0 then
 bif x3==x0 then
 some [B (x4==x0)]
 else
 some [B false]
 else
 some [B false]
 else
 some [B false]:=by kernel_rfl
def LN:=Qnc
theorem Zm9:Ai PG (YK):=Ap rfl trivial
theorem Zvn:Ak PG (64,Ac YZ Yc LN):=rw1 (C:=YK) Zm9
def Qsq:Sk:=⟨[TS.v true [ci,ci,ci,CS.sl Ag,CS.sl kPt],TS.v true (cc 9++[CS.sl Aa]++cc 9++[CS.sl Aa]++cc 9++[CS.sl Aa]),TS.v true ([CS.sl As]++cc 5),TS.v true (cc 6),tf [ci]],[],[]⟩
def Qx0:Sk:=⟨[TS.tup [(true,[CS.sl As]++cc 5),(true,cc 6),(false,[CS.bool])]],[],[]⟩
def Zaz (M:Fn):Nat×Spec:=(105,Ac Qsq Qx0 M)
def Qz:Fn:=fun _=>none
theorem Zb0:Ak PG (105,Ac Qsq Qx0 Qz):=OS
def VP:Sk:=⟨[tf [CS.ptr 20000 0]],[(20000,119,cS)],[]⟩
def YJ:Sk:=⟨[TS.tup [(false,[ci]),(false,[CS.bool])]],[(20000,119,cS)],[]⟩
def Q8e (M:Fn):Nat×Spec:=(69,Ac VP YJ M)
def Qmp (G8 CH:Fn):Cfg:=cf [Zaz G8,Qj3 CH]
def UK (G8 CH:Fn):Fn:=An PG (Qmp G8 CH) 64 69 VP YJ
abbrev Qlv (G8:Fn) (K:Kf) (c:Cv) (h1_0 h2_0:AC):Option (List AC):=
 (G8 (pxt K.p K.x K.t [I c.m0,I c.m1,I c.m2,I c.m3,I c.m4,I c.m5,h2_0])).bind fun o10=>
 bif !bA o10 12 then
 some (h1_0::B true::Ad K c)
 else
 bif c.way==1 then
 some (h1_0::B true::D_ (Ad K c) [(44, .view As (wA o10 0)),(45,jA o10 1),(46,jA o10 2),(47,jA o10 3),(48,jA o10 4),(49,jA o10 5),(50,jA o10 6),(51,jA o10 7),(52,jA o10 8),(53,jA o10 9),(54,jA o10 10),(55,jA o10 11),(71,I 2),(89,B true)])
 else
 some (h1_0::B true::D_ (Ad K c) [(44, .view As (wA o10 0)),(45,jA o10 1),(46,jA o10 2),(47,jA o10 3),(48,jA o10 4),(49,jA o10 5),(50,jA o10 6),(51,jA o10 7),(52,jA o10 8),(53,jA o10 9),(54,jA o10 10),(55,jA o10 11),(58,B true),(71,I 0),(89,B true)])
attribute [go_sem] Qlv
abbrev Qee (c:Cv) (CH:Fn) (K:Kf) (G8:Fn) (h1_0:AC):Option (List AC):=
 bif !c.aM then
 (CH (pxt K.p K.x K.t [I K.pa,I K.pb,I K.pc,I c.o0,I c.o1,B c.o2,B c.o3,B c.o4,I c.m0,I c.m1,I c.m2,I c.m3,I c.m4,I c.m5,I K.t.length])).bind fun o8=>
 some (h1_0::B true::Ad K {c with m0:=gA o8 0,m1:=gA o8 1,m2:=gA o8 2,m3:=gA o8 3,m4:=gA o8 4,m5:=gA o8 5})
 else
 bif c.m0 !=wrap .i64 (K.t.length*256)then
 (CH (pxt K.p K.x K.t [I K.pa,I K.pb,I K.pc,I c.o0,I c.o1,B c.o2,B c.o3,B c.o4,I c.m0,I c.m1,I c.m2,I c.m3,I c.m4,I c.m5,I K.t.length])).bind fun o9=>
 some (h1_0::B true::Ad K {c with m0:=gA o9 0,m1:=gA o9 1,m2:=gA o9 2,m3:=gA o9 3,m4:=gA o9 4,m5:=gA o9 5})
 else
 bif c.way==2 then
 Qlv G8 K c h1_0 (I K.len)
 else
 Qlv G8 K c h1_0 (I c.home)
attribute [go_sem] Qee
theorem Zv0 (G8 CH:Fn) (K:Kf) (c:Cv):UK G8 CH (Ad K c)=
 bif c.way==0 then
 some (I 0::B false::Ad K c)
 else
 bif c.way==2 then
 Qee c CH K G8 (I 5)
 else
 Qee c CH K G8 (I 4):=by kernel_rfl
def LG:=UK Qz EK
theorem Zam:Ai PG (Qmp Qz EK):=Ap rfl ⟨Zb0,Qbb,trivial⟩
theorem Zt0:Ak PG (69,Ac VP YJ LG):=rw1 (C:=(Qmp Qz EK)) Zam
def Qga:Sk:=⟨[tf [CS.ptr 20000 0]],[(20000,119,cS)],[]⟩
def Qfx:Sk:=⟨[TS.tup [(false,[ci]),(false,[CS.bool])]],[(20000,119,cS)],[]⟩
def Zv5 (M:Fn):Nat×Spec:=(68,Ac Qga Qfx M)
def Qjc (D9:Fn):Cfg:=cp [Q55 D9] [103]
def XH (D9:Fn):Fn:=An PG (Qjc D9) 64 68 Qga Qfx
theorem Zt8 (D9:Fn) (K:Kf) (c:Cv):XH D9 (Ad K c)=
 bif !c.on then
 some (I 0::B false::Ad K c)
 else
 (D9 (Ad K c)).bind fun o1=>
 some (jA o1 0::B true::cR 1 o1):=by kernel_rfl
def KP:=XH JM
theorem Zed:Ai PG (Qjc JM):=Ap rfl ⟨Qqt,trivial⟩
theorem Zby:Ak PG (68,Ac Qga Qfx KP):=rw1 (C:=(Qjc JM)) Zed
def Qmr:Sk:=⟨[tf [CS.ptr 20000 0]],[(20000,119,cS)],[]⟩
def Qau:Sk:=⟨[TS.tup [(false,[ci]),(false,[CS.bool])]],[(20000,119,cS)],[]⟩
def Zf1 (M:Fn):Nat×Spec:=(67,Ac Qmr Qau M)
def YV:Cfg:=cf []
def Us:Fn:=An PG YV 64 67 Qmr Qau
theorem Ztl (K:Kf) (c:Cv):Us (Ad K c)=
 bif !c.aH then
 some (I 0::B false::Ad K c)
 else
 bif !c.aM then
 some (I 0::B false::Ad K c)
 else
 some (I 8::B true::Ad K {c with aI:=8}):=by kernel_rfl
def KN:=Us
theorem Z1p:Ai PG (YV):=Ap rfl trivial
theorem Zzm:Ak PG (67,Ac Qmr Qau KN):=rw1 (C:=YV) Z1p
def T8:Sk:=⟨[tf [CS.ptr 20000 0]],[(20000,119,cS)],[]⟩
def Qnp:Sk:=⟨[TS.tup [(false,[ci]),(false,[CS.bool])]],[(20000,119,cS)],[]⟩
def Zx2 (M:Fn):Nat×Spec:=(66,Ac T8 Qnp M)
def WI:Cfg:=cf []
def YC:Fn:=An PG WI 64 66 T8 Qnp
theorem Zpy (K:Kf) (c:Cv):YC (Ad K c)=
 some (I c.aI::B (c.aI !=0)::Ad K c):=by kernel_rfl
def KV:=YC
theorem Zt7:Ai PG (WI):=Ap rfl trivial
theorem Ziw:Ak PG (66,Ac T8 Qnp KV):=rw1 (C:=WI) Zt7
def Qcc:Sk:=⟨[tf [CS.ptr 20000 0]],[(20000,119,cS)],[]⟩
def Qj0:Sk:=⟨[TS.tup [(false,[ci]),(false,[CS.bool])]],[(20000,119,cS)],[]⟩
def Zov (M:Fn):Nat×Spec:=(65,Ac Qcc Qj0 M)
def X6 (FX A_:Fn):Cfg:=cr [Qwa FX,RU A_] [63] [63]
def Ve (FX A_:Fn):Fn:=An PG (X6 FX A_) 64 65 Qcc Qj0
theorem Zyz (FX A_:Fn) (K:Kf) (c:Cv):Ve FX A_ (Ad K c)=
 bif c.g0 !=2 then
 some (I 0::B false::Ad K c)
 else
 (A_ (Ad K c)).bind fun o2=>
 (FX [jA o2 0]).bind fun o3=>
 some (I 6::B true::Ad K {c with m0:=gA o3 0,m1:=gA o3 1,m2:=gA o3 2,m3:=gA o3 3,m4:=gA o3 4,m5:=gA o3 5}):=by kernel_rfl
def KK:=Ve IK D6
theorem Z0m:Ai PG (X6 IK D6):=IC (rs:=[63]) rfl ⟨Qp4,QX,trivial⟩ rfl (CZ rfl (Hh I9))
theorem Q71:Ak PG (65,Ac Qcc Qj0 KK):=rw1 (C:=(X6 IK D6)) Z0m
def Ys:Sk:=⟨[TS.v true [ci,ci,ci,ci],tf [ci]],[],[]⟩
def ZB:Sk:=⟨[TS.v true [ci,ci,ci,ci]],[],[]⟩
def Zln (M:Fn):Nat×Spec:=(62,Ac Ys ZB M)
def Qad:Cfg:=cf []
def Qaq:Fn:=An PG Qad 64 62 Ys ZB
theorem Zzo (x0 x1 x2 x3 x4:Int):Qaq [I x0,I x1,I x2,I x3,I x4]=
 bif decide (x1<x2)then
 some [I x0,I (mn (wrap .i64 (x1+x4)) x2),I x2,I (wrap .i64 (x3+wrap .i64 (x0*mn (wrap .i64 (x1+x4)) x2)))]
 else
 some [I x0,I (mx (wrap .i64 (x1-x4)) x2),I x2,I (wrap .i64 (x3+wrap .i64 (x0*mx (wrap .i64 (x1-x4)) x2)))]:=by kernel_rfl
def Lk:=Qaq
theorem Zxo:Ai PG (Qad):=Ap rfl trivial
theorem Zg7:Ak PG (62,Ac Ys ZB Lk):=rw1 (C:=Qad) Zxo
def Xm:Sk:=⟨[tf [CS.ptr 20000 0]],[(20000,119,cS)],[]⟩
def Qfk:Sk:=⟨[tf [CS.bool]],[],[]⟩
def Zt3 (M:Fn):Nat×Spec:=(61,EZ Xm Qfk M)
def Pu (FR:Fn):Cfg:=cr [Qs8 FR] [102] [102]
def ZX (FR:Fn):Fn:=Nc PG (Pu FR) 64 61 Xm Qfk
theorem Zy3 (FR:Fn) (K:Kf) (c:Cv):ZX FR (Ad K c)=
 (FR (Ad K c)).bind fun o1=>
 bif bA o1 7 then
 bif decide (0<=gA o1 4)&&decide (gA o1 4<((K.aA.map Ah).length:Int))then
 bif gA (nth [] (K.aA.map Ah) (gA o1 4).toNat) 0==6 then
 some [B (c.y0==gA o1 4)]
 else
 some [B false]
 else
 none
 else
 some [B false]:=by kernel_rfl
def Lu:=ZX Hj
theorem Zca:Ai PG (Pu Hj):=IC (rs:=[102]) rfl ⟨Q1v,trivial⟩ rfl (Hh I9)
theorem Zn2 (vars : List AC) (R : Type) (K : TV -> Mem -> Option R) : Fb PG (Pu Hj) 64 61 [TV.v false [AC.ptr 20000 0]] ⟨[(20000, (⟨119, (cR 0 vars)⟩ : Box))], []⟩ K = Fb PG (Pu Hj) 64 61 [TV.v false [AC.ptr 20000 0]] ⟨[(20000, (⟨119, (cR 0 vars)⟩ : Box))], []⟩ (fun v _ => K v ⟨[(20000, (⟨119, (cR 0 vars)⟩ : Box))], []⟩) := Eq.trans (b := ((Hj (cR 0 vars)).bind fun o1 =>
 bif bA o1 7 then
 bif decide (0<=gA o1 4)&&decide (gA o1 4<(↑(wA vars 35).length:Int))then
 bif Af (nth .dead (nth [] (wA vars 35) (gA o1 4).toNat) 0)==6 then
 K (TV.v false [B ((gA vars 79)==gA o1 4)]) ⟨[(20000,(⟨119,(cR 0 vars)⟩:Box))],[]⟩
 else
 K (TV.v false [B false]) ⟨[(20000,(⟨119,(cR 0 vars)⟩:Box))],[]⟩
 else
 none
 else
 K (TV.v false [B false]) ⟨[(20000,(⟨119,(cR 0 vars)⟩:Box))],[]⟩)) (by kernel_rfl) (Eq.symm (by kernel_rfl))
theorem Z0z:Ak PG (61,EZ Xm Qfk Lu):=RA (C:=(Pu Hj)) (L:=64) (by kernel_rfl) (FnOK.bare rfl rfl rfl) Zca eqOk Ii (by kernel_rfl) (by kernel_rfl) (fun vars R K=>Zn2 vars R K)
def Quq:Sk:=⟨[tf [CS.ptr 20000 0],tf [ci]],[(20000,119,cS)],[]⟩
def Qpj:Sk:=⟨[TS.tup []],[(20000,119,cS)],[]⟩
def Zjd (M:Fn):Nat×Spec:=(101,Ac Quq Qpj M)
def SI:Fn:=fun _=>none
theorem Zvc:Ak PG (101,Ac Quq Qpj SI):=OS
def Q0h:Sk:=⟨[tf [CS.ptr 20000 0]],[(20000,119,cS)],[]⟩
def Qq9:Sk:=⟨[TS.tup []],[(20000,119,cS)],[]⟩
def Zqf (M:Fn):Nat×Spec:=(100,Ac Q0h Qq9 M)
def TE:Fn:=fun _=>none
theorem Zpj:Ak PG (100,Ac Q0h Qq9 TE):=OS
def Q09:Sk:=⟨[tf [CS.ptr 20000 0],tf [ci]],[(20000,119,cS)],[]⟩
def Qt2:Sk:=⟨[TS.tup []],[(20000,119,cS)],[]⟩
def Zhx (M:Fn):Nat×Spec:=(99,Ac Q09 Qt2 M)
def Qx:Fn:=fun _=>none
theorem Zpu:Ak PG (99,Ac Q09 Qt2 Qx):=OS
def Qgq:Sk:=⟨[],[],[]⟩
def Qk1:Sk:=⟨[TS.v true [ci,ci,ci]],[],[]⟩
def Q22 (M:Fn):Nat×Spec:=(56,Ac Qgq Qk1 M)
def Qfa:Cfg:=cf []
def SF:Fn:=An PG Qfa 64 56 Qgq Qk1
theorem Qrr:SF []=
 some [I 0,I 0,I (-1)]:=by kernel_rfl
def JT:=SF
theorem Q9h:Ai PG (Qfa):=Ap rfl trivial
theorem Qqg:Ak PG (56,Ac Qgq Qk1 JT):=rw1 (C:=Qfa) Q9h
def Qcw:Sk:=⟨[TS.v true [ci,ci,ci],tf [ci],tf [ci]],[],[]⟩
def Qag:Sk:=⟨[TS.v true [ci,ci,ci]],[],[]⟩
def Ztr (M:Fn):Nat×Spec:=(144,Ac Qcw Qag M)
def Qft:Cfg:=cf []
def Qmu:Fn:=An PG Qft 64 144 Qcw Qag
theorem Zu6 (x0 x1 x2 x3 x4:Int):Qmu [I x0,I x1,I x2,I x3,I x4]=
 bif x0==2 then
 some [I x0,I x1,I x2]
 else
 bif x1==0 then
 some [I 1,I x3,I x4]
 else
 some [I 1,I x1,I x2]:=by kernel_rfl
def Pm:=Qmu
theorem Zju:Ai PG (Qft):=Ap rfl trivial
theorem Zhf:Ak PG (144,Ac Qcw Qag Pm):=rw1 (C:=Qft) Zju
def Ql7:Sk:=⟨[TS.v true [ci,ci,ci],TS.v true [ci,ci,ci]],[],[]⟩
def Qhd:Sk:=⟨[TS.v true [ci,ci,ci]],[],[]⟩
def Zgp (M:Fn):Nat×Spec:=(98,Ac Ql7 Qhd M)
def ZD (F0 KO:Fn):Cfg:=cf [Q22 F0,Ztr KO]
def V6 (F0 KO:Fn):Fn:=An PG (ZD F0 KO) 64 98 Ql7 Qhd
theorem Zko (F0 KO:Fn) (x0 x1 x2 x3 x4 x5:Int):V6 F0 KO [I x0,I x1,I x2,I x3,I x4,I x5]=
 bif x4==10 then
 some [I 2,I 22,I (-1)]
 else
 bif x4==9 then
 (KO [I x0,I x1,I x2,I 21,I (-1)]).bind fun o3=>
 some [jA o3 0,jA o3 1,jA o3 2]
 else
 bif x4==8 then
 bif decide (x5>=0)then
 bif decide (x5<=2)then
 (KO [I x0,I x1,I x2,I 20,I x5]).bind fun o4=>
 some [jA o4 0,jA o4 1,jA o4 2]
 else
 some [I x0,I x1,I x2]
 else
 some [I x0,I x1,I x2]
 else
 bif x4==11 then
 (F0 []).bind fun o5=>
 some [jA o5 0,jA o5 1,jA o5 2]
 else
 some [I x0,I x1,I x2]:=by kernel_rfl
def S8:=V6 JT Pm
theorem Zqz:Ai PG (ZD JT Pm):=Ap rfl ⟨Qqg,Zhf,trivial⟩
theorem Zwk:Ak PG (98,Ac Ql7 Qhd S8):=rw1 (C:=(ZD JT Pm)) Zqz
def T4:Sk:=⟨[tf [CS.bool],tf [ci]],[],[]⟩
def Qlu:Sk:=⟨[tf [CS.bool]],[],[]⟩
def Zc3 (M:Fn):Nat×Spec:=(143,Ac T4 Qlu M)
def XB:Cfg:=cf []
def Vj:Fn:=An PG XB 64 143 T4 Qlu
theorem Q9q (x0:Bool) (x1:Int):Vj [B x0,I x1]=
 bif x1==0 then
 some [B false]
 else
 bif x1==1 then
 some [B true]
 else
 some [B x0]:=by kernel_rfl
def Pc:=Vj
theorem Zd7:Ai PG (XB):=Ap rfl trivial
theorem Zof:Ak PG (143,Ac T4 Qlu Pc):=rw1 (C:=XB) Zd7
def Xl:Sk:=⟨[TS.v true [ci,ci,CS.bool,CS.bool,CS.bool],TS.v true [ci,ci,ci]],[],[]⟩
def Qhe:Sk:=⟨[TS.v true [ci,ci,CS.bool,CS.bool,CS.bool]],[],[]⟩
def Zef (M:Fn):Nat×Spec:=(97,Ac Xl Qhe M)
def Qmx (KX:Fn):Cfg:=cf [Zc3 KX]
def Q3 (KX:Fn):Fn:=An PG (Qmx KX) 64 97 Xl Qhe
theorem Qv1 (KX:Fn) (x0 x1:Int) (x2 x3 x4:Bool) (x5 x6 x7:Int):Q3 KX [I x0,I x1,B x2,B x3,B x4,I x5,I x6,I x7]=
 bif x6==1 then
 bif decide (0<=x7)then
 bif decide (x7<=200)then
 some [I x7,I x1,B x2,B x3,B x4]
 else
 some [I x0,I x1,B x2,B x3,B x4]
 else
 some [I x0,I x1,B x2,B x3,B x4]
 else
 bif x6==2 then
 bif decide (0<=x7)then
 bif decide (x7<=100)then
 some [I x0,I x7,B x2,B x3,B x4]
 else
 some [I x0,I x1,B x2,B x3,B x4]
 else
 some [I x0,I x1,B x2,B x3,B x4]
 else
 bif x6==3 then
 some [I x0,I x1,B true,B x3,B x4]
 else
 bif x6==4 then
 some [I x0,I x1,B false,B x3,B x4]
 else
 bif x6==5 then
 (KX [B x3,I x7]).bind fun o2=>
 some [I x0,I x1,B x2,B (bA o2 0),B x4]
 else
 bif x6==6 then
 (KX [B x4,I x7]).bind fun o3=>
 some [I x0,I x1,B x2,B x3,B (bA o3 0)]
 else
 some [I x0,I x1,B x2,B x3,B x4]:=by kernel_rfl
def Sb:=Q3 Pc
theorem Zdc:Ai PG (Qmx Pc):=Ap rfl ⟨Zof,trivial⟩
theorem Zz1:Ak PG (97,Ac Xl Qhe Sb):=rw1 (C:=(Qmx Pc)) Zdc
def Qfb:Sk:=⟨[tf [CS.ptr 20000 0],TS.v true [ci,ci,ci]],[(20000,119,cS)],[]⟩
def Qcg:Sk:=⟨[TS.tup []],[(20000,119,cS)],[]⟩
def Zyk (M:Fn):Nat×Spec:=(60,Ac Qfb Qcg M)
def Qkv (Nt Nm Oh L3 Oy:Fn):Cfg:=cp [Zjd Nt,Zqf Nm,Zhx Oh,Zgp L3,Zef Oy] [101,100,99]
def Yw (Nt Nm Oh L3 Oy:Fn):Fn:=An PG (Qkv Nt Nm Oh L3 Oy) 64 60 Qfb Qcg
theorem Zah (Nt Nm Oh L3 Oy:Fn) (x0 x1 x2:Int) (K:Kf) (c:Cv):Yw Nt Nm Oh L3 Oy (I x0::I x1::I x2::Ad K c)=
 (Oy [I c.o0,I c.o1,B c.o2,B c.o3,B c.o4,I x0,I x1,I x2]).bind fun o5=>
 (L3 [I c.g0,I c.g1,I c.g2,I x0,I x1,I x2]).bind fun o6=>
 bif x1==13 then
 (Oh (I x2::Ad K {c with o0:=gA o5 0,o1:=gA o5 1,o2:=bA o5 2,o3:=bA o5 3,o4:=bA o5 4,g0:=gA o6 0,g1:=gA o6 1,g2:=gA o6 2})).bind fun o7=>
 some (cR 0 o7)
 else
 bif x1==11 then
 some (Ad K {c with o0:=gA o5 0,o1:=gA o5 1,o2:=true,o3:=bA o5 3,o4:=bA o5 4,g0:=gA o6 0,g1:=gA o6 1,g2:=gA o6 2})
 else
 bif x1==12 then
 (Nm (Ad K {c with o0:=gA o5 0,o1:=gA o5 1,o2:=bA o5 2,o3:=bA o5 3,o4:=bA o5 4,g0:=gA o6 0,g1:=gA o6 1,g2:=gA o6 2})).bind fun o8=>
 some (cR 0 o8)
 else
 bif x1==7 then
 (Nt (I x2::Ad K {c with o0:=gA o5 0,o1:=gA o5 1,o2:=bA o5 2,o3:=bA o5 3,o4:=bA o5 4,g0:=gA o6 0,g1:=gA o6 1,g2:=gA o6 2})).bind fun o9=>
 some (cR 0 o9)
 else
 bif x1==4 then
 some (Ad K {c with o0:=gA o5 0,o1:=gA o5 1,o2:=bA o5 2,o3:=bA o5 3,o4:=bA o5 4,g0:=gA o6 0,g1:=gA o6 1,g2:=gA o6 2,aJ:=true})
 else
 some (Ad K {c with o0:=gA o5 0,o1:=gA o5 1,o2:=bA o5 2,o3:=bA o5 3,o4:=bA o5 4,g0:=gA o6 0,g1:=gA o6 1,g2:=gA o6 2}):=by kernel_rfl
def Lx:=Yw SI TE Qx S8 Sb
theorem Zjh:Ai PG (Qkv SI TE Qx S8 Sb):=Ap rfl ⟨Zvc,Zpj,Zpu,Zwk,Zz1,trivial⟩
theorem Z0i:Ak PG (60,Ac Qfb Qcg Lx):=rw1 (C:=(Qkv SI TE Qx S8 Sb)) Zjh
end Go.Bm
