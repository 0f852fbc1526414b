/- functions of the program and of the references, as models -/
import Derived.Test.YtommijghjlikkaaGreatSeShelf
import Derived.Test.YtommijghjlikkaaGreatSeExt
import Derived.Test.YtommijghjlikkaaGreatSePre
import Derived.Test.YtommijghjlikkaaGreatSeKc
import Derived.Test.YtommijghjlikkaaGreatBmTy
set_option linter.unusedSimpArgs false
set_option linter.unusedVariables false
set_option maxRecDepth 100000
noncomputable section
open Go.IntKind (wrap)
namespace Go.Bm
open Go.Proofs
def Ww:Sk:=⟨[tf [CS.sl kPt]],[],[]⟩
def WK:Sk:=⟨[TS.v true [ci,ci,ci]],[],[]⟩
def Z1i (M:Fn):Nat×Spec:=(30,Ad Ww WK M)
def C_pulse_Sum_0:Cfg:=cf []
def Q8n:Sk:=⟨[td,td,tf [CS.ptr 2 0],tf [CS.ptr 3 0],td,td,tf [CS.sl kPt],tf [ci],tf [ci]]++dd 21,[(2,44,[ci,ci,ci]),(3,44,[ci,ci,ci])],[]⟩
def Q7f:List (Ex×Sk):=[(Ex.exit 0,⟨[td,td,tf [CS.ptr 2 0],tf [CS.ptr 3 0]]++dd 26,[(2,44,[ci,ci,ci]),(3,44,[ci,ci,ci])],[]⟩)]
def Um:Lp:=AS PG C_pulse_Sum_0 64 3 (AV PG 30 3) Q8n Q7f
def Qsp (N3:Lp):Cfg:=C_pulse_Sum_0.loop 3 Q8n Q7f N3
def Qjz (N3:Lp):Fn:=Am PG (Qsp N3) 64 30 Ww WK
abbrev Pq (v0:Rw) (v2 v1 v3 v4 v5 v7 v8 v6:Int) (h1_0:AC):Option (Nat×List AC):=
 bif decide (gA (nth [] v0 v2.toNat) 1=(↑0:Int))then
 some (0,[.view kPt v0,I v1,I (wrap .i64 (v2+1)),I v3,I v4,I v5,h1_0,I v7,I v8])
 else
 bif decide (gA (nth [] v0 v2.toNat) 1=(↑(0+1):Int))then
 some (0,[.view kPt v0,I v1,I (wrap .i64 (v2+1)),I v3,I v4,I v5,I v6,h1_0,I v8])
 else
 bif decide (gA (nth [] v0 v2.toNat) 1=(↑(0+1+1):Int))then
 some (0,[.view kPt v0,I v1,I (wrap .i64 (v2+1)),I v3,I v4,I v5,I v6,I v7,h1_0])
 else
 none
theorem Zbx (v0:Rw) (v1 v2 v3 v4 v5 v6 v7 v8:Int):Um [.view kPt v0,I v1,I v2,I v3,I v4,I v5,I v6,I v7,I v8]=
 bif decide (v2<v1)then
 bif decide (0<=v2)&&decide (v2<(v0.length:Int))then
 bif decide (gA (nth [] v0 v2.toNat) 1>=0)then
 bif decide (gA (nth [] v0 v2.toNat) 1<3)then
 bif decide (gA (nth [] v0 v2.toNat) 1=(↑0:Int))then
 Pq v0 v2 v1 v3 v4 v5 v7 v8 v6 (I (wrap .i64 (v6+gA (nth [] v0 v2.toNat) 2)))
 else
 bif decide (gA (nth [] v0 v2.toNat) 1=(↑(0+1):Int))then
 Pq v0 v2 v1 v3 v4 v5 v7 v8 v6 (I (wrap .i64 (v7+gA (nth [] v0 v2.toNat) 2)))
 else
 bif decide (gA (nth [] v0 v2.toNat) 1=(↑(0+1+1):Int))then
 Pq v0 v2 v1 v3 v4 v5 v7 v8 v6 (I (wrap .i64 (v8+gA (nth [] v0 v2.toNat) 2)))
 else
 none
 else
 some (0,[.view kPt v0,I v1,I (wrap .i64 (v2+1)),I v3,I v4,I v5,I v6,I v7,I v8])
 else
 some (0,[.view kPt v0,I v1,I (wrap .i64 (v2+1)),I v3,I v4,I v5,I v6,I v7,I v8])
 else
 none
 else
 some (1,[I v3,I v4,I v5,I v6,I v7,I v8]):=by kernel_rfl
theorem Z28 (N3:Lp) (x0:Rw):Qjz N3 [.view kPt x0]=
 (N3 [.view kPt x0,I (x0.length:Int),I 0,I 0,I 0,I 0,I 0,I 0,I 0]).bind λo1=>
 bif o1.1.beq 1 then
 some [jA o1.2 3,jA o1.2 4,jA o1.2 5]
 else
 none:=by kernel_rfl
def Qxw:=An (Um)
def Oc:=Qjz Qxw
theorem Q82:Ai PG (C_pulse_Sum_0):=Ao rfl trivial
theorem Zok:Al PG (30,Ad Ww WK Oc):=rw2 (C:=(Qsp Qxw)) (fl fb Q82) Q82
def Qfp:Sk:=⟨[TS.v true (cc 9++[CS.sl Aa]),tf [ci]],[],[]⟩
def Qik:Sk:=⟨[tf [ci]],[],[]⟩
def Q2s (M:Fn):Nat×Spec:=(77,Ad Qfp Qik M)
def Q3e:Fn:=Am PG C_pulse_Sum_0 64 77 Qfp Qik
theorem Zfm (x0 x1 x2 x3 x4 x5 x6 x7 x8:Int) (x9:Rw) (x10:Int):Q3e [I x0,I x1,I x2,I x3,I x4,I x5,I x6,I x7,I x8, .view Aa x9,I x10]=
 bif x10== -1 then
 some [I (wrap .i64 (0-x6))]
 else
 some [I 0]:=by kernel_rfl
def IP:=Q3e
theorem Zob:Ai PG (C_pulse_Sum_0):=Ao rfl trivial
theorem Q7i:Al PG (77,Ad Qfp Qik IP):=rw1 (C:=C_pulse_Sum_0) Zob
def Qnl:Sk:=⟨[TS.v true (cc 9++[CS.sl Aa]),TS.v true (cc 10),tf [ci],tf [ci]],[],[]⟩
def Z58 (M:Fn):Nat×Spec:=(78,Ad Qnl Qik M)
def Qgu (BK:Fn):Cfg:=cf [Q2s BK]
def PH (BK:Fn):Fn:=Am PG (Qgu BK) 64 78 Qnl Qik
abbrev Qow (x20:Int) (BK:Fn) (x0 x1 x2 x3 x4 x5 x6 x7 x8:Int) (x9:Rw) (x17 x18 x19:Int):Option (List AC):=
 bif decide (x20=(↑0:Int))then
 (BK [I x0,I x1,I x2,I x3,I x4,I x5,I x6,I x7,I x8, .view Aa x9,I x17]).bind λo30=>
 some [jA o30 0]
 else
 bif decide (x20=(↑(0+1):Int))then
 (BK [I x0,I x1,I x2,I x3,I x4,I x5,I x6,I x7,I x8, .view Aa x9,I x18]).bind λo31=>
 some [jA o31 0]
 else
 bif decide (x20=(↑(0+1+1):Int))then
 (BK [I x0,I x1,I x2,I x3,I x4,I x5,I x6,I x7,I x8, .view Aa x9,I x19]).bind λo32=>
 some [jA o32 0]
 else
 none
abbrev TI (x21 x10 x6:Int) (h4_0:Bool):Option (List AC):=
 bif h4_0 then
 some [I (wrap .i64 (0-mn (wrap .i64 (x21-x10)) x6))]
 else
 some [I (wrap .i64 (mn (wrap .i64 (x21-x10)) x6-x6))]
abbrev Ud (x20:Int) (BK:Fn) (x0 x1 x2 x3 x4 x5 x6 x7 x8:Int) (x9:Rw) (x17 x18 x19 x21 x10:Int) (h1_0:Bool):Option (List AC):=
 bif h1_0 then
 Qow x20 BK x0 x1 x2 x3 x4 x5 x6 x7 x8 x9 x17 x18 x19
 else
 bif decide (x20=(↑0:Int))then
 TI x21 x10 x6 (x17== -1)
 else
 bif decide (x20=(↑(0+1):Int))then
 TI x21 x10 x6 (x18== -1)
 else
 bif decide (x20=(↑(0+1+1):Int))then
 TI x21 x10 x6 (x19== -1)
 else
 none
abbrev S7 (x20:Int) (BK:Fn) (x0 x1 x2 x3 x4 x5 x6 x7 x8:Int) (x9:Rw) (x17 x18 x19 x21 x10:Int) (h2_0 h2_1 h2_2:Bool):Option (List AC):=
 bif decide (x20=(↑0:Int))then
 Ud x20 BK x0 x1 x2 x3 x4 x5 x6 x7 x8 x9 x17 x18 x19 x21 x10 h2_0
 else
 bif decide (x20=(↑(0+1):Int))then
 Ud x20 BK x0 x1 x2 x3 x4 x5 x6 x7 x8 x9 x17 x18 x19 x21 x10 h2_1
 else
 bif decide (x20=(↑(0+1+1):Int))then
 Ud x20 BK x0 x1 x2 x3 x4 x5 x6 x7 x8 x9 x17 x18 x19 x21 x10 h2_2
 else
 none
theorem Qli (BK:Fn) (x0 x1 x2 x3 x4 x5 x6 x7 x8:Int) (x9:Rw) (x10 x11 x12 x13 x14 x15 x16 x17 x18 x19 x20 x21:Int):PH BK [I x0,I x1,I x2,I x3,I x4,I x5,I x6,I x7,I x8, .view Aa x9,I x10,I x11,I x12,I x13,I x14,I x15,I x16,I x17,I x18,I x19,I x20,I x21]=
 bif x13 !=0 then
 Qow x20 BK x0 x1 x2 x3 x4 x5 x6 x7 x8 x9 x17 x18 x19
 else
 bif decide (x20=(↑0:Int))then
 S7 x20 BK x0 x1 x2 x3 x4 x5 x6 x7 x8 x9 x17 x18 x19 x21 x10 (x14==x17) (x14==x18) (x14==x19)
 else
 bif decide (x20=(↑(0+1):Int))then
 S7 x20 BK x0 x1 x2 x3 x4 x5 x6 x7 x8 x9 x17 x18 x19 x21 x10 (x15==x17) (x15==x18) (x15==x19)
 else
 bif decide (x20=(↑(0+1+1):Int))then
 S7 x20 BK x0 x1 x2 x3 x4 x5 x6 x7 x8 x9 x17 x18 x19 x21 x10 (x16==x17) (x16==x18) (x16==x19)
 else
 none:=by kernel_rfl
def TK:=PH IP
theorem Zwk:Ai PG (Qgu IP):=Ao rfl ⟨Q7i,trivial⟩
theorem Zmf:Al PG (78,Ad Qnl Qik TK):=rw1 (C:=(Qgu IP)) Zwk
def Z1d (M:Fn):Nat×Spec:=(118,Ad Qfp Qik M)
def Q8k:Fn:=Am PG C_pulse_Sum_0 64 118 Qfp Qik
theorem Ztu (x0 x1 x2 x3 x4 x5 x6 x7 x8:Int) (x9:Rw) (x10:Int):Q8k [I x0,I x1,I x2,I x3,I x4,I x5,I x6,I x7,I x8, .view Aa x9,I x10]=
 bif decide (x0<=0)then
 some [I 0]
 else
 bif decide (wrap .i64 (2*x0)<=0)then
 some [I 0]
 else
 bif decide (wrap .i64 (2*x0)=0)then
 none
 else
 bif decide (wrap .i64 (2*x0)=0)then
 none
 else
 bif decide ((wrap .i64 (wrap .i64 (2*x10)+x0)).tmod (wrap .i64 (2*x0))<0)then
 some [I (wrap .i64 (wrap .i64 ((wrap .i64 (wrap .i64 (2*x10)+x0)).tdiv (wrap .i64 (2*x0)))-1))]
 else
 some [I (wrap .i64 ((wrap .i64 (wrap .i64 (2*x10)+x0)).tdiv (wrap .i64 (2*x0))))]:=by kernel_rfl
def KK:=Q8k
theorem Z1b:Ai PG (C_pulse_Sum_0):=Ao rfl trivial
theorem Zyz:Al PG (118,Ad Qfp Qik KK):=rw1 (C:=C_pulse_Sum_0) Z1b
def Qm7:Sk:=⟨[tf [CS.int .u64],tf [CS.bool]],[],[]⟩
def Zb:Sk:=⟨[TS.tup [(false,[ci]),(false,[CS.bool])]],[],[]⟩
def Yk (M:Fn):Nat×Spec:=(136,Ad Qm7 Zb M)
def Qda:Fn:=Am PG C_pulse_Sum_0 64 136 Qm7 Zb
theorem Qfu (x0:Int) (x1:Bool):Qda [U x0,B x1]=
 bif x1 then
 bif decide (x0<=9223372036854775808)then
 some [I (wrap .i64 (wrap .u64 (0-x0))),B true]
 else
 bif !x1 then
 bif decide (x0<9223372036854775808)then
 some [I (wrap .i64 x0),B true]
 else
 some [I 0,B false]
 else
 some [I 0,B false]
 else
 bif !x1 then
 bif decide (x0<9223372036854775808)then
 some [I (wrap .i64 x0),B true]
 else
 some [I 0,B false]
 else
 some [I 0,B false]:=by kernel_rfl
def Fc:=Qda
theorem Zmr:Ai PG (C_pulse_Sum_0):=Ao rfl trivial
theorem Qos:Al PG (136,Ad Qm7 Zb Fc):=rw1 (C:=C_pulse_Sum_0) Zmr
def Qlo:Sk:=⟨[tf [ci],tf [ci],tf [CS.bool],tf [CS.bool]],[],[]⟩
def Xp:Sk:=⟨[tf [CS.bool]],[],[]⟩
def Qsn (M:Fn):Nat×Spec:=(135,Ad Qlo Xp M)
def Qc5:Fn:=Am PG C_pulse_Sum_0 64 135 Qlo Xp
theorem Q1m (x0 x1:Int) (x2 x3:Bool):Qc5 [I x0,I x1,B x2,B x3]=
 bif x0==0 then
 bif x2 then
 some [B x3]
 else
 some [B false]
 else
 bif x0==1 then
 bif x2 then
 some [B !x3]
 else
 some [B false]
 else
 bif decide (x1>0)then
 some [B true]
 else
 bif x1==0 then
 some [B !x3]
 else
 some [B false]:=by kernel_rfl
def HJ:=Qc5
theorem Z03:Ai PG (C_pulse_Sum_0):=Ao rfl trivial
theorem Za0:Al PG (135,Ad Qlo Xp HJ):=rw1 (C:=C_pulse_Sum_0) Z03
def Qe3:Sk:=⟨[tf [ci],tf [ci]],[],[]⟩
def Qkl (M:Fn):Nat×Spec:=(134,Ad Qe3 Qik M)
def Qpt:Fn:=Am PG C_pulse_Sum_0 64 134 Qe3 Qik
theorem Q8y (x0 x1:Int):Qpt [I x0,I x1]=
 bif x0==0 then
 some [I 0]
 else
 bif x1==0 then
 some [I 0]
 else
 bif decide (x0<0)==decide (x1<0)then
 some [I 1]
 else
 some [I (-1)]:=by kernel_rfl
def FB:=Qpt
theorem Zru:Ai PG (C_pulse_Sum_0):=Ao rfl trivial
theorem Z3:Al PG (134,Ad Qe3 Qik FB):=rw1 (C:=C_pulse_Sum_0) Zru
def Qa4:Sk:=⟨[tf [CS.int .u64],tf [CS.int .u64],tf [CS.int .u64]],[],[]⟩
def Qi8:Sk:=⟨[TS.tup [(false,[CS.int .u64]),(false,[CS.int .u64])]],[],[]⟩
def Q8p (M:Fn):Nat×Spec:=(133,Ad Qa4 Qi8 M)
def Qmm (DT:Fn):Cfg:=cf [(176,Ad Q69 Q7w DT)]
def Q90:Sk:=⟨[td,td,tf [CS.int .u64],td,td,td,td,td,tf [CS.int .u64],tf [CS.int .u64],tf [CS.int .u64],tf [CS.int .u64],td,tf [CS.int .u64],tf [CS.int .u64],tf [CS.int .u64],tf [CS.int .u64]]++dd 118,[],[]⟩
def Q0h:List (Ex×Sk):=[(Ex.exit 0,⟨[td,td,tf [CS.int .u64],td,td,td,td,td,tf [CS.int .u64],tf [CS.int .u64],tf [CS.int .u64],tf [CS.int .u64],td,tf [CS.int .u64],tf [CS.int .u64],tf [CS.int .u64]]++dd 119,[],[]⟩)]
def LK (DT:Fn):Lp:=AS PG (Qmm DT) 64 17 (AV PG 133 17) Q90 Q0h
def Qvf (DT:Fn) (N17:Lp):Cfg:=(Qmm DT).loop 17 Q90 Q0h N17
def Q8o:Sk:=⟨[td,td,tf [CS.int .u64],td,td,td,td,td,tf [CS.int .u64],tf [CS.int .u64],tf [CS.int .u64],td,td,td,tf [CS.int .u64],tf [CS.int .u64],tf [CS.int .u64],tf [CS.int .u64],tf [CS.int .u64]]++dd 116,[],[]⟩
def Qv7:List (Ex×Sk):=[(Ex.exit 2,⟨[td,td,tf [CS.int .u64],td,td,td,td,td,tf [CS.int .u64],td,td,td,td,td,tf [CS.int .u64],tf [CS.int .u64],td,tf [CS.int .u64],tf [CS.int .u64]]++dd 116,[],[]⟩)]
def P1 (DT:Fn) (N17:Lp):Lp:=AS PG (Qvf DT N17) 64 24 (AV PG 133 24) Q8o Qv7
def Qrq (DT:Fn) (N17 N24:Lp):Cfg:=(Qvf DT N17).loop 24 Q8o Qv7 N24
def Qog (DT:Fn) (N17 N24:Lp):Fn:=Am PG (Qrq DT N17 N24) 64 133 Qa4 Qi8
theorem Zy6 (DT:Fn) (v0 v1 v2 v3 v4 v5 v6 v7 v8:Int):LK DT [U v0,U v1,U v2,U v3,U v4,U v5,U v6,U v7,U v8]=
 bif decide (v7>=4294967296)then
 bif decide (wrap .u64 (v8+v2)>=4294967296)then
 some (1,[U v0,U v1,U v2,U v3,U v4,U v5,U v6,U (wrap .u64 (v7-1))])
 else
 some (0,[U v0,U v1,U v2,U v3,U v4,U v5,U v6,U (wrap .u64 (v7-1)),U (wrap .u64 (v8+v2))])
 else
 bif decide (wrap .u64 (v7*v3)>wrap .u64 (wrap .u64 (4294967296*v8)+v5))then
 bif decide (wrap .u64 (v8+v2)>=4294967296)then
 some (1,[U v0,U v1,U v2,U v3,U v4,U v5,U v6,U (wrap .u64 (v7-1))])
 else
 some (0,[U v0,U v1,U v2,U v3,U v4,U v5,U v6,U (wrap .u64 (v7-1)),U (wrap .u64 (v8+v2))])
 else
 some (1,[U v0,U v1,U v2,U v3,U v4,U v5,U v6,U v7]):=by kernel_rfl
theorem Zfw (DT:Fn) (N17:Lp) (v0 v1 v2 v3 v4 v5 v6 v7 v8:Int):P1 DT N17 [U v0,U v1,U v2,U v3,U v4,U v5,U v6,U v7,U v8]=
 bif decide (v8>=4294967296)then
 bif decide (wrap .u64 (v6+v2)>=4294967296)then
 some (1,[U v0,U v1,U v4,U v5,U v7,U (wrap .u64 (v8-1))])
 else
 some (0,[U v0,U v1,U v2,U v3,U v4,U v5,U (wrap .u64 (v6+v2)),U v7,U (wrap .u64 (v8-1))])
 else
 bif decide (wrap .u64 (v8*v3)>wrap .u64 (wrap .u64 (4294967296*v6)+v4))then
 bif decide (wrap .u64 (v6+v2)>=4294967296)then
 some (1,[U v0,U v1,U v4,U v5,U v7,U (wrap .u64 (v8-1))])
 else
 some (0,[U v0,U v1,U v2,U v3,U v4,U v5,U (wrap .u64 (v6+v2)),U v7,U (wrap .u64 (v8-1))])
 else
 some (1,[U v0,U v1,U v4,U v5,U v7,U v8]):=by kernel_rfl
theorem Q3s (DT:Fn) (N17 N24:Lp) (x0 x1 x2:Int):Qog DT N17 N24 [U x0,U x1,U x2]=
 bif x2==0 then
 none
 else
 bif decide (x2<=x0)then
 none
 else
 bif x0==0 then
 bif decide (x2=0)then
 none
 else
 bif decide (x2=0)then
 none
 else
 some [U (wrap .u64 (x1.tdiv x2)),U (x1.tmod x2)]
 else
 (DT [U x2]).bind λo6=>
 bif decide (wrap .u64 (gA o6 0)<0)then
 none
 else
 bif decide (wrap .u64 (gA o6 0)<0)then
 none
 else
 bif decide (wrap .u64 (64-wrap .u64 (gA o6 0))<0)then
 none
 else
 bif decide (wrap .u64 (gA o6 0)<0)then
 none
 else
 bif decide ((wrap .u64 (x2*2^min (wrap .u64 (gA o6 0)).toNat IntKind.u64.bits)).fdiv (2^min (Int.toNat 32) IntKind.u64.bits)=0)then
 none
 else
 (N17 [U (wrap .u64 (x2*2^min (wrap .u64 (gA o6 0)).toNat IntKind.u64.bits)),U (wrap .u64 (gA o6 0)),U ((wrap .u64 (x2*2^min (wrap .u64 (gA o6 0)).toNat IntKind.u64.bits)).fdiv (2^min (Int.toNat 32) IntKind.u64.bits)),U (wrap .u64 (↑(BitVec.ofInt IntKind.u64.bits (wrap .u64 (x2*2^min (wrap .u64 (gA o6 0)).toNat IntKind.u64.bits))&&&BitVec.ofInt IntKind.u64.bits 4294967295).toNat:Int)),U (wrap .u64 (↑(BitVec.ofInt IntKind.u64.bits (wrap .u64 (x0*2^min (wrap .u64 (gA o6 0)).toNat IntKind.u64.bits))|||BitVec.ofInt IntKind.u64.bits (x1.fdiv (2^min (wrap .u64 (64-wrap .u64 (gA o6 0))).toNat IntKind.u64.bits))).toNat:Int)),U ((wrap .u64 (x1*2^min (wrap .u64 (gA o6 0)).toNat IntKind.u64.bits)).fdiv (2^min (Int.toNat 32) IntKind.u64.bits)),U (wrap .u64 (↑(BitVec.ofInt IntKind.u64.bits (wrap .u64 (x1*2^min (wrap .u64 (gA o6 0)).toNat IntKind.u64.bits))&&&BitVec.ofInt IntKind.u64.bits 4294967295).toNat:Int)),U (wrap .u64 ((wrap .u64 (↑(BitVec.ofInt IntKind.u64.bits (wrap .u64 (x0*2^min (wrap .u64 (gA o6 0)).toNat IntKind.u64.bits))|||BitVec.ofInt IntKind.u64.bits (x1.fdiv (2^min (wrap .u64 (64-wrap .u64 (gA o6 0))).toNat IntKind.u64.bits))).toNat:Int)).tdiv ((wrap .u64 (x2*2^min (wrap .u64 (gA o6 0)).toNat IntKind.u64.bits)).fdiv (2^min (Int.toNat 32) IntKind.u64.bits)))),U (wrap .u64 (wrap .u64 (↑(BitVec.ofInt IntKind.u64.bits (wrap .u64 (x0*2^min (wrap .u64 (gA o6 0)).toNat IntKind.u64.bits))|||BitVec.ofInt IntKind.u64.bits (x1.fdiv (2^min (wrap .u64 (64-wrap .u64 (gA o6 0))).toNat IntKind.u64.bits))).toNat:Int)-wrap .u64 (wrap .u64 ((wrap .u64 (↑(BitVec.ofInt IntKind.u64.bits (wrap .u64 (x0*2^min (wrap .u64 (gA o6 0)).toNat IntKind.u64.bits))|||BitVec.ofInt IntKind.u64.bits (x1.fdiv (2^min (wrap .u64 (64-wrap .u64 (gA o6 0))).toNat IntKind.u64.bits))).toNat:Int)).tdiv ((wrap .u64 (x2*2^min (wrap .u64 (gA o6 0)).toNat IntKind.u64.bits)).fdiv (2^min (Int.toNat 32) IntKind.u64.bits)))*(wrap .u64 (x2*2^min (wrap .u64 (gA o6 0)).toNat IntKind.u64.bits)).fdiv (2^min (Int.toNat 32) IntKind.u64.bits))))]).bind λo7=>
 bif o7.1.beq 1 then
 bif decide (gA o7.2 2=0)then
 none
 else
 (N24 [U (gA o7.2 0),U (gA o7.2 1),U (gA o7.2 2),U (gA o7.2 3),U (gA o7.2 6),U (gA o7.2 7),U (wrap .u64 (wrap .u64 (wrap .u64 (wrap .u64 (gA o7.2 4*4294967296)+gA o7.2 5)-wrap .u64 (gA o7.2 7*gA o7.2 0))-wrap .u64 (wrap .u64 ((wrap .u64 (wrap .u64 (wrap .u64 (gA o7.2 4*4294967296)+gA o7.2 5)-wrap .u64 (gA o7.2 7*gA o7.2 0))).tdiv (gA o7.2 2))*gA o7.2 2))),U (wrap .u64 (wrap .u64 (wrap .u64 (gA o7.2 4*4294967296)+gA o7.2 5)-wrap .u64 (gA o7.2 7*gA o7.2 0))),U (wrap .u64 ((wrap .u64 (wrap .u64 (wrap .u64 (gA o7.2 4*4294967296)+gA o7.2 5)-wrap .u64 (gA o7.2 7*gA o7.2 0))).tdiv (gA o7.2 2)))]).bind λo8=>
 bif o8.1.beq 1 then
 bif decide (gA o8.2 1<0)then
 none
 else
 some [U (wrap .u64 (wrap .u64 (gA o8.2 3*4294967296)+gA o8.2 5)),U ((wrap .u64 (wrap .u64 (wrap .u64 (gA o8.2 4*4294967296)+gA o8.2 2)-wrap .u64 (gA o8.2 5*gA o8.2 0))).fdiv (2^min (gA o8.2 1).toNat IntKind.u64.bits))]
 else
 none
 else
 none:=by kernel_rfl
def Tn:=An (LK Io)
def XE:=An (P1 Io Tn)
def GE:=Qog Io Tn XE
theorem Qmn:Ai PG (Qmm Io):=Ao rfl ⟨Zuh,trivial⟩
theorem Qw0:Al PG (133,Ad Qa4 Qi8 GE):=rw2 (C:=(Qrq Io Tn XE)) (fl (fl fb Qmn) Qmn) Qmn
def Qjx:Sk:=⟨[tf [CS.int .u64],tf [CS.int .u64]],[],[]⟩
def Qp0:Sk:=⟨[TS.v true [CS.int .u64,CS.int .u64]],[],[]⟩
def T8 (M:Fn):Nat×Spec:=(131,Ad Qjx Qp0 M)
def Qiw (Gb:Fn):Cfg:=cf [(175,Ad Wc Qll Gb)]
def Qyj (Gb:Fn):Fn:=Am PG (Qiw Gb) 64 131 Qjx Qp0
theorem Zwy (Gb:Fn) (x0 x1:Int):Qyj Gb [U x0,U x1]=
 (Gb [U x0,U x1]).bind λo1=>
 some [U (gA o1 0),U (gA o1 1)]:=by kernel_rfl
def Et:=Qyj Ia
theorem Z63:Ai PG (Qiw Ia):=Ao rfl ⟨Qyy,trivial⟩
theorem Tl:Al PG (131,Ad Qjx Qp0 Et):=rw1 (C:=(Qiw Ia)) Z63
def Qn8:Sk:=⟨[tf [CS.int .u64]],[],[]⟩
def Qe4 (M:Fn):Nat×Spec:=(132,Ad Qik Qn8 M)
def Q16:Fn:=Am PG C_pulse_Sum_0 64 132 Qik Qn8
theorem Zzs (x0:Int):Q16 [I x0]=
 bif decide (x0<0)then
 some [U (wrap .u64 (wrap .u64 (wrap .i64 (0-wrap .i64 (x0+1)))+1))]
 else
 some [U (wrap .u64 x0)]:=by kernel_rfl
def Gc:=Q16
theorem Zkz:Ai PG (C_pulse_Sum_0):=Ao rfl trivial
theorem Zr:Al PG (132,Ad Qik Qn8 Gc):=rw1 (C:=C_pulse_Sum_0) Zkz
def Qaf (M:Fn):Nat×Spec:=(130,Ad Qik Xp M)
def Qj8:Fn:=Am PG C_pulse_Sum_0 64 130 Qik Xp
theorem Qv1 (x0:Int):Qj8 [I x0]=
 bif x0==0 then
 some [B true]
 else
 bif x0==1 then
 some [B true]
 else
 some [B (x0==2)]:=by kernel_rfl
def FT:=Qj8
theorem Zm6:Ai PG (C_pulse_Sum_0):=Ao rfl trivial
theorem Qir:Al PG (130,Ad Qik Xp FT):=rw1 (C:=C_pulse_Sum_0) Zm6
def Qji:Sk:=⟨[tf [ci],tf [ci],tf [ci],tf [ci]],[],[]⟩
def Ml (M:Fn):Nat×Spec:=(83,Ad Qji Zb M)
def Qot (Bf CN C9 FD BI Cj DI:Fn):Cfg:=cf [Yk Bf,Qsn CN,Qkl C9,Q8p FD,T8 BI,Qe4 Cj,Qaf DI]
def Tc (Bf CN C9 FD BI Cj DI:Fn):Fn:=Am PG (Qot Bf CN C9 FD BI Cj DI) 64 83 Qji Zb
abbrev Te (CN:Fn) (x3:Int) (o31:List AC) (Bf:Fn) (h1_0 h1_1:AC):Option (List AC):=
 (CN [I x3,h1_0,B (decide (gA o31 1>0)),h1_1]).bind λo34=>
 bif bA o34 0 then
 bif wrap .u64 (gA o31 0+1)==0 then
 some [I 0,B false]
 else
 (Bf [U (wrap .u64 (gA o31 0+1)),h1_1]).bind λo35=>
 some [jA o35 0,B (bA o35 1)]
 else
 (Bf [U (gA o31 0),h1_1]).bind λo36=>
 some [jA o36 0,B (bA o36 1)]
abbrev Z_ (o31 o30:List AC) (CN:Fn) (x3:Int) (Bf:Fn) (h2_0:AC):Option (List AC):=
 bif decide (gA o31 1>wrap .u64 (gA o30 0-gA o31 1))then
 Te CN x3 o31 Bf (I 1) h2_0
 else
 bif decide (gA o31 1<wrap .u64 (gA o30 0-gA o31 1))then
 Te CN x3 o31 Bf (I (-1)) h2_0
 else
 Te CN x3 o31 Bf (I 0) h2_0
theorem Q97 (Bf CN C9 FD BI Cj DI:Fn) (x0 x1 x2 x3:Int):Tc Bf CN C9 FD BI Cj DI [I x0,I x1,I x2,I x3]=
 bif x2==0 then
 some [I 0,B false]
 else
 (DI [I x3]).bind λo26=>
 bif !bA o26 0 then
 some [I 0,B false]
 else
 (Cj [I x0]).bind λo27=>
 (Cj [I x1]).bind λo28=>
 (BI [U (gA o27 0),U (gA o28 0)]).bind λo29=>
 (Cj [I x2]).bind λo30=>
 bif decide (gA o29 0>=gA o30 0)then
 some [I 0,B false]
 else
 (FD [U (gA o29 0),U (gA o29 1),U (gA o30 0)]).bind λo31=>
 (C9 [I x0,I x1]).bind λo32=>
 bif !decide (gA o32 0<0)==decide (x2<0)then
 (C9 [I x0,I x1]).bind λo33=>
 Z_ o31 o30 CN x3 Bf (B (gA o33 0 !=0))
 else
 Z_ o31 o30 CN x3 Bf (B false):=by kernel_rfl
def Bz:=Tc Fc HJ FB GE Et Gc FT
theorem Zk5:Ai PG (Qot Fc HJ FB GE Et Gc FT):=Ao rfl ⟨Qos,Za0,Z3,Qw0,Tl,Zr,Qir,trivial⟩
theorem Ls:Al PG (83,Ad Qji Zb Bz):=rw1 (C:=(Qot Fc HJ FB GE Et Gc FT)) Zk5
def Zbn (M:Fn):Nat×Spec:=(119,Ad Qfp Qik M)
def Qav (AH:Fn):Cfg:=cf [Ml AH]
def Q5p (AH:Fn):Fn:=Am PG (Qav AH) 64 119 Qfp Qik
theorem Zyf (AH:Fn) (x0 x1 x2 x3 x4 x5 x6 x7 x8:Int) (x9:Rw) (x10:Int):Q5p AH [I x0,I x1,I x2,I x3,I x4,I x5,I x6,I x7,I x8, .view Aa x9,I x10]=
 bif decide (wrap .i64 ((x9.length:Int)-1)<0)then
 some [I 0]
 else
 bif decide (wrap .i64 (x10-x7)<=0)then
 bif decide (0<=0)&&decide (0<(x9.length:Int))then
 some [jA (nth [] x9 0) 0]
 else
 none
 else
 bif decide (x8<=0)then
 bif decide (0<=0)&&decide (0<(x9.length:Int))then
 some [jA (nth [] x9 0) 0]
 else
 none
 else
 bif decide (x8=0)then
 none
 else
 bif decide (wrap .i64 ((wrap .i64 (x10-x7)).tdiv x8)>=wrap .i64 ((x9.length:Int)-1))then
 bif decide (0<=wrap .i64 ((x9.length:Int)-1))&&decide (wrap .i64 ((x9.length:Int)-1)<(x9.length:Int))then
 some [jA (nth [] x9 (wrap .i64 ((x9.length:Int)-1)).toNat) 0]
 else
 none
 else
 bif decide (0<=wrap .i64 (wrap .i64 ((wrap .i64 (x10-x7)).tdiv x8)+1))&&decide (wrap .i64 (wrap .i64 ((wrap .i64 (x10-x7)).tdiv x8)+1)<(x9.length:Int))then
 bif decide (0<=wrap .i64 ((wrap .i64 (x10-x7)).tdiv x8))&&decide (wrap .i64 ((wrap .i64 (x10-x7)).tdiv x8)<(x9.length:Int))then
 (AH [I (wrap .i64 (Af (nth .dead (nth [] x9 (wrap .i64 (wrap .i64 ((wrap .i64 (x10-x7)).tdiv x8)+1)).toNat) 0)-Af (nth .dead (nth [] x9 (wrap .i64 ((wrap .i64 (x10-x7)).tdiv x8)).toNat) 0))),I (wrap .i64 (wrap .i64 (x10-x7)-wrap .i64 (wrap .i64 ((wrap .i64 (x10-x7)).tdiv x8)*x8))),I x8,I 2]).bind λo1=>
 bif decide (0<=wrap .i64 ((wrap .i64 (x10-x7)).tdiv x8))&&decide (wrap .i64 ((wrap .i64 (x10-x7)).tdiv x8)<(x9.length:Int))then
 some [I (wrap .i64 (Af (nth .dead (nth [] x9 (wrap .i64 ((wrap .i64 (x10-x7)).tdiv x8)).toNat) 0)+gA o1 0))]
 else
 none
 else
 none
 else
 none:=by kernel_rfl
def KQ:=Q5p Bz
theorem Z2f:Ai PG (Qav Bz):=Ao rfl ⟨Ls,trivial⟩
theorem Zj0:Al PG (119,Ad Qfp Qik KQ):=rw1 (C:=(Qav Bz)) Z2f
def Ze6 (M:Fn):Nat×Spec:=(76,Ad Qfp Qik M)
def Qhv (Nf N0:Fn):Cfg:=cf [Z1d Nf,Zbn N0]
def Qy9 (Nf N0:Fn):Fn:=Am PG (Qhv Nf N0) 64 76 Qfp Qik
theorem Zci (Nf N0:Fn) (x0 x1 x2 x3 x4 x5 x6 x7 x8:Int) (x9:Rw) (x10:Int):Qy9 Nf N0 [I x0,I x1,I x2,I x3,I x4,I x5,I x6,I x7,I x8, .view Aa x9,I x10]=
 (N0 [I x0,I x1,I x2,I x3,I x4,I x5,I x6,I x7,I x8, .view Aa x9,I x10]).bind λo2=>
 (Nf [I x0,I x1,I x2,I x3,I x4,I x5,I x6,I x7,I x8, .view Aa x9,I (wrap .i64 (x10+gA o2 0))]).bind λo3=>
 some [jA o3 0]:=by kernel_rfl
def Nq:=Qy9 KK KQ
theorem Z6y:Ai PG (Qhv KK KQ):=Ao rfl ⟨Zyz,Zj0,trivial⟩
theorem Zbb:Al PG (76,Ad Qfp Qik Nq):=rw1 (C:=(Qhv KK KQ)) Z6y
def Qmp:Sk:=⟨[TS.v true ([CS.sl Ap]++cc 5),tf [ci]],[],[]⟩
def XC (M:Fn):Nat×Spec:=(75,Ad Qmp Qik M)
def Q81:Sk:=⟨[td,tf [ci],tf [CS.ptr 2 0],td,td,tf [ci],tf [ci]]++dd 29,[(2,62,[CS.sl Ap]++cc 5)],[]⟩
def Qut:List (Ex×Sk):=[(Ex.exit 0,⟨dd 6++[tf [ci]]++dd 29,[],[]⟩)]
def T1:Lp:=AS PG C_pulse_Sum_0 64 2 (AV PG 75 2) Q81 Qut
def Zah (N2:Lp):Cfg:=C_pulse_Sum_0.loop 2 Q81 Qut N2
def Quq (N2:Lp):Fn:=Am PG (Zah N2) 64 75 Qmp Qik
theorem ZS (v0 v1 v2:Int) (v3:Rw) (v4 v5 v6 v7 v8:Int):T1 [I v0,I v1,I v2, .view Ap v3,I v4,I v5,I v6,I v7,I v8]=
 bif decide (v1<v2)then
 bif decide (0<=wrap .i64 ((wrap .i64 (v1+v2)).tdiv 2))&&decide (wrap .i64 ((wrap .i64 (v1+v2)).tdiv 2)<(v3.length:Int))then
 bif decide (v0<=wrap .i64 (Af (nth .dead (nth [] v3 (wrap .i64 ((wrap .i64 (v1+v2)).tdiv 2)).toNat) 0)+Af (nth .dead (nth [] v3 (wrap .i64 ((wrap .i64 (v1+v2)).tdiv 2)).toNat) 1)))then
 some (0,[I v0,I v1,I (wrap .i64 ((wrap .i64 (v1+v2)).tdiv 2)), .view Ap v3,I v4,I v5,I v6,I v7,I v8])
 else
 some (0,[I v0,I (wrap .i64 (wrap .i64 ((wrap .i64 (v1+v2)).tdiv 2)+1)),I v2, .view Ap v3,I v4,I v5,I v6,I v7,I v8])
 else
 none
 else
 some (1,[I v2]):=by kernel_rfl
theorem Zoi (N2:Lp) (x0:Rw) (x1 x2 x3 x4 x5 x6:Int):Quq N2 [.view Ap x0,I x1,I x2,I x3,I x4,I x5,I x6]=
 (N2 [I x6,I 0,I (wrap .i64 ((x0.length:Int)-1)), .view Ap x0,I x1,I x2,I x3,I x4,I x5]).bind λo1=>
 bif o1.1.beq 1 then
 some [jA o1.2 0]
 else
 none:=by kernel_rfl
def Lb:=An (T1)
def Gv:=Quq Lb
theorem Qxm:Ai PG (C_pulse_Sum_0):=Ao rfl trivial
theorem U_:Al PG (75,Ad Qmp Qik Gv):=rw2 (C:=(Zah Lb)) (fl fb Qxm) Qxm
def Qnk:Sk:=⟨[TS.v true [ci,ci,ci,CS.sl Ag,CS.sl kPt],tf [ci]],[],[]⟩
def Vn:Sk:=⟨[TS.tup [(false,[ci]),(false,[ci])]],[],[]⟩
def Qdk (M:Fn):Nat×Spec:=(117,Ad Qnk Vn M)
def Qz4:Sk:=⟨[td,tf [ci],tf [CS.ptr 2 0]]++dd 8++[tf [CS.sl Ag],tf [ci],tf [ci]]++dd 24,[(2,58,[ci,ci,ci,CS.sl Ag,CS.sl kPt])],[]⟩
def Qvu:List (Ex×Sk):=[(Ex.ret,⟨[td,td,td,td,tf [ci],tf [ci]]++dd 32,[],[]⟩),(Ex.exit 0,⟨[td]++dd 37,[],[]⟩)]
def T9:Lp:=AS PG C_pulse_Sum_0 64 3 (AV PG 117 3) Qz4 Qvu
def Q4k (N3:Lp):Cfg:=C_pulse_Sum_0.loop 3 Qz4 Qvu N3
def Q30 (N3:Lp):Fn:=Am PG (Q4k N3) 64 117 Qnk Vn
theorem Qtv (v0:Int) (v1:Rw) (v2 v3 v4 v5 v6:Int) (v7 v8:Rw):T9 [I v0, .view Ag v1,I v2,I v3,I v4,I v5,I v6, .view Ag v7, .view kPt v8]=
 bif decide (v3<v2)then
 bif decide (0<=v3)&&decide (v3<(v1.length:Int))then
 bif decide (v0<gA (nth [] v1 v3.toNat) 3)then
 some (1,[I v3,I v0])
 else
 bif v3==wrap .i64 ((v7.length:Int)-1)then
 some (1,[I v3,jA (nth [] v1 v3.toNat) 3])
 else
 some (0,[I (wrap .i64 (v0-gA (nth [] v1 v3.toNat) 3)), .view Ag v1,I v2,I (wrap .i64 (v3+1)),I v4,I v5,I v6, .view Ag v7, .view kPt v8])
 else
 none
 else
 some (2,[]):=by kernel_rfl
theorem Qv3 (N3:Lp) (x0 x1 x2:Int) (x3 x4:Rw) (x5:Int):Q30 N3 [I x0,I x1,I x2, .view Ag x3, .view kPt x4,I x5]=
 (N3 [I (mx x5 0), .view Ag x3,I (x3.length:Int),I 0,I x0,I x1,I x2, .view Ag x3, .view kPt x4]).bind λo1=>
 bif o1.1.beq 1 then
 some [jA o1.2 0,jA o1.2 1]
 else
 bif o1.1.beq 2 then
 some [I (-1),I 0]
 else
 none:=by kernel_rfl
def OO:=An (T9)
def EK:=Q30 OO
theorem Qsj:Ai PG (C_pulse_Sum_0):=Ao rfl trivial
theorem Qpv:Al PG (117,Ad Qnk Vn EK):=rw2 (C:=(Q4k OO)) (fl fb Qsj) Qsj
def Z1x (M:Fn):Nat×Spec:=(74,Ad Qnk WK M)
def Qqb (AH Dx:Fn):Cfg:={cf [Ml AH,Qdk Dx]with unroll:=[9]}
def WY (AH Dx:Fn):Fn:=Am PG (Qqb AH Dx) 64 74 Qnk WK
theorem Z5y (AH Dx:Fn) (x0 x1 x2:Int) (x3 x4:Rw) (x5:Int):WY AH Dx [I x0,I x1,I x2, .view Ag x3, .view kPt x4,I x5]=
 (Dx [I x0,I x1,I x2, .view Ag x3, .view kPt x4,I x5]).bind λo7=>
 bif decide (gA o7 0<0)then
 some [I x0,I x1,I x2]
 else
 bif decide (gA o7 0>0)then
 bif decide (0<=wrap .i64 (gA o7 0-1))&&decide (wrap .i64 (gA o7 0-1)<(x3.length:Int))then
 bif decide (0<=gA o7 0)&&decide (gA o7 0<(x3.length:Int))then
 (AH [I (wrap .i64 (gA (nth [] x3 (gA o7 0).toNat) 0-gA (nth [] x3 (wrap .i64 (gA o7 0-1)).toNat) 0)),jA o7 1,jA (nth [] x3 (gA o7 0).toNat) 3,I 2]).bind λo8=>
 (AH [I (wrap .i64 (gA (nth [] x3 (gA o7 0).toNat) 1-gA (nth [] x3 (wrap .i64 (gA o7 0-1)).toNat) 1)),jA o7 1,jA (nth [] x3 (gA o7 0).toNat) 3,I 2]).bind λo9=>
 (AH [I (wrap .i64 (gA (nth [] x3 (gA o7 0).toNat) 2-gA (nth [] x3 (wrap .i64 (gA o7 0-1)).toNat) 2)),jA o7 1,jA (nth [] x3 (gA o7 0).toNat) 3,I 2]).bind λo10=>
 some [I (wrap .i64 (gA (nth [] x3 (wrap .i64 (gA o7 0-1)).toNat) 0+gA o8 0)),I (wrap .i64 (gA (nth [] x3 (wrap .i64 (gA o7 0-1)).toNat) 1+gA o9 0)),I (wrap .i64 (gA (nth [] x3 (wrap .i64 (gA o7 0-1)).toNat) 2+gA o10 0))]
 else
 none
 else
 none
 else
 bif decide (0<=gA o7 0)&&decide (gA o7 0<(x3.length:Int))then
 (AH [I (wrap .i64 (gA (nth [] x3 (gA o7 0).toNat) 0-x0)),jA o7 1,jA (nth [] x3 (gA o7 0).toNat) 3,I 2]).bind λo11=>
 (AH [I (wrap .i64 (gA (nth [] x3 (gA o7 0).toNat) 1-x1)),jA o7 1,jA (nth [] x3 (gA o7 0).toNat) 3,I 2]).bind λo12=>
 (AH [I (wrap .i64 (gA (nth [] x3 (gA o7 0).toNat) 2-x2)),jA o7 1,jA (nth [] x3 (gA o7 0).toNat) 3,I 2]).bind λo13=>
 some [I (wrap .i64 (x0+gA o11 0)),I (wrap .i64 (x1+gA o12 0)),I (wrap .i64 (x2+gA o13 0))]
 else
 none:=by kernel_rfl
def QH:=WY Bz EK
theorem Zwf:Ai PG (Qqb Bz EK):=Ao rfl ⟨Ls,Qpv,trivial⟩
theorem Zmd:Al PG (74,Ad Qnk WK QH):=rw1 (C:=(Qqb Bz EK)) Zwf
def UJ (M:Fn):Nat×Spec:=(73,Ad Qe3 Qik M)
def Q48:Fn:=Am PG C_pulse_Sum_0 64 73 Qe3 Qik
theorem Zfz (x0 x1:Int):Q48 [I x0,I x1]=
 some [I (mx 0 (mn x0 x1))]:=by kernel_rfl
def Fo:=Q48
theorem Zej:Ai PG (C_pulse_Sum_0):=Ao rfl trivial
theorem SN:Al PG (73,Ad Qe3 Qik Fo):=rw1 (C:=C_pulse_Sum_0) Zej
def PD (M:Fn):Nat×Spec:=(36,Ad Qmp Qik M)
def Va (DP Ck:Fn):Cfg:=cf [XC DP,UJ Ck]
def Qpk (DP Ck:Fn):Fn:=Am PG (Va DP Ck) 64 36 Qmp Qik
theorem Zuy (DP Ck:Fn) (x0:Rw) (x1 x2 x3 x4 x5 x6:Int):Qpk DP Ck [.view Ap x0,I x1,I x2,I x3,I x4,I x5,I x6]=
 (Ck [I x6,I x1]).bind λo2=>
 (DP [.view Ap x0,I x1,I x2,I x3,I x4,I x5,jA o2 0]).bind λo3=>
 bif decide (gA o3 0<0)then
 some [I x2]
 else
 bif decide (0<=gA o3 0)&&decide (gA o3 0<(x0.length:Int))then
 bif decide (0<=gA o3 0)&&decide (gA o3 0<(x0.length:Int))then
 bif decide (0<=gA o3 0)&&decide (gA o3 0<(x0.length:Int))then
 some [I (wrap .i64 (gA (nth [] x0 (gA o3 0).toNat) 2+wrap .i64 (gA (nth [] x0 (gA o3 0).toNat) 3*wrap .i64 (gA o2 0-gA (nth [] x0 (gA o3 0).toNat) 0))))]
 else
 none
 else
 none
 else
 none:=by kernel_rfl
def DU:=Qpk Gv Fo
theorem Zdd:Ai PG (Va Gv Fo):=Ao rfl ⟨U_,SN,trivial⟩
theorem Ra:Al PG (36,Ad Qmp Qik DU):=rw1 (C:=(Va Gv Fo)) Zdd
def Qc8:Sk:=⟨[TS.v true [ci,ci,ci,CS.sl Ag,CS.sl kPt],TS.v true (cc 9++[CS.sl Aa]++cc 9++[CS.sl Aa]++cc 9++[CS.sl Aa]),TS.v true ([CS.sl Ap]++cc 5),tf [ci]],[],[]⟩
def Pz (M:Fn):Nat×Spec:=(29,Ad Qc8 WK M)
def Qg4 (FQ BK FG DP NH BC Ck:Fn):Cfg:={cf [Z58 FQ,Q2s BK,Ze6 FG,XC DP,Z1x NH,PD BC,UJ Ck]with unroll:=[6]}
def Qgk (FQ BK FG DP NH BC Ck:Fn):Fn:=Am PG (Qg4 FQ BK FG DP NH BC Ck) 64 29 Qc8 WK
abbrev Qqc (FG:Fn) (x:Ax3) (o27 o28:List AC) (BK:Fn) (t:Trk) (h1_0:AC) (FQ:Fn) (o25:List AC) (h2_0:AC):Option (List AC):=
 (FG [I x.c.step,I x.c.speed,I x.c.accel,I x.c.jerk,I x.c.low,I x.c.high,I x.c.back,I x.c.origin,I x.c.spacing, .view Aa (x.c.pitch.map As),jA o27 2]).bind λo33=>
 bif decide (gA o28 0<0)then
 (BK [I x.c.step,I x.c.speed,I x.c.accel,I x.c.jerk,I x.c.low,I x.c.high,I x.c.back,I x.c.origin,I x.c.spacing, .view Aa (x.c.pitch.map As),I t.dirs.z]).bind λo34=>
 some [h1_0,h2_0,I (wrap .i64 (gA o33 0+gA o34 0))]
 else
 bif decide (0<=gA o28 0)&&decide (gA o28 0<((t.aE.map AB).length:Int))then
 (FQ (I x.c.step::I x.c.speed::I x.c.accel::I x.c.jerk::I x.c.low::I x.c.high::I x.c.back::I x.c.origin::I x.c.spacing:: .view Aa (x.c.pitch.map As)::(AN Ap (nth [] (t.aE.map AB) (gA o28 0).toNat)++[I (wrap .i64 (wrap .i64 (0+1)+1)),jA o25 0]))).bind λo35=>
 some [h1_0,h2_0,I (wrap .i64 (gA o33 0+gA o35 0))]
 else
 none
abbrev ZM (FG:Fn) (x:Ax3) (o27 o28:List AC) (BK:Fn) (t:Trk) (FQ:Fn) (o25:List AC) (h1_0:AC):Option (List AC):=
 (FG [I x.b.step,I x.b.speed,I x.b.accel,I x.b.jerk,I x.b.low,I x.b.high,I x.b.back,I x.b.origin,I x.b.spacing, .view Aa (x.b.pitch.map As),jA o27 1]).bind λo31=>
 bif decide (gA o28 0<0)then
 (BK [I x.b.step,I x.b.speed,I x.b.accel,I x.b.jerk,I x.b.low,I x.b.high,I x.b.back,I x.b.origin,I x.b.spacing, .view Aa (x.b.pitch.map As),I t.dirs.y]).bind λo32=>
 Qqc FG x o27 o28 BK t h1_0 FQ o25 (I (wrap .i64 (gA o31 0+gA o32 0)))
 else
 bif decide (0<=gA o28 0)&&decide (gA o28 0<((t.aE.map AB).length:Int))then
 (FQ (I x.b.step::I x.b.speed::I x.b.accel::I x.b.jerk::I x.b.low::I x.b.high::I x.b.back::I x.b.origin::I x.b.spacing:: .view Aa (x.b.pitch.map As)::(AN Ap (nth [] (t.aE.map AB) (gA o28 0).toNat)++[I (wrap .i64 (0+1)),jA o25 0]))).bind λo36=>
 Qqc FG x o27 o28 BK t h1_0 FQ o25 (I (wrap .i64 (gA o31 0+gA o36 0)))
 else
 none
theorem Za5 (FQ BK FG DP NH BC Ck:Fn) (x41:Int) (p:Pth) (x:Ax3) (t:Trk):Qgk FQ BK FG DP NH BC Ck (pxt p x t [I x41])=
 (Ck [I x41,I t.length]).bind λo25=>
 (BC [.view Ap (t.aE.map AB),I t.length,I t.start,I t.dirs.x,I t.dirs.y,I t.dirs.z,jA o25 0]).bind λo26=>
 (NH [I p.start.x,I p.start.y,I p.start.z, .view Ag (p.aF.map Au), .view kPt (p.aD.map At),jA o26 0]).bind λo27=>
 (DP [.view Ap (t.aE.map AB),I t.length,I t.start,I t.dirs.x,I t.dirs.y,I t.dirs.z,jA o25 0]).bind λo28=>
 (FG [I x.a.step,I x.a.speed,I x.a.accel,I x.a.jerk,I x.a.low,I x.a.high,I x.a.back,I x.a.origin,I x.a.spacing, .view Aa (x.a.pitch.map As),jA o27 0]).bind λo29=>
 bif decide (gA o28 0<0)then
 (BK [I x.a.step,I x.a.speed,I x.a.accel,I x.a.jerk,I x.a.low,I x.a.high,I x.a.back,I x.a.origin,I x.a.spacing, .view Aa (x.a.pitch.map As),I t.dirs.x]).bind λo30=>
 ZM FG x o27 o28 BK t FQ o25 (I (wrap .i64 (gA o29 0+gA o30 0)))
 else
 bif decide (0<=gA o28 0)&&decide (gA o28 0<((t.aE.map AB).length:Int))then
 (FQ (I x.a.step::I x.a.speed::I x.a.accel::I x.a.jerk::I x.a.low::I x.a.high::I x.a.back::I x.a.origin::I x.a.spacing:: .view Aa (x.a.pitch.map As)::(AN Ap (nth [] (t.aE.map AB) (gA o28 0).toNat)++[I 0,jA o25 0]))).bind λo40=>
 ZM FG x o27 o28 BK t FQ o25 (I (wrap .i64 (gA o29 0+gA o40 0)))
 else
 none:=by kernel_rfl
def C8:=Qgk TK IP Nq Gv QH DU Fo
theorem Zl2:Ai PG (Qg4 TK IP Nq Gv QH DU Fo):=Ao rfl ⟨Zmf,Q7i,Zbb,U_,Zmd,Ra,SN,trivial⟩
theorem PR:Al PG (29,Ad Qc8 WK C8):=rw1 (C:=(Qg4 TK IP Nq Gv QH DU Fo)) Zl2
def X_:Sk:=⟨[tf [ci],TS.v true (cc 13++[CS.bool,ci,CS.bool]++cc 5++[CS.bool])],[],[]⟩
def Zcv (M:Fn):Nat×Spec:=(164,Ad X_ Qik M)
def Qg5:Fn:=Am PG C_pulse_Sum_0 64 164 X_ Qik
theorem Z3h (x0 x1 x2 x3 x4 x5 x6 x7 x8 x9 x10 x11 x12 x13:Int) (x14:Bool) (x15:Int) (x16:Bool) (x17 x18 x19 x20 x21:Int) (x22:Bool):Qg5 [I x0,I x1,I x2,I x3,I x4,I x5,I x6,I x7,I x8,I x9,I x10,I x11,I x12,I x13,B x14,I x15,B x16,I x17,I x18,I x19,I x20,I x21,B x22]=
 bif x1 !=10 then
 some [I x0]
 else
 bif decide (x20<0)then
 some [I x0]
 else
 bif decide (x20>=16)then
 some [I x0]
 else
 bif decide (wrap .u64 x20<0)then
 none
 else
 bif x22 then
 some [I (wrap .i64 (↑(BitVec.ofInt IntKind.i64.bits x0|||BitVec.ofInt IntKind.i64.bits (wrap .i64 (1*2^min (wrap .u64 x20).toNat IntKind.i64.bits))).toNat:Int))]
 else
 some [I (wrap .i64 (↑(BitVec.ofInt IntKind.i64.bits x0&&& ~~~BitVec.ofInt IntKind.i64.bits (wrap .i64 (1*2^min (wrap .u64 x20).toNat IntKind.i64.bits))).toNat:Int))]:=by kernel_rfl
def Kh:=Qg5
theorem Zj4:Ai PG (C_pulse_Sum_0):=Ao rfl trivial
theorem Zw1:Al PG (164,Ad X_ Qik Kh):=rw1 (C:=C_pulse_Sum_0) Zj4
def Qpl:Sk:=⟨[TS.v true [ci,ci,ci],TS.v true [ci,ci,CS.bool,CS.bool,CS.bool]],[],[]⟩
def Q2g (M:Fn):Nat×Spec:=(163,Ad Qpl Xp M)
def Zp:Fn:=Am PG C_pulse_Sum_0 64 163 Qpl Xp
theorem Zqo (x0 x1 x2 x3 x4:Int) (x5 x6 x7:Bool):Zp [I x0,I x1,I x2,I x3,I x4,B x5,B x6,B x7]=
 bif x1==1 then
 some [B true]
 else
 bif x1==3 then
 some [B true]
 else
 bif x1==6 then
 some [B true]
 else
 bif x1==4 then
 bif x7 then
 some [B true]
 else
 some [B x6]
 else
 bif x1==2 then
 some [B x6]
 else
 some [B false]:=by kernel_rfl
def Ir:=Zp
theorem Zrw:Ai PG (C_pulse_Sum_0):=Ao rfl trivial
theorem Q1z:Al PG (163,Ad Qpl Xp Ir):=rw1 (C:=C_pulse_Sum_0) Zrw
def Qhl:Sk:=⟨[tf [CS.ptr 20000 0],tf [ci]],[(20000,119,cS)],[]⟩
def W4:Sk:=⟨[tf [CS.sl Aa]],[(20000,119,cS)],[]⟩
def Zpu (M:Fn):Nat×Spec:=(111,Ad Qhl W4 M)
def YQ (E5 CW:Fn):Cfg:={cf [Zcv E5,Q2g CW]with prom:=λb=>bif Nat.beq b 2 then [(5,3)]else []}
def Qvc:Sk:=⟨[tf [CS.ptr 20000 0],tf [ci],td,td,td,tf [CS.own 5 1]]++dd 84,[(20000,119,cS)],[(5,3,Aa)]⟩
def Quz:List (Ex×Sk):=[(Ex.exit 0,⟨[td,td,td,td,td,tf [CS.own 5 1]]++dd 84,[(20000,119,cS)],[(5,3,Aa)]⟩)]
def RD (E5 CW:Fn):Lp:=AS PG (YQ E5 CW) 64 2 (AV PG 111 2) Qvc Quz
def Q43 (E5 CW:Fn) (N2:Lp):Cfg:=(YQ E5 CW).loop 2 Qvc Quz N2
def Qmo (E5 CW:Fn) (N2:Lp):Fn:=Am PG (Q43 E5 CW N2) 64 111 Qhl W4
abbrev Nx (K:Kf) (c:Cv) (v0:Rw) (E5:Fn) (v1:Int):Option (Nat×List AC):=
 bif gA (nth [] (K.p.aD.map At) c.aK.toNat) 1==5 then
 bif((v0++[[jA (nth [] (K.p.aD.map At) c.aK.toNat) 2]]).length*8).ble 140737488355328 then
 bif decide (0<=gA (nth [] (K.p.aD.map At) c.aK.toNat) 2)&&decide (gA (nth [] (K.p.aD.map At) c.aK.toNat) 2<((K.aA.map Ah).length:Int))then
 (E5 (I c.outs::AN Aj (nth [] (K.aA.map Ah) (gA (nth [] (K.p.aD.map At) c.aK.toNat) 2).toNat))).bind λo10=>
 some (0,(.view Aa (v0++[[jA (nth [] (K.p.aD.map At) c.aK.toNat) 2]])::I v1::Ab K {c with outs:=gA o10 0,aK:=wrap .i64 (c.aK+1)}))
 else
 none
 else
 none
 else
 some (0,(.view Aa v0::I v1::Ab K {c with aK:=wrap .i64 (c.aK+1)}))
theorem Zts (E5 CW:Fn) (v0:Rw) (v1:Int) (K:Kf) (c:Cv):RD E5 CW (.view Aa v0::I v1::Ab K c)=
 bif decide (c.aK<((K.p.aD.map At).length:Int))then
 bif decide (0<=c.aK)&&decide (c.aK<((K.p.aD.map At).length:Int))then
 bif decide (gA (nth [] (K.p.aD.map At) c.aK.toNat) 0>v1)then
 some (1,(.view Aa v0::Ab K c))
 else
 bif gA (nth [] (K.p.aD.map At) c.aK.toNat) 0==v1 then
 bif decide (c.aK>=c.next)then
 (CW [jA (nth [] (K.p.aD.map At) c.aK.toNat) 0,jA (nth [] (K.p.aD.map At) c.aK.toNat) 1,jA (nth [] (K.p.aD.map At) c.aK.toNat) 2,I c.o0,I c.o1,B c.o2,B c.o3,B c.o4]).bind λo9=>
 bif bA o9 0 then
 some (1,(.view Aa v0::Ab K c))
 else
 Nx K c v0 E5 v1
 else
 Nx K c v0 E5 v1
 else
 Nx K c v0 E5 v1
 else
 none
 else
 some (1,(.view Aa v0::Ab K c)):=by kernel_rfl
theorem Zof (E5 CW:Fn) (N2:Lp) (x0:Int) (K:Kf) (c:Cv):Qmo E5 CW N2 (I x0::Ab K c)=
 (N2 (.view Aa []::I x0::Ab K c)).bind λo13=>
 bif o13.1.beq 1 then
 some (.view Aa (wA o13.2 0)::cR 1 o13.2)
 else
 none:=by kernel_rfl
def Qur:=An (RD Kh Ir)
def OV:=Qmo Kh Ir Qur
theorem Q04:Ai PG (YQ Kh Ir):=Ao rfl ⟨Zw1,Q1z,trivial⟩
theorem Z4f:Al PG (111,Ad Qhl W4 OV):=rw2 (C:=(Q43 Kh Ir Qur)) (fl fb Q04) Q04
def Qlc:Sk:=⟨[TS.v true [ci,ci,ci,CS.sl Ag,CS.sl kPt],TS.v true (cc 9++[CS.sl Aa]++cc 9++[CS.sl Aa]++cc 9++[CS.sl Aa]),TS.v true ([CS.sl Ap]++cc 5),tf [ci],tf [ci]],[],[]⟩
def Zgi (M:Fn):Nat×Spec:=(25,Ad Qlc Ww M)
def Qm4 (AO:Fn):Cfg:={cf [Pz AO]with prom:=λb=>bif Nat.beq b 5 then [(11,130)]else [],unroll:=[9]}
def Qwa:Sk:=⟨[td,td,td,td,tf [ci],tf [CS.ptr 5 0],tf [CS.ptr 6 0],tf [CS.ptr 7 0],td,td,td,tf [CS.own 11 3],tf [CS.ptr 12 0],tf [ci]]++dd 54,[(5,58,[ci,ci,ci,CS.sl Ag,CS.sl kPt]),(6,27,cc 9++[CS.sl Aa]++cc 9++[CS.sl Aa]++cc 9++[CS.sl Aa]),(7,62,[CS.sl Ap]++cc 5),(12,44,[ci,ci,ci])],[(11,130,kPt)]⟩
def Q9s:List (Ex×Sk):=[(Ex.exit 0,⟨dd 11++[tf [CS.own 11 3]]++dd 56,[],[(11,130,kPt)]⟩)]
def Rz (AO:Fn):Lp:=AS PG (Qm4 AO) 64 5 (AV PG 25 5) Qwa Q9s
def Q63 (AO:Fn) (N5:Lp):Cfg:=(Qm4 AO).loop 5 Qwa Q9s N5
def Uf (AO:Fn) (N5:Lp):Fn:=Am PG (Q63 AO N5) 64 25 Qlc Ww
abbrev Mi (o6:List AC) (v46 v1 v2:Int) (p:Pth) (x:Ax3) (t:Trk) (h1_0:Bool) (h1_1 h1_2:AC):Option (Nat×List AC):=
 bif gA o6 2 !=v46 then
 bif h1_0 then
 some (0,(h1_1::I v1::I (wrap .i64 (v2+1))::pxt p x t [jA o6 0,jA o6 1,jA o6 2]))
 else
 none
 else
 some (0,(h1_2::I v1::I (wrap .i64 (v2+1))::pxt p x t [jA o6 0,jA o6 1,jA o6 2]))
theorem Q45 (AO:Fn) (v0:Rw) (v1 v2:Int) (v44 v45 v46:Int) (p:Pth) (x:Ax3) (t:Trk):Rz AO (.view kPt v0::I v1::I v2::pxt p x t [I v44,I v45,I v46])=
 bif decide (v2<v1)then
 (AO (pxt p x t [I (wrap .i64 (v2+1))])).bind λo6=>
 bif gA o6 0 !=v44 then
 bif((v0++[[I (wrap .i64 (v2+1)),I 0,I (wrap .i64 (gA o6 0-v44))]]).length*24).ble 140737488355328 then
 bif gA o6 1 !=v45 then
 bif((v0++[[I (wrap .i64 (v2+1)),I 0,I (wrap .i64 (gA o6 0-v44))]]++[[I (wrap .i64 (v2+1)),I (wrap .i64 (0+1)),I (wrap .i64 (gA o6 1-v45))]]).length*24).ble 140737488355328 then
 Mi o6 v46 v1 v2 p x t (((v0++[[I (wrap .i64 (v2+1)),I 0,I (wrap .i64 (gA o6 0-v44))]]++[[I (wrap .i64 (v2+1)),I (wrap .i64 (0+1)),I (wrap .i64 (gA o6 1-v45))]]++[[I (wrap .i64 (v2+1)),I (wrap .i64 (wrap .i64 (0+1)+1)),I (wrap .i64 (gA o6 2-v46))]]).length*24).ble 140737488355328) (.view kPt (v0++[[I (wrap .i64 (v2+1)),I 0,I (wrap .i64 (gA o6 0-v44))]]++[[I (wrap .i64 (v2+1)),I (wrap .i64 (0+1)),I (wrap .i64 (gA o6 1-v45))]]++[[I (wrap .i64 (v2+1)),I (wrap .i64 (wrap .i64 (0+1)+1)),I (wrap .i64 (gA o6 2-v46))]])) (.view kPt (v0++[[I (wrap .i64 (v2+1)),I 0,I (wrap .i64 (gA o6 0-v44))]]++[[I (wrap .i64 (v2+1)),I (wrap .i64 (0+1)),I (wrap .i64 (gA o6 1-v45))]]))
 else
 none
 else
 Mi o6 v46 v1 v2 p x t (((v0++[[I (wrap .i64 (v2+1)),I 0,I (wrap .i64 (gA o6 0-v44))]]++[[I (wrap .i64 (v2+1)),I (wrap .i64 (wrap .i64 (0+1)+1)),I (wrap .i64 (gA o6 2-v46))]]).length*24).ble 140737488355328) (.view kPt (v0++[[I (wrap .i64 (v2+1)),I 0,I (wrap .i64 (gA o6 0-v44))]]++[[I (wrap .i64 (v2+1)),I (wrap .i64 (wrap .i64 (0+1)+1)),I (wrap .i64 (gA o6 2-v46))]])) (.view kPt (v0++[[I (wrap .i64 (v2+1)),I 0,I (wrap .i64 (gA o6 0-v44))]]))
 else
 none
 else
 bif gA o6 1 !=v45 then
 bif((v0++[[I (wrap .i64 (v2+1)),I (wrap .i64 (0+1)),I (wrap .i64 (gA o6 1-v45))]]).length*24).ble 140737488355328 then
 Mi o6 v46 v1 v2 p x t (((v0++[[I (wrap .i64 (v2+1)),I (wrap .i64 (0+1)),I (wrap .i64 (gA o6 1-v45))]]++[[I (wrap .i64 (v2+1)),I (wrap .i64 (wrap .i64 (0+1)+1)),I (wrap .i64 (gA o6 2-v46))]]).length*24).ble 140737488355328) (.view kPt (v0++[[I (wrap .i64 (v2+1)),I (wrap .i64 (0+1)),I (wrap .i64 (gA o6 1-v45))]]++[[I (wrap .i64 (v2+1)),I (wrap .i64 (wrap .i64 (0+1)+1)),I (wrap .i64 (gA o6 2-v46))]])) (.view kPt (v0++[[I (wrap .i64 (v2+1)),I (wrap .i64 (0+1)),I (wrap .i64 (gA o6 1-v45))]]))
 else
 none
 else
 Mi o6 v46 v1 v2 p x t (((v0++[[I (wrap .i64 (v2+1)),I (wrap .i64 (wrap .i64 (0+1)+1)),I (wrap .i64 (gA o6 2-v46))]]).length*24).ble 140737488355328) (.view kPt (v0++[[I (wrap .i64 (v2+1)),I (wrap .i64 (wrap .i64 (0+1)+1)),I (wrap .i64 (gA o6 2-v46))]])) (.view kPt v0)
 else
 some (1,[.view kPt v0]):=by kernel_rfl
theorem Q39 (AO:Fn) (N5:Lp) (x41 x42:Int) (p:Pth) (x:Ax3) (t:Trk):Uf AO N5 (pxt p x t [I x41,I x42])=
 (AO (pxt p x t [I (mx 0 (mn x41 t.length))])).bind λo7=>
 (N5 (.view kPt []::I (mx 0 (mn x42 t.length))::I (mx 0 (mn x41 t.length))::pxt p x t [jA o7 0,jA o7 1,jA o7 2])).bind λo8=>
 bif o8.1.beq 1 then
 some [.view kPt (wA o8.2 0)]
 else
 none:=by kernel_rfl
def Q72:=An (Rz C8)
def IZ:=Uf C8 Q72
theorem Qua:Ai PG (Qm4 C8):=Ao rfl ⟨PR,trivial⟩
theorem Zs5:Al PG (25,Ad Qlc Ww IZ):=rw2 (C:=(Q63 C8 Q72)) (fl fb Qua) Qua
def Qpm:Sk:=⟨[tf [CS.ptr 20000 0]],[(20000,119,cS)],[]⟩
def Qp (M:Fn):Nat×Spec:=(63,Ev Qpm Qik M)
def Qae:Fn:=L3 PG C_pulse_Sum_0 64 63 Qpm Qik
theorem Zus (K:Kf) (c:Cv):Qae (Ab K c)=
 some [I (wrap .i64 (c.m0.tdiv 256))]:=by kernel_rfl
def C0:=Qae
theorem Zn9:Ai PG (C_pulse_Sum_0):=Ao rfl trivial
theorem Zh9 (vars:List AC) (R:Type) (K:TV->Mem->Option R):ET PG C_pulse_Sum_0 64 63 [TV.v false [AC.ptr 20000 0]] ⟨[(20000,(⟨119,(cR 0 vars)⟩:Box))],[]⟩ K=ET PG C_pulse_Sum_0 64 63 [TV.v false [AC.ptr 20000 0]] ⟨[(20000,(⟨119,(cR 0 vars)⟩:Box))],[]⟩ (λv _=>K v ⟨[(20000,(⟨119,(cR 0 vars)⟩:Box))],[]⟩):=Eq.trans (b:=(K (TV.v false [I (wrap .i64 ((gA vars 50).tdiv 256))]) ⟨[(20000,(⟨119,(cR 0 vars)⟩:Box))],[]⟩)) (by kernel_rfl) (Eq.symm (by kernel_rfl))
theorem QW:Al PG (63,Ev Qpm Qik C0):=QS (C:=C_pulse_Sum_0) (L:=64) (by kernel_rfl) (FnOK.bare rfl rfl rfl) Zn9 eqOk GH (by kernel_rfl) (by kernel_rfl) (λvars R K=>Zh9 vars R K)
def Na (M:Fn):Nat×Spec:=(110,Ev Qpm Qik M)
def Qz (BC AZ:Fn):Cfg:=cr [PD BC,Qp AZ] [63] [63]
def VP (BC AZ:Fn):Fn:=L3 PG (Qz BC AZ) 64 110 Qpm Qik
theorem Zhd (BC AZ:Fn) (K:Kf) (c:Cv):VP BC AZ (Ab K c)=
 (AZ (Ab K c)).bind λo2=>
 (BC (AW K.t++[jA o2 0])).bind λo3=>
 some [jA o3 0]:=by kernel_rfl
def C5:=VP DU C0
theorem Zvg:Ai PG (Qz DU C0):=Hf (rs:=[63]) rfl ⟨Ra,QW,trivial⟩ rfl (Ci rfl (ER GA))
theorem Zbv (vars : List AC) (R : Type) (K : TV -> Mem -> Option R) : ET PG (Qz DU C0) 64 110 [TV.v false [AC.ptr 20000 0]] ⟨[(20000, (⟨119, (cR 0 vars)⟩ : Box))], []⟩ K = ET PG (Qz DU C0) 64 110 [TV.v false [AC.ptr 20000 0]] ⟨[(20000, (⟨119, (cR 0 vars)⟩ : Box))], []⟩ (λv _ => K v ⟨[(20000, (⟨119, (cR 0 vars)⟩ : Box))], []⟩) := Eq.trans (b := ((C0 (cR 0 vars)).bind λo2 =>
 (DU [.view Ap (wA vars 44),jA vars 45,jA vars 46,jA vars 47,jA vars 48,jA vars 49,jA o2 0]).bind λo3=>
 K (TV.v false [jA o3 0]) ⟨[(20000,(⟨119,(cR 0 vars)⟩:Box))],[]⟩)) (by kernel_rfl) (Eq.symm (by kernel_rfl))
theorem Nc:Al PG (110,Ev Qpm Qik C5):=QS (C:=(Qz DU C0)) (L:=64) (by kernel_rfl) (FnOK.bare rfl rfl rfl) Zvg eqOk GH (by kernel_rfl) (by kernel_rfl) (λvars R K=>Zbv vars R K)
def Qio:Sk:=⟨[tf [CS.ptr 20000 0],tf [CS.ptr 20001 0],tf [ci]],[(20000,119,cS),(20001,46,[CS.sl kPt,CS.sl Aa]++cc 7)],[]⟩
def Xy:Sk:=⟨[TS.tup []],[(20000,119,cS),(20001,46,[CS.sl kPt,CS.sl Aa]++cc 7)],[]⟩
def Znc (M:Fn):Nat×Spec:=(71,Ad Qio Xy M)
def Qkn (AO Jb No Bl AZ:Fn):Cfg:=cr [Pz AO,Zpu Jb,Zgi No,Na Bl,Qp AZ] [111,110,63] [110,63]
def Up (AO Jb No Bl AZ:Fn):Fn:=Am PG (Qkn AO Jb No Bl AZ) 64 71 Qio Xy
abbrev QE (c:Cv) (Jb:Fn) (o10:List AC) (K:Kf) (AO:Fn) (o9:List AC) (x93:Int) (x92:Rw) (h1_0:AC):Option (List AC):=
 bif c.way==0 then
 (Jb (jA o10 0::Ab K c)).bind λo12=>
 (AO [jA o12 38,jA o12 39,jA o12 40, .view Ag (wA o12 41), .view kPt (wA o12 42),jA o12 1,jA o12 2,jA o12 3,jA o12 4,jA o12 5,jA o12 6,jA o12 7,jA o12 8,jA o12 9, .view Aa (wA o12 10),jA o12 11,jA o12 12,jA o12 13,jA o12 14,jA o12 15,jA o12 16,jA o12 17,jA o12 18,jA o12 19, .view Aa (wA o12 20),jA o12 21,jA o12 22,jA o12 23,jA o12 24,jA o12 25,jA o12 26,jA o12 27,jA o12 28,jA o12 29, .view Aa (wA o12 30), .view Ap (wA o12 45),jA o12 46,jA o12 47,jA o12 48,jA o12 49,jA o12 50,jA o9 0]).bind λo13=>
 some (cR 1 o12++[h1_0, .view Aa (wA o12 0),I x93,jA o10 0,jA o13 0,jA o13 1,jA o13 2,jA o12 68,jA o12 63])
 else
 (AO (pxt K.p K.x K.t [jA o9 0])).bind λo14=>
 some (Ab K c++[h1_0, .view Aa x92,I x93,jA o10 0,jA o14 0,jA o14 1,jA o14 2,I c.s3,I c.g1])
theorem Q14 (AO Jb No Bl AZ:Fn) (x0:Int) (x91 x92:Rw) (x93 x94 x95 x96 x97 x98 x99:Int) (K:Kf) (c:Cv):Up AO Jb No Bl AZ (I x0::(Ab K c++[.view kPt x91, .view Aa x92,I x93,I x94,I x95,I x96,I x97,I x98,I x99]))=
 (AZ (Ab K c)).bind λo9=>
 (Bl (Ab K c)).bind λo10=>
 bif !c.aL then
 (No (pxt K.p K.x K.t [I x0,jA o9 0])).bind λo11=>
 QE c Jb o10 K AO o9 x93 x92 (.view kPt (wA o11 0))
 else
 QE c Jb o10 K AO o9 x93 x92 (.view kPt x91):=by kernel_rfl
def KL:=Up C8 OV IZ C5 C0
theorem Z4c:Ai PG (Qkn C8 OV IZ C5 C0):=Hf (rs:=[110,63]) rfl ⟨PR,Z4f,Zs5,Nc,QW,trivial⟩ rfl (Ci rfl (Ci rfl (Ci rfl (ER (ER GA)))))
theorem Zpr:Al PG (71,Ad Qio Xy KL):=rw1 (C:=(Qkn C8 OV IZ C5 C0)) Z4c
def Qj5:Sk:=⟨[TS.tup []],[(20000,119,cS)],[]⟩
def Qmu (M:Fn):Nat×Spec:=(108,Ad Qpm Qj5 M)
def Zu:Fn:=Am PG C_pulse_Sum_0 64 108 Qpm Qj5
theorem Zgg (K:Kf) (c:Cv):Zu (Ab K c)=
 bif c.g0==0 then
 some (Ab K {c with o2:=true,g0:=1,g1:=18,g2:= -1})
 else
 some (Ab K c):=by kernel_rfl
def GZ:=Zu
theorem Zxa:Ai PG (C_pulse_Sum_0):=Ao rfl trivial
theorem Vf:Al PG (108,Ad Qpm Qj5 GZ):=rw1 (C:=C_pulse_Sum_0) Zxa
def X8:Sk:=⟨[TS.v true [ci,ci,ci],tf [ci]],[],[]⟩
def Qxl (M:Fn):Nat×Spec:=(174,Ad X8 Qik M)
def TE:Fn:=Am PG C_pulse_Sum_0 64 174 X8 Qik
theorem YR (x0 x1 x2 x3:Int):TE [I x0,I x1,I x2,I x3]=
 bif decide (x3<=0)then
 some [I 0]
 else
 bif decide (x1<=0)then
 some [I 0]
 else
 bif decide (x1=0)then
 none
 else
 some [I (wrap .i64 (wrap .i64 (wrap .i64 ((wrap .i64 (x3-1)).tdiv x1)*x3)-wrap .i64 (x1*wrap .i64 ((wrap .i64 (wrap .i64 ((wrap .i64 (x3-1)).tdiv x1)*wrap .i64 (wrap .i64 ((wrap .i64 (x3-1)).tdiv x1)+1))).tdiv 2))))]:=by kernel_rfl
def G9:=TE
theorem Zj3:Ai PG (C_pulse_Sum_0):=Ao rfl trivial
theorem Qu5:Al PG (174,Ad X8 Qik G9):=rw1 (C:=C_pulse_Sum_0) Zj3
def Zx (M:Fn):Nat×Spec:=(87,Ad WK Xp M)
def Qv0:Fn:=Am PG C_pulse_Sum_0 64 87 WK Xp
theorem Zgn (x0 x1 x2:Int):Qv0 [I x0,I x1,I x2]=
 bif decide (1<=x0)then
 bif decide (x0<=65536)then
 bif decide (2<=x1)then
 bif decide (x1<=65536)then
 bif decide (1<=x2)then
 some [B (decide (x2<=16777216))]
 else
 some [B false]
 else
 some [B false]
 else
 some [B false]
 else
 some [B false]
 else
 some [B false]:=by kernel_rfl
def EY:=Qv0
theorem Zi9:Ai PG (C_pulse_Sum_0):=Ao rfl trivial
theorem Qh3:Al PG (87,Ad WK Xp EY):=rw1 (C:=C_pulse_Sum_0) Zi9
def Qao:Sk:=⟨[TS.v true [ci,ci,ci],tf [ci],tf [ci]],[],[]⟩
def Qhg (M:Fn):Nat×Spec:=(129,Ad Qao Qik M)
def Qj7 (Dj BQ:Fn):Cfg:=cf [Qxl Dj,Zx BQ]
def Qx7:Sk:=⟨[td,tf [ci],td,tf [CS.ptr 3 0],td,td,td,tf [ci],tf [ci]]++dd 49,[(3,29,[ci,ci,ci])],[]⟩
def Qsr:List (Ex×Sk):=[(Ex.exit 0,⟨dd 7++[tf [ci]]++dd 50,[],[]⟩)]
def Lw (Dj BQ:Fn):Lp:=AS PG (Qj7 Dj BQ) 64 4 (AV PG 129 4) Qx7 Qsr
def Q0l (Dj BQ:Fn) (N4:Lp):Cfg:=(Qj7 Dj BQ).loop 4 Qx7 Qsr N4
def Un (Dj BQ:Fn) (N4:Lp):Fn:=Am PG (Q0l Dj BQ N4) 64 129 Qao Qik
theorem Qqf (Dj BQ:Fn) (v0 v1 v2 v3 v4 v5:Int):Lw Dj BQ [I v0,I v1,I v2,I v3,I v4,I v5]=
 bif decide (v1<v2)then
 (Dj [I v3,I v4,I v5,I (wrap .i64 (v2-wrap .i64 ((wrap .i64 (v2-v1)).tdiv 2)))]).bind λo4=>
 bif decide (wrap .i64 (v0-wrap .i64 (v2-wrap .i64 ((wrap .i64 (v2-v1)).tdiv 2)))>=gA o4 0)then
 some (0,[I v0,I (wrap .i64 (v2-wrap .i64 ((wrap .i64 (v2-v1)).tdiv 2))),I v2,I v3,I v4,I v5])
 else
 some (0,[I v0,I v1,I (wrap .i64 (wrap .i64 (v2-wrap .i64 ((wrap .i64 (v2-v1)).tdiv 2))-1)),I v3,I v4,I v5])
 else
 some (1,[I v1]):=by kernel_rfl
theorem Zas (Dj BQ:Fn) (N4:Lp) (x0 x1 x2 x3 x4:Int):Un Dj BQ N4 [I x0,I x1,I x2,I x3,I x4]=
 (BQ [I x0,I x1,I x2]).bind λo5=>
 bif !bA o5 0 then
 some [I 0]
 else
 bif decide (mx x4 x3>1099511627776)then
 some [I 0]
 else
 bif decide (mn x4 x3< -1099511627776)then
 some [I 0]
 else
 (N4 [I x3,I (wrap .i64 (wrap .i64 (0-x4)-x1)),I (mn (wrap .i64 (x1-x4)) x0),I x0,I x1,I x2]).bind λo6=>
 bif o6.1.beq 1 then
 some [I (wrap .i64 (0-gA o6.2 0))]
 else
 none:=by kernel_rfl
def Q13:=An (Lw G9 EY)
def Fw:=Un G9 EY Q13
theorem Qth:Ai PG (Qj7 G9 EY):=Ao rfl ⟨Qu5,Qh3,trivial⟩
theorem Qp2:Al PG (129,Ad Qao Qik Fw):=rw2 (C:=(Q0l G9 EY Q13)) (fl fb Qth) Qth
def W3:Sk:=⟨[tf [CS.sl Aa],tf [ci]],[],[]⟩
def Z38 (M:Fn):Nat×Spec:=(121,Ad W3 Xp M)
def Qwo:Sk:=⟨[td,tf [ci],td,td,td,td,td,tf [CS.sl Aa],tf [ci],tf [ci]]++dd 13,[],[]⟩
def Q6l:List (Ex×Sk):=[(Ex.ret,⟨[td,td,td,td,tf [CS.bool]]++dd 18,[],[]⟩),(Ex.exit 0,⟨[td]++dd 22,[],[]⟩)]
def YW:Lp:=AS PG C_pulse_Sum_0 64 2 (AV PG 121 2) Qwo Q6l
def Q4r (N2:Lp):Cfg:=C_pulse_Sum_0.loop 2 Qwo Q6l N2
def Qqo (N2:Lp):Fn:=Am PG (Q4r N2) 64 121 W3 Xp
theorem Z3j (v0:Int) (v1:Rw) (v2 v3:Int):YW [I v0, .view Aa v1,I v2,I v3]=
 bif decide (v3<v2)then
 bif decide (0<=v3)&&decide (v3<(v1.length:Int))then
 bif decide (gA (nth [] v1 v3.toNat) 0>v0)then
 some (1,[B false])
 else
 bif decide (gA (nth [] v1 v3.toNat) 0<wrap .i64 (0-v0))then
 some (1,[B false])
 else
 some (0,[I v0, .view Aa v1,I v2,I (wrap .i64 (v3+1))])
 else
 none
 else
 some (2,[]):=by kernel_rfl
theorem Ziv (N2:Lp) (x0:Rw) (x1:Int):Qqo N2 [.view Aa x0,I x1]=
 (N2 [I x1, .view Aa x0,I (x0.length:Int),I 0]).bind λo1=>
 bif o1.1.beq 1 then
 some [B (bA o1.2 0)]
 else
 bif o1.1.beq 2 then
 some [B true]
 else
 none:=by kernel_rfl
def Q9b:=An (YW)
def Rq:=Qqo Q9b
theorem Qzt:Ai PG (C_pulse_Sum_0):=Ao rfl trivial
theorem Zi0:Al PG (121,Ad W3 Xp Rq):=rw2 (C:=(Q4r Q9b)) (fl fb Qzt) Qzt
def Yt:Sk:=⟨[tf [CS.sl Aa]],[],[]⟩
def Zvc (M:Fn):Nat×Spec:=(120,Ad Yt Yt M)
def C_limits_Differences_0:Cfg:={cf []with prom:=λb=>bif Nat.beq b 3 then [(3,3)]else []}
def Qxj:Sk:=⟨[tf [CS.sl Aa],td,td,tf [CS.own 3 1],tf [ci]]++dd 20,[],[(3,3,Aa)]⟩
def Qv5:List (Ex×Sk):=[(Ex.exit 0,⟨[td,td,td,tf [CS.own 3 1]]++dd 21,[],[(3,3,Aa)]⟩)]
def Qa1:Lp:=AS PG C_limits_Differences_0 64 3 (AV PG 120 3) Qxj Qv5
def Qzb (N3:Lp):Cfg:=C_limits_Differences_0.loop 3 Qxj Qv5 N3
def Qni (N3:Lp):Fn:=Am PG (Qzb N3) 64 120 Yt Yt
theorem Zdh (v0 v1:Rw) (v2:Int):Qa1 [.view Aa v0, .view Aa v1,I v2]=
 bif decide (v2<(v1.length:Int))then
 bif decide (0<=v2)&&decide (v2<(v1.length:Int))then
 bif decide (0<=wrap .i64 (v2-1))&&decide (wrap .i64 (v2-1)<(v1.length:Int))then
 bif((v0++[[I (wrap .i64 (gA (nth [] v1 v2.toNat) 0-gA (nth [] v1 (wrap .i64 (v2-1)).toNat) 0))]]).length*8).ble 140737488355328 then
 some (0,[.view Aa (v0++[[I (wrap .i64 (gA (nth [] v1 v2.toNat) 0-gA (nth [] v1 (wrap .i64 (v2-1)).toNat) 0))]]), .view Aa v1,I (wrap .i64 (v2+1))])
 else
 none
 else
 none
 else
 none
 else
 some (1,[.view Aa v0]):=by kernel_rfl
theorem Zbl (N3:Lp) (x0:Rw):Qni N3 [.view Aa x0]=
 (N3 [.view Aa [], .view Aa x0,I 1]).bind λo1=>
 bif o1.1.beq 1 then
 some [.view Aa (wA o1.2 0)]
 else
 none:=by kernel_rfl
def Qr6:=An (Qa1)
def Rt:=Qni Qr6
theorem Qzy:Ai PG (C_limits_Differences_0):=Ao rfl trivial
theorem Z0h:Al PG (120,Ad Yt Yt Rt):=rw2 (C:=(Qzb Qr6)) (fl fb Qzy) Qzy
def Qb2:Sk:=⟨[TS.v true (cc 9++[CS.sl Aa]),tf [CS.sl Aa]],[],[]⟩
def Zy4 (M:Fn):Nat×Spec:=(79,Ad Qb2 Xp M)
def Qqr (Kg Ku:Fn):Cfg:={cf [Z38 Kg,Zvc Ku]with unroll:=[2]}
def Wa (Kg Ku:Fn):Fn:=Am PG (Qqr Kg Ku) 64 79 Qb2 Xp
theorem Zfe (Kg Ku:Fn) (x0 x1 x2 x3 x4 x5 x6 x7 x8:Int) (x9 x10:Rw):Wa Kg Ku [I x0,I x1,I x2,I x3,I x4,I x5,I x6,I x7,I x8, .view Aa x9, .view Aa x10]=
 (Ku [.view Aa x10]).bind λo6=>
 (Kg [.view Aa (wA o6 0),I x1]).bind λo7=>
 bif !bA o7 0 then
 some [B false]
 else
 (Ku [.view Aa (wA o6 0)]).bind λo8=>
 (Kg [.view Aa (wA o8 0),I x2]).bind λo9=>
 bif !bA o9 0 then
 some [B false]
 else
 (Ku [.view Aa (wA o8 0)]).bind λo10=>
 (Kg [.view Aa (wA o10 0),I x3]).bind λo11=>
 bif !bA o11 0 then
 some [B false]
 else
 some [B true]:=by kernel_rfl
def L1:=Wa Rq Rt
theorem Zws:Ai PG (Qqr Rq Rt):=Ao rfl ⟨Zi0,Z0h,trivial⟩
theorem Zsz:Al PG (79,Ad Qb2 Xp L1):=rw1 (C:=(Qqr Rq Rt)) Zws
def Qlk:Sk:=⟨[TS.v true (cc 9++[CS.sl Aa]++cc 9++[CS.sl Aa]++cc 9++[CS.sl Aa]),tf [CS.sl kPt]],[],[]⟩
def Z2t (M:Fn):Nat×Spec:=(31,Ad Qlk Xp M)
def Qnd (DS:Fn):Cfg:=cf [Zy4 DS]
def Q87:Sk:=⟨[td,tf [CS.sl kPt],tf [CS.ptr 2 0],td,td,tf [ci],tf [CS.own 13 1],td,tf [ci]]++dd 6++[tf [ci],tf [ci]]++dd 19,[(2,27,cc 9++[CS.sl Aa]++cc 9++[CS.sl Aa]++cc 9++[CS.sl Aa])],[(13,3,Aa)]⟩
def Q68:List (Ex×Sk):=[(Ex.exit 2,⟨[td,tf [CS.sl kPt],tf [CS.ptr 2 0],td,td,tf [ci],tf [CS.own 13 1],td,tf [ci]]++dd 27,[(2,27,cc 9++[CS.sl Aa]++cc 9++[CS.sl Aa]++cc 9++[CS.sl Aa])],[(13,3,Aa)]⟩)]
def K9 (DS:Fn):Lp:=AS PG (Qnd DS) 64 6 (AV PG 31 6) Q87 Q68
def Qt4 (DS:Fn) (N6:Lp):Cfg:=(Qnd DS).loop 6 Q87 Q68 N6
def Qsx:Sk:=⟨[td,tf [CS.sl kPt],tf [CS.ptr 2 0],td,td,td,td,td,tf [ci]]++dd 27,[(2,27,cc 9++[CS.sl Aa]++cc 9++[CS.sl Aa]++cc 9++[CS.sl Aa])],[]⟩
def Q27:List (Ex×Sk):=[(Ex.ret,⟨[td,td,td,td,tf [CS.bool]]++dd 31,[],[]⟩),(Ex.exit 0,⟨[td]++dd 35,[],[]⟩)]
def SA (DS:Fn) (N6:Lp):Lp:=AS PG (Qt4 DS N6) 64 2 (AV PG 31 2) Qsx Q27
def Qvn (DS:Fn) (N6 N2:Lp):Cfg:=(Qt4 DS N6).loop 2 Qsx Q27 N2
def Sn (DS:Fn) (N6 N2:Lp):Fn:=Am PG (Qvn DS N6 N2) 64 31 Qlk Xp
theorem Ztn (DS:Fn) (v0 v1:Rw) (v2 v3 v4 v5 v6 v7 v8 v9 v10 v11 v12 v13 v14:Int) (v15:Rw) (v16 v17 v18 v19 v20 v21 v22 v23 v24:Int) (v25:Rw) (v26 v27 v28 v29 v30 v31 v32 v33 v34:Int) (v35:Rw):K9 DS [.view Aa v0, .view kPt v1,I v2,I v3,I v4,I v5,I v6,I v7,I v8,I v9,I v10,I v11,I v12,I v13,I v14, .view Aa v15,I v16,I v17,I v18,I v19,I v20,I v21,I v22,I v23,I v24, .view Aa v25,I v26,I v27,I v28,I v29,I v30,I v31,I v32,I v33,I v34, .view Aa v35]=
 bif decide (v5<v4)then
 bif decide (0<=v5)&&decide (v5<(v1.length:Int))then
 bif decide (v2=(↑0:Int))then
 bif decide (0<=v5)&&decide (v5<(v0.length:Int))then
 some (0,[.view Aa (v0.set v5.toNat [jA (nth [] v1 v5.toNat) 0]), .view kPt v1,I v2,I v3,I v4,I (wrap .i64 (v5+1)),I v6,I v7,I v8,I v9,I v10,I v11,I v12,I v13,I v14, .view Aa v15,I v16,I v17,I v18,I v19,I v20,I v21,I v22,I v23,I v24, .view Aa v25,I v26,I v27,I v28,I v29,I v30,I v31,I v32,I v33,I v34, .view Aa v35])
 else
 none
 else
 bif decide (v2=(↑(0+1):Int))then
 bif decide (0<=v5)&&decide (v5<(v0.length:Int))then
 some (0,[.view Aa (v0.set v5.toNat [jA (nth [] v1 v5.toNat) 1]), .view kPt v1,I v2,I v3,I v4,I (wrap .i64 (v5+1)),I v6,I v7,I v8,I v9,I v10,I v11,I v12,I v13,I v14, .view Aa v15,I v16,I v17,I v18,I v19,I v20,I v21,I v22,I v23,I v24, .view Aa v25,I v26,I v27,I v28,I v29,I v30,I v31,I v32,I v33,I v34, .view Aa v35])
 else
 none
 else
 bif decide (v2=(↑(0+1+1):Int))then
 bif decide (0<=v5)&&decide (v5<(v0.length:Int))then
 some (0,[.view Aa (v0.set v5.toNat [jA (nth [] v1 v5.toNat) 2]), .view kPt v1,I v2,I v3,I v4,I (wrap .i64 (v5+1)),I v6,I v7,I v8,I v9,I v10,I v11,I v12,I v13,I v14, .view Aa v15,I v16,I v17,I v18,I v19,I v20,I v21,I v22,I v23,I v24, .view Aa v25,I v26,I v27,I v28,I v29,I v30,I v31,I v32,I v33,I v34, .view Aa v35])
 else
 none
 else
 none
 else
 none
 else
 some (1,[.view Aa v0, .view kPt v1,I v2,I v3,I v6,I v7,I v8,I v9,I v10,I v11,I v12,I v13,I v14, .view Aa v15,I v16,I v17,I v18,I v19,I v20,I v21,I v22,I v23,I v24, .view Aa v25,I v26,I v27,I v28,I v29,I v30,I v31,I v32,I v33,I v34, .view Aa v35]):=by kernel_rfl
abbrev Ts (o5:Nat×List AC) (h1_0:Bool):Option (Nat×List AC):=
 bif h1_0 then
 some (1,[B false])
 else
 some (0,[.view kPt (wA o5.2 1),I (wrap .i64 (gA o5.2 3+1)),jA o5.2 4,jA o5.2 5,jA o5.2 6,jA o5.2 7,jA o5.2 8,jA o5.2 9,jA o5.2 10,jA o5.2 11,jA o5.2 12, .view Aa (wA o5.2 13),jA o5.2 14,jA o5.2 15,jA o5.2 16,jA o5.2 17,jA o5.2 18,jA o5.2 19,jA o5.2 20,jA o5.2 21,jA o5.2 22, .view Aa (wA o5.2 23),jA o5.2 24,jA o5.2 25,jA o5.2 26,jA o5.2 27,jA o5.2 28,jA o5.2 29,jA o5.2 30,jA o5.2 31,jA o5.2 32, .view Aa (wA o5.2 33)])
theorem Zrz (DS:Fn) (N6:Lp) (v0:Rw) (v1 v2 v3 v4 v5 v6 v7 v8 v9 v10:Int) (v11:Rw) (v12 v13 v14 v15 v16 v17 v18 v19 v20:Int) (v21:Rw) (v22 v23 v24 v25 v26 v27 v28 v29 v30:Int) (v31:Rw):SA DS N6 [.view kPt v0,I v1,I v2,I v3,I v4,I v5,I v6,I v7,I v8,I v9,I v10, .view Aa v11,I v12,I v13,I v14,I v15,I v16,I v17,I v18,I v19,I v20, .view Aa v21,I v22,I v23,I v24,I v25,I v26,I v27,I v28,I v29,I v30, .view Aa v31]=
 bif decide (v1<3)then
 bif decide ((v0.length:Int)=(v0.length:Int))then
 bif decide (0<=(v0.length:Int))&&decide ((v0.length:Int)*(↑8:Int)<=140737488355328)then
 (N6 [.view Aa (List.replicate (v0.length:Int).toNat [I 0]), .view kPt v0,I v1,I v1,I (v0.length:Int),I 0,I v2,I v3,I v4,I v5,I v6,I v7,I v8,I v9,I v10, .view Aa v11,I v12,I v13,I v14,I v15,I v16,I v17,I v18,I v19,I v20, .view Aa v21,I v22,I v23,I v24,I v25,I v26,I v27,I v28,I v29,I v30, .view Aa v31]).bind λo5=>
 bif o5.1.beq 1 then
 bif decide (gA o5.2 2=(↑0:Int))then
 (DS [jA o5.2 4,jA o5.2 5,jA o5.2 6,jA o5.2 7,jA o5.2 8,jA o5.2 9,jA o5.2 10,jA o5.2 11,jA o5.2 12, .view Aa (wA o5.2 13), .view Aa (wA o5.2 0)]).bind λo6=>
 Ts o5 (!bA o6 0)
 else
 bif decide (gA o5.2 2=(↑(0+1):Int))then
 (DS [jA o5.2 14,jA o5.2 15,jA o5.2 16,jA o5.2 17,jA o5.2 18,jA o5.2 19,jA o5.2 20,jA o5.2 21,jA o5.2 22, .view Aa (wA o5.2 23), .view Aa (wA o5.2 0)]).bind λo7=>
 Ts o5 (!bA o7 0)
 else
 bif decide (gA o5.2 2=(↑(0+1+1):Int))then
 (DS [jA o5.2 24,jA o5.2 25,jA o5.2 26,jA o5.2 27,jA o5.2 28,jA o5.2 29,jA o5.2 30,jA o5.2 31,jA o5.2 32, .view Aa (wA o5.2 33), .view Aa (wA o5.2 0)]).bind λo8=>
 Ts o5 (!bA o8 0)
 else
 none
 else
 none
 else
 none
 else
 none
 else
 some (2,[]):=by kernel_rfl
theorem Zdo (DS:Fn) (N6 N2:Lp) (x0 x1 x2 x3 x4 x5 x6 x7 x8:Int) (x9:Rw) (x10 x11 x12 x13 x14 x15 x16 x17 x18:Int) (x19:Rw) (x20 x21 x22 x23 x24 x25 x26 x27 x28:Int) (x29 x30:Rw):Sn DS N6 N2 [I x0,I x1,I x2,I x3,I x4,I x5,I x6,I x7,I x8, .view Aa x9,I x10,I x11,I x12,I x13,I x14,I x15,I x16,I x17,I x18, .view Aa x19,I x20,I x21,I x22,I x23,I x24,I x25,I x26,I x27,I x28, .view Aa x29, .view kPt x30]=
 (N2 [.view kPt x30,I 0,I x0,I x1,I x2,I x3,I x4,I x5,I x6,I x7,I x8, .view Aa x9,I x10,I x11,I x12,I x13,I x14,I x15,I x16,I x17,I x18, .view Aa x19,I x20,I x21,I x22,I x23,I x24,I x25,I x26,I x27,I x28, .view Aa x29]).bind λo9=>
 bif o9.1.beq 1 then
 some [B (bA o9.2 0)]
 else
 bif o9.1.beq 2 then
 some [B true]
 else
 none:=by kernel_rfl
def Qec:=An (K9 L1)
def Q7n:=An (SA L1 Qec)
def My:=Sn L1 Qec Q7n
theorem Qgt:Ai PG (Qnd L1):=Ao rfl ⟨Zsz,trivial⟩
theorem Zdp:Al PG (31,Ad Qlk Xp My):=rw2 (C:=(Qvn L1 Qec Q7n)) (fl (fl fb Qgt) Qgt) Qgt
def Q4s (M:Fn):Nat×Spec:=(197,Ad Qik Qik M)
def Qdr:Fn:=Am PG C_pulse_Sum_0 64 197 Qik Qik
theorem Zhb (x0:Int):Qdr [I x0]=
 bif decide (x0.tmod 256<0)then
 some [I (wrap .i64 (wrap .i64 (x0.tdiv 256)-1))]
 else
 some [I (wrap .i64 (x0.tdiv 256))]:=by kernel_rfl
def IR:=Qdr
theorem Zt9:Ai PG (C_pulse_Sum_0):=Ao rfl trivial
theorem Q9f:Al PG (197,Ad Qik Qik IR):=rw1 (C:=C_pulse_Sum_0) Zt9
def Qes:Sk:=⟨[TS.v true [ci,ci,ci,CS.sl Ag,CS.sl kPt],TS.v true (cc 9++[CS.sl Aa]++cc 9++[CS.sl Aa]++cc 9++[CS.sl Aa]),TS.v true ([CS.sl Ap]++cc 5),tf [CS.sl Aa]],[],[]⟩
def Zw3 (M:Fn):Nat×Spec:=(179,Ad Qes Xp M)
def YT (FX AO Eg:Fn):Cfg:={cf [Z2t FX,Pz AO,Q4s Eg]with lend:=λf=>AP [31] f,cuts:=[30],prom:=λb=>bif Nat.beq b 3 then [(9,44)]else []}
def Qx1:Sk:=⟨[td,td,td,td,tf [CS.ptr 4 0],tf [CS.ptr 5 0],tf [CS.ptr 6 0],td,td,tf [CS.own 9 3],td,td,tf [CS.sl Aa],tf [ci],tf [ci]]++dd 22,[(4,58,[ci,ci,ci,CS.sl Ag,CS.sl kPt]),(5,27,cc 9++[CS.sl Aa]++cc 9++[CS.sl Aa]++cc 9++[CS.sl Aa]),(6,62,[CS.sl Ap]++cc 5)],[(9,44,kPt)]⟩
def Q70:List (Ex×Sk):=[(Ex.ret,⟨dd 8++[tf [CS.bool]]++dd 28,[],[]⟩),(Ex.exit 0,⟨[td]++dd 36,[],[]⟩)]
def Qn7 (FX AO Eg:Fn):Lp:=AS PG (YT FX AO Eg) 64 3 (AV PG 179 3) Qx1 Q70
def Qxx (FX AO Eg:Fn) (N3:Lp):Cfg:=(YT FX AO Eg).loop 3 Qx1 Q70 N3
def Qag (FX AO Eg:Fn) (N3:Lp):Fn:=Am PG (Qxx FX AO Eg N3) 64 179 Qes Xp
theorem Zez (FX AO Eg:Fn) (v0 v1:Rw) (v2 v3:Int) (p:Pth) (x:Ax3) (t:Trk):Qn7 FX AO Eg (.view kPt v0:: .view Aa v1::I v2::I v3::pxt p x t [])=
 bif decide (v3<v2)then
 bif decide (0<=v3)&&decide (v3<(v1.length:Int))then
 (Eg [jA (nth [] v1 v3.toNat) 0]).bind λo8=>
 (AO (pxt p x t [jA o8 0])).bind λo9=>
 bif((v0++[[jA o9 0,jA o9 1,jA o9 2]]).length*24).ble 140737488355328 then
 bif decide ((↑(v0++[[jA o9 0,jA o9 1,jA o9 2]]).length:Int)>4)then
 bif decide (0<=1)&&decide (1<=(↑(v0++[[jA o9 0,jA o9 1,jA o9 2]]).length:Int))then
 bif(Int.toNat 1).ble (v0++[[jA o9 0,jA o9 1,jA o9 2]]).length then
 (FX (AK x++[.view kPt (List.drop (Int.toNat 1) (v0++[[jA o9 0,jA o9 1,jA o9 2]]))])).bind λo10=>
 bif !bA o10 0 then
 some (1,[B false])
 else
 some (0,(.view kPt (List.drop (Int.toNat 1) (v0++[[jA o9 0,jA o9 1,jA o9 2]])):: .view Aa v1::I v2::I (wrap .i64 (v3+1))::pxt p x t []))
 else
 none
 else
 none
 else
 (FX (AK x++[.view kPt (v0++[[jA o9 0,jA o9 1,jA o9 2]])])).bind λo11=>
 bif !bA o11 0 then
 some (1,[B false])
 else
 some (0,(.view kPt (v0++[[jA o9 0,jA o9 1,jA o9 2]]):: .view Aa v1::I v2::I (wrap .i64 (v3+1))::pxt p x t []))
 else
 none
 else
 none
 else
 some (2,[]):=by kernel_rfl
theorem Zeo (FX AO Eg:Fn) (N3:Lp) (x41:Rw) (p:Pth) (x:Ax3) (t:Trk):Qag FX AO Eg N3 (pxt p x t [.view Aa x41])=
 (N3 (.view kPt []:: .view Aa x41::I (x41.length:Int)::I 0::pxt p x t [])).bind λo12=>
 bif o12.1.beq 1 then
 some [B (bA o12.2 0)]
 else
 bif o12.1.beq 2 then
 some [B true]
 else
 none:=by kernel_rfl
def Qws:=An (Qn7 My C8 IR)
def PN:=Qag My C8 IR Qws
theorem Zao:Ai PG (YT My C8 IR):=Ao rfl ⟨Zdp,PR,Q9f,trivial⟩
theorem Zd9:Al PG (179,Ad Qes Xp PN):=rw2 (C:=(Qxx My C8 IR Qws)) (fl fb Zao) Zao
def Q36 (M:Fn):Nat×Spec:=(128,Ad Qao Xp M)
def Zo (Dj:Fn):Cfg:=cf [Qxl Dj]
def QR (Dj:Fn):Fn:=Am PG (Zo Dj) 64 128 Qao Xp
theorem Qbx (Dj:Fn) (x0 x1 x2 x3 x4:Int):QR Dj [I x0,I x1,I x2,I x3,I x4]=
 bif decide (x4<wrap .i64 (0-x0))then
 some [B false]
 else
 bif decide (x4>x0)then
 some [B false]
 else
 bif x3==0 then
 bif decide (x4>x1)then
 some [B false]
 else
 (Dj [I x0,I x1,I x2,I (wrap .i64 (0-x4))]).bind λo4=>
 bif decide (x3>=gA o4 0)then
 (Dj [I x0,I x1,I x2,I x4]).bind λo5=>
 some [B (decide (x3<=wrap .i64 (16777216-gA o5 0)))]
 else
 some [B false]
 else
 (Dj [I x0,I x1,I x2,I (wrap .i64 (0-x4))]).bind λo6=>
 bif decide (x3>=gA o6 0)then
 (Dj [I x0,I x1,I x2,I x4]).bind λo7=>
 some [B (decide (x3<=wrap .i64 (16777216-gA o7 0)))]
 else
 some [B false]:=by kernel_rfl
def Hd:=QR G9
theorem Z57:Ai PG (Zo G9):=Ao rfl ⟨Qu5,trivial⟩
theorem Qvh:Al PG (128,Ad Qao Xp Hd):=rw1 (C:=(Zo G9)) Z57
def Y5:Sk:=⟨[TS.tup [(false,[CS.sl Aa]),(false,[CS.bool])]],[],[]⟩
def Z4s (M:Fn):Nat×Spec:=(82,Ad Qao Y5 M)
def UP (BD CV BQ:Fn):Cfg:={cf [Qhg BD,Q36 CV,Zx BQ]with prom:=λb=>bif Nat.beq b 4 then [(8,3)]else []}
def Qq8:Sk:=⟨[td,tf [ci],tf [ci],tf [CS.ptr 3 0],td,td,td,td,tf [CS.own 8 1]]++dd 27,[(3,29,[ci,ci,ci])],[(8,3,Aa)]⟩
def Q0p:List (Ex×Sk):=[(Ex.ret,⟨dd 6++[tf [CS.nil],tf [CS.bool]]++dd 28,[],[]⟩),(Ex.exit 0,⟨dd 8++[tf [CS.own 8 1]]++dd 27,[],[(8,3,Aa)]⟩)]
def IA (BD CV BQ:Fn):Lp:=AS PG (UP BD CV BQ) 64 4 (AV PG 82 4) Qq8 Q0p
def Zam (BD CV BQ:Fn) (N4:Lp):Cfg:=(UP BD CV BQ).loop 4 Qq8 Q0p N4
def Q0 (BD CV BQ:Fn) (N4:Lp):Fn:=Am PG (Zam BD CV BQ N4) 64 82 Qao Y5
theorem Qg (BD CV BQ:Fn) (v0:Rw) (v1 v2 v3 v4 v5:Int):IA BD CV BQ [.view Aa v0,I v1,I v2,I v3,I v4,I v5]=
 bif decide (v1>0)then
 bif(v0.length:Int)==4096 then
 some (1,[B false])
 else
 (BD [I v3,I v4,I v5,I v1,I v2]).bind λo9=>
 bif((v0++[[I (wrap .i64 (v1+gA o9 0))]]).length*8).ble 140737488355328 then
 some (0,[.view Aa (v0++[[I (wrap .i64 (v1+gA o9 0))]]),I (wrap .i64 (v1+gA o9 0)),jA o9 0,I v3,I v4,I v5])
 else
 none
 else
 some (2,[.view Aa v0]):=by kernel_rfl
theorem Vc (BD CV BQ:Fn) (N4:Lp) (x0 x1 x2 x3 x4:Int):Q0 BD CV BQ N4 [I x0,I x1,I x2,I x3,I x4]=
 (BQ [I x0,I x1,I x2]).bind λo10=>
 bif !bA o10 0 then
 some [.view Aa [],B false]
 else
 (CV [I x0,I x1,I x2,I x3,I x4]).bind λo11=>
 bif !bA o11 0 then
 some [.view Aa [],B false]
 else
 (N4 [.view Aa [],I x3,I x4,I x0,I x1,I x2]).bind λo12=>
 bif o12.1.beq 1 then
 some [.view Aa [],B (bA o12.2 0)]
 else
 bif o12.1.beq 2 then
 some [.view Aa (wA o12.2 0),B true]
 else
 none:=by kernel_rfl
def Qqz:=An (IA Fw Hd EY)
def KJ:=Q0 Fw Hd EY Qqz
theorem Qtt:Ai PG (UP Fw Hd EY):=Ao rfl ⟨Qp2,Qvh,Qh3,trivial⟩
theorem Zif:Al PG (82,Ad Qao Y5 KJ):=rw2 (C:=(Zam Fw Hd EY Qqz)) (fl fb Qtt) Qtt
def Qpn:Sk:=⟨[TS.v true [ci,ci,ci],TS.v true (cc 6)],[],[]⟩
def Qak (M:Fn):Nat×Spec:=(39,Ad Qpn Y5 M)
def Wn (He:Fn):Cfg:=cf [Z4s He]
def Q4c:Sk:=⟨dd 8++[tf [CS.own 25 1],tf [ci]]++dd 18++[tf [CS.sl Aa],tf [ci],tf [ci]]++dd 13,[],[(25,3,Aa)]⟩
def Q2q:List (Ex×Sk):=[(Ex.exit 0,⟨dd 8++[tf [CS.own 25 1]]++dd 35,[],[(25,3,Aa)]⟩)]
def Lq (He:Fn):Lp:=AS PG (Wn He) 64 7 (AV PG 39 7) Q4c Q2q
def Qvw (He:Fn) (N7:Lp):Cfg:=(Wn He).loop 7 Q4c Q2q N7
def Ry (He:Fn) (N7:Lp):Fn:=Am PG (Qvw He N7) 64 39 Qpn Y5
theorem Qwl (He:Fn) (v0:Rw) (v1:Int) (v2:Rw) (v3 v4:Int):Lq He [.view Aa v0,I v1, .view Aa v2,I v3,I v4]=
 bif decide (v4<v3)then
 bif decide (0<=v4)&&decide (v4<(v2.length:Int))then
 bif decide (0<=v4)&&decide (v4<(v0.length:Int))then
 some (0,[.view Aa (v0.set v4.toNat [I (wrap .i64 (v1+gA (nth [] v2 v4.toNat) 0))]),I (wrap .i64 (v1+gA (nth [] v2 v4.toNat) 0)), .view Aa v2,I v3,I (wrap .i64 (v4+1))])
 else
 none
 else
 none
 else
 some (1,[.view Aa v0]):=by kernel_rfl
theorem Qhx (He:Fn) (N7:Lp) (x0 x1 x2 x3 x4 x5 x6 x7 x8:Int):Ry He N7 [I x0,I x1,I x2,I x3,I x4,I x5,I x6,I x7,I x8]=
 (He [I x0,I x1,I x2,I x4,I x5]).bind λo3=>
 bif !bA o3 1 then
 some [.view Aa [],B false]
 else
 bif decide ((↑(wA o3 0).length:Int)=(↑(wA o3 0).length:Int))then
 bif decide (0<=(↑(wA o3 0).length:Int))&&decide ((↑(wA o3 0).length:Int)*(↑8:Int)<=140737488355328)then
 (N7 [.view Aa (List.replicate (↑(wA o3 0).length:Int).toNat [I 0]),I x3, .view Aa (wA o3 0),I (↑(wA o3 0).length:Int),I 0]).bind λo4=>
 bif o4.1.beq 1 then
 some [.view Aa (wA o4.2 0),B true]
 else
 none
 else
 none
 else
 none:=by kernel_rfl
def Qxz:=An (Lq KJ)
def Fz:=Ry KJ Qxz
theorem Qxq:Ai PG (Wn KJ):=Ao rfl ⟨Zif,trivial⟩
theorem Qk5:Al PG (39,Ad Qpn Y5 Fz):=rw2 (C:=(Qvw KJ Qxz)) (fl fb Qxq) Qxq
def Wt:Sk:=⟨[TS.v true [ci,ci,ci,CS.sl Ag,CS.sl kPt],TS.v true (cc 9++[CS.sl Aa]++cc 9++[CS.sl Aa]++cc 9++[CS.sl Aa]),TS.v true ([CS.sl Ap]++cc 5),TS.v true [ci,ci,ci],TS.v true (cc 6),tf [ci]],[],[]⟩
def Qt0 (M:Fn):Nat×Spec:=(154,Ad Wt Xp M)
def W5 (LZ CI:Fn):Cfg:={cf [Zw3 LZ,Qak CI]with rowDst:=[48]}
def Qm6 (LZ CI:Fn):Fn:=Am PG (W5 LZ CI) 64 154 Wt Xp
theorem Zr4 (LZ CI:Fn) (x41 x42 x43 x44 x45 x46 x47 x48 x49 x50:Int) (p:Pth) (x:Ax3) (t:Trk):Qm6 LZ CI (pxt p x t [I x41,I x42,I x43,I x44,I x45,I x46,I x47,I x48,I x49,I x50])=
 (CI [I x41,I x42,I x43,I x44,I x45,I x46,I x47,I x48,I x49]).bind λo3=>
 bif !bA o3 1 then
 some [B false]
 else
 bif decide ((↑(wA o3 0).length:Int)>0)then
 bif decide (0<=wrap .i64 ((↑(wA o3 0).length:Int)-1))&&decide (wrap .i64 ((↑(wA o3 0).length:Int)-1)<(↑(wA o3 0).length:Int))then
 bif decide (Af (nth .dead (nth [] (wA o3 0) (wrap .i64 ((↑(wA o3 0).length:Int)-1)).toNat) 0)>wrap .i64 (x50*256))then
 some [B false]
 else
 bif(([[I x49],[I x48],[I x47],[I x44]]++wA o3 0).length*8).ble 140737488355328 then
 bif(([[I x49],[I x48],[I x47],[I x44]]++wA o3 0++[[I (Af (nth .dead (nth [] (wA o3 0) (wrap .i64 ((↑(wA o3 0).length:Int)-1)).toNat) 0))],[I (Af (nth .dead (nth [] (wA o3 0) (wrap .i64 ((↑(wA o3 0).length:Int)-1)).toNat) 0))]]).length*8).ble 140737488355328 then
 (LZ (pxt p x t [.view Aa ([[I x49],[I x48],[I x47],[I x44]]++wA o3 0++[[I (Af (nth .dead (nth [] (wA o3 0) (wrap .i64 ((↑(wA o3 0).length:Int)-1)).toNat) 0))],[I (Af (nth .dead (nth [] (wA o3 0) (wrap .i64 ((↑(wA o3 0).length:Int)-1)).toNat) 0))]])])).bind λo4=>
 some [B (bA o4 0)]
 else
 none
 else
 none
 else
 none
 else
 bif decide (x44>wrap .i64 (x50*256))then
 some [B false]
 else
 bif(([[I x49],[I x48],[I x47],[I x44]]++wA o3 0).length*8).ble 140737488355328 then
 bif(([[I x49],[I x48],[I x47],[I x44]]++wA o3 0++[[I x44],[I x44]]).length*8).ble 140737488355328 then
 (LZ (pxt p x t [.view Aa ([[I x49],[I x48],[I x47],[I x44]]++wA o3 0++[[I x44],[I x44]])])).bind λo5=>
 some [B (bA o5 0)]
 else
 none
 else
 none:=by kernel_rfl
def I8:=Qm6 PN Fz
theorem Zja:Ai PG (W5 PN Fz):=Ao rfl ⟨Zd9,Qk5,trivial⟩
theorem Qrn:Al PG (154,Ad Wt Xp I8):=rw1 (C:=(W5 PN Fz)) Zja
def Qet:Sk:=⟨[TS.v true [ci,ci,CS.bool,CS.bool,CS.bool],TS.v true [ci,ci,ci],TS.v true (cc 7)],[],[]⟩
def Zid (M:Fn):Nat×Spec:=(198,Ad Qet Qik M)
def Ql0:Fn:=Am PG C_pulse_Sum_0 64 198 Qet Qik
theorem Ztb (x0 x1:Int) (x2 x3 x4:Bool) (x5 x6 x7 x8 x9 x10 x11 x12 x13 x14:Int):Ql0 [I x0,I x1,B x2,B x3,B x4,I x5,I x6,I x7,I x8,I x9,I x10,I x11,I x12,I x13,I x14]=
 bif x2 then
 some [I 0]
 else
 bif x14 !=0 then
 some [I (mn (mx x13 1) 16777216)]
 else
 bif x13==0 then
 bif x1==0 then
 some [I 0]
 else
 some [I (mn (mx (wrap .i64 ((wrap .i64 (x7*x1)).tdiv 100)) 1) 16777216)]
 else
 bif x0==0 then
 some [I 0]
 else
 some [I (mn (mx (wrap .i64 ((wrap .i64 (x13*x0)).tdiv 100)) 1) 16777216)]:=by kernel_rfl
def PZ:=Ql0
theorem Zz2:Ai PG (C_pulse_Sum_0):=Ao rfl trivial
theorem Zjo:Al PG (198,Ad Qet Qik PZ):=rw1 (C:=C_pulse_Sum_0) Zz2
def Qp3:Sk:=⟨[TS.v true [ci,ci,ci,CS.sl Ag,CS.sl kPt],TS.v true ([CS.sl Ap]++cc 5),TS.v true [ci,ci,ci],TS.v true [ci,ci,CS.bool,CS.bool,CS.bool],tf [ci]],[],[]⟩
def Z6j (M:Fn):Nat×Spec:=(178,Ad Qp3 Qik M)
def Qlz (OD Dx BC Eg:Fn):Cfg:=cf [Zid OD,Qdk Dx,PD BC,Q4s Eg]
def ZF (OD Dx BC Eg:Fn):Fn:=Am PG (Qlz OD Dx BC Eg) 64 178 Qp3 Qik
theorem Z4i (OD Dx BC Eg:Fn) (x11 x12 x13 x14 x15:Int) (x16 x17 x18:Bool) (x19:Int) (p:Pth) (t:Trk):ZF OD Dx BC Eg (EW p t [I x11,I x12,I x13,I x14,I x15,B x16,B x17,B x18,I x19])=
 (Eg [I x19]).bind λo4=>
 (BC (AW t++[jA o4 0])).bind λo5=>
 (Dx (Bj p++[jA o5 0])).bind λo6=>
 bif decide (0<=gA o6 0)&&decide (gA o6 0<((p.aF.map Au).length:Int))then
 (OD (I x14::I x15::B x16::B x17::B x18::I x11::I x12::I x13::AN Ag (nth [] (p.aF.map Au) (gA o6 0).toNat))).bind λo7=>
 some [jA o7 0]
 else
 none:=by kernel_rfl
def NJ:=ZF PZ EK DU IR
theorem Z0b:Ai PG (Qlz PZ EK DU IR):=Ao rfl ⟨Zjo,Qpv,Ra,Q9f,trivial⟩
theorem Z3y:Al PG (178,Ad Qp3 Qik NJ):=rw1 (C:=(Qlz PZ EK DU IR)) Z0b
def WM:Sk:=⟨[TS.v true [ci,ci,ci,CS.sl Ag,CS.sl kPt],TS.v true ([CS.sl Ap]++cc 5),TS.v true [ci,ci,ci],TS.v true [ci,ci,CS.bool,CS.bool,CS.bool],TS.v true (cc 6)],[],[]⟩
def Z2l (M:Fn):Nat×Spec:=(153,Ad WM Xp M)
def Qop (F7 CI:Fn):Cfg:=cf [Z6j F7,Qak CI]
def Qtp:Sk:=⟨[td,td,td,td,td,tf [CS.ptr 5 0],tf [CS.ptr 6 0],tf [CS.ptr 7 0],tf [CS.ptr 8 0],td,td,td,td,tf [ci]]++dd 30++[tf [CS.sl Aa],tf [ci],tf [ci]]++dd 15,[(5,58,[ci,ci,ci,CS.sl Ag,CS.sl kPt]),(6,62,[CS.sl Ap]++cc 5),(7,29,[ci,ci,ci]),(8,92,[ci,ci,CS.bool,CS.bool,CS.bool])],[]⟩
def Qq3:List (Ex×Sk):=[(Ex.ret,⟨dd 10++[tf [CS.bool]]++dd 51,[],[]⟩),(Ex.exit 0,⟨[td]++dd 61,[],[]⟩)]
def Wr (F7 CI:Fn):Lp:=AS PG (Qop F7 CI) 64 6 (AV PG 153 6) Qtp Qq3
def Q6s (F7 CI:Fn) (N6:Lp):Cfg:=(Qop F7 CI).loop 6 Qtp Qq3 N6
def X3 (F7 CI:Fn) (N6:Lp):Fn:=Am PG (Q6s F7 CI N6) 64 153 WM Xp
theorem Zzc (F7 CI:Fn) (v0:Int) (v1:Rw) (v2 v3:Int) (v15 v16 v17 v18 v19:Int) (v20 v21 v22:Bool) (p:Pth) (t:Trk):Wr F7 CI (I v0:: .view Aa v1::I v2::I v3::EW p t [I v15,I v16,I v17,I v18,I v19,B v20,B v21,B v22])=
 bif decide (v3<v2)then
 bif decide (0<=v3)&&decide (v3<(v1.length:Int))then
 (F7 (EW p t [I v15,I v16,I v17,I v18,I v19,B v20,B v21,B v22,jA (nth [] v1 v3.toNat) 0])).bind λo6=>
 bif decide (wrap .i64 (gA (nth [] v1 v3.toNat) 0-v0)>gA o6 0)then
 some (1,[B false])
 else
 some (0,(jA (nth [] v1 v3.toNat) 0:: .view Aa v1::I v2::I (wrap .i64 (v3+1))::EW p t [I v15,I v16,I v17,I v18,I v19,B v20,B v21,B v22]))
 else
 none
 else
 some (2,[]):=by kernel_rfl
theorem Zu3 (F7 CI:Fn) (N6:Lp) (x11 x12 x13 x14 x15:Int) (x16 x17 x18:Bool) (x19 x20 x21 x22 x23 x24:Int) (p:Pth) (t:Trk):X3 F7 CI N6 (EW p t [I x11,I x12,I x13,I x14,I x15,B x16,B x17,B x18,I x19,I x20,I x21,I x22,I x23,I x24])=
 (CI [I x11,I x12,I x13,I x19,I x20,I x21,I x22,I x23,I x24]).bind λo7=>
 bif !bA o7 1 then
 some [B false]
 else
 bif((p.aF.map Au).length:Int)==0 then
 some [B false]
 else
 (F7 (EW p t [I x11,I x12,I x13,I x14,I x15,B x16,B x17,B x18,I x19])).bind λo8=>
 bif decide (x20>gA o8 0)then
 some [B false]
 else
 (N6 (I x19:: .view Aa (wA o7 0)::I (↑(wA o7 0).length:Int)::I 0::EW p t [I x11,I x12,I x13,I x14,I x15,B x16,B x17,B x18])).bind λo9=>
 bif o9.1.beq 1 then
 some [B (bA o9.2 0)]
 else
 bif o9.1.beq 2 then
 some [B true]
 else
 none:=by kernel_rfl
def Q6b:=An (Wr NJ Fz)
def Me:=X3 NJ Fz Q6b
theorem Q3j:Ai PG (Qop NJ Fz):=Ao rfl ⟨Z3y,Qk5,trivial⟩
theorem Zn7:Al PG (153,Ad WM Xp Me):=rw2 (C:=(Q6s NJ Fz Q6b)) (fl fb Q3j) Q3j
def XH:Sk:=⟨[TS.v true (cc 6),tf [ci]],[],[]⟩
def WH:Sk:=⟨[TS.v true (cc 6)],[],[]⟩
def Q0d (M:Fn):Nat×Spec:=(152,Ad XH WH M)
def V9:Fn:=Am PG C_pulse_Sum_0 64 152 XH WH
theorem Zyn (x0 x1 x2 x3 x4 x5 x6:Int):V9 [I x0,I x1,I x2,I x3,I x4,I x5,I x6]=
 some [I (wrap .i64 (x0+x6)),I x6,I (wrap .i64 (x6-x1)),I x0,I x3,I x4]:=by kernel_rfl
def IS:=V9
theorem Zyq:Ai PG (C_pulse_Sum_0):=Ao rfl trivial
theorem Q0e:Al PG (152,Ad XH WH IS):=rw1 (C:=C_pulse_Sum_0) Zyq
def Zyv (M:Fn):Nat×Spec:=(151,Ad Qik Yt M)
def Q2n:Sk:=⟨[td,td,td,tf [CS.own 3 1],tf [ci]]++dd 32,[],[(3,3,Aa)]⟩
def Qvi:List (Ex×Sk):=[(Ex.exit 0,⟨[td,td,td,tf [CS.own 3 1]]++dd 33,[],[(3,3,Aa)]⟩)]
def QC:Lp:=AS PG C_limits_Differences_0 64 3 (AV PG 151 3) Q2n Qvi
def Q9p (N3:Lp):Cfg:=C_limits_Differences_0.loop 3 Q2n Qvi N3
def Q20:Sk:=⟨[td,td,td,tf [CS.own 3 1],td,tf [CS.own 16 1],tf [ci]]++dd 30,[],[(3,3,Aa),(16,3,Aa)]⟩
def Qqw:List (Ex×Sk):=[(Ex.exit 2,⟨[td,td,td,td,td,tf [CS.own 16 1]]++dd 31,[],[(16,3,Aa)]⟩)]
def SE (N3:Lp):Lp:=AS PG (Q9p N3) 64 8 (AV PG 151 8) Q20 Qqw
def Q3d (N3 N8:Lp):Cfg:=(Q9p N3).loop 8 Q20 Qqw N8
def Qd8 (N3 N8:Lp):Fn:=Am PG (Q3d N3 N8) 64 151 Qik Yt
theorem Zym (v0:Rw) (v1:Int):QC [.view Aa v0,I v1]=
 bif decide (v1>0)then
 bif((v0++[[I v1]]).length*8).ble 140737488355328 then
 some (0,[.view Aa (v0++[[I v1]]),I (wrap .i64 (v1.tdiv 2))])
 else
 none
 else
 some (1,[.view Aa v0]):=by kernel_rfl
theorem Zs0 (N3:Lp) (v0 v1:Rw) (v2:Int):SE N3 [.view Aa v0, .view Aa v1,I v2]=
 bif decide (v2>=0)then
 bif decide (0<=v2)&&decide (v2<(v0.length:Int))then
 bif((v1++[[I (wrap .i64 (0-gA (nth [] v0 v2.toNat) 0))]]).length*8).ble 140737488355328 then
 some (0,[.view Aa v0, .view Aa (v1++[[I (wrap .i64 (0-gA (nth [] v0 v2.toNat) 0))]]),I (wrap .i64 (v2-1))])
 else
 none
 else
 none
 else
 some (1,[.view Aa v1]):=by kernel_rfl
theorem Z3z (N3 N8:Lp) (x0:Int):Qd8 N3 N8 [I x0]=
 (N3 [.view Aa [],I x0]).bind λo3=>
 bif o3.1.beq 1 then
 bif(([]++wA o3.2 0).length*8).ble 140737488355328 then
 bif(([]++wA o3.2 0++[[I 0]]).length*8).ble 140737488355328 then
 (N8 [.view Aa (wA o3.2 0), .view Aa ([]++wA o3.2 0++[[I 0]]),I (wrap .i64 ((↑(wA o3.2 0).length:Int)-1))]).bind λo4=>
 bif o4.1.beq 1 then
 some [.view Aa (wA o4.2 0)]
 else
 none
 else
 none
 else
 none
 else
 none:=by kernel_rfl
def V2:=An (QC)
def Q50:=An (SE V2)
def O9:=Qd8 V2 Q50
theorem UT:Ai PG (C_limits_Differences_0):=Ao rfl trivial
theorem Zzt:Al PG (151,Ad Qik Yt O9):=rw2 (C:=(Q3d V2 Q50)) (fl (fl fb UT) UT) UT
def Ql8:Sk:=⟨[TS.v true [ci,ci,ci,CS.sl Ag,CS.sl kPt],TS.v true (cc 9++[CS.sl Aa]++cc 9++[CS.sl Aa]++cc 9++[CS.sl Aa]),TS.v true ([CS.sl Ap]++cc 5),TS.v true [ci,ci,ci],TS.v true [ci,ci,CS.bool,CS.bool,CS.bool],TS.v true (cc 6),tf [ci]],[],[]⟩
def Qbb (M:Fn):Nat×Spec:=(104,Ad Ql8 WH M)
def Qnm (BD D7 G4 Ct CV Hl:Fn):Cfg:=cf [Qhg BD,Qt0 D7,Z2l G4,Q0d Ct,Q36 CV,Zyv Hl]
def Q9v:Sk:=⟨dd 6++[tf [ci],tf [CS.ptr 7 0],tf [CS.ptr 8 0],tf [CS.ptr 9 0],tf [CS.ptr 10 0],tf [CS.ptr 11 0],tf [CS.ptr 12 0],td,tf [CS.ptr 14 0],tf [CS.ptr 15 0],tf [CS.bool]]++dd 6++[tf [CS.sl Aa],tf [ci],tf [ci]]++dd 57,[(7,58,[ci,ci,ci,CS.sl Ag,CS.sl kPt]),(8,27,cc 9++[CS.sl Aa]++cc 9++[CS.sl Aa]++cc 9++[CS.sl Aa]),(9,62,[CS.sl Ap]++cc 5),(10,29,[ci,ci,ci]),(11,92,[ci,ci,CS.bool,CS.bool,CS.bool]),(12,50,cc 6),(14,50,cc 6),(15,50,cc 6)],[]⟩
def Qs5:List (Ex×Sk):=[(Ex.exit 0,⟨dd 10++[tf [CS.ptr 10 0],td,tf [CS.ptr 12 0],td,tf [CS.ptr 14 0],tf [CS.ptr 15 0],tf [CS.bool]]++dd 66,[(10,29,[ci,ci,ci]),(12,50,cc 6),(14,50,cc 6),(15,50,cc 6)],[]⟩)]
def Qfh (BD D7 G4 Ct CV Hl:Fn):Lp:=AS PG (Qnm BD D7 G4 Ct CV Hl) 64 4 (AV PG 104 4) Q9v Qs5
def Qvl (BD D7 G4 Ct CV Hl:Fn) (N4:Lp):Cfg:=(Qnm BD D7 G4 Ct CV Hl).loop 4 Q9v Qs5 N4
def Qim (BD D7 G4 Ct CV Hl:Fn) (N4:Lp):Fn:=Am PG (Qvl BD D7 G4 Ct CV Hl N4) 64 104 Ql8 WH
theorem Zkb (BD D7 G4 Ct CV Hl:Fn) (v0:Int) (v1:Bool) (v2:Rw) (v3 v4:Int) (v46 v47 v48 v49 v50:Int) (v51 v52 v53:Bool) (v54 v55 v56 v57 v58 v59 v60 v61 v62 v63 v64 v65 v66 v67 v68 v69 v70 v71:Int) (p:Pth) (x:Ax3) (t:Trk):Qfh BD D7 G4 Ct CV Hl (I v0::B v1:: .view Aa v2::I v3::I v4::pxt p x t [I v46,I v47,I v48,I v49,I v50,B v51,B v52,B v53,I v54,I v55,I v56,I v57,I v58,I v59,I v60,I v61,I v62,I v63,I v64,I v65,I v66,I v67,I v68,I v69,I v70,I v71])=
 bif decide (v4<v3)then
 bif decide (0<=v4)&&decide (v4<(v2.length:Int))then
 bif decide (wrap .i64 (v55+wrap .i64 (v56+gA (nth [] v2 v4.toNat) 0))<0)then
 some (0,(I v0::B v1:: .view Aa v2::I v3::I (wrap .i64 (v4+1))::pxt p x t [I v46,I v47,I v48,I v49,I v50,B v51,B v52,B v53,I v54,I v55,I v56,I v57,I v58,I v59,I v60,I v61,I v62,I v63,I v64,I v65,I v66,I v67,I v68,I v69,I v70,I v71]))
 else
 (CV [I v46,I v47,I v48,I (wrap .i64 (v55+wrap .i64 (v56+gA (nth [] v2 v4.toNat) 0))),I (wrap .i64 (v56+gA (nth [] v2 v4.toNat) 0))]).bind λo9=>
 bif !bA o9 0 then
 some (0,(I v0::B v1:: .view Aa v2::I v3::I (wrap .i64 (v4+1))::pxt p x t [I v46,I v47,I v48,I v49,I v50,B v51,B v52,B v53,I v54,I v55,I v56,I v57,I v58,I v59,I v60,I v61,I v62,I v63,I v64,I v65,I v66,I v67,I v68,I v69,I v70,I v71]))
 else
 (Ct [I v54,I v55,I v56,I v57,I v58,I v59,I (wrap .i64 (v55+wrap .i64 (v56+gA (nth [] v2 v4.toNat) 0)))]).bind λo10=>
 (G4 (EW p t [I v46,I v47,I v48,I v49,I v50,B v51,B v52,B v53,jA o10 0,jA o10 1,jA o10 2,jA o10 3,jA o10 4,jA o10 5])).bind λo11=>
 bif bA o11 0 then
 (D7 (pxt p x t [I v46,I v47,I v48,jA o10 0,jA o10 1,jA o10 2,jA o10 3,jA o10 4,jA o10 5,I v0])).bind λo12=>
 bif bA o12 0 then
 some (1,[B true,I v46,I v47,I v48,I v54,I v55,I v56,I v57,I v58,I v59,I v60,I v61,I v62,I v63,I v64,I v65,jA o10 0,jA o10 1,jA o10 2,jA o10 3,jA o10 4,jA o10 5])
 else
 some (0,(I v0::B v1:: .view Aa v2::I v3::I (wrap .i64 (v4+1))::pxt p x t [I v46,I v47,I v48,I v49,I v50,B v51,B v52,B v53,I v54,I v55,I v56,I v57,I v58,I v59,I v60,I v61,I v62,I v63,I v64,I v65,jA o10 0,jA o10 1,jA o10 2,jA o10 3,jA o10 4,jA o10 5]))
 else
 some (0,(I v0::B v1:: .view Aa v2::I v3::I (wrap .i64 (v4+1))::pxt p x t [I v46,I v47,I v48,I v49,I v50,B v51,B v52,B v53,I v54,I v55,I v56,I v57,I v58,I v59,I v60,I v61,I v62,I v63,I v64,I v65,jA o10 0,jA o10 1,jA o10 2,jA o10 3,jA o10 4,jA o10 5]))
 else
 none
 else
 some (1,[B v1,I v46,I v47,I v48,I v54,I v55,I v56,I v57,I v58,I v59,I v60,I v61,I v62,I v63,I v64,I v65,I v66,I v67,I v68,I v69,I v70,I v71]):=by kernel_rfl
theorem Z6o (BD D7 G4 Ct CV Hl:Fn) (N4:Lp) (x41 x42 x43 x44 x45:Int) (x46 x47 x48:Bool) (x49 x50 x51 x52 x53 x54 x55:Int) (p:Pth) (x:Ax3) (t:Trk):Qim BD D7 G4 Ct CV Hl N4 (pxt p x t [I x41,I x42,I x43,I x44,I x45,B x46,B x47,B x48,I x49,I x50,I x51,I x52,I x53,I x54,I x55])=
 (Hl [I x42]).bind λo13=>
 (N4 (I x55::B false:: .view Aa (wA o13 0)::I (↑(wA o13 0).length:Int)::I 0::pxt p x t [I x41,I x42,I x43,I x44,I x45,B x46,B x47,B x48,I x49,I x50,I x51,I x52,I x53,I x54,I 0,I 0,I 0,I 0,I 0,I 0,I 0,I 0,I 0,I 0,I 0,I 0])).bind λo14=>
 bif o14.1.beq 1 then
 bif bA o14.2 0 then
 some [jA o14.2 16,jA o14.2 17,jA o14.2 18,jA o14.2 19,jA o14.2 20,jA o14.2 21]
 else
 (BD [jA o14.2 1,jA o14.2 2,jA o14.2 3,jA o14.2 5,jA o14.2 6]).bind λo15=>
 (Ct [jA o14.2 4,jA o14.2 5,jA o14.2 6,jA o14.2 7,jA o14.2 8,jA o14.2 9,I (wrap .i64 (gA o14.2 5+gA o15 0))]).bind λo16=>
 some [jA o16 0,jA o16 1,jA o16 2,jA o16 3,jA o16 4,jA o16 5]
 else
 none:=by kernel_rfl
def Qv8:=An (Qfh Fw I8 Me IS Hd O9)
def FK:=Qim Fw I8 Me IS Hd O9 Qv8
theorem Qwb:Ai PG (Qnm Fw I8 Me IS Hd O9):=Ao rfl ⟨Qp2,Qrn,Zn7,Q0e,Qvh,Zzt,trivial⟩
theorem Qcc:Al PG (104,Ad Ql8 WH FK):=rw2 (C:=(Qvl Fw I8 Me IS Hd O9 Qv8)) (fl fb Qwb) Qwb
def Q0b (M:Fn):Nat×Spec:=(35,Ad Qpn Zb M)
def Qc4 (CI:Fn):Cfg:=cf [Qak CI]
def OT (CI:Fn):Fn:=Am PG (Qc4 CI) 64 35 Qpn Zb
theorem VF (CI:Fn) (x0 x1 x2 x3 x4 x5 x6 x7 x8:Int):OT CI [I x0,I x1,I x2,I x3,I x4,I x5,I x6,I x7,I x8]=
 (CI [I x0,I x1,I x2,I x3,I x4,I x5,I x6,I x7,I x8]).bind λo1=>
 bif !bA o1 1 then
 some [I 0,B false]
 else
 bif(↑(wA o1 0).length:Int)==0 then
 some [I x3,B true]
 else
 bif decide (0<=wrap .i64 ((↑(wA o1 0).length:Int)-1))&&decide (wrap .i64 ((↑(wA o1 0).length:Int)-1)<(↑(wA o1 0).length:Int))then
 some [I (Af (nth .dead (nth [] (wA o1 0) (wrap .i64 ((↑(wA o1 0).length:Int)-1)).toNat) 0)),B true]
 else
 none:=by kernel_rfl
def F2:=OT Fz
theorem Zqh:Ai PG (Qc4 Fz):=Ao rfl ⟨Qk5,trivial⟩
theorem Q0i:Al PG (35,Ad Qpn Zb F2):=rw1 (C:=(Qc4 Fz)) Zqh
def Zk3 (M:Fn):Nat×Spec:=(200,Ad Qe3 Qik M)
def Qov (AH:Fn):Cfg:=cf [Ml AH]
def Qf9 (AH:Fn):Fn:=Am PG (Qov AH) 64 200 Qe3 Qik
theorem Zy1 (AH:Fn) (x0 x1:Int):Qf9 AH [I x0,I x1]=
 (AH [I x0,I x1,I 4096,I 0]).bind λo1=>
 some [jA o1 0]:=by kernel_rfl
def QN:=Qf9 Bz
theorem Ztz:Ai PG (Qov Bz):=Ao rfl ⟨Ls,trivial⟩
theorem Zsm:Al PG (200,Ad Qe3 Qik QN):=rw1 (C:=(Qov Bz)) Ztz
def Zug (M:Fn):Nat×Spec:=(201,Ad Qe3 Qik M)
def Qoq:Fn:=Am PG C_pulse_Sum_0 64 201 Qe3 Qik
theorem Zzp (x0 x1:Int):Qoq [I x0,I x1]=
 some [I (mx (wrap .i64 (x0-x1)) (wrap .i64 (x1-x0)))]:=by kernel_rfl
def Q_:=Qoq
theorem Z11:Ai PG (C_pulse_Sum_0):=Ao rfl trivial
theorem Zoy:Al PG (201,Ad Qe3 Qik Q_):=rw1 (C:=C_pulse_Sum_0) Z11
def Qnu:Sk:=⟨[TS.v true [ci,ci,ci,CS.sl Ag,CS.sl kPt],TS.v true (cc 9++[CS.sl Aa]++cc 9++[CS.sl Aa]++cc 9++[CS.sl Aa]),TS.v true ([CS.sl Ap]++cc 5),TS.v true [ci,ci,ci],TS.v true [ci,ci,CS.bool,CS.bool,CS.bool],TS.v true (cc 6),tf [ci],tf [ci],TS.v true [ci,ci,ci,ci],tf [ci],tf [ci]],[],[]⟩
def Vr:Sk:=⟨[TS.tup [(true,cc 6),(true,[ci,ci,ci,ci]),(false,[ci])]],[],[]⟩
def Zjb (M:Fn):Nat×Spec:=(181,Ad Qnu Vr M)
def Qf0 (CB BD Ea D7 Ct Ma Ld:Fn):Cfg:=cf [Qbb CB,Qhg BD,Q0b Ea,Qt0 D7,Q0d Ct,Zk3 Ma,Zug Ld]
def Qdw (CB BD Ea D7 Ct Ma Ld:Fn):Fn:=Am PG (Qf0 CB BD Ea D7 Ct Ma Ld) 64 181 Qnu Vr
abbrev Qil (Ea:Fn) (x41 x42 x43:Int) (o33:List AC) (x58:Int) (o26:List AC) (x60 x49 x55:Int) (BD:Fn) (x50 x51:Int) (Ct:Fn) (x52 x53 x54 x59:Int):Option (List AC):=
 (Ea [I x41,I x42,I x43,jA o33 0,jA o33 1,jA o33 2,jA o33 3,jA o33 4,jA o33 5]).bind λo35=>
 bif decide (wrap .i64 (wrap .i64 (wrap .i64 (x58+gA o26 0)-x60)-x49)>=0)then
 bif decide (gA o35 0>wrap .i64 (x55*256))then
 (BD [I x41,I x42,I x43,I x50,I x51]).bind λo36=>
 (Ct [I x49,I x50,I x51,I x52,I x53,I x54,I (wrap .i64 (x50+gA o36 0))]).bind λo37=>
 some [jA o37 0,jA o37 1,jA o37 2,jA o37 3,jA o37 4,jA o37 5,I 3,I x58,I x59,I x60,I 0]
 else
 (BD [I x41,I x42,I x43,I x50,I x51]).bind λo38=>
 (Ct [I x49,I x50,I x51,I x52,I x53,I x54,I (wrap .i64 (x50+gA o38 0))]).bind λo39=>
 some [jA o39 0,jA o39 1,jA o39 2,jA o39 3,jA o39 4,jA o39 5,I 3,I x58,I x59,I x60,I 18]
 else
 (BD [I x41,I x42,I x43,I x50,I x51]).bind λo40=>
 (Ct [I x49,I x50,I x51,I x52,I x53,I x54,I (wrap .i64 (x50+gA o40 0))]).bind λo41=>
 some [jA o41 0,jA o41 1,jA o41 2,jA o41 3,jA o41 4,jA o41 5,I 3,I x58,I x59,I x60,I 18]
theorem Zhs (CB BD Ea D7 Ct Ma Ld:Fn) (x41 x42 x43 x44 x45:Int) (x46 x47 x48:Bool) (x49 x50 x51 x52 x53 x54 x55 x56 x57 x58 x59 x60 x61 x62:Int) (p:Pth) (x:Ax3) (t:Trk):Qdw CB BD Ea D7 Ct Ma Ld (pxt p x t [I x41,I x42,I x43,I x44,I x45,B x46,B x47,B x48,I x49,I x50,I x51,I x52,I x53,I x54,I x55,I x56,I x57,I x58,I x59,I x60,I x61,I x62])=
 (Ld [I x62,I x59]).bind λo25=>
 (Ma [I x56,jA o25 0]).bind λo26=>
 bif x57==1 then
 (Ld [I x61,I x59]).bind λo27=>
 (Ma [I x56,jA o27 0]).bind λo28=>
 (Ct [I x49,I x50,I x51,I x52,I x53,I x54,I (wrap .i64 (gA o26 0-gA o28 0))]).bind λo29=>
 bif wrap .i64 (gA o26 0-gA o28 0) !=0 then
 (D7 (pxt p x t [I x41,I x42,I x43,jA o29 0,jA o29 1,jA o29 2,jA o29 3,jA o29 4,jA o29 5,I x55])).bind λo30=>
 bif bA o30 0 then
 some [jA o29 0,jA o29 1,jA o29 2,jA o29 3,jA o29 4,jA o29 5,I 2,I x58,I x59,I (wrap .i64 (gA o26 0-wrap .i64 (gA o29 0-x58))),I 0]
 else
 (CB (pxt p x t [I x41,I x42,I x43,I x44,I x45,B false,B x47,B x48,I x49,I x50,I x51,I x52,I x53,I x54,I x55])).bind λo31=>
 some [jA o31 0,jA o31 1,jA o31 2,jA o31 3,jA o31 4,jA o31 5,I x57,I x58,I x59,I x60,I 0]
 else
 (CB (pxt p x t [I x41,I x42,I x43,I x44,I x45,B false,B x47,B x48,I x49,I x50,I x51,I x52,I x53,I x54,I x55])).bind λo32=>
 some [jA o32 0,jA o32 1,jA o32 2,jA o32 3,jA o32 4,jA o32 5,I x57,I x58,I x59,I x60,I 0]
 else
 bif x57==2 then
 (Ct [I x49,I x50,I x51,I x52,I x53,I x54,I (wrap .i64 (wrap .i64 (wrap .i64 (x58+gA o26 0)-x60)-x49))]).bind λo33=>
 bif decide (wrap .i64 (wrap .i64 (wrap .i64 (x58+gA o26 0)-x60)-x49)>=0)then
 (D7 (pxt p x t [I x41,I x42,I x43,jA o33 0,jA o33 1,jA o33 2,jA o33 3,jA o33 4,jA o33 5,I x55])).bind λo34=>
 bif bA o34 0 then
 some [jA o33 0,jA o33 1,jA o33 2,jA o33 3,jA o33 4,jA o33 5,I x57,I x58,I x59,I x60,I 0]
 else
 Qil Ea x41 x42 x43 o33 x58 o26 x60 x49 x55 BD x50 x51 Ct x52 x53 x54 x59
 else
 Qil Ea x41 x42 x43 o33 x58 o26 x60 x49 x55 BD x50 x51 Ct x52 x53 x54 x59
 else
 (CB (pxt p x t [I x41,I x42,I x43,I x44,I x45,B false,B x47,B x48,I x49,I x50,I x51,I x52,I x53,I x54,I x55])).bind λo49=>
 some [jA o49 0,jA o49 1,jA o49 2,jA o49 3,jA o49 4,jA o49 5,I x57,I x58,I x59,I x60,I 0]:=by kernel_rfl
def KD:=Qdw FK Fw F2 I8 IS QN Q_
theorem Zub:Ai PG (Qf0 FK Fw F2 I8 IS QN Q_):=Ao rfl ⟨Qcc,Qp2,Q0i,Qrn,Q0e,Zsm,Zoy,trivial⟩
theorem Zxp:Al PG (181,Ad Qnu Vr KD):=rw1 (C:=(Qf0 FK Fw F2 I8 IS QN Q_)) Zub
def Vi (M:Fn):Nat×Spec:=(159,Ad Qhl Qj5 M)
def Qc3 (CB:Fn):Cfg:=cf [Qbb CB]
def Qg6 (CB:Fn):Fn:=Am PG (Qc3 CB) 64 159 Qhl Qj5
theorem Za2 (CB:Fn) (x0:Int) (K:Kf) (c:Cv):Qg6 CB (I x0::Ab K c)=
 (CB (pxt K.p K.x K.t [I K.pa,I K.pb,I K.pc,I c.o0,I c.o1,B c.o2,B c.o3,B c.o4,I c.m0,I c.m1,I c.m2,I c.m3,I c.m4,I c.m5,I x0])).bind λo1=>
 some (Ab K {c with m0:=gA o1 0,m1:=gA o1 1,m2:=gA o1 2,m3:=gA o1 3,m4:=gA o1 4,m5:=gA o1 5}):=by kernel_rfl
def HZ:=Qg6 FK
theorem Zp8:Ai PG (Qc3 FK):=Ao rfl ⟨Qcc,trivial⟩
theorem ZN:Al PG (159,Ad Qhl Qj5 HZ):=rw1 (C:=(Qc3 FK)) Zp8
def Qba:Sk:=⟨[tf [CS.ptr 20000 0],tf [ci],TS.v true (cc 7)],[(20000,119,cS)],[]⟩
def Zek (M:Fn):Nat×Spec:=(162,Ad Qba Qj5 M)
def Qna (Dd OB Dq:Fn):Cfg:=cp [Qmu Dd,Zjb OB,Vi Dq] [108,159]
def Qms (Dd OB Dq:Fn):Fn:=Am PG (Qna Dd OB Dq) 64 162 Qba Qj5
theorem Z0j (Dd OB Dq:Fn) (x0 x1 x2 x3 x4 x5 x6 x7:Int) (K:Kf) (c:Cv):Qms Dd OB Dq (I x0::I x1::I x2::I x3::I x4::I x5::I x6::I x7::Ab K c)=
 bif c.g0 !=0 then
 (Dq (I x0::Ab K c)).bind λo3=>
 some (Dp (cR 0 o3) [(82,I 3)])
 else
 (OB (pxt K.p K.x K.t [I K.pa,I K.pb,I K.pc,I c.o0,I c.o1,B c.o2,B c.o3,B c.o4,I c.m0,I c.m1,I c.m2,I c.m3,I c.m4,I c.m5,I x0,I x7,I c.e0,I c.e1,I c.e2,I c.e3,I c.before,I c.s3])).bind λo4=>
 bif gA o4 10 !=0 then
 (Dd (Ab K {c with m0:=gA o4 0,m1:=gA o4 1,m2:=gA o4 2,m3:=gA o4 3,m4:=gA o4 4,m5:=gA o4 5,e0:=gA o4 6,e1:=gA o4 7,e2:=gA o4 8,e3:=gA o4 9})).bind λo5=>
 some (cR 0 o5)
 else
 some (Ab K {c with m0:=gA o4 0,m1:=gA o4 1,m2:=gA o4 2,m3:=gA o4 3,m4:=gA o4 4,m5:=gA o4 5,e0:=gA o4 6,e1:=gA o4 7,e2:=gA o4 8,e3:=gA o4 9}):=by kernel_rfl
def P5:=Qms GZ KD HZ
theorem Z4u:Ai PG (Qna GZ KD HZ):=Ao rfl ⟨Vf,Zxp,ZN,trivial⟩
theorem Z33:Al PG (162,Ad Qba Qj5 P5):=rw1 (C:=(Qna GZ KD HZ)) Z4u
def Zo1 (M:Fn):Nat×Spec:=(42,Ad Qe3 Qik M)
def Xa (AH:Fn):Cfg:=cf [Ml AH]
def Qbo (AH:Fn):Fn:=Am PG (Xa AH) 64 42 Qe3 Qik
theorem Zi8 (AH:Fn) (x0 x1:Int):Qbo AH [I x0,I x1]=
 (AH [I 4096,I x1,I x0,I 0]).bind λo1=>
 some [jA o1 0]:=by kernel_rfl
def Km:=Qbo Bz
theorem Zor:Ai PG (Xa Bz):=Ao rfl ⟨Ls,trivial⟩
theorem Zuz:Al PG (42,Ad Qe3 Qik Km):=rw1 (C:=(Xa Bz)) Zor
def Zmb (M:Fn):Nat×Spec:=(161,Ad Qba Qj5 M)
def Qox (Lo Bl Dq:Fn):Cfg:=cr [Zo1 Lo,Na Bl,Vi Dq] [110,159] [110]
def WZ (Lo Bl Dq:Fn):Fn:=Am PG (Qox Lo Bl Dq) 64 161 Qba Qj5
theorem Z6e (Lo Bl Dq:Fn) (x0 x1 x2 x3 x4 x5 x6 x7:Int) (K:Kf) (c:Cv):WZ Lo Bl Dq (I x0::I x1::I x2::I x3::I x4::I x5::I x6::I x7::Ab K c)=
 (Dq (I x0::Ab K c)).bind λo5=>
 bif decide (0<=x5)&&decide (x5<(↑(wA o5 35).length:Int))then
 bif Af (nth .dead (nth [] (wA o5 35) x5.toNat) 19)==3 then
 (Bl (cR 0 o5)).bind λo6=>
 (Lo [I x7,I (wrap .i64 (gA o6 0-gA o5 80))]).bind λo7=>
 some (Dp (cR 0 o5) [(67,I (wrap .i64 (gA o5 81+wrap .i64 (wrap .i64 (1*gA o7 0)*256))))])
 else
 (Bl (cR 0 o5)).bind λo8=>
 (Lo [I x7,I (wrap .i64 (gA o8 0-gA o5 80))]).bind λo9=>
 some (Dp (cR 0 o5) [(67,I (wrap .i64 (gA o5 81+wrap .i64 (wrap .i64 (-1*gA o9 0)*256))))])
 else
 none:=by kernel_rfl
def Qc:=WZ Km C5 HZ
theorem Zs9:Ai PG (Qox Km C5 HZ):=Hf (rs:=[110]) rfl ⟨Zuz,Nc,ZN,trivial⟩ rfl (Ci rfl (ER (Ci rfl GA)))
theorem Zqb:Al PG (161,Ad Qba Qj5 Qc):=rw1 (C:=(Qox Km C5 HZ)) Zs9
def Z4a (M:Fn):Nat×Spec:=(199,Ad Qe3 Qik M)
def Vk:Fn:=Am PG C_pulse_Sum_0 64 199 Qe3 Qik
theorem Z3k (x0 x1:Int):Vk [I x0,I x1]=
 bif decide (x1=0)then
 none
 else
 bif decide (x1=0)then
 none
 else
 bif decide (x0.tmod x1<0)then
 some [I (wrap .i64 (wrap .i64 (x0.tdiv x1)-1))]
 else
 some [I (wrap .i64 (x0.tdiv x1))]:=by kernel_rfl
def JU:=Vk
theorem Zu6:Ai PG (C_pulse_Sum_0):=Ao rfl trivial
theorem Zms:Al PG (199,Ad Qe3 Qik JU):=rw1 (C:=C_pulse_Sum_0) Zu6
def Zpv (M:Fn):Nat×Spec:=(180,Ad Qe3 Qik M)
def VX (Lg:Fn):Cfg:=cf [Z4a Lg]
def Qe5 (Lg:Fn):Fn:=Am PG (VX Lg) 64 180 Qe3 Qik
theorem Z02 (Lg:Fn) (x0 x1:Int):Qe5 Lg [I x0,I x1]=
 bif x1== -1 then
 (Lg [I x0,I 1048576]).bind λo2=>
 some [I (wrap .i64 (gA o2 0*1048576))]
 else
 (Lg [I (wrap .i64 (0-x0)),I 1048576]).bind λo3=>
 some [I (wrap .i64 (wrap .i64 (0-gA o3 0)*1048576))]:=by kernel_rfl
def KT:=Qe5 JU
theorem Ze9:Ai PG (VX JU):=Ao rfl ⟨Zms,trivial⟩
theorem Ztv:Al PG (180,Ad Qe3 Qik KT):=rw1 (C:=(VX JU)) Ze9
def Qjp:Sk:=⟨[tf [CS.ptr 20000 0],TS.v true (cc 7)],[(20000,119,cS)],[]⟩
def Zs:Sk:=⟨[tf [CS.bool]],[(20000,119,cS)],[]⟩
def Zg5 (M:Fn):Nat×Spec:=(160,Ad Qjp Zs M)
def Qg9 (Bl NR:Fn):Cfg:=cr [Na Bl,Zpv NR] [110] [110]
def X0 (Bl NR:Fn):Fn:=Am PG (Qg9 Bl NR) 64 160 Qjp Zs
theorem Zse (Bl NR:Fn) (x0 x1 x2 x3 x4 x5 x6:Int) (K:Kf) (c:Cv):X0 Bl NR (I x0::I x1::I x2::I x3::I x4::I x5::I x6::Ab K c)=
 (NR [I c.before,I c.s0]).bind λo3=>
 bif decide (0<=x4)&&decide (x4<((K.aA.map Ah).length:Int))then
 bif gA (nth [] (K.aA.map Ah) x4.toNat) 0 !=6 then
 bif c.s1==0 then
 some (B false::Ab K c)
 else
 bif decide (wrap .i64 (wrap .i64 (c.s3-gA o3 0)*c.s0)<0)then
 some (B false::Ab K c)
 else
 (Bl (Ab K c)).bind λo4=>
 some (B true::Ab K {c with y0:=x4,y1:=gA o4 0,y2:=c.s3,e0:=1,e1:=c.m0,e2:=gA o3 0,e3:=0})
 else
 (Bl (Ab K c)).bind λo5=>
 some (B true::Ab K {c with y0:=x4,y1:=gA o5 0,y2:=c.s3,e0:=1,e1:=c.m0,e2:=gA o3 0,e3:=0})
 else
 none:=by kernel_rfl
def PX:=X0 C5 KT
theorem Zbz:Ai PG (Qg9 C5 KT):=Hf (rs:=[110]) rfl ⟨Nc,Ztv,trivial⟩ rfl (ER (Ci rfl GA))
theorem Z48:Al PG (160,Ad Qjp Zs PX):=rw1 (C:=(Qg9 C5 KT)) Zbz
def Qgo:Sk:=⟨[TS.tup [(true,cc 7),(false,[CS.bool])]],[],[]⟩
def UH (M:Fn):Nat×Spec:=(102,Ev Qpm Qgo M)
def Rc (Dx Bl:Fn):Cfg:=cr [Qdk Dx,Na Bl] [110] [110]
def WD (Dx Bl:Fn):Fn:=L3 PG (Rc Dx Bl) 64 102 Qpm Qgo
theorem Zxo (Dx Bl:Fn) (K:Kf) (c:Cv):WD Dx Bl (Ab K c)=
 (Bl (Ab K c)).bind λo2=>
 (Dx (Bj K.p++[jA o2 0])).bind λo3=>
 bif decide (gA o3 0<0)then
 some [I 0,I 0,I 0,I 0,I 0,I 0,I 0,B false]
 else
 bif decide (0<=gA o3 0)&&decide (gA o3 0<((K.p.aF.map Au).length:Int))then
 some (AN Ag (nth [] (K.p.aF.map Au) (gA o3 0).toNat)++[B true])
 else
 none:=by kernel_rfl
def EP:=WD EK C5
theorem Zvm:Ai PG (Rc EK C5):=Hf (rs:=[110]) rfl ⟨Qpv,Nc,trivial⟩ rfl (Ci rfl (ER GA))
theorem Zh7 (vars : List AC) (R : Type) (K : TV -> Mem -> Option R) : ET PG (Rc EK C5) 64 102 [TV.v false [AC.ptr 20000 0]] ⟨[(20000, (⟨119, (cR 0 vars)⟩ : Box))], []⟩ K = ET PG (Rc EK C5) 64 102 [TV.v false [AC.ptr 20000 0]] ⟨[(20000, (⟨119, (cR 0 vars)⟩ : Box))], []⟩ (λv _ => K v ⟨[(20000, (⟨119, (cR 0 vars)⟩ : Box))], []⟩) := Eq.trans (b := ((C5 (cR 0 vars)).bind λo2 =>
 (EK [jA vars 37,jA vars 38,jA vars 39, .view Ag (wA vars 40), .view kPt (wA vars 41),jA o2 0]).bind λo3=>
 bif decide (gA o3 0<0)then
 K (TV.tup [(true,[I 0,I 0,I 0,I 0,I 0,I 0,I 0]),(false,[B false])]) ⟨[(20000,(⟨119,(cR 0 vars)⟩:Box))],[]⟩
 else
 bif decide (0<=gA o3 0)&&decide (gA o3 0<(↑(wA vars 40).length:Int))then
 K (TV.tup [(true,[I (Af (nth .dead (nth [] (wA vars 40) (gA o3 0).toNat) 0)),I (Af (nth .dead (nth [] (wA vars 40) (gA o3 0).toNat) 1)),I (Af (nth .dead (nth [] (wA vars 40) (gA o3 0).toNat) 2)),I (Af (nth .dead (nth [] (wA vars 40) (gA o3 0).toNat) 3)),I (Af (nth .dead (nth [] (wA vars 40) (gA o3 0).toNat) 4)),I (Af (nth .dead (nth [] (wA vars 40) (gA o3 0).toNat) 5)),I (Af (nth .dead (nth [] (wA vars 40) (gA o3 0).toNat) 6))]),(false,[B true])]) ⟨[(20000,(⟨119,(cR 0 vars)⟩:Box))],[]⟩
 else
 none)) (by kernel_rfl) (Eq.symm (by kernel_rfl))
theorem R_:Al PG (102,Ev Qpm Qgo EP):=QS (C:=(Rc EK C5)) (L:=64) (by kernel_rfl) (FnOK.bare rfl rfl rfl) Zvm eqOk GH (by kernel_rfl) (by kernel_rfl) (λvars R K=>Zh7 vars R K)
def Z3x (M:Fn):Nat×Spec:=(109,Ad Qhl Qj5 M)
def Qql (It IK Dd Jw Dq Cs:Fn):Cfg:=cr [Zek It,Zmb IK,Qmu Dd,Zg5 Jw,Vi Dq,UH Cs] [162,161,108,160,159,102] [102]
def Y1 (It IK Dd Jw Dq Cs:Fn):Fn:=Am PG (Qql It IK Dd Jw Dq Cs) 64 109 Qhl Qj5
abbrev SB (c:Cv) (o15:List AC) (Jw:Fn) (K:Kf) (Dd IK:Fn) (x0:Int) (It:Fn):Option (List AC):=
 bif !c.y0==gA o15 4 then
 (Jw (jA o15 0::jA o15 1::jA o15 2::jA o15 3::jA o15 4::jA o15 5::jA o15 6::Ab K c)).bind λo18=>
 bif !bA o18 0 then
 bif gA o18 66==0 then
 (Dd (cR 1 o18)).bind λo19=>
 some (cR 0 o19)
 else
 some (cR 1 o18)
 else
 bif decide (0<=gA o15 4)&&decide (gA o15 4<(↑(wA o18 36).length:Int))then
 bif Af (nth .dead (nth [] (wA o18 36) (gA o15 4).toNat) 0)==6 then
 (IK (I x0::jA o15 0::jA o15 1::jA o15 2::jA o15 3::jA o15 4::jA o15 5::jA o15 6::cR 1 o18)).bind λo20=>
 some (cR 0 o20)
 else
 (It (I x0::jA o15 0::jA o15 1::jA o15 2::jA o15 3::jA o15 4::jA o15 5::jA o15 6::cR 1 o18)).bind λo21=>
 some (cR 0 o21)
 else
 none
 else
 bif decide (0<=gA o15 4)&&decide (gA o15 4<((K.aA.map Ah).length:Int))then
 bif gA (nth [] (K.aA.map Ah) (gA o15 4).toNat) 0==6 then
 (IK (I x0::jA o15 0::jA o15 1::jA o15 2::jA o15 3::jA o15 4::jA o15 5::jA o15 6::Ab K c)).bind λo22=>
 some (cR 0 o22)
 else
 (It (I x0::jA o15 0::jA o15 1::jA o15 2::jA o15 3::jA o15 4::jA o15 5::jA o15 6::Ab K c)).bind λo23=>
 some (cR 0 o23)
 else
 none
theorem Zfa (It IK Dd Jw Dq Cs:Fn) (x0:Int) (K:Kf) (c:Cv):Y1 It IK Dd Jw Dq Cs (I x0::Ab K c)=
 (Cs (Ab K c)).bind λo15=>
 bif gA o15 6==0 then
 (Dq (I x0::Ab K c)).bind λo16=>
 some (cR 0 o16)
 else
 bif c.o2 then
 bif !c.y0==gA o15 4 then
 (Dq (I x0::Ab K c)).bind λo17=>
 some (cR 0 o17)
 else
 SB c o15 Jw K Dd IK x0 It
 else
 SB c o15 Jw K Dd IK x0 It:=by kernel_rfl
def QT:=Y1 P5 Qc GZ PX HZ EP
theorem Zn8:Ai PG (Qql P5 Qc GZ PX HZ EP):=Hf (rs:=[102]) rfl ⟨Z33,Zqb,Vf,Z48,ZN,R_,trivial⟩ rfl (Ci rfl (Ci rfl (Ci rfl (Ci rfl (Ci rfl (ER GA))))))
theorem Zwq:Al PG (109,Ad Qhl Qj5 QT):=rw1 (C:=(Qql P5 Qc GZ PX HZ EP)) Zn8
def Qoz (M:Fn):Nat×Spec:=(88,Ad Qik Qik M)
def Qjk (AH:Fn):Cfg:=cf [Ml AH]
def T4 (AH:Fn):Fn:=Am PG (Qjk AH) 64 88 Qik Qik
theorem Qxn (AH:Fn) (x0:Int):T4 AH [I x0]=
 (AH [I x0,I 1048576,I 60000,I 2]).bind λo1=>
 some [jA o1 0]:=by kernel_rfl
def E9:=T4 Bz
theorem Zhz:Ai PG (Qjk Bz):=Ao rfl ⟨Ls,trivial⟩
theorem Qk6:Al PG (88,Ad Qik Qik E9):=rw1 (C:=(Qjk Bz)) Zhz
def Q3a (M:Fn):Nat×Spec:=(177,Ad Qik Qik M)
def Zz:Fn:=Am PG C_pulse_Sum_0 64 177 Qik Qik
theorem Zrr (x0:Int):Zz [I x0]=
 bif x0==3 then
 some [I 1]
 else
 bif x0==4 then
 some [I (-1)]
 else
 some [I 0]:=by kernel_rfl
def G1:=Zz
theorem Zoj:Ai PG (C_pulse_Sum_0):=Ao rfl trivial
theorem Q4j:Al PG (177,Ad Qik Qik G1):=rw1 (C:=C_pulse_Sum_0) Zoj
def Qod:Sk:=⟨[TS.v true [ci,ci,ci,ci],tf [ci],tf [ci]],[],[]⟩
def Z5h (M:Fn):Nat×Spec:=(150,Ad Qod Xp M)
def Qp5 (Dm Gg:Fn):Cfg:=cf [Qoz Dm,Q3a Gg]
def Vl (Dm Gg:Fn):Fn:=Am PG (Qp5 Dm Gg) 64 150 Qod Xp
theorem Zfk (Dm Gg:Fn) (x0 x1 x2 x3 x4 x5:Int):Vl Dm Gg [I x0,I x1,I x2,I x3,I x4,I x5]=
 (Gg [I x4]).bind λo3=>
 bif gA o3 0==0 then
 bif x4==5 then
 bif x1==0 then
 some [B (x2==0)]
 else
 some [B false]
 else
 some [B false]
 else
 bif x0==gA o3 0 then
 (Dm [I x5]).bind λo4=>
 bif x1==gA o4 0 then
 (Dm [I x5]).bind λo5=>
 some [B (x2==gA o5 0)]
 else
 some [B false]
 else
 some [B false]:=by kernel_rfl
def Oj:=Vl E9 G1
theorem Z5q:Ai PG (Qp5 E9 G1):=Ao rfl ⟨Qk6,Q4j,trivial⟩
theorem Zt3:Al PG (150,Ad Qod Xp Oj):=rw1 (C:=(Qp5 E9 G1)) Z5q
def Qa9:Sk:=⟨[TS.v true [ci,ci,ci,ci]],[],[]⟩
def Zxf (M:Fn):Nat×Spec:=(149,Ad Qod Qa9 M)
def Qmw (Dm Gg:Fn):Cfg:=cf [Qoz Dm,Q3a Gg]
def Qmv (Dm Gg:Fn):Fn:=Am PG (Qmw Dm Gg) 64 149 Qod Qa9
theorem Zl6 (Dm Gg:Fn) (x0 x1 x2 x3 x4 x5:Int):Qmv Dm Gg [I x0,I x1,I x2,I x3,I x4,I x5]=
 (Gg [I x4]).bind λo3=>
 bif x4==5 then
 some [I x0,I x1,I 0,I x3]
 else
 bif gA o3 0==0 then
 some [I x0,I x1,I x2,I x3]
 else
 bif x1==0 then
 (Dm [I x5]).bind λo4=>
 some [jA o3 0,I x1,jA o4 0,I x3]
 else
 bif x0==gA o3 0 then
 (Dm [I x5]).bind λo5=>
 some [jA o3 0,I x1,jA o5 0,I x3]
 else
 some [I x0,I x1,I 0,I x3]:=by kernel_rfl
def Mh:=Qmv E9 G1
theorem Zyx:Ai PG (Qmw E9 G1):=Ao rfl ⟨Qk6,Q4j,trivial⟩
theorem Zhn:Al PG (149,Ad Qod Qa9 Mh):=rw1 (C:=(Qmw E9 G1)) Zyx
def Qfq:Sk:=⟨[tf [ci]],[(20000,119,cS)],[]⟩
def Zbg (M:Fn):Nat×Spec:=(148,Ad Qpm Qfq M)
def Xl:Fn:=Am PG C_pulse_Sum_0 64 148 Qpm Qfq
theorem Zom (K:Kf) (c:Cv):Xl (Ab K c)=
 some (I 3::Ab K {c with next:=wrap .i64 (c.idx+1),on:=false,idx:=0,aN:=false,cnt:=0}):=by kernel_rfl
def Nz:=Xl
theorem Zp4:Ai PG (C_pulse_Sum_0):=Ao rfl trivial
theorem Zc3:Al PG (148,Ad Qpm Qfq Nz):=rw1 (C:=C_pulse_Sum_0) Zp4
def Qsu (M:Fn):Nat×Spec:=(103,Ad Qpm Qfq M)
def Qjl (NI Ok H8:Fn):Cfg:=cp [Z5h NI,Zxf Ok,Zbg H8] [148]
def W6 (NI Ok H8:Fn):Fn:=Am PG (Qjl NI Ok H8) 64 103 Qpm Qfq
theorem Zrp (NI Ok H8:Fn) (K:Kf) (c:Cv):W6 NI Ok H8 (Ab K c)=
 bif c.aN then
 bif decide (wrap .i64 (c.cnt+1)>1)then
 bif c.aJ then
 (H8 (Ab K {c with cnt:=wrap .i64 (c.cnt+1)})).bind λo7=>
 some (jA o7 0::cR 1 o7)
 else
 some (I 2::Ab K {c with cnt:=wrap .i64 (c.cnt+1)})
 else
 some (I 2::Ab K {c with cnt:=wrap .i64 (c.cnt+1)})
 else
 bif decide (0<=c.idx)&&decide (c.idx<((K.p.aD.map At).length:Int))then
 bif gA (nth [] (K.p.aD.map At) c.idx.toNat) 1 !=3 then
 (H8 (Ab K {c with cnt:=wrap .i64 (c.cnt+1)})).bind λo8=>
 some (jA o8 0::cR 1 o8)
 else
 bif decide (0<=gA (nth [] (K.p.aD.map At) c.idx.toNat) 2)&&decide (gA (nth [] (K.p.aD.map At) c.idx.toNat) 2<((K.aA.map Ah).length:Int))then
 bif gA (nth [] (K.aA.map Ah) (gA (nth [] (K.p.aD.map At) c.idx.toNat) 2).toNat) 0==7 then
 bif decide (wrap .i64 (c.cnt+1)<gA (nth [] (K.aA.map Ah) (gA (nth [] (K.p.aD.map At) c.idx.toNat) 2).toNat) 19)then
 some (I 3::Ab K {c with cnt:=wrap .i64 (c.cnt+1)})
 else
 (H8 (Ab K {c with cnt:=wrap .i64 (c.cnt+1)})).bind λo9=>
 some (jA o9 0::cR 1 o9)
 else
 bif gA (nth [] (K.aA.map Ah) (gA (nth [] (K.p.aD.map At) c.idx.toNat) 2).toNat) 0==8 then
 (Ok [I c.s0,I c.s1,I c.s2,I c.s3,jA (nth [] (K.aA.map Ah) (gA (nth [] (K.p.aD.map At) c.idx.toNat) 2).toNat) 19,jA (nth [] (K.aA.map Ah) (gA (nth [] (K.p.aD.map At) c.idx.toNat) 2).toNat) 20]).bind λo10=>
 (NI [jA o10 0,jA o10 1,jA o10 2,jA o10 3,jA (nth [] (K.aA.map Ah) (gA (nth [] (K.p.aD.map At) c.idx.toNat) 2).toNat) 19,jA (nth [] (K.aA.map Ah) (gA (nth [] (K.p.aD.map At) c.idx.toNat) 2).toNat) 20]).bind λo11=>
 bif !bA o11 0 then
 some (I 3::Ab K {c with s0:=gA o10 0,s1:=gA o10 1,s2:=gA o10 2,s3:=gA o10 3,cnt:=wrap .i64 (c.cnt+1)})
 else
 (H8 (Ab K {c with s0:=gA o10 0,s1:=gA o10 1,s2:=gA o10 2,s3:=gA o10 3,cnt:=wrap .i64 (c.cnt+1)})).bind λo12=>
 some (jA o12 0::cR 1 o12)
 else
 bif gA (nth [] (K.aA.map Ah) (gA (nth [] (K.p.aD.map At) c.idx.toNat) 2).toNat) 0==14 then
 some (I 7::Ab K {c with cnt:=wrap .i64 (c.cnt+1),aI:=7})
 else
 (H8 (Ab K {c with cnt:=wrap .i64 (c.cnt+1)})).bind λo13=>
 some (jA o13 0::cR 1 o13)
 else
 none
 else
 none:=by kernel_rfl
def KE:=W6 Oj Mh Nz
theorem Z5u:Ai PG (Qjl Oj Mh Nz):=Ao rfl ⟨Zt3,Zhn,Zc3,trivial⟩
theorem Qq4:Al PG (103,Ad Qpm Qfq KE):=rw1 (C:=(Qjl Oj Mh Nz)) Z5u
def Zle (M:Fn):Nat×Spec:=(107,Ad Qhl Qfq M)
def Qjf (El:Fn):Cfg:=cp [Qsu El] [103]
def Qgm (El:Fn):Fn:=Am PG (Qjf El) 64 107 Qhl Qfq
theorem Zps (El:Fn) (x0:Int) (K:Kf) (c:Cv):Qgm El (I x0::Ab K c)=
 bif decide (0<=x0)&&decide (x0<((K.p.aD.map At).length:Int))then
 bif gA (nth [] (K.p.aD.map At) x0.toNat) 1==1 then
 (El (Ab K {c with on:=true,idx:=x0,aN:=c.o3,cnt:=0})).bind λo7=>
 some (jA o7 0::cR 1 o7)
 else
 bif gA (nth [] (K.p.aD.map At) x0.toNat) 1==2 then
 (El (Ab K {c with on:=true,idx:=x0,aN:=c.o3,cnt:=0})).bind λo8=>
 some (jA o8 0::cR 1 o8)
 else
 bif gA (nth [] (K.p.aD.map At) x0.toNat) 1==6 then
 (El (Ab K {c with on:=true,idx:=x0,aN:=c.o3,cnt:=0})).bind λo9=>
 some (jA o9 0::cR 1 o9)
 else
 bif gA (nth [] (K.p.aD.map At) x0.toNat) 1==4 then
 (El (Ab K {c with on:=true,idx:=x0,aN:=true,cnt:=0})).bind λo10=>
 some (jA o10 0::cR 1 o10)
 else
 bif gA (nth [] (K.p.aD.map At) x0.toNat) 1==3 then
 bif decide (0<=gA (nth [] (K.p.aD.map At) x0.toNat) 2)&&decide (gA (nth [] (K.p.aD.map At) x0.toNat) 2<((K.aA.map Ah).length:Int))then
 bif gA (nth [] (K.aA.map Ah) (gA (nth [] (K.p.aD.map At) x0.toNat) 2).toNat) 0==11 then
 (El (Ab K {c with on:=true,idx:=x0,aN:=true,cnt:=0})).bind λo11=>
 some (jA o11 0::cR 1 o11)
 else
 (El (Ab K {c with on:=true,idx:=x0,aN:=gA (nth [] (K.aA.map Ah) (gA (nth [] (K.p.aD.map At) x0.toNat) 2).toNat) 0==12,cnt:=0})).bind λo12=>
 some (jA o12 0::cR 1 o12)
 else
 none
 else
 (El (Ab K {c with on:=true,idx:=x0,aN:=false,cnt:=0})).bind λo13=>
 some (jA o13 0::cR 1 o13)
 else
 none:=by kernel_rfl
def QP:=Qgm KE
theorem Zqp:Ai PG (Qjf KE):=Ao rfl ⟨Qq4,trivial⟩
theorem Zk9:Al PG (107,Ad Qhl Qfq QP):=rw1 (C:=(Qjf KE)) Zqp
def Qiz:Sk:=⟨[tf [CS.sl kPt],tf [ci],TS.v true [ci,ci,CS.bool,CS.bool,CS.bool],tf [ci],tf [ci]],[],[]⟩
def Zsj (M:Fn):Nat×Spec:=(158,Ad Qiz Vn M)
def Qpa (CW:Fn):Cfg:=cf [Q2g CW]
def Qya:Sk:=⟨[tf [CS.sl kPt],td,td,tf [ci],tf [ci],td,td,tf [CS.ptr 7 0],td,td,td,td,tf [ci]]++dd 32,[(7,92,[ci,ci,CS.bool,CS.bool,CS.bool])],[]⟩
def Qtz:List (Ex×Sk):=[(Ex.ret,⟨dd 10++[tf [ci],tf [ci]]++dd 33,[],[]⟩),(Ex.exit 0,⟨[td,td,td,tf [ci]]++dd 41,[],[]⟩)]
def Sy (CW:Fn):Lp:=AS PG (Qpa CW) 64 2 (AV PG 158 2) Qya Qtz
def Qtk (CW:Fn) (N2:Lp):Cfg:=(Qpa CW).loop 2 Qya Qtz N2
def Vg (CW:Fn) (N2:Lp):Fn:=Am PG (Qtk CW N2) 64 158 Qiz Vn
theorem Zcp (CW:Fn) (v0:Rw) (v1 v2 v3 v4 v5:Int) (v6 v7 v8:Bool):Sy CW [.view kPt v0,I v1,I v2,I v3,I v4,I v5,B v6,B v7,B v8]=
 bif decide (v3<(v0.length:Int))then
 bif decide (0<=v3)&&decide (v3<(v0.length:Int))then
 (CW [jA (nth [] v0 v3.toNat) 0,jA (nth [] v0 v3.toNat) 1,jA (nth [] v0 v3.toNat) 2,I v4,I v5,B v6,B v7,B v8]).bind λo2=>
 bif bA o2 0 then
 bif decide (v2<=gA (nth [] v0 v3.toNat) 0)then
 bif decide (gA (nth [] v0 v3.toNat) 0<=v1)then
 some (1,[jA (nth [] v0 v3.toNat) 0,I v3])
 else
 some (0,[.view kPt v0,I v1,I v2,I (wrap .i64 (v3+1)),I v4,I v5,B v6,B v7,B v8])
 else
 some (0,[.view kPt v0,I v1,I v2,I (wrap .i64 (v3+1)),I v4,I v5,B v6,B v7,B v8])
 else
 some (0,[.view kPt v0,I v1,I v2,I (wrap .i64 (v3+1)),I v4,I v5,B v6,B v7,B v8])
 else
 none
 else
 some (2,[I v1]):=by kernel_rfl
theorem Zgr (CW:Fn) (N2:Lp) (x0:Rw) (x1 x2 x3:Int) (x4 x5 x6:Bool) (x7 x8:Int):Vg CW N2 [.view kPt x0,I x1,I x2,I x3,B x4,B x5,B x6,I x7,I x8]=
 (N2 [.view kPt x0,I x7,I x8,I (mx x1 0),I x2,I x3,B x4,B x5,B x6]).bind λo3=>
 bif o3.1.beq 1 then
 some [jA o3.2 0,jA o3.2 1]
 else
 bif o3.1.beq 2 then
 some [jA o3.2 0,I (-1)]
 else
 none:=by kernel_rfl
def Qwn:=An (Sy Ir)
def PU:=Vg Ir Qwn
theorem Qyw:Ai PG (Qpa Ir):=Ao rfl ⟨Q1z,trivial⟩
theorem Zrh:Al PG (158,Ad Qiz Vn PU):=rw2 (C:=(Qtk Ir Qwn)) (fl fb Qyw) Qyw
def Zgl (M:Fn):Nat×Spec:=(157,Ad Qmp Qik M)
def Zax:Sk:=⟨[td,tf [ci]]++dd 11++[tf [CS.sl Ap],tf [ci],tf [ci]]++dd 28,[],[]⟩
def Qsz:List (Ex×Sk):=[(Ex.ret,⟨[td,td,td,td,tf [ci]]++dd 39,[],[]⟩),(Ex.exit 0,⟨[td]++dd 43,[],[]⟩)]
def Qx:Lp:=AS PG C_pulse_Sum_0 64 4 (AV PG 157 4) Zax Qsz
def Qun (N4:Lp):Cfg:=C_pulse_Sum_0.loop 4 Zax Qsz N4
def Qsh (N4:Lp):Fn:=Am PG (Qun N4) 64 157 Qmp Qik
theorem Q2y (v0:Int) (v1:Rw) (v2 v3:Int):Qx [I v0, .view Ap v1,I v2,I v3]=
 bif decide (v3<v2)then
 bif decide (0<=v3)&&decide (v3<(v1.length:Int))then
 bif gA (nth [] v1 v3.toNat) 3 !=0 then
 bif decide (0<=wrap .i64 (wrap .i64 (v0-gA (nth [] v1 v3.toNat) 2)*gA (nth [] v1 v3.toNat) 3))then
 bif decide (wrap .i64 (wrap .i64 (v0-gA (nth [] v1 v3.toNat) 2)*gA (nth [] v1 v3.toNat) 3)<=gA (nth [] v1 v3.toNat) 1)then
 some (1,[I (wrap .i64 (gA (nth [] v1 v3.toNat) 0+wrap .i64 (wrap .i64 (v0-gA (nth [] v1 v3.toNat) 2)*gA (nth [] v1 v3.toNat) 3)))])
 else
 some (0,[I v0, .view Ap v1,I v2,I (wrap .i64 (v3+1))])
 else
 some (0,[I v0, .view Ap v1,I v2,I (wrap .i64 (v3+1))])
 else
 some (0,[I v0, .view Ap v1,I v2,I (wrap .i64 (v3+1))])
 else
 none
 else
 some (2,[]):=by kernel_rfl
theorem Zwt (N4:Lp) (x0:Rw) (x1 x2 x3 x4 x5 x6:Int):Qsh N4 [.view Ap x0,I x1,I x2,I x3,I x4,I x5,I x6]=
 bif x6==x2 then
 some [I 0]
 else
 (N4 [I x6, .view Ap x0,I (x0.length:Int),I 0]).bind λo1=>
 bif o1.1.beq 1 then
 some [jA o1.2 0]
 else
 bif o1.1.beq 2 then
 some [I (-1)]
 else
 none:=by kernel_rfl
def Ll:=An (Qx)
def Nm:=Qsh Ll
theorem Qsb:Ai PG (C_pulse_Sum_0):=Ao rfl trivial
theorem Zls:Al PG (157,Ad Qmp Qik Nm):=rw2 (C:=(Qun Ll)) (fl fb Qsb) Qsb
def Qcf:Sk:=⟨[TS.tup [(false,[ci]),(false,[ci])]],[(20000,119,cS)],[]⟩
def Zfy (M:Fn):Nat×Spec:=(106,Ad Qpm Qcf M)
def Qdy (IL Hz BC Ea:Fn):Cfg:=cf [Zsj IL,Zgl Hz,PD BC,Q0b Ea]
def Xq (IL Hz BC Ea:Fn):Fn:=Am PG (Qdy IL Hz BC Ea) 64 106 Qpm Qcf
abbrev SG (Ea:Fn) (K:Kf) (c:Cv) (BC Hz IL:Fn) (h1_0:AC):Option (List AC):=
 (Ea [I K.pa,I K.pb,I K.pc,I c.m0,I c.m1,I c.m2,I c.m3,I c.m4,I c.m5]).bind λo14=>
 (BC (AW K.t++[I (wrap .i64 ((wrap .i64 (wrap .i64 (gA o14 0+256)-1)).tdiv 256))])).bind λo15=>
 (Hz (AW K.t++[jA o15 0])).bind λo16=>
 bif gA o16 0 !=wrap .i64 ((wrap .i64 (wrap .i64 (gA o14 0+256)-1)).tdiv 256)then
 (IL [.view kPt (K.p.aD.map At),I c.next,I c.o0,I c.o1,B c.o2,B c.o3,B c.o4,h1_0,I (wrap .i64 (gA o15 0+1))]).bind λo17=>
 (Hz (AW K.t++[jA o17 0])).bind λo18=>
 some (jA o18 0::jA o17 1::Ab K c)
 else
 (IL [.view kPt (K.p.aD.map At),I c.next,I c.o0,I c.o1,B c.o2,B c.o3,B c.o4,h1_0,jA o15 0]).bind λo19=>
 (Hz (AW K.t++[jA o19 0])).bind λo20=>
 some (jA o20 0::jA o19 1::Ab K c)
theorem Z6q (IL Hz BC Ea:Fn) (K:Kf) (c:Cv):Xq IL Hz BC Ea (Ab K c)=
 bif K.closed then
 SG Ea K c BC Hz IL (I K.len)
 else
 SG Ea K c BC Hz IL (I K.set):=by kernel_rfl
def Q1:=Xq PU Nm DU F2
theorem Z65:Ai PG (Qdy PU Nm DU F2):=Ao rfl ⟨Zrh,Zls,Ra,Q0i,trivial⟩
theorem Zua:Al PG (106,Ad Qpm Qcf Q1):=rw1 (C:=(Qdy PU Nm DU F2)) Z65
def Zrn (M:Fn):Nat×Spec:=(70,Ad Qpm Qfq M)
def Qpf (Jy Dd Ny O5:Fn):Cfg:=cp [Z3x Jy,Qmu Dd,Zle Ny,Zfy O5] [109,108,107,106]
def X7 (Jy Dd Ny O5:Fn):Fn:=Am PG (Qpf Jy Dd Ny O5) 64 70 Qpm Qfq
theorem Zfj (Jy Dd Ny O5:Fn) (K:Kf) (c:Cv):X7 Jy Dd Ny O5 (Ab K c)=
 (O5 (Ab K c)).bind λo7=>
 bif bA o7 90 then
 bif gA o7 52==wrap .i64 (gA o7 0*256)then
 bif decide (gA o7 1>=0)then
 (Ny (jA o7 1::cR 2 o7)).bind λo8=>
 bif decide (0<=gA o7 1)&&decide (gA o7 1<(↑(wA o8 42).length:Int))then
 bif Af (nth .dead (nth [] (wA o8 42) (gA o7 1).toNat) 2)==gA o8 80 then
 bif decide (0<=Af (nth .dead (nth [] (wA o8 42) (gA o7 1).toNat) 2))&&decide (Af (nth .dead (nth [] (wA o8 42) (gA o7 1).toNat) 2)<(↑(wA o8 36).length:Int))then
 bif Af (nth .dead (nth [] (wA o8 36) (Af (nth .dead (nth [] (wA o8 42) (gA o7 1).toNat) 2)).toNat) 0)==5 then
 bif gA o8 83==1 then
 (Dd (cR 1 o8)).bind λo9=>
 some (jA o8 0::cR 0 o9)
 else
 some (jA o8 0::cR 1 o8)
 else
 some (jA o8 0::cR 1 o8)
 else
 none
 else
 some (jA o8 0::cR 1 o8)
 else
 none
 else
 bif bA o7 38 then
 some (I 7::Dp (cR 2 o7) [(78,I 7)])
 else
 some (I 1::cR 2 o7)
 else
 bif gA o7 63 !=0 then
 (Jy (jA o7 0::cR 2 o7)).bind λo10=>
 bif bA o7 90 then
 some (I 6::cR 0 o10)
 else
 some (I 1::cR 0 o10)
 else
 (Jy (jA o7 0::cR 2 o7)).bind λo11=>
 some (I 1::cR 0 o11)
 else
 bif gA o7 63 !=0 then
 (Jy (jA o7 0::cR 2 o7)).bind λo12=>
 bif bA o7 90 then
 some (I 6::cR 0 o12)
 else
 some (I 1::cR 0 o12)
 else
 (Jy (jA o7 0::cR 2 o7)).bind λo13=>
 some (I 1::cR 0 o13):=by kernel_rfl
def JT:=X7 QT GZ QP Q1
theorem Zkk:Ai PG (Qpf QT GZ QP Q1):=Ao rfl ⟨Zwq,Vf,Zk9,Zua,trivial⟩
theorem Zkl:Al PG (70,Ad Qpm Qfq JT):=rw1 (C:=(Qpf QT GZ QP Q1)) Zkk
def Qit (M:Fn):Nat×Spec:=(59,Ad Qik WH M)
def Qjv:Fn:=Am PG C_pulse_Sum_0 64 59 Qik WH
theorem Z0v (x0:Int):Qjv [I x0]=
 some [I (wrap .i64 (x0*256)),I 0,I 0,I (wrap .i64 (x0*256)),I (wrap .i64 (x0*256)),I (wrap .i64 (x0*256))]:=by kernel_rfl
def G7:=Qjv
theorem Ztj:Ai PG (C_pulse_Sum_0):=Ao rfl trivial
theorem Qpu:Al PG (59,Ad Qik WH G7):=rw1 (C:=C_pulse_Sum_0) Ztj
def XK:Sk:=⟨[TS.v true (cc 9++[CS.sl Aa]++cc 9++[CS.sl Aa]++cc 9++[CS.sl Aa]),TS.v true [ci,ci,ci],TS.v true [ci,ci,ci]],[],[]⟩
def Zzl (M:Fn):Nat×Spec:=(95,Ad XK Qik M)
def VN:Cfg:={cf []with unroll:=[3]}
def Qv6:Fn:=Am PG VN 64 95 XK Qik
theorem Zx0 (x0 x1 x2 x3 x4 x5 x6 x7 x8:Int) (x9:Rw) (x10 x11 x12 x13 x14 x15 x16 x17 x18:Int) (x19:Rw) (x20 x21 x22 x23 x24 x25 x26 x27 x28:Int) (x29:Rw) (x30 x31 x32 x33 x34 x35:Int):Qv6 [I x0,I x1,I x2,I x3,I x4,I x5,I x6,I x7,I x8, .view Aa x9,I x10,I x11,I x12,I x13,I x14,I x15,I x16,I x17,I x18, .view Aa x19,I x20,I x21,I x22,I x23,I x24,I x25,I x26,I x27,I x28, .view Aa x29,I x30,I x31,I x32,I x33,I x34,I x35]=
 bif x30 !=x33 then
 bif x31 !=x34 then
 bif x32 !=x35 then
 some [I (mx (mx (mx 0 x6) x16) x26)]
 else
 some [I (mx (mx 0 x6) x16)]
 else
 bif x32 !=x35 then
 some [I (mx (mx 0 x6) x26)]
 else
 some [I (mx 0 x6)]
 else
 bif x31 !=x34 then
 bif x32 !=x35 then
 some [I (mx (mx 0 x16) x26)]
 else
 some [I (mx 0 x16)]
 else
 bif x32 !=x35 then
 some [I (mx 0 x26)]
 else
 some [I 0]:=by kernel_rfl
def O3:=Qv6
theorem Zpg:Ai PG (VN):=Ao rfl trivial
theorem Zf8:Al PG (95,Ad XK Qik O3):=rw1 (C:=VN) Zpg
def XY:Sk:=⟨[TS.v true [ci,ci,ci],TS.v true [ci,ci,ci],TS.v true [ci,ci,ci],tf [ci]],[],[]⟩
def Z30 (M:Fn):Nat×Spec:=(94,Ad XY WK M)
def VO:Cfg:={cf []with unroll:=[2]}
def Qvp:Fn:=Am PG VO 64 94 XY WK
abbrev TY (x8 x5:Int) (h1_0:AC) (x9 x2:Int) (h2_0:AC):Option (List AC):=
 bif decide (x8>x5)then
 some [h1_0,h2_0,I x9]
 else
 bif decide (x8<x5)then
 some [h1_0,h2_0,I (wrap .i64 (0-x9))]
 else
 some [h1_0,h2_0,I x2]
abbrev S0 (x7 x4 x8 x5 x9 x2 x1:Int) (h1_0:AC):Option (List AC):=
 bif decide (x7>x4)then
 TY x8 x5 h1_0 x9 x2 (I x9)
 else
 bif decide (x7<x4)then
 TY x8 x5 h1_0 x9 x2 (I (wrap .i64 (0-x9)))
 else
 TY x8 x5 h1_0 x9 x2 (I x1)
theorem Zh5 (x0 x1 x2 x3 x4 x5 x6 x7 x8 x9:Int):Qvp [I x0,I x1,I x2,I x3,I x4,I x5,I x6,I x7,I x8,I x9]=
 bif decide (x6>x3)then
 S0 x7 x4 x8 x5 x9 x2 x1 (I x9)
 else
 bif decide (x6<x3)then
 S0 x7 x4 x8 x5 x9 x2 x1 (I (wrap .i64 (0-x9)))
 else
 S0 x7 x4 x8 x5 x9 x2 x1 (I x0):=by kernel_rfl
def OP:=Qvp
theorem Zjh:Ai PG (VO):=Ao rfl trivial
theorem Z2h:Al PG (94,Ad XY WK OP):=rw1 (C:=VO) Zjh
def Qn9:Sk:=⟨[TS.v true (cc 10),tf [CS.ptr 20000 0]],[(20000,62,[CS.own 20000 10]++cc 5)],[(20000,135,Ap)]⟩
def Qm3:Sk:=⟨[TS.tup []],[(20000,62,[CS.own 20000 10]++cc 5)],[(20000,135,Ap)]⟩
def Qsd (M:Fn):Nat×Spec:=(92,Ad Qn9 Qm3 M)
def Qjg:Fn:=Am PG C_pulse_Sum_0 64 92 Qn9 Qm3
theorem Q67 (x0:Rw) (x1 x2 x3 x4 x5 x6 x7 x8 x9 x10 x11 x12 x13 x14 x15:Int):Qjg [.view Ap x0,I x1,I x2,I x3,I x4,I x5,I x6,I x7,I x8,I x9,I x10,I x11,I x12,I x13,I x14,I x15]=
 bif decide ((x0.length:Int)>0)then
 bif x4 !=0 then
 bif decide (0<=wrap .i64 ((x0.length:Int)-1))&&decide (wrap .i64 ((x0.length:Int)-1)<(x0.length:Int))then
 bif gA (nth [] x0 (wrap .i64 ((x0.length:Int)-1)).toNat) 3==x4 then
 bif decide (0<=wrap .i64 ((x0.length:Int)-1))&&decide (wrap .i64 ((x0.length:Int)-1)<(x0.length:Int))then
 bif gA (nth [] x0 (wrap .i64 ((x0.length:Int)-1)).toNat) 7==x8&&(gA (nth [] x0 (wrap .i64 ((x0.length:Int)-1)).toNat) 8==x9&&(gA (nth [] x0 (wrap .i64 ((x0.length:Int)-1)).toNat) 9==x10&&true))then
 bif decide (0<=wrap .i64 ((x0.length:Int)-1))&&decide (wrap .i64 ((x0.length:Int)-1)<(x0.length:Int))then
 bif decide (0<=wrap .i64 ((x0.length:Int)-1))&&decide (wrap .i64 ((x0.length:Int)-1)<(x0.length:Int))then
 some [.view Ap (x0.set (wrap .i64 ((x0.length:Int)-1)).toNat [jA (nth [] x0 (wrap .i64 ((x0.length:Int)-1)).toNat) 0,I (wrap .i64 (gA (nth [] x0 (wrap .i64 ((x0.length:Int)-1)).toNat) 1+x2)),jA (nth [] x0 (wrap .i64 ((x0.length:Int)-1)).toNat) 2,jA (nth [] x0 (wrap .i64 ((x0.length:Int)-1)).toNat) 3,jA (nth [] x0 (wrap .i64 ((x0.length:Int)-1)).toNat) 4,jA (nth [] x0 (wrap .i64 ((x0.length:Int)-1)).toNat) 5,jA (nth [] x0 (wrap .i64 ((x0.length:Int)-1)).toNat) 6,jA (nth [] x0 (wrap .i64 ((x0.length:Int)-1)).toNat) 7,jA (nth [] x0 (wrap .i64 ((x0.length:Int)-1)).toNat) 8,jA (nth [] x0 (wrap .i64 ((x0.length:Int)-1)).toNat) 9]),I (wrap .i64 (x11+x2)),I x12,I x13,I x14,I x15]
 else
 none
 else
 none
 else
 bif((x0++[[I x11,I x2,I x3,I x4,I x5,I x6,I x7,I x8,I x9,I x10]]).length*80).ble 140737488355328 then
 some [.view Ap (x0++[[I x11,I x2,I x3,I x4,I x5,I x6,I x7,I x8,I x9,I x10]]),I (wrap .i64 (x11+x2)),I x12,I x13,I x14,I x15]
 else
 none
 else
 none
 else
 bif((x0++[[I x11,I x2,I x3,I x4,I x5,I x6,I x7,I x8,I x9,I x10]]).length*80).ble 140737488355328 then
 some [.view Ap (x0++[[I x11,I x2,I x3,I x4,I x5,I x6,I x7,I x8,I x9,I x10]]),I (wrap .i64 (x11+x2)),I x12,I x13,I x14,I x15]
 else
 none
 else
 none
 else
 bif((x0++[[I x11,I x2,I x3,I x4,I x5,I x6,I x7,I x8,I x9,I x10]]).length*80).ble 140737488355328 then
 some [.view Ap (x0++[[I x11,I x2,I x3,I x4,I x5,I x6,I x7,I x8,I x9,I x10]]),I (wrap .i64 (x11+x2)),I x12,I x13,I x14,I x15]
 else
 none
 else
 bif((x0++[[I x11,I x2,I x3,I x4,I x5,I x6,I x7,I x8,I x9,I x10]]).length*80).ble 140737488355328 then
 some [.view Ap (x0++[[I x11,I x2,I x3,I x4,I x5,I x6,I x7,I x8,I x9,I x10]]),I (wrap .i64 (x11+x2)),I x12,I x13,I x14,I x15]
 else
 none:=by kernel_rfl
def K7:=Qjg
theorem Z0s:Ai PG (C_pulse_Sum_0):=Ao rfl trivial
theorem Qs9:Al PG (92,Ad Qn9 Qm3 K7):=rw1 (C:=C_pulse_Sum_0) Z0s
def VC:Sk:=⟨[TS.v true [ci,ci,ci],TS.v true [ci,ci,ci],tf [ci],tf [ci],tf [CS.ptr 20000 0],tf [CS.ptr 20001 0],tf [CS.ptr 20002 0],tf [CS.ptr 20003 0]],[(20000,44,[ci,ci,ci]),(20001,3,[ci]),(20002,27,cc 9++[CS.sl Aa]++cc 9++[CS.sl Aa]++cc 9++[CS.sl Aa]),(20003,153,[CS.clo 92 [] [(20004,0)]]),(20004,62,[CS.own 20000 10]++cc 5)],[(20000,135,Ap)]⟩
def Qh2:Sk:=⟨[TS.tup []],[(20000,44,[ci,ci,ci]),(20001,3,[ci]),(20002,27,cc 9++[CS.sl Aa]++cc 9++[CS.sl Aa]++cc 9++[CS.sl Aa]),(20003,153,[CS.clo 92 [] [(20004,0)]]),(20004,62,[CS.own 20000 10]++cc 5)],[(20000,135,Ap)]⟩
def Qta (M:Fn):Nat×Spec:=(93,Ad VC Qh2 M)
def Qmr (O_ Pa FP:Fn):Cfg:=cp [Zzl O_,Z30 Pa,Qsd FP] [92]
def Qhh (O_ Pa FP:Fn):Fn:=Am PG (Qmr O_ Pa FP) 64 93 VC Qh2
theorem Zrv (O_ Pa FP:Fn) (x0:Rw) (x1 x2 x3 x4 x5 x6 x7 x8 x9 x10 x11 x12 x13 x14 x15 x16 x17 x18 x19 x20 x21:Int) (x22:Rw) (x23 x24 x25 x26 x27 x28 x29 x30 x31:Int) (x32:Rw) (x33 x34 x35 x36 x37 x38 x39 x40 x41:Int) (x42:Rw) (x43 x44 x45 x46 x47:Int):Qhh O_ Pa FP [.view Ap x0,I x1,I x2,I x3,I x4,I x5,I x6,I x7,I x8,I x9,I x10,I x11,I x12,I x13,I x14,I x15,I x16,I x17,I x18,I x19,I x20,I x21, .view Aa x22,I x23,I x24,I x25,I x26,I x27,I x28,I x29,I x30,I x31, .view Aa x32,I x33,I x34,I x35,I x36,I x37,I x38,I x39,I x40,I x41, .view Aa x42,I x43,I x44,I x45,I x46,I x47]=
 (Pa [I x9,I x10,I x11,I x1,I x2,I x3,I x4,I x5,I x6,I x12]).bind λo5=>
 (O_ [I x13,I x14,I x15,I x16,I x17,I x18,I x19,I x20,I x21, .view Aa x22,I x23,I x24,I x25,I x26,I x27,I x28,I x29,I x30,I x31, .view Aa x32,I x33,I x34,I x35,I x36,I x37,I x38,I x39,I x40,I x41, .view Aa x42,I x9,I x10,I x11,jA o5 0,jA o5 1,jA o5 2]).bind λo6=>
 bif decide (gA o6 0>0)then
 (FP [.view Ap x0,I 0,jA o6 0,I x7,I 0,I x9,I x10,I x11,jA o5 0,jA o5 1,jA o5 2,I x43,I x44,I x45,I x46,I x47]).bind λo7=>
 (FP [.view Ap (wA o7 0),I 0,I x8,I x7,I x12,jA o5 0,jA o5 1,jA o5 2,jA o5 0,jA o5 1,jA o5 2,jA o7 1,jA o7 2,jA o7 3,jA o7 4,jA o7 5]).bind λo8=>
 some [.view Ap (wA o8 0),jA o5 0,jA o5 1,jA o5 2,I x12,I x13,I x14,I x15,I x16,I x17,I x18,I x19,I x20,I x21, .view Aa x22,I x23,I x24,I x25,I x26,I x27,I x28,I x29,I x30,I x31, .view Aa x32,I x33,I x34,I x35,I x36,I x37,I x38,I x39,I x40,I x41, .view Aa x42,jA o8 1,jA o8 2,jA o8 3,jA o8 4,jA o8 5]
 else
 (FP [.view Ap x0,I 0,I x8,I x7,I x12,jA o5 0,jA o5 1,jA o5 2,jA o5 0,jA o5 1,jA o5 2,I x43,I x44,I x45,I x46,I x47]).bind λo9=>
 some [.view Ap (wA o9 0),jA o5 0,jA o5 1,jA o5 2,I x12,I x13,I x14,I x15,I x16,I x17,I x18,I x19,I x20,I x21, .view Aa x22,I x23,I x24,I x25,I x26,I x27,I x28,I x29,I x30,I x31, .view Aa x32,I x33,I x34,I x35,I x36,I x37,I x38,I x39,I x40,I x41, .view Aa x42,jA o9 1,jA o9 2,jA o9 3,jA o9 4,jA o9 5]:=by kernel_rfl
def FO:=Qhh O3 OP K7
theorem Zoo:Ai PG (Qmr O3 OP K7):=Ao rfl ⟨Zf8,Z2h,Qs9,trivial⟩
theorem Zaa:Al PG (93,Ad VC Qh2 FO):=rw1 (C:=(Qmr O3 OP K7)) Zoo
def Qhz:Sk:=⟨[TS.v true [ci,ci,ci,CS.sl Ag,CS.sl kPt],tf [ci],tf [ci],tf [ci],tf [CS.clo 93 [] [(20000,0),(20001,0),(20002,0),(20003,0)]]],[(20000,44,[ci,ci,ci]),(20001,3,[ci]),(20002,27,cc 9++[CS.sl Aa]++cc 9++[CS.sl Aa]++cc 9++[CS.sl Aa]),(20003,153,[CS.clo 92 [] [(20004,0)]]),(20004,62,[CS.own 20000 10]++cc 5)],[(20000,135,Ap)]⟩
def Zz9 (M:Fn):Nat×Spec:=(96,Ad Qhz Qh2 M)
def YC (BT:Fn):Cfg:={cp [Qta BT] [93]with prom:=λb=>bif Nat.beq b 4 then [(11,3)]else []}
def Qqx:Sk:=⟨[td,tf [ci],tf [ci],tf [ci],tf [CS.clo 93 [] [(20000,0),(20001,0),(20002,0),(20003,0)]],tf [CS.ptr 5 0],td,td,td,td,tf [ci],tf [CS.own 11 1]]++dd 9++[tf [CS.sl Ag],tf [ci],tf [ci]]++dd 78,[(5,58,[ci,ci,ci,CS.sl Ag,CS.sl kPt]),(20000,44,[ci,ci,ci]),(20001,3,[ci]),(20002,27,cc 9++[CS.sl Aa]++cc 9++[CS.sl Aa]++cc 9++[CS.sl Aa]),(20003,153,[CS.clo 92 [] [(20004,0)]]),(20004,62,[CS.own 20000 10]++cc 5)],[(11,3,Aa),(20000,135,Ap)]⟩
def Q4b:List (Ex×Sk):=[(Ex.exit 0,⟨[td,tf [ci],tf [ci],tf [ci],tf [CS.clo 93 [] [(20000,0),(20001,0),(20002,0),(20003,0)]],tf [CS.ptr 5 0],td,td,td,td,td,tf [CS.own 11 1]]++dd 90,[(5,58,[ci,ci,ci,CS.sl Ag,CS.sl kPt]),(20000,44,[ci,ci,ci]),(20001,3,[ci]),(20002,27,cc 9++[CS.sl Aa]++cc 9++[CS.sl Aa]++cc 9++[CS.sl Aa]),(20003,153,[CS.clo 92 [] [(20004,0)]]),(20004,62,[CS.own 20000 10]++cc 5)],[(11,3,Aa),(20000,135,Ap)]⟩)]
def T3 (BT:Fn):Lp:=AS PG (YC BT) 64 4 (AV PG 96 4) Qqx Q4b
def Q3z (BT:Fn) (N4:Lp):Cfg:=(YC BT).loop 4 Qqx Q4b N4
def Qzm:Sk:=⟨[td,tf [ci],tf [ci],tf [ci],tf [CS.clo 93 [] [(20000,0),(20001,0),(20002,0),(20003,0)]],tf [CS.ptr 5 0],td,td,td,td,td,tf [CS.own 11 1]]++dd 26++[tf [ci],tf [ci]]++dd 62,[(5,58,[ci,ci,ci,CS.sl Ag,CS.sl kPt]),(20000,44,[ci,ci,ci]),(20001,3,[ci]),(20002,27,cc 9++[CS.sl Aa]++cc 9++[CS.sl Aa]++cc 9++[CS.sl Aa]),(20003,153,[CS.clo 92 [] [(20004,0)]]),(20004,62,[CS.own 20000 10]++cc 5)],[(11,3,Aa),(20000,135,Ap)]⟩
def Qy8:List (Ex×Sk):=[(Ex.exit 2,⟨[td]++dd 101,[(20000,44,[ci,ci,ci]),(20001,3,[ci]),(20002,27,cc 9++[CS.sl Aa]++cc 9++[CS.sl Aa]++cc 9++[CS.sl Aa]),(20003,153,[CS.clo 92 [] [(20004,0)]]),(20004,62,[CS.own 20000 10]++cc 5)],[(20000,135,Ap)]⟩)]
def RP (BT:Fn) (N4:Lp):Lp:=AS PG (Q3z BT N4) 64 10 (AV PG 96 10) Qzm Qy8
def Qru (BT:Fn) (N4 N10:Lp):Cfg:=(Q3z BT N4).loop 10 Qzm Qy8 N10
def Qlx (BT:Fn) (N4 N10:Lp):Fn:=Am PG (Qru BT N4 N10) 64 96 Qhz Qh2
theorem Q85 (BT:Fn) (v0 v1:Rw) (v2 v3 v4 v5:Int) (v6:Rw) (v7 v8 v9 v10 v11:Int) (v12 v13:Rw) (v14 v15 v16 v17 v18 v19 v20 v21 v22 v23 v24 v25 v26:Int) (v27:Rw) (v28 v29 v30 v31 v32 v33 v34 v35 v36:Int) (v37:Rw) (v38 v39 v40 v41 v42 v43 v44 v45 v46:Int) (v47:Rw) (v48 v49 v50 v51 v52:Int):T3 BT [.view Aa v0, .view Ap v1,I v2,I v3,I v4,I v5, .view Ag v6,I v7,I v8,I v9,I v10,I v11, .view Ag v12, .view kPt v13,I v14,I v15,I v16,I v17,I v18,I v19,I v20,I v21,I v22,I v23,I v24,I v25,I v26, .view Aa v27,I v28,I v29,I v30,I v31,I v32,I v33,I v34,I v35,I v36, .view Aa v37,I v38,I v39,I v40,I v41,I v42,I v43,I v44,I v45,I v46, .view Aa v47,I v48,I v49,I v50,I v51,I v52]=
 bif decide (v8<v7)then
 bif decide (0<=v8)&&decide (v8<(v6.length:Int))then
 bif((v0++[[I v5]]).length*8).ble 140737488355328 then
 some (0,[.view Aa (v0++[[I v5]]), .view Ap v1,I v2,I v3,I v4,I (wrap .i64 (v5+gA (nth [] v6 v8.toNat) 3)), .view Ag v6,I v7,I (wrap .i64 (v8+1)),I v9,I v10,I v11, .view Ag v12, .view kPt v13,I v14,I v15,I v16,I v17,I v18,I v19,I v20,I v21,I v22,I v23,I v24,I v25,I v26, .view Aa v27,I v28,I v29,I v30,I v31,I v32,I v33,I v34,I v35,I v36, .view Aa v37,I v38,I v39,I v40,I v41,I v42,I v43,I v44,I v45,I v46, .view Aa v47,I v48,I v49,I v50,I v51,I v52])
 else
 none
 else
 none
 else
 some (1,[.view Aa v0, .view Ap v1,I v2,I v3,I v4,I v9,I v10,I v11, .view Ag v12, .view kPt v13,I v14,I v15,I v16,I v17,I v18,I v19,I v20,I v21,I v22,I v23,I v24,I v25,I v26, .view Aa v27,I v28,I v29,I v30,I v31,I v32,I v33,I v34,I v35,I v36, .view Aa v37,I v38,I v39,I v40,I v41,I v42,I v43,I v44,I v45,I v46, .view Aa v47,I v48,I v49,I v50,I v51,I v52]):=by kernel_rfl
abbrev Rm (h1_1:Bool) (BT:Fn) (v1:Rw) (h1_8 h1_9 h1_10 h1_12:AC) (v12 v13 v14 v15 v16 v17 v18 v19 v20 v21 v22 v23 v24:Int) (v25:Rw) (v26 v27 v28 v29 v30 v31 v32 v33 v34:Int) (v35:Rw) (v36 v37 v38 v39 v40 v41 v42 v43 v44:Int) (v45:Rw) (v46 v47 v48 v49 v50:Int) (v0:Rw) (v2 v3 v4 v5 v6 v7 v8 v9:Int) (v10 v11:Rw) (h2_0 h2_1 h2_2 h2_3:AC):Option (Nat×List AC):=
 bif h1_1 then
 (BT [.view Ap v1,h2_0,h2_1,h2_2,h1_8,h1_9,h1_10,h2_3,h1_12,I v12,I v13,I v14,I v15,I v16,I v17,I v18,I v19,I v20,I v21,I v22,I v23,I v24, .view Aa v25,I v26,I v27,I v28,I v29,I v30,I v31,I v32,I v33,I v34, .view Aa v35,I v36,I v37,I v38,I v39,I v40,I v41,I v42,I v43,I v44, .view Aa v45,I v46,I v47,I v48,I v49,I v50]).bind λo11=>
 some (0,[.view Aa v0, .view Ap (wA o11 0),I v2,I v3,I v4,I v5,I (wrap .i64 (v6+1)),I v7,I v8,I v9, .view Ag v10, .view kPt v11,jA o11 1,jA o11 2,jA o11 3,jA o11 4,jA o11 5,jA o11 6,jA o11 7,jA o11 8,jA o11 9,jA o11 10,jA o11 11,jA o11 12,jA o11 13, .view Aa (wA o11 14),jA o11 15,jA o11 16,jA o11 17,jA o11 18,jA o11 19,jA o11 20,jA o11 21,jA o11 22,jA o11 23, .view Aa (wA o11 24),jA o11 25,jA o11 26,jA o11 27,jA o11 28,jA o11 29,jA o11 30,jA o11 31,jA o11 32,jA o11 33, .view Aa (wA o11 34),jA o11 35,jA o11 36,jA o11 37,jA o11 38,jA o11 39])
 else
 none
abbrev WB (v0 v1:Rw) (v2 v3 v4 v5 v6 v7 v8 v9:Int) (v10 v11:Rw) (v12 v13 v14 v15 v16 v17 v18 v19 v20 v21 v22 v23 v24:Int) (v25:Rw) (v26 v27 v28 v29 v30 v31 v32 v33 v34:Int) (v35:Rw) (v36 v37 v38 v39 v40 v41 v42 v43 v44:Int) (v45:Rw) (v46 v47 v48 v49 v50:Int) (BT:Fn) (h1_0 h1_1 h1_2 h1_3 h1_4:Bool) (h1_5 h1_6 h1_7 h1_8 h1_9 h1_10 h1_11 h1_12 h1_13:AC):Option (Nat×List AC):=
 bif h1_0 then
 bif h1_0 then
 bif h1_1 then
 bif h1_2 then
 some (0,[.view Aa v0, .view Ap v1,I v2,I v3,I v4,I v5,I (wrap .i64 (v6+1)),I v7,I v8,I v9, .view Ag v10, .view kPt v11,I v12,I v13,I v14,I v15,I v16,I v17,I v18,I v19,I v20,I v21,I v22,I v23,I v24, .view Aa v25,I v26,I v27,I v28,I v29,I v30,I v31,I v32,I v33,I v34, .view Aa v35,I v36,I v37,I v38,I v39,I v40,I v41,I v42,I v43,I v44, .view Aa v45,I v46,I v47,I v48,I v49,I v50])
 else
 bif h1_3 then
 bif h1_4 then
 bif decide (v4<0)then
 Rm h1_1 BT v1 h1_8 h1_9 h1_10 h1_12 v12 v13 v14 v15 v16 v17 v18 v19 v20 v21 v22 v23 v24 v25 v26 v27 v28 v29 v30 v31 v32 v33 v34 v35 v36 v37 v38 v39 v40 v41 v42 v43 v44 v45 v46 v47 v48 v49 v50 v0 v2 v3 v4 v5 v6 v7 v8 v9 v10 v11 h1_5 h1_6 h1_7 h1_11
 else
 Rm h1_1 BT v1 h1_8 h1_9 h1_10 h1_12 v12 v13 v14 v15 v16 v17 v18 v19 v20 v21 v22 v23 v24 v25 v26 v27 v28 v29 v30 v31 v32 v33 v34 v35 v36 v37 v38 v39 v40 v41 v42 v43 v44 v45 v46 v47 v48 v49 v50 v0 v2 v3 v4 v5 v6 v7 v8 v9 v10 v11 h1_5 h1_6 h1_7 h1_13
 else
 none
 else
 bif decide (v4<0)then
 Rm h1_1 BT v1 h1_8 h1_9 h1_10 h1_12 v12 v13 v14 v15 v16 v17 v18 v19 v20 v21 v22 v23 v24 v25 v26 v27 v28 v29 v30 v31 v32 v33 v34 v35 v36 v37 v38 v39 v40 v41 v42 v43 v44 v45 v46 v47 v48 v49 v50 v0 v2 v3 v4 v5 v6 v7 v8 v9 v10 v11 (I v7) (I v8) (I v9) h1_11
 else
 Rm h1_1 BT v1 h1_8 h1_9 h1_10 h1_12 v12 v13 v14 v15 v16 v17 v18 v19 v20 v21 v22 v23 v24 v25 v26 v27 v28 v29 v30 v31 v32 v33 v34 v35 v36 v37 v38 v39 v40 v41 v42 v43 v44 v45 v46 v47 v48 v49 v50 v0 v2 v3 v4 v5 v6 v7 v8 v9 v10 v11 (I v7) (I v8) (I v9) h1_13
 else
 none
 else
 none
 else
 none
theorem Qti (BT:Fn) (N4:Lp) (v0 v1:Rw) (v2 v3 v4 v5 v6 v7 v8 v9:Int) (v10 v11:Rw) (v12 v13 v14 v15 v16 v17 v18 v19 v20 v21 v22 v23 v24:Int) (v25:Rw) (v26 v27 v28 v29 v30 v31 v32 v33 v34:Int) (v35:Rw) (v36 v37 v38 v39 v40 v41 v42 v43 v44:Int) (v45:Rw) (v46 v47 v48 v49 v50:Int):RP BT N4 [.view Aa v0, .view Ap v1,I v2,I v3,I v4,I v5,I v6,I v7,I v8,I v9, .view Ag v10, .view kPt v11,I v12,I v13,I v14,I v15,I v16,I v17,I v18,I v19,I v20,I v21,I v22,I v23,I v24, .view Aa v25,I v26,I v27,I v28,I v29,I v30,I v31,I v32,I v33,I v34, .view Aa v35,I v36,I v37,I v38,I v39,I v40,I v41,I v42,I v43,I v44, .view Aa v45,I v46,I v47,I v48,I v49,I v50]=
 bif decide (v6<v5)then
 bif decide (v4<0)then
 WB v0 v1 v2 v3 v4 v5 v6 v7 v8 v9 v10 v11 v12 v13 v14 v15 v16 v17 v18 v19 v20 v21 v22 v23 v24 v25 v26 v27 v28 v29 v30 v31 v32 v33 v34 v35 v36 v37 v38 v39 v40 v41 v42 v43 v44 v45 v46 v47 v48 v49 v50 BT (decide (0<=wrap .i64 (wrap .i64 ((v10.length:Int)-1)-v6))&&decide (wrap .i64 (wrap .i64 ((v10.length:Int)-1)-v6)<(v0.length:Int))) (decide (0<=wrap .i64 (wrap .i64 ((v10.length:Int)-1)-v6))&&decide (wrap .i64 (wrap .i64 ((v10.length:Int)-1)-v6)<(v10.length:Int))) (decide (mx (Af (nth .dead (nth [] v0 (wrap .i64 (wrap .i64 ((v10.length:Int)-1)-v6)).toNat) 0)) v2>=mn (wrap .i64 (Af (nth .dead (nth [] v0 (wrap .i64 (wrap .i64 ((v10.length:Int)-1)-v6)).toNat) 0)+Af (nth .dead (nth [] v10 (wrap .i64 (wrap .i64 ((v10.length:Int)-1)-v6)).toNat) 3))) v3)) (decide (wrap .i64 (wrap .i64 ((v10.length:Int)-1)-v6)>0)) (decide (0<=wrap .i64 (wrap .i64 (wrap .i64 ((v10.length:Int)-1)-v6)-1))&&decide (wrap .i64 (wrap .i64 (wrap .i64 ((v10.length:Int)-1)-v6)-1)<(v10.length:Int))) (I (Af (nth .dead (nth [] v10 (wrap .i64 (wrap .i64 (wrap .i64 ((v10.length:Int)-1)-v6)-1)).toNat) 0))) (I (Af (nth .dead (nth [] v10 (wrap .i64 (wrap .i64 (wrap .i64 ((v10.length:Int)-1)-v6)-1)).toNat) 1))) (I (Af (nth .dead (nth [] v10 (wrap .i64 (wrap .i64 (wrap .i64 ((v10.length:Int)-1)-v6)-1)).toNat) 2))) (I (Af (nth .dead (nth [] v10 (wrap .i64 (wrap .i64 ((v10.length:Int)-1)-v6)).toNat) 0))) (I (Af (nth .dead (nth [] v10 (wrap .i64 (wrap .i64 ((v10.length:Int)-1)-v6)).toNat) 1))) (I (Af (nth .dead (nth [] v10 (wrap .i64 (wrap .i64 ((v10.length:Int)-1)-v6)).toNat) 2))) (I (mn (wrap .i64 (Af (nth .dead (nth [] v0 (wrap .i64 (wrap .i64 ((v10.length:Int)-1)-v6)).toNat) 0)+Af (nth .dead (nth [] v10 (wrap .i64 (wrap .i64 ((v10.length:Int)-1)-v6)).toNat) 3))) v3)) (I (wrap .i64 (mn (wrap .i64 (Af (nth .dead (nth [] v0 (wrap .i64 (wrap .i64 ((v10.length:Int)-1)-v6)).toNat) 0)+Af (nth .dead (nth [] v10 (wrap .i64 (wrap .i64 ((v10.length:Int)-1)-v6)).toNat) 3))) v3-mx (Af (nth .dead (nth [] v0 (wrap .i64 (wrap .i64 ((v10.length:Int)-1)-v6)).toNat) 0)) v2))) (I (mx (Af (nth .dead (nth [] v0 (wrap .i64 (wrap .i64 ((v10.length:Int)-1)-v6)).toNat) 0)) v2))
 else
 WB v0 v1 v2 v3 v4 v5 v6 v7 v8 v9 v10 v11 v12 v13 v14 v15 v16 v17 v18 v19 v20 v21 v22 v23 v24 v25 v26 v27 v28 v29 v30 v31 v32 v33 v34 v35 v36 v37 v38 v39 v40 v41 v42 v43 v44 v45 v46 v47 v48 v49 v50 BT (decide (0<=v6)&&decide (v6<(v0.length:Int))) (decide (0<=v6)&&decide (v6<(v10.length:Int))) (decide (mx (gA (nth [] v0 v6.toNat) 0) v2>=mn (wrap .i64 (gA (nth [] v0 v6.toNat) 0+gA (nth [] v10 v6.toNat) 3)) v3)) (decide (v6>0)) (decide (0<=wrap .i64 (v6-1))&&decide (wrap .i64 (v6-1)<(v10.length:Int))) (jA (nth [] v10 (wrap .i64 (v6-1)).toNat) 0) (jA (nth [] v10 (wrap .i64 (v6-1)).toNat) 1) (jA (nth [] v10 (wrap .i64 (v6-1)).toNat) 2) (jA (nth [] v10 v6.toNat) 0) (jA (nth [] v10 v6.toNat) 1) (jA (nth [] v10 v6.toNat) 2) (I (mn (wrap .i64 (gA (nth [] v0 v6.toNat) 0+gA (nth [] v10 v6.toNat) 3)) v3)) (I (wrap .i64 (mn (wrap .i64 (gA (nth [] v0 v6.toNat) 0+gA (nth [] v10 v6.toNat) 3)) v3-mx (gA (nth [] v0 v6.toNat) 0) v2))) (I (mx (gA (nth [] v0 v6.toNat) 0) v2))
 else
 some (1,[.view Ap v1,I v12,I v13,I v14,I v15,I v16,I v17,I v18,I v19,I v20,I v21,I v22,I v23,I v24, .view Aa v25,I v26,I v27,I v28,I v29,I v30,I v31,I v32,I v33,I v34, .view Aa v35,I v36,I v37,I v38,I v39,I v40,I v41,I v42,I v43,I v44, .view Aa v45,I v46,I v47,I v48,I v49,I v50]):=by kernel_rfl
theorem Zsf (BT:Fn) (N4 N10:Lp) (x0:Rw) (x1 x2 x3:Int) (x4 x5:Rw) (x6 x7 x8 x9 x10 x11 x12 x13 x14 x15 x16 x17 x18 x19 x20 x21:Int) (x22:Rw) (x23 x24 x25 x26 x27 x28 x29 x30 x31:Int) (x32:Rw) (x33 x34 x35 x36 x37 x38 x39 x40 x41:Int) (x42:Rw) (x43 x44 x45 x46 x47:Int):Qlx BT N4 N10 [.view Ap x0,I x1,I x2,I x3, .view Ag x4, .view kPt x5,I x6,I x7,I x8,I x9,I x10,I x11,I x12,I x13,I x14,I x15,I x16,I x17,I x18,I x19,I x20,I x21, .view Aa x22,I x23,I x24,I x25,I x26,I x27,I x28,I x29,I x30,I x31, .view Aa x32,I x33,I x34,I x35,I x36,I x37,I x38,I x39,I x40,I x41, .view Aa x42,I x43,I x44,I x45,I x46,I x47]=
 (N4 [.view Aa [], .view Ap x0,I x6,I x7,I x8,I 0, .view Ag x4,I (x4.length:Int),I 0,I x1,I x2,I x3, .view Ag x4, .view kPt x5,I x9,I x10,I x11,I x12,I x13,I x14,I x15,I x16,I x17,I x18,I x19,I x20,I x21, .view Aa x22,I x23,I x24,I x25,I x26,I x27,I x28,I x29,I x30,I x31, .view Aa x32,I x33,I x34,I x35,I x36,I x37,I x38,I x39,I x40,I x41, .view Aa x42,I x43,I x44,I x45,I x46,I x47]).bind λo19=>
 bif o19.1.beq 1 then
 (N10 [.view Aa (wA o19.2 0), .view Ap (wA o19.2 1),jA o19.2 2,jA o19.2 3,jA o19.2 4,I (↑(wA o19.2 8).length:Int),I 0,jA o19.2 5,jA o19.2 6,jA o19.2 7, .view Ag (wA o19.2 8), .view kPt (wA o19.2 9),jA o19.2 10,jA o19.2 11,jA o19.2 12,jA o19.2 13,jA o19.2 14,jA o19.2 15,jA o19.2 16,jA o19.2 17,jA o19.2 18,jA o19.2 19,jA o19.2 20,jA o19.2 21,jA o19.2 22, .view Aa (wA o19.2 23),jA o19.2 24,jA o19.2 25,jA o19.2 26,jA o19.2 27,jA o19.2 28,jA o19.2 29,jA o19.2 30,jA o19.2 31,jA o19.2 32, .view Aa (wA o19.2 33),jA o19.2 34,jA o19.2 35,jA o19.2 36,jA o19.2 37,jA o19.2 38,jA o19.2 39,jA o19.2 40,jA o19.2 41,jA o19.2 42, .view Aa (wA o19.2 43),jA o19.2 44,jA o19.2 45,jA o19.2 46,jA o19.2 47,jA o19.2 48]).bind λo20=>
 bif o20.1.beq 1 then
 some [.view Ap (wA o20.2 0),jA o20.2 1,jA o20.2 2,jA o20.2 3,jA o20.2 4,jA o20.2 5,jA o20.2 6,jA o20.2 7,jA o20.2 8,jA o20.2 9,jA o20.2 10,jA o20.2 11,jA o20.2 12,jA o20.2 13, .view Aa (wA o20.2 14),jA o20.2 15,jA o20.2 16,jA o20.2 17,jA o20.2 18,jA o20.2 19,jA o20.2 20,jA o20.2 21,jA o20.2 22,jA o20.2 23, .view Aa (wA o20.2 24),jA o20.2 25,jA o20.2 26,jA o20.2 27,jA o20.2 28,jA o20.2 29,jA o20.2 30,jA o20.2 31,jA o20.2 32,jA o20.2 33, .view Aa (wA o20.2 34),jA o20.2 35,jA o20.2 36,jA o20.2 37,jA o20.2 38,jA o20.2 39]
 else
 none
 else
 none:=by kernel_rfl
def Oy:=An (T3 FO)
def Qmq:=An (RP FO Oy)
def Ru:=Qlx FO Oy Qmq
theorem Qb1:Ai PG (YC FO):=Ao rfl ⟨Zaa,trivial⟩
theorem Zdy:Al PG (96,Ad Qhz Qh2 Ru):=rw2 (C:=(Qru FO Oy Qmq)) (fl (fl fb Qb1) Qb1) Qb1
def Qjn:Sk:=⟨[TS.v true [ci,ci,ci,CS.sl Ag,CS.sl kPt]],[],[]⟩
def Q7p (M:Fn):Nat×Spec:=(91,Ad Qjn Qik M)
def Qrj:Sk:=⟨[td,td,td,tf [ci],td,td,td,tf [CS.sl Ag],tf [ci],tf [ci]]++dd 9,[],[]⟩
def Qtm:List (Ex×Sk):=[(Ex.exit 0,⟨[td,td,td,tf [ci]]++dd 15,[],[]⟩)]
def RV:Lp:=AS PG C_pulse_Sum_0 64 3 (AV PG 91 3) Qrj Qtm
def Qvj (N3:Lp):Cfg:=C_pulse_Sum_0.loop 3 Qrj Qtm N3
def Qsw (N3:Lp):Fn:=Am PG (Qvj N3) 64 91 Qjn Qik
theorem Q0q (v0:Int) (v1:Rw) (v2 v3:Int):RV [I v0, .view Ag v1,I v2,I v3]=
 bif decide (v3<v2)then
 bif decide (0<=v3)&&decide (v3<(v1.length:Int))then
 some (0,[I (wrap .i64 (v0+gA (nth [] v1 v3.toNat) 3)), .view Ag v1,I v2,I (wrap .i64 (v3+1))])
 else
 none
 else
 some (1,[I v0]):=by kernel_rfl
theorem Zew (N3:Lp) (x0 x1 x2:Int) (x3 x4:Rw):Qsw N3 [I x0,I x1,I x2, .view Ag x3, .view kPt x4]=
 (N3 [I 0, .view Ag x3,I (x3.length:Int),I 0]).bind λo1=>
 bif o1.1.beq 1 then
 some [jA o1.2 0]
 else
 none:=by kernel_rfl
def Uj:=An (RV)
def I5:=Qsw Uj
theorem Zad:Ai PG (C_pulse_Sum_0):=Ao rfl trivial
theorem Qwu:Al PG (91,Ad Qjn Qik I5):=rw2 (C:=(Qvj Uj)) (fl fb Zad) Zad
def Qis:Sk:=⟨[TS.v true [ci,ci,ci,CS.sl Ag,CS.sl kPt],TS.v true (cc 9++[CS.sl Aa]++cc 9++[CS.sl Aa]++cc 9++[CS.sl Aa]),TS.v true [ci,ci,ci],tf [ci],tf [ci]],[],[]⟩
def UV:Sk:=⟨[TS.v true ([CS.sl Ap]++cc 5)],[],[]⟩
def Q8d (M:Fn):Nat×Spec:=(58,Ad Qis UV M)
def Qcy (Lc BT FP Ck Gp:Fn):Cfg:=cp [Zz9 Lc,Qta BT,Qsd FP,UJ Ck,Q7p Gp] [96,93,92]
def Qiu (Lc BT FP Ck Gp:Fn):Fn:=Am PG (Qcy Lc BT FP Ck Gp) 64 58 Qis UV
theorem Zbq (Lc BT FP Ck Gp:Fn) (x0 x1 x2:Int) (x3 x4:Rw) (x5 x6 x7 x8 x9 x10 x11 x12 x13:Int) (x14:Rw) (x15 x16 x17 x18 x19 x20 x21 x22 x23:Int) (x24:Rw) (x25 x26 x27 x28 x29 x30 x31 x32 x33:Int) (x34:Rw) (x35 x36 x37 x38 x39:Int):Qiu Lc BT FP Ck Gp [I x0,I x1,I x2, .view Ag x3, .view kPt x4,I x5,I x6,I x7,I x8,I x9,I x10,I x11,I x12,I x13, .view Aa x14,I x15,I x16,I x17,I x18,I x19,I x20,I x21,I x22,I x23, .view Aa x24,I x25,I x26,I x27,I x28,I x29,I x30,I x31,I x32,I x33, .view Aa x34,I x35,I x36,I x37,I x38,I x39]=
 (Gp [I x0,I x1,I x2, .view Ag x3, .view kPt x4]).bind λo5=>
 (Ck [I x38,jA o5 0]).bind λo6=>
 (Ck [I x39,jA o5 0]).bind λo7=>
 bif decide (gA o6 0>gA o7 0)then
 (Lc [.view Ap [],I x0,I x1,I x2, .view Ag x3, .view kPt x4,I (mn (gA o6 0) (gA o7 0)),I (mx (gA o6 0) (gA o7 0)),I (-1),I x35,I x36,I x37,I (-1),I x5,I x6,I x7,I x8,I x9,I x10,I x11,I x12,I x13, .view Aa x14,I x15,I x16,I x17,I x18,I x19,I x20,I x21,I x22,I x23, .view Aa x24,I x25,I x26,I x27,I x28,I x29,I x30,I x31,I x32,I x33, .view Aa x34,I 0,jA o6 0,I x35,I x36,I x37]).bind λo8=>
 some [.view Ap (wA o8 0),jA o8 35,jA o8 36,jA o8 37,jA o8 38,jA o8 39]
 else
 (Lc [.view Ap [],I x0,I x1,I x2, .view Ag x3, .view kPt x4,I (mn (gA o6 0) (gA o7 0)),I (mx (gA o6 0) (gA o7 0)),I 1,I x35,I x36,I x37,I 1,I x5,I x6,I x7,I x8,I x9,I x10,I x11,I x12,I x13, .view Aa x14,I x15,I x16,I x17,I x18,I x19,I x20,I x21,I x22,I x23, .view Aa x24,I x25,I x26,I x27,I x28,I x29,I x30,I x31,I x32,I x33, .view Aa x34,I 0,jA o6 0,I x35,I x36,I x37]).bind λo9=>
 some [.view Ap (wA o9 0),jA o9 35,jA o9 36,jA o9 37,jA o9 38,jA o9 39]:=by kernel_rfl
def KV:=Qiu Ru FO K7 Fo I5
theorem Z1k:Ai PG (Qcy Ru FO K7 Fo I5):=Ao rfl ⟨Zdy,Zaa,Qs9,SN,Qwu,trivial⟩
theorem Qve:Al PG (58,Ad Qis UV KV):=rw1 (C:=(Qcy Ru FO K7 Fo I5)) Z1k
def Zx1 (M:Fn):Nat×Spec:=(156,Ad Qmp WK M)
def Q7m:Sk:=⟨[td,tf [ci],tf [CS.ptr 2 0],td,tf [CS.ptr 4 0]]++dd 8++[tf [CS.sl Ap],tf [ci],tf [ci]]++dd 29,[(2,62,[CS.sl Ap]++cc 5),(4,44,[ci,ci,ci])],[]⟩
def Q55:List (Ex×Sk):=[(Ex.ret,⟨[td,td,td,td,tf [CS.ptr 4 0]]++dd 40,[(4,44,[ci,ci,ci])],[]⟩),(Ex.exit 0,⟨[td,td,tf [CS.ptr 2 0],td,tf [CS.ptr 4 0]]++dd 40,[(2,62,[CS.sl Ap]++cc 5),(4,44,[ci,ci,ci])],[]⟩)]
def SF:Lp:=AS PG C_pulse_Sum_0 64 3 (AV PG 156 3) Q7m Q55
def Qr7 (N3:Lp):Cfg:=C_pulse_Sum_0.loop 3 Q7m Q55 N3
def WG (N3:Lp):Fn:=Am PG (Qr7 N3) 64 156 Qmp WK
theorem Zzx (v0:Int) (v1:Rw) (v2 v3:Int) (v4:Rw) (v5 v6 v7 v8 v9 v10 v11 v12:Int):SF [I v0, .view Ap v1,I v2,I v3, .view Ap v4,I v5,I v6,I v7,I v8,I v9,I v10,I v11,I v12]=
 bif decide (v3<v2)then
 bif decide (0<=v3)&&decide (v3<(v1.length:Int))then
 bif decide (v0>wrap .i64 (gA (nth [] v1 v3.toNat) 0+gA (nth [] v1 v3.toNat) 1))then
 some (0,[I v0, .view Ap v1,I v2,I (wrap .i64 (v3+1)), .view Ap v4,I v5,I v6,I v7,I v8,I v9,I v10,I v11,I v12])
 else
 bif gA (nth [] v1 v3.toNat) 3 !=0 then
 some (1,[jA (nth [] v1 v3.toNat) 7,jA (nth [] v1 v3.toNat) 8,jA (nth [] v1 v3.toNat) 9])
 else
 bif v0==wrap .i64 (gA (nth [] v1 v3.toNat) 0+gA (nth [] v1 v3.toNat) 1)then
 some (1,[jA (nth [] v1 v3.toNat) 7,jA (nth [] v1 v3.toNat) 8,jA (nth [] v1 v3.toNat) 9])
 else
 some (1,[jA (nth [] v1 v3.toNat) 4,jA (nth [] v1 v3.toNat) 5,jA (nth [] v1 v3.toNat) 6])
 else
 none
 else
 some (2,[.view Ap v4,I v5,I v6,I v7,I v8,I v9,I v10,I v11,I v12]):=by kernel_rfl
theorem Z44 (N3:Lp) (x0:Rw) (x1 x2 x3 x4 x5 x6:Int):WG N3 [.view Ap x0,I x1,I x2,I x3,I x4,I x5,I x6]=
 (N3 [I (mx 0 (mn x6 x1)), .view Ap x0,I (x0.length:Int),I 0, .view Ap x0,I x1,I x2,I x3,I x4,I x5,I 0,I 0,I 0]).bind λo1=>
 bif o1.1.beq 1 then
 some [jA o1.2 0,jA o1.2 1,jA o1.2 2]
 else
 bif o1.1.beq 2 then
 some [jA o1.2 3,jA o1.2 4,jA o1.2 5]
 else
 none:=by kernel_rfl
def Q6n:=An (SF)
def UC:=WG Q6n
theorem Qwr:Ai PG (C_pulse_Sum_0):=Ao rfl trivial
theorem Zv6:Al PG (156,Ad Qmp WK UC):=rw2 (C:=(Qr7 Q6n)) (fl fb Qwr) Qwr
def Zd8 (M:Fn):Nat×Spec:=(155,Ad Qmp Xp M)
def YI (DP Ck:Fn):Cfg:=cf [XC DP,UJ Ck]
def ZV (DP Ck:Fn):Fn:=Am PG (YI DP Ck) 64 155 Qmp Xp
theorem Zvk (DP Ck:Fn) (x0:Rw) (x1 x2 x3 x4 x5 x6:Int):ZV DP Ck [.view Ap x0,I x1,I x2,I x3,I x4,I x5,I x6]=
 (Ck [I x6,I x1]).bind λo2=>
 (DP [.view Ap x0,I x1,I x2,I x3,I x4,I x5,jA o2 0]).bind λo3=>
 bif decide (gA o3 0<0)then
 some [B false]
 else
 bif decide (0<=gA o3 0)&&decide (gA o3 0<(x0.length:Int))then
 bif gA (nth [] x0 (gA o3 0).toNat) 3==0 then
 bif decide (gA (nth [] x0 (gA o3 0).toNat) 0<gA o2 0)then
 some [B (decide (gA o2 0<wrap .i64 (gA (nth [] x0 (gA o3 0).toNat) 0+gA (nth [] x0 (gA o3 0).toNat) 1)))]
 else
 some [B false]
 else
 some [B false]
 else
 none:=by kernel_rfl
def Pu:=ZV Gv Fo
theorem Zqq:Ai PG (YI Gv Fo):=Ao rfl ⟨U_,SN,trivial⟩
theorem Zdj:Al PG (155,Ad Qmp Xp Pu):=rw1 (C:=(YI Gv Fo)) Zqq
def Qyv (M:Fn):Nat×Spec:=(64,Ad WH Xp M)
def Qny:Fn:=Am PG C_pulse_Sum_0 64 64 WH Xp
theorem Zv2 (x0 x1 x2 x3 x4 x5:Int):Qny [I x0,I x1,I x2,I x3,I x4,I x5]=
 bif x1==0 then
 bif x2==0 then
 bif x3==x0 then
 some [B (x4==x0)]
 else
 some [B false]
 else
 some [B false]
 else
 some [B false]:=by kernel_rfl
def Ht:=Qny
theorem Zhv:Ai PG (C_pulse_Sum_0):=Ao rfl trivial
theorem Qwt:Al PG (64,Ad WH Xp Ht):=rw1 (C:=C_pulse_Sum_0) Zhv
def Qih:Sk:=⟨[TS.v true [ci,ci,ci,CS.sl Ag,CS.sl kPt],TS.v true (cc 9++[CS.sl Aa]++cc 9++[CS.sl Aa]++cc 9++[CS.sl Aa]),TS.v true ([CS.sl Ap]++cc 5),TS.v true (cc 6),tf [ci]],[],[]⟩
def UY:Sk:=⟨[TS.tup [(true,[CS.sl Ap]++cc 5),(true,cc 6),(false,[CS.bool])]],[],[]⟩
def Qt9 (M:Fn):Nat×Spec:=(105,Ad Qih UY M)
def Qa7 (D6 FZ BC Om Mz BZ:Fn):Cfg:={cf [Qit D6,Q8d FZ,PD BC,Zx1 Om,Zd8 Mz,Qyv BZ]with ownBut:=[10]}
def Qlp (D6 FZ BC Om Mz BZ:Fn):Fn:=Am PG (Qa7 D6 FZ BC Om Mz BZ) 64 105 Qih UY
theorem Zgw (D6 FZ BC Om Mz BZ:Fn) (x41 x42 x43 x44 x45 x46 x47:Int) (p:Pth) (x:Ax3) (t:Trk):Qlp D6 FZ BC Om Mz BZ (pxt p x t [I x41,I x42,I x43,I x44,I x45,I x46,I x47])=
 (BZ [I x41,I x42,I x43,I x44,I x45,I x46]).bind λo6=>
 bif !bA o6 0 then
 some [.view Ap [],I 0,I 0,I 0,I 0,I 0,I 0,I 0,I 0,I 0,I 0,I 0,B false]
 else
 (Mz (AW t++[I (wrap .i64 (x41.tdiv 256))])).bind λo7=>
 bif bA o7 0 then
 some [.view Ap [],I 0,I 0,I 0,I 0,I 0,I 0,I 0,I 0,I 0,I 0,I 0,B false]
 else
 (Om (AW t++[I (wrap .i64 (x41.tdiv 256))])).bind λo8=>
 (BC (AW t++[I (wrap .i64 (x41.tdiv 256))])).bind λo9=>
 (FZ (Bj p++(AK x++[jA o8 0,jA o8 1,jA o8 2,jA o9 0,I x47]))).bind λo10=>
 (D6 [I 0]).bind λo11=>
 some [.view Ap (wA o10 0),jA o10 1,jA o10 2,jA o10 3,jA o10 4,jA o10 5,jA o11 0,jA o11 1,jA o11 2,jA o11 3,jA o11 4,jA o11 5,B true]:=by kernel_rfl
def J3:=Qlp G7 KV DU UC Pu Ht
theorem Zjt:Ai PG (Qa7 G7 KV DU UC Pu Ht):=Ao rfl ⟨Qpu,Qve,Ra,Zv6,Zdj,Qwt,trivial⟩
theorem Qxh:Al PG (105,Ad Qih UY J3):=rw1 (C:=(Qa7 G7 KV DU UC Pu Ht)) Zjt
def YV:Sk:=⟨[TS.tup [(false,[ci]),(false,[CS.bool])]],[(20000,119,cS)],[]⟩
def Zc2 (M:Fn):Nat×Spec:=(69,Ad Qpm YV M)
def Qld (Ed CB:Fn):Cfg:=cf [Qt9 Ed,Qbb CB]
def RG (Ed CB:Fn):Fn:=Am PG (Qld Ed CB) 64 69 Qpm YV
abbrev Q4 (Ed:Fn) (K:Kf) (c:Cv) (h1_0 h2_0:AC):Option (List AC):=
 (Ed (pxt K.p K.x K.t [I c.m0,I c.m1,I c.m2,I c.m3,I c.m4,I c.m5,h2_0])).bind λo10=>
 bif !bA o10 12 then
 some (h1_0::B true::Ab K c)
 else
 bif c.way==1 then
 some (h1_0::B true::Dp (Ab K c) [(44, .view Ap (wA o10 0)),(45,jA o10 1),(46,jA o10 2),(47,jA o10 3),(48,jA o10 4),(49,jA o10 5),(50,jA o10 6),(51,jA o10 7),(52,jA o10 8),(53,jA o10 9),(54,jA o10 10),(55,jA o10 11),(71,I 2),(89,B true)])
 else
 some (h1_0::B true::Dp (Ab K c) [(44, .view Ap (wA o10 0)),(45,jA o10 1),(46,jA o10 2),(47,jA o10 3),(48,jA o10 4),(49,jA o10 5),(50,jA o10 6),(51,jA o10 7),(52,jA o10 8),(53,jA o10 9),(54,jA o10 10),(55,jA o10 11),(58,B true),(71,I 0),(89,B true)])
abbrev Ur (c:Cv) (CB:Fn) (K:Kf) (Ed:Fn) (h1_0:AC):Option (List AC):=
 bif !c.aM then
 (CB (pxt K.p K.x K.t [I K.pa,I K.pb,I K.pc,I c.o0,I c.o1,B c.o2,B c.o3,B c.o4,I c.m0,I c.m1,I c.m2,I c.m3,I c.m4,I c.m5,I K.t.length])).bind λo8=>
 some (h1_0::B true::Ab K {c with m0:=gA o8 0,m1:=gA o8 1,m2:=gA o8 2,m3:=gA o8 3,m4:=gA o8 4,m5:=gA o8 5})
 else
 bif c.m0 !=wrap .i64 (K.t.length*256)then
 (CB (pxt K.p K.x K.t [I K.pa,I K.pb,I K.pc,I c.o0,I c.o1,B c.o2,B c.o3,B c.o4,I c.m0,I c.m1,I c.m2,I c.m3,I c.m4,I c.m5,I K.t.length])).bind λo9=>
 some (h1_0::B true::Ab K {c with m0:=gA o9 0,m1:=gA o9 1,m2:=gA o9 2,m3:=gA o9 3,m4:=gA o9 4,m5:=gA o9 5})
 else
 bif c.way==2 then
 Q4 Ed K c h1_0 (I K.len)
 else
 Q4 Ed K c h1_0 (I c.home)
theorem Q8l (Ed CB:Fn) (K:Kf) (c:Cv):RG Ed CB (Ab K c)=
 bif c.way==0 then
 some (I 0::B false::Ab K c)
 else
 bif c.way==2 then
 Ur c CB K Ed (I 5)
 else
 Ur c CB K Ed (I 4):=by kernel_rfl
def IV:=RG J3 FK
theorem Zht:Ai PG (Qld J3 FK):=Ao rfl ⟨Qxh,Qcc,trivial⟩
theorem Zbc:Al PG (69,Ad Qpm YV IV):=rw1 (C:=(Qld J3 FK)) Zht
def Zu9 (M:Fn):Nat×Spec:=(68,Ad Qpm YV M)
def Yn (El:Fn):Cfg:=cp [Qsu El] [103]
def T6 (El:Fn):Fn:=Am PG (Yn El) 64 68 Qpm YV
theorem Qui (El:Fn) (K:Kf) (c:Cv):T6 El (Ab K c)=
 bif !c.on then
 some (I 0::B false::Ab K c)
 else
 (El (Ab K c)).bind λo1=>
 some (jA o1 0::B true::cR 1 o1):=by kernel_rfl
def Kn:=T6 KE
theorem Zzj:Ai PG (Yn KE):=Ao rfl ⟨Qq4,trivial⟩
theorem Zrd:Al PG (68,Ad Qpm YV Kn):=rw1 (C:=(Yn KE)) Zzj
def Zto (M:Fn):Nat×Spec:=(67,Ad Qpm YV M)
def Qif:Fn:=Am PG C_pulse_Sum_0 64 67 Qpm YV
theorem Zow (K:Kf) (c:Cv):Qif (Ab K c)=
 bif !c.aH then
 some (I 0::B false::Ab K c)
 else
 bif !c.aM then
 some (I 0::B false::Ab K c)
 else
 some (I 8::B true::Ab K {c with aI:=8}):=by kernel_rfl
def Lr:=Qif
theorem Znq:Ai PG (C_pulse_Sum_0):=Ao rfl trivial
theorem Zuc:Al PG (67,Ad Qpm YV Lr):=rw1 (C:=C_pulse_Sum_0) Znq
def Zmo (M:Fn):Nat×Spec:=(66,Ad Qpm YV M)
def Qnq:Fn:=Am PG C_pulse_Sum_0 64 66 Qpm YV
theorem Zgb (K:Kf) (c:Cv):Qnq (Ab K c)=
 some (I c.aI::B (c.aI !=0)::Ab K c):=by kernel_rfl
def La:=Qnq
theorem Zfs:Ai PG (C_pulse_Sum_0):=Ao rfl trivial
theorem Z39:Al PG (66,Ad Qpm YV La):=rw1 (C:=C_pulse_Sum_0) Zfs
def Zo6 (M:Fn):Nat×Spec:=(65,Ad Qpm YV M)
def Qck (D6 AZ:Fn):Cfg:=cr [Qit D6,Qp AZ] [63] [63]
def Qj9 (D6 AZ:Fn):Fn:=Am PG (Qck D6 AZ) 64 65 Qpm YV
theorem Zgd (D6 AZ:Fn) (K:Kf) (c:Cv):Qj9 D6 AZ (Ab K c)=
 bif c.g0 !=2 then
 some (I 0::B false::Ab K c)
 else
 (AZ (Ab K c)).bind λo2=>
 (D6 [jA o2 0]).bind λo3=>
 some (I 6::B true::Ab K {c with m0:=gA o3 0,m1:=gA o3 1,m2:=gA o3 2,m3:=gA o3 3,m4:=gA o3 4,m5:=gA o3 5}):=by kernel_rfl
def Lv:=Qj9 G7 C0
theorem Z2m:Ai PG (Qck G7 C0):=Hf (rs:=[63]) rfl ⟨Qpu,QW,trivial⟩ rfl (Ci rfl (ER GA))
theorem Zlr:Al PG (65,Ad Qpm YV Lv):=rw1 (C:=(Qck G7 C0)) Z2m
def Qdx:Sk:=⟨[TS.v true [ci,ci,ci,ci],tf [ci]],[],[]⟩
def Z3n (M:Fn):Nat×Spec:=(62,Ad Qdx Qa9 M)
def Xf:Fn:=Am PG C_pulse_Sum_0 64 62 Qdx Qa9
theorem Z01 (x0 x1 x2 x3 x4:Int):Xf [I x0,I x1,I x2,I x3,I x4]=
 bif decide (x1<x2)then
 some [I x0,I (mn (wrap .i64 (x1+x4)) x2),I x2,I (wrap .i64 (x3+wrap .i64 (x0*mn (wrap .i64 (x1+x4)) x2)))]
 else
 some [I x0,I (mx (wrap .i64 (x1-x4)) x2),I x2,I (wrap .i64 (x3+wrap .i64 (x0*mx (wrap .i64 (x1-x4)) x2)))]:=by kernel_rfl
def JW:=Xf
theorem Zhj:Ai PG (C_pulse_Sum_0):=Ao rfl trivial
theorem Zx8:Al PG (62,Ad Qdx Qa9 JW):=rw1 (C:=C_pulse_Sum_0) Zhj
def Zcm (M:Fn):Nat×Spec:=(61,Ev Qpm Xp M)
def PF (Cs:Fn):Cfg:=cr [UH Cs] [102] [102]
def Qmk (Cs:Fn):Fn:=L3 PG (PF Cs) 64 61 Qpm Xp
theorem Z0w (Cs:Fn) (K:Kf) (c:Cv):Qmk Cs (Ab K c)=
 (Cs (Ab K c)).bind λo1=>
 bif bA o1 7 then
 bif decide (0<=gA o1 4)&&decide (gA o1 4<((K.aA.map Ah).length:Int))then
 bif gA (nth [] (K.aA.map Ah) (gA o1 4).toNat) 0==6 then
 some [B (c.y0==gA o1 4)]
 else
 some [B false]
 else
 none
 else
 some [B false]:=by kernel_rfl
def Kx:=Qmk EP
theorem Zmw:Ai PG (PF EP):=Hf (rs:=[102]) rfl ⟨R_,trivial⟩ rfl (ER GA)
theorem Zwg (vars : List AC) (R : Type) (K : TV -> Mem -> Option R) : ET PG (PF EP) 64 61 [TV.v false [AC.ptr 20000 0]] ⟨[(20000, (⟨119, (cR 0 vars)⟩ : Box))], []⟩ K = ET PG (PF EP) 64 61 [TV.v false [AC.ptr 20000 0]] ⟨[(20000, (⟨119, (cR 0 vars)⟩ : Box))], []⟩ (λv _ => K v ⟨[(20000, (⟨119, (cR 0 vars)⟩ : Box))], []⟩) := Eq.trans (b := ((EP (cR 0 vars)).bind λo1 =>
 bif bA o1 7 then
 bif decide (0<=gA o1 4)&&decide (gA o1 4<(↑(wA vars 35).length:Int))then
 bif Af (nth .dead (nth [] (wA vars 35) (gA o1 4).toNat) 0)==6 then
 K (TV.v false [B ((gA vars 79)==gA o1 4)]) ⟨[(20000,(⟨119,(cR 0 vars)⟩:Box))],[]⟩
 else
 K (TV.v false [B false]) ⟨[(20000,(⟨119,(cR 0 vars)⟩:Box))],[]⟩
 else
 none
 else
 K (TV.v false [B false]) ⟨[(20000,(⟨119,(cR 0 vars)⟩:Box))],[]⟩)) (by kernel_rfl) (Eq.symm (by kernel_rfl))
theorem Z56:Al PG (61,Ev Qpm Xp Kx):=QS (C:=(PF EP)) (L:=64) (by kernel_rfl) (FnOK.bare rfl rfl rfl) Zmw eqOk GH (by kernel_rfl) (by kernel_rfl) (λvars R K=>Zwg vars R K)
def Ztx (M:Fn):Nat×Spec:=(147,Ev Qhl Qik M)
def Q03:Sk:=⟨[td,tf [ci],td,td,td,tf [ci],tf [ci]]++dd 6++[tf [CS.sl Ag],tf [ci],tf [ci]]++dd 18,[(20000,119,cS)],[]⟩
def Zag:List (Ex×Sk):=[(Ex.exit 0,⟨dd 6++[tf [ci]]++dd 27,[(20000,119,cS)],[]⟩)]
def Ks:Lp:=AS PG C_pulse_Sum_0 64 3 (AV PG 147 3) Q03 Zag
def T0 (N3:Lp):Cfg:=C_pulse_Sum_0.loop 3 Q03 Zag N3
def Qmh (N3:Lp):Fn:=L3 PG (T0 N3) 64 147 Qhl Qik
theorem Zsa (v0 v1 v2:Int) (v3:Rw) (v4 v5:Int) (K:Kf) (c:Cv):Ks (I v0::I v1::I v2:: .view Ag v3::I v4::I v5::Ab K c)=
 bif decide (v5<v4)then
 bif decide (0<=v5)&&decide (v5<(v3.length:Int))then
 bif decide (wrap .i64 (v1+gA (nth [] v3 v5.toNat) 3)<=v0)then
 bif gA (nth [] v3 v5.toNat) 6 !=0 then
 some (0,(I v0::I (wrap .i64 (v1+gA (nth [] v3 v5.toNat) 3))::I (wrap .i64 (v1+gA (nth [] v3 v5.toNat) 3)):: .view Ag v3::I v4::I (wrap .i64 (v5+1))::Ab K c))
 else
 some (0,(I v0::I (wrap .i64 (v1+gA (nth [] v3 v5.toNat) 3))::I v2:: .view Ag v3::I v4::I (wrap .i64 (v5+1))::Ab K c))
 else
 some (0,(I v0::I (wrap .i64 (v1+gA (nth [] v3 v5.toNat) 3))::I v2:: .view Ag v3::I v4::I (wrap .i64 (v5+1))::Ab K c))
 else
 none
 else
 some (1,(I v2::Ab K c)):=by kernel_rfl
theorem Zjn (N3:Lp) (x0:Int) (K:Kf) (c:Cv):Qmh N3 (I x0::Ab K c)=
 (N3 (I x0::I 0::I 0:: .view Ag (K.p.aF.map Au)::I ((K.p.aF.map Au).length:Int)::I 0::Ab K c)).bind λo1=>
 bif o1.1.beq 1 then
 some [jA o1.2 0]
 else
 none:=by kernel_rfl
def Mj:=An (Ks)
def Mc:=Qmh Mj
theorem Q4e:Ai PG (C_pulse_Sum_0):=Ao rfl trivial
theorem Zxc (v0 v1 v2:Int) (v3:Rw) (v4 v5:Int) (o:List AC):Ks (I v0::I v1::I v2:: .view Ag v3::I v4::I v5::cR 0 o)=
 bif decide (v5<v4)then
 bif decide (0<=v5)&&decide (v5<(v3.length:Int))then
 bif decide (wrap .i64 (v1+gA (nth [] v3 v5.toNat) 3)<=v0)then
 bif gA (nth [] v3 v5.toNat) 6 !=0 then
 some (0,(I v0::I (wrap .i64 (v1+gA (nth [] v3 v5.toNat) 3))::I (wrap .i64 (v1+gA (nth [] v3 v5.toNat) 3)):: .view Ag v3::I v4::I (wrap .i64 (v5+1))::cR 0 o))
 else
 some (0,(I v0::I (wrap .i64 (v1+gA (nth [] v3 v5.toNat) 3))::I v2:: .view Ag v3::I v4::I (wrap .i64 (v5+1))::cR 0 o))
 else
 some (0,(I v0::I (wrap .i64 (v1+gA (nth [] v3 v5.toNat) 3))::I v2:: .view Ag v3::I v4::I (wrap .i64 (v5+1))::cR 0 o))
 else
 none
 else
 some (1,(I v2::cR 0 o)):=by kernel_rfl
theorem TX (o:List AC) (v3:Rw) (v0 v4:Int):∀(n:Nat) (v1 v2 v5:Int) (a:Nat×List AC),CJ Ks n (I v0::I v1::I v2:: .view Ag v3::I v4::I v5::cR 0 o)=some a->∃r:Int,a=(1,I r::cR 0 o)
  |0,_,_,_,_,h=>by cases h
  |n+1,v1,v2,v5,a,h=>by
    have h:((Ks (I v0::I v1::I v2:: .view Ag v3::I v4::I v5::cR 0 o)).bind λq=>if q.1=0 then CJ Ks n q.2 else some q)=some a:=h;rw[Zxc]at h;cases c1:decide (v5<v4)<;>rw[c1]at h
    · injection h with h
      exact⟨v2,h.symm⟩
    cases c2:(decide (0<=v5)&&decide (v5<(v3.length:Int)))<;>rw[c2]at h
    · cases h
    cases c3:decide (wrap .i64 (v1+gA (nth [] v3 v5.toNat) 3)<=v0)<;>rw[c3]at h
    · exact TX o v3 v0 v4 n _ _ _ a h
    cases c4:(gA (nth [] v3 v5.toNat) 6 !=0)<;>rw[c4]at h
    · exact TX o v3 v0 v4 n _ _ _ a h
    · exact TX o v3 v0 v4 n _ _ _ a h
theorem Zxj (vars:List AC) (R:Type) (K:TV->Mem->Option R):ET PG (T0 Mj) 64 147 [TV.v false [AC.ptr 20000 0],TV.v false [jA vars 0]] ⟨[(20000,(⟨119,cR 1 vars⟩:Box))],[]⟩ K=ET PG (T0 Mj) 64 147 [TV.v false [AC.ptr 20000 0],TV.v false [jA vars 0]] ⟨[(20000,(⟨119,cR 1 vars⟩:Box))],[]⟩ (λv _=>K v ⟨[(20000,(⟨119,cR 1 vars⟩:Box))],[]⟩):=
  Eq.trans (b:=(Mj (jA vars 0::I 0::I 0:: .view Ag (wA vars 41)::I ((wA vars 41).length:Int)::I 0::cR 1 vars)).bind λo=>bif o.1.beq 1 then K (TV.v false [jA o.2 0]) ⟨[(20000,(⟨119,cR 1 o.2⟩:Box))],[]⟩else none) (by kernel_rfl)
  (Eq.trans (b := (Mj (jA vars 0 :: I 0 :: I 0 :: .view Ag (wA vars 41) :: I ((wA vars 41).length : Int) :: I 0 :: cR 1 vars)).bind λo => bif o.1.beq 1 then K (TV.v false [jA o.2 0]) ⟨[(20000, (⟨119, cR 1 vars⟩ : Box))], []⟩ else none) (by
    cases h:Mj (jA vars 0::I 0::I 0:: .view Ag (wA vars 41)::I ((wA vars 41).length:Int)::I 0::cR 1 vars)with
    |none=>rfl
    |some a=>
      obtain⟨n,hn⟩:=Qf h;obtain⟨r,rfl⟩:=TX (cR 1 vars) (wA vars 41) (gA vars 0) _ n 0 0 0 a hn;rfl) (by kernel_rfl))
theorem Zmc:Al PG (147,Ev Qhl Qik Mc):=QS (C:=(T0 Mj)) (L:=64) (by kernel_rfl) ((FnOK.bare rfl rfl rfl).loop Q4e eqOk GH (by kernel_rfl) (by kernel_rfl)) Q4e eqOk GH (by kernel_rfl) (by kernel_rfl) (λvars R K=>Zxj vars R K)
def Zm1 (M:Fn):Nat×Spec:=(101,Ad Qhl Qj5 M)
def Qa6 (Ed Pg Bl Cs:Fn):Cfg:=cr [Qt9 Ed,Ztx Pg,Na Bl,UH Cs] [147,110,102] [147,110,102]
def Xj (Ed Pg Bl Cs:Fn):Fn:=Am PG (Qa6 Ed Pg Bl Cs) 64 101 Qhl Qj5
theorem Z2j (Ed Pg Bl Cs:Fn) (x0:Int) (K:Kf) (c:Cv):Xj Ed Pg Bl Cs (I x0::Ab K c)=
 (Cs (Ab K c)).bind λo4=>
 bif !bA o4 7 then
 some (Ab K c)
 else
 bif decide (x0<=0)then
 some (Ab K c)
 else
 bif c.way !=0 then
 some (Ab K c)
 else
 bif c.on then
 some (Ab K c)
 else
 bif c.aI !=0 then
 some (Ab K c)
 else
 bif !c.o2 then
 some (Ab K c)
 else
 bif gA o4 6 !=0 then
 some (Ab K c)
 else
 (Bl (Ab K c)).bind λo5=>
 (Pg (jA o5 0::Ab K c)).bind λo6=>
 (Ed (pxt K.p K.x K.t [I c.m0,I c.m1,I c.m2,I c.m3,I c.m4,I c.m5,I (mx (mx 0 (wrap .i64 (gA o5 0-x0))) (gA o6 0))])).bind λo7=>
 bif !bA o7 12 then
 some (Ab K c)
 else
 some (Dp (Ab K c) [(44, .view Ap (wA o7 0)),(45,jA o7 1),(46,jA o7 2),(47,jA o7 3),(48,jA o7 4),(49,jA o7 5),(50,jA o7 6),(51,jA o7 7),(52,jA o7 8),(53,jA o7 9),(54,jA o7 10),(55,jA o7 11),(58,B false),(71,I 1),(72,jA o5 0)]):=by kernel_rfl
def Q3:=Xj J3 Mc C5 EP
theorem Z62:Ai PG (Qa6 J3 Mc C5 EP):=Hf (rs:=[147,110,102]) rfl ⟨Qxh,Zmc,Nc,R_,trivial⟩ rfl (Ci rfl (ER (ER (ER GA))))
theorem Z4q:Al PG (101,Ad Qhl Qj5 Q3):=rw1 (C:=(Qa6 J3 Mc C5 EP)) Z62
def Z4x (M:Fn):Nat×Spec:=(146,Ad Qhl Qfq M)
def Q88:Sk:=⟨[td,tf [ci],td,td,td,tf [ci]]++dd 6++[tf [CS.sl Ag],tf [ci],tf [ci]]++dd 13,[(20000,119,cS)],[]⟩
def Q7a:List (Ex×Sk):=[(Ex.exit 0,⟨[td,td,td,td,td,tf [ci]]++dd 22,[(20000,119,cS)],[]⟩)]
def TO:Lp:=AS PG C_pulse_Sum_0 64 3 (AV PG 146 3) Q88 Q7a
def Qy5 (N3:Lp):Cfg:=C_pulse_Sum_0.loop 3 Q88 Q7a N3
def Qn5 (N3:Lp):Fn:=Am PG (Qy5 N3) 64 146 Qhl Qfq
theorem Zmu (v0 v1:Int) (v2:Rw) (v3 v4:Int) (K:Kf) (c:Cv):TO (I v0::I v1:: .view Ag v2::I v3::I v4::Ab K c)=
 bif decide (v4<v3)then
 bif decide (0<=v4)&&decide (v4<(v2.length:Int))then
 bif gA (nth [] v2 v4.toNat) 4==v0 then
 some (1,(I v1::Ab K c))
 else
 some (0,(I v0::I (wrap .i64 (v1+gA (nth [] v2 v4.toNat) 3)):: .view Ag v2::I v3::I (wrap .i64 (v4+1))::Ab K c))
 else
 none
 else
 some (1,(I v1::Ab K c)):=by kernel_rfl
theorem Zmy (N3:Lp) (x0:Int) (K:Kf) (c:Cv):Qn5 N3 (I x0::Ab K c)=
 (N3 (I x0::I 0:: .view Ag (K.p.aF.map Au)::I ((K.p.aF.map Au).length:Int)::I 0::Ab K c)).bind λo1=>
 bif o1.1.beq 1 then
 some (jA o1.2 0::cR 1 o1.2)
 else
 none:=by kernel_rfl
def Zap:=An (TO)
def Nt:=Qn5 Zap
theorem Q8u:Ai PG (C_pulse_Sum_0):=Ao rfl trivial
theorem Z46:Al PG (146,Ad Qhl Qfq Nt):=rw2 (C:=(Qy5 Zap)) (fl fb Q8u) Q8u
def Zgj (M:Fn):Nat×Spec:=(100,Ad Qpm Qj5 M)
def Qka (Pj Bl Cs:Fn):Cfg:=cr [Z4x Pj,Na Bl,UH Cs] [146,110,102] [110,102]
def Qah (Pj Bl Cs:Fn):Fn:=Am PG (Qka Pj Bl Cs) 64 100 Qpm Qj5
theorem Zvr (Pj Bl Cs:Fn) (K:Kf) (c:Cv):Qah Pj Bl Cs (Ab K c)=
 (Cs (Ab K c)).bind λo3=>
 bif bA o3 7 then
 bif c.way==0 then
 bif decide (0<=gA o3 4)&&decide (gA o3 4<((K.aA.map Ah).length:Int))then
 bif gA (nth [] (K.aA.map Ah) (gA o3 4).toNat) 0==4 then
 (Bl (Ab K c)).bind λo4=>
 (Pj (jA o3 4::Ab K c)).bind λo5=>
 bif gA o4 0 !=gA o5 0 then
 some (Dp (cR 1 o5) [(77,B true)])
 else
 some (cR 1 o5)
 else
 some (Ab K c)
 else
 none
 else
 some (Ab K c)
 else
 some (Ab K c):=by kernel_rfl
def L5:=Qah Nt C5 EP
theorem Zso:Ai PG (Qka Nt C5 EP):=Hf (rs:=[110,102]) rfl ⟨Z46,Nc,R_,trivial⟩ rfl (Ci rfl (ER (ER GA)))
theorem Zwx:Al PG (100,Ad Qpm Qj5 L5):=rw1 (C:=(Qka Nt C5 EP)) Zso
def Qmd:Sk:=⟨[TS.v true [ci,ci,ci],tf [ci],TS.v true [ci,ci,ci],TS.v true [ci,ci,ci]],[],[]⟩
def Zu2 (M:Fn):Nat×Spec:=(145,Ad Qmd WK M)
def Qb5:Cfg:={cf []with unroll:=[4]}
def Qmf:Fn:=Am PG Qb5 64 145 Qmd WK
theorem Z0r (x0 x1 x2 x3 x4 x5 x6 x7 x8 x9:Int):Qmf [I x0,I x1,I x2,I x3,I x4,I x5,I x6,I x7,I x8,I x9]=
 bif x0 !=0 then
 some [I x0,I x1,I x2]
 else
 bif decide (wrap .i64 (x4-x7)>x3)then
 some [I 1,I 19,I 0]
 else
 bif decide (wrap .i64 (0-wrap .i64 (x4-x7))>x3)then
 some [I 1,I 19,I 0]
 else
 bif decide (wrap .i64 (x5-x8)>x3)then
 some [I 1,I 19,I (wrap .i64 (0+1))]
 else
 bif decide (wrap .i64 (0-wrap .i64 (x5-x8))>x3)then
 some [I 1,I 19,I (wrap .i64 (0+1))]
 else
 bif decide (wrap .i64 (x6-x9)>x3)then
 some [I 1,I 19,I (wrap .i64 (wrap .i64 (0+1)+1))]
 else
 bif decide (wrap .i64 (0-wrap .i64 (x6-x9))>x3)then
 some [I 1,I 19,I (wrap .i64 (wrap .i64 (0+1)+1))]
 else
 some [I x0,I x1,I x2]:=by kernel_rfl
def OJ:=Qmf
theorem Z41:Ai PG (Qb5):=Ao rfl trivial
theorem Zdk:Al PG (145,Ad Qmd WK OJ):=rw1 (C:=Qb5) Z41
attribute [go_sem] Pq Qow TI Ud S7 Te Z_ Qqc ZM Nx Mi QE Ts Qil SB SG TY S0 Rm WB Q4 Ur
end Go.Bm
