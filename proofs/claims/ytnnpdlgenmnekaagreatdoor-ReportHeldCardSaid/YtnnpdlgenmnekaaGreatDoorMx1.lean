/- functions of the program and of the references, as models -/
import Derived.Test.YtnnpdlgenmnekaaGreatDoorSeShelf
import Derived.Test.YtnnpdlgenmnekaaGreatDoorSeExt
import Derived.Test.YtnnpdlgenmnekaaGreatDoorSePre
import Derived.Test.YtnnpdlgenmnekaaGreatDoorSeKc
import Derived.Test.YtnnpdlgenmnekaaGreatDoorSeBld
import Derived.Test.YtnnpdlgenmnekaaGreatDoorSeStr
import Derived.Test.YtnnpdlgenmnekaaGreatDoorSeFmA
import Derived.Test.YtnnpdlgenmnekaaGreatDoorSeFmB
import Derived.Test.YtnnpdlgenmnekaaGreatDoorSeFmC
import Derived.Test.YtnnpdlgenmnekaaGreatDoorSeFmD
import Derived.Test.YtnnpdlgenmnekaaGreatDoorSeFmE
import Derived.Test.YtnnpdlgenmnekaaGreatDoorSeFmF
import Derived.Test.YtnnpdlgenmnekaaGreatDoorBmTy
set_option linter.unusedSimpArgs false
set_option linter.unusedVariables false
set_option maxRecDepth 100000
noncomputable section
open Go.IntKind (wrap)
namespace Go.Bm
open Go.Proofs
def qd (n:Nat) (s o:Sk) (M:Fn):Nat×Spec:=(n,Ab s o M)
def Qf9:Sk:=⟨[tf [sa [Kd.sl kPt,Kd.sl Aa,kI,kI,kI,kI,kI,kI,kI]]],[],[]⟩
def V1:Sk:=⟨[tf [sb]],[],[]⟩
def Zik:=qd 19 Qf9 V1
def Qjw:Cfg:=cf []
def S9:Fn:=Am PG Qjw 64 19 Qf9 V1
theorem Q63 (D:Rw):S9 [.vC [Kd.sl kPt,Kd.sl Aa,kI,kI,kI,kI,kI,kI,kI] D]=
 cond (decide ((D.length:Int)>0)) (cond (decide (0<=O ((D.length:Int)-1))&&decide (O ((D.length:Int)-1)<(D.length:Int))) (some [B (gA (nth [] D (O ((D.length:Int)-1)).toNat) 2==7)]) (none)) (some [B false]):=by kernel_rfl
def I9:=S9
theorem Z6d:Ai PG (Qjw):=An rfl trivial
theorem Q32:Ak PG (Zik I9):=rw1 (C:=Qjw) Z6d
def Qqk:Sk:=⟨[tf [sa kPt]],[],[]⟩
def Zn1:=qd 26 Qf9 Qqk
def C_report_Pulses_0:Cfg:={cf []with prom:=λb=>cond (Nat.beq b 3) ([(3,125)]) ([])}
def Qz0:Sk:=⟨[td,td,td,tf [se 3 3],td,td,tf [sa [Kd.sl kPt,Kd.sl Aa,kI,kI,kI,kI,kI,kI,kI]],tf [ci],tf [ci]]++dd 9,[],[(3,125,kPt)]⟩
def Zbj:List (Ex×Sk):=[(Ex.exit 0,⟨[td,td,td,tf [se 3 3]]++dd 14,[],[(3,125,kPt)]⟩)]
def Pd:Lp:=AG PG C_report_Pulses_0 64 3 (AH PG 26 3) Qz0 Zbj
def Zgv (D:Lp):Cfg:=C_report_Pulses_0.loop 3 Qz0 Zbj D
def Zm (D:Lp):Fn:=Am PG (Zgv D) 64 26 Qf9 Qqk
theorem Q8f (L G:Rw) (M D:Int):Pd [.vC kPt L, .vC [Kd.sl kPt,Kd.sl Aa,kI,kI,kI,kI,kI,kI,kI] G,I M,I D]=
 cond (decide (D<M)) (cond (decide (0<=D)&&decide (D<(G.length:Int))) (cond (((L++wA (nth [] G D.toNat) 0).length*24).ble 140737488355328) (some (0,[.vC kPt (L++wA (nth [] G D.toNat) 0), .vC [Kd.sl kPt,Kd.sl Aa,kI,kI,kI,kI,kI,kI,kI] G,I M,I (O (D+1))])) (none)) (none)) (some (1,[.vC kPt L])):=by kernel_rfl
theorem Zzc (G:Lp) (D:Rw):Zm G [.vC [Kd.sl kPt,Kd.sl Aa,kI,kI,kI,kI,kI,kI,kI] D]=
 (G [.vC kPt [], .vC [Kd.sl kPt,Kd.sl Aa,kI,kI,kI,kI,kI,kI,kI] D,I (D.length:Int),I 0]).bind λo1=>
 cond (o1.1.beq 1) (some [.vC kPt (wA o1.2 0)]) (none):=by kernel_rfl
def Zaf:=Al (Pd)
def Rj:=Zm Zaf
theorem Zgx:Ai PG (C_report_Pulses_0):=An rfl trivial
theorem Ya0:Ak PG (Zn1 Rj):=rw2 (C:=Zgv Zaf) (fl fb Zgx) Zgx
def Y3:Sk:=⟨[tf [ci]],[],[]⟩
def RW:=qd 66 Y3 V1
def Zc1:Fn:=Am PG Qjw 64 66 Y3 V1
theorem Yhw (D:Int):Zc1 [I D]=
 cond (decide (D>=1)) (some [B (decide (D<=6))]) (some [B false]):=by kernel_rfl
def CT:=Zc1
theorem Zv0:Ai PG (Qjw):=An rfl trivial
theorem Qk:Ak PG (RW CT):=rw1 (C:=Qjw) Zv0
def Qnx:Sk:=⟨[TS.v true (cc 13++[sb,ci,sb]++cc 5++[sb])],[],[]⟩
def Q5b:=qd 70 Qnx V1
def Q5e:Fn:=Am PG Qjw 64 70 Qnx V1
theorem Zrf (D x1 x2 x3 x4 x5 x6 x7 x8 x9 G L M:Int) (N:Bool) (O:Int) (S:Bool) (T U V X Y:Int) (a0:Bool):Q5e [I D,I x1,I x2,I x3,I x4,I x5,I x6,I x7,I x8,I x9,I G,I L,I M,B N,I O,B S,I T,I U,I V,I X,I Y,B a0]=
 cond (D==5) (some [B true]) (some [B (D==6)]):=by kernel_rfl
def Fz:=Q5e
theorem Zt8:Ai PG (Qjw):=An rfl trivial
theorem Qxv:Ak PG (Q5b Fz):=rw1 (C:=Qjw) Zt8
def Qsq:Sk:=⟨[tf [sa Ae],tf [ci]],[],[]⟩
def Zxd:=qd 74 Qsq Y3
def Qoc (D G:Fn):Cfg:=cf [RW D,Q5b G]
def Zdt:Sk:=⟨[tf [sa Ae],td,td,td,td,tf [ci]]++dd 38,[],[]⟩
def Zaj:List (Ex×Sk):=[(Ex.ret,⟨[td,td,td,td,tf [ci]]++dd 39,[],[]⟩),(Ex.exit 0,⟨[td]++dd 43,[],[]⟩)]
def PF (D G:Fn):Lp:=AG PG (Qoc D G) 64 6 (AH PG 74 6) Zdt Zaj
def Zbn (D G:Fn) (I:Lp):Cfg:=(Qoc D G).loop 6 Zdt Zaj I
def Qep (D G:Fn) (I:Lp):Fn:=Am PG (Zbn D G I) 64 74 Qsq Y3
theorem Zf5 (L M:Fn) (G:Rw) (D:Int):PF L M [.vC Ae G,I D]=
 cond (decide (D<(G.length:Int))) (cond (decide (0<=D)&&decide (D<(G.length:Int))) ((L [jA (nth [] G D.toNat) 0]).bind λN=>
 cond (bA N 0) (cond (decide (0<=D)&&decide (D<(G.length:Int))) ((M (AE Ae (nth [] G D.toNat))).bind λo6=>
 cond (bA o6 0) (some (1,[I 1])) (some (2,[]))) (none)) (some (0,[.vC Ae G,I (O (D+1))]))) (none)) (some (2,[])):=by kernel_rfl
theorem Z0m (N L:Fn) (M:Lp) (G:Rw) (D:Int):Qep N L M [.vC Ae G,I D]=
 cond (decide (0<=D)&&decide (D<(G.length:Int))) (cond (gA (nth [] G D.toNat) 0==4) (some [I 6]) (cond (decide (0<=D)&&decide (D<(G.length:Int))) (cond (gA (nth [] G D.toNat) 18==0) (some [I 1]) (cond (decide (0<=D)&&decide (D<(G.length:Int))) ((L (AE Ae (nth [] G D.toNat))).bind λS=>
 cond (bA S 0) (some [I 1]) ((M [.vC Ae G,I (O (D+1))]).bind λo8=>
 cond (o8.1.beq 1) (some [jA o8.2 0]) (cond (o8.1.beq 2) (some [I 2]) (none)))) (none))) (none))) (none):=by kernel_rfl
def Q80:=Al (PF CT Fz)
def Is:=Qep CT Fz Q80
theorem Qv8:Ai PG (Qoc CT Fz):=An rfl ⟨Qk,Qxv,trivial⟩
theorem Yf3:Ak PG (Zxd Is):=rw2 (C:=Zbn CT Fz Q80) (fl fb Qv8) Qv8
def Zin:=qd 116 Qnx V1
def Zjy:Fn:=Am PG Qjw 64 116 Qnx V1
theorem Zlz (x0 x1 x2 x3 x4 x5 x6 x7 x8 x9 D G L:Int) (M:Bool) (N:Int) (O:Bool) (S T U V X:Int) (Y:Bool):Zjy [I x0,I x1,I x2,I x3,I x4,I x5,I x6,I x7,I x8,I x9,I D,I G,I L,B M,I N,B O,I S,I T,I U,I V,I X,B Y]=
 cond (x0==2) (some [B !(x2==x5&&(x3==x6&&(x4==x7&&true)))]) (some [B false]):=by kernel_rfl
def Iu:=Zjy
theorem Zmw:Ai PG (Qjw):=An rfl trivial
theorem Qyh:Ak PG (Zin Iu):=rw1 (C:=Qjw) Zmw
def Qzm:=qd 73 Qsq Y3
def ZB (D:Fn):Cfg:=cf [Zin D]
def Zid:Sk:=⟨[tf [sa Ae],td,td,td,td,tf [ci]]++dd 34,[],[]⟩
def Qxg:List (Ex×Sk):=[(Ex.ret,⟨[td,td,td,td,tf [ci]]++dd 35,[],[]⟩),(Ex.exit 0,⟨[td]++dd 39,[],[]⟩)]
def OV (D:Fn):Lp:=AG PG (ZB D) 64 4 (AH PG 73 4) Zid Qxg
def Q4i (D:Fn) (G:Lp):Cfg:=(ZB D).loop 4 Zid Qxg G
def Qu1 (D:Fn) (G:Lp):Fn:=Am PG (Q4i D G) 64 73 Qsq Y3
theorem Q45 (L:Fn) (G:Rw) (D:Int):OV L [.vC Ae G,I D]=
 cond (decide (D<(G.length:Int))) (cond (decide (0<=D)&&decide (D<(G.length:Int))) (cond (gA (nth [] G D.toNat) 0==10) (some (0,[.vC Ae G,I (O (D+1))])) (cond (decide (0<=D)&&decide (D<(G.length:Int))) ((L (AE Ae (nth [] G D.toNat))).bind λo4=>
 cond (bA o4 0) (some (1,[I D])) (some (1,[I (-1)]))) (none))) (none)) (some (2,[])):=by kernel_rfl
theorem Yc5 (L:Fn) (M:Lp) (G:Rw) (D:Int):Qu1 L M [.vC Ae G,I D]=
 cond (decide (0<=D)&&decide (D<(G.length:Int))) ((L (AE Ae (nth [] G D.toNat))).bind λN=>
 cond (!bA N 0) (some [I (-1)]) (cond (decide (0<=D)&&decide (D<(G.length:Int))) (cond (gA (nth [] G D.toNat) 18==0) (some [I (-1)]) ((M [.vC Ae G,I (O (D+1))]).bind λo6=>
 cond (o6.1.beq 1) (some [jA o6.2 0]) (cond (o6.1.beq 2) (some [I (-1)]) (none)))) (none))) (none):=by kernel_rfl
def Qwt:=Al (OV Iu)
def F9:=Qu1 Iu Qwt
theorem Zg3:Ai PG (ZB Iu):=An rfl ⟨Qyh,trivial⟩
theorem Q7i:Ak PG (Qzm F9):=rw2 (C:=Q4i Iu Qwt) (fl fb Zg3) Zg3
def Qyn:=qd 120 Y3 Y3
def Zel:Sk:=⟨[tf [ci],td,td,tf [ci],tf [ci]]++dd 17,[],[]⟩
def Qv7:List (Ex×Sk):=[(Ex.exit 0,⟨[td,td,td,tf [ci]]++dd 18,[],[]⟩)]
def Mj:Lp:=AG PG Qjw 64 3 (AH PG 120 3) Zel Qv7
def Q9z (D:Lp):Cfg:=Qjw.loop 3 Zel Qv7 D
def Qil (D:Lp):Fn:=Am PG (Q9z D) 64 120 Y3 Y3
theorem Q62 (L G D:Int):Mj [I L,I G,I D]=
 cond (decide (D>0)) (cond (decide (O (O (G+D)*O (G+D))<=L)) (some (0,[I L,I (O (G+D)),I (D.fdiv (2^min (Int.toNat 1) IntKind.i64.bits))])) (some (0,[I L,I G,I (D.fdiv (2^min (Int.toNat 1) IntKind.i64.bits))]))) (some (1,[I G])):=by kernel_rfl
theorem Zx5 (D:Lp) (G:Int):Qil D [I G]=
 (D [I G,I 0,I 1073741824]).bind λo1=>
 cond (o1.1.beq 1) (some [jA o1.2 0]) (none):=by kernel_rfl
def Zce:=Al (Mj)
def Jn:=Qil Zce
theorem Zi0:Ai PG (Qjw):=An rfl trivial
theorem Q3c:Ak PG (Qyn Jn):=rw2 (C:=Q9z Zce) (fl fb Zi0) Zi0
def Qs3:Sk:=⟨[TS.v true [ci,ci,ci],TS.v true [ci,ci,ci]],[],[]⟩
def Qa3:=qd 119 Qs3 Y3
def Qi3:Cfg:={cf []with unroll:=[3]}
def Q5x:Fn:=Am PG Qi3 64 119 Qs3 Y3
theorem Yfc (D G L M N S:Int):Q5x [I D,I G,I L,I M,I N,I S]=
 some [I (O (O (O (0+O (O (D-M)*O (D-M)))+O (O (G-N)*O (G-N)))+O (O (L-S)*O (L-S))))]:=by kernel_rfl
def Hd:=Q5x
theorem Z7v:Ai PG (Qi3):=An rfl trivial
theorem Qm7:Ak PG (Qa3 Hd):=rw1 (C:=Qi3) Z7v
def Q3p:=qd 72 Qs3 Y3
def Qay (D G:Fn):Cfg:=cf [Qyn D,Qa3 G]
def Zw (D G:Fn):Fn:=Am PG (Qay D G) 64 72 Qs3 Y3
theorem Zpl (D G:Fn) (L M N S T U:Int):Zw D G [I L,I M,I N,I S,I T,I U]=
 (G [I L,I M,I N,I S,I T,I U]).bind λo2=>
 (D [jA o2 0]).bind λo3=>
 cond (decide (O (gA o3 0*gA o3 0)<gA o2 0)) (some [I (O (gA o3 0+1))]) (some [jA o3 0]):=by kernel_rfl
def Gg:=Zw Jn Hd
theorem Z41:Ai PG (Qay Jn Hd):=An rfl ⟨Q3c,Qm7,trivial⟩
theorem Qzy:Ak PG (Q3p Gg):=rw1 (C:=Qay Jn Hd) Z41
def Quv:Sk:=⟨[TS.v true [ci,ci,ci]],[],[]⟩
def Q33:=qd 118 Qnx Quv
def Zig:Fn:=Am PG Qjw 64 118 Qnx Quv
theorem Zkl (x0 x1 x2 x3 x4 x5 x6 x7 x8 x9 D G L:Int) (M:Bool) (N:Int) (S:Bool) (T U V X Y:Int) (a0:Bool):Zig [I x0,I x1,I x2,I x3,I x4,I x5,I x6,I x7,I x8,I x9,I D,I G,I L,B M,I N,B S,I T,I U,I V,I X,I Y,B a0]=
 some [I (O (O (x2+x5)*8)),I (O (O (x3+x6)*8)),I (O (O (x4+x7)*8))]:=by kernel_rfl
def JI:=Zig
theorem Z74:Ai PG (Qjw):=An rfl trivial
theorem Qzt:Ak PG (Q33 JI):=rw1 (C:=Qjw) Z74
def ZA:Sk:=⟨[tf [ci],tf [ci]],[],[]⟩
def Q71:=qd 114 ZA Y3
def Zba:Fn:=Am PG Qjw 64 114 ZA Y3
theorem Zo7 (G D:Int):Zba [I G,I D]=
 cond (decide (O (2*D)=0)) (none) (cond (decide (O (2*D)=0)) (none) (cond (decide ((O (O (2*G)+D)).tmod (O (2*D))<0)) (some [I (O (O ((O (O (2*G)+D)).tdiv (O (2*D)))-1))]) (some [I (O ((O (O (2*G)+D)).tdiv (O (2*D))))]))):=by kernel_rfl
def F3:=Zba
theorem Z8v:Ai PG (Qjw):=An rfl trivial
theorem Qyv:Ak PG (Q71 F3):=rw1 (C:=Qjw) Z8v
def Yaq:=qd 278 Qs3 Quv
def Q5z:Fn:=Am PG Qjw 64 278 Qs3 Quv
theorem Zk4 (D G L M N S:Int):Q5z [I D,I G,I L,I M,I N,I S]=
 some [I (O (D+M)),I (O (G+N)),I (O (L+S))]:=by kernel_rfl
def NX:=Q5z
theorem Zrb:Ai PG (Qjw):=An rfl trivial
theorem Zrq:Ak PG (Yaq NX):=rw1 (C:=Qjw) Zrb
def Z7u:=qd 279 Qs3 Quv
def Zgc:Fn:=Am PG Qjw 64 279 Qs3 Quv
theorem Zn0 (D G L M N S:Int):Zgc [I D,I G,I L,I M,I N,I S]=
 some [I (O (D-M)),I (O (G-N)),I (O (L-S))]:=by kernel_rfl
def LC:=Zgc
theorem Z3l:Ai PG (Qjw):=An rfl trivial
theorem Yd7:Ak PG (Z7u LC):=rw1 (C:=Qjw) Z3l
def Qom:Sk:=⟨[TS.v true [ci,ci,ci],TS.v true [ci,ci,ci],TS.v true [ci,ci,ci]],[],[]⟩
def Q8u:=qd 255 Qom Y3
def Qnu (D G I:Fn):Cfg:=cf [Qa3 D,Yaq G,Z7u I]
def Qcl (D G I:Fn):Fn:=Am PG (Qnu D G I) 64 255 Qom Y3
theorem Yi9 (O S D:Fn) (T U V G L M X Y x8:Int):Qcl O S D [I T,I U,I V,I G,I L,I M,I X,I Y,I x8]=
 (D [I T,I U,I V,I G,I L,I M]).bind λo4=>
 (D [I X,I Y,I x8,I G,I L,I M]).bind λN=>
 (S [jA o4 0,jA o4 1,jA o4 2,jA N 0,jA N 1,jA N 2]).bind λo6=>
 (O [jA o6 0,jA o6 1,jA o6 2,I 0,I 0,I 0]).bind λo7=>
 some [jA o7 0]:=by kernel_rfl
def IH:=Qcl Hd NX LC
theorem Z2a:Ai PG (Qnu Hd NX LC):=An rfl ⟨Qm7,Zrq,Yd7,trivial⟩
theorem Zck:Ak PG (Q8u IH):=rw1 (C:=Qnu Hd NX LC) Z2a
def Zt1:=qd 227 Qom Y3
def Qo5 (D:Fn):Cfg:=cf [Q8u D]
def Zda:Sk:=⟨[td,td,td,tf [sd 3 0],tf [sd 4 0],tf [sd 5 0],td,tf [ci]]++dd 22,[(3,42,[ci,ci,ci]),(4,42,[ci,ci,ci]),(5,42,[ci,ci,ci])],[]⟩
def Qx4:List (Ex×Sk):=[(Ex.exit 0,⟨dd 7++[tf [ci]]++dd 22,[],[]⟩)]
def Qm (D:Fn):Lp:=AG PG (Qo5 D) 64 2 (AH PG 227 2) Zda Qx4
def Q6w (D:Fn) (G:Lp):Cfg:=(Qo5 D).loop 2 Zda Qx4 G
def Ya (D:Fn) (G:Lp):Fn:=Am PG (Q6w D G) 64 227 Qom Y3
theorem Zsh (Y:Fn) (D G L M N S T U V X:Int):Qm Y [I D,I G,I L,I M,I N,I S,I T,I U,I V,I X]=
 cond (decide (D<64)) ((Y [I G,I L,I M,I N,I S,I T,I U,I V,I X]).bind λo2=>
 cond (decide (gA o2 0>O (O (O (O (O (O (16*D)*D)*D)*D)*4)*4))) (some (0,[I (O (D*2)),I G,I L,I M,I N,I S,I T,I U,I V,I X])) (some (1,[I D]))) (some (1,[I D])):=by kernel_rfl
theorem Z6y (X:Fn) (D:Lp) (G L M N O S T U V:Int):Ya X D [I G,I L,I M,I N,I O,I S,I T,I U,I V]=
 (D [I 2,I G,I L,I M,I N,I O,I S,I T,I U,I V]).bind λo3=>
 cond (o3.1.beq 1) (some [jA o3.2 0]) (none):=by kernel_rfl
def Q07:=Al (Qm IH)
def JQ:=Ya IH Q07
theorem Za6:Ai PG (Qo5 IH):=An rfl ⟨Zck,trivial⟩
theorem Zxc:Ak PG (Zt1 JQ):=rw2 (C:=Q6w IH Q07) (fl fb Za6) Za6
def Xm:Sk:=⟨[tf [si .u64],tf [si .u64]],[],[]⟩
def Qp6:Sk:=⟨[TS.tup [(false,[si .u64]),(false,[si .u64])]],[],[]⟩
def Zs8:=qd 292 Xm Qp6
def Q1g:Fn:=Am PG Qjw 64 292 Xm Qp6
theorem Zzx (D G:Int):Q1g [U D,U G]=
 some [U (wrap .u64 (wrap .u64 (wrap .u64 (D.fdiv (2^min (Int.toNat 32) IntKind.u64.bits)*G.fdiv (2^min (Int.toNat 32) IntKind.u64.bits))+(wrap .u64 (wrap .u64 (D.fdiv (2^min (Int.toNat 32) IntKind.u64.bits)*wrap .u64 (↑(BitVec.ofInt IntKind.u64.bits G&&&BitVec.ofInt IntKind.u64.bits 4294967295).toNat:Int))+(wrap .u64 (wrap .u64 (↑(BitVec.ofInt IntKind.u64.bits D&&&BitVec.ofInt IntKind.u64.bits 4294967295).toNat:Int)*wrap .u64 (↑(BitVec.ofInt IntKind.u64.bits G&&&BitVec.ofInt IntKind.u64.bits 4294967295).toNat:Int))).fdiv (2^min (Int.toNat 32) IntKind.u64.bits))).fdiv (2^min (Int.toNat 32) IntKind.u64.bits))+(wrap .u64 (wrap .u64 (wrap .u64 (↑(BitVec.ofInt IntKind.u64.bits D&&&BitVec.ofInt IntKind.u64.bits 4294967295).toNat:Int)*G.fdiv (2^min (Int.toNat 32) IntKind.u64.bits))+wrap .u64 (↑(BitVec.ofInt IntKind.u64.bits (wrap .u64 (wrap .u64 (D.fdiv (2^min (Int.toNat 32) IntKind.u64.bits)*wrap .u64 (↑(BitVec.ofInt IntKind.u64.bits G&&&BitVec.ofInt IntKind.u64.bits 4294967295).toNat:Int))+(wrap .u64 (wrap .u64 (↑(BitVec.ofInt IntKind.u64.bits D&&&BitVec.ofInt IntKind.u64.bits 4294967295).toNat:Int)*wrap .u64 (↑(BitVec.ofInt IntKind.u64.bits G&&&BitVec.ofInt IntKind.u64.bits 4294967295).toNat:Int))).fdiv (2^min (Int.toNat 32) IntKind.u64.bits)))&&&BitVec.ofInt IntKind.u64.bits 4294967295).toNat:Int))).fdiv (2^min (Int.toNat 32) IntKind.u64.bits))),U (wrap .u64 (↑(BitVec.ofInt IntKind.u64.bits (wrap .u64 (wrap .u64 (wrap .u64 (wrap .u64 (↑(BitVec.ofInt IntKind.u64.bits D&&&BitVec.ofInt IntKind.u64.bits 4294967295).toNat:Int)*G.fdiv (2^min (Int.toNat 32) IntKind.u64.bits))+wrap .u64 (↑(BitVec.ofInt IntKind.u64.bits (wrap .u64 (wrap .u64 (D.fdiv (2^min (Int.toNat 32) IntKind.u64.bits)*wrap .u64 (↑(BitVec.ofInt IntKind.u64.bits G&&&BitVec.ofInt IntKind.u64.bits 4294967295).toNat:Int))+(wrap .u64 (wrap .u64 (↑(BitVec.ofInt IntKind.u64.bits D&&&BitVec.ofInt IntKind.u64.bits 4294967295).toNat:Int)*wrap .u64 (↑(BitVec.ofInt IntKind.u64.bits G&&&BitVec.ofInt IntKind.u64.bits 4294967295).toNat:Int))).fdiv (2^min (Int.toNat 32) IntKind.u64.bits)))&&&BitVec.ofInt IntKind.u64.bits 4294967295).toNat:Int))*2^min (Int.toNat 32) IntKind.u64.bits))|||BitVec.ofInt IntKind.u64.bits (wrap .u64 (↑(BitVec.ofInt IntKind.u64.bits (wrap .u64 (wrap .u64 (↑(BitVec.ofInt IntKind.u64.bits D&&&BitVec.ofInt IntKind.u64.bits 4294967295).toNat:Int)*wrap .u64 (↑(BitVec.ofInt IntKind.u64.bits G&&&BitVec.ofInt IntKind.u64.bits 4294967295).toNat:Int)))&&&BitVec.ofInt IntKind.u64.bits 4294967295).toNat:Int))).toNat:Int))]:=by kernel_rfl
def OB:=Q1g
theorem Zrg:Ai PG (Qjw):=An rfl trivial
theorem Zql:Ak PG (Zs8 OB):=rw1 (C:=Qjw) Zrg
def Yd:Sk:=⟨[tf [si .u64],tf [si .u64],tf [si .u64],tf [si .u64],tf [sb]],[],[]⟩
def Yed:=qd 277 Yd V1
def Qpm (D:Fn):Cfg:=cf [Zs8 D]
def Qjj (D:Fn):Fn:=Am PG (Qpm D) 64 277 Yd V1
theorem Znf (D:Fn) (G I L M:Int) (N:Bool):Qjj D [U G,U I,U L,U M,B N]=
 (D [U G,U I]).bind λo2=>
 (D [U L,U M]).bind λo3=>
 cond (decide (gA o2 0<gA o3 0)) (some [B true]) (cond (gA o2 0==gA o3 0) (cond (decide (gA o2 1<gA o3 1)) (some [B true]) (cond (gA o2 1==gA o3 1) (some [B !N]) (some [B false]))) (some [B false])):=by kernel_rfl
def OS:=Qjj OB
theorem Zz3:Ai PG (Qpm OB):=An rfl ⟨Zql,trivial⟩
theorem Z23:Ak PG (Yed OS):=rw1 (C:=Qpm OB) Zz3
def Qbk:Sk:=⟨[tf [ci],tf [ci],tf [ci]],[],[]⟩
def Zgo:=qd 254 Qbk Y3
def Ql9 (D:Fn):Cfg:=cf [Yed D]
def Zbs:Sk:=⟨[tf [ci]]++dd 6++[tf [si .u64],tf [si .u64],tf [si .u64],tf [si .u64]]++dd 51,[],[]⟩
def Qzr:List (Ex×Sk):=[(Ex.exit 0,⟨[tf [ci]]++dd 6++[tf [si .u64],tf [si .u64],tf [si .u64]]++dd 52,[],[]⟩)]
def Mw (D:Fn):Lp:=AG PG (Ql9 D) 64 3 (AH PG 254 3) Zbs Qzr
def Q1q (D:Fn) (G:Lp):Cfg:=(Ql9 D).loop 3 Zbs Qzr G
def Qp4 (D:Fn) (G:Lp):Fn:=Am PG (Q1q D G) 64 254 Qbk Y3
theorem Qz4 (O:Fn) (N G M L D:Int):Mw O [I N,U G,U M,U L,U D]=
 cond (decide (D>0)) ((O [U (wrap .u64 (wrap .u64 (L+D)*wrap .u64 (L+D))),U M,U G,U G,B false]).bind λo3=>
 cond (bA o3 0) (some (0,[I N,U G,U M,U (wrap .u64 (L+D)),U (D.fdiv (2^min (Int.toNat 1) IntKind.u64.bits))])) (some (0,[I N,U G,U M,U L,U (D.fdiv (2^min (Int.toNat 1) IntKind.u64.bits))]))) (some (1,[I N,U G,U M,U L])):=by kernel_rfl
theorem Zru (G:Fn) (L:Lp) (D M N:Int):Qp4 G L [I D,I M,I N]=
 (L [I D,U (wrap .u64 (O (mx D (O (0-D))*M))),U (wrap .u64 N),U 0,U 134217728]).bind λo4=>
 cond (o4.1.beq 1) ((G [U (wrap .u64 (wrap .u64 (wrap .u64 (2*gA o4.2 3)+1)*wrap .u64 (wrap .u64 (2*gA o4.2 3)+1))),U (gA o4.2 2),U (wrap .u64 (2*gA o4.2 1)),U (wrap .u64 (2*gA o4.2 1)),B (decide (gA o4.2 0<0))]).bind λS=>
 cond (bA S 0) (cond (decide (gA o4.2 0<0)) (some [I (O (0-O (wrap .u64 (gA o4.2 3+1))))]) (some [I (O (wrap .u64 (gA o4.2 3+1)))])) (cond (decide (gA o4.2 0<0)) (some [I (O (0-O (gA o4.2 3)))]) (some [I (O (gA o4.2 3))]))) (none):=by kernel_rfl
def Zhi:=Al (Mw OS)
def HX:=Qp4 OS Zhi
theorem Q1d:Ai PG (Ql9 OS):=An rfl ⟨Z23,trivial⟩
theorem Q3g:Ak PG (Zgo HX):=rw2 (C:=Q1q OS Zhi) (fl fb Q1d) Q1d
def Qsr:Sk:=⟨[TS.v true [ci,ci,ci],TS.v true [ci,ci,ci],tf [ci]],[],[]⟩
def Qpj:Sk:=⟨[TS.tup [(true,[ci,ci,ci]),(false,[sb])]],[],[]⟩
def Zav:=qd 226 Qsr Qpj
def Qp8 (D G:Fn):Cfg:={cf [Zgo D,Qa3 G]with unroll:=[6]}
def Qcy (D G:Fn):Fn:=Am PG (Qp8 D G) 64 226 Qsr Qpj
theorem Z2s (G V:Fn) (L M N S T U D:Int):Qcy G V [I L,I M,I N,I S,I T,I U,I D]=
 (V [I S,I T,I U,I L,I M,I N]).bind λo4=>
 cond (gA o4 0==0) (some [I 0,I 0,I 0,B false]) (cond (decide (D<0)) (some [I 0,I 0,I 0,B false]) (cond (decide (D>33554432)) (some [I 0,I 0,I 0,B false]) ((G [I (O (S-L)),I D,jA o4 0]).bind λX=>
 (G [I (O (T-M)),I D,jA o4 0]).bind λo6=>
 (G [I (O (U-N)),I D,jA o4 0]).bind λY=>
 some [I (O (L+gA X 0)),I (O (M+gA o6 0)),I (O (N+gA Y 0)),B true]))):=by kernel_rfl
def HJ:=Qcy HX Hd
theorem Zu7:Ai PG (Qp8 HX Hd):=An rfl ⟨Q3g,Qm7,trivial⟩
theorem Zbz:Ak PG (Zav HJ):=rw1 (C:=Qp8 HX Hd) Zu7
def Wa:Sk:=⟨[TS.v true [ci,ci,ci],TS.v true [ci,ci,ci],TS.v true [ci,ci,ci],tf [ci],tf [ci]],[],[]⟩
def Ye9:=qd 253 Wa V1
def Qqv (D G I:Fn):Cfg:=cf [Q8u D,Zav G,Q3p I]
def Qci (D G I:Fn):Fn:=Am PG (Qqv D G I) 64 253 Wa V1
theorem Z24 (DZ N S:Fn) (T U V G L M X Y x8 x9 D:Int):Qci DZ N S [I T,I U,I V,I G,I L,I M,I X,I Y,I x8,I x9,I D]=
 (S [I T,I U,I V,I G,I L,I M]).bind λo5=>
 (S [I G,I L,I M,I X,I Y,I x8]).bind λo6=>
 cond (decide (D>O (mn (gA o5 0) (gA o6 0)-2))) (some [B false]) ((N [I G,I L,I M,I T,I U,I V,I D]).bind λo7=>
 (N [I G,I L,I M,I X,I Y,I x8,I D]).bind λo8=>
 (DZ [jA o7 0,jA o7 1,jA o7 2,I G,I L,I M,jA o8 0,jA o8 1,jA o8 2]).bind λo9=>
 some [B (decide (gA o9 0<=O (O (16*x9)*x9)))]):=by kernel_rfl
def Jg:=Qci IH HJ Gg
theorem Zq6:Ai PG (Qqv IH HJ Gg):=An rfl ⟨Zck,Zbz,Qzy,trivial⟩
theorem Ygx:Ak PG (Ye9 Jg):=rw1 (C:=Qqv IH HJ Gg) Zq6
def Qs5:Sk:=⟨[TS.v true [ci,ci,ci],TS.v true [ci,ci,ci],TS.v true [ci,ci,ci],tf [ci]],[],[]⟩
def Z6b:=qd 225 Qs5 Y3
def ZQ (D:Fn):Cfg:=cf [Ye9 D]
def Q5f:Sk:=⟨[td,td,td,tf [ci],tf [sd 4 0],tf [sd 5 0],tf [sd 6 0],td,td,tf [ci],tf [ci]]++dd 26,[(4,42,[ci,ci,ci]),(5,42,[ci,ci,ci]),(6,42,[ci,ci,ci])],[]⟩
def Q0r:List (Ex×Sk):=[(Ex.exit 0,⟨dd 9++[tf [ci]]++dd 27,[],[]⟩)]
def J9 (D:Fn):Lp:=AG PG (ZQ D) 64 5 (AH PG 225 5) Q5f Q0r
def Q2a (D:Fn) (G:Lp):Cfg:=(ZQ D).loop 5 Q5f Q0r G
def Qmo (D:Fn) (G:Lp):Fn:=Am PG (Q2a D G) 64 225 Qs5 Y3
theorem W0 (Y:Fn) (L G D M N S T U V X v10 v11:Int):J9 Y [I L,I G,I D,I M,I N,I S,I T,I U,I V,I X,I v10,I v11]=
 cond (decide (D>0)) ((Y [I M,I N,I S,I T,I U,I V,I X,I v10,I v11,I L,I (O (G+D))]).bind λo2=>
 cond (bA o2 0) (some (0,[I L,I (O (G+D)),I (D.fdiv (2^min (Int.toNat 1) IntKind.i64.bits)),I M,I N,I S,I T,I U,I V,I X,I v10,I v11])) (some (0,[I L,I G,I (D.fdiv (2^min (Int.toNat 1) IntKind.i64.bits)),I M,I N,I S,I T,I U,I V,I X,I v10,I v11]))) (some (1,[I G])):=by kernel_rfl
theorem Ycp (Y:Fn) (V:Lp) (M N O D G L S T U X:Int):Qmo Y V [I M,I N,I O,I D,I G,I L,I S,I T,I U,I X]=
 cond (M==D&&(N==G&&(O==L&&true))) (some [I 0]) (cond (S==D&&(T==G&&(U==L&&true))) (some [I 0]) ((V [I X,I 0,I 16777216,I M,I N,I O,I D,I G,I L,I S,I T,I U]).bind λo3=>
 cond (o3.1.beq 1) (cond (decide (gA o3.2 0<16)) (some [I 0]) (some [jA o3.2 0])) (none))):=by kernel_rfl
def Q08:=Al (J9 Jg)
def Lh:=Qmo Jg Q08
theorem Q2g:Ai PG (ZQ Jg):=An rfl ⟨Ygx,trivial⟩
theorem Zus:Ak PG (Z6b Lh):=rw2 (C:=Q2a Jg Q08) (fl fb Q2g) Q2g
def Yjy:=qd 168 Qs5 Qqk
def Qam (D G I L:Fn):Cfg:={cf [Q71 D,Zt1 G,Zav I,Z6b L]with prom:=λb=>cond (Nat.beq b 9) ([(15,42)]) ([]),unroll:=[13]}
def Zd6:Sk:=⟨[td,td,td,td,td,tf [sd 5 0],td,td,td,td,tf [sd 10 0],td,tf [sd 12 0],td,tf [ci],tf [se 15 3],tf [ci]]++dd 80,[(5,42,[ci,ci,ci]),(10,42,[ci,ci,ci]),(12,42,[ci,ci,ci])],[(15,42,kPt)]⟩
def Q5m:List (Ex×Sk):=[(Ex.exit 0,⟨dd 15++[tf [se 15 3]]++dd 81,[],[(15,42,kPt)]⟩)]
def Ny (D G I L:Fn):Lp:=AG PG (Qam D G I L) 64 9 (AH PG 168 9) Zd6 Q5m
def Zh4 (D G I L:Fn) (M:Lp):Cfg:=(Qam D G I L).loop 9 Zd6 Q5m M
def Qmn (D G I L:Fn) (M:Lp):Fn:=Am PG (Zh4 D G I L M) 64 168 Qs5 Qqk
theorem Q8j (V GK Du Hy:Fn) (X:Rw) (D G L M N Y v7 v8 v9 v10 v11:Int):Ny V GK Du Hy [.vC kPt X,I D,I G,I L,I M,I N,I Y,I v7,I v8,I v9,I v10,I v11]=
 cond (decide (G<=D)) ((V [I (O (O (O (O (D-G)*O (D-G))*O (Y-L))+O (O (G*G)*O (v9-L)))),I (O (D*D))]).bind λS=>
 (V [I (O (O (O (O (D-G)*O (D-G))*O (v7-M))+O (O (G*G)*O (v10-M)))),I (O (D*D))]).bind λT=>
 (V [I (O (O (O (O (D-G)*O (D-G))*O (v8-N))+O (O (G*G)*O (v11-N)))),I (O (D*D))]).bind λU=>
 cond (((X++[[I (O (L+gA S 0)),I (O (M+gA T 0)),I (O (N+gA U 0))]]).length*24).ble 140737488355328) (some (0,[.vC kPt (X++[[I (O (L+gA S 0)),I (O (M+gA T 0)),I (O (N+gA U 0))]]),I D,I (O (G+1)),I L,I M,I N,I Y,I v7,I v8,I v9,I v10,I v11])) (none)) (some (1,[.vC kPt X])):=by kernel_rfl
theorem Qy1 (Dj GK T Hy:Fn) (N9:Lp) (U V X L M N Y x7 x8 x9:Int):Qmn Dj GK T Hy N9 [I U,I V,I X,I L,I M,I N,I Y,I x7,I x8,I x9]=
 (Hy [I U,I V,I X,I L,I M,I N,I Y,I x7,I x8,I x9]).bind λO=>
 cond (gA O 0==0) (some [.vC kPt [[I L,I M,I N]]]) ((T [I L,I M,I N,I U,I V,I X,jA O 0]).bind λD=>
 (T [I L,I M,I N,I Y,I x7,I x8,jA O 0]).bind λG=>
 (GK [jA D 0,jA D 1,jA D 2,I L,I M,I N,jA G 0,jA G 1,jA G 2]).bind λa0=>
 (N9 [.vC kPt [],jA a0 0,I 0,I L,I M,I N,jA D 0,jA D 1,jA D 2,jA G 0,jA G 1,jA G 2]).bind λS=>
 cond (S.1.beq 1) (some [.vC kPt (wA S.2 0)]) (none)):=by kernel_rfl
def Zeu:=Al (Ny F3 JQ HJ Lh)
def Qu:=Qmn F3 JQ HJ Lh Zeu
theorem Q46:Ai PG (Qam F3 JQ HJ Lh):=An rfl ⟨Qyv,Zxc,Zbz,Zus,trivial⟩
theorem Yew:Ak PG (Yjy Qu):=rw2 (C:=Zh4 F3 JQ HJ Lh Zeu) (fl fb Q46) Q46
def Quz:=qd 68 Quv Quv
def Qy5:Fn:=Am PG Qjw 64 68 Quv Quv
theorem Zqd (D G L:Int):Qy5 [I D,I G,I L]=
 some [I (O (D*16)),I (O (G*16)),I (O (L*16))]:=by kernel_rfl
def Ek:=Qy5
theorem Z9p:Ai PG (Qjw):=An rfl trivial
theorem Yl:Ak PG (Quz Ek):=rw1 (C:=Qjw) Z9p
def Zq:Sk:=⟨[tf [sa Ae],tf [ci],tf [ci]],[],[]⟩
def Yeo:=qd 117 Zq Qqk
def Qgp (D G I:Fn):Cfg:=cf [Yjy D,Quz G,Q33 I]
def XR (D G I:Fn):Fn:=Am PG (Qgp D G I) 64 117 Zq Qqk
theorem Zvc (S T M:Fn) (G:Rw) (D L:Int):XR S T M [.vC Ae G,I D,I L]=
 cond (decide (0<=D)&&decide (D<(G.length:Int))) ((M (AE Ae (nth [] G D.toNat))).bind λo4=>
 cond (decide (0<=D)&&decide (D<(G.length:Int))) ((T [jA (nth [] G D.toNat) 5,jA (nth [] G D.toNat) 6,jA (nth [] G D.toNat) 7]).bind λN=>
 cond (decide (0<=L)&&decide (L<(G.length:Int))) ((M (AE Ae (nth [] G L.toNat))).bind λo6=>
 cond (decide (0<=D)&&decide (D<(G.length:Int))) ((S [jA o4 0,jA o4 1,jA o4 2,jA N 0,jA N 1,jA N 2,jA o6 0,jA o6 1,jA o6 2,I (O (gA (nth [] G D.toNat) 18*16))]).bind λU=>
 some [.vC kPt (wA U 0)]) (none)) (none)) (none)) (none):=by kernel_rfl
def Qf:=XR Qu Ek JI
theorem Zsp:Ai PG (Qgp Qu Ek JI):=An rfl ⟨Yew,Yl,Qzt,trivial⟩
theorem Ztk:Ak PG (Yeo Qf):=rw1 (C:=Qgp Qu Ek JI) Zsp
def Wk:Sk:=⟨[tf [ci],tf [ci],tf [ci],tf [ci]],[],[]⟩
def Q72:=qd 137 Wk Quv
def Zji:Fn:=Am PG Qjw 64 137 Wk Quv
theorem Ygl (D G L M:Int):Zji [I D,I G,I L,I M]=
 cond (M==17) (some [I D,I G,I L]) (cond (M==18) (some [I G,I L,I D]) (cond (M==19) (some [I L,I D,I G]) (some [I 0,I 0,I 0]))):=by kernel_rfl
def Ix:=Zji
theorem Zvw:Ai PG (Qjw):=An rfl trivial
theorem Q0q:Ak PG (Q72 Ix):=rw1 (C:=Qjw) Zvw
def Qg5:Sk:=⟨[TS.v true [ci,ci,ci],tf [ci]],[],[]⟩
def Qm1:Sk:=⟨[TS.tup [(false,[ci]),(false,[ci]),(false,[ci])]],[],[]⟩
def Qsa:=qd 135 Qg5 Qm1
def Q2b:Fn:=Am PG Qjw 64 135 Qg5 Qm1
theorem Zxq (D G L M:Int):Q2b [I D,I G,I L,I M]=
 cond (M==17) (some [I D,I G,I L]) (cond (M==18) (some [I L,I D,I G]) (cond (M==19) (some [I G,I L,I D]) (some [I 0,I 0,I 0]))):=by kernel_rfl
def Gl:=Q2b
theorem Yeu:Ai PG (Qjw):=An rfl trivial
theorem Qoi:Ak PG (Qsa Gl):=rw1 (C:=Qjw) Yeu
def Yh1:=qd 276 ZA Y3
def Zcw:Fn:=Am PG Qjw 64 276 ZA Y3
theorem Zlx (D G:Int):Zcw [I D,I G]=
 some [I ((O (O (D+G)+1)).fdiv (2^min (Int.toNat 1) IntKind.i64.bits))]:=by kernel_rfl
def NF:=Zcw
theorem Zl3:Ai PG (Qjw):=An rfl trivial
theorem Zqq:Ak PG (Yh1 NF):=rw1 (C:=Qjw) Zl3
def YV:Sk:=⟨[TS.v true [ci,ci,ci,ci],TS.v true [ci,ci,ci,ci]],[],[]⟩
def Qid:=qd 222 YV Y3
def Q7c:Fn:=Am PG Qjw 64 222 YV Y3
theorem Yh0 (D G N S L M T U:Int):Q7c [I D,I G,I N,I S,I L,I M,I T,I U]=
 some [I (O (O (D*M)-O (G*L)))]:=by kernel_rfl
def GM:=Q7c
theorem Z2v:Ai PG (Qjw):=An rfl trivial
theorem Qsj:Ak PG (Qid GM):=rw1 (C:=Qjw) Z2v
def XC:=qd 220 YV Y3
def Zdi:Fn:=Am PG Qjw 64 220 YV Y3
theorem Zsb (D G N S L M T U:Int):Zdi [I D,I G,I N,I S,I L,I M,I T,I U]=
 some [I (O (O (D*L)+O (G*M)))]:=by kernel_rfl
def Ga:=Zdi
theorem Z2w:Ai PG (Qjw):=An rfl trivial
theorem Xk:Ak PG (XC Ga):=rw1 (C:=Qjw) Z2w
def Qdt:Sk:=⟨[TS.v true [ci,ci,ci,ci],TS.v true [ci,ci,ci,ci],tf [ci],tf [sb]],[],[]⟩
def Y_:Sk:=⟨[TS.tup [(true,[ci,ci,ci,ci]),(false,[sb])]],[],[]⟩
def Zxg:=qd 252 Qdt Y_
def Qi8 (D G I L:Fn):Cfg:=cf [Zgo D,Yh1 G,Qid I,XC L]
def Qqo (D G I L:Fn):Fn:=Am PG (Qi8 D G I L) 64 252 Qdt Y_
abbrev QD (DU:Fn) (x2 x6:Int) (Cd:Fn) (x3 x7:Int) (O S:Bool) (M D N:AC):Option (List AC):=
 cond (O) (cond (S) (some [I 0,I 0,I 0,I 0,B false]) ((DU [I x2,I x6]).bind λG=>
 (Cd [M,jA G 0,D]).bind λT=>
 (Cd [N,jA G 0,D]).bind λU=>
 (DU [I x3,I x7]).bind λV=>
 some [jA T 0,jA U 0,jA G 0,jA V 0,B true])) ((DU [I x2,I x6]).bind λL=>
 (Cd [M,jA L 0,D]).bind λX=>
 (Cd [N,jA L 0,D]).bind λY=>
 (DU [I x3,I x7]).bind λa0=>
 some [jA X 0,jA Y 0,jA L 0,jA a0 0,B true])
abbrev Qu8 (Br:Fn) (D G T U L M V X:Int) (Y Cd:Fn) (N:Int):Option (List AC):=
 (Br [I D,I G,I T,I U,I L,I M,I V,I X]).bind λS=>
 cond (decide (gA S 0>0)) (QD Y T V Cd U X (O (0-O (D+L))==0) (O (0-O (G+M))==0) (I (O (0-O (D+L)))) (I (O (O (O (0-O (D+L))*O (0-O (D+L)))+O (O (0-O (G+M))*O (0-O (G+M)))))) (I (O (0-O (G+M))))) (QD Y T V Cd U X (O (N*O (M-G))==0) (O (N*O (D-L))==0) (I (O (N*O (M-G)))) (I (O (O (O (N*O (M-G))*O (N*O (M-G)))+O (O (N*O (D-L))*O (N*O (D-L)))))) (I (O (N*O (D-L)))))
abbrev V7 (x9:Bool) (Y:Fn) (N S:Int) (Cd:Fn) (T U D G:Int) (Br:Fn) (L M:Int) (BG:Fn) (x8:Int):Option (List AC):=
 cond (x9) (QD Y N S Cd T U (O (0-D)==0) (O (0-G)==0) (I (O (0-D))) (I (O (O (O (0-D)*O (0-D))+O (O (0-G)*O (0-G))))) (I (O (0-G)))) ((Br [I D,I G,I N,I T,I L,I M,I S,I U]).bind λV=>
 cond (decide (gA V 0>0)) ((BG [I D,I G,I N,I T,I L,I M,I S,I U]).bind λX=>
 cond (decide (O (gA X 0*x8)>0)) (QD Y N S Cd T U (O (D+L)==0) (O (G+M)==0) (I (O (D+L))) (I (O (O (O (D+L)*O (D+L))+O (O (G+M)*O (G+M))))) (I (O (G+M)))) (Qu8 Br D G N T L M S U Y Cd x8)) (Qu8 Br D G N T L M S U Y Cd x8))
theorem Zun (G L M N:Fn) (O S T U V X Y x7 D:Int) (x9:Bool):Qqo G L M N [I O,I S,I T,I U,I V,I X,I Y,I x7,I D,B x9]=
 cond (D !=1) (cond (D != -1) (some [I 0,I 0,I 0,I 0,B false]) (V7 x9 L T Y G U x7 O S N V X M D)) (V7 x9 L T Y G U x7 O S N V X M D):=by kernel_rfl
def Mx:=Qqo HX NF GM Ga
theorem Zwl:Ai PG (Qi8 HX NF GM Ga):=An rfl ⟨Q3g,Zqq,Qsj,Xk,trivial⟩
theorem Ztz:Ak PG (Zxg Mx):=rw1 (C:=Qi8 HX NF GM Ga) Zwl
def Zpx:=qd 275 ZA V1
def Q55:Fn:=Am PG Qjw 64 275 ZA V1
theorem Zlh (D G:Int):Q55 [I D,I G]=
 some [B (decide (G<=O (O (O (8*D)*4)-64)))]:=by kernel_rfl
def NC:=Q55
theorem Zs2:Ai PG (Qjw):=An rfl trivial
theorem Zu0:Ak PG (Zpx NC):=rw1 (C:=Qjw) Zs2
def Zq9:=qd 251 Qdt V1
def Qtc (D G:Fn):Cfg:=cf [Zpx D,Qid G]
def Qll (D G:Fn):Fn:=Am PG (Qtc D G) 64 251 Qdt V1
theorem Zq0 (T U:Fn) (D G N V L M S X Y:Int) (x9:Bool):Qll T U [I D,I G,I N,I V,I L,I M,I S,I X,I Y,B x9]=
 cond (!x9) ((U [I D,I G,I N,I V,I L,I M,I S,I X]).bind λo2=>
 cond (decide (O (gA o2 0*Y)>0)) ((T [I (mn N S),I (O (O (O (D-L)*O (D-L))+O (O (G-M)*O (G-M))))]).bind λo3=>
 some [B (bA o3 0)]) (some [B false])) (some [B false]):=by kernel_rfl
def K6:=Qll NC GM
theorem Z5z:Ai PG (Qtc NC GM):=An rfl ⟨Zu0,Qsj,trivial⟩
theorem Z9c:Ak PG (Zq9 K6):=rw1 (C:=Qtc NC GM) Z5z
def Za5:Nat:=20
def Ls:Sk:=⟨[TS.v true [ci,ci,ci,ci],TS.v true [ci,ci,ci,ci],tf [ci],tf [sb],tf [ci]],[],[]⟩
def LG:Sk:=⟨[tf [se 103700 4]],[],[(103700,228,[kI,kI,kI,kI])]⟩
def Zjm:=qd 224 Ls LG
def Qcr (D Pz G:Fn):Cfg:={cp [Zjm D,Zxg Pz,Zq9 G] [224]with rowDst:=[23],rowAs:=λd=>cond (Nat.beq d 23) (103700) (d),ownRes:=true}
def Ue (D Pz G:Fn):Fn:=Am PG (Qcr D Pz G) 64 224 Ls LG
theorem Ziz (FK Pz Nr:Fn) (U V X Y L M N S T:Int) (x9:Bool) (D:Int):Ue FK Pz Nr [I U,I V,I X,I Y,I L,I M,I N,I S,I T,B x9,I D]=
 cond (decide (D>=16)) (some [.vC [kI,kI,kI,kI] [[I L,I M,I N,I S]]]) ((Nr [I U,I V,I X,I Y,I L,I M,I N,I S,I T,B x9]).bind λo4=>
 cond (bA o4 0) (some [.vC [kI,kI,kI,kI] [[I L,I M,I N,I S]]]) ((Pz [I U,I V,I X,I Y,I L,I M,I N,I S,I T,B x9]).bind λG=>
 (FK [I U,I V,I X,I Y,jA G 0,jA G 1,jA G 2,jA G 3,I T,B false,I (O (D+1))]).bind λo6=>
 (FK [jA G 0,jA G 1,jA G 2,jA G 3,I L,I M,I N,I S,I T,B false,I (O (D+1))]).bind λo7=>
 cond (((wA o6 0++wA o7 0).length*32).ble 140737488355328) (some [.vC [kI,kI,kI,kI] (wA o6 0++wA o7 0)]) (none))):=by kernel_rfl
def Qvv (M:Fn):Fn:=Ue M Mx K6
def M_:Nat->Fn
 |0=>λ_=>none
 |n+1=>Qvv (M_ n)
theorem Zz9 {M:Fn} (h:Ak PG (224,Ab Ls LG M)):Ai PG (Qcr M Mx K6):=An rfl ⟨h,Ztz,Z9c,trivial⟩
theorem Z8u {M:Fn} (h:Ak PG (224,Ab Ls LG M)):Ak PG (224,Ab Ls LG (Qvv M)):=Vr (C:=Qcr M Mx K6) (L:=64) (by kernel_rfl) (FnOK.bare rfl rfl rfl) (Zz9 h) eqOk GI (by kernel_rfl) (by kernel_rfl)
theorem Q2o:∀n,Ak PG (224,Ab Ls LG (M_ n))
 |0=>F0
 |n+1=>Z8u (Q2o n)
def Su:=M_ Za5
theorem Zuk:Ak PG (Zjm Su):=Q2o Za5
def Qka:Sk:=⟨[TS.v true [ci,ci,ci,ci]],[],[]⟩
def Zxi:=qd 250 Qka Qka
def Qf8 (D G:Fn):Cfg:=cf [Qyn D,XC G]
def ZD (D G:Fn):Fn:=Am PG (Qf8 D G) 64 250 Qka Qka
theorem Z27 (M N:Fn) (D G S L:Int):ZD M N [I D,I G,I S,I L]=
 (N [I (O (D*16)),I (O (G*16)),I 0,I (O (L*16)),I (O (D*16)),I (O (G*16)),I 0,I (O (L*16))]).bind λo2=>
 (M [jA o2 0]).bind λo3=>
 cond (decide (O (gA o3 0*O (gA o3 0+1))<gA o2 0)) (some [I (O (D*16)),I (O (G*16)),I (O (gA o3 0+1)),I (O (L*16))]) (some [I (O (D*16)),I (O (G*16)),jA o3 0,I (O (L*16))]):=by kernel_rfl
def R_:=ZD Jn Ga
theorem Z1p:Ai PG (Qf8 Jn Ga):=An rfl ⟨Q3c,Xk,trivial⟩
theorem Zyl:Ak PG (Zxi R_):=rw1 (C:=Qf8 Jn Ga) Z1p
def Qh0:Sk:=⟨[TS.tup [(true,[ci,ci,ci,ci]),(true,[ci,ci,ci,ci])]],[],[]⟩
def Qvx:=qd 219 Qnx Qh0
def Qme (D:Fn):Cfg:=cf [Qsa D]
def Yt (D:Fn):Fn:=Am PG (Qme D) 64 219 Qnx Qh0
theorem Zlv (L:Fn) (x0 x1 x2 x3 x4 x5 x6 x7 M x9 D G N:Int) (S:Bool) (T:Int) (U:Bool) (V X Y a0 a1:Int) (a2:Bool):Yt L [I x0,I x1,I x2,I x3,I x4,I x5,I x6,I x7,I M,I x9,I D,I G,I N,B S,I T,B U,I V,I X,I Y,I a0,I a1,B a2]=
 (L [I x9,I D,I G,I M]).bind λo3=>
 (L [I x2,I x3,I x4,I M]).bind λo4=>
 (L [I x5,I x6,I x7,I M]).bind λo5=>
 some [I (O (gA o4 0-gA o3 0)),I (O (gA o4 1-gA o3 1)),I 0,jA o4 2,I (O (gA o5 0-gA o3 0)),I (O (gA o5 1-gA o3 1)),I 0,jA o5 2]:=by kernel_rfl
def Kq:=Yt Gl
theorem Zse:Ai PG (Qme Gl):=An rfl ⟨Qoi,trivial⟩
theorem Zio:Ak PG (Qvx Kq):=rw1 (C:=Qme Gl) Zse
def Ykl:=qd 223 Qnx Qh0
def Qqw (D G:Fn):Cfg:=cf [Zxi D,Qvx G]
def Qec (D G:Fn):Fn:=Am PG (Qqw D G) 64 223 Qnx Qh0
theorem Z56 (LH DG:Fn) (x0 x1 x2 x3 x4 x5 x6 x7 x8 x9 D G L:Int) (M:Bool) (N:Int) (O:Bool) (S T U V X:Int) (Y:Bool):Qec LH DG [I x0,I x1,I x2,I x3,I x4,I x5,I x6,I x7,I x8,I x9,I D,I G,I L,B M,I N,B O,I S,I T,I U,I V,I X,B Y]=
 (DG [I x0,I x1,I x2,I x3,I x4,I x5,I x6,I x7,I x8,I x9,I D,I G,I L,B M,I N,B O,I S,I T,I U,I V,I X,B Y]).bind λo3=>
 (LH [jA o3 0,jA o3 1,jA o3 2,jA o3 3]).bind λo4=>
 (LH [jA o3 4,jA o3 5,jA o3 6,jA o3 7]).bind λo5=>
 some [jA o4 0,jA o4 1,jA o4 2,jA o4 3,jA o5 0,jA o5 1,jA o5 2,jA o5 3]:=by kernel_rfl
def Qj:=Qec R_ Kq
theorem Ybz:Ai PG (Qqw R_ Kq):=An rfl ⟨Zyl,Zio,trivial⟩
theorem Z5k:Ak PG (Ykl Qj):=rw1 (C:=Qqw R_ Kq) Ybz
def Qd9:Sk:=⟨[tf [sa [Kd.int .u64]],tf [sa [Kd.int .u64]]],[],[]⟩
def Yh7:=qd 248 Qd9 Y3
def Q65:Sk:=⟨[tf [sa [Kd.int .u64]],tf [sa [Kd.int .u64]],td,td,td,tf [ci]]++dd 35,[],[]⟩
def Zg6:List (Ex×Sk):=[(Ex.ret,⟨[td,td,td,td,tf [ci]]++dd 36,[],[]⟩),(Ex.exit 0,⟨[td]++dd 40,[],[]⟩)]
def VK:Lp:=AG PG Qjw 64 6 (AH PG 248 6) Q65 Zg6
def Q1x (D:Lp):Cfg:=Qjw.loop 6 Q65 Zg6 D
def Qz5 (D:Lp):Fn:=Am PG (Q1x D) 64 248 Qd9 Y3
theorem Zhb (G L:Rw) (D:Int):VK [.vC [Kd.int .u64] G, .vC [Kd.int .u64] L,I D]=
 cond (decide (D>=0)) (cond (decide (0<=D)&&decide (D<(G.length:Int))) (cond (decide (0<=D)&&decide (D<(L.length:Int))) (cond (decide (Ah (nth .vD (nth [] G D.toNat) 0)<Ah (nth .vD (nth [] L D.toNat) 0))) (some (1,[I (-1)])) (cond (decide (0<=D)&&decide (D<(G.length:Int))) (cond (decide (0<=D)&&decide (D<(L.length:Int))) (cond (decide (Ah (nth .vD (nth [] G D.toNat) 0)>Ah (nth .vD (nth [] L D.toNat) 0))) (some (1,[I 1])) (some (0,[.vC [Kd.int IntKind.u64] G, .vC [Kd.int IntKind.u64] L,I (O (D-1))]))) (none)) (none))) (none)) (none)) (some (2,[])):=by kernel_rfl
theorem Z2x (L:Lp) (D G:Rw):Qz5 L [.vC [Kd.int .u64] D, .vC [Kd.int .u64] G]=
 cond ((D.length:Int) !=(G.length:Int)) (cond (decide ((D.length:Int)<(G.length:Int))) (some [I (-1)]) (some [I 1])) ((L [.vC [Kd.int IntKind.u64] D, .vC [Kd.int IntKind.u64] G,I (O ((D.length:Int)-1))]).bind λo1=>
 cond (o1.1.beq 1) (some [I (Ah (nth .vD o1.2 0))]) (cond (o1.1.beq 2) (some [I 0]) (none))):=by kernel_rfl
def Ro:=Al (VK)
def Nf:=Qz5 Ro
theorem Zhv:Ai PG (Qjw):=An rfl trivial
theorem Z3r:Ak PG (Yh7 Nf):=rw2 (C:=Q1x Ro) (fl fb Zhv) Zhv
def Qkq:Sk:=⟨[tf [sa [Kd.int .u64]]],[],[]⟩
def Zyr:=qd 291 Qkq Qkq
def Q2n:Sk:=⟨[tf [sa [Kd.int .u64]]]++dd 20,[],[]⟩
def Zil:List (Ex×Sk):=[(Ex.exit 0,⟨[tf [sa [Kd.int .u64]]]++dd 20,[],[]⟩)]
def Qo2:Lp:=AG PG Qjw 64 1 (AH PG 291 1) Q2n Zil
def Q7b (D:Lp):Cfg:=Qjw.loop 1 Q2n Zil D
def Q64 (D:Lp):Fn:=Am PG (Q7b D) 64 291 Qkq Qkq
theorem Zii (D:Rw):Qo2 [.vC [Kd.int .u64] D]=
 cond (decide ((D.length:Int)>0)) (cond (decide (0<=O ((D.length:Int)-1))&&decide (O ((D.length:Int)-1)<(D.length:Int))) (cond (Ah (nth .vD (nth [] D (O ((D.length:Int)-1)).toNat) 0)==0) (cond (decide (0<=O ((D.length:Int)-1))&&decide (O ((D.length:Int)-1)<=(D.length:Int))) (some (0,[.vC [Kd.int IntKind.u64] (List.take (O ((D.length:Int)-1)).toNat D)])) (none)) (some (1,[.vC [Kd.int IntKind.u64] D]))) (none)) (some (1,[.vC [Kd.int IntKind.u64] D])):=by kernel_rfl
theorem Zro (D:Lp) (G:Rw):Q64 D [.vC [Kd.int .u64] G]=
 (D [.vC [Kd.int IntKind.u64] G]).bind λo1=>
 cond (o1.1.beq 1) (some [.vC [Kd.int IntKind.u64] (AX (nth .vD o1.2 0))]) (none):=by kernel_rfl
def OJ:=Al (Qo2)
def KP:=Q64 OJ
theorem Q77:Ai PG (Qjw):=An rfl trivial
theorem Zo9:Ak PG (Zyr KP):=rw2 (C:=Q7b OJ) (fl fb Q77) Q77
def Z2o:=qd 272 Qd9 Qkq
def Qlv (D:Fn):Cfg:=cf [Zyr D]
def Q0v:Sk:=⟨[tf [sa [Kd.int .u64]],tf [sa [Kd.int .u64]],td,td,td,tf [se 15 1],tf [ci],tf [si .u64],tf [ci]]++dd 63,[],[(15,195,[Kd.int .u64])]⟩
def Zh8:List (Ex×Sk):=[(Ex.exit 2,⟨[tf [sa [Kd.int .u64]],tf [sa [Kd.int .u64]],td,td,td,tf [se 15 1],tf [ci],tf [si .u64]]++dd 64,[],[(15,195,[Kd.int .u64])]⟩)]
def HA (D:Fn):Lp:=AG PG (Qlv D) 64 7 (AH PG 272 7) Q0v Zh8
def Qvp (D:Fn) (G:Lp):Cfg:=(Qlv D).loop 7 Q0v Zh8 G
def Qzd:Sk:=⟨[tf [sa [Kd.int .u64]],tf [sa [Kd.int .u64]],td,td,td,tf [se 15 1],tf [ci]]++dd 65,[],[(15,195,[Kd.int .u64])]⟩
def Qwy:List (Ex×Sk):=[(Ex.exit 0,⟨[td,td,td,td,td,tf [se 15 1]]++dd 66,[],[(15,195,[Kd.int .u64])]⟩)]
def Ne (D:Fn) (G:Lp):Lp:=AG PG (Qvp D G) 64 3 (AH PG 272 3) Qzd Qwy
def Q38 (D:Fn) (G I:Lp):Cfg:=(Qvp D G).loop 3 Qzd Qwy I
def Qlx (D:Fn) (G I:Lp):Fn:=Am PG (Q38 D G I) 64 272 Qd9 Qkq
theorem Qze (T:Fn) (L N M:Rw) (D S G:Int):HA T [.vC [Kd.int .u64] L, .vC [Kd.int .u64] N, .vC [Kd.int .u64] M,I D,U S,I G]=
 cond (decide (G<(M.length:Int))) (cond (decide (0<=O (D+G))&&decide (O (D+G)<(L.length:Int))) (cond (decide (0<=D)&&decide (D<(N.length:Int))) (cond (decide (0<=G)&&decide (G<(M.length:Int))) (cond (decide (0<=O (D+G))&&decide (O (D+G)<(L.length:Int))) (some (0,[.vC [Kd.int IntKind.u64] (L.set (O (D+G)).toNat [U (wrap .u64 (↑(BitVec.ofInt IntKind.u64.bits (wrap .u64 (wrap .u64 (Ah (nth .vD (nth [] L (O (D+G)).toNat) 0)+wrap .u64 (Ah (nth .vD (nth [] N D.toNat) 0)*Ah (nth .vD (nth [] M G.toNat) 0)))+S))&&&BitVec.ofInt IntKind.u64.bits 65535).toNat:Int))]), .vC [Kd.int IntKind.u64] N, .vC [Kd.int IntKind.u64] M,I D,U ((wrap .u64 (wrap .u64 (Ah (nth .vD (nth [] L (O (D+G)).toNat) 0)+wrap .u64 (Ah (nth .vD (nth [] N D.toNat) 0)*Ah (nth .vD (nth [] M G.toNat) 0)))+S)).fdiv (2^min (Int.toNat 16) IntKind.u64.bits)),I (O (G+1))])) (none)) (none)) (none)) (none)) (some (1,[.vC [Kd.int IntKind.u64] L, .vC [Kd.int IntKind.u64] N, .vC [Kd.int IntKind.u64] M,I D,U S])):=by kernel_rfl
theorem Q6c (S:Fn) (M:Lp) (D G N:Rw) (L:Int):Ne S M [.vC [Kd.int .u64] D, .vC [Kd.int .u64] G, .vC [Kd.int .u64] N,I L]=
 cond (decide (L<(G.length:Int))) ((M [.vC [Kd.int IntKind.u64] D, .vC [Kd.int IntKind.u64] G, .vC [Kd.int IntKind.u64] N,I L,U 0,I 0]).bind λo3=>
 cond (o3.1.beq 1) (cond (decide (0<=O (Ah (nth .vD o3.2 3)+(↑(AX (nth .vD o3.2 2)).length:Int)))&&decide (O (Ah (nth .vD o3.2 3)+(↑(AX (nth .vD o3.2 2)).length:Int))<(↑(AX (nth .vD o3.2 0)).length:Int))) (cond (decide (0<=O (Ah (nth .vD o3.2 3)+(↑(AX (nth .vD o3.2 2)).length:Int)))&&decide (O (Ah (nth .vD o3.2 3)+(↑(AX (nth .vD o3.2 2)).length:Int))<(↑(AX (nth .vD o3.2 0)).length:Int))) (some (0,[.vC [Kd.int IntKind.u64] ((AX (nth .vD o3.2 0)).set (O (Ah (nth .vD o3.2 3)+(↑(AX (nth .vD o3.2 2)).length:Int))).toNat [U (wrap .u64 (Ah (nth .vD (nth [] (AX (nth .vD o3.2 0)) (O (Ah (nth .vD o3.2 3)+(↑(AX (nth .vD o3.2 2)).length:Int))).toNat) 0)+Ah (nth .vD o3.2 4)))]), .vC [Kd.int IntKind.u64] (AX (nth .vD o3.2 1)), .vC [Kd.int IntKind.u64] (AX (nth .vD o3.2 2)),I (O (Ah (nth .vD o3.2 3)+1))])) (none)) (none)) (none)) (some (1,[.vC [Kd.int IntKind.u64] D])):=by kernel_rfl
theorem Zn9 (L:Fn) (N M:Lp) (D G:Rw):Qlx L N M [.vC [Kd.int .u64] D, .vC [Kd.int .u64] G]=
 cond (decide (O ((D.length:Int)+(G.length:Int))=O ((D.length:Int)+(G.length:Int)))) (cond (decide (0<=O ((D.length:Int)+(G.length:Int)))&&decide (O ((D.length:Int)+(G.length:Int))*(↑8:Int)<=140737488355328)) ((M [.vC [Kd.int IntKind.u64] (List.replicate (O ((D.length:Int)+(G.length:Int))).toNat [U 0]), .vC [Kd.int IntKind.u64] D, .vC [Kd.int IntKind.u64] G,I 0]).bind λo4=>
 cond (o4.1.beq 1) ((L [.vC [Kd.int IntKind.u64] (AX (nth .vD o4.2 0))]).bind λS=>
 some [.vC [Kd.int IntKind.u64] (AX (nth .vD S 0))]) (none)) (none)) (none):=by kernel_rfl
def ZP:=Al (HA KP)
def Q35:=Al (Ne KP ZP)
def QO:=Qlx KP ZP Q35
theorem Zp:Ai PG (Qlv KP):=An rfl ⟨Zo9,trivial⟩
theorem Z0k:Ak PG (Z2o QO):=rw2 (C:=Q38 KP ZP Q35) (fl (fl fb Zp) Zp) Zp
def WS:Sk:=⟨[tf [si .u64]],[],[]⟩
def Zj3:=qd 273 WS Qkq
def C_cncref01_limbs_0:Cfg:={cf []with prom:=λb=>cond (Nat.beq b 2) ([(3,195)]) ([])}
def Zgj:Sk:=⟨[tf [si .u64],td,td,tf [se 3 1]]++dd 10,[],[(3,195,[Kd.int .u64])]⟩
def Zju:List (Ex×Sk):=[(Ex.exit 0,⟨[td,td,td,tf [se 3 1]]++dd 10,[],[(3,195,[Kd.int .u64])]⟩)]
def Qe8:Lp:=AG PG C_cncref01_limbs_0 64 2 (AH PG 273 2) Zgj Zju
def Zej (D:Lp):Cfg:=C_cncref01_limbs_0.loop 2 Zgj Zju D
def Q2w (D:Lp):Fn:=Am PG (Zej D) 64 273 WS Qkq
theorem Zc8 (G:Rw) (D:Int):Qe8 [.vC [Kd.int .u64] G,U D]=
 cond (decide (D>0)) (cond (((G++[[U (wrap .u64 (↑(BitVec.ofInt IntKind.u64.bits D&&&BitVec.ofInt IntKind.u64.bits 65535).toNat:Int))]]).length*8).ble 140737488355328) (some (0,[.vC [Kd.int IntKind.u64] (G++[[U (wrap .u64 (↑(BitVec.ofInt IntKind.u64.bits D&&&BitVec.ofInt IntKind.u64.bits 65535).toNat:Int))]]),U (D.fdiv (2^min (Int.toNat 16) IntKind.u64.bits))])) (none)) (some (1,[.vC [Kd.int IntKind.u64] G])):=by kernel_rfl
theorem Zk0 (D:Lp) (G:Int):Q2w D [U G]=
 (D [.vC [Kd.int IntKind.u64] [],U G]).bind λo1=>
 cond (o1.1.beq 1) (some [.vC [Kd.int IntKind.u64] (AX (nth .vD o1.2 0))]) (none):=by kernel_rfl
def Q5:=Al (Qe8)
def NU:=Q2w Q5
theorem Q29:Ai PG (C_cncref01_limbs_0):=An rfl trivial
theorem Z48:Ak PG (Zj3 NU):=rw2 (C:=Zej Q5) (fl fb Q29) Q29
def Yd2:=qd 274 Y3 WS
def Q3d:Fn:=Am PG Qjw 64 274 Y3 WS
theorem Zsk (D:Int):Q3d [I D]=
 cond (decide (D<0)) (some [U (wrap .u64 (wrap .u64 (O (0-O (D+1)))+1))]) (some [U (wrap .u64 D)]):=by kernel_rfl
def O1:=Q3d
theorem Zxw:Ai PG (Qjw):=An rfl trivial
theorem Z2u:Ak PG (Yd2 O1):=rw1 (C:=Qjw) Zxw
def Ygj:=qd 249 ZA Qkq
def Qp1 (D G I:Fn):Cfg:=cf [Z2o D,Zj3 G,Yd2 I]
def Qaf (D G I:Fn):Fn:=Am PG (Qp1 D G I) 64 249 ZA Qkq
theorem Znr (L D G:Fn) (M N:Int):Qaf L D G [I M,I N]=
 (G [I M]).bind λO=>
 (D [U (Ah (nth .vD O 0))]).bind λo6=>
 (G [I N]).bind λS=>
 (D [U (Ah (nth .vD S 0))]).bind λo8=>
 (L [.vC [Kd.int IntKind.u64] (AX (nth .vD o6 0)), .vC [Kd.int IntKind.u64] (AX (nth .vD o8 0))]).bind λT=>
 some [.vC [Kd.int IntKind.u64] (AX (nth .vD T 0))]:=by kernel_rfl
def Q1:=Qaf QO NU O1
theorem Z4i:Ai PG (Qp1 QO NU O1):=An rfl ⟨Z0k,Z48,Z2u,trivial⟩
theorem Zp6:Ak PG (Ygj Q1):=rw1 (C:=Qp1 QO NU O1) Z4i
def Ybg:=qd 247 ZA Y3
def Q0u:Fn:=Am PG Qjw 64 247 ZA Y3
theorem Yau (D G:Int):Q0u [I D,I G]=
 cond (D==0) (some [I 0]) (cond (G==0) (some [I 0]) (cond (decide (D<0)==decide (G<0)) (some [I 1]) (some [I (-1)]))):=by kernel_rfl
def NN:=Q0u
theorem Zm9:Ai PG (Qjw):=An rfl trivial
theorem Zx3:Ak PG (Ybg NN):=rw1 (C:=Qjw) Zm9
def Z3k:=qd 221 Wk Y3
def Y4 (D G Lz:Fn):Cfg:=cf [Yh7 D,Ygj G,Ybg Lz]
def Zc (D G Lz:Fn):Fn:=Am PG (Y4 D G Lz) 64 221 Wk Y3
theorem Zlo (T D Lz:Fn) (G L M N:Int):Zc T D Lz [I G,I L,I M,I N]=
 (Lz [I G,I L]).bind λS=>
 (Lz [I M,I N]).bind λo6=>
 cond (decide (Ah (nth .vD S 0)<Ah (nth .vD o6 0))) (some [I (-1)]) (cond (decide (Ah (nth .vD S 0)>Ah (nth .vD o6 0))) (some [I 1]) ((D [I G,I L]).bind λU=>
 (D [I M,I N]).bind λo8=>
 (T [.vC [Kd.int IntKind.u64] (AX (nth .vD U 0)), .vC [Kd.int IntKind.u64] (AX (nth .vD o8 0))]).bind λV=>
 some [I (O (Ah (nth .vD S 0)*Ah (nth .vD V 0)))])):=by kernel_rfl
def Q6:=Zc Nf Q1 NN
theorem Zwy:Ai PG (Y4 Nf Q1 NN):=An rfl ⟨Z3r,Zp6,Zx3,trivial⟩
theorem Yid:Ak PG (Z3k Q6):=rw1 (C:=Y4 Nf Q1 NN) Zwy
def Yjt:=qd 246 Qg5 V1
def Qbn:Cfg:={cf []with unroll:=[2]}
def Zeq:Fn:=Am PG Qbn 64 246 Qg5 V1
theorem Zuy (G L M D:Int):Zeq [I G,I L,I M,I D]=
 cond (decide (G<O (0-D))) (some [B false]) (cond (decide (G>D)) (some [B false]) (cond (decide (L<O (0-D))) (some [B false]) (cond (decide (L>D)) (some [B false]) (cond (decide (M<O (0-D))) (some [B false]) (cond (decide (M>D)) (some [B false]) (some [B true])))))):=by kernel_rfl
def OU:=Zeq
theorem Zk6:Ai PG (Qbn):=An rfl trivial
theorem Zlf:Ak PG (Yjt OU):=rw1 (C:=Qbn) Zk6
def Yd6:=qd 218 Quv V1
def Qlo (D:Fn):Cfg:=cf [Yjt D]
def Qaq (D:Fn):Fn:=Am PG (Qlo D) 64 218 Quv V1
theorem Z5x (D:Fn) (G L M:Int):Qaq D [I G,I L,I M]=
 (D [I G,I L,I M,I 1048576]).bind λo1=>
 some [B (bA o1 0)]:=by kernel_rfl
def Qi:=Qaq OU
theorem Z5g:Ai PG (Qlo OU):=An rfl ⟨Zlf,trivial⟩
theorem Zvr:Ak PG (Yd6 Qi):=rw1 (C:=Qlo OU) Z5g
def Qh2:=qd 166 Qnx V1
def ZH (D G I L M N:Fn):Cfg:=cf [Qid D,Z3k G,XC I,Qvx L,Yd6 M,RW N]
def Qia (D G I L M N:Fn):Fn:=Am PG (ZH D G I L M N) 64 166 Qnx V1
abbrev Qn9 (G:Bool) (D:List AC) (M N:Fn):Option (List AC):=
 cond (G) (cond (gA D 0==gA D 4) (some [B (gA D 1==gA D 5)]) (some [B false])) ((M [jA D 0,jA D 1,jA D 2,jA D 3,jA D 4,jA D 5,jA D 6,jA D 7]).bind λI=>
 cond (gA I 0 !=0) (some [B true]) ((N [jA D 0,jA D 1,jA D 2,jA D 3,jA D 4,jA D 5,jA D 6,jA D 7]).bind λL=>
 some [B (decide (gA L 0<0))]))
abbrev MI (E8:Fn) (x9 N S:Int) (DG:Fn) (x0 x1 x2 x3 x4 x5 x6 x7 x8 U:Int) (M:Bool) (V:Int) (X:Bool) (Y a0 a1 a2 a3:Int) (a4:Bool) (T Ge BG:Fn):Option (List AC):=
 (E8 [I x9,I N,I S]).bind λa5=>
 cond (!bA a5 0) (some [B false]) ((DG [I x0,I x1,I x2,I x3,I x4,I x5,I x6,I x7,I x8,I x9,I N,I S,I U,B M,I V,B X,I Y,I a0,I a1,I a2,I a3,B a4]).bind λD=>
 (T [jA D 0,jA D 1,jA D 2,jA D 3,jA D 0,jA D 1,jA D 2,jA D 3]).bind λG=>
 (T [jA D 4,jA D 5,jA D 6,jA D 7,jA D 4,jA D 5,jA D 6,jA D 7]).bind λL=>
 cond (decide (gA G 0<64)) (some [B false]) (cond (decide (gA L 0<64)) (some [B false]) (cond (decide (O (O (gA G 0+gA L 0)-16)>0)) ((Ge [I (O (O (gA G 0+gA L 0)-16)),I (O (O (gA G 0+gA L 0)-16)),I (O (4*gA G 0)),jA L 0]).bind λa6=>
 cond (decide (gA a6 0>0)) (some [B false]) (Qn9 M D BG T)) (Qn9 M D BG T))))
theorem Zko (BG Ge Br DG E8 AO:Fn) (x0 x1 x2 x3 x4 x5 x6 x7 x8 x9 G L D:Int) (M:Bool) (N:Int) (O:Bool) (S T U V X:Int) (Y:Bool):Qia BG Ge Br DG E8 AO [I x0,I x1,I x2,I x3,I x4,I x5,I x6,I x7,I x8,I x9,I G,I L,I D,B M,I N,B O,I S,I T,I U,I V,I X,B Y]=
 (AO [I x0]).bind λa0=>
 cond (!bA a0 0) (some [B false]) ((E8 [I x2,I x3,I x4]).bind λa1=>
 cond (!bA a1 0) (some [B false]) ((E8 [I x5,I x6,I x7]).bind λa2=>
 cond (!bA a2 0) (some [B false]) (cond (x0 !=3) (some [B true]) (cond (x8 !=17) (cond (x8 !=18) (cond (x8 !=19) (some [B false]) (cond (D !=1) (cond (D != -1) (some [B false]) (MI E8 x9 G L DG x0 x1 x2 x3 x4 x5 x6 x7 x8 D M N O S T U V X Y Br Ge BG)) (MI E8 x9 G L DG x0 x1 x2 x3 x4 x5 x6 x7 x8 D M N O S T U V X Y Br Ge BG))) (cond (D !=1) (cond (D != -1) (some [B false]) (MI E8 x9 G L DG x0 x1 x2 x3 x4 x5 x6 x7 x8 D M N O S T U V X Y Br Ge BG)) (MI E8 x9 G L DG x0 x1 x2 x3 x4 x5 x6 x7 x8 D M N O S T U V X Y Br Ge BG))) (cond (D !=1) (cond (D != -1) (some [B false]) (MI E8 x9 G L DG x0 x1 x2 x3 x4 x5 x6 x7 x8 D M N O S T U V X Y Br Ge BG)) (MI E8 x9 G L DG x0 x1 x2 x3 x4 x5 x6 x7 x8 D M N O S T U V X Y Br Ge BG)))))):=by kernel_rfl
def GE:=Qia GM Q6 Ga Kq Qi CT
theorem Yjf:Ai PG (ZH GM Q6 Ga Kq Qi CT):=An rfl ⟨Qsj,Yid,Xk,Zio,Zvr,Qk,trivial⟩
theorem Qns:Ak PG (Qh2 GE):=rw1 (C:=ZH GM Q6 Ga Kq Qi CT) Yjf
def Qgn:Sk:=⟨[TS.tup [(false,[sa [kI,kI,kI,kI]]),(false,[sb])]],[],[]⟩
def Ycw:=qd 167 Qnx Qgn
def Qgu (D G I:Fn):Cfg:={cp [Zjm D,Ykl G,Qh2 I] [224]with rowDst:=[20]}
def Qj5 (D G I:Fn):Fn:=Am PG (Qgu D G I) 64 167 Qnx Qgn
theorem Zuv (FK Oy CH:Fn) (x0 x1 x2 x3 x4 x5 x6 x7 x8 x9 L M D:Int) (G:Bool) (N:Int) (O:Bool) (S T U V X:Int) (Y:Bool):Qj5 FK Oy CH [I x0,I x1,I x2,I x3,I x4,I x5,I x6,I x7,I x8,I x9,I L,I M,I D,B G,I N,B O,I S,I T,I U,I V,I X,B Y]=
 cond (x0 !=3) (some [.vC [kI,kI,kI,kI] [],B false]) ((CH [I x0,I x1,I x2,I x3,I x4,I x5,I x6,I x7,I x8,I x9,I L,I M,I D,B G,I N,B O,I S,I T,I U,I V,I X,B Y]).bind λo3=>
 cond (!bA o3 0) (some [.vC [kI,kI,kI,kI] [],B false]) ((Oy [I x0,I x1,I x2,I x3,I x4,I x5,I x6,I x7,I x8,I x9,I L,I M,I D,B G,I N,B O,I S,I T,I U,I V,I X,B Y]).bind λo4=>
 (FK [jA o4 0,jA o4 1,jA o4 2,jA o4 3,jA o4 4,jA o4 5,jA o4 6,jA o4 7,I D,B G,I 0]).bind λo5=>
 cond ((([[jA o4 0,jA o4 1,jA o4 2,jA o4 3]]++wA o5 0).length*32).ble 140737488355328) (some [.vC [kI,kI,kI,kI] ([[jA o4 0,jA o4 1,jA o4 2,jA o4 3]]++wA o5 0),B true]) (none))):=by kernel_rfl
def Ps:=Qj5 Su Qj GE
theorem Zzn:Ai PG (Qgu Su Qj GE):=An rfl ⟨Zuk,Z5k,Qns,trivial⟩
theorem Zte:Ak PG (Ycw Ps):=rw1 (C:=Qgu Su Qj GE) Zzn
def Qf0:Sk:=⟨[TS.tup [(false,[sa kPt]),(false,[sb])]],[],[]⟩
def Z29:=qd 115 Qnx Qf0
def Qcb (D G I L M:Fn):Cfg:={cf [Q72 D,Qsa G,Quz I,Ycw L,Qh2 M]with prom:=λb=>cond (Nat.beq b 9) ([(9,42)]) ([])}
def Q0e:Sk:=⟨[td,tf [sd 1 0],td,td,td,td,tf [ci],tf [ci],td,tf [se 9 3]]++dd 29++[tf [sa [kI,kI,kI,kI]],tf [ci],tf [ci]]++dd 21,[(1,31,cc 13++[sb,ci,sb]++cc 5++[sb])],[(9,42,kPt)]⟩
def Q0i:List (Ex×Sk):=[(Ex.exit 0,⟨dd 9++[tf [se 9 3]]++dd 53,[],[(9,42,kPt)]⟩)]
def NE (D G I L M:Fn):Lp:=AG PG (Qcb D G I L M) 64 9 (AH PG 115 9) Q0e Q0i
def Zch (D G I L M:Fn) (N:Lp):Cfg:=(Qcb D G I L M).loop 9 Q0e Q0i N
def XA (D G I L M:Fn) (N:Lp):Fn:=Am PG (Zch D G I L M N) 64 115 Qnx Qf0
theorem Qw9 (C2 Ci A_ Hg CH:Fn) (v0:Rw) (v1 v2:Int) (M:Rw) (v4 G v6 v7 v8 v9 v10 v11 v12 N L S T U V:Int) (X:Bool) (v20:Int) (v21:Bool) (v22 Y v24 v25 a0:Int) (v27:Bool):NE C2 Ci A_ Hg CH [.vC kPt v0,I v1,I v2, .vC [kI,kI,kI,kI] M,I v4,I G,I v6,I v7,I v8,I v9,I v10,I v11,I v12,I N,I L,I S,I T,I U,I V,B X,I v20,B v21,I v22,I Y,I v24,I v25,I a0,B v27]=
 cond (decide (G<v4)) (cond (decide (0<=G)&&decide (G<(M.length:Int))) ((C2 [I (O (v1+gA (nth [] M G.toNat) 0)),I (O (v2+gA (nth [] M G.toNat) 1)),jA (nth [] M G.toNat) 3,I L]).bind λD=>
 cond (((v0++[[jA D 0,jA D 1,jA D 2]]).length*24).ble 140737488355328) (some (0,[.vC kPt (v0++[[jA D 0,jA D 1,jA D 2]]),I v1,I v2, .vC [kI,kI,kI,kI] M,I v4,I (O (G+1)),I v6,I v7,I v8,I v9,I v10,I v11,I v12,I N,I L,I S,I T,I U,I V,B X,I v20,B v21,I v22,I Y,I v24,I v25,I a0,B v27])) (none)) (none)) (some (1,[.vC kPt v0])):=by kernel_rfl
theorem Zmf (C2 Ci A_ Hg CH:Fn) (N9:Lp) (x0 x1 x2 x3 x4 x5 x6 x7 x8 x9 D G L:Int) (M:Bool) (N:Int) (O:Bool) (S T U V X:Int) (Y:Bool):XA C2 Ci A_ Hg CH N9 [I x0,I x1,I x2,I x3,I x4,I x5,I x6,I x7,I x8,I x9,I D,I G,I L,B M,I N,B O,I S,I T,I U,I V,I X,B Y]=
 (CH [I x0,I x1,I x2,I x3,I x4,I x5,I x6,I x7,I x8,I x9,I D,I G,I L,B M,I N,B O,I S,I T,I U,I V,I X,B Y]).bind λa6=>
 cond (!bA a6 0) (some [.vC kPt [],B false]) ((Hg [I x0,I x1,I x2,I x3,I x4,I x5,I x6,I x7,I x8,I x9,I D,I G,I L,B M,I N,B O,I S,I T,I U,I V,I X,B Y]).bind λa0=>
 cond (!bA a0 1) ((A_ [I x2,I x3,I x4]).bind λa1=>
 (A_ [I x5,I x6,I x7]).bind λa2=>
 some [.vC kPt [[jA a1 0,jA a1 1,jA a1 2],[jA a2 0,jA a2 1,jA a2 2]],B true]) ((A_ [I x9,I D,I G]).bind λa3=>
 (Ci [jA a3 0,jA a3 1,jA a3 2,I x8]).bind λa4=>
 (N9 [.vC kPt [],jA a4 0,jA a4 1, .vC [kI,kI,kI,kI] (wA a0 0),I (↑(wA a0 0).length:Int),I 0,I x0,I x1,I x2,I x3,I x4,I x5,I x6,I x7,I x8,I x9,I D,I G,I L,B M,I N,B O,I S,I T,I U,I V,I X,B Y]).bind λa5=>
 cond (a5.1.beq 1) (some [.vC kPt (wA a5.2 0),B true]) (none))):=by kernel_rfl
def Q6g:=Al (NE Ix Gl Ek Ps GE)
def RI:=XA Ix Gl Ek Ps GE Q6g
theorem Q53:Ai PG (Qcb Ix Gl Ek Ps GE):=An rfl ⟨Q0q,Qoi,Yl,Zte,Qns,trivial⟩
theorem Ybh:Ak PG (Z29 RI):=rw2 (C:=Zch Ix Gl Ek Ps GE Q6g) (fl fb Q53) Q53
def Z93:=qd 71 Zq Qqk
def Qto (D G I L M:Fn):Cfg:=cf [Q33 D,Qzm G,Yeo I,Zin L,Z29 M]
def Qcw (D G I L M:Fn):Fn:=Am PG (Qto D G I L M) 64 71 Zq Qqk
theorem Zmp (Y Bw K2 DT Pc:Fn) (U:Rw) (L x2:Int):Qcw Y Bw K2 DT Pc [.vC Ae U,I L,I x2]=
 cond (decide (0<=L)&&decide (L<(U.length:Int))) ((Pc (AE Ae (nth [] U L.toNat))).bind λG=>
 cond (decide (0<=L)&&decide (L<(U.length:Int))) ((DT (AE Ae (nth [] U L.toNat))).bind λa2=>
 cond (!bA a2 0) (some [.vC kPt (wA G 0)]) (cond (decide (0<=1)&&decide (1<=(↑(wA G 0).length:Int))) (cond (decide (0<=1)&&decide (1<=(↑(wA G 0).length:Int))) (cond (decide (x2>=0)) ((K2 [.vC Ae U,I x2,I L]).bind λD=>
 cond (decide (0<=O ((↑(wA D 0).length:Int).tdiv 2))&&decide (O ((↑(wA D 0).length:Int).tdiv 2)<=(↑(wA D 0).length:Int))) ((Bw [.vC Ae U,I L]).bind λa0=>
 cond (decide (gA a0 0>=0)) ((K2 [.vC Ae U,I L,jA a0 0]).bind λV=>
 cond (decide (0<=O (O ((↑(wA V 0).length:Int).tdiv 2)+1))&&decide (O (O ((↑(wA V 0).length:Int).tdiv 2)+1)<=(↑(wA V 0).length:Int))) (cond ((([]++List.drop (O ((↑(wA D 0).length:Int).tdiv 2)).toNat (wA D 0)).length*24).ble 140737488355328) (cond (decide (0<=L)&&decide (L<(U.length:Int))) ((Y (AE Ae (nth [] U L.toNat))).bind λM=>
 cond ((([]++List.drop (O ((↑(wA D 0).length:Int).tdiv 2)).toNat (wA D 0)++[[jA M 0,jA M 1,jA M 2]]).length*24).ble 140737488355328) (cond ((([]++List.drop (O ((↑(wA D 0).length:Int).tdiv 2)).toNat (wA D 0)++[[jA M 0,jA M 1,jA M 2]]++List.take (O (O ((↑(wA V 0).length:Int).tdiv 2)+1)).toNat (wA V 0)).length*24).ble 140737488355328) (some [.vC kPt ([]++List.drop (O ((↑(wA D 0).length:Int).tdiv 2)).toNat (wA D 0)++[[jA M 0,jA M 1,jA M 2]]++List.take (O (O ((↑(wA V 0).length:Int).tdiv 2)+1)).toNat (wA V 0))]) (none)) (none)) (none)) (none)) (none)) (cond ((([]++List.drop (O ((↑(wA D 0).length:Int).tdiv 2)).toNat (wA D 0)).length*24).ble 140737488355328) (cond (decide (0<=L)&&decide (L<(U.length:Int))) ((Y (AE Ae (nth [] U L.toNat))).bind λN=>
 cond ((([]++List.drop (O ((↑(wA D 0).length:Int).tdiv 2)).toNat (wA D 0)++[[jA N 0,jA N 1,jA N 2]]).length*24).ble 140737488355328) (cond ((([]++List.drop (O ((↑(wA D 0).length:Int).tdiv 2)).toNat (wA D 0)++[[jA N 0,jA N 1,jA N 2]]++List.drop (Int.toNat 1) (wA G 0)).length*24).ble 140737488355328) (some [.vC kPt ([]++List.drop (O ((↑(wA D 0).length:Int).tdiv 2)).toNat (wA D 0)++[[jA N 0,jA N 1,jA N 2]]++List.drop (Int.toNat 1) (wA G 0))]) (none)) (none)) (none)) (none))) (none)) ((Bw [.vC Ae U,I L]).bind λa1=>
 cond (decide (gA a1 0>=0)) ((K2 [.vC Ae U,I L,jA a1 0]).bind λX=>
 cond (decide (0<=O (O ((↑(wA X 0).length:Int).tdiv 2)+1))&&decide (O (O ((↑(wA X 0).length:Int).tdiv 2)+1)<=(↑(wA X 0).length:Int))) (cond ((([]++List.take (Int.toNat 1) (wA G 0)).length*24).ble 140737488355328) (cond (decide (0<=L)&&decide (L<(U.length:Int))) ((Y (AE Ae (nth [] U L.toNat))).bind λS=>
 cond ((([]++List.take (Int.toNat 1) (wA G 0)++[[jA S 0,jA S 1,jA S 2]]).length*24).ble 140737488355328) (cond ((([]++List.take (Int.toNat 1) (wA G 0)++[[jA S 0,jA S 1,jA S 2]]++List.take (O (O ((↑(wA X 0).length:Int).tdiv 2)+1)).toNat (wA X 0)).length*24).ble 140737488355328) (some [.vC kPt ([]++List.take (Int.toNat 1) (wA G 0)++[[jA S 0,jA S 1,jA S 2]]++List.take (O (O ((↑(wA X 0).length:Int).tdiv 2)+1)).toNat (wA X 0))]) (none)) (none)) (none)) (none)) (none)) (cond ((([]++List.take (Int.toNat 1) (wA G 0)).length*24).ble 140737488355328) (cond (decide (0<=L)&&decide (L<(U.length:Int))) ((Y (AE Ae (nth [] U L.toNat))).bind λT=>
 cond ((([]++List.take (Int.toNat 1) (wA G 0)++[[jA T 0,jA T 1,jA T 2]]).length*24).ble 140737488355328) (cond ((([]++List.take (Int.toNat 1) (wA G 0)++[[jA T 0,jA T 1,jA T 2]]++List.drop (Int.toNat 1) (wA G 0)).length*24).ble 140737488355328) (some [.vC kPt ([]++List.take (Int.toNat 1) (wA G 0)++[[jA T 0,jA T 1,jA T 2]]++List.drop (Int.toNat 1) (wA G 0))]) (none)) (none)) (none)) (none)))) (none)) (none))) (none)) (none):=by kernel_rfl
def Iw:=Qcw JI F9 Qf Iu RI
theorem Yjr:Ai PG (Qto JI F9 Qf Iu RI):=An rfl ⟨Qzt,Q7i,Ztk,Qyh,Ybh,trivial⟩
theorem Yjv:Ak PG (Z93 Iw):=rw1 (C:=Qto JI F9 Qf Iu RI) Yjr
def Qrc:Sk:=⟨[TS.v true (cc 13++[sb,ci,sb]++cc 5++[sb]),tf [ci]],[],[]⟩
def Z91:=qd 69 Qrc Y3
def Qel (D:Fn):Cfg:=cf [Q71 D]
def Qg4 (D:Fn):Fn:=Am PG (Qel D) 64 69 Qrc Y3
theorem Zgy (Dj:Fn) (x0 x1 x2 x3 x4 x5 x6 x7 x8 x9 M N S:Int) (T:Bool) (D:Int) (G:Bool) (U V X Y a0:Int) (a1:Bool) (L:Int):Qg4 Dj [I x0,I x1,I x2,I x3,I x4,I x5,I x6,I x7,I x8,I x9,I M,I N,I S,B T,I D,B G,I U,I V,I X,I Y,I a0,B a1,I L]=
 cond (x0==1) (some [I 0]) (cond (G) ((Dj [I (O (O (mn (O (D*mx L 1)) 60000000*16)*256)),I 60000]).bind λo2=>
 some [I (mx (gA o2 0) 1)]) ((Dj [I (O (O (mn D 60000000*16)*256)),I 60000]).bind λo3=>
 some [I (mx (gA o3 0) 1)])):=by kernel_rfl
def GS:=Qg4 F3
theorem Zyc:Ai PG (Qel F3):=An rfl ⟨Qyv,trivial⟩
theorem Z6j:Ak PG (Z91 GS):=rw1 (C:=Qel F3) Zyc
def Zpy:=qd 67 Qnx Y3
def Zi7:Fn:=Am PG Qjw 64 67 Qnx Y3
theorem Yam (D x1 x2 x3 x4 x5 x6 x7 x8 x9 G L M:Int) (N:Bool) (O:Int) (S:Bool) (T U V X Y:Int) (a0:Bool):Zi7 [I D,I x1,I x2,I x3,I x4,I x5,I x6,I x7,I x8,I x9,I G,I L,I M,B N,I O,B S,I T,I U,I V,I X,I Y,B a0]=
 cond (D==10) (some [I 5]) (cond (D==13) (some [I 4]) (some [I 3])):=by kernel_rfl
def H0:=Zi7
theorem Z4n:Ai PG (Qjw):=An rfl trivial
theorem Zzu:Ak PG (Zpy H0):=rw1 (C:=Qjw) Z4n
def Zmb:=qd 113 Qnx V1
def Ze (D G:Fn):Cfg:=cf [Qh2 D,RW G]
def Qiy (D G:Fn):Fn:=Am PG (Ze D G) 64 113 Qnx V1
theorem Z0f (CH AO:Fn) (N x1 x2 x3 x4 x5 x6 x7 x8 x9 O S T:Int) (U:Bool) (G:Int) (V:Bool) (X Y D L M:Int) (a0:Bool):Qiy CH AO [I N,I x1,I x2,I x3,I x4,I x5,I x6,I x7,I x8,I x9,I O,I S,I T,B U,I G,B V,I X,I Y,I D,I L,I M,B a0]=
 cond (decide (N<1)) (some [B true]) (cond (decide (N>14)) (some [B true]) ((AO [I N]).bind λo2=>
 cond (bA o2 0) ((CH [I N,I x1,I x2,I x3,I x4,I x5,I x6,I x7,I x8,I x9,I O,I S,I T,B U,I G,B V,I X,I Y,I D,I L,I M,B a0]).bind λo3=>
 cond (!bA o3 0) (some [B true]) (cond (N !=1) (cond (decide (G<1)) (some [B true]) (cond (decide (G>60000000)) (some [B true]) (cond (decide (D<0)) (some [B true]) (some [B (decide (D>1000))])))) (cond (decide (D<0)) (some [B true]) (some [B (decide (D>1000))])))) (cond (N==8) (cond (decide (L<3)) (some [B true]) (cond (decide (L>5)) (some [B true]) (cond (decide (M<0)) (some [B true]) (some [B (decide (M>30000))])))) (some [B false])))):=by kernel_rfl
def LU:=Qiy GE CT
theorem Z1v:Ai PG (Ze GE CT):=An rfl ⟨Qns,Qk,trivial⟩
theorem Zzg:Ak PG (Zmb LU):=rw1 (C:=Ze GE CT) Z1v
def Qcv:Sk:=⟨[tf [sa Ae]],[],[]⟩
def Zy2:=qd 65 Qcv Y3
def Qal (D G:Fn):Cfg:=cf [RW D,Zmb G]
def Zf0:Sk:=⟨[tf [sa Ae],td,td,tf [ci],td,td,td,td,td,tf [sa Ae],tf [ci],tf [ci]]++dd 24,[],[]⟩
def Zh1:List (Ex×Sk):=[(Ex.ret,⟨[td,td,tf [ci]]++dd 33,[],[]⟩),(Ex.exit 0,⟨[td]++dd 35,[],[]⟩)]
def Ku (D G:Fn):Lp:=AG PG (Qal D G) 64 5 (AH PG 65 5) Zf0 Zh1
def Q5k (D G:Fn) (I:Lp):Cfg:=(Qal D G).loop 5 Zf0 Zh1 I
def ZY (D G:Fn) (I:Lp):Fn:=Am PG (Q5k D G I) 64 65 Qcv Y3
theorem Qxo (S T:Fn) (L:Rw) (M:Int) (G:Rw) (N D:Int):Ku S T [.vC Ae L,I M, .vC Ae G,I N,I D]=
 cond (decide (D<N)) (cond (decide (0<=D)&&decide (D<(G.length:Int))) ((T (AE Ae (nth [] G D.toNat))).bind λo3=>
 cond (bA o3 0) (some (1,[I 1])) ((S [jA (nth [] G D.toNat) 0]).bind λo4=>
 cond (!bA o4 0) (some (0,[.vC Ae L,I M, .vC Ae G,I N,I (O (D+1))])) (cond (decide (M>=0)) (cond (decide (0<=M)&&decide (M<(L.length:Int))) (cond (!(gA (nth [] L M.toNat) 5==gA (nth [] G D.toNat) 2&&(gA (nth [] L M.toNat) 6==gA (nth [] G D.toNat) 3&&(gA (nth [] L M.toNat) 7==gA (nth [] G D.toNat) 4&&true)))) (some (1,[I 13])) (some (0,[.vC Ae L,I D, .vC Ae G,I N,I (O (D+1))]))) (none)) (some (0,[.vC Ae L,I D, .vC Ae G,I N,I (O (D+1))]))))) (none)) (some (2,[])):=by kernel_rfl
theorem Zs7 (M N:Fn) (L:Lp) (D:Rw):ZY M N L [.vC Ae D]=
 cond (decide ((D.length:Int)>20000)) (some [I 10]) ((L [.vC Ae D,I (-1), .vC Ae D,I (D.length:Int),I 0]).bind λG=>
 cond (G.1.beq 1) (some [jA G.2 0]) (cond (G.1.beq 2) (some [I 0]) (none))):=by kernel_rfl
def Q2p:=Al (Ku CT LU)
def H6:=ZY CT LU Q2p
theorem Q14:Ai PG (Qal CT LU):=An rfl ⟨Qk,Zzg,trivial⟩
theorem Z6r:Ak PG (Zy2 H6):=rw2 (C:=Q5k CT LU Q2p) (fl fb Q14) Q14
def Qhw:Sk:=⟨[TS.tup [(true,[ci,ci,ci,sa Ag,sa kPt]),(false,[ci])]],[],[]⟩
def Zpd:=qd 28 Qcv Qhw
def XE (D G I L M N O S T U:Fn):Cfg:={spec:=FX [Zxd D,Qzm G,Q3p I,Z93 L,Q5b M,Z91 N,Quz O,Zpy S,RW T,Zy2 U],eqOk:=Ja,ownOff:=Q5u,ownBut:=[2]}
def Q26:Sk:=⟨[tf [sa Ae],td,tf [sd 2 0],td,td,tf [sd 5 0],tf [sd 6 0],tf [ci],tf [ci],td,tf [sb],tf [ci],td,tf [sd 13 0]]++dd 9++[tf [sa Ae],tf [ci],tf [ci]]++dd 57++[tf [sa kPt],tf [ci],tf [ci]]++dd 47,[(2,46,[ci,ci,ci,sa Ag,sa kPt]),(5,46,[ci,ci,ci,se 1005003 7,se 1005004 3]),(6,42,[ci,ci,ci]),(13,111,cc 7)],[(1005003,111,Ag),(1005004,130,kPt)]⟩
def Q3h:List (Ex×Sk):=[(Ex.ret,⟨[td,td,tf [sd 2 0],tf [ci]]++dd 129,[(2,46,[ci,ci,ci,CS.nil,CS.nil])],[]⟩),(Ex.exit 2,⟨[tf [sa Ae],td,tf [sd 2 0],td,td,tf [sd 5 0],tf [sd 6 0],tf [ci],tf [ci],td,tf [sb],tf [ci]]++dd 11++[tf [sa Ae],tf [ci],tf [ci]]++dd 107,[(2,46,[ci,ci,ci,sa Ag,sa kPt]),(5,46,[ci,ci,ci,se 1005003 7,se 1005004 3]),(6,42,[ci,ci,ci])],[(1005003,111,Ag),(1005004,130,kPt)]⟩)]
def RA (D G I L M N O S T U:Fn):Lp:=AG PG (XE D G I L M N O S T U) 64 19 (AH PG 28 19) Q26 Q3h
def Qv0 (G I L M N O S T U V:Fn) (D:Lp):Cfg:=(XE G I L M N O S T U V).loop 19 Q26 Q3h D
def Q20:Sk:=⟨[tf [sa Ae],td,tf [sd 2 0],td,td,tf [sd 5 0],tf [sd 6 0],tf [ci],tf [ci],tf [ci],tf [sb]]++dd 12++[tf [sa Ae],tf [ci],tf [ci]]++dd 107,[(2,46,[ci,ci,ci,sa Ag,sa kPt]),(5,46,[ci,ci,ci,se 1005003 7,se 1005004 3]),(6,42,[ci,ci,ci])],[(1005003,111,Ag),(1005004,130,kPt)]⟩
def Qv6:List (Ex×Sk):=[(Ex.ret,⟨[td,td,tf [sd 2 0],tf [ci]]++dd 129,[(2,46,[ci,ci,ci,CS.nil,CS.nil])],[]⟩),(Ex.exit 0,⟨[td,td,tf [sd 2 0],td,td,tf [sd 5 0]]++dd 127,[(2,46,[ci,ci,ci,sa Ag,sa kPt]),(5,46,[ci,ci,ci,se 1005003 7,se 1005004 3])],[(1005003,111,Ag),(1005004,130,kPt)]⟩)]
def P4 (G I L M N O S T U V:Fn) (D:Lp):Lp:=AG PG (Qv0 G I L M N O S T U V D) 64 7 (AH PG 28 7) Q20 Qv6
def Q8h (G I L M N O S T U V:Fn) (D X:Lp):Cfg:=(Qv0 G I L M N O S T U V D).loop 7 Q20 Qv6 X
def W6 (G I L M N O S T U V:Fn) (D X:Lp):Fn:=Am PG (Q8h G I L M N O S T U V D X) 64 28 Qcv Qhw
theorem XB (BP Bw Cy Cf Bn CE A_ Dl AO Ed:Fn) (Y v1 v2:Rw) (v3 v4:Int) (v5:Bool) (v6:Int) (v7:Rw) (v8 v9:Int) (v10:Rw) (v11 v12 M N S:Int) (T U:Rw) (V X v20 v21 v22 L v24 v25 a0 v27 v28 G v30:Int):RA BP Bw Cy Cf Bn CE A_ Dl AO Ed [.vC Ag Y, .vC kPt v1, .vC Ae v2,I v3,I v4,B v5,I v6, .vC Ae v7,I v8,I v9, .vC kPt v10,I v11,I v12,I M,I N,I S, .vC Ag T, .vC kPt U,I V,I X,I v20,I v21,I v22,I L,I v24,I v25,I a0,I v27,I v28,I G,I v30]=
 cond (decide (v12<v11)) (cond (decide (0<=v12)&&decide (v12<(v10.length:Int))) (cond (gA (nth [] v10 v12.toNat) 0==v21&&(gA (nth [] v10 v12.toNat) 1==v22&&(gA (nth [] v10 v12.toNat) 2==L&&true))) (some (0,[.vC Ag Y, .vC kPt v1, .vC Ae v2,I v3,I v4,B v5,I v6, .vC Ae v7,I v8,I v9, .vC kPt v10,I v11,I (O (v12+1)),I M,I N,I S, .vC Ag T, .vC kPt U,I V,I X,I v20,I v21,I v22,I L,I v24,I v25,I a0,I v27,I v28,I G,I v30])) ((Cy [I v21,I v22,I L,jA (nth [] v10 v12.toNat) 0,jA (nth [] v10 v12.toNat) 1,jA (nth [] v10 v12.toNat) 2]).bind λD=>
 cond (((Y++[[jA (nth [] v10 v12.toNat) 0,jA (nth [] v10 v12.toNat) 1,jA (nth [] v10 v12.toNat) 2,jA D 0,I v28,I G,I v30]]).length*56).ble 140737488355328) (cond (decide ((↑(Y++[[jA (nth [] v10 v12.toNat) 0,jA (nth [] v10 v12.toNat) 1,jA (nth [] v10 v12.toNat) 2,jA D 0,I v28,I G,I v30]]).length:Int)>1048576)) (some (1,[I 10,I 0,I 0,I 0])) (some (0,[.vC Ag (Y++[[jA (nth [] v10 v12.toNat) 0,jA (nth [] v10 v12.toNat) 1,jA (nth [] v10 v12.toNat) 2,jA D 0,I v28,I G,I v30]]), .vC kPt v1, .vC Ae v2,I (O (v3+gA D 0)),I v4,B v5,I v6, .vC Ae v7,I v8,I v9, .vC kPt v10,I v11,I (O (v12+1)),I M,I N,I S, .vC Ag T, .vC kPt U,I V,I X,I v20,jA (nth [] v10 v12.toNat) 0,jA (nth [] v10 v12.toNat) 1,jA (nth [] v10 v12.toNat) 2,jA (nth [] v10 v12.toNat) 0,jA (nth [] v10 v12.toNat) 1,jA (nth [] v10 v12.toNat) 2,jA D 0,I v28,I G,I v30]))) (none))) (none)) (some (2,[.vC Ag Y, .vC kPt v1, .vC Ae v2,I v3,I v4,B v5,I v6, .vC Ae v7,I v8,I v9,I M,I N,I S, .vC Ag T, .vC kPt U,I V,I X,I v20,I v21,I v22,I L])):=by kernel_rfl
abbrev Qq0 (M:Fn) (D:Nat×List AC) (L:AC):Option (Nat×List AC):=
 (M [.vC Ae (wA D.2 2),jA D.2 6]).bind λG=>
 cond (((wA D.2 1++[[jA D.2 3,jA G 0,jA D.2 6]]).length*24).ble 140737488355328) (some (0,[.vC Ag (wA D.2 0), .vC kPt (wA D.2 1++[[jA D.2 3,jA G 0,jA D.2 6]]), .vC Ae (wA D.2 2),jA D.2 3,jA D.2 4,L,B (bA D.2 5), .vC Ae (wA D.2 7),jA D.2 8,I (O (gA D.2 9+1)),jA D.2 10,jA D.2 11,jA D.2 12, .vC Ag (wA D.2 13), .vC kPt (wA D.2 14),jA D.2 15,jA D.2 16,jA D.2 17,jA D.2 18,jA D.2 19,jA D.2 20])) (none)
abbrev Qp0 (Cf:Fn) (v2:Rw) (v9 v5:Int) (a1:Lp) (v0 v1:Rw) (v3:Int) (L M:AC) (v7:Rw) (v8 v10 v11 v12:Int) (a2 a3:Rw) (N O S T U V:AC) (X:List AC) (Bw BP:Fn) (Y:AC):Option (Nat×List AC):=
 (Cf [.vC Ae v2,I v9,I v5]).bind λG=>
 (a1 [.vC Ag v0, .vC kPt v1, .vC Ae v2,I v3,L,M,I v9, .vC Ae v7,I v8,I v9, .vC kPt (wA G 0),I (↑(wA G 0).length:Int),I 0,I v10,I v11,I v12, .vC Ag a2, .vC kPt a3,N,O,S,T,U,V,I 0,I 0,I 0,I 0,I v9,jA X 0,Y]).bind λD=>
 cond (D.1.beq 1) (some (1,[jA D.2 0,jA D.2 1,jA D.2 2,jA D.2 3])) (cond (D.1.beq 2) ((Bw [.vC Ae (wA D.2 2),jA D.2 6]).bind λa0=>
 cond (decide (gA a0 0>=0)) (Qq0 BP D (jA D.2 6)) (Qq0 BP D (I (-1)))) (none))
abbrev Qhx (CE:Fn) (X:Rw) (Y:Int) (Bn Cf:Fn) (v2:Rw) (v5:Int) (a0:Lp) (v0 v1:Rw) (v3 v8 v10 v11 v12:Int) (a1 a2:Rw) (Bw BP:Fn) (D G L M N S T U:AC):Option (Nat×List AC):=
 (CE (AE Ae (nth [] X Y.toNat)++[D])).bind λV=>
 (Bn (AE Ae (nth [] X Y.toNat))).bind λa3=>
 cond (bA a3 0) (Qp0 Cf v2 Y v5 a0 v0 v1 v3 D G X v8 v10 v11 v12 a1 a2 L M N S T U V Bw BP (I (mn (O (gA (nth [] X Y.toNat) 14*16)) 16777216))) (Qp0 Cf v2 Y v5 a0 v0 v1 v3 D G X v8 v10 v11 v12 a1 a2 L M N S T U V Bw BP (I 0))
abbrev RQ (AO:Fn) (G:Rw) (D:Int) (Dl:Fn) (v1:Rw) (V:Int) (v0 v2:Rw) (v5:Int) (v6:Bool) (v8 v10 v11 v12:Int) (T U:Rw) (X Y a0 a1 a2 v20:Int) (A_ CE Bn Cf:Fn) (a3:Lp) (Bw BP:Fn) (a4 N:AC):Option (Nat×List AC):=
 (AO [jA (nth [] G D.toNat) 0]).bind λa5=>
 cond (!bA a5 0) ((Dl (AE Ae (nth [] G D.toNat))).bind λS=>
 cond (((v1++[[I V,jA S 0,I D]]).length*24).ble 140737488355328) (some (0,[.vC Ag v0, .vC kPt (v1++[[I V,jA S 0,I D]]), .vC Ae v2,I V,a4,I v5,B v6, .vC Ae G,I v8,I (O (D+1)),I v10,I v11,I v12, .vC Ag T, .vC kPt U,I X,I Y,I a0,I a1,I a2,I v20])) (none)) (cond (!v6) ((A_ [jA (nth [] G D.toNat) 2,jA (nth [] G D.toNat) 3,jA (nth [] G D.toNat) 4]).bind λL=>
 (A_ [jA (nth [] G D.toNat) 2,jA (nth [] G D.toNat) 3,jA (nth [] G D.toNat) 4]).bind λM=>
 Qhx CE G D Bn Cf v2 v5 a3 v0 v1 V v8 v10 v11 v12 T U Bw BP N (B true) (jA L 0) (jA L 1) (jA L 2) (jA M 0) (jA M 1) (jA M 2)) (Qhx CE G D Bn Cf v2 v5 a3 v0 v1 V v8 v10 v11 v12 T U Bw BP N (B v6) (I X) (I Y) (I a0) (I a1) (I a2) (I v20)))
theorem Zhh (BP Bw Cy Cf Bn CE A_ Dl AO Ed:Fn) (T:Lp) (X Y v2:Rw) (v3 v4 v5:Int) (v6:Bool) (G:Rw) (v8 D v10 v11 v12:Int) (L M:Rw) (N O S U V v20:Int):P4 BP Bw Cy Cf Bn CE A_ Dl AO Ed T [.vC Ag X, .vC kPt Y, .vC Ae v2,I v3,I v4,I v5,B v6, .vC Ae G,I v8,I D,I v10,I v11,I v12, .vC Ag L, .vC kPt M,I N,I O,I S,I U,I V,I v20]=
 cond (decide (D<v8)) (cond (decide (0<=D)&&decide (D<(G.length:Int))) (cond (gA (nth [] G D.toNat) 0==8) (cond (gA (nth [] G D.toNat) 19==3) (RQ AO G D Dl Y v3 X v2 v5 v6 v8 v10 v11 v12 L M N O S U V v20 A_ CE Bn Cf T Bw BP (jA (nth [] G D.toNat) 20) (jA (nth [] G D.toNat) 20)) (cond (gA (nth [] G D.toNat) 19==4) (RQ AO G D Dl Y v3 X v2 v5 v6 v8 v10 v11 v12 L M N O S U V v20 A_ CE Bn Cf T Bw BP (jA (nth [] G D.toNat) 20) (jA (nth [] G D.toNat) 20)) (RQ AO G D Dl Y v3 X v2 v5 v6 v8 v10 v11 v12 L M N O S U V v20 A_ CE Bn Cf T Bw BP (I v4) (I v4)))) (RQ AO G D Dl Y v3 X v2 v5 v6 v8 v10 v11 v12 L M N O S U V v20 A_ CE Bn Cf T Bw BP (I v4) (I v4))) (none)) (some (2,[.vC Ag X, .vC kPt Y,I v10,I v11,I v12, .vC Ag L, .vC kPt M,I N,I O,I S])):=by kernel_rfl
theorem Znw (S T U V X Y A_ Dl AO N:Fn) (M O:Lp) (L:Rw):W6 S T U V X Y A_ Dl AO N M O [.vC Ae L]=
 (N [.vC Ae L]).bind λG=>
 cond (gA G 0 !=0) (some [I 0,I 0,I 0, .vC Ag [], .vC kPt [],jA G 0]) ((O [.vC Ag [], .vC kPt [], .vC Ae L,I 0,I 0,I (-1),B false, .vC Ae L,I (L.length:Int),I 0,I 0,I 0,I 0, .vC Ag [], .vC kPt [],I 0,I 0,I 0,I 0,I 0,I 0]).bind λD=>
 cond (D.1.beq 1) (some [jA D.2 1,jA D.2 2,jA D.2 3, .vC Ag [], .vC kPt [],jA D.2 0]) (cond (D.1.beq 2) (some [jA D.2 7,jA D.2 8,jA D.2 9, .vC Ag (wA D.2 0), .vC kPt (wA D.2 1),I 0]) (none))):=by kernel_rfl
def P5:=Al (RA Is F9 Gg Iw Fz GS Ek H0 CT H6)
def Q1n:=Al (P4 Is F9 Gg Iw Fz GS Ek H0 CT H6 P5)
def QC:=W6 Is F9 Gg Iw Fz GS Ek H0 CT H6 P5 Q1n
theorem Qmt:Ai PG (XE Is F9 Gg Iw Fz GS Ek H0 CT H6):=An rfl ⟨Yf3,Q7i,Qzy,Yjv,Qxv,Z6j,Yl,Zzu,Qk,Z6r,trivial⟩
theorem Yhh:Ak PG (Zpd QC):=rw2 (C:=Q8h Is F9 Gg Iw Fz GS Ek H0 CT H6 P5 Q1n) (fl (fl fb Qmt) Qmt) Qmt
def Qb2:Sk:=⟨[TS.v true (cc 9++[sa Aa]),tf [ci]],[],[]⟩
def Zfc:=qd 60 Qb2 Y3
def Zam:Fn:=Am PG Qjw 64 60 Qb2 Y3
theorem Zk5 (L M N S T U G V X:Int) (Y:Rw) (D:Int):Zam [I L,I M,I N,I S,I T,I U,I G,I V,I X, .vC Aa Y,I D]=
 cond (D== -1) (some [I (O (0-G))]) (some [I 0]):=by kernel_rfl
def JM:=Zam
theorem Zlm:Ai PG (Qjw):=An rfl trivial
theorem Q7q:Ak PG (Zfc JM):=rw1 (C:=Qjw) Zlm
def Qe2:Sk:=⟨[TS.v true (cc 9++[sa Aa]),TS.v true (cc 10),tf [ci],tf [ci]],[],[]⟩
def Yjn:=qd 61 Qe2 Y3
def XI (D:Fn):Cfg:=cf [Zfc D]
def QK (D:Fn):Fn:=Am PG (XI D) 64 61 Qe2 Y3
abbrev Uw (D G M:Int) (L:Bool):Option (List AC):=
 cond (L) (some [I (O (0-mn (O (D-G)) M))]) (some [I (O (mn (O (D-G)) M-M))])
abbrev WO (D:Int) (G:Fn) (L M N O S T U V X:Int) (Y:Rw) (a0 a1 a2:Int):Option (List AC):=
 cond (decide (D=(↑0:Int))) ((G [I L,I M,I N,I O,I S,I T,I U,I V,I X, .vC Aa Y,I a0]).bind λa3=>
 some [jA a3 0]) (cond (decide (D=(↑(0+1):Int))) ((G [I L,I M,I N,I O,I S,I T,I U,I V,I X, .vC Aa Y,I a1]).bind λa4=>
 some [jA a4 0]) (cond (decide (D=(↑(0+1+1):Int))) ((G [I L,I M,I N,I O,I S,I T,I U,I V,I X, .vC Aa Y,I a2]).bind λa5=>
 some [jA a5 0]) (none)))
abbrev Vv (D:Int) (T:Fn) (U V X Y x4 x5 S x7 x8:Int) (x9:Rw) (L M N G I:Int) (O:Bool):Option (List AC):=
 cond (O) (WO D T U V X Y x4 x5 S x7 x8 x9 L M N) (cond (decide (D=(↑0:Int))) (Uw G I S (L== -1)) (cond (decide (D=(↑(0+1):Int))) (Uw G I S (M== -1)) (cond (decide (D=(↑(0+1+1):Int))) (Uw G I S (N== -1)) (none))))
abbrev T6 (D:Int) (U:Fn) (V X Y x3 x4 x5 x6 x7 x8:Int) (x9:Rw) (G I L M N:Int) (O S T:Bool):Option (List AC):=
 cond (decide (D=(↑0:Int))) (Vv D U V X Y x3 x4 x5 x6 x7 x8 x9 G I L M N O) (cond (decide (D=(↑(0+1):Int))) (Vv D U V X Y x3 x4 x5 x6 x7 x8 x9 G I L M N S) (cond (decide (D=(↑(0+1+1):Int))) (Vv D U V X Y x3 x4 x5 x6 x7 x8 x9 G I L M N T) (none)))
theorem Qnq (V:Fn) (X Y x2 x3 x4 x5 x6 x7 x8:Int) (x9:Rw) (N a1 a2 a0 O S T D G L M U:Int):QK V [I X,I Y,I x2,I x3,I x4,I x5,I x6,I x7,I x8, .vC Aa x9,I N,I a1,I a2,I a0,I O,I S,I T,I D,I G,I L,I M,I U]=
 cond (a0 !=0) (WO M V X Y x2 x3 x4 x5 x6 x7 x8 x9 D G L) (cond (decide (M=(↑0:Int))) (T6 M V X Y x2 x3 x4 x5 x6 x7 x8 x9 D G L U N (O==D) (O==G) (O==L)) (cond (decide (M=(↑(0+1):Int))) (T6 M V X Y x2 x3 x4 x5 x6 x7 x8 x9 D G L U N (S==D) (S==G) (S==L)) (cond (decide (M=(↑(0+1+1):Int))) (T6 M V X Y x2 x3 x4 x5 x6 x7 x8 x9 D G L U N (T==D) (T==G) (T==L)) (none)))):=by kernel_rfl
def SM:=QK JM
theorem Zoq:Ai PG (XI JM):=An rfl ⟨Q7q,trivial⟩
theorem Z5e:Ak PG (Yjn SM):=rw1 (C:=XI JM) Zoq
def Yb8:=qd 111 Qb2 Y3
def Zcz:Fn:=Am PG Qjw 64 111 Qb2 Y3
theorem Zn2 (D L M N S T U V X:Int) (Y:Rw) (G:Int):Zcz [I D,I L,I M,I N,I S,I T,I U,I V,I X, .vC Aa Y,I G]=
 cond (decide (D<=0)) (some [I 0]) (cond (decide (O (2*D)<=0)) (some [I 0]) (cond (decide (O (2*D)=0)) (none) (cond (decide (O (2*D)=0)) (none) (cond (decide ((O (O (2*G)+D)).tmod (O (2*D))<0)) (some [I (O (O ((O (O (2*G)+D)).tdiv (O (2*D)))-1))]) (some [I (O ((O (O (2*G)+D)).tdiv (O (2*D))))]))))):=by kernel_rfl
def KC:=Zcz
theorem Yjh:Ai PG (Qjw):=An rfl trivial
theorem Zku:Ak PG (Yb8 KC):=rw1 (C:=Qjw) Yjh
def ZS:Sk:=⟨[tf [si .u64],tf [sb]],[],[]⟩
def YZ:Sk:=⟨[TS.tup [(false,[ci]),(false,[sb])]],[],[]⟩
def W9:=qd 130 ZS YZ
def Zag:Fn:=Am PG Qjw 64 130 ZS YZ
theorem Zhs (D:Int) (G:Bool):Zag [U D,B G]=
 cond (G) (cond (decide (D<=9223372036854775808)) (some [I (O (wrap .u64 (0-D))),B true]) (cond (!G) (cond (decide (D<9223372036854775808)) (some [I (O D),B true]) (some [I 0,B false])) (some [I 0,B false]))) (cond (!G) (cond (decide (D<9223372036854775808)) (some [I (O D),B true]) (some [I 0,B false])) (some [I 0,B false])):=by kernel_rfl
def Fg:=Zag
theorem Z30:Ai PG (Qjw):=An rfl trivial
theorem Qnf:Ak PG (W9 Fg):=rw1 (C:=Qjw) Z30
def Qg8:Sk:=⟨[tf [ci],tf [ci],tf [sb],tf [sb]],[],[]⟩
def Q92:=qd 129 Qg8 V1
def Zc9:Fn:=Am PG Qjw 64 129 Qg8 V1
theorem Z1h (G L:Int) (M D:Bool):Zc9 [I G,I L,B M,B D]=
 cond (G==0) (cond (M) (some [B D]) (some [B false])) (cond (G==1) (cond (M) (some [B !D]) (some [B false])) (cond (decide (L>0)) (some [B true]) (cond (L==0) (some [B !D]) (some [B false])))):=by kernel_rfl
def IJ:=Zc9
theorem Yki:Ai PG (Qjw):=An rfl trivial
theorem Zjh:Ak PG (Q92 IJ):=rw1 (C:=Qjw) Yki
def XY:=qd 128 ZA Y3
def Zbc:Fn:=Am PG Qjw 64 128 ZA Y3
theorem Zoy (D G:Int):Zbc [I D,I G]=
 cond (D==0) (some [I 0]) (cond (G==0) (some [I 0]) (cond (decide (D<0)==decide (G<0)) (some [I 1]) (some [I (-1)]))):=by kernel_rfl
def GB:=Zbc
theorem Zl1:Ai PG (Qjw):=An rfl trivial
theorem Qf1:Ak PG (XY GB):=rw1 (C:=Qjw) Zl1
def WX:Sk:=⟨[tf [si .u64],tf [si .u64],tf [si .u64]],[],[]⟩
def Zgw:=qd 127 WX Qp6
def Yx (D:Fn):Cfg:=cf [(172,Ab Zgq Zfn D)]
def Qxc:Sk:=⟨[td,td,tf [si .u64],td,td,td,td,td,tf [si .u64],tf [si .u64],tf [si .u64],tf [si .u64],td,tf [si .u64],tf [si .u64],tf [si .u64],tf [si .u64]]++dd 118,[],[]⟩
def Zca:List (Ex×Sk):=[(Ex.exit 0,⟨[td,td,tf [si .u64],td,td,td,td,td,tf [si .u64],tf [si .u64],tf [si .u64],tf [si .u64],td,tf [si .u64],tf [si .u64],tf [si .u64]]++dd 119,[],[]⟩)]
def L4 (D:Fn):Lp:=AG PG (Yx D) 64 17 (AH PG 127 17) Qxc Zca
def Zaa (G:Fn) (D:Lp):Cfg:=(Yx G).loop 17 Qxc Zca D
def Q0o:Sk:=⟨[td,td,tf [si .u64],td,td,td,td,td,tf [si .u64],tf [si .u64],tf [si .u64],td,td,td,tf [si .u64],tf [si .u64],tf [si .u64],tf [si .u64],tf [si .u64]]++dd 116,[],[]⟩
def Zac:List (Ex×Sk):=[(Ex.exit 2,⟨[td,td,tf [si .u64],td,td,td,td,td,tf [si .u64],td,td,td,td,td,tf [si .u64],tf [si .u64],td,tf [si .u64],tf [si .u64]]++dd 116,[],[]⟩)]
def P8 (G:Fn) (D:Lp):Lp:=AG PG (Zaa G D) 64 24 (AH PG 127 24) Q0o Zac
def Q5r (I:Fn) (D G:Lp):Cfg:=(Zaa I D).loop 24 Q0o Zac G
def Qf5 (I:Fn) (D G:Lp):Fn:=Am PG (Q5r I D G) 64 127 WX Qp6
theorem Zw4 (DP:Fn) (M N D I O L S G T:Int):L4 DP [U M,U N,U D,U I,U O,U L,U S,U G,U T]=
 cond (decide (G>=4294967296)) (cond (decide (wrap .u64 (T+D)>=4294967296)) (some (1,[U M,U N,U D,U I,U O,U L,U S,U (wrap .u64 (G-1))])) (some (0,[U M,U N,U D,U I,U O,U L,U S,U (wrap .u64 (G-1)),U (wrap .u64 (T+D))]))) (cond (decide (wrap .u64 (G*I)>wrap .u64 (wrap .u64 (4294967296*T)+L))) (cond (decide (wrap .u64 (T+D)>=4294967296)) (some (1,[U M,U N,U D,U I,U O,U L,U S,U (wrap .u64 (G-1))])) (some (0,[U M,U N,U D,U I,U O,U L,U S,U (wrap .u64 (G-1)),U (wrap .u64 (T+D))]))) (some (1,[U M,U N,U D,U I,U O,U L,U S,U G]))):=by kernel_rfl
theorem Zu8 (DP:Fn) (N17:Lp) (L M G T I N O S D:Int):P8 DP N17 [U L,U M,U G,U T,U I,U N,U O,U S,U D]=
 cond (decide (D>=4294967296)) (cond (decide (wrap .u64 (O+G)>=4294967296)) (some (1,[U L,U M,U I,U N,U S,U (wrap .u64 (D-1))])) (some (0,[U L,U M,U G,U T,U I,U N,U (wrap .u64 (O+G)),U S,U (wrap .u64 (D-1))]))) (cond (decide (wrap .u64 (D*T)>wrap .u64 (wrap .u64 (4294967296*O)+I))) (cond (decide (wrap .u64 (O+G)>=4294967296)) (some (1,[U L,U M,U I,U N,U S,U (wrap .u64 (D-1))])) (some (0,[U L,U M,U G,U T,U I,U N,U (wrap .u64 (O+G)),U S,U (wrap .u64 (D-1))]))) (some (1,[U L,U M,U I,U N,U S,U D]))):=by kernel_rfl
theorem Q41 (O:Fn) (M N:Lp) (L I G:Int):Qf5 O M N [U L,U I,U G]=
 cond (G==0) (none) (cond (decide (G<=L)) (none) (cond (L==0) (cond (decide (G=0)) (none) (cond (decide (G=0)) (none) (some [U (wrap .u64 (I.tdiv G)),U (I.tmod G)]))) ((O [U G]).bind λo6=>
 cond (decide (wrap .u64 (gA o6 0)<0)) (none) (cond (decide (wrap .u64 (gA o6 0)<0)) (none) (cond (decide (wrap .u64 (64-wrap .u64 (gA o6 0))<0)) (none) (cond (decide (wrap .u64 (gA o6 0)<0)) (none) (cond (decide ((wrap .u64 (G*2^min (wrap .u64 (gA o6 0)).toNat IntKind.u64.bits)).fdiv (2^min (Int.toNat 32) IntKind.u64.bits)=0)) (none) ((M [U (wrap .u64 (G*2^min (wrap .u64 (gA o6 0)).toNat IntKind.u64.bits)),U (wrap .u64 (gA o6 0)),U ((wrap .u64 (G*2^min (wrap .u64 (gA o6 0)).toNat IntKind.u64.bits)).fdiv (2^min (Int.toNat 32) IntKind.u64.bits)),U (wrap .u64 (↑(BitVec.ofInt IntKind.u64.bits (wrap .u64 (G*2^min (wrap .u64 (gA o6 0)).toNat IntKind.u64.bits))&&&BitVec.ofInt IntKind.u64.bits 4294967295).toNat:Int)),U (wrap .u64 (↑(BitVec.ofInt IntKind.u64.bits (wrap .u64 (L*2^min (wrap .u64 (gA o6 0)).toNat IntKind.u64.bits))|||BitVec.ofInt IntKind.u64.bits (I.fdiv (2^min (wrap .u64 (64-wrap .u64 (gA o6 0))).toNat IntKind.u64.bits))).toNat:Int)),U ((wrap .u64 (I*2^min (wrap .u64 (gA o6 0)).toNat IntKind.u64.bits)).fdiv (2^min (Int.toNat 32) IntKind.u64.bits)),U (wrap .u64 (↑(BitVec.ofInt IntKind.u64.bits (wrap .u64 (I*2^min (wrap .u64 (gA o6 0)).toNat IntKind.u64.bits))&&&BitVec.ofInt IntKind.u64.bits 4294967295).toNat:Int)),U (wrap .u64 ((wrap .u64 (↑(BitVec.ofInt IntKind.u64.bits (wrap .u64 (L*2^min (wrap .u64 (gA o6 0)).toNat IntKind.u64.bits))|||BitVec.ofInt IntKind.u64.bits (I.fdiv (2^min (wrap .u64 (64-wrap .u64 (gA o6 0))).toNat IntKind.u64.bits))).toNat:Int)).tdiv ((wrap .u64 (G*2^min (wrap .u64 (gA o6 0)).toNat IntKind.u64.bits)).fdiv (2^min (Int.toNat 32) IntKind.u64.bits)))),U (wrap .u64 (wrap .u64 (↑(BitVec.ofInt IntKind.u64.bits (wrap .u64 (L*2^min (wrap .u64 (gA o6 0)).toNat IntKind.u64.bits))|||BitVec.ofInt IntKind.u64.bits (I.fdiv (2^min (wrap .u64 (64-wrap .u64 (gA o6 0))).toNat IntKind.u64.bits))).toNat:Int)-wrap .u64 (wrap .u64 ((wrap .u64 (↑(BitVec.ofInt IntKind.u64.bits (wrap .u64 (L*2^min (wrap .u64 (gA o6 0)).toNat IntKind.u64.bits))|||BitVec.ofInt IntKind.u64.bits (I.fdiv (2^min (wrap .u64 (64-wrap .u64 (gA o6 0))).toNat IntKind.u64.bits))).toNat:Int)).tdiv ((wrap .u64 (G*2^min (wrap .u64 (gA o6 0)).toNat IntKind.u64.bits)).fdiv (2^min (Int.toNat 32) IntKind.u64.bits)))*(wrap .u64 (G*2^min (wrap .u64 (gA o6 0)).toNat IntKind.u64.bits)).fdiv (2^min (Int.toNat 32) IntKind.u64.bits))))]).bind λD=>
 cond (D.1.beq 1) (cond (decide (gA D.2 2=0)) (none) ((N [U (gA D.2 0),U (gA D.2 1),U (gA D.2 2),U (gA D.2 3),U (gA D.2 6),U (gA D.2 7),U (wrap .u64 (wrap .u64 (wrap .u64 (wrap .u64 (gA D.2 4*4294967296)+gA D.2 5)-wrap .u64 (gA D.2 7*gA D.2 0))-wrap .u64 (wrap .u64 ((wrap .u64 (wrap .u64 (wrap .u64 (gA D.2 4*4294967296)+gA D.2 5)-wrap .u64 (gA D.2 7*gA D.2 0))).tdiv (gA D.2 2))*gA D.2 2))),U (wrap .u64 (wrap .u64 (wrap .u64 (gA D.2 4*4294967296)+gA D.2 5)-wrap .u64 (gA D.2 7*gA D.2 0))),U (wrap .u64 ((wrap .u64 (wrap .u64 (wrap .u64 (gA D.2 4*4294967296)+gA D.2 5)-wrap .u64 (gA D.2 7*gA D.2 0))).tdiv (gA D.2 2)))]).bind λo8=>
 cond (o8.1.beq 1) (cond (decide (gA o8.2 1<0)) (none) (some [U (wrap .u64 (wrap .u64 (gA o8.2 3*4294967296)+gA o8.2 5)),U ((wrap .u64 (wrap .u64 (wrap .u64 (gA o8.2 4*4294967296)+gA o8.2 2)-wrap .u64 (gA o8.2 5*gA o8.2 0))).fdiv (2^min (gA o8.2 1).toNat IntKind.u64.bits))])) (none))) (none))))))))):=by kernel_rfl
def Vd:=Al (L4 IN)
def Qjk:=Al (P8 IN Vd)
def GZ:=Qf5 IN Vd Qjk
theorem Qts:Ai PG (Yx IN):=An rfl ⟨Z64,trivial⟩
theorem Qv5:Ak PG (Zgw GZ):=rw2 (C:=Q5r IN Vd Qjk) (fl (fl fb Qts) Qts) Qts
def Qev:Sk:=⟨[TS.v true [si .u64,si .u64]],[],[]⟩
def Uv:=qd 125 Xm Qev
def Zk (D:Fn):Cfg:=cf [(171,Ab Qbe VP D)]
def Zfo (D:Fn):Fn:=Am PG (Zk D) 64 125 Xm Qev
theorem Zqf (D:Fn) (G I:Int):Zfo D [U G,U I]=
 (D [U G,U I]).bind λo1=>
 some [U (gA o1 0),U (gA o1 1)]:=by kernel_rfl
def Ew:=Zfo Ih
theorem Zos:Ai PG (Zk Ih):=An rfl ⟨Qzn,trivial⟩
theorem Vf:Ak PG (Uv Ew):=rw1 (C:=Zk Ih) Zos
def Qed:=qd 126 Y3 WS
def Qwo:Fn:=Am PG Qjw 64 126 Y3 WS
theorem Zj6 (D:Int):Qwo [I D]=
 cond (decide (D<0)) (some [U (wrap .u64 (wrap .u64 (O (0-O (D+1)))+1))]) (some [U (wrap .u64 D)]):=by kernel_rfl
def Gr:=Qwo
theorem Zsd:Ai PG (Qjw):=An rfl trivial
theorem Ws:Ak PG (Qed Gr):=rw1 (C:=Qjw) Zsd
def Qtf:=qd 124 Y3 V1
def Qv3:Fn:=Am PG Qjw 64 124 Y3 V1
theorem Z5l (D:Int):Qv3 [I D]=
 cond (D==0) (some [B true]) (cond (D==1) (some [B true]) (some [B (D==2)])):=by kernel_rfl
def Gw:=Qv3
theorem Z69:Ai PG (Qjw):=An rfl trivial
theorem Qrd:Ak PG (Qtf Gw):=rw1 (C:=Qjw) Z69
def RP:=qd 82 Wk YZ
def Qte (D G I L M Cm N:Fn):Cfg:=cf [W9 D,Q92 G,XY I,Zgw L,Uv M,Qed Cm,Qtf N]
def Qd4 (D G I L M Cm N:Fn):Fn:=Am PG (Qte D G I L M Cm N) 64 82 Wk YZ
abbrev Vx (T:Fn) (V:Int) (G:List AC) (S:Fn) (L D:AC):Option (List AC):=
 (T [I V,L,B (decide (gA G 1>0)),D]).bind λO=>
 cond (bA O 0) (cond (wrap .u64 (gA G 0+1)==0) (some [I 0,B false]) ((S [U (wrap .u64 (gA G 0+1)),D]).bind λM=>
 some [jA M 0,B (bA M 1)])) ((S [U (gA G 0),D]).bind λN=>
 some [jA N 0,B (bA N 1)])
abbrev Wz (D L:List AC) (M:Fn) (N:Int) (O:Fn) (G:AC):Option (List AC):=
 cond (decide (gA D 1>wrap .u64 (gA L 0-gA D 1))) (Vx M N D O (I 1) G) (cond (decide (gA D 1<wrap .u64 (gA L 0-gA D 1))) (Vx M N D O (I (-1)) G) (Vx M N D O (I 0) G))
theorem Yet (T V X FU BA Cm DF:Fn) (M N O S:Int):Qd4 T V X FU BA Cm DF [I M,I N,I O,I S]=
 cond (O==0) (some [I 0,B false]) ((DF [I S]).bind λY=>
 cond (!bA Y 0) (some [I 0,B false]) ((Cm [I M]).bind λa0=>
 (Cm [I N]).bind λa1=>
 (BA [U (gA a0 0),U (gA a1 0)]).bind λG=>
 (Cm [I O]).bind λD=>
 cond (decide (gA G 0>=gA D 0)) (some [I 0,B false]) ((FU [U (gA G 0),U (gA G 1),U (gA D 0)]).bind λL=>
 (X [I M,I N]).bind λa2=>
 cond (!decide (gA a2 0<0)==decide (O<0)) ((X [I M,I N]).bind λa3=>
 Wz L D V S T (B (gA a3 0 !=0))) (Wz L D V S T (B false))))):=by kernel_rfl
def CU:=Qd4 Fg IJ GB GZ Ew Gr Gw
theorem Yae:Ai PG (Qte Fg IJ GB GZ Ew Gr Gw):=An rfl ⟨Qnf,Zjh,Qf1,Qv5,Vf,Ws,Qrd,trivial⟩
theorem QF:Ak PG (RP CU):=rw1 (C:=Qte Fg IJ GB GZ Ew Gr Gw) Yae
def Z49:=qd 112 Qb2 Y3
def VV (D:Fn):Cfg:=cf [RP D]
def Q4y (D:Fn):Fn:=Am PG (VV D) 64 112 Qb2 Y3
theorem Z8k (N:Fn) (S T U V X Y x6 M L:Int) (G:Rw) (D:Int):Q4y N [I S,I T,I U,I V,I X,I Y,I x6,I M,I L, .vC Aa G,I D]=
 cond (decide (O ((G.length:Int)-1)<0)) (some [I 0]) (cond (decide (O (D-M)<=0)) (cond (decide (0<=0)&&decide (0<(G.length:Int))) (some [jA (nth [] G 0) 0]) (none)) (cond (decide (L<=0)) (cond (decide (0<=0)&&decide (0<(G.length:Int))) (some [jA (nth [] G 0) 0]) (none)) (cond (decide (L=0)) (none) (cond (decide (O ((O (D-M)).tdiv L)>=O ((G.length:Int)-1))) (cond (decide (0<=O ((G.length:Int)-1))&&decide (O ((G.length:Int)-1)<(G.length:Int))) (some [jA (nth [] G (O ((G.length:Int)-1)).toNat) 0]) (none)) (cond (decide (0<=O (O ((O (D-M)).tdiv L)+1))&&decide (O (O ((O (D-M)).tdiv L)+1)<(G.length:Int))) (cond (decide (0<=O ((O (D-M)).tdiv L))&&decide (O ((O (D-M)).tdiv L)<(G.length:Int))) ((N [I (O (Ah (nth .vD (nth [] G (O (O ((O (D-M)).tdiv L)+1)).toNat) 0)-Ah (nth .vD (nth [] G (O ((O (D-M)).tdiv L)).toNat) 0))),I (O (O (D-M)-O (O ((O (D-M)).tdiv L)*L))),I L,I 2]).bind λo1=>
 cond (decide (0<=O ((O (D-M)).tdiv L))&&decide (O ((O (D-M)).tdiv L)<(G.length:Int))) (some [I (O (Ah (nth .vD (nth [] G (O ((O (D-M)).tdiv L)).toNat) 0)+gA o1 0))]) (none)) (none)) (none)))))):=by kernel_rfl
def J3:=Q4y CU
theorem Zvm:Ai PG (VV CU):=An rfl ⟨QF,trivial⟩
theorem Yaj:Ak PG (Z49 J3):=rw1 (C:=VV CU) Zvm
def Yix:=qd 59 Qb2 Y3
def W4 (D G:Fn):Cfg:=cf [Yb8 D,Z49 G]
def Q4a (D G:Fn):Fn:=Am PG (W4 D G) 64 59 Qb2 Y3
theorem Z84 (PD Oo:Fn) (G L M N S T U V X:Int) (Y:Rw) (D:Int):Q4a PD Oo [I G,I L,I M,I N,I S,I T,I U,I V,I X, .vC Aa Y,I D]=
 (Oo [I G,I L,I M,I N,I S,I T,I U,I V,I X, .vC Aa Y,I D]).bind λo2=>
 (PD [I G,I L,I M,I N,I S,I T,I U,I V,I X, .vC Aa Y,I (O (D+gA o2 0))]).bind λo3=>
 some [jA o3 0]:=by kernel_rfl
def Na:=Q4a KC J3
theorem Zw6:Ai PG (W4 KC J3):=An rfl ⟨Zku,Yaj,trivial⟩
theorem Z33:Ak PG (Yix Na):=rw1 (C:=W4 KC J3) Zw6
def YF:Sk:=⟨[TS.v true ([sa Ap]++cc 5),tf [ci]],[],[]⟩
def Zhe:=qd 58 YF Y3
def Zi9:Sk:=⟨[td,tf [ci],tf [sd 2 0],td,td,tf [ci],tf [ci]]++dd 29,[(2,52,[sa Ap]++cc 5)],[]⟩
def Zdp:List (Ex×Sk):=[(Ex.exit 0,⟨dd 6++[tf [ci]]++dd 29,[],[]⟩)]
def Ta:Lp:=AG PG Qjw 64 2 (AH PG 58 2) Zi9 Zdp
def Q8i (D:Lp):Cfg:=Qjw.loop 2 Zi9 Zdp D
def Q4o (D:Lp):Fn:=Am PG (Q8i D) 64 58 YF Y3
theorem Qgk (M G D:Int) (L:Rw) (N S T U V:Int):Ta [I M,I G,I D, .vC Ap L,I N,I S,I T,I U,I V]=
 cond (decide (G<D)) (cond (decide (0<=O ((O (G+D)).tdiv 2))&&decide (O ((O (G+D)).tdiv 2)<(L.length:Int))) (cond (decide (M<=O (Ah (nth .vD (nth [] L (O ((O (G+D)).tdiv 2)).toNat) 0)+Ah (nth .vD (nth [] L (O ((O (G+D)).tdiv 2)).toNat) 1)))) (some (0,[I M,I G,I (O ((O (G+D)).tdiv 2)), .vC Ap L,I N,I S,I T,I U,I V])) (some (0,[I M,I (O (O ((O (G+D)).tdiv 2)+1)),I D, .vC Ap L,I N,I S,I T,I U,I V]))) (none)) (some (1,[I D])):=by kernel_rfl
theorem Yiv (G:Lp) (D:Rw) (L M N S T U:Int):Q4o G [.vC Ap D,I L,I M,I N,I S,I T,I U]=
 (G [I U,I 0,I (O ((D.length:Int)-1)), .vC Ap D,I L,I M,I N,I S,I T]).bind λo1=>
 cond (o1.1.beq 1) (some [jA o1.2 0]) (none):=by kernel_rfl
def Mt:=Al (Ta)
def Jd:=Q4o Mt
theorem Zap:Ai PG (Qjw):=An rfl trivial
theorem Zbl:Ak PG (Zhe Jd):=rw2 (C:=Q8i Mt) (fl fb Zap) Zap
def Qk9:Sk:=⟨[TS.v true [ci,ci,ci,sa Ag,sa kPt],tf [ci]],[],[]⟩
def Xn:Sk:=⟨[TS.tup [(false,[ci]),(false,[ci])]],[],[]⟩
def Qk1:=qd 81 Qk9 Xn
def Q25:Sk:=⟨[td,tf [ci],tf [sd 2 0]]++dd 8++[tf [sa Ag],tf [ci],tf [ci]]++dd 24,[(2,46,[ci,ci,ci,sa Ag,sa kPt])],[]⟩
def Zi4:List (Ex×Sk):=[(Ex.ret,⟨[td,td,td,td,tf [ci],tf [ci]]++dd 32,[],[]⟩),(Ex.exit 0,⟨[td]++dd 37,[],[]⟩)]
def SW:Lp:=AG PG Qjw 64 3 (AH PG 81 3) Q25 Zi4
def Zd0 (D:Lp):Cfg:=Qjw.loop 3 Q25 Zi4 D
def Q4p (D:Lp):Fn:=Am PG (Zd0 D) 64 81 Qk9 Xn
theorem Zd4 (L:Int) (G:Rw) (M D S T U:Int) (N V:Rw):SW [I L, .vC Ag G,I M,I D,I S,I T,I U, .vC Ag N, .vC kPt V]=
 cond (decide (D<M)) (cond (decide (0<=D)&&decide (D<(G.length:Int))) (cond (decide (L<gA (nth [] G D.toNat) 3)) (some (1,[I D,I L])) (cond (D==O ((N.length:Int)-1)) (some (1,[I D,jA (nth [] G D.toNat) 3])) (some (0,[I (O (L-gA (nth [] G D.toNat) 3)), .vC Ag G,I M,I (O (D+1)),I S,I T,I U, .vC Ag N, .vC kPt V])))) (none)) (some (2,[])):=by kernel_rfl
theorem Qz8 (G:Lp) (L M N:Int) (D O:Rw) (S:Int):Q4p G [I L,I M,I N, .vC Ag D, .vC kPt O,I S]=
 (G [I (mx S 0), .vC Ag D,I (D.length:Int),I 0,I L,I M,I N, .vC Ag D, .vC kPt O]).bind λo1=>
 cond (o1.1.beq 1) (some [jA o1.2 0,jA o1.2 1]) (cond (o1.1.beq 2) (some [I (-1),I 0]) (none)):=by kernel_rfl
def Nw:=Al (SW)
def EJ:=Q4p Nw
theorem Q7w:Ai PG (Qjw):=An rfl trivial
theorem Qar:Ak PG (Qk1 EJ):=rw2 (C:=Zd0 Nw) (fl fb Q7w) Q7w
def Yj9:=qd 36 Qk9 Quv
def Yr (D G:Fn):Cfg:={cf [RP D,Qk1 G]with unroll:=[9]}
def Qes (D G:Fn):Fn:=Am PG (Yr D G) 64 36 Qk9 Quv
theorem Zx0 (A8 Dx:Fn) (L M N:Int) (G X:Rw) (Y:Int):Qes A8 Dx [I L,I M,I N, .vC Ag G, .vC kPt X,I Y]=
 (Dx [I L,I M,I N, .vC Ag G, .vC kPt X,I Y]).bind λD=>
 cond (decide (gA D 0<0)) (some [I L,I M,I N]) (cond (decide (gA D 0>0)) (cond (decide (0<=O (gA D 0-1))&&decide (O (gA D 0-1)<(G.length:Int))) (cond (decide (0<=gA D 0)&&decide (gA D 0<(G.length:Int))) ((A8 [I (O (gA (nth [] G (gA D 0).toNat) 0-gA (nth [] G (O (gA D 0-1)).toNat) 0)),jA D 1,jA (nth [] G (gA D 0).toNat) 3,I 2]).bind λo8=>
 (A8 [I (O (gA (nth [] G (gA D 0).toNat) 1-gA (nth [] G (O (gA D 0-1)).toNat) 1)),jA D 1,jA (nth [] G (gA D 0).toNat) 3,I 2]).bind λo9=>
 (A8 [I (O (gA (nth [] G (gA D 0).toNat) 2-gA (nth [] G (O (gA D 0-1)).toNat) 2)),jA D 1,jA (nth [] G (gA D 0).toNat) 3,I 2]).bind λS=>
 some [I (O (gA (nth [] G (O (gA D 0-1)).toNat) 0+gA o8 0)),I (O (gA (nth [] G (O (gA D 0-1)).toNat) 1+gA o9 0)),I (O (gA (nth [] G (O (gA D 0-1)).toNat) 2+gA S 0))]) (none)) (none)) (cond (decide (0<=gA D 0)&&decide (gA D 0<(G.length:Int))) ((A8 [I (O (gA (nth [] G (gA D 0).toNat) 0-L)),jA D 1,jA (nth [] G (gA D 0).toNat) 3,I 2]).bind λT=>
 (A8 [I (O (gA (nth [] G (gA D 0).toNat) 1-M)),jA D 1,jA (nth [] G (gA D 0).toNat) 3,I 2]).bind λU=>
 (A8 [I (O (gA (nth [] G (gA D 0).toNat) 2-N)),jA D 1,jA (nth [] G (gA D 0).toNat) 3,I 2]).bind λV=>
 some [I (O (L+gA T 0)),I (O (M+gA U 0)),I (O (N+gA V 0))]) (none))):=by kernel_rfl
def RN:=Qes CU EJ
theorem Ztl:Ai PG (Yr CU EJ):=An rfl ⟨QF,Qar,trivial⟩
theorem Zo4:Ak PG (Yj9 RN):=rw1 (C:=Yr CU EJ) Ztl
def Qrx:=qd 47 ZA Y3
def Zif:Fn:=Am PG Qjw 64 47 ZA Y3
theorem Zzw (D G:Int):Zif [I D,I G]=
 some [I (mx 0 (mn D G))]:=by kernel_rfl
def Hu:=Zif
theorem Z7q:Ai PG (Qjw):=An rfl trivial
theorem Qbb:Ak PG (Qrx Hu):=rw1 (C:=Qjw) Z7q
def Uj:=qd 57 YF Y3
def Qve (Gd D:Fn):Cfg:=cf [Zhe Gd,Qrx D]
def Qqd (Gd D:Fn):Fn:=Am PG (Qve Gd D) 64 57 YF Y3
theorem Z1k (Gd M:Fn) (D:Rw) (G L N S T U:Int):Qqd Gd M [.vC Ap D,I G,I L,I N,I S,I T,I U]=
 (M [I U,I G]).bind λo2=>
 (Gd [.vC Ap D,I G,I L,I N,I S,I T,jA o2 0]).bind λo3=>
 cond (decide (gA o3 0<0)) (some [I L]) (cond (decide (0<=gA o3 0)&&decide (gA o3 0<(D.length:Int))) (cond (decide (0<=gA o3 0)&&decide (gA o3 0<(D.length:Int))) (cond (decide (0<=gA o3 0)&&decide (gA o3 0<(D.length:Int))) (some [I (O (gA (nth [] D (gA o3 0).toNat) 2+O (gA (nth [] D (gA o3 0).toNat) 3*O (gA o2 0-gA (nth [] D (gA o3 0).toNat) 0))))]) (none)) (none)) (none)):=by kernel_rfl
def EP:=Qqd Jd Hu
theorem Yco:Ai PG (Qve Jd Hu):=An rfl ⟨Zbl,Qbb,trivial⟩
theorem UQ:Ak PG (Uj EP):=rw1 (C:=Qve Jd Hu) Yco
def XD:Sk:=⟨[TS.v true [ci,ci,ci,sa Ag,sa kPt],TS.v true (cc 9++[sa Aa]++cc 9++[sa Aa]++cc 9++[sa Aa]),TS.v true ([sa Ap]++cc 5),tf [ci]],[],[]⟩
def Zx:=qd 21 XD Quv
def Qki (D G I Gd L M N:Fn):Cfg:={cf [Yjn D,Zfc G,Yix I,Zhe Gd,Yj9 L,Uj M,Qrx N]with unroll:=[6]}
def Qfj (D G I Gd L M N:Fn):Fn:=Am PG (Qki D G I Gd L M N) 64 21 XD Quv
abbrev XF (V:Fn) (x:Ax3) (N D:List AC) (X:Fn) (t:Trk) (G:AC) (Y:Fn) (S:List AC) (L:AC):Option (List AC):=
 (V [I x.c.step,I x.c.aS,I x.c.bD,I x.c.bE,I x.c.low,I x.c.aY,I x.c.bB,I x.c.aV,I x.c.aO, .vC Aa (x.c.aW.map At),jA N 2]).bind λM=>
 cond (decide (gA D 0<0)) ((X [I x.c.step,I x.c.aS,I x.c.bD,I x.c.bE,I x.c.low,I x.c.aY,I x.c.bB,I x.c.aV,I x.c.aO, .vC Aa (x.c.aW.map At),I t.aT.z]).bind λT=>
 some [G,L,I (O (gA M 0+gA T 0))]) (cond (decide (0<=gA D 0)&&decide (gA D 0<((t.aE.map AZ).length:Int))) ((Y (I x.c.step::I x.c.aS::I x.c.bD::I x.c.bE::I x.c.low::I x.c.aY::I x.c.bB::I x.c.aV::I x.c.aO:: .vC Aa (x.c.aW.map At)::(AE Ap (nth [] (t.aE.map AZ) (gA D 0).toNat)++[I (O (O (0+1)+1)),jA S 0]))).bind λU=>
 some [G,L,I (O (gA M 0+gA U 0))]) (none))
abbrev Z7 (S:Fn) (x:Ax3) (L D:List AC) (T:Fn) (t:Trk) (U:Fn) (M:List AC) (G:AC):Option (List AC):=
 (S [I x.b.step,I x.b.aS,I x.b.bD,I x.b.bE,I x.b.low,I x.b.aY,I x.b.bB,I x.b.aV,I x.b.aO, .vC Aa (x.b.aW.map At),jA L 1]).bind λN=>
 cond (decide (gA D 0<0)) ((T [I x.b.step,I x.b.aS,I x.b.bD,I x.b.bE,I x.b.low,I x.b.aY,I x.b.bB,I x.b.aV,I x.b.aO, .vC Aa (x.b.aW.map At),I t.aT.y]).bind λV=>
 XF S x L D T t G U M (I (O (gA N 0+gA V 0)))) (cond (decide (0<=gA D 0)&&decide (gA D 0<((t.aE.map AZ).length:Int))) ((U (I x.b.step::I x.b.aS::I x.b.bD::I x.b.bE::I x.b.low::I x.b.aY::I x.b.bB::I x.b.aV::I x.b.aO:: .vC Aa (x.b.aW.map At)::(AE Ap (nth [] (t.aE.map AZ) (gA D 0).toNat)++[I (O (0+1)),jA M 0]))).bind λX=>
 XF S x L D T t G U M (I (O (gA N 0+gA X 0)))) (none))
theorem Yha (S T U Gd N_ B4 DB:Fn) (M:Int) (p:Pth) (x:Ax3) (t:Trk):Qfj S T U Gd N_ B4 DB (pxt p x t [I M])=
 (DB [I M,I t.length]).bind λG=>
 (B4 [.vC Ap (t.aE.map AZ),I t.length,I t.aQ,I t.aT.x,I t.aT.y,I t.aT.z,jA G 0]).bind λV=>
 (N_ [I p.aQ.x,I p.aQ.y,I p.aQ.z, .vC Ag (p.aF.map Az), .vC kPt (p.aD.map Aq),jA V 0]).bind λL=>
 (Gd [.vC Ap (t.aE.map AZ),I t.length,I t.aQ,I t.aT.x,I t.aT.y,I t.aT.z,jA G 0]).bind λD=>
 (U [I x.a.step,I x.a.aS,I x.a.bD,I x.a.bE,I x.a.low,I x.a.aY,I x.a.bB,I x.a.aV,I x.a.aO, .vC Aa (x.a.aW.map At),jA L 0]).bind λN=>
 cond (decide (gA D 0<0)) ((T [I x.a.step,I x.a.aS,I x.a.bD,I x.a.bE,I x.a.low,I x.a.aY,I x.a.bB,I x.a.aV,I x.a.aO, .vC Aa (x.a.aW.map At),I t.aT.x]).bind λX=>
 Z7 U x L D T t S G (I (O (gA N 0+gA X 0)))) (cond (decide (0<=gA D 0)&&decide (gA D 0<((t.aE.map AZ).length:Int))) ((S (I x.a.step::I x.a.aS::I x.a.bD::I x.a.bE::I x.a.low::I x.a.aY::I x.a.bB::I x.a.aV::I x.a.aO:: .vC Aa (x.a.aW.map At)::(AE Ap (nth [] (t.aE.map AZ) (gA D 0).toNat)++[I 0,jA G 0]))).bind λY=>
 Z7 U x L D T t S G (I (O (gA N 0+gA Y 0)))) (none)):=by kernel_rfl
def E7:=Qfj SM JM Na Jd RN EP Hu
theorem Yb7:Ai PG (Qki SM JM Na Jd RN EP Hu):=An rfl ⟨Z5e,Q7q,Z33,Zbl,Zo4,UQ,Qbb,trivial⟩
theorem Qpb:Ak PG (Zx E7):=rw1 (C:=Qki SM JM Na Jd RN EP Hu) Yb7
def Qe7:Sk:=⟨[tf [ci],TS.v true (cc 13++[sb,ci,sb]++cc 5++[sb])],[],[]⟩
def Znv:=qd 217 Qe7 Y3
def Qpz:Fn:=Am PG Qjw 64 217 Qe7 Y3
theorem Yji (G x1 x2 x3 x4 x5 x6 x7 x8 x9 M N S T:Int) (U:Bool) (V:Int) (X:Bool) (Y a0 a1 D a2:Int) (L:Bool):Qpz [I G,I x1,I x2,I x3,I x4,I x5,I x6,I x7,I x8,I x9,I M,I N,I S,I T,B U,I V,B X,I Y,I a0,I a1,I D,I a2,B L]=
 cond (x1 !=10) (some [I G]) (cond (decide (D<0)) (some [I G]) (cond (decide (D>=16)) (some [I G]) (cond (decide (wrap .u64 D<0)) (none) (cond (L) (some [I (O (↑(BitVec.ofInt IntKind.i64.bits G|||BitVec.ofInt IntKind.i64.bits (O (1*2^min (wrap .u64 D).toNat IntKind.i64.bits))).toNat:Int))]) (some [I (O (↑(BitVec.ofInt IntKind.i64.bits G&&& ~~~BitVec.ofInt IntKind.i64.bits (O (1*2^min (wrap .u64 D).toNat IntKind.i64.bits))).toNat:Int))]))))):=by kernel_rfl
def Kz:=Qpz
theorem Zr4:Ai PG (Qjw):=An rfl trivial
theorem Yhp:Ak PG (Znv Kz):=rw1 (C:=Qjw) Zr4
def Qms:Sk:=⟨[TS.v true [ci,ci,ci],TS.v true [ci,ci,sb,sb,sb]],[],[]⟩
def Q2k:=qd 216 Qms V1
def Qpq:Fn:=Am PG Qjw 64 216 Qms V1
theorem Yhr (M D N O S:Int) (T G L:Bool):Qpq [I M,I D,I N,I O,I S,B T,B G,B L]=
 cond (D==1) (some [B true]) (cond (D==3) (some [B true]) (cond (D==6) (some [B true]) (cond (D==4) (cond (L) (some [B true]) (some [B G])) (cond (D==2) (some [B G]) (some [B false]))))):=by kernel_rfl
def IA:=Qpq
theorem Zrj:Ai PG (Qjw):=An rfl trivial
theorem Q1b:Ak PG (Q2k IA):=rw1 (C:=Qjw) Zrj
def Qfn:Sk:=⟨[tf [sd 20000 0],tf [ci]],[(20000,179,cS)],[]⟩
def ZM:Sk:=⟨[tf [sa Aa]],[(20000,179,cS)],[]⟩
def Z76:=qd 165 Qfn ZM
def Qt2 (D G:Fn):Cfg:={cf [Znv D,Q2k G]with prom:=λb=>cond (Nat.beq b 2) ([(5,3)]) ([])}
def Qws:Sk:=⟨[tf [sd 20000 0],tf [ci],td,td,td,tf [se 5 1]]++dd 84,[(20000,179,cS)],[(5,3,Aa)]⟩
def Zd2:List (Ex×Sk):=[(Ex.exit 0,⟨[td,td,td,td,td,tf [se 5 1]]++dd 84,[(20000,179,cS)],[(5,3,Aa)]⟩)]
def Sw (D G:Fn):Lp:=AG PG (Qt2 D G) 64 2 (AH PG 165 2) Qws Zd2
def Qxk (D G:Fn) (I:Lp):Cfg:=(Qt2 D G).loop 2 Qws Zd2 I
def Qtl (D G:Fn) (I:Lp):Fn:=Am PG (Qxk D G I) 64 165 Qfn ZM
abbrev PI (K:Kf) (c:Cv) (D:Rw) (M:Fn) (L:Int):Option (Nat×List AC):=
 cond (gA (nth [] (K.p.aD.map Aq) c.aK.toNat) 1==5) (cond (((D++[[jA (nth [] (K.p.aD.map Aq) c.aK.toNat) 2]]).length*8).ble 140737488355328) (cond (decide (0<=gA (nth [] (K.p.aD.map Aq) c.aK.toNat) 2)&&decide (gA (nth [] (K.p.aD.map Aq) c.aK.toNat) 2<((K.aA.map Af).length:Int))) ((M (I c.outs::AE Ae (nth [] (K.aA.map Af) (gA (nth [] (K.p.aD.map Aq) c.aK.toNat) 2).toNat))).bind λG=>
 some (0,(.vC Aa (D++[[jA (nth [] (K.p.aD.map Aq) c.aK.toNat) 2]])::I L::Aj K {c with outs:=gA G 0,aK:=O (c.aK+1)}))) (none)) (none)) (some (0,(.vC Aa D::I L::Aj K {c with aK:=O (c.aK+1)})))
theorem Zw8 (L M:Fn) (D:Rw) (G:Int) (K:Kf) (c:Cv):Sw L M (.vC Aa D::I G::Aj K c)=
 cond (decide (c.aK<((K.p.aD.map Aq).length:Int))) (cond (decide (0<=c.aK)&&decide (c.aK<((K.p.aD.map Aq).length:Int))) (cond (decide (gA (nth [] (K.p.aD.map Aq) c.aK.toNat) 0>G)) (some (1,(.vC Aa D::Aj K c))) (cond (gA (nth [] (K.p.aD.map Aq) c.aK.toNat) 0==G) (cond (decide (c.aK>=c.next)) ((M [jA (nth [] (K.p.aD.map Aq) c.aK.toNat) 0,jA (nth [] (K.p.aD.map Aq) c.aK.toNat) 1,jA (nth [] (K.p.aD.map Aq) c.aK.toNat) 2,I c.o0,I c.o1,B c.o2,B c.o3,B c.o4]).bind λN=>
 cond (bA N 0) (some (1,(.vC Aa D::Aj K c))) (PI K c D L G)) (PI K c D L G)) (PI K c D L G))) (none)) (some (1,(.vC Aa D::Aj K c))):=by kernel_rfl
theorem Ykk (M N:Fn) (G:Lp) (L:Int) (K:Kf) (c:Cv):Qtl M N G (I L::Aj K c)=
 (G (.vC Aa []::I L::Aj K c)).bind λD=>
 cond (D.1.beq 1) (some (.vC Aa (wA D.2 0)::cR 1 D.2)) (none):=by kernel_rfl
def Q9e:=Al (Sw Kz IA)
def Nm:=Qtl Kz IA Q9e
theorem Q59:Ai PG (Qt2 Kz IA):=An rfl ⟨Yhp,Q1b,trivial⟩
theorem Yh4:Ak PG (Z76 Nm):=rw2 (C:=Qxk Kz IA Q9e) (fl fb Q59) Q59
def Qnm:Sk:=⟨[TS.v true [ci,ci,ci,sa Ag,sa kPt],TS.v true (cc 9++[sa Aa]++cc 9++[sa Aa]++cc 9++[sa Aa]),TS.v true ([sa Ap]++cc 5),tf [ci],tf [ci]],[],[]⟩
def Zkh:=qd 164 Qnm Qqk
def Qj7 (D:Fn):Cfg:={cf [Zx D]with prom:=λb=>cond (Nat.beq b 5) ([(11,125)]) ([]),unroll:=[9]}
def Q3e:Sk:=⟨[td,td,td,td,tf [ci],tf [sd 5 0],tf [sd 6 0],tf [sd 7 0],td,td,td,tf [se 11 3],tf [sd 12 0],tf [ci]]++dd 54,[(5,46,[ci,ci,ci,sa Ag,sa kPt]),(6,34,cc 9++[sa Aa]++cc 9++[sa Aa]++cc 9++[sa Aa]),(7,52,[sa Ap]++cc 5),(12,41,[ci,ci,ci])],[(11,125,kPt)]⟩
def Zes:List (Ex×Sk):=[(Ex.exit 0,⟨dd 11++[tf [se 11 3]]++dd 56,[],[(11,125,kPt)]⟩)]
def Vb (D:Fn):Lp:=AG PG (Qj7 D) 64 5 (AH PG 164 5) Q3e Zes
def Q0w (D:Fn) (G:Lp):Cfg:=(Qj7 D).loop 5 Q3e Zes G
def Yw (D:Fn) (G:Lp):Fn:=Am PG (Q0w D G) 64 164 Qnm Qqk
abbrev Rv (o6:List AC) (v46 M N:Int) (p:Pth) (x:Ax3) (t:Trk) (D:Bool) (G L:AC):Option (Nat×List AC):=
 cond (gA o6 2 !=v46) (cond (D) (some (0,(G::I M::I (O (N+1))::pxt p x t [jA o6 0,jA o6 1,jA o6 2]))) (none)) (some (0,(L::I M::I (O (N+1))::pxt p x t [jA o6 0,jA o6 1,jA o6 2])))
theorem Yjb (N:Fn) (L:Rw) (M D:Int) (v44 G v46:Int) (p:Pth) (x:Ax3) (t:Trk):Vb N (.vC kPt L::I M::I D::pxt p x t [I v44,I G,I v46])=
 cond (decide (D<M)) ((N (pxt p x t [I (O (D+1))])).bind λo6=>
 cond (gA o6 0 !=v44) (cond (((L++[[I (O (D+1)),I 0,I (O (gA o6 0-v44))]]).length*24).ble 140737488355328) (cond (gA o6 1 !=G) (cond (((L++[[I (O (D+1)),I 0,I (O (gA o6 0-v44))]]++[[I (O (D+1)),I (O (0+1)),I (O (gA o6 1-G))]]).length*24).ble 140737488355328) (Rv o6 v46 M D p x t (((L++[[I (O (D+1)),I 0,I (O (gA o6 0-v44))]]++[[I (O (D+1)),I (O (0+1)),I (O (gA o6 1-G))]]++[[I (O (D+1)),I (O (O (0+1)+1)),I (O (gA o6 2-v46))]]).length*24).ble 140737488355328) (.vC kPt (L++[[I (O (D+1)),I 0,I (O (gA o6 0-v44))]]++[[I (O (D+1)),I (O (0+1)),I (O (gA o6 1-G))]]++[[I (O (D+1)),I (O (O (0+1)+1)),I (O (gA o6 2-v46))]])) (.vC kPt (L++[[I (O (D+1)),I 0,I (O (gA o6 0-v44))]]++[[I (O (D+1)),I (O (0+1)),I (O (gA o6 1-G))]]))) (none)) (Rv o6 v46 M D p x t (((L++[[I (O (D+1)),I 0,I (O (gA o6 0-v44))]]++[[I (O (D+1)),I (O (O (0+1)+1)),I (O (gA o6 2-v46))]]).length*24).ble 140737488355328) (.vC kPt (L++[[I (O (D+1)),I 0,I (O (gA o6 0-v44))]]++[[I (O (D+1)),I (O (O (0+1)+1)),I (O (gA o6 2-v46))]])) (.vC kPt (L++[[I (O (D+1)),I 0,I (O (gA o6 0-v44))]])))) (none)) (cond (gA o6 1 !=G) (cond (((L++[[I (O (D+1)),I (O (0+1)),I (O (gA o6 1-G))]]).length*24).ble 140737488355328) (Rv o6 v46 M D p x t (((L++[[I (O (D+1)),I (O (0+1)),I (O (gA o6 1-G))]]++[[I (O (D+1)),I (O (O (0+1)+1)),I (O (gA o6 2-v46))]]).length*24).ble 140737488355328) (.vC kPt (L++[[I (O (D+1)),I (O (0+1)),I (O (gA o6 1-G))]]++[[I (O (D+1)),I (O (O (0+1)+1)),I (O (gA o6 2-v46))]])) (.vC kPt (L++[[I (O (D+1)),I (O (0+1)),I (O (gA o6 1-G))]]))) (none)) (Rv o6 v46 M D p x t (((L++[[I (O (D+1)),I (O (O (0+1)+1)),I (O (gA o6 2-v46))]]).length*24).ble 140737488355328) (.vC kPt (L++[[I (O (D+1)),I (O (O (0+1)+1)),I (O (gA o6 2-v46))]])) (.vC kPt L)))) (some (1,[.vC kPt L])):=by kernel_rfl
theorem Z00 (M:Fn) (N:Lp) (D G:Int) (p:Pth) (x:Ax3) (t:Trk):Yw M N (pxt p x t [I D,I G])=
 (M (pxt p x t [I (mx 0 (mn D t.length))])).bind λL=>
 (N (.vC kPt []::I (mx 0 (mn G t.length))::I (mx 0 (mn D t.length))::pxt p x t [jA L 0,jA L 1,jA L 2])).bind λo8=>
 cond (o8.1.beq 1) (some [.vC kPt (wA o8.2 0)]) (none):=by kernel_rfl
def Q04:=Al (Vb E7)
def Lg:=Yw E7 Q04
theorem Zg4:Ai PG (Qj7 E7):=An rfl ⟨Qpb,trivial⟩
theorem Zmc:Ak PG (Zkh Lg):=rw2 (C:=Q0w E7 Q04) (fl fb Zg4) Zg4
def Qr1:Sk:=⟨[tf [sd 20000 0]],[(20000,179,cS)],[]⟩
def S3 (M:Fn):Nat×Spec:=(102,E2 Qr1 Y3 M)
def Qlt:Fn:=Oc PG Qjw 64 102 Qr1 Y3
theorem Z3h (K:Kf) (c:Cv):Qlt (Aj K c)=
 some [I (O (c.m0.tdiv 256))]:=by kernel_rfl
def DK:=Qlt
theorem Yko:Ai PG (Qjw):=An rfl trivial
theorem Zue (vars:List AC) (R:Type) (K:TV->Mem->Option R):EM PG Qjw 64 102 [TV.v false [AC.ptr 20000 0]] ⟨[(20000,(⟨179,(cR 0 vars)⟩:Box))],[]⟩ K=EM PG Qjw 64 102 [TV.v false [AC.ptr 20000 0]] ⟨[(20000,(⟨179,(cR 0 vars)⟩:Box))],[]⟩ (λv _=>K v ⟨[(20000,(⟨179,(cR 0 vars)⟩:Box))],[]⟩):=cy (b:=(K (TV.v false [I (O ((gA vars 50).tdiv 256))]) ⟨[(20000,(⟨179,(cR 0 vars)⟩:Box))],[]⟩)) (by kernel_rfl) (Eq.symm (by kernel_rfl))
theorem S6:Ak PG (102,E2 Qr1 Y3 DK):=S1 (C:=Qjw) (L:=64) (by kernel_rfl) (FnOK.bare rfl rfl rfl) Yko eqOk GI (by kernel_rfl) (by kernel_rfl) (λvars R K=>Zue vars R K)
def Zfp (M:Fn):Nat×Spec:=(163,E2 Qr1 Y3 M)
def Qs (D Bc:Fn):Cfg:=cr [Uj D,S3 Bc] [102] [102]
def Qaj (D Bc:Fn):Fn:=Oc PG (Qs D Bc) 64 163 Qr1 Y3
theorem Ybs (D Bc:Fn) (K:Kf) (c:Cv):Qaj D Bc (Aj K c)=
 (Bc (Aj K c)).bind λo2=>
 (D (Bt K.t++[jA o2 0])).bind λo3=>
 some [jA o3 0]:=by kernel_rfl
def GY:=Qaj EP DK
theorem Zq3:Ai PG (Qs EP DK):=LD (rs:=[102]) rfl ⟨UQ,S6,trivial⟩ rfl (Dy rfl (Jw L1))
theorem Zot (vars : List AC) (R : Type) (K : TV -> Mem -> Option R) : EM PG (Qs EP DK) 64 163 [TV.v false [AC.ptr 20000 0]] ⟨[(20000, (⟨179, (cR 0 vars)⟩ : Box))], []⟩ K = EM PG (Qs EP DK) 64 163 [TV.v false [AC.ptr 20000 0]] ⟨[(20000, (⟨179, (cR 0 vars)⟩ : Box))], []⟩ (λv _ => K v ⟨[(20000, (⟨179, (cR 0 vars)⟩ : Box))], []⟩) := cy (b := ((DK (cR 0 vars)).bind λo2 =>
 (EP [.vC Ap (wA vars 44),jA vars 45,jA vars 46,jA vars 47,jA vars 48,jA vars 49,jA o2 0]).bind λo3=>
 K (TV.v false [jA o3 0]) ⟨[(20000,(⟨179,(cR 0 vars)⟩:Box))],[]⟩)) (by kernel_rfl) (Eq.symm (by kernel_rfl))
theorem Zjw:Ak PG (163,E2 Qr1 Y3 GY):=S1 (C:=Qs EP DK) (L:=64) (by kernel_rfl) (FnOK.bare rfl rfl rfl) Zq3 eqOk GI (by kernel_rfl) (by kernel_rfl) (λvars R K=>Zot vars R K)
def Qn8:Sk:=⟨[tf [sd 20000 0],tf [sd 20001 0],tf [ci]],[(20000,179,cS),(20001,61,[sa kPt,sa Aa]++cc 7)],[]⟩
def Qmf:Sk:=⟨[TS.tup []],[(20000,179,cS),(20001,61,[sa kPt,sa Aa]++cc 7)],[]⟩
def Z4s:=qd 110 Qn8 Qmf
def Qeo (D G I L Bc:Fn):Cfg:=cr [Zx D,Z76 G,Zkh I,Zfp L,S3 Bc] [165,163,102] [163,102]
def WN (D G I L Bc:Fn):Fn:=Am PG (Qeo D G I L Bc) 64 110 Qn8 Qmf
abbrev Qud (c:Cv) (V:Fn) (L:List AC) (K:Kf) (T:Fn) (U:List AC) (O:Int) (S:Rw) (G:AC):Option (List AC):=
 cond (c.way==0) ((V (jA L 0::Aj K c)).bind λD=>
 (T [jA D 38,jA D 39,jA D 40, .vC Ag (wA D 41), .vC kPt (wA D 42),jA D 1,jA D 2,jA D 3,jA D 4,jA D 5,jA D 6,jA D 7,jA D 8,jA D 9, .vC Aa (wA D 10),jA D 11,jA D 12,jA D 13,jA D 14,jA D 15,jA D 16,jA D 17,jA D 18,jA D 19, .vC Aa (wA D 20),jA D 21,jA D 22,jA D 23,jA D 24,jA D 25,jA D 26,jA D 27,jA D 28,jA D 29, .vC Aa (wA D 30), .vC Ap (wA D 45),jA D 46,jA D 47,jA D 48,jA D 49,jA D 50,jA U 0]).bind λM=>
 some (cR 1 D++[G, .vC Aa (wA D 0),I O,jA L 0,jA M 0,jA M 1,jA M 2,jA D 68,jA D 63])) ((T (pxt K.p K.x K.t [jA U 0])).bind λN=>
 some (Aj K c++[G, .vC Aa S,I O,jA L 0,jA N 0,jA N 1,jA N 2,I c.s3,I c.g1]))
theorem Z7s (N O OY GC Bc:Fn) (x0:Int) (L D:Rw) (G S T U V X Y:Int) (K:Kf) (c:Cv):WN N O OY GC Bc (I x0::(Aj K c++[.vC kPt L, .vC Aa D,I G,I S,I T,I U,I V,I X,I Y]))=
 (Bc (Aj K c)).bind λo9=>
 (GC (Aj K c)).bind λM=>
 cond (!c.aL) ((OY (pxt K.p K.x K.t [I x0,jA o9 0])).bind λa0=>
 Qud c O M K N o9 G D (.vC kPt (wA a0 0))) (Qud c O M K N o9 G D (.vC kPt L)):=by kernel_rfl
def PH:=WN E7 Nm Lg GY DK
theorem Zw9:Ai PG (Qeo E7 Nm Lg GY DK):=LD (rs:=[163,102]) rfl ⟨Qpb,Yh4,Zmc,Zjw,S6,trivial⟩ rfl (Dy rfl (Dy rfl (Dy rfl (Jw (Jw L1)))))
theorem Znk:Ak PG (Z4s PH):=rw1 (C:=Qeo E7 Nm Lg GY DK) Zw9
def Zdm:Sk:=⟨[TS.tup []],[(20000,179,cS)],[]⟩
def Q0k:=qd 161 Qr1 Zdm
def Lx:Fn:=λ_=>none
theorem Zg5:Ak PG (Q0k Lx):=F0
def Qy6:=qd 239 Qg5 Y3
def UY:Fn:=Am PG Qjw 64 239 Qg5 Y3
theorem Qfx (L D M G:Int):UY [I L,I D,I M,I G]=
 cond (decide (G<=0)) (some [I 0]) (cond (decide (D<=0)) (some [I 0]) (cond (decide (D=0)) (none) (some [I (O (O (O ((O (G-1)).tdiv D)*G)-O (D*O ((O (O ((O (G-1)).tdiv D)*O (O ((O (G-1)).tdiv D)+1))).tdiv 2))))]))):=by kernel_rfl
def GW:=UY
theorem Zm2:Ai PG (Qjw):=An rfl trivial
theorem Q56:Ak PG (Qy6 GW):=rw1 (C:=Qjw) Zm2
def Zn:=qd 146 Quv V1
def Q6d:Fn:=Am PG Qjw 64 146 Quv V1
theorem Yh9 (D G L:Int):Q6d [I D,I G,I L]=
 cond (decide (1<=D)) (cond (decide (D<=65536)) (cond (decide (2<=G)) (cond (decide (G<=65536)) (cond (decide (1<=L)) (some [B (decide (L<=16777216))]) (some [B false])) (some [B false])) (some [B false])) (some [B false])) (some [B false]):=by kernel_rfl
def Fm:=Q6d
theorem Z38:Ai PG (Qjw):=An rfl trivial
theorem Qsf:Ak PG (Zn Fm):=rw1 (C:=Qjw) Z38
def Qhp:Sk:=⟨[TS.v true [ci,ci,ci],tf [ci],tf [ci]],[],[]⟩
def Q2f:=qd 206 Qhp Y3
def Qd5 (D G:Fn):Cfg:=cf [Qy6 D,Zn G]
def Q8m:Sk:=⟨[td,tf [ci],td,tf [sd 3 0],td,td,td,tf [ci],tf [ci]]++dd 49,[(3,36,[ci,ci,ci])],[]⟩
def Q4h:List (Ex×Sk):=[(Ex.exit 0,⟨dd 7++[tf [ci]]++dd 50,[],[]⟩)]
def PJ (D G:Fn):Lp:=AG PG (Qd5 D G) 64 4 (AH PG 206 4) Q8m Q4h
def Zas (D G:Fn) (I:Lp):Cfg:=(Qd5 D G).loop 4 Q8m Q4h I
def TA (D G:Fn) (I:Lp):Fn:=Am PG (Zas D G I) 64 206 Qhp Y3
theorem Qzc (T U:Fn) (L G D M N S:Int):PJ T U [I L,I G,I D,I M,I N,I S]=
 cond (decide (G<D)) ((T [I M,I N,I S,I (O (D-O ((O (D-G)).tdiv 2)))]).bind λo4=>
 cond (decide (O (L-O (D-O ((O (D-G)).tdiv 2)))>=gA o4 0)) (some (0,[I L,I (O (D-O ((O (D-G)).tdiv 2))),I D,I M,I N,I S])) (some (0,[I L,I G,I (O (O (D-O ((O (D-G)).tdiv 2))-1)),I M,I N,I S]))) (some (1,[I G])):=by kernel_rfl
theorem Zgp (U S:Fn) (T:Lp) (L D N M G:Int):TA U S T [I L,I D,I N,I M,I G]=
 (S [I L,I D,I N]).bind λV=>
 cond (!bA V 0) (some [I 0]) (cond (decide (mx G M>1099511627776)) (some [I 0]) (cond (decide (mn G M< -1099511627776)) (some [I 0]) ((T [I M,I (O (O (0-G)-D)),I (mn (O (D-G)) L),I L,I D,I N]).bind λo6=>
 cond (o6.1.beq 1) (some [I (O (0-gA o6.2 0))]) (none)))):=by kernel_rfl
def Q4m:=Al (PJ GW Fm)
def HP:=TA GW Fm Q4m
theorem Qxm:Ai PG (Qd5 GW Fm):=An rfl ⟨Q56,Qsf,trivial⟩
theorem Q6e:Ak PG (Q2f HP):=rw2 (C:=Zas GW Fm Q4m) (fl fb Qxm) Qxm
def Ql7:Sk:=⟨[tf [sa Aa],tf [ci]],[],[]⟩
def Zk8:=qd 298 Ql7 V1
def Qwv:Sk:=⟨[td,tf [ci],td,td,td,td,td,tf [sa Aa],tf [ci],tf [ci]]++dd 13,[],[]⟩
def Qw4:List (Ex×Sk):=[(Ex.ret,⟨[td,td,td,td,tf [sb]]++dd 18,[],[]⟩),(Ex.exit 0,⟨[td]++dd 22,[],[]⟩)]
def Wg:Lp:=AG PG Qjw 64 2 (AH PG 298 2) Qwv Qw4
def Zen (D:Lp):Cfg:=Qjw.loop 2 Qwv Qw4 D
def VO (D:Lp):Fn:=Am PG (Zen D) 64 298 Ql7 V1
theorem Z62 (L:Int) (G:Rw) (M D:Int):Wg [I L, .vC Aa G,I M,I D]=
 cond (decide (D<M)) (cond (decide (0<=D)&&decide (D<(G.length:Int))) (cond (decide (gA (nth [] G D.toNat) 0>L)) (some (1,[B false])) (cond (decide (gA (nth [] G D.toNat) 0<O (0-L))) (some (1,[B false])) (some (0,[I L, .vC Aa G,I M,I (O (D+1))])))) (none)) (some (2,[])):=by kernel_rfl
theorem Zne (G:Lp) (D:Rw) (L:Int):VO G [.vC Aa D,I L]=
 (G [I L, .vC Aa D,I (D.length:Int),I 0]).bind λo1=>
 cond (o1.1.beq 1) (some [B (bA o1.2 0)]) (cond (o1.1.beq 2) (some [B true]) (none)):=by kernel_rfl
def Zg8:=Al (Wg)
def QM:=VO Zg8
theorem Qvi:Ai PG (Qjw):=An rfl trivial
theorem Z2z:Ak PG (Zk8 QM):=rw2 (C:=Zen Zg8) (fl fb Qvi) Qvi
def Qje:Sk:=⟨[tf [sa Aa]],[],[]⟩
def Zz6:=qd 297 Qje Qje
def C_limits_Differences_0:Cfg:={cf []with prom:=λb=>cond (Nat.beq b 3) ([(3,3)]) ([])}
def Qvg:Sk:=⟨[tf [sa Aa],td,td,tf [se 3 1],tf [ci]]++dd 20,[],[(3,3,Aa)]⟩
def Zfv:List (Ex×Sk):=[(Ex.exit 0,⟨[td,td,td,tf [se 3 1]]++dd 21,[],[(3,3,Aa)]⟩)]
def Quw:Lp:=AG PG C_limits_Differences_0 64 3 (AH PG 297 3) Qvg Zfv
def Q7s (D:Lp):Cfg:=C_limits_Differences_0.loop 3 Qvg Zfv D
def YQ (D:Lp):Fn:=Am PG (Q7s D) 64 297 Qje Qje
theorem Z9j (L G:Rw) (D:Int):Quw [.vC Aa L, .vC Aa G,I D]=
 cond (decide (D<(G.length:Int))) (cond (decide (0<=D)&&decide (D<(G.length:Int))) (cond (decide (0<=O (D-1))&&decide (O (D-1)<(G.length:Int))) (cond (((L++[[I (O (gA (nth [] G D.toNat) 0-gA (nth [] G (O (D-1)).toNat) 0))]]).length*8).ble 140737488355328) (some (0,[.vC Aa (L++[[I (O (gA (nth [] G D.toNat) 0-gA (nth [] G (O (D-1)).toNat) 0))]]), .vC Aa G,I (O (D+1))])) (none)) (none)) (none)) (some (1,[.vC Aa L])):=by kernel_rfl
theorem Zwm (D:Lp) (G:Rw):YQ D [.vC Aa G]=
 (D [.vC Aa [], .vC Aa G,I 1]).bind λo1=>
 cond (o1.1.beq 1) (some [.vC Aa (wA o1.2 0)]) (none):=by kernel_rfl
def Zf7:=Al (Quw)
def R4:=YQ Zf7
theorem Q9h:Ai PG (C_limits_Differences_0):=An rfl trivial
theorem Yhf:Ak PG (Zz6 R4):=rw2 (C:=Q7s Zf7) (fl fb Q9h) Q9h
def Qew:Sk:=⟨[TS.v true (cc 9++[sa Aa]),tf [sa Aa]],[],[]⟩
def Yf7:=qd 290 Qew V1
def Qr7 (D G:Fn):Cfg:={cf [Zk8 D,Zz6 G]with unroll:=[2]}
def Qfs (D G:Fn):Fn:=Am PG (Qr7 D G) 64 290 Qew V1
theorem Ykq (G L:Fn) (U O S T V X Y x7 x8:Int) (x9 D:Rw):Qfs G L [I U,I O,I S,I T,I V,I X,I Y,I x7,I x8, .vC Aa x9, .vC Aa D]=
 (L [.vC Aa D]).bind λo6=>
 (G [.vC Aa (wA o6 0),I O]).bind λo7=>
 cond (!bA o7 0) (some [B false]) ((L [.vC Aa (wA o6 0)]).bind λo8=>
 (G [.vC Aa (wA o8 0),I S]).bind λo9=>
 cond (!bA o9 0) (some [B false]) ((L [.vC Aa (wA o8 0)]).bind λM=>
 (G [.vC Aa (wA M 0),I T]).bind λN=>
 cond (!bA N 0) (some [B false]) (some [B true]))):=by kernel_rfl
def Mz:=Qfs QM R4
theorem Yfd:Ai PG (Qr7 QM R4):=An rfl ⟨Z2z,Yhf,trivial⟩
theorem Zmm:Ak PG (Yf7 Mz):=rw1 (C:=Qr7 QM R4) Yfd
def Qty:Sk:=⟨[TS.v true (cc 9++[sa Aa]++cc 9++[sa Aa]++cc 9++[sa Aa]),tf [sa kPt]],[],[]⟩
def Z9i:=qd 268 Qty V1
def YL (D:Fn):Cfg:=cf [Yf7 D]
def Q5v:Sk:=⟨[td,tf [sa kPt],tf [sd 2 0],td,td,tf [ci],tf [se 13 1],td,tf [ci]]++dd 6++[tf [ci],tf [ci]]++dd 19,[(2,34,cc 9++[sa Aa]++cc 9++[sa Aa]++cc 9++[sa Aa])],[(13,3,Aa)]⟩
def Zfi:List (Ex×Sk):=[(Ex.exit 2,⟨[td,tf [sa kPt],tf [sd 2 0],td,td,tf [ci],tf [se 13 1],td,tf [ci]]++dd 27,[(2,34,cc 9++[sa Aa]++cc 9++[sa Aa]++cc 9++[sa Aa])],[(13,3,Aa)]⟩)]
def L_ (D:Fn):Lp:=AG PG (YL D) 64 6 (AH PG 268 6) Q5v Zfi
def Q4c (D:Fn) (G:Lp):Cfg:=(YL D).loop 6 Q5v Zfi G
def Q30:Sk:=⟨[td,tf [sa kPt],tf [sd 2 0],td,td,td,td,td,tf [ci]]++dd 27,[(2,34,cc 9++[sa Aa]++cc 9++[sa Aa]++cc 9++[sa Aa])],[]⟩
def Zfe:List (Ex×Sk):=[(Ex.ret,⟨[td,td,td,td,tf [sb]]++dd 31,[],[]⟩),(Ex.exit 0,⟨[td]++dd 35,[],[]⟩)]
def Tk (D:Fn) (G:Lp):Lp:=AG PG (Q4c D G) 64 2 (AH PG 268 2) Q30 Zfe
def Q6a (D:Fn) (G I:Lp):Cfg:=(Q4c D G).loop 2 Q30 Zfe I
def TL (D:Fn) (G I:Lp):Fn:=Am PG (Q6a D G I) 64 268 Qty V1
theorem Zy4 (DW:Fn) (v0 v1:Rw) (v2 v3 v4 D v6 v7 v8 v9 v10 v11 v12 G L:Int) (M:Rw) (N S T U v20 v21 v22 V v24:Int) (v25:Rw) (X v27 v28 Y v30 v31 a0 v33 a1:Int) (v35:Rw):L_ DW [.vC Aa v0, .vC kPt v1,I v2,I v3,I v4,I D,I v6,I v7,I v8,I v9,I v10,I v11,I v12,I G,I L, .vC Aa M,I N,I S,I T,I U,I v20,I v21,I v22,I V,I v24, .vC Aa v25,I X,I v27,I v28,I Y,I v30,I v31,I a0,I v33,I a1, .vC Aa v35]=
 cond (decide (D<v4)) (cond (decide (0<=D)&&decide (D<(v1.length:Int))) (cond (decide (v2=(↑0:Int))) (cond (decide (0<=D)&&decide (D<(v0.length:Int))) (some (0,[.vC Aa (v0.set D.toNat [jA (nth [] v1 D.toNat) 0]), .vC kPt v1,I v2,I v3,I v4,I (O (D+1)),I v6,I v7,I v8,I v9,I v10,I v11,I v12,I G,I L, .vC Aa M,I N,I S,I T,I U,I v20,I v21,I v22,I V,I v24, .vC Aa v25,I X,I v27,I v28,I Y,I v30,I v31,I a0,I v33,I a1, .vC Aa v35])) (none)) (cond (decide (v2=(↑(0+1):Int))) (cond (decide (0<=D)&&decide (D<(v0.length:Int))) (some (0,[.vC Aa (v0.set D.toNat [jA (nth [] v1 D.toNat) 1]), .vC kPt v1,I v2,I v3,I v4,I (O (D+1)),I v6,I v7,I v8,I v9,I v10,I v11,I v12,I G,I L, .vC Aa M,I N,I S,I T,I U,I v20,I v21,I v22,I V,I v24, .vC Aa v25,I X,I v27,I v28,I Y,I v30,I v31,I a0,I v33,I a1, .vC Aa v35])) (none)) (cond (decide (v2=(↑(0+1+1):Int))) (cond (decide (0<=D)&&decide (D<(v0.length:Int))) (some (0,[.vC Aa (v0.set D.toNat [jA (nth [] v1 D.toNat) 2]), .vC kPt v1,I v2,I v3,I v4,I (O (D+1)),I v6,I v7,I v8,I v9,I v10,I v11,I v12,I G,I L, .vC Aa M,I N,I S,I T,I U,I v20,I v21,I v22,I V,I v24, .vC Aa v25,I X,I v27,I v28,I Y,I v30,I v31,I a0,I v33,I a1, .vC Aa v35])) (none)) (none)))) (none)) (some (1,[.vC Aa v0, .vC kPt v1,I v2,I v3,I v6,I v7,I v8,I v9,I v10,I v11,I v12,I G,I L, .vC Aa M,I N,I S,I T,I U,I v20,I v21,I v22,I V,I v24, .vC Aa v25,I X,I v27,I v28,I Y,I v30,I v31,I a0,I v33,I a1, .vC Aa v35])):=by kernel_rfl
abbrev Sf (D:Nat×List AC) (G:Bool):Option (Nat×List AC):=
 cond (G) (some (1,[B false])) (some (0,[.vC kPt (wA D.2 1),I (O (gA D.2 3+1)),jA D.2 4,jA D.2 5,jA D.2 6,jA D.2 7,jA D.2 8,jA D.2 9,jA D.2 10,jA D.2 11,jA D.2 12, .vC Aa (wA D.2 13),jA D.2 14,jA D.2 15,jA D.2 16,jA D.2 17,jA D.2 18,jA D.2 19,jA D.2 20,jA D.2 21,jA D.2 22, .vC Aa (wA D.2 23),jA D.2 24,jA D.2 25,jA D.2 26,jA D.2 27,jA D.2 28,jA D.2 29,jA D.2 30,jA D.2 31,jA D.2 32, .vC Aa (wA D.2 33)]))
theorem Zug (DW:Fn) (N6:Lp) (G:Rw) (v1 v2 v3 v4 v5 v6 v7 v8 v9 v10:Int) (v11:Rw) (v12 L M N O S T U v20:Int) (v21:Rw) (v22 V v24 v25 X v27 v28 Y v30:Int) (v31:Rw):Tk DW N6 [.vC kPt G,I v1,I v2,I v3,I v4,I v5,I v6,I v7,I v8,I v9,I v10, .vC Aa v11,I v12,I L,I M,I N,I O,I S,I T,I U,I v20, .vC Aa v21,I v22,I V,I v24,I v25,I X,I v27,I v28,I Y,I v30, .vC Aa v31]=
 cond (decide (v1<3)) (cond (decide ((G.length:Int)=(G.length:Int))) (cond (decide (0<=(G.length:Int))&&decide ((G.length:Int)*(↑8:Int)<=140737488355328)) ((N6 [.vC Aa (List.replicate (G.length:Int).toNat [I 0]), .vC kPt G,I v1,I v1,I (G.length:Int),I 0,I v2,I v3,I v4,I v5,I v6,I v7,I v8,I v9,I v10, .vC Aa v11,I v12,I L,I M,I N,I O,I S,I T,I U,I v20, .vC Aa v21,I v22,I V,I v24,I v25,I X,I v27,I v28,I Y,I v30, .vC Aa v31]).bind λD=>
 cond (D.1.beq 1) (cond (decide (gA D.2 2=(↑0:Int))) ((DW [jA D.2 4,jA D.2 5,jA D.2 6,jA D.2 7,jA D.2 8,jA D.2 9,jA D.2 10,jA D.2 11,jA D.2 12, .vC Aa (wA D.2 13), .vC Aa (wA D.2 0)]).bind λo6=>
 Sf D (!bA o6 0)) (cond (decide (gA D.2 2=(↑(0+1):Int))) ((DW [jA D.2 14,jA D.2 15,jA D.2 16,jA D.2 17,jA D.2 18,jA D.2 19,jA D.2 20,jA D.2 21,jA D.2 22, .vC Aa (wA D.2 23), .vC Aa (wA D.2 0)]).bind λo7=>
 Sf D (!bA o7 0)) (cond (decide (gA D.2 2=(↑(0+1+1):Int))) ((DW [jA D.2 24,jA D.2 25,jA D.2 26,jA D.2 27,jA D.2 28,jA D.2 29,jA D.2 30,jA D.2 31,jA D.2 32, .vC Aa (wA D.2 33), .vC Aa (wA D.2 0)]).bind λo8=>
 Sf D (!bA o8 0)) (none)))) (none)) (none)) (none)) (some (2,[])):=by kernel_rfl
theorem Zrn (DW:Fn) (N6 N2:Lp) (x0 x1 x2 x3 x4 x5 x6 x7 x8:Int) (x9:Rw) (D G L M N O S T U:Int) (V:Rw) (X Y a0 a1 a2 a3 a4 a5 a6:Int) (a7 a8:Rw):TL DW N6 N2 [I x0,I x1,I x2,I x3,I x4,I x5,I x6,I x7,I x8, .vC Aa x9,I D,I G,I L,I M,I N,I O,I S,I T,I U, .vC Aa V,I X,I Y,I a0,I a1,I a2,I a3,I a4,I a5,I a6, .vC Aa a7, .vC kPt a8]=
 (N2 [.vC kPt a8,I 0,I x0,I x1,I x2,I x3,I x4,I x5,I x6,I x7,I x8, .vC Aa x9,I D,I G,I L,I M,I N,I O,I S,I T,I U, .vC Aa V,I X,I Y,I a0,I a1,I a2,I a3,I a4,I a5,I a6, .vC Aa a7]).bind λo9=>
 cond (o9.1.beq 1) (some [B (bA o9.2 0)]) (cond (o9.1.beq 2) (some [B true]) (none)):=by kernel_rfl
def Qac:=Al (L_ Mz)
def Zf9:=Al (Tk Mz Qac)
def ND:=TL Mz Qac Zf9
theorem Qdq:Ai PG (YL Mz):=An rfl ⟨Zmm,trivial⟩
theorem Yhs:Ak PG (Z9i ND):=rw2 (C:=Q6a Mz Qac Zf9) (fl (fl fb Qdq) Qdq) Qdq
def Q61:=qd 266 Y3 Y3
def Qr8:Fn:=Am PG Qjw 64 266 Y3 Y3
theorem Yg1 (D:Int):Qr8 [I D]=
 cond (decide (D.tmod 256<0)) (some [I (O (O (D.tdiv 256)-1))]) (some [I (O (D.tdiv 256))]):=by kernel_rfl
def IV:=Qr8
theorem Z01:Ai PG (Qjw):=An rfl trivial
theorem Ziv:Ak PG (Q61 IV):=rw1 (C:=Qjw) Z01
def Qkd:Sk:=⟨[TS.v true [ci,ci,ci,sa Ag,sa kPt],TS.v true (cc 9++[sa Aa]++cc 9++[sa Aa]++cc 9++[sa Aa]),TS.v true ([sa Ap]++cc 5),tf [sa Aa]],[],[]⟩
def Zj1:=qd 242 Qkd V1
def Qqe (D G I:Fn):Cfg:={cf [Z9i D,Zx G,Q61 I]with lend:=λf=>AN [268] f,cuts:=[30],prom:=λb=>cond (Nat.beq b 3) ([(9,41)]) ([])}
def Q5j:Sk:=⟨[td,td,td,td,tf [sd 4 0],tf [sd 5 0],tf [sd 6 0],td,td,tf [se 9 3],td,td,tf [sa Aa],tf [ci],tf [ci]]++dd 22,[(4,46,[ci,ci,ci,sa Ag,sa kPt]),(5,34,cc 9++[sa Aa]++cc 9++[sa Aa]++cc 9++[sa Aa]),(6,52,[sa Ap]++cc 5)],[(9,41,kPt)]⟩
def Qyb:List (Ex×Sk):=[(Ex.ret,⟨dd 8++[tf [sb]]++dd 28,[],[]⟩),(Ex.exit 0,⟨[td]++dd 36,[],[]⟩)]
def Qbg (D G I:Fn):Lp:=AG PG (Qqe D G I) 64 3 (AH PG 242 3) Q5j Qyb
def Q2m (D G I:Fn) (L:Lp):Cfg:=(Qqe D G I).loop 3 Q5j Qyb L
def Qi1 (D G I:Fn) (L:Lp):Fn:=Am PG (Q2m D G I L) 64 242 Qkd V1
theorem Z9m (S V X:Fn) (G M:Rw) (N L:Int) (p:Pth) (x:Ax3) (t:Trk):Qbg S V X (.vC kPt G:: .vC Aa M::I N::I L::pxt p x t [])=
 cond (decide (L<N)) (cond (decide (0<=L)&&decide (L<(M.length:Int))) ((X [jA (nth [] M L.toNat) 0]).bind λo8=>
 (V (pxt p x t [jA o8 0])).bind λD=>
 cond (((G++[[jA D 0,jA D 1,jA D 2]]).length*24).ble 140737488355328) (cond (decide ((↑(G++[[jA D 0,jA D 1,jA D 2]]).length:Int)>4)) (cond (decide (0<=1)&&decide (1<=(↑(G++[[jA D 0,jA D 1,jA D 2]]).length:Int))) (cond ((Int.toNat 1).ble (G++[[jA D 0,jA D 1,jA D 2]]).length) ((S (AK x++[.vC kPt (List.drop (Int.toNat 1) (G++[[jA D 0,jA D 1,jA D 2]]))])).bind λT=>
 cond (!bA T 0) (some (1,[B false])) (some (0,(.vC kPt (List.drop (Int.toNat 1) (G++[[jA D 0,jA D 1,jA D 2]])):: .vC Aa M::I N::I (O (L+1))::pxt p x t [])))) (none)) (none)) ((S (AK x++[.vC kPt (G++[[jA D 0,jA D 1,jA D 2]])])).bind λU=>
 cond (!bA U 0) (some (1,[B false])) (some (0,(.vC kPt (G++[[jA D 0,jA D 1,jA D 2]]):: .vC Aa M::I N::I (O (L+1))::pxt p x t []))))) (none)) (none)) (some (2,[])):=by kernel_rfl
theorem Zsa (M N O:Fn) (L:Lp) (D:Rw) (p:Pth) (x:Ax3) (t:Trk):Qi1 M N O L (pxt p x t [.vC Aa D])=
 (L (.vC kPt []:: .vC Aa D::I (D.length:Int)::I 0::pxt p x t [])).bind λG=>
 cond (G.1.beq 1) (some [B (bA G.2 0)]) (cond (G.1.beq 2) (some [B true]) (none)):=by kernel_rfl
def Q9s:=Al (Qbg ND E7 IV)
def Rg:=Qi1 ND E7 IV Q9s
theorem Qx3:Ai PG (Qqe ND E7 IV):=An rfl ⟨Yhs,Qpb,Ziv,trivial⟩
theorem Yfp:Ak PG (Zj1 Rg):=rw2 (C:=Q2m ND E7 IV Q9s) (fl fb Qx3) Qx3
def Zjt:=qd 202 Qhp V1
def Qih (D:Fn):Cfg:=cf [Qy6 D]
def Qeh (D:Fn):Fn:=Am PG (Qih D) 64 202 Qhp V1
theorem Zs0 (N:Fn) (G L S M D:Int):Qeh N [I G,I L,I S,I M,I D]=
 cond (decide (D<O (0-G))) (some [B false]) (cond (decide (D>G)) (some [B false]) (cond (M==0) (cond (decide (D>L)) (some [B false]) ((N [I G,I L,I S,I (O (0-D))]).bind λo4=>
 cond (decide (M>=gA o4 0)) ((N [I G,I L,I S,I D]).bind λT=>
 some [B (decide (M<=O (16777216-gA T 0)))]) (some [B false]))) ((N [I G,I L,I S,I (O (0-D))]).bind λo6=>
 cond (decide (M>=gA o6 0)) ((N [I G,I L,I S,I D]).bind λU=>
 some [B (decide (M<=O (16777216-gA U 0)))]) (some [B false])))):=by kernel_rfl
def H8:=Qeh GW
theorem Zo6:Ai PG (Qih GW):=An rfl ⟨Q56,trivial⟩
theorem Q2c:Ak PG (Zjt H8):=rw1 (C:=Qih GW) Zo6
def Qui:Sk:=⟨[TS.tup [(false,[sa Aa]),(false,[sb])]],[],[]⟩
def Z0y:=qd 265 Qhp Qui
def Xp (D G I:Fn):Cfg:={cf [Q2f D,Zjt G,Zn I]with prom:=λb=>cond (Nat.beq b 4) ([(8,3)]) ([])}
def Q9d:Sk:=⟨[td,tf [ci],tf [ci],tf [sd 3 0],td,td,td,td,tf [se 8 1]]++dd 27,[(3,36,[ci,ci,ci])],[(8,3,Aa)]⟩
def Zbp:List (Ex×Sk):=[(Ex.ret,⟨dd 6++[tf [CS.nil],tf [sb]]++dd 28,[],[]⟩),(Ex.exit 0,⟨dd 8++[tf [se 8 1]]++dd 27,[],[(8,3,Aa)]⟩)]
def S_ (D G I:Fn):Lp:=AG PG (Xp D G I) 64 4 (AH PG 265 4) Q9d Zbp
def Q6f (D G I:Fn) (L:Lp):Cfg:=(Xp D G I).loop 4 Q9d Zbp L
def Qhl (D G I:Fn) (L:Lp):Fn:=Am PG (Q6f D G I L) 64 265 Qhp Qui
theorem Z2r (T V X:Fn) (G:Rw) (D U M N S:Int):S_ T V X [.vC Aa G,I D,I U,I M,I N,I S]=
 cond (decide (D>0)) (cond ((G.length:Int)==4096) (some (1,[B false])) ((T [I M,I N,I S,I D,I U]).bind λL=>
 cond (((G++[[I (O (D+gA L 0))]]).length*8).ble 140737488355328) (some (0,[.vC Aa (G++[[I (O (D+gA L 0))]]),I (O (D+gA L 0)),jA L 0,I M,I N,I S])) (none))) (some (2,[.vC Aa G])):=by kernel_rfl
theorem Zl8 (Y U V:Fn) (X:Lp) (G L M N O:Int):Qhl Y U V X [I G,I L,I M,I N,I O]=
 (V [I G,I L,I M]).bind λS=>
 cond (!bA S 0) (some [.vC Aa [],B false]) ((U [I G,I L,I M,I N,I O]).bind λT=>
 cond (!bA T 0) (some [.vC Aa [],B false]) ((X [.vC Aa [],I N,I O,I G,I L,I M]).bind λD=>
 cond (D.1.beq 1) (some [.vC Aa [],B (bA D.2 0)]) (cond (D.1.beq 2) (some [.vC Aa (wA D.2 0),B true]) (none)))):=by kernel_rfl
def Za0:=Al (S_ HP H8 Fm)
def Ov:=Qhl HP H8 Fm Za0
theorem Zef:Ai PG (Xp HP H8 Fm):=An rfl ⟨Q6e,Q2c,Qsf,trivial⟩
theorem Zm1:Ak PG (Z0y Ov):=rw2 (C:=Q6f HP H8 Fm Za0) (fl fb Zef) Zef
def Qiq:Sk:=⟨[TS.v true [ci,ci,ci],TS.v true (cc 6)],[],[]⟩
def ZC:=qd 240 Qiq Qui
def Qkn (Hq:Fn):Cfg:=cf [Z0y Hq]
def Zcj:Sk:=⟨dd 8++[tf [se 25 1],tf [ci]]++dd 18++[tf [sa Aa],tf [ci],tf [ci]]++dd 13,[],[(25,3,Aa)]⟩
def Zc7:List (Ex×Sk):=[(Ex.exit 0,⟨dd 8++[tf [se 25 1]]++dd 35,[],[(25,3,Aa)]⟩)]
def Tz (Hq:Fn):Lp:=AG PG (Qkn Hq) 64 7 (AH PG 240 7) Zcj Zc7
def Q8r (Hq:Fn) (D:Lp):Cfg:=(Qkn Hq).loop 7 Zcj Zc7 D
def Qtb (Hq:Fn) (D:Lp):Fn:=Am PG (Q8r Hq D) 64 240 Qiq Qui
theorem Z3m (Hq:Fn) (L:Rw) (M:Int) (G:Rw) (N D:Int):Tz Hq [.vC Aa L,I M, .vC Aa G,I N,I D]=
 cond (decide (D<N)) (cond (decide (0<=D)&&decide (D<(G.length:Int))) (cond (decide (0<=D)&&decide (D<(L.length:Int))) (some (0,[.vC Aa (L.set D.toNat [I (O (M+gA (nth [] G D.toNat) 0))]),I (O (M+gA (nth [] G D.toNat) 0)), .vC Aa G,I N,I (O (D+1))])) (none)) (none)) (some (1,[.vC Aa L])):=by kernel_rfl
theorem Z18 (Hq:Fn) (D:Lp) (G L M N O S T U V:Int):Qtb Hq D [I G,I L,I M,I N,I O,I S,I T,I U,I V]=
 (Hq [I G,I L,I M,I O,I S]).bind λo3=>
 cond (!bA o3 1) (some [.vC Aa [],B false]) (cond (decide ((↑(wA o3 0).length:Int)=(↑(wA o3 0).length:Int))) (cond (decide (0<=(↑(wA o3 0).length:Int))&&decide ((↑(wA o3 0).length:Int)*(↑8:Int)<=140737488355328)) ((D [.vC Aa (List.replicate (↑(wA o3 0).length:Int).toNat [I 0]),I N, .vC Aa (wA o3 0),I (↑(wA o3 0).length:Int),I 0]).bind λo4=>
 cond (o4.1.beq 1) (some [.vC Aa (wA o4.2 0),B true]) (none)) (none)) (none)):=by kernel_rfl
def Qzv:=Al (Tz Ov)
def Gx:=Qtb Ov Qzv
theorem Ze3:Ai PG (Qkn Ov):=An rfl ⟨Zm1,trivial⟩
theorem Qj4:Ak PG (ZC Gx):=rw2 (C:=Q8r Ov Qzv) (fl fb Ze3) Ze3
def Qp3:Sk:=⟨[TS.v true [ci,ci,ci,sa Ag,sa kPt],TS.v true (cc 9++[sa Aa]++cc 9++[sa Aa]++cc 9++[sa Aa]),TS.v true ([sa Ap]++cc 5),TS.v true [ci,ci,ci],TS.v true (cc 6),tf [ci]],[],[]⟩
def Yfm:=qd 205 Qp3 V1
def ZE (D G:Fn):Cfg:={cf [Zj1 D,ZC G]with rowDst:=[48]}
def Qcf (D G:Fn):Fn:=Am PG (ZE D G) 64 205 Qp3 V1
theorem Zmj (Y CG:Fn) (S T U D V X G L M N:Int) (p:Pth) (x:Ax3) (t:Trk):Qcf Y CG (pxt p x t [I S,I T,I U,I D,I V,I X,I G,I L,I M,I N])=
 (CG [I S,I T,I U,I D,I V,I X,I G,I L,I M]).bind λo3=>
 cond (!bA o3 1) (some [B false]) (cond (decide ((↑(wA o3 0).length:Int)>0)) (cond (decide (0<=O ((↑(wA o3 0).length:Int)-1))&&decide (O ((↑(wA o3 0).length:Int)-1)<(↑(wA o3 0).length:Int))) (cond (decide (Ah (nth .vD (nth [] (wA o3 0) (O ((↑(wA o3 0).length:Int)-1)).toNat) 0)>O (N*256))) (some [B false]) (cond ((([[I M],[I L],[I G],[I D]]++wA o3 0).length*8).ble 140737488355328) (cond ((([[I M],[I L],[I G],[I D]]++wA o3 0++[[I (Ah (nth .vD (nth [] (wA o3 0) (O ((↑(wA o3 0).length:Int)-1)).toNat) 0))],[I (Ah (nth .vD (nth [] (wA o3 0) (O ((↑(wA o3 0).length:Int)-1)).toNat) 0))]]).length*8).ble 140737488355328) ((Y (pxt p x t [.vC Aa ([[I M],[I L],[I G],[I D]]++wA o3 0++[[I (Ah (nth .vD (nth [] (wA o3 0) (O ((↑(wA o3 0).length:Int)-1)).toNat) 0))],[I (Ah (nth .vD (nth [] (wA o3 0) (O ((↑(wA o3 0).length:Int)-1)).toNat) 0))]])])).bind λo4=>
 some [B (bA o4 0)]) (none)) (none))) (none)) (cond (decide (D>O (N*256))) (some [B false]) (cond ((([[I M],[I L],[I G],[I D]]++wA o3 0).length*8).ble 140737488355328) (cond ((([[I M],[I L],[I G],[I D]]++wA o3 0++[[I D],[I D]]).length*8).ble 140737488355328) ((Y (pxt p x t [.vC Aa ([[I M],[I L],[I G],[I D]]++wA o3 0++[[I D],[I D]])])).bind λo5=>
 some [B (bA o5 0)]) (none)) (none)))):=by kernel_rfl
def OK:=Qcf Rg Gx
theorem Ztw:Ai PG (ZE Rg Gx):=An rfl ⟨Yfp,Qj4,trivial⟩
theorem Z0x:Ak PG (Yfm OK):=rw1 (C:=ZE Rg Gx) Ztw
def Qsz:Sk:=⟨[TS.v true [ci,ci,sb,sb,sb],TS.v true [ci,ci,ci],TS.v true (cc 7)],[],[]⟩
def Z9x:=qd 267 Qsz Y3
def Qoe:Fn:=Am PG Qjw 64 267 Qsz Y3
theorem Ydh (L M:Int) (U X Y:Bool) (x5 x6 V x8 x9 N S T D G:Int):Qoe [I L,I M,B U,B X,B Y,I x5,I x6,I V,I x8,I x9,I N,I S,I T,I D,I G]=
 cond (U) (some [I 0]) (cond (G !=0) (some [I (mn (mx D 1) 16777216)]) (cond (D==0) (cond (M==0) (some [I 0]) (some [I (mn (mx (O ((O (V*M)).tdiv 100)) 1) 16777216)])) (cond (L==0) (some [I 0]) (some [I (mn (mx (O ((O (D*L)).tdiv 100)) 1) 16777216)])))):=by kernel_rfl
def Rk:=Qoe
theorem Ycn:Ai PG (Qjw):=An rfl trivial
theorem Z4h:Ak PG (Z9x Rk):=rw1 (C:=Qjw) Ycn
def Qls:Sk:=⟨[TS.v true [ci,ci,ci,sa Ag,sa kPt],TS.v true ([sa Ap]++cc 5),TS.v true [ci,ci,ci],TS.v true [ci,ci,sb,sb,sb],tf [ci]],[],[]⟩
def Z9w:=qd 241 Qls Y3
def Qfl (D G I L:Fn):Cfg:=cf [Z9x D,Qk1 G,Uj I,Q61 L]
def Qm2 (D G I L:Fn):Fn:=Am PG (Qfl D G I L) 64 241 Qls Y3
theorem Zwu (V X Y D0:Fn) (D G L M N:Int) (O S T:Bool) (U:Int) (p:Pth) (t:Trk):Qm2 V X Y D0 (Fa p t [I D,I G,I L,I M,I N,B O,B S,B T,I U])=
 (D0 [I U]).bind λo4=>
 (Y (Bt t++[jA o4 0])).bind λo5=>
 (X (Bj p++[jA o5 0])).bind λo6=>
 cond (decide (0<=gA o6 0)&&decide (gA o6 0<((p.aF.map Az).length:Int))) ((V (I M::I N::B O::B S::B T::I D::I G::I L::AE Ag (nth [] (p.aF.map Az) (gA o6 0).toNat))).bind λo7=>
 some [jA o7 0]) (none):=by kernel_rfl
def NS:=Qm2 Rk EJ EP IV
theorem Yit:Ai PG (Qfl Rk EJ EP IV):=An rfl ⟨Z4h,Qar,UQ,Ziv,trivial⟩
theorem Zzh:Ak PG (Z9w NS):=rw1 (C:=Qfl Rk EJ EP IV) Yit
def Qcu:Sk:=⟨[TS.v true [ci,ci,ci,sa Ag,sa kPt],TS.v true ([sa Ap]++cc 5),TS.v true [ci,ci,ci],TS.v true [ci,ci,sb,sb,sb],TS.v true (cc 6)],[],[]⟩
def Zwj:=qd 204 Qcu V1
def Qfy (D G:Fn):Cfg:=cf [Z9w D,ZC G]
def Q1v:Sk:=⟨[td,td,td,td,td,tf [sd 5 0],tf [sd 6 0],tf [sd 7 0],tf [sd 8 0],td,td,td,td,tf [ci]]++dd 30++[tf [sa Aa],tf [ci],tf [ci]]++dd 15,[(5,46,[ci,ci,ci,sa Ag,sa kPt]),(6,52,[sa Ap]++cc 5),(7,36,[ci,ci,ci]),(8,163,[ci,ci,sb,sb,sb])],[]⟩
def Zgf:List (Ex×Sk):=[(Ex.ret,⟨dd 10++[tf [sb]]++dd 51,[],[]⟩),(Ex.exit 0,⟨[td]++dd 61,[],[]⟩)]
def X1 (D G:Fn):Lp:=AG PG (Qfy D G) 64 6 (AH PG 204 6) Q1v Zgf
def Zar (D G:Fn) (I:Lp):Cfg:=(Qfy D G).loop 6 Q1v Zgf I
def Qk3 (D G:Fn) (I:Lp):Fn:=Am PG (Zar D G I) 64 204 Qcu V1
theorem Zq8 (V Y:Fn) (X:Int) (T:Rw) (U D:Int) (G L M N S:Int) (v20 v21 v22:Bool) (p:Pth) (t:Trk):X1 V Y (I X:: .vC Aa T::I U::I D::Fa p t [I G,I L,I M,I N,I S,B v20,B v21,B v22])=
 cond (decide (D<U)) (cond (decide (0<=D)&&decide (D<(T.length:Int))) ((V (Fa p t [I G,I L,I M,I N,I S,B v20,B v21,B v22,jA (nth [] T D.toNat) 0])).bind λo6=>
 cond (decide (O (gA (nth [] T D.toNat) 0-X)>gA o6 0)) (some (1,[B false])) (some (0,(jA (nth [] T D.toNat) 0:: .vC Aa T::I U::I (O (D+1))::Fa p t [I G,I L,I M,I N,I S,B v20,B v21,B v22])))) (none)) (some (2,[])):=by kernel_rfl
theorem Zr8 (Gj CG:Fn) (N6:Lp) (D G L N O:Int) (S T U:Bool) (M V X Y a0 a1:Int) (p:Pth) (t:Trk):Qk3 Gj CG N6 (Fa p t [I D,I G,I L,I N,I O,B S,B T,B U,I M,I V,I X,I Y,I a0,I a1])=
 (CG [I D,I G,I L,I M,I V,I X,I Y,I a0,I a1]).bind λo7=>
 cond (!bA o7 1) (some [B false]) (cond (((p.aF.map Az).length:Int)==0) (some [B false]) ((Gj (Fa p t [I D,I G,I L,I N,I O,B S,B T,B U,I M])).bind λo8=>
 cond (decide (V>gA o8 0)) (some [B false]) ((N6 (I M:: .vC Aa (wA o7 0)::I (↑(wA o7 0).length:Int)::I 0::Fa p t [I D,I G,I L,I N,I O,B S,B T,B U])).bind λo9=>
 cond (o9.1.beq 1) (some [B (bA o9.2 0)]) (cond (o9.1.beq 2) (some [B true]) (none))))):=by kernel_rfl
def Q4s:=Al (X1 NS Gx)
def Pn:=Qk3 NS Gx Q4s
theorem Zfq:Ai PG (Qfy NS Gx):=An rfl ⟨Zzh,Qj4,trivial⟩
theorem Zqg:Ak PG (Zwj Pn):=rw2 (C:=Zar NS Gx Q4s) (fl fb Zfq) Zfq
def Qco:Sk:=⟨[TS.v true (cc 6),tf [ci]],[],[]⟩
def Qm9:Sk:=⟨[TS.v true (cc 6)],[],[]⟩
def Z73:=qd 203 Qco Qm9
def VW:Fn:=Am PG Qjw 64 203 Qco Qm9
theorem Ydr (G L S M N T D:Int):VW [I G,I L,I S,I M,I N,I T,I D]=
 some [I (O (G+D)),I D,I (O (D-L)),I G,I M,I N]:=by kernel_rfl
def Pq:=VW
theorem Yii:Ai PG (Qjw):=An rfl trivial
theorem Z1n:Ak PG (Z73 Pq):=rw1 (C:=Qjw) Yii
def Z4o:=qd 201 Y3 Qje
def Qx6:Sk:=⟨[td,td,td,tf [se 3 1],tf [ci]]++dd 32,[],[(3,3,Aa)]⟩
def Qzp:List (Ex×Sk):=[(Ex.exit 0,⟨[td,td,td,tf [se 3 1]]++dd 33,[],[(3,3,Aa)]⟩)]
def Rp:Lp:=AG PG C_limits_Differences_0 64 3 (AH PG 201 3) Qx6 Qzp
def Zc4 (D:Lp):Cfg:=C_limits_Differences_0.loop 3 Qx6 Qzp D
def Q24:Sk:=⟨[td,td,td,tf [se 3 1],td,tf [se 16 1],tf [ci]]++dd 30,[],[(3,3,Aa),(16,3,Aa)]⟩
def Zer:List (Ex×Sk):=[(Ex.exit 2,⟨[td,td,td,td,td,tf [se 16 1]]++dd 31,[],[(16,3,Aa)]⟩)]
def Sm (D:Lp):Lp:=AG PG (Zc4 D) 64 8 (AH PG 201 8) Q24 Zer
def Zaw (D G:Lp):Cfg:=(Zc4 D).loop 8 Q24 Zer G
def Qan (D G:Lp):Fn:=Am PG (Zaw D G) 64 201 Y3 Qje
theorem Zp2 (G:Rw) (D:Int):Rp [.vC Aa G,I D]=
 cond (decide (D>0)) (cond (((G++[[I D]]).length*8).ble 140737488355328) (some (0,[.vC Aa (G++[[I D]]),I (O (D.tdiv 2))])) (none)) (some (1,[.vC Aa G])):=by kernel_rfl
theorem Z97 (M:Lp) (G L:Rw) (D:Int):Sm M [.vC Aa G, .vC Aa L,I D]=
 cond (decide (D>=0)) (cond (decide (0<=D)&&decide (D<(G.length:Int))) (cond (((L++[[I (O (0-gA (nth [] G D.toNat) 0))]]).length*8).ble 140737488355328) (some (0,[.vC Aa G, .vC Aa (L++[[I (O (0-gA (nth [] G D.toNat) 0))]]),I (O (D-1))])) (none)) (none)) (some (1,[.vC Aa L])):=by kernel_rfl
theorem Zza (D G:Lp) (L:Int):Qan D G [I L]=
 (D [.vC Aa [],I L]).bind λo3=>
 cond (o3.1.beq 1) (cond ((([]++wA o3.2 0).length*8).ble 140737488355328) (cond ((([]++wA o3.2 0++[[I 0]]).length*8).ble 140737488355328) ((G [.vC Aa (wA o3.2 0), .vC Aa ([]++wA o3.2 0++[[I 0]]),I (O ((↑(wA o3.2 0).length:Int)-1))]).bind λo4=>
 cond (o4.1.beq 1) (some [.vC Aa (wA o4.2 0)]) (none)) (none)) (none)) (none):=by kernel_rfl
def Qs4:=Al (Rp)
def Q86:=Al (Sm Qs4)
def PX:=Qan Qs4 Q86
theorem Yb:Ai PG (C_limits_Differences_0):=An rfl trivial
theorem Ykp:Ak PG (Z4o PX):=rw2 (C:=Zaw Qs4 Q86) (fl (fl fb Yb) Yb) Yb
def Qub:Sk:=⟨[TS.v true [ci,ci,ci,sa Ag,sa kPt],TS.v true (cc 9++[sa Aa]++cc 9++[sa Aa]++cc 9++[sa Aa]),TS.v true ([sa Ap]++cc 5),TS.v true [ci,ci,ci],TS.v true [ci,ci,sb,sb,sb],TS.v true (cc 6),tf [ci]],[],[]⟩
def Q5o:=qd 157 Qub Qm9
def Qpk (D G I L M N:Fn):Cfg:=cf [Q2f D,Yfm G,Zwj I,Z73 L,Zjt M,Z4o N]
def Q9f:Sk:=⟨dd 6++[tf [ci],tf [sd 7 0],tf [sd 8 0],tf [sd 9 0],tf [sd 10 0],tf [sd 11 0],tf [sd 12 0],td,tf [sd 14 0],tf [sd 15 0],tf [sb]]++dd 6++[tf [sa Aa],tf [ci],tf [ci]]++dd 57,[(7,46,[ci,ci,ci,sa Ag,sa kPt]),(8,34,cc 9++[sa Aa]++cc 9++[sa Aa]++cc 9++[sa Aa]),(9,52,[sa Ap]++cc 5),(10,36,[ci,ci,ci]),(11,163,[ci,ci,sb,sb,sb]),(12,171,cc 6),(14,171,cc 6),(15,171,cc 6)],[]⟩
def Q9a:List (Ex×Sk):=[(Ex.exit 0,⟨dd 10++[tf [sd 10 0],td,tf [sd 12 0],td,tf [sd 14 0],tf [sd 15 0],tf [sb]]++dd 66,[(10,36,[ci,ci,ci]),(12,171,cc 6),(14,171,cc 6),(15,171,cc 6)],[]⟩)]
def Qq3 (D G I L M N:Fn):Lp:=AG PG (Qpk D G I L M N) 64 4 (AH PG 157 4) Q9f Q9a
def Q79 (D G I L M N:Fn) (O:Lp):Cfg:=(Qpk D G I L M N).loop 4 Q9f Q9a O
def Qpf (D G I L M N:Fn) (O:Lp):Fn:=Am PG (Q79 D G I L M N O) 64 157 Qub Qm9
theorem Z1z (B_ GL GP EO CZ Hz:Fn) (v0:Int) (v1:Bool) (v2:Rw) (v3 v4:Int) (v46 M v48 v49 a0:Int) (v51 a1 v53:Bool) (N L G S T v59 U V X v63 Y v65 a2 a3 v68 v69 v70 a4:Int) (p:Pth) (x:Ax3) (t:Trk):Qq3 B_ GL GP EO CZ Hz (I v0::B v1:: .vC Aa v2::I v3::I v4::pxt p x t [I v46,I M,I v48,I v49,I a0,B v51,B a1,B v53,I N,I L,I G,I S,I T,I v59,I U,I V,I X,I v63,I Y,I v65,I a2,I a3,I v68,I v69,I v70,I a4])=
 cond (decide (v4<v3)) (cond (decide (0<=v4)&&decide (v4<(v2.length:Int))) (cond (decide (O (L+O (G+gA (nth [] v2 v4.toNat) 0))<0)) (some (0,(I v0::B v1:: .vC Aa v2::I v3::I (O (v4+1))::pxt p x t [I v46,I M,I v48,I v49,I a0,B v51,B a1,B v53,I N,I L,I G,I S,I T,I v59,I U,I V,I X,I v63,I Y,I v65,I a2,I a3,I v68,I v69,I v70,I a4]))) ((CZ [I v46,I M,I v48,I (O (L+O (G+gA (nth [] v2 v4.toNat) 0))),I (O (G+gA (nth [] v2 v4.toNat) 0))]).bind λo9=>
 cond (!bA o9 0) (some (0,(I v0::B v1:: .vC Aa v2::I v3::I (O (v4+1))::pxt p x t [I v46,I M,I v48,I v49,I a0,B v51,B a1,B v53,I N,I L,I G,I S,I T,I v59,I U,I V,I X,I v63,I Y,I v65,I a2,I a3,I v68,I v69,I v70,I a4]))) ((EO [I N,I L,I G,I S,I T,I v59,I (O (L+O (G+gA (nth [] v2 v4.toNat) 0)))]).bind λD=>
 (GP (Fa p t [I v46,I M,I v48,I v49,I a0,B v51,B a1,B v53,jA D 0,jA D 1,jA D 2,jA D 3,jA D 4,jA D 5])).bind λa5=>
 cond (bA a5 0) ((GL (pxt p x t [I v46,I M,I v48,jA D 0,jA D 1,jA D 2,jA D 3,jA D 4,jA D 5,I v0])).bind λa6=>
 cond (bA a6 0) (some (1,[B true,I v46,I M,I v48,I N,I L,I G,I S,I T,I v59,I U,I V,I X,I v63,I Y,I v65,jA D 0,jA D 1,jA D 2,jA D 3,jA D 4,jA D 5])) (some (0,(I v0::B v1:: .vC Aa v2::I v3::I (O (v4+1))::pxt p x t [I v46,I M,I v48,I v49,I a0,B v51,B a1,B v53,I N,I L,I G,I S,I T,I v59,I U,I V,I X,I v63,I Y,I v65,jA D 0,jA D 1,jA D 2,jA D 3,jA D 4,jA D 5])))) (some (0,(I v0::B v1:: .vC Aa v2::I v3::I (O (v4+1))::pxt p x t [I v46,I M,I v48,I v49,I a0,B v51,B a1,B v53,I N,I L,I G,I S,I T,I v59,I U,I V,I X,I v63,I Y,I v65,jA D 0,jA D 1,jA D 2,jA D 3,jA D 4,jA D 5])))))) (none)) (some (1,[B v1,I v46,I M,I v48,I N,I L,I G,I S,I T,I v59,I U,I V,I X,I v63,I Y,I v65,I a2,I a3,I v68,I v69,I v70,I a4])):=by kernel_rfl
theorem Yds (B_ GL GP EO CZ Hz:Fn) (N4:Lp) (M L N S T:Int) (U V X:Bool) (Y a0 a1 a2 a3 a4 a5:Int) (p:Pth) (x:Ax3) (t:Trk):Qpf B_ GL GP EO CZ Hz N4 (pxt p x t [I M,I L,I N,I S,I T,B U,B V,B X,I Y,I a0,I a1,I a2,I a3,I a4,I a5])=
 (Hz [I L]).bind λa6=>
 (N4 (I a5::B false:: .vC Aa (wA a6 0)::I (↑(wA a6 0).length:Int)::I 0::pxt p x t [I M,I L,I N,I S,I T,B U,B V,B X,I Y,I a0,I a1,I a2,I a3,I a4,I 0,I 0,I 0,I 0,I 0,I 0,I 0,I 0,I 0,I 0,I 0,I 0])).bind λD=>
 cond (D.1.beq 1) (cond (bA D.2 0) (some [jA D.2 16,jA D.2 17,jA D.2 18,jA D.2 19,jA D.2 20,jA D.2 21]) ((B_ [jA D.2 1,jA D.2 2,jA D.2 3,jA D.2 5,jA D.2 6]).bind λa7=>
 (EO [jA D.2 4,jA D.2 5,jA D.2 6,jA D.2 7,jA D.2 8,jA D.2 9,I (O (gA D.2 5+gA a7 0))]).bind λG=>
 some [jA G 0,jA G 1,jA G 2,jA G 3,jA G 4,jA G 5])) (none):=by kernel_rfl
def Zbi:=Al (Qq3 HP OK Pn Pq H8 PX)
def I4:=Qpf HP OK Pn Pq H8 PX Zbi
theorem Qw5:Ai PG (Qpk HP OK Pn Pq H8 PX):=An rfl ⟨Q6e,Z0x,Zqg,Z1n,Q2c,Ykp,trivial⟩
theorem Zja:Ak PG (Q5o I4):=rw2 (C:=Q79 HP OK Pn Pq H8 PX Zbi) (fl fb Qw5) Qw5
attribute [go_sem] QD Qu8 V7 Qn9 MI Qq0 Qp0 Qhx RQ Uw WO Vv T6 Vx Wz XF Z7 PI Rv Qud Sf
end Go.Bm
