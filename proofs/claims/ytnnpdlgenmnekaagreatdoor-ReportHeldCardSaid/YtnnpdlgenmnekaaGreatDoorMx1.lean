/- functions of the program and of the references, as models -/
import Derived.Test.YtnnpdlgenmnekaaGreatDoorSeShelf
import Derived.Test.YtnnpdlgenmnekaaGreatDoorSeExt
import Derived.Test.YtnnpdlgenmnekaaGreatDoorSePre
import Derived.Test.YtnnpdlgenmnekaaGreatDoorSeKc
import Derived.Test.YtnnpdlgenmnekaaGreatDoorSeBld
import Derived.Test.YtnnpdlgenmnekaaGreatDoorSeStr
import Derived.Test.YtnnpdlgenmnekaaGreatDoorSeFmA
import Derived.Test.YtnnpdlgenmnekaaGreatDoorSeFmB
import Derived.Test.YtnnpdlgenmnekaaGreatDoorSeFmC
import Derived.Test.YtnnpdlgenmnekaaGreatDoorSeFmD
import Derived.Test.YtnnpdlgenmnekaaGreatDoorSeFmE
import Derived.Test.YtnnpdlgenmnekaaGreatDoorSeFmF
import Derived.Test.YtnnpdlgenmnekaaGreatDoorBmTy
set_option linter.unusedSimpArgs false
set_option linter.unusedVariables false
set_option maxRecDepth 100000
noncomputable section
open Go.IntKind (wrap)
namespace Go.Bm
open Go.Proofs
def qd (n:Nat) (s o:Sk) (M:Fn):Nat×Spec:=(n,Ac s o M)
def Qgf:Sk:=⟨[tf [sa [Kd.sl kPt,Kd.sl Aa,kI,kI,kI,kI,kI,kI,kI]]],[],[]⟩
def V_:Sk:=⟨[tf [sb]],[],[]⟩
def Zik:=qd 19 Qgf V_
def Qj1:Cfg:=cf []
def Tg:Fn:=An PG Qj1 64 19 Qgf V_
theorem Q66 (D:Rw):Tg [.vC [Kd.sl kPt,Kd.sl Aa,kI,kI,kI,kI,kI,kI,kI] D]=
 cond (decide ((D.length:Int)>0)) (cond (decide (0<=O ((D.length:Int)-1))&&decide (O ((D.length:Int)-1)<(D.length:Int))) (some [B (gA (nth [] D (O ((D.length:Int)-1)).toNat) 2==7)]) (none)) (some [B false]):=by kernel_rfl
def Ja:=Tg
theorem Z54:Ai PG (Qj1):=Ao rfl trivial
theorem Q35:Ak PG (Zik Ja):=rw1 (C:=Qj1) Z54
def Qqn:Sk:=⟨[tf [sa kPt]],[],[]⟩
def Znx:=qd 26 Qgf Qqn
def C_report_Pulses_0:Cfg:={cf []with prom:=λb=>cond (Nat.beq b 3) ([(3,125)]) ([])}
def Qz3:Sk:=⟨[td,td,td,tf [se 3 3],td,td,tf [sa [Kd.sl kPt,Kd.sl Aa,kI,kI,kI,kI,kI,kI,kI]],tf [ci],tf [ci]]++dd 9,[],[(3,125,kPt)]⟩
def Zbk:List (Ex×Sk):=[(Ex.exit 0,⟨[td,td,td,tf [se 3 3]]++dd 14,[],[(3,125,kPt)]⟩)]
def Pf:Lp:=AG PG C_report_Pulses_0 64 3 (AH PG 26 3) Qz3 Zbk
def Zgx (D:Lp):Cfg:=C_report_Pulses_0.loop 3 Qz3 Zbk D
def Zv (D:Lp):Fn:=An PG (Zgx D) 64 26 Qgf Qqn
theorem Q8j (L G:Rw) (M D:Int):Pf [.vC kPt L, .vC [Kd.sl kPt,Kd.sl Aa,kI,kI,kI,kI,kI,kI,kI] G,I M,I D]=
 cond (decide (D<M)) (cond (decide (0<=D)&&decide (D<(G.length:Int))) (cond (((L++wA (nth [] G D.toNat) 0).length*24).ble 140737488355328) (some (0,[.vC kPt (L++wA (nth [] G D.toNat) 0), .vC [Kd.sl kPt,Kd.sl Aa,kI,kI,kI,kI,kI,kI,kI] G,I M,I (O (D+1))])) (none)) (none)) (some (1,[.vC kPt L])):=by kernel_rfl
theorem Zy6 (G:Lp) (D:Rw):Zv G [.vC [Kd.sl kPt,Kd.sl Aa,kI,kI,kI,kI,kI,kI,kI] D]=
 (G [.vC kPt [], .vC [Kd.sl kPt,Kd.sl Aa,kI,kI,kI,kI,kI,kI,kI] D,I (D.length:Int),I 0]).bind λo1=>
 cond (o1.1.beq 1) (some [.vC kPt (wA o1.2 0)]) (none):=by kernel_rfl
def Zah:=Al (Pf)
def Rn:=Zv Zah
theorem Zgz:Ai PG (C_report_Pulses_0):=Ao rfl trivial
theorem Yar:Ak PG (Znx Rn):=rw2 (C:=Zgx Zah) (fl fb Zgz) Zgz
def Zb:Sk:=⟨[tf [ci]],[],[]⟩
def R4:=qd 66 Zb V_
def Zc2:Fn:=An PG Qj1 64 66 Zb V_
theorem Yhm (D:Int):Zc2 [I D]=
 cond (decide (D>=1)) (some [B (decide (D<=6))]) (some [B false]):=by kernel_rfl
def CX:=Zc2
theorem Zvu:Ai PG (Qj1):=Ao rfl trivial
theorem Qo:Ak PG (R4 CX):=rw1 (C:=Qj1) Zvu
def Qn1:Sk:=⟨[TS.v true (cc 13++[sb,ci,sb]++cc 5++[sb])],[],[]⟩
def Q5e:=qd 70 Qn1 V_
def Q5h:Fn:=An PG Qj1 64 70 Qn1 V_
theorem Zra (D x1 x2 x3 x4 x5 x6 x7 x8 x9 G L M:Int) (N:Bool) (O:Int) (S:Bool) (T U V X Y:Int) (a0:Bool):Q5h [I D,I x1,I x2,I x3,I x4,I x5,I x6,I x7,I x8,I x9,I G,I L,I M,B N,I O,B S,I T,I U,I V,I X,I Y,B a0]=
 cond (D==5) (some [B true]) (some [B (D==6)]):=by kernel_rfl
def FC:=Q5h
theorem Zt3:Ai PG (Qj1):=Ao rfl trivial
theorem Qxx:Ak PG (Q5e FC):=rw1 (C:=Qj1) Zt3
def Qss:Sk:=⟨[tf [sa Ae],tf [ci]],[],[]⟩
def Zw7:=qd 74 Qss Zb
def Qog (D G:Fn):Cfg:=cf [R4 D,Q5e G]
def Zdu:Sk:=⟨[tf [sa Ae],td,td,td,td,tf [ci]]++dd 38,[],[]⟩
def Zal:List (Ex×Sk):=[(Ex.ret,⟨[td,td,td,td,tf [ci]]++dd 39,[],[]⟩),(Ex.exit 0,⟨[td]++dd 43,[],[]⟩)]
def PI (D G:Fn):Lp:=AG PG (Qog D G) 64 6 (AH PG 74 6) Zdu Zal
def Zbo (D G:Fn) (I:Lp):Cfg:=(Qog D G).loop 6 Zdu Zal I
def Qev (D G:Fn) (I:Lp):Fn:=An PG (Zbo D G I) 64 74 Qss Zb
theorem Zf7 (L M:Fn) (G:Rw) (D:Int):PI L M [.vC Ae G,I D]=
 cond (decide (D<(G.length:Int))) (cond (decide (0<=D)&&decide (D<(G.length:Int))) ((L [jA (nth [] G D.toNat) 0]).bind λN=>
 cond (bA N 0) (cond (decide (0<=D)&&decide (D<(G.length:Int))) ((M (AF Ae (nth [] G D.toNat))).bind λo6=>
 cond (bA o6 0) (some (1,[I 1])) (some (2,[]))) (none)) (some (0,[.vC Ae G,I (O (D+1))]))) (none)) (some (2,[])):=by kernel_rfl
theorem Z0g (N L:Fn) (M:Lp) (G:Rw) (D:Int):Qev N L M [.vC Ae G,I D]=
 cond (decide (0<=D)&&decide (D<(G.length:Int))) (cond (gA (nth [] G D.toNat) 0==4) (some [I 6]) (cond (decide (0<=D)&&decide (D<(G.length:Int))) (cond (gA (nth [] G D.toNat) 18==0) (some [I 1]) (cond (decide (0<=D)&&decide (D<(G.length:Int))) ((L (AF Ae (nth [] G D.toNat))).bind λS=>
 cond (bA S 0) (some [I 1]) ((M [.vC Ae G,I (O (D+1))]).bind λo8=>
 cond (o8.1.beq 1) (some [jA o8.2 0]) (cond (o8.1.beq 2) (some [I 2]) (none)))) (none))) (none))) (none):=by kernel_rfl
def Q84:=Al (PI CX FC)
def Iw:=Qev CX FC Q84
theorem Qwa:Ai PG (Qog CX FC):=Ao rfl ⟨Qo,Qxx,trivial⟩
theorem Yft:Ak PG (Zw7 Iw):=rw2 (C:=Zbo CX FC Q84) (fl fb Qwa) Qwa
def Zin:=qd 116 Qn1 V_
def Zjy:Fn:=An PG Qj1 64 116 Qn1 V_
theorem Zlx (x0 x1 x2 x3 x4 x5 x6 x7 x8 x9 D G L:Int) (M:Bool) (N:Int) (O:Bool) (S T U V X:Int) (Y:Bool):Zjy [I x0,I x1,I x2,I x3,I x4,I x5,I x6,I x7,I x8,I x9,I D,I G,I L,B M,I N,B O,I S,I T,I U,I V,I X,B Y]=
 cond (x0==2) (some [B !(x2==x5&&(x3==x6&&(x4==x7&&true)))]) (some [B false]):=by kernel_rfl
def Iz:=Zjy
theorem Zmt:Ai PG (Qj1):=Ao rfl trivial
theorem Qyj:Ak PG (Zin Iz):=rw1 (C:=Qj1) Zmt
def Qzp:=qd 73 Qss Zb
def ZK (D:Fn):Cfg:=cf [Zin D]
def Zid:Sk:=⟨[tf [sa Ae],td,td,td,td,tf [ci]]++dd 34,[],[]⟩
def Qxi:List (Ex×Sk):=[(Ex.ret,⟨[td,td,td,td,tf [ci]]++dd 35,[],[]⟩),(Ex.exit 0,⟨[td]++dd 39,[],[]⟩)]
def OX (D:Fn):Lp:=AG PG (ZK D) 64 4 (AH PG 73 4) Zid Qxi
def Q4l (D:Fn) (G:Lp):Cfg:=(ZK D).loop 4 Zid Qxi G
def Qu2 (D:Fn) (G:Lp):Fn:=An PG (Q4l D G) 64 73 Qss Zb
theorem Q48 (L:Fn) (G:Rw) (D:Int):OX L [.vC Ae G,I D]=
 cond (decide (D<(G.length:Int))) (cond (decide (0<=D)&&decide (D<(G.length:Int))) (cond (gA (nth [] G D.toNat) 0==10) (some (0,[.vC Ae G,I (O (D+1))])) (cond (decide (0<=D)&&decide (D<(G.length:Int))) ((L (AF Ae (nth [] G D.toNat))).bind λo4=>
 cond (bA o4 0) (some (1,[I D])) (some (1,[I (-1)]))) (none))) (none)) (some (2,[])):=by kernel_rfl
theorem Ycv (L:Fn) (M:Lp) (G:Rw) (D:Int):Qu2 L M [.vC Ae G,I D]=
 cond (decide (0<=D)&&decide (D<(G.length:Int))) ((L (AF Ae (nth [] G D.toNat))).bind λN=>
 cond (!bA N 0) (some [I (-1)]) (cond (decide (0<=D)&&decide (D<(G.length:Int))) (cond (gA (nth [] G D.toNat) 18==0) (some [I (-1)]) ((M [.vC Ae G,I (O (D+1))]).bind λo6=>
 cond (o6.1.beq 1) (some [jA o6.2 0]) (cond (o6.1.beq 2) (some [I (-1)]) (none)))) (none))) (none):=by kernel_rfl
def Qwv:=Al (OX Iz)
def F8:=Qu2 Iz Qwv
theorem Zg4:Ai PG (ZK Iz):=Ao rfl ⟨Qyj,trivial⟩
theorem Q7l:Ak PG (Qzp F8):=rw2 (C:=Q4l Iz Qwv) (fl fb Zg4) Zg4
def Qyp:=qd 120 Zb Zb
def Zen:Sk:=⟨[tf [ci],td,td,tf [ci],tf [ci]]++dd 17,[],[]⟩
def Qv9:List (Ex×Sk):=[(Ex.exit 0,⟨[td,td,td,tf [ci]]++dd 18,[],[]⟩)]
def Mj:Lp:=AG PG Qj1 64 3 (AH PG 120 3) Zen Qv9
def Q92 (D:Lp):Cfg:=Qj1.loop 3 Zen Qv9 D
def Qiq (D:Lp):Fn:=An PG (Q92 D) 64 120 Zb Zb
theorem Q65 (L G D:Int):Mj [I L,I G,I D]=
 cond (decide (D>0)) (cond (decide (O (O (G+D)*O (G+D))<=L)) (some (0,[I L,I (O (G+D)),I (D.fdiv (2^min (Int.toNat 1) IntKind.i64.bits))])) (some (0,[I L,I G,I (D.fdiv (2^min (Int.toNat 1) IntKind.i64.bits))]))) (some (1,[I G])):=by kernel_rfl
theorem Zxz (D:Lp) (G:Int):Qiq D [I G]=
 (D [I G,I 0,I 1073741824]).bind λo1=>
 cond (o1.1.beq 1) (some [jA o1.2 0]) (none):=by kernel_rfl
def Zcf:=Al (Mj)
def Jr:=Qiq Zcf
theorem Ziz:Ai PG (Qj1):=Ao rfl trivial
theorem Q3f:Ak PG (Qyp Jr):=rw2 (C:=Q92 Zcf) (fl fb Ziz) Ziz
def Qs5:Sk:=⟨[TS.v true [ci,ci,ci],TS.v true [ci,ci,ci]],[],[]⟩
def Qba:=qd 119 Qs5 Zb
def Qi8:Cfg:={cf []with unroll:=[3]}
def Q51:Fn:=An PG Qi8 64 119 Qs5 Zb
theorem Ye2 (D G L M N S:Int):Q51 [I D,I G,I L,I M,I N,I S]=
 some [I (O (O (O (0+O (O (D-M)*O (D-M)))+O (O (G-N)*O (G-N)))+O (O (L-S)*O (L-S))))]:=by kernel_rfl
def Hc:=Q51
theorem Z7m:Ai PG (Qi8):=Ao rfl trivial
theorem Qnb:Ak PG (Qba Hc):=rw1 (C:=Qi8) Z7m
def Q3s:=qd 72 Qs5 Zb
def Qa5 (D G:Fn):Cfg:=cf [Qyp D,Qba G]
def ZF (D G:Fn):Fn:=An PG (Qa5 D G) 64 72 Qs5 Zb
theorem Zph (D G:Fn) (L M N S T U:Int):ZF D G [I L,I M,I N,I S,I T,I U]=
 (G [I L,I M,I N,I S,I T,I U]).bind λo2=>
 (D [jA o2 0]).bind λo3=>
 cond (decide (O (gA o3 0*gA o3 0)<gA o2 0)) (some [I (O (gA o3 0+1))]) (some [jA o3 0]):=by kernel_rfl
def Gh:=ZF Jr Hc
theorem Z4s:Ai PG (Qa5 Jr Hc):=Ao rfl ⟨Q3f,Qnb,trivial⟩
theorem Qz1:Ak PG (Q3s Gh):=rw1 (C:=Qa5 Jr Hc) Z4s
def Quw:Sk:=⟨[TS.v true [ci,ci,ci]],[],[]⟩
def Q36:=qd 118 Qn1 Quw
def Zig:Fn:=An PG Qj1 64 118 Qn1 Quw
theorem Zkk (x0 x1 x2 x3 x4 x5 x6 x7 x8 x9 D G L:Int) (M:Bool) (N:Int) (S:Bool) (T U V X Y:Int) (a0:Bool):Zig [I x0,I x1,I x2,I x3,I x4,I x5,I x6,I x7,I x8,I x9,I D,I G,I L,B M,I N,B S,I T,I U,I V,I X,I Y,B a0]=
 some [I (O (O (x2+x5)*8)),I (O (O (x3+x6)*8)),I (O (O (x4+x7)*8))]:=by kernel_rfl
def JM:=Zig
theorem Z7v:Ai PG (Qj1):=Ao rfl trivial
theorem Qzw:Ak PG (Q36 JM):=rw1 (C:=Qj1) Z7v
def ZJ:Sk:=⟨[tf [ci],tf [ci]],[],[]⟩
def Q75:=qd 114 ZJ Zb
def Zbc:Fn:=An PG Qj1 64 114 ZJ Zb
theorem Zo3 (G D:Int):Zbc [I G,I D]=
 cond (decide (O (2*D)=0)) (none) (cond (decide (O (2*D)=0)) (none) (cond (decide ((O (O (2*G)+D)).tmod (O (2*D))<0)) (some [I (O (O ((O (O (2*G)+D)).tdiv (O (2*D)))-1))]) (some [I (O ((O (O (2*G)+D)).tdiv (O (2*D))))]))):=by kernel_rfl
def F2:=Zbc
theorem Z8n:Ai PG (Qj1):=Ao rfl trivial
theorem Qyy:Ak PG (Q75 F2):=rw1 (C:=Qj1) Z8n
def Yah:=qd 278 Qs5 Quw
def Q53:Fn:=An PG Qj1 64 278 Qs5 Quw
theorem Zk2 (D G L M N S:Int):Q53 [I D,I G,I L,I M,I N,I S]=
 some [I (O (D+M)),I (O (G+N)),I (O (L+S))]:=by kernel_rfl
def NY:=Q53
theorem Zq6:Ai PG (Qj1):=Ao rfl trivial
theorem Zrl:Ak PG (Yah NY):=rw1 (C:=Qj1) Zq6
def Z7l:=qd 279 Qs5 Quw
def Zge:Fn:=An PG Qj1 64 279 Qs5 Quw
theorem Znw (D G L M N S:Int):Zge [I D,I G,I L,I M,I N,I S]=
 some [I (O (D-M)),I (O (G-N)),I (O (L-S))]:=by kernel_rfl
def LD:=Zge
theorem Z3c:Ai PG (Qj1):=Ao rfl trivial
theorem Ydx:Ak PG (Z7l LD):=rw1 (C:=Qj1) Z3c
def Qoq:Sk:=⟨[TS.v true [ci,ci,ci],TS.v true [ci,ci,ci],TS.v true [ci,ci,ci]],[],[]⟩
def Q8y:=qd 255 Qoq Zb
def Qny (D G I:Fn):Cfg:=cf [Qba D,Yah G,Z7l I]
def Qcs (D G I:Fn):Fn:=An PG (Qny D G I) 64 255 Qoq Zb
theorem Yiz (O S D:Fn) (T U V G L M X Y x8:Int):Qcs O S D [I T,I U,I V,I G,I L,I M,I X,I Y,I x8]=
 (D [I T,I U,I V,I G,I L,I M]).bind λo4=>
 (D [I X,I Y,I x8,I G,I L,I M]).bind λN=>
 (S [jA o4 0,jA o4 1,jA o4 2,jA N 0,jA N 1,jA N 2]).bind λo6=>
 (O [jA o6 0,jA o6 1,jA o6 2,I 0,I 0,I 0]).bind λo7=>
 some [jA o7 0]:=by kernel_rfl
def IK:=Qcs Hc NY LD
theorem Z12:Ai PG (Qny Hc NY LD):=Ao rfl ⟨Qnb,Zrl,Ydx,trivial⟩
theorem Zcl:Ak PG (Q8y IK):=rw1 (C:=Qny Hc NY LD) Z12
def Ztw:=qd 227 Qoq Zb
def Qo9 (D:Fn):Cfg:=cf [Q8y D]
def Zdb:Sk:=⟨[td,td,td,tf [sd 3 0],tf [sd 4 0],tf [sd 5 0],td,tf [ci]]++dd 22,[(3,42,[ci,ci,ci]),(4,42,[ci,ci,ci]),(5,42,[ci,ci,ci])],[]⟩
def Qx6:List (Ex×Sk):=[(Ex.exit 0,⟨dd 7++[tf [ci]]++dd 22,[],[]⟩)]
def Qq (D:Fn):Lp:=AG PG (Qo9 D) 64 2 (AH PG 227 2) Zdb Qx6
def Q6z (D:Fn) (G:Lp):Cfg:=(Qo9 D).loop 2 Zdb Qx6 G
def Yi (D:Fn) (G:Lp):Fn:=An PG (Q6z D G) 64 227 Qoq Zb
theorem Zsc (Y:Fn) (D G L M N S T U V X:Int):Qq Y [I D,I G,I L,I M,I N,I S,I T,I U,I V,I X]=
 cond (decide (D<64)) ((Y [I G,I L,I M,I N,I S,I T,I U,I V,I X]).bind λo2=>
 cond (decide (gA o2 0>O (O (O (O (O (O (16*D)*D)*D)*D)*4)*4))) (some (0,[I (O (D*2)),I G,I L,I M,I N,I S,I T,I U,I V,I X])) (some (1,[I D]))) (some (1,[I D])):=by kernel_rfl
theorem Z6p (X:Fn) (D:Lp) (G L M N O S T U V:Int):Yi X D [I G,I L,I M,I N,I O,I S,I T,I U,I V]=
 (D [I 2,I G,I L,I M,I N,I O,I S,I T,I U,I V]).bind λo3=>
 cond (o3.1.beq 1) (some [jA o3.2 0]) (none):=by kernel_rfl
def Q1a:=Al (Qq IK)
def JV:=Yi IK Q1a
theorem Za8:Ai PG (Qo9 IK):=Ao rfl ⟨Zcl,trivial⟩
theorem Zw6:Ak PG (Ztw JV):=rw2 (C:=Q6z IK Q1a) (fl fb Za8) Za8
def Xw:Sk:=⟨[tf [si .u64],tf [si .u64]],[],[]⟩
def Qp9:Sk:=⟨[TS.tup [(false,[si .u64]),(false,[si .u64])]],[],[]⟩
def Zs3:=qd 292 Xw Qp9
def Q1j:Fn:=An PG Qj1 64 292 Xw Qp9
theorem Zzr (D G:Int):Q1j [U D,U G]=
 some [U (wrap .u64 (wrap .u64 (wrap .u64 (D.fdiv (2^min (Int.toNat 32) IntKind.u64.bits)*G.fdiv (2^min (Int.toNat 32) IntKind.u64.bits))+(wrap .u64 (wrap .u64 (D.fdiv (2^min (Int.toNat 32) IntKind.u64.bits)*wrap .u64 (↑(BitVec.ofInt IntKind.u64.bits G&&&BitVec.ofInt IntKind.u64.bits 4294967295).toNat:Int))+(wrap .u64 (wrap .u64 (↑(BitVec.ofInt IntKind.u64.bits D&&&BitVec.ofInt IntKind.u64.bits 4294967295).toNat:Int)*wrap .u64 (↑(BitVec.ofInt IntKind.u64.bits G&&&BitVec.ofInt IntKind.u64.bits 4294967295).toNat:Int))).fdiv (2^min (Int.toNat 32) IntKind.u64.bits))).fdiv (2^min (Int.toNat 32) IntKind.u64.bits))+(wrap .u64 (wrap .u64 (wrap .u64 (↑(BitVec.ofInt IntKind.u64.bits D&&&BitVec.ofInt IntKind.u64.bits 4294967295).toNat:Int)*G.fdiv (2^min (Int.toNat 32) IntKind.u64.bits))+wrap .u64 (↑(BitVec.ofInt IntKind.u64.bits (wrap .u64 (wrap .u64 (D.fdiv (2^min (Int.toNat 32) IntKind.u64.bits)*wrap .u64 (↑(BitVec.ofInt IntKind.u64.bits G&&&BitVec.ofInt IntKind.u64.bits 4294967295).toNat:Int))+(wrap .u64 (wrap .u64 (↑(BitVec.ofInt IntKind.u64.bits D&&&BitVec.ofInt IntKind.u64.bits 4294967295).toNat:Int)*wrap .u64 (↑(BitVec.ofInt IntKind.u64.bits G&&&BitVec.ofInt IntKind.u64.bits 4294967295).toNat:Int))).fdiv (2^min (Int.toNat 32) IntKind.u64.bits)))&&&BitVec.ofInt IntKind.u64.bits 4294967295).toNat:Int))).fdiv (2^min (Int.toNat 32) IntKind.u64.bits))),U (wrap .u64 (↑(BitVec.ofInt IntKind.u64.bits (wrap .u64 (wrap .u64 (wrap .u64 (wrap .u64 (↑(BitVec.ofInt IntKind.u64.bits D&&&BitVec.ofInt IntKind.u64.bits 4294967295).toNat:Int)*G.fdiv (2^min (Int.toNat 32) IntKind.u64.bits))+wrap .u64 (↑(BitVec.ofInt IntKind.u64.bits (wrap .u64 (wrap .u64 (D.fdiv (2^min (Int.toNat 32) IntKind.u64.bits)*wrap .u64 (↑(BitVec.ofInt IntKind.u64.bits G&&&BitVec.ofInt IntKind.u64.bits 4294967295).toNat:Int))+(wrap .u64 (wrap .u64 (↑(BitVec.ofInt IntKind.u64.bits D&&&BitVec.ofInt IntKind.u64.bits 4294967295).toNat:Int)*wrap .u64 (↑(BitVec.ofInt IntKind.u64.bits G&&&BitVec.ofInt IntKind.u64.bits 4294967295).toNat:Int))).fdiv (2^min (Int.toNat 32) IntKind.u64.bits)))&&&BitVec.ofInt IntKind.u64.bits 4294967295).toNat:Int))*2^min (Int.toNat 32) IntKind.u64.bits))|||BitVec.ofInt IntKind.u64.bits (wrap .u64 (↑(BitVec.ofInt IntKind.u64.bits (wrap .u64 (wrap .u64 (↑(BitVec.ofInt IntKind.u64.bits D&&&BitVec.ofInt IntKind.u64.bits 4294967295).toNat:Int)*wrap .u64 (↑(BitVec.ofInt IntKind.u64.bits G&&&BitVec.ofInt IntKind.u64.bits 4294967295).toNat:Int)))&&&BitVec.ofInt IntKind.u64.bits 4294967295).toNat:Int))).toNat:Int))]:=by kernel_rfl
def OD:=Q1j
theorem Zrb:Ai PG (Qj1):=Ao rfl trivial
theorem Zqh:Ak PG (Zs3 OD):=rw1 (C:=Qj1) Zrb
def Yl:Sk:=⟨[tf [si .u64],tf [si .u64],tf [si .u64],tf [si .u64],tf [sb]],[],[]⟩
def Yd3:=qd 277 Yl V_
def Qpq (D:Fn):Cfg:=cf [Zs3 D]
def Qjo (D:Fn):Fn:=An PG (Qpq D) 64 277 Yl V_
theorem Znb (D:Fn) (G I L M:Int) (N:Bool):Qjo D [U G,U I,U L,U M,B N]=
 (D [U G,U I]).bind λo2=>
 (D [U L,U M]).bind λo3=>
 cond (decide (gA o2 0<gA o3 0)) (some [B true]) (cond (gA o2 0==gA o3 0) (cond (decide (gA o2 1<gA o3 1)) (some [B true]) (cond (gA o2 1==gA o3 1) (some [B !N]) (some [B false]))) (some [B false])):=by kernel_rfl
def OU:=Qjo OD
theorem Zzx:Ai PG (Qpq OD):=Ao rfl ⟨Zqh,trivial⟩
theorem Z2u:Ak PG (Yd3 OU):=rw1 (C:=Qpq OD) Zzx
def Qbr:Sk:=⟨[tf [ci],tf [ci],tf [ci]],[],[]⟩
def Zgq:=qd 254 Qbr Zb
def Qmd (D:Fn):Cfg:=cf [Yd3 D]
def Zbt:Sk:=⟨[tf [ci]]++dd 6++[tf [si .u64],tf [si .u64],tf [si .u64],tf [si .u64]]++dd 51,[],[]⟩
def Qzu:List (Ex×Sk):=[(Ex.exit 0,⟨[tf [ci]]++dd 6++[tf [si .u64],tf [si .u64],tf [si .u64]]++dd 52,[],[]⟩)]
def Mv (D:Fn):Lp:=AG PG (Qmd D) 64 3 (AH PG 254 3) Zbt Qzu
def Q1t (D:Fn) (G:Lp):Cfg:=(Qmd D).loop 3 Zbt Qzu G
def Qp7 (D:Fn) (G:Lp):Fn:=An PG (Q1t D G) 64 254 Qbr Zb
theorem Qz7 (O:Fn) (N G M L D:Int):Mv O [I N,U G,U M,U L,U D]=
 cond (decide (D>0)) ((O [U (wrap .u64 (wrap .u64 (L+D)*wrap .u64 (L+D))),U M,U G,U G,B false]).bind λo3=>
 cond (bA o3 0) (some (0,[I N,U G,U M,U (wrap .u64 (L+D)),U (D.fdiv (2^min (Int.toNat 1) IntKind.u64.bits))])) (some (0,[I N,U G,U M,U L,U (D.fdiv (2^min (Int.toNat 1) IntKind.u64.bits))]))) (some (1,[I N,U G,U M,U L])):=by kernel_rfl
theorem Zrp (G:Fn) (L:Lp) (D M N:Int):Qp7 G L [I D,I M,I N]=
 (L [I D,U (wrap .u64 (O (mx D (O (0-D))*M))),U (wrap .u64 N),U 0,U 134217728]).bind λo4=>
 cond (o4.1.beq 1) ((G [U (wrap .u64 (wrap .u64 (wrap .u64 (2*gA o4.2 3)+1)*wrap .u64 (wrap .u64 (2*gA o4.2 3)+1))),U (gA o4.2 2),U (wrap .u64 (2*gA o4.2 1)),U (wrap .u64 (2*gA o4.2 1)),B (decide (gA o4.2 0<0))]).bind λS=>
 cond (bA S 0) (cond (decide (gA o4.2 0<0)) (some [I (O (0-O (wrap .u64 (gA o4.2 3+1))))]) (some [I (O (wrap .u64 (gA o4.2 3+1)))])) (cond (decide (gA o4.2 0<0)) (some [I (O (0-O (gA o4.2 3)))]) (some [I (O (gA o4.2 3))]))) (none):=by kernel_rfl
def Zhj:=Al (Mv OU)
def HU:=Qp7 OU Zhj
theorem Q1g:Ai PG (Qmd OU):=Ao rfl ⟨Z2u,trivial⟩
theorem Q3j:Ak PG (Zgq HU):=rw2 (C:=Q1t OU Zhj) (fl fb Q1g) Q1g
def Qst:Sk:=⟨[TS.v true [ci,ci,ci],TS.v true [ci,ci,ci],tf [ci]],[],[]⟩
def Qpn:Sk:=⟨[TS.tup [(true,[ci,ci,ci]),(false,[sb])]],[],[]⟩
def Zax:=qd 226 Qst Qpn
def Qqb (D G:Fn):Cfg:={cf [Zgq D,Qba G]with unroll:=[6]}
def Qc5 (D G:Fn):Fn:=An PG (Qqb D G) 64 226 Qst Qpn
theorem Z2k (G V:Fn) (L M N S T U D:Int):Qc5 G V [I L,I M,I N,I S,I T,I U,I D]=
 (V [I S,I T,I U,I L,I M,I N]).bind λo4=>
 cond (gA o4 0==0) (some [I 0,I 0,I 0,B false]) (cond (decide (D<0)) (some [I 0,I 0,I 0,B false]) (cond (decide (D>33554432)) (some [I 0,I 0,I 0,B false]) ((G [I (O (S-L)),I D,jA o4 0]).bind λX=>
 (G [I (O (T-M)),I D,jA o4 0]).bind λo6=>
 (G [I (O (U-N)),I D,jA o4 0]).bind λY=>
 some [I (O (L+gA X 0)),I (O (M+gA o6 0)),I (O (N+gA Y 0)),B true]))):=by kernel_rfl
def HG:=Qc5 HU Hc
theorem Zu1:Ai PG (Qqb HU Hc):=Ao rfl ⟨Q3j,Qnb,trivial⟩
theorem Zb0:Ak PG (Zax HG):=rw1 (C:=Qqb HU Hc) Zu1
def Wj:Sk:=⟨[TS.v true [ci,ci,ci],TS.v true [ci,ci,ci],TS.v true [ci,ci,ci],tf [ci],tf [ci]],[],[]⟩
def Yez:=qd 253 Wj V_
def Qqy (D G I:Fn):Cfg:=cf [Q8y D,Zax G,Q3s I]
def Qcp (D G I:Fn):Fn:=An PG (Qqy D G I) 64 253 Wj V_
theorem Z2v (DZ N S:Fn) (T U V G L M X Y x8 x9 D:Int):Qcp DZ N S [I T,I U,I V,I G,I L,I M,I X,I Y,I x8,I x9,I D]=
 (S [I T,I U,I V,I G,I L,I M]).bind λo5=>
 (S [I G,I L,I M,I X,I Y,I x8]).bind λo6=>
 cond (decide (D>O (mn (gA o5 0) (gA o6 0)-2))) (some [B false]) ((N [I G,I L,I M,I T,I U,I V,I D]).bind λo7=>
 (N [I G,I L,I M,I X,I Y,I x8,I D]).bind λo8=>
 (DZ [jA o7 0,jA o7 1,jA o7 2,I G,I L,I M,jA o8 0,jA o8 1,jA o8 2]).bind λo9=>
 some [B (decide (gA o9 0<=O (O (16*x9)*x9)))]):=by kernel_rfl
def Jj:=Qcp IK HG Gh
theorem Zq1:Ai PG (Qqy IK HG Gh):=Ao rfl ⟨Zcl,Zb0,Qz1,trivial⟩
theorem Ygn:Ak PG (Yez Jj):=rw1 (C:=Qqy IK HG Gh) Zq1
def Qs7:Sk:=⟨[TS.v true [ci,ci,ci],TS.v true [ci,ci,ci],TS.v true [ci,ci,ci],tf [ci]],[],[]⟩
def Z52:=qd 225 Qs7 Zb
def ZY (D:Fn):Cfg:=cf [Yez D]
def Q5i:Sk:=⟨[td,td,td,tf [ci],tf [sd 4 0],tf [sd 5 0],tf [sd 6 0],td,td,tf [ci],tf [ci]]++dd 26,[(4,42,[ci,ci,ci]),(5,42,[ci,ci,ci]),(6,42,[ci,ci,ci])],[]⟩
def Q0u:List (Ex×Sk):=[(Ex.exit 0,⟨dd 9++[tf [ci]]++dd 27,[],[]⟩)]
def Ke (D:Fn):Lp:=AG PG (ZY D) 64 5 (AH PG 225 5) Q5i Q0u
def Q2d (D:Fn) (G:Lp):Cfg:=(ZY D).loop 5 Q5i Q0u G
def Qms (D:Fn) (G:Lp):Fn:=An PG (Q2d D G) 64 225 Qs7 Zb
theorem W9 (Y:Fn) (L G D M N S T U V X v10 v11:Int):Ke Y [I L,I G,I D,I M,I N,I S,I T,I U,I V,I X,I v10,I v11]=
 cond (decide (D>0)) ((Y [I M,I N,I S,I T,I U,I V,I X,I v10,I v11,I L,I (O (G+D))]).bind λo2=>
 cond (bA o2 0) (some (0,[I L,I (O (G+D)),I (D.fdiv (2^min (Int.toNat 1) IntKind.i64.bits)),I M,I N,I S,I T,I U,I V,I X,I v10,I v11])) (some (0,[I L,I G,I (D.fdiv (2^min (Int.toNat 1) IntKind.i64.bits)),I M,I N,I S,I T,I U,I V,I X,I v10,I v11]))) (some (1,[I G])):=by kernel_rfl
theorem Ycg (Y:Fn) (V:Lp) (M N O D G L S T U X:Int):Qms Y V [I M,I N,I O,I D,I G,I L,I S,I T,I U,I X]=
 cond (M==D&&(N==G&&(O==L&&true))) (some [I 0]) (cond (S==D&&(T==G&&(U==L&&true))) (some [I 0]) ((V [I X,I 0,I 16777216,I M,I N,I O,I D,I G,I L,I S,I T,I U]).bind λo3=>
 cond (o3.1.beq 1) (cond (decide (gA o3.2 0<16)) (some [I 0]) (some [jA o3.2 0])) (none))):=by kernel_rfl
def Q1b:=Al (Ke Jj)
def Li:=Qms Jj Q1b
theorem Q2j:Ai PG (ZY Jj):=Ao rfl ⟨Ygn,trivial⟩
theorem Zum:Ak PG (Z52 Li):=rw2 (C:=Q2d Jj Q1b) (fl fb Q2j) Q2j
def Yjo:=qd 168 Qs7 Qqn
def Qat (D G I L:Fn):Cfg:={cf [Q75 D,Ztw G,Zax I,Z52 L]with prom:=λb=>cond (Nat.beq b 9) ([(15,42)]) ([]),unroll:=[13]}
def Zd8:Sk:=⟨[td,td,td,td,td,tf [sd 5 0],td,td,td,td,tf [sd 10 0],td,tf [sd 12 0],td,tf [ci],tf [se 15 3],tf [ci]]++dd 80,[(5,42,[ci,ci,ci]),(10,42,[ci,ci,ci]),(12,42,[ci,ci,ci])],[(15,42,kPt)]⟩
def Q5p:List (Ex×Sk):=[(Ex.exit 0,⟨dd 15++[tf [se 15 3]]++dd 81,[],[(15,42,kPt)]⟩)]
def Nx (D G I L:Fn):Lp:=AG PG (Qat D G I L) 64 9 (AH PG 168 9) Zd8 Q5p
def Zh4 (D G I L:Fn) (M:Lp):Cfg:=(Qat D G I L).loop 9 Zd8 Q5p M
def Qmr (D G I L:Fn) (M:Lp):Fn:=An PG (Zh4 D G I L M) 64 168 Qs7 Qqn
theorem Q8n (V GK Dy Hx:Fn) (X:Rw) (D G L M N Y v7 v8 v9 v10 v11:Int):Nx V GK Dy Hx [.vC kPt X,I D,I G,I L,I M,I N,I Y,I v7,I v8,I v9,I v10,I v11]=
 cond (decide (G<=D)) ((V [I (O (O (O (O (D-G)*O (D-G))*O (Y-L))+O (O (G*G)*O (v9-L)))),I (O (D*D))]).bind λS=>
 (V [I (O (O (O (O (D-G)*O (D-G))*O (v7-M))+O (O (G*G)*O (v10-M)))),I (O (D*D))]).bind λT=>
 (V [I (O (O (O (O (D-G)*O (D-G))*O (v8-N))+O (O (G*G)*O (v11-N)))),I (O (D*D))]).bind λU=>
 cond (((X++[[I (O (L+gA S 0)),I (O (M+gA T 0)),I (O (N+gA U 0))]]).length*24).ble 140737488355328) (some (0,[.vC kPt (X++[[I (O (L+gA S 0)),I (O (M+gA T 0)),I (O (N+gA U 0))]]),I D,I (O (G+1)),I L,I M,I N,I Y,I v7,I v8,I v9,I v10,I v11])) (none)) (some (1,[.vC kPt X])):=by kernel_rfl
theorem Qy4 (Dk GK T Hx:Fn) (N9:Lp) (U V X L M N Y x7 x8 x9:Int):Qmr Dk GK T Hx N9 [I U,I V,I X,I L,I M,I N,I Y,I x7,I x8,I x9]=
 (Hx [I U,I V,I X,I L,I M,I N,I Y,I x7,I x8,I x9]).bind λO=>
 cond (gA O 0==0) (some [.vC kPt [[I L,I M,I N]]]) ((T [I L,I M,I N,I U,I V,I X,jA O 0]).bind λD=>
 (T [I L,I M,I N,I Y,I x7,I x8,jA O 0]).bind λG=>
 (GK [jA D 0,jA D 1,jA D 2,I L,I M,I N,jA G 0,jA G 1,jA G 2]).bind λa0=>
 (N9 [.vC kPt [],jA a0 0,I 0,I L,I M,I N,jA D 0,jA D 1,jA D 2,jA G 0,jA G 1,jA G 2]).bind λS=>
 cond (S.1.beq 1) (some [.vC kPt (wA S.2 0)]) (none)):=by kernel_rfl
def Zew:=Al (Nx F2 JV HG Li)
def Qy:=Qmr F2 JV HG Li Zew
theorem Q49:Ai PG (Qat F2 JV HG Li):=Ao rfl ⟨Qyy,Zw6,Zb0,Zum,trivial⟩
theorem Yem:Ak PG (Yjo Qy):=rw2 (C:=Zh4 F2 JV HG Li Zew) (fl fb Q49) Q49
def Qu0:=qd 68 Quw Quw
def Qy8:Fn:=An PG Qj1 64 68 Quw Quw
theorem Zp9 (D G L:Int):Qy8 [I D,I G,I L]=
 some [I (O (D*16)),I (O (G*16)),I (O (L*16))]:=by kernel_rfl
def Ek:=Qy8
theorem Z9h:Ai PG (Qj1):=Ao rfl trivial
theorem Yt:Ak PG (Qu0 Ek):=rw1 (C:=Qj1) Z9h
def Zz:Sk:=⟨[tf [sa Ae],tf [ci],tf [ci]],[],[]⟩
def Yee:=qd 117 Zz Qqn
def Qgv (D G I:Fn):Cfg:=cf [Yjo D,Qu0 G,Q36 I]
def X0 (D G I:Fn):Fn:=An PG (Qgv D G I) 64 117 Zz Qqn
theorem Zu6 (S T M:Fn) (G:Rw) (D L:Int):X0 S T M [.vC Ae G,I D,I L]=
 cond (decide (0<=D)&&decide (D<(G.length:Int))) ((M (AF Ae (nth [] G D.toNat))).bind λo4=>
 cond (decide (0<=D)&&decide (D<(G.length:Int))) ((T [jA (nth [] G D.toNat) 5,jA (nth [] G D.toNat) 6,jA (nth [] G D.toNat) 7]).bind λN=>
 cond (decide (0<=L)&&decide (L<(G.length:Int))) ((M (AF Ae (nth [] G L.toNat))).bind λo6=>
 cond (decide (0<=D)&&decide (D<(G.length:Int))) ((S [jA o4 0,jA o4 1,jA o4 2,jA N 0,jA N 1,jA N 2,jA o6 0,jA o6 1,jA o6 2,I (O (gA (nth [] G D.toNat) 18*16))]).bind λU=>
 some [.vC kPt (wA U 0)]) (none)) (none)) (none)) (none):=by kernel_rfl
def Qk:=X0 Qy Ek JM
theorem Zsk:Ai PG (Qgv Qy Ek JM):=Ao rfl ⟨Yem,Yt,Qzw,trivial⟩
theorem Ztf:Ak PG (Yee Qk):=rw1 (C:=Qgv Qy Ek JM) Zsk
def Wt:Sk:=⟨[tf [ci],tf [ci],tf [ci],tf [ci]],[],[]⟩
def Q76:=qd 137 Wt Quw
def Zji:Fn:=An PG Qj1 64 137 Wt Quw
theorem Ygb (D G L M:Int):Zji [I D,I G,I L,I M]=
 cond (M==17) (some [I D,I G,I L]) (cond (M==18) (some [I G,I L,I D]) (cond (M==19) (some [I L,I D,I G]) (some [I 0,I 0,I 0]))):=by kernel_rfl
def IC:=Zji
theorem Zvq:Ai PG (Qj1):=Ao rfl trivial
theorem Q0t:Ak PG (Q76 IC):=rw1 (C:=Qj1) Zvq
def Qhb:Sk:=⟨[TS.v true [ci,ci,ci],tf [ci]],[],[]⟩
def Qm5:Sk:=⟨[TS.tup [(false,[ci]),(false,[ci]),(false,[ci])]],[],[]⟩
def Qsc:=qd 135 Qhb Qm5
def Q2e:Fn:=An PG Qj1 64 135 Qhb Qm5
theorem Zxk (D G L M:Int):Q2e [I D,I G,I L,I M]=
 cond (M==17) (some [I D,I G,I L]) (cond (M==18) (some [I L,I D,I G]) (cond (M==19) (some [I G,I L,I D]) (some [I 0,I 0,I 0]))):=by kernel_rfl
def Gm:=Q2e
theorem Yek:Ai PG (Qj1):=Ao rfl trivial
theorem Qom:Ak PG (Qsc Gm):=rw1 (C:=Qj1) Yek
def Yhr:=qd 276 ZJ Zb
def Zcx:Fn:=An PG Qj1 64 276 ZJ Zb
theorem Zlv (D G:Int):Zcx [I D,I G]=
 some [I ((O (O (D+G)+1)).fdiv (2^min (Int.toNat 1) IntKind.i64.bits))]:=by kernel_rfl
def NE:=Zcx
theorem Zl1:Ai PG (Qj1):=Ao rfl trivial
theorem Zqm:Ak PG (Yhr NE):=rw1 (C:=Qj1) Zl1
def Y4:Sk:=⟨[TS.v true [ci,ci,ci,ci],TS.v true [ci,ci,ci,ci]],[],[]⟩
def Qii:=qd 222 Y4 Zb
def Q7f:Fn:=An PG Qj1 64 222 Y4 Zb
theorem Yhq (D G N S L M T U:Int):Q7f [I D,I G,I N,I S,I L,I M,I T,I U]=
 some [I (O (O (D*M)-O (G*L)))]:=by kernel_rfl
def GM:=Q7f
theorem Z2m:Ai PG (Qj1):=Ao rfl trivial
theorem Qsl:Ak PG (Qii GM):=rw1 (C:=Qj1) Z2m
def XM:=qd 220 Y4 Zb
def Zdj:Fn:=An PG Qj1 64 220 Y4 Zb
theorem Zr6 (D G N S L M T U:Int):Zdj [I D,I G,I N,I S,I L,I M,I T,I U]=
 some [I (O (O (D*L)+O (G*M)))]:=by kernel_rfl
def Ga:=Zdj
theorem Z2n:Ai PG (Qj1):=Ao rfl trivial
theorem Xu:Ak PG (XM Ga):=rw1 (C:=Qj1) Z2n
def Qdz:Sk:=⟨[TS.v true [ci,ci,ci,ci],TS.v true [ci,ci,ci,ci],tf [ci],tf [sb]],[],[]⟩
def Zj:Sk:=⟨[TS.tup [(true,[ci,ci,ci,ci]),(false,[sb])]],[],[]⟩
def Zxa:=qd 252 Qdz Zj
def Qjd (D G I L:Fn):Cfg:=cf [Zgq D,Yhr G,Qii I,XM L]
def Qqr (D G I L:Fn):Fn:=An PG (Qjd D G I L) 64 252 Qdz Zj
abbrev QG (DU:Fn) (x2 x6:Int) (Cd:Fn) (x3 x7:Int) (O S:Bool) (M D N:AC):Option (List AC):=
 cond (O) (cond (S) (some [I 0,I 0,I 0,I 0,B false]) ((DU [I x2,I x6]).bind λG=>
 (Cd [M,jA G 0,D]).bind λT=>
 (Cd [N,jA G 0,D]).bind λU=>
 (DU [I x3,I x7]).bind λV=>
 some [jA T 0,jA U 0,jA G 0,jA V 0,B true])) ((DU [I x2,I x6]).bind λL=>
 (Cd [M,jA L 0,D]).bind λX=>
 (Cd [N,jA L 0,D]).bind λY=>
 (DU [I x3,I x7]).bind λa0=>
 some [jA X 0,jA Y 0,jA L 0,jA a0 0,B true])
abbrev Qu9 (Bs:Fn) (D G T U L M V X:Int) (Y Cd:Fn) (N:Int):Option (List AC):=
 (Bs [I D,I G,I T,I U,I L,I M,I V,I X]).bind λS=>
 cond (decide (gA S 0>0)) (QG Y T V Cd U X (O (0-O (D+L))==0) (O (0-O (G+M))==0) (I (O (0-O (D+L)))) (I (O (O (O (0-O (D+L))*O (0-O (D+L)))+O (O (0-O (G+M))*O (0-O (G+M)))))) (I (O (0-O (G+M))))) (QG Y T V Cd U X (O (N*O (M-G))==0) (O (N*O (D-L))==0) (I (O (N*O (M-G)))) (I (O (O (O (N*O (M-G))*O (N*O (M-G)))+O (O (N*O (D-L))*O (N*O (D-L)))))) (I (O (N*O (D-L)))))
abbrev Wf (x9:Bool) (Y:Fn) (N S:Int) (Cd:Fn) (T U D G:Int) (Bs:Fn) (L M:Int) (BI:Fn) (x8:Int):Option (List AC):=
 cond (x9) (QG Y N S Cd T U (O (0-D)==0) (O (0-G)==0) (I (O (0-D))) (I (O (O (O (0-D)*O (0-D))+O (O (0-G)*O (0-G))))) (I (O (0-G)))) ((Bs [I D,I G,I N,I T,I L,I M,I S,I U]).bind λV=>
 cond (decide (gA V 0>0)) ((BI [I D,I G,I N,I T,I L,I M,I S,I U]).bind λX=>
 cond (decide (O (gA X 0*x8)>0)) (QG Y N S Cd T U (O (D+L)==0) (O (G+M)==0) (I (O (D+L))) (I (O (O (O (D+L)*O (D+L))+O (O (G+M)*O (G+M))))) (I (O (G+M)))) (Qu9 Bs D G N T L M S U Y Cd x8)) (Qu9 Bs D G N T L M S U Y Cd x8))
theorem Zuh (G L M N:Fn) (O S T U V X Y x7 D:Int) (x9:Bool):Qqr G L M N [I O,I S,I T,I U,I V,I X,I Y,I x7,I D,B x9]=
 cond (D !=1) (cond (D != -1) (some [I 0,I 0,I 0,I 0,B false]) (Wf x9 L T Y G U x7 O S N V X M D)) (Wf x9 L T Y G U x7 O S N V X M D):=by kernel_rfl
def Mw:=Qqr HU NE GM Ga
theorem Zwf:Ai PG (Qjd HU NE GM Ga):=Ao rfl ⟨Q3j,Zqm,Qsl,Xu,trivial⟩
theorem Ztu:Ak PG (Zxa Mw):=rw1 (C:=Qjd HU NE GM Ga) Zwf
def Zpt:=qd 275 ZJ V_
def Q59:Fn:=An PG Qj1 64 275 ZJ V_
theorem Zlf (D G:Int):Q59 [I D,I G]=
 some [B (decide (G<=O (O (O (8*D)*4)-64)))]:=by kernel_rfl
def NB:=Q59
theorem Zsx:Ai PG (Qj1):=Ao rfl trivial
theorem Zuu:Ak PG (Zpt NB):=rw1 (C:=Qj1) Zsx
def Zq4:=qd 251 Qdz V_
def Qte (D G:Fn):Cfg:=cf [Zpt D,Qii G]
def Qlp (D G:Fn):Fn:=An PG (Qte D G) 64 251 Qdz V_
theorem Zqw (T U:Fn) (D G N V L M S X Y:Int) (x9:Bool):Qlp T U [I D,I G,I N,I V,I L,I M,I S,I X,I Y,B x9]=
 cond (!x9) ((U [I D,I G,I N,I V,I L,I M,I S,I X]).bind λo2=>
 cond (decide (O (gA o2 0*Y)>0)) ((T [I (mn N S),I (O (O (O (D-L)*O (D-L))+O (O (G-M)*O (G-M))))]).bind λo3=>
 some [B (bA o3 0)]) (some [B false])) (some [B false]):=by kernel_rfl
def K7:=Qlp NB GM
theorem Z5q:Ai PG (Qte NB GM):=Ao rfl ⟨Zuu,Qsl,trivial⟩
theorem Z84:Ak PG (Zq4 K7):=rw1 (C:=Qte NB GM) Z5q
def Za7:Nat:=20
def Lu:Sk:=⟨[TS.v true [ci,ci,ci,ci],TS.v true [ci,ci,ci,ci],tf [ci],tf [sb],tf [ci]],[],[]⟩
def LH:Sk:=⟨[tf [se 103700 4]],[],[(103700,228,[kI,kI,kI,kI])]⟩
def Zjm:=qd 224 Lu LH
def Qcy (D PB G:Fn):Cfg:={cp [Zjm D,Zxa PB,Zq4 G] [224]with rowDst:=[23],rowAs:=λd=>cond (Nat.beq d 23) (103700) (d),ownRes:=true}
def Ul (D PB G:Fn):Fn:=An PG (Qcy D PB G) 64 224 Lu LH
theorem Ziy (FL PB Nq:Fn) (U V X Y L M N S T:Int) (x9:Bool) (D:Int):Ul FL PB Nq [I U,I V,I X,I Y,I L,I M,I N,I S,I T,B x9,I D]=
 cond (decide (D>=16)) (some [.vC [kI,kI,kI,kI] [[I L,I M,I N,I S]]]) ((Nq [I U,I V,I X,I Y,I L,I M,I N,I S,I T,B x9]).bind λo4=>
 cond (bA o4 0) (some [.vC [kI,kI,kI,kI] [[I L,I M,I N,I S]]]) ((PB [I U,I V,I X,I Y,I L,I M,I N,I S,I T,B x9]).bind λG=>
 (FL [I U,I V,I X,I Y,jA G 0,jA G 1,jA G 2,jA G 3,I T,B false,I (O (D+1))]).bind λo6=>
 (FL [jA G 0,jA G 1,jA G 2,jA G 3,I L,I M,I N,I S,I T,B false,I (O (D+1))]).bind λo7=>
 cond (((wA o6 0++wA o7 0).length*32).ble 140737488355328) (some [.vC [kI,kI,kI,kI] (wA o6 0++wA o7 0)]) (none))):=by kernel_rfl
def Qvw (M:Fn):Fn:=Ul M Mw K7
def M9:Nat->Fn
 |0=>λ_=>none
 |n+1=>Qvw (M9 n)
theorem Zz3 {M:Fn} (h:Ak PG (224,Ac Lu LH M)):Ai PG (Qcy M Mw K7):=Ao rfl ⟨h,Ztu,Z84,trivial⟩
theorem Z8m {M:Fn} (h:Ak PG (224,Ac Lu LH M)):Ak PG (224,Ac Lu LH (Qvw M)):=VA (C:=Qcy M Mw K7) (L:=64) (by kernel_rfl) (FnOK.bare rfl rfl rfl) (Zz3 h) eqOk GH (by kernel_rfl) (by kernel_rfl)
theorem Q2r:∀n,Ak PG (224,Ac Lu LH (M9 n))
 |0=>FZ
 |n+1=>Z8m (Q2r n)
def SA:=M9 Za7
theorem Zue:Ak PG (Zjm SA):=Q2r Za7
def Qkf:Sk:=⟨[TS.v true [ci,ci,ci,ci]],[],[]⟩
def Zxc:=qd 250 Qkf Qkf
def Qge (D G:Fn):Cfg:=cf [Qyp D,XM G]
def ZM (D G:Fn):Fn:=An PG (Qge D G) 64 250 Qkf Qkf
theorem Z2y (M N:Fn) (D G S L:Int):ZM M N [I D,I G,I S,I L]=
 (N [I (O (D*16)),I (O (G*16)),I 0,I (O (L*16)),I (O (D*16)),I (O (G*16)),I 0,I (O (L*16))]).bind λo2=>
 (M [jA o2 0]).bind λo3=>
 cond (decide (O (gA o3 0*O (gA o3 0+1))<gA o2 0)) (some [I (O (D*16)),I (O (G*16)),I (O (gA o3 0+1)),I (O (L*16))]) (some [I (O (D*16)),I (O (G*16)),jA o3 0,I (O (L*16))]):=by kernel_rfl
def Se:=ZM Jr Ga
theorem Z1h:Ai PG (Qge Jr Ga):=Ao rfl ⟨Q3f,Xu,trivial⟩
theorem Zyf:Ak PG (Zxc Se):=rw1 (C:=Qge Jr Ga) Z1h
def Qh5:Sk:=⟨[TS.tup [(true,[ci,ci,ci,ci]),(true,[ci,ci,ci,ci])]],[],[]⟩
def Qvy:=qd 219 Qn1 Qh5
def Qmi (D:Fn):Cfg:=cf [Qsc D]
def YB (D:Fn):Fn:=An PG (Qmi D) 64 219 Qn1 Qh5
theorem Zlt (L:Fn) (x0 x1 x2 x3 x4 x5 x6 x7 M x9 D G N:Int) (S:Bool) (T:Int) (U:Bool) (V X Y a0 a1:Int) (a2:Bool):YB L [I x0,I x1,I x2,I x3,I x4,I x5,I x6,I x7,I M,I x9,I D,I G,I N,B S,I T,B U,I V,I X,I Y,I a0,I a1,B a2]=
 (L [I x9,I D,I G,I M]).bind λo3=>
 (L [I x2,I x3,I x4,I M]).bind λo4=>
 (L [I x5,I x6,I x7,I M]).bind λo5=>
 some [I (O (gA o4 0-gA o3 0)),I (O (gA o4 1-gA o3 1)),I 0,jA o4 2,I (O (gA o5 0-gA o3 0)),I (O (gA o5 1-gA o3 1)),I 0,jA o5 2]:=by kernel_rfl
def Ku:=YB Gm
theorem Zr9:Ai PG (Qmi Gm):=Ao rfl ⟨Qom,trivial⟩
theorem Zio:Ak PG (Qvy Ku):=rw1 (C:=Qmi Gm) Zr9
def Yj9:=qd 223 Qn1 Qh5
def Qqz (D G:Fn):Cfg:=cf [Zxc D,Qvy G]
def Qei (D G:Fn):Fn:=An PG (Qqz D G) 64 223 Qn1 Qh5
theorem Z5x (LI DI:Fn) (x0 x1 x2 x3 x4 x5 x6 x7 x8 x9 D G L:Int) (M:Bool) (N:Int) (O:Bool) (S T U V X:Int) (Y:Bool):Qei LI DI [I x0,I x1,I x2,I x3,I x4,I x5,I x6,I x7,I x8,I x9,I D,I G,I L,B M,I N,B O,I S,I T,I U,I V,I X,B Y]=
 (DI [I x0,I x1,I x2,I x3,I x4,I x5,I x6,I x7,I x8,I x9,I D,I G,I L,B M,I N,B O,I S,I T,I U,I V,I X,B Y]).bind λo3=>
 (LI [jA o3 0,jA o3 1,jA o3 2,jA o3 3]).bind λo4=>
 (LI [jA o3 4,jA o3 5,jA o3 6,jA o3 7]).bind λo5=>
 some [jA o4 0,jA o4 1,jA o4 2,jA o4 3,jA o5 0,jA o5 1,jA o5 2,jA o5 3]:=by kernel_rfl
def Qn:=Qei Se Ku
theorem Ybq:Ai PG (Qqz Se Ku):=Ao rfl ⟨Zyf,Zio,trivial⟩
theorem Z5b:Ak PG (Yj9 Qn):=rw1 (C:=Qqz Se Ku) Ybq
def Qef:Sk:=⟨[tf [sa [Kd.int .u64]],tf [sa [Kd.int .u64]]],[],[]⟩
def Yhx:=qd 248 Qef Zb
def Q68:Sk:=⟨[tf [sa [Kd.int .u64]],tf [sa [Kd.int .u64]],td,td,td,tf [ci]]++dd 35,[],[]⟩
def Zg7:List (Ex×Sk):=[(Ex.ret,⟨[td,td,td,td,tf [ci]]++dd 36,[],[]⟩),(Ex.exit 0,⟨[td]++dd 40,[],[]⟩)]
def VT:Lp:=AG PG Qj1 64 6 (AH PG 248 6) Q68 Zg7
def Q10 (D:Lp):Cfg:=Qj1.loop 6 Q68 Zg7 D
def Qz8 (D:Lp):Fn:=An PG (Q10 D) 64 248 Qef Zb
theorem Zhc (G L:Rw) (D:Int):VT [.vC [Kd.int .u64] G, .vC [Kd.int .u64] L,I D]=
 cond (decide (D>=0)) (cond (decide (0<=D)&&decide (D<(G.length:Int))) (cond (decide (0<=D)&&decide (D<(L.length:Int))) (cond (decide (Ah (nth .vD (nth [] G D.toNat) 0)<Ah (nth .vD (nth [] L D.toNat) 0))) (some (1,[I (-1)])) (cond (decide (0<=D)&&decide (D<(G.length:Int))) (cond (decide (0<=D)&&decide (D<(L.length:Int))) (cond (decide (Ah (nth .vD (nth [] G D.toNat) 0)>Ah (nth .vD (nth [] L D.toNat) 0))) (some (1,[I 1])) (some (0,[.vC [Kd.int IntKind.u64] G, .vC [Kd.int IntKind.u64] L,I (O (D-1))]))) (none)) (none))) (none)) (none)) (some (2,[])):=by kernel_rfl
theorem Z2o (L:Lp) (D G:Rw):Qz8 L [.vC [Kd.int .u64] D, .vC [Kd.int .u64] G]=
 cond ((D.length:Int) !=(G.length:Int)) (cond (decide ((D.length:Int)<(G.length:Int))) (some [I (-1)]) (some [I 1])) ((L [.vC [Kd.int IntKind.u64] D, .vC [Kd.int IntKind.u64] G,I (O ((D.length:Int)-1))]).bind λo1=>
 cond (o1.1.beq 1) (some [I (Ah (nth .vD o1.2 0))]) (cond (o1.1.beq 2) (some [I 0]) (none))):=by kernel_rfl
def Rt:=Al (VT)
def Ne:=Qz8 Rt
theorem Zhv:Ai PG (Qj1):=Ao rfl trivial
theorem Z3i:Ak PG (Yhx Ne):=rw2 (C:=Q10 Rt) (fl fb Zhv) Zhv
def Qku:Sk:=⟨[tf [sa [Kd.int .u64]]],[],[]⟩
def Zyl:=qd 291 Qku Qku
def Q2q:Sk:=⟨[tf [sa [Kd.int .u64]]]++dd 20,[],[]⟩
def Zil:List (Ex×Sk):=[(Ex.exit 0,⟨[tf [sa [Kd.int .u64]]]++dd 20,[],[]⟩)]
def Qo6:Lp:=AG PG Qj1 64 1 (AH PG 291 1) Q2q Zil
def Q7e (D:Lp):Cfg:=Qj1.loop 1 Q2q Zil D
def Q67 (D:Lp):Fn:=An PG (Q7e D) 64 291 Qku Qku
theorem Zii (D:Rw):Qo6 [.vC [Kd.int .u64] D]=
 cond (decide ((D.length:Int)>0)) (cond (decide (0<=O ((D.length:Int)-1))&&decide (O ((D.length:Int)-1)<(D.length:Int))) (cond (Ah (nth .vD (nth [] D (O ((D.length:Int)-1)).toNat) 0)==0) (cond (decide (0<=O ((D.length:Int)-1))&&decide (O ((D.length:Int)-1)<=(D.length:Int))) (some (0,[.vC [Kd.int IntKind.u64] (List.take (O ((D.length:Int)-1)).toNat D)])) (none)) (some (1,[.vC [Kd.int IntKind.u64] D]))) (none)) (some (1,[.vC [Kd.int IntKind.u64] D])):=by kernel_rfl
theorem Zrj (D:Lp) (G:Rw):Q67 D [.vC [Kd.int .u64] G]=
 (D [.vC [Kd.int IntKind.u64] G]).bind λo1=>
 cond (o1.1.beq 1) (some [.vC [Kd.int IntKind.u64] (AW (nth .vD o1.2 0))]) (none):=by kernel_rfl
def OL:=Al (Qo6)
def KT:=Q67 OL
theorem Q8b:Ai PG (Qj1):=Ao rfl trivial
theorem Zo5:Ak PG (Zyl KT):=rw2 (C:=Q7e OL) (fl fb Q8b) Q8b
def Z2g:=qd 272 Qef Qku
def Qlz (D:Fn):Cfg:=cf [Zyl D]
def Q0y:Sk:=⟨[tf [sa [Kd.int .u64]],tf [sa [Kd.int .u64]],td,td,td,tf [se 15 1],tf [ci],tf [si .u64],tf [ci]]++dd 63,[],[(15,195,[Kd.int .u64])]⟩
def Zh8:List (Ex×Sk):=[(Ex.exit 2,⟨[tf [sa [Kd.int .u64]],tf [sa [Kd.int .u64]],td,td,td,tf [se 15 1],tf [ci],tf [si .u64]]++dd 64,[],[(15,195,[Kd.int .u64])]⟩)]
def Hz (D:Fn):Lp:=AG PG (Qlz D) 64 7 (AH PG 272 7) Q0y Zh8
def Qvq (D:Fn) (G:Lp):Cfg:=(Qlz D).loop 7 Q0y Zh8 G
def Qzg:Sk:=⟨[tf [sa [Kd.int .u64]],tf [sa [Kd.int .u64]],td,td,td,tf [se 15 1],tf [ci]]++dd 65,[],[(15,195,[Kd.int .u64])]⟩
def Qw0:List (Ex×Sk):=[(Ex.exit 0,⟨[td,td,td,td,td,tf [se 15 1]]++dd 66,[],[(15,195,[Kd.int .u64])]⟩)]
def Nd (D:Fn) (G:Lp):Lp:=AG PG (Qvq D G) 64 3 (AH PG 272 3) Qzg Qw0
def Q4b (D:Fn) (G I:Lp):Cfg:=(Qvq D G).loop 3 Qzg Qw0 I
def Ql1 (D:Fn) (G I:Lp):Fn:=An PG (Q4b D G I) 64 272 Qef Qku
theorem Qzh (T:Fn) (L N M:Rw) (D S G:Int):Hz T [.vC [Kd.int .u64] L, .vC [Kd.int .u64] N, .vC [Kd.int .u64] M,I D,U S,I G]=
 cond (decide (G<(M.length:Int))) (cond (decide (0<=O (D+G))&&decide (O (D+G)<(L.length:Int))) (cond (decide (0<=D)&&decide (D<(N.length:Int))) (cond (decide (0<=G)&&decide (G<(M.length:Int))) (cond (decide (0<=O (D+G))&&decide (O (D+G)<(L.length:Int))) (some (0,[.vC [Kd.int IntKind.u64] (L.set (O (D+G)).toNat [U (wrap .u64 (↑(BitVec.ofInt IntKind.u64.bits (wrap .u64 (wrap .u64 (Ah (nth .vD (nth [] L (O (D+G)).toNat) 0)+wrap .u64 (Ah (nth .vD (nth [] N D.toNat) 0)*Ah (nth .vD (nth [] M G.toNat) 0)))+S))&&&BitVec.ofInt IntKind.u64.bits 65535).toNat:Int))]), .vC [Kd.int IntKind.u64] N, .vC [Kd.int IntKind.u64] M,I D,U ((wrap .u64 (wrap .u64 (Ah (nth .vD (nth [] L (O (D+G)).toNat) 0)+wrap .u64 (Ah (nth .vD (nth [] N D.toNat) 0)*Ah (nth .vD (nth [] M G.toNat) 0)))+S)).fdiv (2^min (Int.toNat 16) IntKind.u64.bits)),I (O (G+1))])) (none)) (none)) (none)) (none)) (some (1,[.vC [Kd.int IntKind.u64] L, .vC [Kd.int IntKind.u64] N, .vC [Kd.int IntKind.u64] M,I D,U S])):=by kernel_rfl
theorem Q6f (S:Fn) (M:Lp) (D G N:Rw) (L:Int):Nd S M [.vC [Kd.int .u64] D, .vC [Kd.int .u64] G, .vC [Kd.int .u64] N,I L]=
 cond (decide (L<(G.length:Int))) ((M [.vC [Kd.int IntKind.u64] D, .vC [Kd.int IntKind.u64] G, .vC [Kd.int IntKind.u64] N,I L,U 0,I 0]).bind λo3=>
 cond (o3.1.beq 1) (cond (decide (0<=O (Ah (nth .vD o3.2 3)+(↑(AW (nth .vD o3.2 2)).length:Int)))&&decide (O (Ah (nth .vD o3.2 3)+(↑(AW (nth .vD o3.2 2)).length:Int))<(↑(AW (nth .vD o3.2 0)).length:Int))) (cond (decide (0<=O (Ah (nth .vD o3.2 3)+(↑(AW (nth .vD o3.2 2)).length:Int)))&&decide (O (Ah (nth .vD o3.2 3)+(↑(AW (nth .vD o3.2 2)).length:Int))<(↑(AW (nth .vD o3.2 0)).length:Int))) (some (0,[.vC [Kd.int IntKind.u64] ((AW (nth .vD o3.2 0)).set (O (Ah (nth .vD o3.2 3)+(↑(AW (nth .vD o3.2 2)).length:Int))).toNat [U (wrap .u64 (Ah (nth .vD (nth [] (AW (nth .vD o3.2 0)) (O (Ah (nth .vD o3.2 3)+(↑(AW (nth .vD o3.2 2)).length:Int))).toNat) 0)+Ah (nth .vD o3.2 4)))]), .vC [Kd.int IntKind.u64] (AW (nth .vD o3.2 1)), .vC [Kd.int IntKind.u64] (AW (nth .vD o3.2 2)),I (O (Ah (nth .vD o3.2 3)+1))])) (none)) (none)) (none)) (some (1,[.vC [Kd.int IntKind.u64] D])):=by kernel_rfl
theorem Zn5 (L:Fn) (N M:Lp) (D G:Rw):Ql1 L N M [.vC [Kd.int .u64] D, .vC [Kd.int .u64] G]=
 cond (decide (O ((D.length:Int)+(G.length:Int))=O ((D.length:Int)+(G.length:Int)))) (cond (decide (0<=O ((D.length:Int)+(G.length:Int)))&&decide (O ((D.length:Int)+(G.length:Int))*(↑8:Int)<=140737488355328)) ((M [.vC [Kd.int IntKind.u64] (List.replicate (O ((D.length:Int)+(G.length:Int))).toNat [U 0]), .vC [Kd.int IntKind.u64] D, .vC [Kd.int IntKind.u64] G,I 0]).bind λo4=>
 cond (o4.1.beq 1) ((L [.vC [Kd.int IntKind.u64] (AW (nth .vD o4.2 0))]).bind λS=>
 some [.vC [Kd.int IntKind.u64] (AW (nth .vD S 0))]) (none)) (none)) (none):=by kernel_rfl
def ZX:=Al (Hz KT)
def Q38:=Al (Nd KT ZX)
def QR:=Ql1 KT ZX Q38
theorem Zy:Ai PG (Qlz KT):=Ao rfl ⟨Zo5,trivial⟩
theorem Z0e:Ak PG (Z2g QR):=rw2 (C:=Q4b KT ZX Q38) (fl (fl fb Zy) Zy) Zy
def W1:Sk:=⟨[tf [si .u64]],[],[]⟩
def Zj3:=qd 273 W1 Qku
def C_cncref01_limbs_0:Cfg:={cf []with prom:=λb=>cond (Nat.beq b 2) ([(3,195)]) ([])}
def Zgl:Sk:=⟨[tf [si .u64],td,td,tf [se 3 1]]++dd 10,[],[(3,195,[Kd.int .u64])]⟩
def Zju:List (Ex×Sk):=[(Ex.exit 0,⟨[td,td,td,tf [se 3 1]]++dd 10,[],[(3,195,[Kd.int .u64])]⟩)]
def Qfe:Lp:=AG PG C_cncref01_limbs_0 64 2 (AH PG 273 2) Zgl Zju
def Zel (D:Lp):Cfg:=C_cncref01_limbs_0.loop 2 Zgl Zju D
def Q2z (D:Lp):Fn:=An PG (Zel D) 64 273 W1 Qku
theorem Zc9 (G:Rw) (D:Int):Qfe [.vC [Kd.int .u64] G,U D]=
 cond (decide (D>0)) (cond (((G++[[U (wrap .u64 (↑(BitVec.ofInt IntKind.u64.bits D&&&BitVec.ofInt IntKind.u64.bits 65535).toNat:Int))]]).length*8).ble 140737488355328) (some (0,[.vC [Kd.int IntKind.u64] (G++[[U (wrap .u64 (↑(BitVec.ofInt IntKind.u64.bits D&&&BitVec.ofInt IntKind.u64.bits 65535).toNat:Int))]]),U (D.fdiv (2^min (Int.toNat 16) IntKind.u64.bits))])) (none)) (some (1,[.vC [Kd.int IntKind.u64] G])):=by kernel_rfl
theorem Zky (D:Lp) (G:Int):Q2z D [U G]=
 (D [.vC [Kd.int IntKind.u64] [],U G]).bind λo1=>
 cond (o1.1.beq 1) (some [.vC [Kd.int IntKind.u64] (AW (nth .vD o1.2 0))]) (none):=by kernel_rfl
def Q9:=Al (Qfe)
def NV:=Q2z Q9
theorem Q3c:Ai PG (C_cncref01_limbs_0):=Ao rfl trivial
theorem Z4z:Ak PG (Zj3 NV):=rw2 (C:=Zel Q9) (fl fb Q3c) Q3c
def Yds:=qd 274 Zb W1
def Q3g:Fn:=An PG Qj1 64 274 Zb W1
theorem Zsf (D:Int):Q3g [I D]=
 cond (decide (D<0)) (some [U (wrap .u64 (wrap .u64 (O (0-O (D+1)))+1))]) (some [U (wrap .u64 D)]):=by kernel_rfl
def O3:=Q3g
theorem Zxq:Ai PG (Qj1):=Ao rfl trivial
theorem Z2l:Ak PG (Yds O3):=rw1 (C:=Qj1) Zxq
def Yf9:=qd 249 ZJ Qku
def Qp4 (D G I:Fn):Cfg:=cf [Z2g D,Zj3 G,Yds I]
def Qam (D G I:Fn):Fn:=An PG (Qp4 D G I) 64 249 ZJ Qku
theorem Znn (L D G:Fn) (M N:Int):Qam L D G [I M,I N]=
 (G [I M]).bind λO=>
 (D [U (Ah (nth .vD O 0))]).bind λo6=>
 (G [I N]).bind λS=>
 (D [U (Ah (nth .vD S 0))]).bind λo8=>
 (L [.vC [Kd.int IntKind.u64] (AW (nth .vD o6 0)), .vC [Kd.int IntKind.u64] (AW (nth .vD o8 0))]).bind λT=>
 some [.vC [Kd.int IntKind.u64] (AW (nth .vD T 0))]:=by kernel_rfl
def Q5:=Qam QR NV O3
theorem Z39:Ai PG (Qp4 QR NV O3):=Ao rfl ⟨Z0e,Z4z,Z2l,trivial⟩
theorem Zp2:Ak PG (Yf9 Q5):=rw1 (C:=Qp4 QR NV O3) Z39
def Ya7:=qd 247 ZJ Zb
def Q0x:Fn:=An PG Qj1 64 247 ZJ Zb
theorem Yal (D G:Int):Q0x [I D,I G]=
 cond (D==0) (some [I 0]) (cond (G==0) (some [I 0]) (cond (decide (D<0)==decide (G<0)) (some [I 1]) (some [I (-1)]))):=by kernel_rfl
def NM:=Q0x
theorem Zm5:Ai PG (Qj1):=Ao rfl trivial
theorem Zxx:Ak PG (Ya7 NM):=rw1 (C:=Qj1) Zm5
def Z3b:=qd 221 Wt Zb
def Zc (D G I:Fn):Cfg:=cf [Yhx D,Yf9 G,Ya7 I]
def Zm (D G I:Fn):Fn:=An PG (Zc D G I) 64 221 Wt Zb
theorem Zlm (U D G:Fn) (L M N S:Int):Zm U D G [I L,I M,I N,I S]=
 (G [I L,I M]).bind λT=>
 (G [I N,I S]).bind λo6=>
 cond (decide (Ah (nth .vD T 0)<Ah (nth .vD o6 0))) (some [I (-1)]) (cond (decide (Ah (nth .vD T 0)>Ah (nth .vD o6 0))) (some [I 1]) ((D [I L,I M]).bind λV=>
 (D [I N,I S]).bind λo8=>
 (U [.vC [Kd.int IntKind.u64] (AW (nth .vD V 0)), .vC [Kd.int IntKind.u64] (AW (nth .vD o8 0))]).bind λX=>
 some [I (O (Ah (nth .vD T 0)*Ah (nth .vD X 0)))])):=by kernel_rfl
def Q_:=Zm Ne Q5 NM
theorem Zws:Ai PG (Zc Ne Q5 NM):=Ao rfl ⟨Z3i,Zp2,Zxx,trivial⟩
theorem Yh3:Ak PG (Z3b Q_):=rw1 (C:=Zc Ne Q5 NM) Zws
def Yjj:=qd 246 Qhb V_
def Qbu:Cfg:={cf []with unroll:=[2]}
def Zes:Fn:=An PG Qbu 64 246 Qhb V_
theorem Zus (G L M D:Int):Zes [I G,I L,I M,I D]=
 cond (decide (G<O (0-D))) (some [B false]) (cond (decide (G>D)) (some [B false]) (cond (decide (L<O (0-D))) (some [B false]) (cond (decide (L>D)) (some [B false]) (cond (decide (M<O (0-D))) (some [B false]) (cond (decide (M>D)) (some [B false]) (some [B true])))))):=by kernel_rfl
def OW:=Zes
theorem Zk4:Ai PG (Qbu):=Ao rfl trivial
theorem Zld:Ak PG (Yjj OW):=rw1 (C:=Qbu) Zk4
def Ydw:=qd 218 Quw V_
def Qls (D:Fn):Cfg:=cf [Yjj D]
def Qax (D:Fn):Fn:=An PG (Qls D) 64 218 Quw V_
theorem Z5o (D:Fn) (G L M:Int):Qax D [I G,I L,I M]=
 (D [I G,I L,I M,I 1048576]).bind λo1=>
 some [B (bA o1 0)]:=by kernel_rfl
def Qm:=Qax OW
theorem Z47:Ai PG (Qls OW):=Ao rfl ⟨Zld,trivial⟩
theorem Zvl:Ak PG (Ydw Qm):=rw1 (C:=Qls OW) Z47
def Qh7:=qd 166 Qn1 V_
def ZQ (D G I L Fd M:Fn):Cfg:=cf [Qii D,Z3b G,XM I,Qvy L,Ydw Fd,R4 M]
def Qif (D G I L Fd M:Fn):Fn:=An PG (ZQ D G I L Fd M) 64 166 Qn1 V_
abbrev Qod (G:Bool) (D:List AC) (M N:Fn):Option (List AC):=
 cond (G) (cond (gA D 0==gA D 4) (some [B (gA D 1==gA D 5)]) (some [B false])) ((M [jA D 0,jA D 1,jA D 2,jA D 3,jA D 4,jA D 5,jA D 6,jA D 7]).bind λI=>
 cond (gA I 0 !=0) (some [B true]) ((N [jA D 0,jA D 1,jA D 2,jA D 3,jA D 4,jA D 5,jA D 6,jA D 7]).bind λL=>
 some [B (decide (gA L 0<0))]))
abbrev Mz (Fd:Fn) (x9 N S:Int) (DI:Fn) (x0 x1 x2 x3 x4 x5 x6 x7 x8 U:Int) (M:Bool) (V:Int) (X:Bool) (Y a0 a1 a2 a3:Int) (a4:Bool) (T Gf BI:Fn):Option (List AC):=
 (Fd [I x9,I N,I S]).bind λa5=>
 cond (!bA a5 0) (some [B false]) ((DI [I x0,I x1,I x2,I x3,I x4,I x5,I x6,I x7,I x8,I x9,I N,I S,I U,B M,I V,B X,I Y,I a0,I a1,I a2,I a3,B a4]).bind λD=>
 (T [jA D 0,jA D 1,jA D 2,jA D 3,jA D 0,jA D 1,jA D 2,jA D 3]).bind λG=>
 (T [jA D 4,jA D 5,jA D 6,jA D 7,jA D 4,jA D 5,jA D 6,jA D 7]).bind λL=>
 cond (decide (gA G 0<64)) (some [B false]) (cond (decide (gA L 0<64)) (some [B false]) (cond (decide (O (O (gA G 0+gA L 0)-16)>0)) ((Gf [I (O (O (gA G 0+gA L 0)-16)),I (O (O (gA G 0+gA L 0)-16)),I (O (4*gA G 0)),jA L 0]).bind λa6=>
 cond (decide (gA a6 0>0)) (some [B false]) (Qod M D BI T)) (Qod M D BI T))))
theorem Zkn (BI Gf Bs DI Fd AO:Fn) (x0 x1 x2 x3 x4 x5 x6 x7 x8 x9 G L D:Int) (M:Bool) (N:Int) (O:Bool) (S T U V X:Int) (Y:Bool):Qif BI Gf Bs DI Fd AO [I x0,I x1,I x2,I x3,I x4,I x5,I x6,I x7,I x8,I x9,I G,I L,I D,B M,I N,B O,I S,I T,I U,I V,I X,B Y]=
 (AO [I x0]).bind λa0=>
 cond (!bA a0 0) (some [B false]) ((Fd [I x2,I x3,I x4]).bind λa1=>
 cond (!bA a1 0) (some [B false]) ((Fd [I x5,I x6,I x7]).bind λa2=>
 cond (!bA a2 0) (some [B false]) (cond (x0 !=3) (some [B true]) (cond (x8 !=17) (cond (x8 !=18) (cond (x8 !=19) (some [B false]) (cond (D !=1) (cond (D != -1) (some [B false]) (Mz Fd x9 G L DI x0 x1 x2 x3 x4 x5 x6 x7 x8 D M N O S T U V X Y Bs Gf BI)) (Mz Fd x9 G L DI x0 x1 x2 x3 x4 x5 x6 x7 x8 D M N O S T U V X Y Bs Gf BI))) (cond (D !=1) (cond (D != -1) (some [B false]) (Mz Fd x9 G L DI x0 x1 x2 x3 x4 x5 x6 x7 x8 D M N O S T U V X Y Bs Gf BI)) (Mz Fd x9 G L DI x0 x1 x2 x3 x4 x5 x6 x7 x8 D M N O S T U V X Y Bs Gf BI))) (cond (D !=1) (cond (D != -1) (some [B false]) (Mz Fd x9 G L DI x0 x1 x2 x3 x4 x5 x6 x7 x8 D M N O S T U V X Y Bs Gf BI)) (Mz Fd x9 G L DI x0 x1 x2 x3 x4 x5 x6 x7 x8 D M N O S T U V X Y Bs Gf BI)))))):=by kernel_rfl
def GD:=Qif GM Q_ Ga Ku Qm CX
theorem Yi5:Ai PG (ZQ GM Q_ Ga Ku Qm CX):=Ao rfl ⟨Qsl,Yh3,Xu,Zio,Zvl,Qo,trivial⟩
theorem Qnw:Ak PG (Qh7 GD):=rw1 (C:=ZQ GM Q_ Ga Ku Qm CX) Yi5
def Qgt:Sk:=⟨[TS.tup [(false,[sa [kI,kI,kI,kI]]),(false,[sb])]],[],[]⟩
def Ycm:=qd 167 Qn1 Qgt
def Qg0 (D G I:Fn):Cfg:={cp [Zjm D,Yj9 G,Qh7 I] [224]with rowDst:=[20]}
def Qka (D G I:Fn):Fn:=An PG (Qg0 D G I) 64 167 Qn1 Qgt
theorem Zup (FL OA CK:Fn) (x0 x1 x2 x3 x4 x5 x6 x7 x8 x9 L M D:Int) (G:Bool) (N:Int) (O:Bool) (S T U V X:Int) (Y:Bool):Qka FL OA CK [I x0,I x1,I x2,I x3,I x4,I x5,I x6,I x7,I x8,I x9,I L,I M,I D,B G,I N,B O,I S,I T,I U,I V,I X,B Y]=
 cond (x0 !=3) (some [.vC [kI,kI,kI,kI] [],B false]) ((CK [I x0,I x1,I x2,I x3,I x4,I x5,I x6,I x7,I x8,I x9,I L,I M,I D,B G,I N,B O,I S,I T,I U,I V,I X,B Y]).bind λo3=>
 cond (!bA o3 0) (some [.vC [kI,kI,kI,kI] [],B false]) ((OA [I x0,I x1,I x2,I x3,I x4,I x5,I x6,I x7,I x8,I x9,I L,I M,I D,B G,I N,B O,I S,I T,I U,I V,I X,B Y]).bind λo4=>
 (FL [jA o4 0,jA o4 1,jA o4 2,jA o4 3,jA o4 4,jA o4 5,jA o4 6,jA o4 7,I D,B G,I 0]).bind λo5=>
 cond ((([[jA o4 0,jA o4 1,jA o4 2,jA o4 3]]++wA o5 0).length*32).ble 140737488355328) (some [.vC [kI,kI,kI,kI] ([[jA o4 0,jA o4 1,jA o4 2,jA o4 3]]++wA o5 0),B true]) (none))):=by kernel_rfl
def Pv:=Qka SA Qn GD
theorem Zzh:Ai PG (Qg0 SA Qn GD):=Ao rfl ⟨Zue,Z5b,Qnw,trivial⟩
theorem Zs9:Ak PG (Ycm Pv):=rw1 (C:=Qg0 SA Qn GD) Zzh
def Qf6:Sk:=⟨[TS.tup [(false,[sa kPt]),(false,[sb])]],[],[]⟩
def Z20:=qd 115 Qn1 Qf6
def Qci (D G I L M:Fn):Cfg:={cf [Q76 D,Qsc G,Qu0 I,Ycm L,Qh7 M]with prom:=λb=>cond (Nat.beq b 9) ([(9,42)]) ([])}
def Q0h:Sk:=⟨[td,tf [sd 1 0],td,td,td,td,tf [ci],tf [ci],td,tf [se 9 3]]++dd 29++[tf [sa [kI,kI,kI,kI]],tf [ci],tf [ci]]++dd 21,[(1,31,cc 13++[sb,ci,sb]++cc 5++[sb])],[(9,42,kPt)]⟩
def Q0l:List (Ex×Sk):=[(Ex.exit 0,⟨dd 9++[tf [se 9 3]]++dd 53,[],[(9,42,kPt)]⟩)]
def ND (D G I L M:Fn):Lp:=AG PG (Qci D G I L M) 64 9 (AH PG 115 9) Q0h Q0l
def Zci (D G I L M:Fn) (N:Lp):Cfg:=(Qci D G I L M).loop 9 Q0h Q0l N
def XK (D G I L M:Fn) (N:Lp):Fn:=An PG (Zci D G I L M N) 64 115 Qn1 Qf6
theorem Qxb (C4 Ci A9 Hf CK:Fn) (v0:Rw) (v1 v2:Int) (M:Rw) (v4 G v6 v7 v8 v9 v10 v11 v12 N L S T U V:Int) (X:Bool) (v20:Int) (v21:Bool) (v22 Y v24 v25 a0:Int) (v27:Bool):ND C4 Ci A9 Hf CK [.vC kPt v0,I v1,I v2, .vC [kI,kI,kI,kI] M,I v4,I G,I v6,I v7,I v8,I v9,I v10,I v11,I v12,I N,I L,I S,I T,I U,I V,B X,I v20,B v21,I v22,I Y,I v24,I v25,I a0,B v27]=
 cond (decide (G<v4)) (cond (decide (0<=G)&&decide (G<(M.length:Int))) ((C4 [I (O (v1+gA (nth [] M G.toNat) 0)),I (O (v2+gA (nth [] M G.toNat) 1)),jA (nth [] M G.toNat) 3,I L]).bind λD=>
 cond (((v0++[[jA D 0,jA D 1,jA D 2]]).length*24).ble 140737488355328) (some (0,[.vC kPt (v0++[[jA D 0,jA D 1,jA D 2]]),I v1,I v2, .vC [kI,kI,kI,kI] M,I v4,I (O (G+1)),I v6,I v7,I v8,I v9,I v10,I v11,I v12,I N,I L,I S,I T,I U,I V,B X,I v20,B v21,I v22,I Y,I v24,I v25,I a0,B v27])) (none)) (none)) (some (1,[.vC kPt v0])):=by kernel_rfl
theorem Zmc (C4 Ci A9 Hf CK:Fn) (N9:Lp) (x0 x1 x2 x3 x4 x5 x6 x7 x8 x9 D G L:Int) (M:Bool) (N:Int) (O:Bool) (S T U V X:Int) (Y:Bool):XK C4 Ci A9 Hf CK N9 [I x0,I x1,I x2,I x3,I x4,I x5,I x6,I x7,I x8,I x9,I D,I G,I L,B M,I N,B O,I S,I T,I U,I V,I X,B Y]=
 (CK [I x0,I x1,I x2,I x3,I x4,I x5,I x6,I x7,I x8,I x9,I D,I G,I L,B M,I N,B O,I S,I T,I U,I V,I X,B Y]).bind λa6=>
 cond (!bA a6 0) (some [.vC kPt [],B false]) ((Hf [I x0,I x1,I x2,I x3,I x4,I x5,I x6,I x7,I x8,I x9,I D,I G,I L,B M,I N,B O,I S,I T,I U,I V,I X,B Y]).bind λa0=>
 cond (!bA a0 1) ((A9 [I x2,I x3,I x4]).bind λa1=>
 (A9 [I x5,I x6,I x7]).bind λa2=>
 some [.vC kPt [[jA a1 0,jA a1 1,jA a1 2],[jA a2 0,jA a2 1,jA a2 2]],B true]) ((A9 [I x9,I D,I G]).bind λa3=>
 (Ci [jA a3 0,jA a3 1,jA a3 2,I x8]).bind λa4=>
 (N9 [.vC kPt [],jA a4 0,jA a4 1, .vC [kI,kI,kI,kI] (wA a0 0),I (↑(wA a0 0).length:Int),I 0,I x0,I x1,I x2,I x3,I x4,I x5,I x6,I x7,I x8,I x9,I D,I G,I L,B M,I N,B O,I S,I T,I U,I V,I X,B Y]).bind λa5=>
 cond (a5.1.beq 1) (some [.vC kPt (wA a5.2 0),B true]) (none))):=by kernel_rfl
def Q6j:=Al (ND IC Gm Ek Pv GD)
def RN:=XK IC Gm Ek Pv GD Q6j
theorem Q57:Ai PG (Qci IC Gm Ek Pv GD):=Ao rfl ⟨Q0t,Qom,Yt,Zs9,Qnw,trivial⟩
theorem Ya8:Ak PG (Z20 RN):=rw2 (C:=Zci IC Gm Ek Pv GD Q6j) (fl fb Q57) Q57
def Z9u:=qd 71 Zz Qqn
def Qtq (D G I L M:Fn):Cfg:=cf [Q36 D,Qzp G,Yee I,Zin L,Z20 M]
def Qc3 (D G I L M:Fn):Fn:=An PG (Qtq D G I L M) 64 71 Zz Qqn
theorem Zmm (Y By K4 DT Pe:Fn) (U:Rw) (L x2:Int):Qc3 Y By K4 DT Pe [.vC Ae U,I L,I x2]=
 cond (decide (0<=L)&&decide (L<(U.length:Int))) ((Pe (AF Ae (nth [] U L.toNat))).bind λG=>
 cond (decide (0<=L)&&decide (L<(U.length:Int))) ((DT (AF Ae (nth [] U L.toNat))).bind λa2=>
 cond (!bA a2 0) (some [.vC kPt (wA G 0)]) (cond (decide (0<=1)&&decide (1<=(↑(wA G 0).length:Int))) (cond (decide (0<=1)&&decide (1<=(↑(wA G 0).length:Int))) (cond (decide (x2>=0)) ((K4 [.vC Ae U,I x2,I L]).bind λD=>
 cond (decide (0<=O ((↑(wA D 0).length:Int).tdiv 2))&&decide (O ((↑(wA D 0).length:Int).tdiv 2)<=(↑(wA D 0).length:Int))) ((By [.vC Ae U,I L]).bind λa0=>
 cond (decide (gA a0 0>=0)) ((K4 [.vC Ae U,I L,jA a0 0]).bind λV=>
 cond (decide (0<=O (O ((↑(wA V 0).length:Int).tdiv 2)+1))&&decide (O (O ((↑(wA V 0).length:Int).tdiv 2)+1)<=(↑(wA V 0).length:Int))) (cond ((([]++List.drop (O ((↑(wA D 0).length:Int).tdiv 2)).toNat (wA D 0)).length*24).ble 140737488355328) (cond (decide (0<=L)&&decide (L<(U.length:Int))) ((Y (AF Ae (nth [] U L.toNat))).bind λM=>
 cond ((([]++List.drop (O ((↑(wA D 0).length:Int).tdiv 2)).toNat (wA D 0)++[[jA M 0,jA M 1,jA M 2]]).length*24).ble 140737488355328) (cond ((([]++List.drop (O ((↑(wA D 0).length:Int).tdiv 2)).toNat (wA D 0)++[[jA M 0,jA M 1,jA M 2]]++List.take (O (O ((↑(wA V 0).length:Int).tdiv 2)+1)).toNat (wA V 0)).length*24).ble 140737488355328) (some [.vC kPt ([]++List.drop (O ((↑(wA D 0).length:Int).tdiv 2)).toNat (wA D 0)++[[jA M 0,jA M 1,jA M 2]]++List.take (O (O ((↑(wA V 0).length:Int).tdiv 2)+1)).toNat (wA V 0))]) (none)) (none)) (none)) (none)) (none)) (cond ((([]++List.drop (O ((↑(wA D 0).length:Int).tdiv 2)).toNat (wA D 0)).length*24).ble 140737488355328) (cond (decide (0<=L)&&decide (L<(U.length:Int))) ((Y (AF Ae (nth [] U L.toNat))).bind λN=>
 cond ((([]++List.drop (O ((↑(wA D 0).length:Int).tdiv 2)).toNat (wA D 0)++[[jA N 0,jA N 1,jA N 2]]).length*24).ble 140737488355328) (cond ((([]++List.drop (O ((↑(wA D 0).length:Int).tdiv 2)).toNat (wA D 0)++[[jA N 0,jA N 1,jA N 2]]++List.drop (Int.toNat 1) (wA G 0)).length*24).ble 140737488355328) (some [.vC kPt ([]++List.drop (O ((↑(wA D 0).length:Int).tdiv 2)).toNat (wA D 0)++[[jA N 0,jA N 1,jA N 2]]++List.drop (Int.toNat 1) (wA G 0))]) (none)) (none)) (none)) (none))) (none)) ((By [.vC Ae U,I L]).bind λa1=>
 cond (decide (gA a1 0>=0)) ((K4 [.vC Ae U,I L,jA a1 0]).bind λX=>
 cond (decide (0<=O (O ((↑(wA X 0).length:Int).tdiv 2)+1))&&decide (O (O ((↑(wA X 0).length:Int).tdiv 2)+1)<=(↑(wA X 0).length:Int))) (cond ((([]++List.take (Int.toNat 1) (wA G 0)).length*24).ble 140737488355328) (cond (decide (0<=L)&&decide (L<(U.length:Int))) ((Y (AF Ae (nth [] U L.toNat))).bind λS=>
 cond ((([]++List.take (Int.toNat 1) (wA G 0)++[[jA S 0,jA S 1,jA S 2]]).length*24).ble 140737488355328) (cond ((([]++List.take (Int.toNat 1) (wA G 0)++[[jA S 0,jA S 1,jA S 2]]++List.take (O (O ((↑(wA X 0).length:Int).tdiv 2)+1)).toNat (wA X 0)).length*24).ble 140737488355328) (some [.vC kPt ([]++List.take (Int.toNat 1) (wA G 0)++[[jA S 0,jA S 1,jA S 2]]++List.take (O (O ((↑(wA X 0).length:Int).tdiv 2)+1)).toNat (wA X 0))]) (none)) (none)) (none)) (none)) (none)) (cond ((([]++List.take (Int.toNat 1) (wA G 0)).length*24).ble 140737488355328) (cond (decide (0<=L)&&decide (L<(U.length:Int))) ((Y (AF Ae (nth [] U L.toNat))).bind λT=>
 cond ((([]++List.take (Int.toNat 1) (wA G 0)++[[jA T 0,jA T 1,jA T 2]]).length*24).ble 140737488355328) (cond ((([]++List.take (Int.toNat 1) (wA G 0)++[[jA T 0,jA T 1,jA T 2]]++List.drop (Int.toNat 1) (wA G 0)).length*24).ble 140737488355328) (some [.vC kPt ([]++List.take (Int.toNat 1) (wA G 0)++[[jA T 0,jA T 1,jA T 2]]++List.drop (Int.toNat 1) (wA G 0))]) (none)) (none)) (none)) (none)))) (none)) (none))) (none)) (none):=by kernel_rfl
def IB:=Qc3 JM F8 Qk Iz RN
theorem Yjh:Ai PG (Qtq JM F8 Qk Iz RN):=Ao rfl ⟨Qzw,Q7l,Ztf,Qyj,Ya8,trivial⟩
theorem Yjl:Ak PG (Z9u IB):=rw1 (C:=Qtq JM F8 Qk Iz RN) Yjh
def Qre:Sk:=⟨[TS.v true (cc 13++[sb,ci,sb]++cc 5++[sb]),tf [ci]],[],[]⟩
def Z9s:=qd 69 Qre Zb
def Qer (D:Fn):Cfg:=cf [Q75 D]
def Qha (D:Fn):Fn:=An PG (Qer D) 64 69 Qre Zb
theorem Zg0 (Dk:Fn) (x0 x1 x2 x3 x4 x5 x6 x7 x8 x9 M N S:Int) (T:Bool) (D:Int) (G:Bool) (U V X Y a0:Int) (a1:Bool) (L:Int):Qha Dk [I x0,I x1,I x2,I x3,I x4,I x5,I x6,I x7,I x8,I x9,I M,I N,I S,B T,I D,B G,I U,I V,I X,I Y,I a0,B a1,I L]=
 cond (x0==1) (some [I 0]) (cond (G) ((Dk [I (O (O (mn (O (D*mx L 1)) 60000000*16)*256)),I 60000]).bind λo2=>
 some [I (mx (gA o2 0) 1)]) ((Dk [I (O (O (mn D 60000000*16)*256)),I 60000]).bind λo3=>
 some [I (mx (gA o3 0) 1)])):=by kernel_rfl
def GR:=Qha F2
theorem Zx6:Ai PG (Qer F2):=Ao rfl ⟨Qyy,trivial⟩
theorem Z6a:Ak PG (Z9s GR):=rw1 (C:=Qer F2) Zx6
def Zpu:=qd 67 Qn1 Zb
def Zi6:Fn:=An PG Qj1 64 67 Qn1 Zb
theorem Yad (D x1 x2 x3 x4 x5 x6 x7 x8 x9 G L M:Int) (N:Bool) (O:Int) (S:Bool) (T U V X Y:Int) (a0:Bool):Zi6 [I D,I x1,I x2,I x3,I x4,I x5,I x6,I x7,I x8,I x9,I G,I L,I M,B N,I O,B S,I T,I U,I V,I X,I Y,B a0]=
 cond (D==10) (some [I 5]) (cond (D==13) (some [I 4]) (some [I 3])):=by kernel_rfl
def HY:=Zi6
theorem Z4e:Ai PG (Qj1):=Ao rfl trivial
theorem Zzo:Ak PG (Zpu HY):=rw1 (C:=Qj1) Z4e
def Zl8:=qd 113 Qn1 V_
def Zo (D G:Fn):Cfg:=cf [Qh7 D,R4 G]
def Qi3 (D G:Fn):Fn:=An PG (Zo D G) 64 113 Qn1 V_
theorem Zz9 (CK AO:Fn) (N x1 x2 x3 x4 x5 x6 x7 x8 x9 O S T:Int) (U:Bool) (G:Int) (V:Bool) (X Y D L M:Int) (a0:Bool):Qi3 CK AO [I N,I x1,I x2,I x3,I x4,I x5,I x6,I x7,I x8,I x9,I O,I S,I T,B U,I G,B V,I X,I Y,I D,I L,I M,B a0]=
 cond (decide (N<1)) (some [B true]) (cond (decide (N>14)) (some [B true]) ((AO [I N]).bind λo2=>
 cond (bA o2 0) ((CK [I N,I x1,I x2,I x3,I x4,I x5,I x6,I x7,I x8,I x9,I O,I S,I T,B U,I G,B V,I X,I Y,I D,I L,I M,B a0]).bind λo3=>
 cond (!bA o3 0) (some [B true]) (cond (N !=1) (cond (decide (G<1)) (some [B true]) (cond (decide (G>60000000)) (some [B true]) (cond (decide (D<0)) (some [B true]) (some [B (decide (D>1000))])))) (cond (decide (D<0)) (some [B true]) (some [B (decide (D>1000))])))) (cond (N==8) (cond (decide (L<3)) (some [B true]) (cond (decide (L>5)) (some [B true]) (cond (decide (M<0)) (some [B true]) (some [B (decide (M>30000))])))) (some [B false])))):=by kernel_rfl
def LV:=Qi3 GD CX
theorem Z1n:Ai PG (Zo GD CX):=Ao rfl ⟨Qnw,Qo,trivial⟩
theorem Zza:Ak PG (Zl8 LV):=rw1 (C:=Zo GD CX) Z1n
def Qc2:Sk:=⟨[tf [sa Ae]],[],[]⟩
def Zyw:=qd 65 Qc2 Zb
def Qas (D G:Fn):Cfg:=cf [R4 D,Zl8 G]
def Zf2:Sk:=⟨[tf [sa Ae],td,td,tf [ci],td,td,td,td,td,tf [sa Ae],tf [ci],tf [ci]]++dd 24,[],[]⟩
def Zh1:List (Ex×Sk):=[(Ex.ret,⟨[td,td,tf [ci]]++dd 33,[],[]⟩),(Ex.exit 0,⟨[td]++dd 35,[],[]⟩)]
def Ky (D G:Fn):Lp:=AG PG (Qas D G) 64 5 (AH PG 65 5) Zf2 Zh1
def Q5n (D G:Fn) (I:Lp):Cfg:=(Qas D G).loop 5 Zf2 Zh1 I
def Z7 (D G:Fn) (I:Lp):Fn:=An PG (Q5n D G I) 64 65 Qc2 Zb
theorem Qxq (S T:Fn) (L:Rw) (M:Int) (G:Rw) (N D:Int):Ky S T [.vC Ae L,I M, .vC Ae G,I N,I D]=
 cond (decide (D<N)) (cond (decide (0<=D)&&decide (D<(G.length:Int))) ((T (AF Ae (nth [] G D.toNat))).bind λo3=>
 cond (bA o3 0) (some (1,[I 1])) ((S [jA (nth [] G D.toNat) 0]).bind λo4=>
 cond (!bA o4 0) (some (0,[.vC Ae L,I M, .vC Ae G,I N,I (O (D+1))])) (cond (decide (M>=0)) (cond (decide (0<=M)&&decide (M<(L.length:Int))) (cond (!(gA (nth [] L M.toNat) 5==gA (nth [] G D.toNat) 2&&(gA (nth [] L M.toNat) 6==gA (nth [] G D.toNat) 3&&(gA (nth [] L M.toNat) 7==gA (nth [] G D.toNat) 4&&true)))) (some (1,[I 13])) (some (0,[.vC Ae L,I D, .vC Ae G,I N,I (O (D+1))]))) (none)) (some (0,[.vC Ae L,I D, .vC Ae G,I N,I (O (D+1))]))))) (none)) (some (2,[])):=by kernel_rfl
theorem Zs2 (M N:Fn) (L:Lp) (D:Rw):Z7 M N L [.vC Ae D]=
 cond (decide ((D.length:Int)>20000)) (some [I 10]) ((L [.vC Ae D,I (-1), .vC Ae D,I (D.length:Int),I 0]).bind λG=>
 cond (G.1.beq 1) (some [jA G.2 0]) (cond (G.1.beq 2) (some [I 0]) (none))):=by kernel_rfl
def Q2s:=Al (Ky CX LV)
def H6:=Z7 CX LV Q2s
theorem Q17:Ai PG (Qas CX LV):=Ao rfl ⟨Qo,Zza,trivial⟩
theorem Z6i:Ak PG (Zyw H6):=rw2 (C:=Q5n CX LV Q2s) (fl fb Q17) Q17
def Qh1:Sk:=⟨[TS.tup [(true,[ci,ci,ci,sa Ag,sa kPt]),(false,[ci])]],[],[]⟩
def Zo9:=qd 28 Qc2 Qh1
def XO (D G I L M N O S T U:Fn):Cfg:={spec:=FX [Zw7 D,Qzp G,Q3s I,Z9u L,Q5e M,Z9s N,Qu0 O,Zpu S,R4 T,Zyw U],eqOk:=Jc,ownOff:=Q5y,ownBut:=[2]}
def Q29:Sk:=⟨[tf [sa Ae],td,tf [sd 2 0],td,td,tf [sd 5 0],tf [sd 6 0],tf [ci],tf [ci],td,tf [sb],tf [ci],td,tf [sd 13 0]]++dd 9++[tf [sa Ae],tf [ci],tf [ci]]++dd 57++[tf [sa kPt],tf [ci],tf [ci]]++dd 47,[(2,46,[ci,ci,ci,sa Ag,sa kPt]),(5,46,[ci,ci,ci,se 1005003 7,se 1005004 3]),(6,42,[ci,ci,ci]),(13,111,cc 7)],[(1005003,111,Ag),(1005004,130,kPt)]⟩
def Q3k:List (Ex×Sk):=[(Ex.ret,⟨[td,td,tf [sd 2 0],tf [ci]]++dd 129,[(2,46,[ci,ci,ci,CS.nil,CS.nil])],[]⟩),(Ex.exit 2,⟨[tf [sa Ae],td,tf [sd 2 0],td,td,tf [sd 5 0],tf [sd 6 0],tf [ci],tf [ci],td,tf [sb],tf [ci]]++dd 11++[tf [sa Ae],tf [ci],tf [ci]]++dd 107,[(2,46,[ci,ci,ci,sa Ag,sa kPt]),(5,46,[ci,ci,ci,se 1005003 7,se 1005004 3]),(6,42,[ci,ci,ci])],[(1005003,111,Ag),(1005004,130,kPt)]⟩)]
def RF (D G I L M N O S T U:Fn):Lp:=AG PG (XO D G I L M N O S T U) 64 19 (AH PG 28 19) Q29 Q3k
def Qv2 (G I L M N O S T U V:Fn) (D:Lp):Cfg:=(XO G I L M N O S T U V).loop 19 Q29 Q3k D
def Q23:Sk:=⟨[tf [sa Ae],td,tf [sd 2 0],td,td,tf [sd 5 0],tf [sd 6 0],tf [ci],tf [ci],tf [ci],tf [sb]]++dd 12++[tf [sa Ae],tf [ci],tf [ci]]++dd 107,[(2,46,[ci,ci,ci,sa Ag,sa kPt]),(5,46,[ci,ci,ci,se 1005003 7,se 1005004 3]),(6,42,[ci,ci,ci])],[(1005003,111,Ag),(1005004,130,kPt)]⟩
def Qv8:List (Ex×Sk):=[(Ex.ret,⟨[td,td,tf [sd 2 0],tf [ci]]++dd 129,[(2,46,[ci,ci,ci,CS.nil,CS.nil])],[]⟩),(Ex.exit 0,⟨[td,td,tf [sd 2 0],td,td,tf [sd 5 0]]++dd 127,[(2,46,[ci,ci,ci,sa Ag,sa kPt]),(5,46,[ci,ci,ci,se 1005003 7,se 1005004 3])],[(1005003,111,Ag),(1005004,130,kPt)]⟩)]
def P8 (G I L M N O S T U V:Fn) (D:Lp):Lp:=AG PG (Qv2 G I L M N O S T U V D) 64 7 (AH PG 28 7) Q23 Qv8
def Q8l (G I L M N O S T U V:Fn) (D X:Lp):Cfg:=(Qv2 G I L M N O S T U V D).loop 7 Q23 Qv8 X
def Xe (G I L M N O S T U V:Fn) (D X:Lp):Fn:=An PG (Q8l G I L M N O S T U V D X) 64 28 Qc2 Qh1
theorem XL (BQ By CD Cf Bo CG A9 Dm AO Ee:Fn) (Y v1 v2:Rw) (v3 v4:Int) (v5:Bool) (v6:Int) (v7:Rw) (v8 v9:Int) (v10:Rw) (v11 v12 M N S:Int) (T U:Rw) (V X v20 v21 v22 L v24 v25 a0 v27 v28 G v30:Int):RF BQ By CD Cf Bo CG A9 Dm AO Ee [.vC Ag Y, .vC kPt v1, .vC Ae v2,I v3,I v4,B v5,I v6, .vC Ae v7,I v8,I v9, .vC kPt v10,I v11,I v12,I M,I N,I S, .vC Ag T, .vC kPt U,I V,I X,I v20,I v21,I v22,I L,I v24,I v25,I a0,I v27,I v28,I G,I v30]=
 cond (decide (v12<v11)) (cond (decide (0<=v12)&&decide (v12<(v10.length:Int))) (cond (gA (nth [] v10 v12.toNat) 0==v21&&(gA (nth [] v10 v12.toNat) 1==v22&&(gA (nth [] v10 v12.toNat) 2==L&&true))) (some (0,[.vC Ag Y, .vC kPt v1, .vC Ae v2,I v3,I v4,B v5,I v6, .vC Ae v7,I v8,I v9, .vC kPt v10,I v11,I (O (v12+1)),I M,I N,I S, .vC Ag T, .vC kPt U,I V,I X,I v20,I v21,I v22,I L,I v24,I v25,I a0,I v27,I v28,I G,I v30])) ((CD [I v21,I v22,I L,jA (nth [] v10 v12.toNat) 0,jA (nth [] v10 v12.toNat) 1,jA (nth [] v10 v12.toNat) 2]).bind λD=>
 cond (((Y++[[jA (nth [] v10 v12.toNat) 0,jA (nth [] v10 v12.toNat) 1,jA (nth [] v10 v12.toNat) 2,jA D 0,I v28,I G,I v30]]).length*56).ble 140737488355328) (cond (decide ((↑(Y++[[jA (nth [] v10 v12.toNat) 0,jA (nth [] v10 v12.toNat) 1,jA (nth [] v10 v12.toNat) 2,jA D 0,I v28,I G,I v30]]).length:Int)>1048576)) (some (1,[I 10,I 0,I 0,I 0])) (some (0,[.vC Ag (Y++[[jA (nth [] v10 v12.toNat) 0,jA (nth [] v10 v12.toNat) 1,jA (nth [] v10 v12.toNat) 2,jA D 0,I v28,I G,I v30]]), .vC kPt v1, .vC Ae v2,I (O (v3+gA D 0)),I v4,B v5,I v6, .vC Ae v7,I v8,I v9, .vC kPt v10,I v11,I (O (v12+1)),I M,I N,I S, .vC Ag T, .vC kPt U,I V,I X,I v20,jA (nth [] v10 v12.toNat) 0,jA (nth [] v10 v12.toNat) 1,jA (nth [] v10 v12.toNat) 2,jA (nth [] v10 v12.toNat) 0,jA (nth [] v10 v12.toNat) 1,jA (nth [] v10 v12.toNat) 2,jA D 0,I v28,I G,I v30]))) (none))) (none)) (some (2,[.vC Ag Y, .vC kPt v1, .vC Ae v2,I v3,I v4,B v5,I v6, .vC Ae v7,I v8,I v9,I M,I N,I S, .vC Ag T, .vC kPt U,I V,I X,I v20,I v21,I v22,I L])):=by kernel_rfl
abbrev Qq3 (M:Fn) (D:Nat×List AC) (L:AC):Option (Nat×List AC):=
 (M [.vC Ae (wA D.2 2),jA D.2 6]).bind λG=>
 cond (((wA D.2 1++[[jA D.2 3,jA G 0,jA D.2 6]]).length*24).ble 140737488355328) (some (0,[.vC Ag (wA D.2 0), .vC kPt (wA D.2 1++[[jA D.2 3,jA G 0,jA D.2 6]]), .vC Ae (wA D.2 2),jA D.2 3,jA D.2 4,L,B (bA D.2 5), .vC Ae (wA D.2 7),jA D.2 8,I (O (gA D.2 9+1)),jA D.2 10,jA D.2 11,jA D.2 12, .vC Ag (wA D.2 13), .vC kPt (wA D.2 14),jA D.2 15,jA D.2 16,jA D.2 17,jA D.2 18,jA D.2 19,jA D.2 20])) (none)
abbrev Qp3 (Cf:Fn) (v2:Rw) (v9 v5:Int) (a1:Lp) (v0 v1:Rw) (v3:Int) (L M:AC) (v7:Rw) (v8 v10 v11 v12:Int) (a2 a3:Rw) (N O S T U V:AC) (X:List AC) (By BQ:Fn) (Y:AC):Option (Nat×List AC):=
 (Cf [.vC Ae v2,I v9,I v5]).bind λG=>
 (a1 [.vC Ag v0, .vC kPt v1, .vC Ae v2,I v3,L,M,I v9, .vC Ae v7,I v8,I v9, .vC kPt (wA G 0),I (↑(wA G 0).length:Int),I 0,I v10,I v11,I v12, .vC Ag a2, .vC kPt a3,N,O,S,T,U,V,I 0,I 0,I 0,I 0,I v9,jA X 0,Y]).bind λD=>
 cond (D.1.beq 1) (some (1,[jA D.2 0,jA D.2 1,jA D.2 2,jA D.2 3])) (cond (D.1.beq 2) ((By [.vC Ae (wA D.2 2),jA D.2 6]).bind λa0=>
 cond (decide (gA a0 0>=0)) (Qq3 BQ D (jA D.2 6)) (Qq3 BQ D (I (-1)))) (none))
abbrev Qh2 (CG:Fn) (X:Rw) (Y:Int) (Bo Cf:Fn) (v2:Rw) (v5:Int) (a0:Lp) (v0 v1:Rw) (v3 v8 v10 v11 v12:Int) (a1 a2:Rw) (By BQ:Fn) (D G L M N S T U:AC):Option (Nat×List AC):=
 (CG (AF Ae (nth [] X Y.toNat)++[D])).bind λV=>
 (Bo (AF Ae (nth [] X Y.toNat))).bind λa3=>
 cond (bA a3 0) (Qp3 Cf v2 Y v5 a0 v0 v1 v3 D G X v8 v10 v11 v12 a1 a2 L M N S T U V By BQ (I (mn (O (gA (nth [] X Y.toNat) 14*16)) 16777216))) (Qp3 Cf v2 Y v5 a0 v0 v1 v3 D G X v8 v10 v11 v12 a1 a2 L M N S T U V By BQ (I 0))
abbrev RW (AO:Fn) (G:Rw) (D:Int) (Dm:Fn) (v1:Rw) (V:Int) (v0 v2:Rw) (v5:Int) (v6:Bool) (v8 v10 v11 v12:Int) (T U:Rw) (X Y a0 a1 a2 v20:Int) (A9 CG Bo Cf:Fn) (a3:Lp) (By BQ:Fn) (a4 N:AC):Option (Nat×List AC):=
 (AO [jA (nth [] G D.toNat) 0]).bind λa5=>
 cond (!bA a5 0) ((Dm (AF Ae (nth [] G D.toNat))).bind λS=>
 cond (((v1++[[I V,jA S 0,I D]]).length*24).ble 140737488355328) (some (0,[.vC Ag v0, .vC kPt (v1++[[I V,jA S 0,I D]]), .vC Ae v2,I V,a4,I v5,B v6, .vC Ae G,I v8,I (O (D+1)),I v10,I v11,I v12, .vC Ag T, .vC kPt U,I X,I Y,I a0,I a1,I a2,I v20])) (none)) (cond (!v6) ((A9 [jA (nth [] G D.toNat) 2,jA (nth [] G D.toNat) 3,jA (nth [] G D.toNat) 4]).bind λL=>
 (A9 [jA (nth [] G D.toNat) 2,jA (nth [] G D.toNat) 3,jA (nth [] G D.toNat) 4]).bind λM=>
 Qh2 CG G D Bo Cf v2 v5 a3 v0 v1 V v8 v10 v11 v12 T U By BQ N (B true) (jA L 0) (jA L 1) (jA L 2) (jA M 0) (jA M 1) (jA M 2)) (Qh2 CG G D Bo Cf v2 v5 a3 v0 v1 V v8 v10 v11 v12 T U By BQ N (B v6) (I X) (I Y) (I a0) (I a1) (I a2) (I v20)))
theorem Zhi (BQ By CD Cf Bo CG A9 Dm AO Ee:Fn) (T:Lp) (X Y v2:Rw) (v3 v4 v5:Int) (v6:Bool) (G:Rw) (v8 D v10 v11 v12:Int) (L M:Rw) (N O S U V v20:Int):P8 BQ By CD Cf Bo CG A9 Dm AO Ee T [.vC Ag X, .vC kPt Y, .vC Ae v2,I v3,I v4,I v5,B v6, .vC Ae G,I v8,I D,I v10,I v11,I v12, .vC Ag L, .vC kPt M,I N,I O,I S,I U,I V,I v20]=
 cond (decide (D<v8)) (cond (decide (0<=D)&&decide (D<(G.length:Int))) (cond (gA (nth [] G D.toNat) 0==8) (cond (gA (nth [] G D.toNat) 19==3) (RW AO G D Dm Y v3 X v2 v5 v6 v8 v10 v11 v12 L M N O S U V v20 A9 CG Bo Cf T By BQ (jA (nth [] G D.toNat) 20) (jA (nth [] G D.toNat) 20)) (cond (gA (nth [] G D.toNat) 19==4) (RW AO G D Dm Y v3 X v2 v5 v6 v8 v10 v11 v12 L M N O S U V v20 A9 CG Bo Cf T By BQ (jA (nth [] G D.toNat) 20) (jA (nth [] G D.toNat) 20)) (RW AO G D Dm Y v3 X v2 v5 v6 v8 v10 v11 v12 L M N O S U V v20 A9 CG Bo Cf T By BQ (I v4) (I v4)))) (RW AO G D Dm Y v3 X v2 v5 v6 v8 v10 v11 v12 L M N O S U V v20 A9 CG Bo Cf T By BQ (I v4) (I v4))) (none)) (some (2,[.vC Ag X, .vC kPt Y,I v10,I v11,I v12, .vC Ag L, .vC kPt M,I N,I O,I S])):=by kernel_rfl
theorem Zns (S T U V X Y A9 Dm AO N:Fn) (M O:Lp) (L:Rw):Xe S T U V X Y A9 Dm AO N M O [.vC Ae L]=
 (N [.vC Ae L]).bind λG=>
 cond (gA G 0 !=0) (some [I 0,I 0,I 0, .vC Ag [], .vC kPt [],jA G 0]) ((O [.vC Ag [], .vC kPt [], .vC Ae L,I 0,I 0,I (-1),B false, .vC Ae L,I (L.length:Int),I 0,I 0,I 0,I 0, .vC Ag [], .vC kPt [],I 0,I 0,I 0,I 0,I 0,I 0]).bind λD=>
 cond (D.1.beq 1) (some [jA D.2 1,jA D.2 2,jA D.2 3, .vC Ag [], .vC kPt [],jA D.2 0]) (cond (D.1.beq 2) (some [jA D.2 7,jA D.2 8,jA D.2 9, .vC Ag (wA D.2 0), .vC kPt (wA D.2 1),I 0]) (none))):=by kernel_rfl
def P9:=Al (RF Iw F8 Gh IB FC GR Ek HY CX H6)
def Q1q:=Al (P8 Iw F8 Gh IB FC GR Ek HY CX H6 P9)
def QF:=Xe Iw F8 Gh IB FC GR Ek HY CX H6 P9 Q1q
theorem Qmx:Ai PG (XO Iw F8 Gh IB FC GR Ek HY CX H6):=Ao rfl ⟨Yft,Q7l,Qz1,Yjl,Qxx,Z6a,Yt,Zzo,Qo,Z6i,trivial⟩
theorem Yg7:Ak PG (Zo9 QF):=rw2 (C:=Q8l Iw F8 Gh IB FC GR Ek HY CX H6 P9 Q1q) (fl (fl fb Qmx) Qmx) Qmx
def Qb9:Sk:=⟨[TS.v true (cc 9++[sa Aa]),tf [ci]],[],[]⟩
def Zfe:=qd 60 Qb9 Zb
def Zao:Fn:=An PG Qj1 64 60 Qb9 Zb
theorem Zk3 (L M N S T U G V X:Int) (Y:Rw) (D:Int):Zao [I L,I M,I N,I S,I T,I U,I G,I V,I X, .vC Aa Y,I D]=
 cond (D== -1) (some [I (O (0-G))]) (some [I 0]):=by kernel_rfl
def JQ:=Zao
theorem Zlk:Ai PG (Qj1):=Ao rfl trivial
theorem Q7u:Ak PG (Zfe JQ):=rw1 (C:=Qj1) Zlk
def Qe8:Sk:=⟨[TS.v true (cc 9++[sa Aa]),TS.v true (cc 10),tf [ci],tf [ci]],[],[]⟩
def Yjd:=qd 61 Qe8 Zb
def XS (D:Fn):Cfg:=cf [Zfe D]
def QN (D:Fn):Fn:=An PG (XS D) 64 61 Qe8 Zb
abbrev UE (D G M:Int) (L:Bool):Option (List AC):=
 cond (L) (some [I (O (0-mn (O (D-G)) M))]) (some [I (O (mn (O (D-G)) M-M))])
abbrev WX (D:Int) (G:Fn) (L M N O S T U V X:Int) (Y:Rw) (a0 a1 a2:Int):Option (List AC):=
 cond (decide (D=(↑0:Int))) ((G [I L,I M,I N,I O,I S,I T,I U,I V,I X, .vC Aa Y,I a0]).bind λa3=>
 some [jA a3 0]) (cond (decide (D=(↑(0+1):Int))) ((G [I L,I M,I N,I O,I S,I T,I U,I V,I X, .vC Aa Y,I a1]).bind λa4=>
 some [jA a4 0]) (cond (decide (D=(↑(0+1+1):Int))) ((G [I L,I M,I N,I O,I S,I T,I U,I V,I X, .vC Aa Y,I a2]).bind λa5=>
 some [jA a5 0]) (none)))
abbrev VF (D:Int) (T:Fn) (U V X Y x4 x5 S x7 x8:Int) (x9:Rw) (L M N G I:Int) (O:Bool):Option (List AC):=
 cond (O) (WX D T U V X Y x4 x5 S x7 x8 x9 L M N) (cond (decide (D=(↑0:Int))) (UE G I S (L== -1)) (cond (decide (D=(↑(0+1):Int))) (UE G I S (M== -1)) (cond (decide (D=(↑(0+1+1):Int))) (UE G I S (N== -1)) (none))))
abbrev Ud (D:Int) (U:Fn) (V X Y x3 x4 x5 x6 x7 x8:Int) (x9:Rw) (G I L M N:Int) (O S T:Bool):Option (List AC):=
 cond (decide (D=(↑0:Int))) (VF D U V X Y x3 x4 x5 x6 x7 x8 x9 G I L M N O) (cond (decide (D=(↑(0+1):Int))) (VF D U V X Y x3 x4 x5 x6 x7 x8 x9 G I L M N S) (cond (decide (D=(↑(0+1+1):Int))) (VF D U V X Y x3 x4 x5 x6 x7 x8 x9 G I L M N T) (none)))
theorem Qnu (V:Fn) (X Y x2 x3 x4 x5 x6 x7 x8:Int) (x9:Rw) (N a1 a2 a0 O S T D G L M U:Int):QN V [I X,I Y,I x2,I x3,I x4,I x5,I x6,I x7,I x8, .vC Aa x9,I N,I a1,I a2,I a0,I O,I S,I T,I D,I G,I L,I M,I U]=
 cond (a0 !=0) (WX M V X Y x2 x3 x4 x5 x6 x7 x8 x9 D G L) (cond (decide (M=(↑0:Int))) (Ud M V X Y x2 x3 x4 x5 x6 x7 x8 x9 D G L U N (O==D) (O==G) (O==L)) (cond (decide (M=(↑(0+1):Int))) (Ud M V X Y x2 x3 x4 x5 x6 x7 x8 x9 D G L U N (S==D) (S==G) (S==L)) (cond (decide (M=(↑(0+1+1):Int))) (Ud M V X Y x2 x3 x4 x5 x6 x7 x8 x9 D G L U N (T==D) (T==G) (T==L)) (none)))):=by kernel_rfl
def ST:=QN JQ
theorem Zom:Ai PG (XS JQ):=Ao rfl ⟨Q7u,trivial⟩
theorem Z45:Ak PG (Yjd ST):=rw1 (C:=XS JQ) Zom
def Ybz:=qd 111 Qb9 Zb
def Zc0:Fn:=An PG Qj1 64 111 Qb9 Zb
theorem Zny (D L M N S T U V X:Int) (Y:Rw) (G:Int):Zc0 [I D,I L,I M,I N,I S,I T,I U,I V,I X, .vC Aa Y,I G]=
 cond (decide (D<=0)) (some [I 0]) (cond (decide (O (2*D)<=0)) (some [I 0]) (cond (decide (O (2*D)=0)) (none) (cond (decide (O (2*D)=0)) (none) (cond (decide ((O (O (2*G)+D)).tmod (O (2*D))<0)) (some [I (O (O ((O (O (2*G)+D)).tdiv (O (2*D)))-1))]) (some [I (O ((O (O (2*G)+D)).tdiv (O (2*D))))]))))):=by kernel_rfl
def KG:=Zc0
theorem Yi7:Ai PG (Qj1):=Ao rfl trivial
theorem Zkt:Ak PG (Ybz KG):=rw1 (C:=Qj1) Yi7
def Z1:Sk:=⟨[tf [si .u64],tf [sb]],[],[]⟩
def Y8:Sk:=⟨[TS.tup [(false,[ci]),(false,[sb])]],[],[]⟩
def Xh:=qd 130 Z1 Y8
def Zai:Fn:=An PG Qj1 64 130 Z1 Y8
theorem Zht (D:Int) (G:Bool):Zai [U D,B G]=
 cond (G) (cond (decide (D<=9223372036854775808)) (some [I (O (wrap .u64 (0-D))),B true]) (cond (!G) (cond (decide (D<9223372036854775808)) (some [I (O D),B true]) (some [I 0,B false])) (some [I 0,B false]))) (cond (!G) (cond (decide (D<9223372036854775808)) (some [I (O D),B true]) (some [I 0,B false])) (some [I 0,B false])):=by kernel_rfl
def Fl:=Zai
theorem Z3r:Ai PG (Qj1):=Ao rfl trivial
theorem Qnj:Ak PG (Xh Fl):=rw1 (C:=Qj1) Z3r
def Qhe:Sk:=⟨[tf [ci],tf [ci],tf [sb],tf [sb]],[],[]⟩
def Q95:=qd 129 Qhe V_
def Zda:Fn:=An PG Qj1 64 129 Qhe V_
theorem Z1b (G L:Int) (M D:Bool):Zda [I G,I L,B M,B D]=
 cond (G==0) (cond (M) (some [B D]) (some [B false])) (cond (G==1) (cond (M) (some [B !D]) (some [B false])) (cond (decide (L>0)) (some [B true]) (cond (L==0) (some [B !D]) (some [B false])))):=by kernel_rfl
def IM:=Zda
theorem Yj6:Ai PG (Qj1):=Ao rfl trivial
theorem Zjh:Ak PG (Q95 IM):=rw1 (C:=Qj1) Yj6
def X7:=qd 128 ZJ Zb
def Zbe:Fn:=An PG Qj1 64 128 ZJ Zb
theorem Zou (D G:Int):Zbe [I D,I G]=
 cond (D==0) (some [I 0]) (cond (G==0) (some [I 0]) (cond (decide (D<0)==decide (G<0)) (some [I 1]) (some [I (-1)]))):=by kernel_rfl
def GA:=Zbe
theorem Zlz:Ai PG (Qj1):=Ao rfl trivial
theorem Qf7:Ak PG (X7 GA):=rw1 (C:=Qj1) Zlz
def W6:Sk:=⟨[tf [si .u64],tf [si .u64],tf [si .u64]],[],[]⟩
def Zgy:=qd 127 W6 Qp9
def YG (D:Fn):Cfg:=cf [(172,Ac Zgs Zfp D)]
def Qxe:Sk:=⟨[td,td,tf [si .u64],td,td,td,td,td,tf [si .u64],tf [si .u64],tf [si .u64],tf [si .u64],td,tf [si .u64],tf [si .u64],tf [si .u64],tf [si .u64]]++dd 118,[],[]⟩
def Zcb:List (Ex×Sk):=[(Ex.exit 0,⟨[td,td,tf [si .u64],td,td,td,td,td,tf [si .u64],tf [si .u64],tf [si .u64],tf [si .u64],td,tf [si .u64],tf [si .u64],tf [si .u64]]++dd 119,[],[]⟩)]
def L4 (D:Fn):Lp:=AG PG (YG D) 64 17 (AH PG 127 17) Qxe Zcb
def Zac (G:Fn) (D:Lp):Cfg:=(YG G).loop 17 Qxe Zcb D
def Q0r:Sk:=⟨[td,td,tf [si .u64],td,td,td,td,td,tf [si .u64],tf [si .u64],tf [si .u64],td,td,td,tf [si .u64],tf [si .u64],tf [si .u64],tf [si .u64],tf [si .u64]]++dd 116,[],[]⟩
def Zae:List (Ex×Sk):=[(Ex.exit 2,⟨[td,td,tf [si .u64],td,td,td,td,td,tf [si .u64],td,td,td,td,td,tf [si .u64],tf [si .u64],td,tf [si .u64],tf [si .u64]]++dd 116,[],[]⟩)]
def Qb (G:Fn) (D:Lp):Lp:=AG PG (Zac G D) 64 24 (AH PG 127 24) Q0r Zae
def Q5u (I:Fn) (D G:Lp):Cfg:=(Zac I D).loop 24 Q0r Zae G
def Qgb (I:Fn) (D G:Lp):Fn:=An PG (Q5u I D G) 64 127 W6 Qp9
theorem Zwy (DQ:Fn) (M N D I O L S G T:Int):L4 DQ [U M,U N,U D,U I,U O,U L,U S,U G,U T]=
 cond (decide (G>=4294967296)) (cond (decide (wrap .u64 (T+D)>=4294967296)) (some (1,[U M,U N,U D,U I,U O,U L,U S,U (wrap .u64 (G-1))])) (some (0,[U M,U N,U D,U I,U O,U L,U S,U (wrap .u64 (G-1)),U (wrap .u64 (T+D))]))) (cond (decide (wrap .u64 (G*I)>wrap .u64 (wrap .u64 (4294967296*T)+L))) (cond (decide (wrap .u64 (T+D)>=4294967296)) (some (1,[U M,U N,U D,U I,U O,U L,U S,U (wrap .u64 (G-1))])) (some (0,[U M,U N,U D,U I,U O,U L,U S,U (wrap .u64 (G-1)),U (wrap .u64 (T+D))]))) (some (1,[U M,U N,U D,U I,U O,U L,U S,U G]))):=by kernel_rfl
theorem Zu2 (DQ:Fn) (N17:Lp) (L M G T I N O S D:Int):Qb DQ N17 [U L,U M,U G,U T,U I,U N,U O,U S,U D]=
 cond (decide (D>=4294967296)) (cond (decide (wrap .u64 (O+G)>=4294967296)) (some (1,[U L,U M,U I,U N,U S,U (wrap .u64 (D-1))])) (some (0,[U L,U M,U G,U T,U I,U N,U (wrap .u64 (O+G)),U S,U (wrap .u64 (D-1))]))) (cond (decide (wrap .u64 (D*T)>wrap .u64 (wrap .u64 (4294967296*O)+I))) (cond (decide (wrap .u64 (O+G)>=4294967296)) (some (1,[U L,U M,U I,U N,U S,U (wrap .u64 (D-1))])) (some (0,[U L,U M,U G,U T,U I,U N,U (wrap .u64 (O+G)),U S,U (wrap .u64 (D-1))]))) (some (1,[U L,U M,U I,U N,U S,U D]))):=by kernel_rfl
theorem Q44 (O:Fn) (M N:Lp) (L I G:Int):Qgb O M N [U L,U I,U G]=
 cond (G==0) (none) (cond (decide (G<=L)) (none) (cond (L==0) (cond (decide (G=0)) (none) (cond (decide (G=0)) (none) (some [U (wrap .u64 (I.tdiv G)),U (I.tmod G)]))) ((O [U G]).bind λo6=>
 cond (decide (wrap .u64 (gA o6 0)<0)) (none) (cond (decide (wrap .u64 (gA o6 0)<0)) (none) (cond (decide (wrap .u64 (64-wrap .u64 (gA o6 0))<0)) (none) (cond (decide (wrap .u64 (gA o6 0)<0)) (none) (cond (decide ((wrap .u64 (G*2^min (wrap .u64 (gA o6 0)).toNat IntKind.u64.bits)).fdiv (2^min (Int.toNat 32) IntKind.u64.bits)=0)) (none) ((M [U (wrap .u64 (G*2^min (wrap .u64 (gA o6 0)).toNat IntKind.u64.bits)),U (wrap .u64 (gA o6 0)),U ((wrap .u64 (G*2^min (wrap .u64 (gA o6 0)).toNat IntKind.u64.bits)).fdiv (2^min (Int.toNat 32) IntKind.u64.bits)),U (wrap .u64 (↑(BitVec.ofInt IntKind.u64.bits (wrap .u64 (G*2^min (wrap .u64 (gA o6 0)).toNat IntKind.u64.bits))&&&BitVec.ofInt IntKind.u64.bits 4294967295).toNat:Int)),U (wrap .u64 (↑(BitVec.ofInt IntKind.u64.bits (wrap .u64 (L*2^min (wrap .u64 (gA o6 0)).toNat IntKind.u64.bits))|||BitVec.ofInt IntKind.u64.bits (I.fdiv (2^min (wrap .u64 (64-wrap .u64 (gA o6 0))).toNat IntKind.u64.bits))).toNat:Int)),U ((wrap .u64 (I*2^min (wrap .u64 (gA o6 0)).toNat IntKind.u64.bits)).fdiv (2^min (Int.toNat 32) IntKind.u64.bits)),U (wrap .u64 (↑(BitVec.ofInt IntKind.u64.bits (wrap .u64 (I*2^min (wrap .u64 (gA o6 0)).toNat IntKind.u64.bits))&&&BitVec.ofInt IntKind.u64.bits 4294967295).toNat:Int)),U (wrap .u64 ((wrap .u64 (↑(BitVec.ofInt IntKind.u64.bits (wrap .u64 (L*2^min (wrap .u64 (gA o6 0)).toNat IntKind.u64.bits))|||BitVec.ofInt IntKind.u64.bits (I.fdiv (2^min (wrap .u64 (64-wrap .u64 (gA o6 0))).toNat IntKind.u64.bits))).toNat:Int)).tdiv ((wrap .u64 (G*2^min (wrap .u64 (gA o6 0)).toNat IntKind.u64.bits)).fdiv (2^min (Int.toNat 32) IntKind.u64.bits)))),U (wrap .u64 (wrap .u64 (↑(BitVec.ofInt IntKind.u64.bits (wrap .u64 (L*2^min (wrap .u64 (gA o6 0)).toNat IntKind.u64.bits))|||BitVec.ofInt IntKind.u64.bits (I.fdiv (2^min (wrap .u64 (64-wrap .u64 (gA o6 0))).toNat IntKind.u64.bits))).toNat:Int)-wrap .u64 (wrap .u64 ((wrap .u64 (↑(BitVec.ofInt IntKind.u64.bits (wrap .u64 (L*2^min (wrap .u64 (gA o6 0)).toNat IntKind.u64.bits))|||BitVec.ofInt IntKind.u64.bits (I.fdiv (2^min (wrap .u64 (64-wrap .u64 (gA o6 0))).toNat IntKind.u64.bits))).toNat:Int)).tdiv ((wrap .u64 (G*2^min (wrap .u64 (gA o6 0)).toNat IntKind.u64.bits)).fdiv (2^min (Int.toNat 32) IntKind.u64.bits)))*(wrap .u64 (G*2^min (wrap .u64 (gA o6 0)).toNat IntKind.u64.bits)).fdiv (2^min (Int.toNat 32) IntKind.u64.bits))))]).bind λD=>
 cond (D.1.beq 1) (cond (decide (gA D.2 2=0)) (none) ((N [U (gA D.2 0),U (gA D.2 1),U (gA D.2 2),U (gA D.2 3),U (gA D.2 6),U (gA D.2 7),U (wrap .u64 (wrap .u64 (wrap .u64 (wrap .u64 (gA D.2 4*4294967296)+gA D.2 5)-wrap .u64 (gA D.2 7*gA D.2 0))-wrap .u64 (wrap .u64 ((wrap .u64 (wrap .u64 (wrap .u64 (gA D.2 4*4294967296)+gA D.2 5)-wrap .u64 (gA D.2 7*gA D.2 0))).tdiv (gA D.2 2))*gA D.2 2))),U (wrap .u64 (wrap .u64 (wrap .u64 (gA D.2 4*4294967296)+gA D.2 5)-wrap .u64 (gA D.2 7*gA D.2 0))),U (wrap .u64 ((wrap .u64 (wrap .u64 (wrap .u64 (gA D.2 4*4294967296)+gA D.2 5)-wrap .u64 (gA D.2 7*gA D.2 0))).tdiv (gA D.2 2)))]).bind λo8=>
 cond (o8.1.beq 1) (cond (decide (gA o8.2 1<0)) (none) (some [U (wrap .u64 (wrap .u64 (gA o8.2 3*4294967296)+gA o8.2 5)),U ((wrap .u64 (wrap .u64 (wrap .u64 (gA o8.2 4*4294967296)+gA o8.2 2)-wrap .u64 (gA o8.2 5*gA o8.2 0))).fdiv (2^min (gA o8.2 1).toNat IntKind.u64.bits))])) (none))) (none))))))))):=by kernel_rfl
def Vl:=Al (L4 IS)
def Qjp:=Al (Qb IS Vl)
def GX:=Qgb IS Vl Qjp
theorem Qtu:Ai PG (YG IS):=Ao rfl ⟨Z6v,trivial⟩
theorem Qv7:Ak PG (Zgy GX):=rw2 (C:=Q5u IS Vl Qjp) (fl (fl fb Qtu) Qtu) Qtu
def Qe1:Sk:=⟨[TS.v true [si .u64,si .u64]],[],[]⟩
def UC:=qd 125 Xw Qe1
def Zt (D:Fn):Cfg:=cf [(171,Ac Qbl VY D)]
def Zfq (D:Fn):Fn:=An PG (Zt D) 64 125 Xw Qe1
theorem Zqb (D:Fn) (G I:Int):Zfq D [U G,U I]=
 (D [U G,U I]).bind λo1=>
 some [U (gA o1 0),U (gA o1 1)]:=by kernel_rfl
def Ey:=Zfq Il
theorem Zoo:Ai PG (Zt Il):=Ao rfl ⟨Qzq,trivial⟩
theorem Vn:Ak PG (UC Ey):=rw1 (C:=Zt Il) Zoo
def Qej:=qd 126 Zb W1
def Qwq:Fn:=An PG Qj1 64 126 Zb W1
theorem Zj6 (D:Int):Qwq [I D]=
 cond (decide (D<0)) (some [U (wrap .u64 (wrap .u64 (O (0-O (D+1)))+1))]) (some [U (wrap .u64 D)]):=by kernel_rfl
def Gs:=Qwq
theorem Zr8:Ai PG (Qj1):=Ao rfl trivial
theorem WB:Ak PG (Qej Gs):=rw1 (C:=Qj1) Zr8
def Qth:=qd 124 Zb V_
def Qv5:Fn:=An PG Qj1 64 124 Zb V_
theorem Z5c (D:Int):Qv5 [I D]=
 cond (D==0) (some [B true]) (cond (D==1) (some [B true]) (some [B (D==2)])):=by kernel_rfl
def Gx:=Qv5
theorem Z60:Ai PG (Qj1):=Ao rfl trivial
theorem Qrf:Ak PG (Qth Gx):=rw1 (C:=Qj1) Z60
def RV:=qd 82 Wt Y8
def Qtg (D G I L M Cm N:Fn):Cfg:=cf [Xh D,Q95 G,X7 I,Zgy L,UC M,Qej Cm,Qth N]
def Qea (D G I L M Cm N:Fn):Fn:=An PG (Qtg D G I L M Cm N) 64 82 Wt Y8
abbrev VH (T:Fn) (V:Int) (G:List AC) (S:Fn) (L D:AC):Option (List AC):=
 (T [I V,L,B (decide (gA G 1>0)),D]).bind λO=>
 cond (bA O 0) (cond (wrap .u64 (gA G 0+1)==0) (some [I 0,B false]) ((S [U (wrap .u64 (gA G 0+1)),D]).bind λM=>
 some [jA M 0,B (bA M 1)])) ((S [U (gA G 0),D]).bind λN=>
 some [jA N 0,B (bA N 1)])
abbrev WI (D L:List AC) (M:Fn) (N:Int) (O:Fn) (G:AC):Option (List AC):=
 cond (decide (gA D 1>wrap .u64 (gA L 0-gA D 1))) (VH M N D O (I 1) G) (cond (decide (gA D 1<wrap .u64 (gA L 0-gA D 1))) (VH M N D O (I (-1)) G) (VH M N D O (I 0) G))
theorem Yej (T V X FU BB Cm DH:Fn) (M N O S:Int):Qea T V X FU BB Cm DH [I M,I N,I O,I S]=
 cond (O==0) (some [I 0,B false]) ((DH [I S]).bind λY=>
 cond (!bA Y 0) (some [I 0,B false]) ((Cm [I M]).bind λa0=>
 (Cm [I N]).bind λa1=>
 (BB [U (gA a0 0),U (gA a1 0)]).bind λG=>
 (Cm [I O]).bind λD=>
 cond (decide (gA G 0>=gA D 0)) (some [I 0,B false]) ((FU [U (gA G 0),U (gA G 1),U (gA D 0)]).bind λL=>
 (X [I M,I N]).bind λa2=>
 cond (!decide (gA a2 0<0)==decide (O<0)) ((X [I M,I N]).bind λa3=>
 WI L D V S T (B (gA a3 0 !=0))) (WI L D V S T (B false))))):=by kernel_rfl
def CY:=Qea Fl IM GA GX Ey Gs Gx
theorem Z95:Ai PG (Qtg Fl IM GA GX Ey Gs Gx):=Ao rfl ⟨Qnj,Zjh,Qf7,Qv7,Vn,WB,Qrf,trivial⟩
theorem QI:Ak PG (RV CY):=rw1 (C:=Qtg Fl IM GA GX Ey Gs Gx) Z95
def Z40:=qd 112 Qb9 Zb
def V4 (D:Fn):Cfg:=cf [RV D]
def Q41 (D:Fn):Fn:=An PG (V4 D) 64 112 Qb9 Zb
theorem Z8b (N:Fn) (S T U V X Y x6 M L:Int) (G:Rw) (D:Int):Q41 N [I S,I T,I U,I V,I X,I Y,I x6,I M,I L, .vC Aa G,I D]=
 cond (decide (O ((G.length:Int)-1)<0)) (some [I 0]) (cond (decide (O (D-M)<=0)) (cond (decide (0<=0)&&decide (0<(G.length:Int))) (some [jA (nth [] G 0) 0]) (none)) (cond (decide (L<=0)) (cond (decide (0<=0)&&decide (0<(G.length:Int))) (some [jA (nth [] G 0) 0]) (none)) (cond (decide (L=0)) (none) (cond (decide (O ((O (D-M)).tdiv L)>=O ((G.length:Int)-1))) (cond (decide (0<=O ((G.length:Int)-1))&&decide (O ((G.length:Int)-1)<(G.length:Int))) (some [jA (nth [] G (O ((G.length:Int)-1)).toNat) 0]) (none)) (cond (decide (0<=O (O ((O (D-M)).tdiv L)+1))&&decide (O (O ((O (D-M)).tdiv L)+1)<(G.length:Int))) (cond (decide (0<=O ((O (D-M)).tdiv L))&&decide (O ((O (D-M)).tdiv L)<(G.length:Int))) ((N [I (O (Ah (nth .vD (nth [] G (O (O ((O (D-M)).tdiv L)+1)).toNat) 0)-Ah (nth .vD (nth [] G (O ((O (D-M)).tdiv L)).toNat) 0))),I (O (O (D-M)-O (O ((O (D-M)).tdiv L)*L))),I L,I 2]).bind λo1=>
 cond (decide (0<=O ((O (D-M)).tdiv L))&&decide (O ((O (D-M)).tdiv L)<(G.length:Int))) (some [I (O (Ah (nth .vD (nth [] G (O ((O (D-M)).tdiv L)).toNat) 0)+gA o1 0))]) (none)) (none)) (none)))))):=by kernel_rfl
def J8:=Q41 CY
theorem Zvg:Ai PG (V4 CY):=Ao rfl ⟨QI,trivial⟩
theorem Yaa:Ak PG (Z40 J8):=rw1 (C:=V4 CY) Zvg
def Yin:=qd 59 Qb9 Zb
def Xc (D G:Fn):Cfg:=cf [Ybz D,Z40 G]
def Q4d (D G:Fn):Fn:=An PG (Xc D G) 64 59 Qb9 Zb
theorem Z8w (PF Oq:Fn) (G L M N S T U V X:Int) (Y:Rw) (D:Int):Q4d PF Oq [I G,I L,I M,I N,I S,I T,I U,I V,I X, .vC Aa Y,I D]=
 (Oq [I G,I L,I M,I N,I S,I T,I U,I V,I X, .vC Aa Y,I D]).bind λo2=>
 (PF [I G,I L,I M,I N,I S,I T,I U,I V,I X, .vC Aa Y,I (O (D+gA o2 0))]).bind λo3=>
 some [jA o3 0]:=by kernel_rfl
def M_:=Q4d KG J8
theorem Zw0:Ai PG (Xc KG J8):=Ao rfl ⟨Zkt,Yaa,trivial⟩
theorem Z3u:Ak PG (Yin M_):=rw1 (C:=Xc KG J8) Zw0
def YO:Sk:=⟨[TS.v true ([sa Ap]++cc 5),tf [ci]],[],[]⟩
def Zhf:=qd 58 YO Zb
def Zi8:Sk:=⟨[td,tf [ci],tf [sd 2 0],td,td,tf [ci],tf [ci]]++dd 29,[(2,52,[sa Ap]++cc 5)],[]⟩
def Zdq:List (Ex×Sk):=[(Ex.exit 0,⟨dd 6++[tf [ci]]++dd 29,[],[]⟩)]
def Ti:Lp:=AG PG Qj1 64 2 (AH PG 58 2) Zi8 Zdq
def Q8m (D:Lp):Cfg:=Qj1.loop 2 Zi8 Zdq D
def Q4r (D:Lp):Fn:=An PG (Q8m D) 64 58 YO Zb
theorem Qgq (M G D:Int) (L:Rw) (N S T U V:Int):Ti [I M,I G,I D, .vC Ap L,I N,I S,I T,I U,I V]=
 cond (decide (G<D)) (cond (decide (0<=O ((O (G+D)).tdiv 2))&&decide (O ((O (G+D)).tdiv 2)<(L.length:Int))) (cond (decide (M<=O (Ah (nth .vD (nth [] L (O ((O (G+D)).tdiv 2)).toNat) 0)+Ah (nth .vD (nth [] L (O ((O (G+D)).tdiv 2)).toNat) 1)))) (some (0,[I M,I G,I (O ((O (G+D)).tdiv 2)), .vC Ap L,I N,I S,I T,I U,I V])) (some (0,[I M,I (O (O ((O (G+D)).tdiv 2)+1)),I D, .vC Ap L,I N,I S,I T,I U,I V]))) (none)) (some (1,[I D])):=by kernel_rfl
theorem Yil (G:Lp) (D:Rw) (L M N S T U:Int):Q4r G [.vC Ap D,I L,I M,I N,I S,I T,I U]=
 (G [I U,I 0,I (O ((D.length:Int)-1)), .vC Ap D,I L,I M,I N,I S,I T]).bind λo1=>
 cond (o1.1.beq 1) (some [jA o1.2 0]) (none):=by kernel_rfl
def Mt:=Al (Ti)
def Jg:=Q4r Mt
theorem Zar:Ai PG (Qj1):=Ao rfl trivial
theorem Zbm:Ak PG (Zhf Jg):=rw2 (C:=Q8m Mt) (fl fb Zar) Zar
def Qld:Sk:=⟨[TS.v true [ci,ci,ci,sa Ag,sa kPt],tf [ci]],[],[]⟩
def Xx:Sk:=⟨[TS.tup [(false,[ci]),(false,[ci])]],[],[]⟩
def Qk5:=qd 81 Qld Xx
def Q28:Sk:=⟨[td,tf [ci],tf [sd 2 0]]++dd 8++[tf [sa Ag],tf [ci],tf [ci]]++dd 24,[(2,46,[ci,ci,ci,sa Ag,sa kPt])],[]⟩
def Zi3:List (Ex×Sk):=[(Ex.ret,⟨[td,td,td,td,tf [ci],tf [ci]]++dd 32,[],[]⟩),(Ex.exit 0,⟨[td]++dd 37,[],[]⟩)]
def S3:Lp:=AG PG Qj1 64 3 (AH PG 81 3) Q28 Zi3
def Zd1 (D:Lp):Cfg:=Qj1.loop 3 Q28 Zi3 D
def Q4s (D:Lp):Fn:=An PG (Zd1 D) 64 81 Qld Xx
theorem Zd6 (L:Int) (G:Rw) (M D S T U:Int) (N V:Rw):S3 [I L, .vC Ag G,I M,I D,I S,I T,I U, .vC Ag N, .vC kPt V]=
 cond (decide (D<M)) (cond (decide (0<=D)&&decide (D<(G.length:Int))) (cond (decide (L<gA (nth [] G D.toNat) 3)) (some (1,[I D,I L])) (cond (D==O ((N.length:Int)-1)) (some (1,[I D,jA (nth [] G D.toNat) 3])) (some (0,[I (O (L-gA (nth [] G D.toNat) 3)), .vC Ag G,I M,I (O (D+1)),I S,I T,I U, .vC Ag N, .vC kPt V])))) (none)) (some (2,[])):=by kernel_rfl
theorem Q0b (G:Lp) (L M N:Int) (D O:Rw) (S:Int):Q4s G [I L,I M,I N, .vC Ag D, .vC kPt O,I S]=
 (G [I (mx S 0), .vC Ag D,I (D.length:Int),I 0,I L,I M,I N, .vC Ag D, .vC kPt O]).bind λo1=>
 cond (o1.1.beq 1) (some [jA o1.2 0,jA o1.2 1]) (cond (o1.1.beq 2) (some [I (-1),I 0]) (none)):=by kernel_rfl
def Nv:=Al (S3)
def EL:=Q4s Nv
theorem Q70:Ai PG (Qj1):=Ao rfl trivial
theorem Qay:Ak PG (Qk5 EL):=rw2 (C:=Zd1 Nv) (fl fb Q70) Q70
def Yjy:=qd 36 Qld Quw
def Yz (D G:Fn):Cfg:={cf [RV D,Qk5 G]with unroll:=[9]}
def Qey (D G:Fn):Fn:=An PG (Yz D G) 64 36 Qld Quw
theorem Zxu (A7 DA:Fn) (L M N:Int) (G X:Rw) (Y:Int):Qey A7 DA [I L,I M,I N, .vC Ag G, .vC kPt X,I Y]=
 (DA [I L,I M,I N, .vC Ag G, .vC kPt X,I Y]).bind λD=>
 cond (decide (gA D 0<0)) (some [I L,I M,I N]) (cond (decide (gA D 0>0)) (cond (decide (0<=O (gA D 0-1))&&decide (O (gA D 0-1)<(G.length:Int))) (cond (decide (0<=gA D 0)&&decide (gA D 0<(G.length:Int))) ((A7 [I (O (gA (nth [] G (gA D 0).toNat) 0-gA (nth [] G (O (gA D 0-1)).toNat) 0)),jA D 1,jA (nth [] G (gA D 0).toNat) 3,I 2]).bind λo8=>
 (A7 [I (O (gA (nth [] G (gA D 0).toNat) 1-gA (nth [] G (O (gA D 0-1)).toNat) 1)),jA D 1,jA (nth [] G (gA D 0).toNat) 3,I 2]).bind λo9=>
 (A7 [I (O (gA (nth [] G (gA D 0).toNat) 2-gA (nth [] G (O (gA D 0-1)).toNat) 2)),jA D 1,jA (nth [] G (gA D 0).toNat) 3,I 2]).bind λS=>
 some [I (O (gA (nth [] G (O (gA D 0-1)).toNat) 0+gA o8 0)),I (O (gA (nth [] G (O (gA D 0-1)).toNat) 1+gA o9 0)),I (O (gA (nth [] G (O (gA D 0-1)).toNat) 2+gA S 0))]) (none)) (none)) (cond (decide (0<=gA D 0)&&decide (gA D 0<(G.length:Int))) ((A7 [I (O (gA (nth [] G (gA D 0).toNat) 0-L)),jA D 1,jA (nth [] G (gA D 0).toNat) 3,I 2]).bind λT=>
 (A7 [I (O (gA (nth [] G (gA D 0).toNat) 1-M)),jA D 1,jA (nth [] G (gA D 0).toNat) 3,I 2]).bind λU=>
 (A7 [I (O (gA (nth [] G (gA D 0).toNat) 2-N)),jA D 1,jA (nth [] G (gA D 0).toNat) 3,I 2]).bind λV=>
 some [I (O (L+gA T 0)),I (O (M+gA U 0)),I (O (N+gA V 0))]) (none))):=by kernel_rfl
def RT:=Qey CY EL
theorem Ztg:Ai PG (Yz CY EL):=Ao rfl ⟨QI,Qay,trivial⟩
theorem Zo0:Ak PG (Yjy RT):=rw1 (C:=Yz CY EL) Ztg
def Qrz:=qd 47 ZJ Zb
def Zif:Fn:=An PG Qj1 64 47 ZJ Zb
theorem Zzq (D G:Int):Zif [I D,I G]=
 some [I (mx 0 (mn D G))]:=by kernel_rfl
def Ht:=Zif
theorem Z7h:Ai PG (Qj1):=Ao rfl trivial
theorem Qbi:Ak PG (Qrz Ht):=rw1 (C:=Qj1) Z7h
def Uq:=qd 57 YO Zb
def Qvf (D G:Fn):Cfg:=cf [Zhf D,Qrz G]
def Qqg (D G:Fn):Fn:=An PG (Qvf D G) 64 57 YO Zb
theorem Z1d (M N:Fn) (D:Rw) (G L S T U V:Int):Qqg M N [.vC Ap D,I G,I L,I S,I T,I U,I V]=
 (N [I V,I G]).bind λo2=>
 (M [.vC Ap D,I G,I L,I S,I T,I U,jA o2 0]).bind λo3=>
 cond (decide (gA o3 0<0)) (some [I L]) (cond (decide (0<=gA o3 0)&&decide (gA o3 0<(D.length:Int))) (cond (decide (0<=gA o3 0)&&decide (gA o3 0<(D.length:Int))) (cond (decide (0<=gA o3 0)&&decide (gA o3 0<(D.length:Int))) (some [I (O (gA (nth [] D (gA o3 0).toNat) 2+O (gA (nth [] D (gA o3 0).toNat) 3*O (gA o2 0-gA (nth [] D (gA o3 0).toNat) 0))))]) (none)) (none)) (none)):=by kernel_rfl
def ES:=Qqg Jg Ht
theorem Ycf:Ai PG (Qvf Jg Ht):=Ao rfl ⟨Zbm,Qbi,trivial⟩
theorem UY:Ak PG (Uq ES):=rw1 (C:=Qvf Jg Ht) Ycf
def XN:Sk:=⟨[TS.v true [ci,ci,ci,sa Ag,sa kPt],TS.v true (cc 9++[sa Aa]++cc 9++[sa Aa]++cc 9++[sa Aa]),TS.v true ([sa Ap]++cc 5),tf [ci]],[],[]⟩
def ZG:=qd 21 XN Quw
def Qkn (D G I L M N O:Fn):Cfg:={cf [Yjd D,Zfe G,Yin I,Zhf L,Yjy M,Uq N,Qrz O]with unroll:=[6]}
def Qfp (D G I L M N O:Fn):Fn:=An PG (Qkn D G I L M N O) 64 21 XN Quw
abbrev XP (V:Fn) (x:Ax3) (N D:List AC) (X:Fn) (t:Trk) (G:AC) (Y:Fn) (S:List AC) (L:AC):Option (List AC):=
 (V [I x.c.step,I x.c.aS,I x.c.bD,I x.c.bE,I x.c.low,I x.c.aY,I x.c.bB,I x.c.aV,I x.c.aO, .vC Aa (x.c.aW.map At),jA N 2]).bind λM=>
 cond (decide (gA D 0<0)) ((X [I x.c.step,I x.c.aS,I x.c.bD,I x.c.bE,I x.c.low,I x.c.aY,I x.c.bB,I x.c.aV,I x.c.aO, .vC Aa (x.c.aW.map At),I t.aT.z]).bind λT=>
 some [G,L,I (O (gA M 0+gA T 0))]) (cond (decide (0<=gA D 0)&&decide (gA D 0<((t.aE.map AZ).length:Int))) ((Y (I x.c.step::I x.c.aS::I x.c.bD::I x.c.bE::I x.c.low::I x.c.aY::I x.c.bB::I x.c.aV::I x.c.aO:: .vC Aa (x.c.aW.map At)::(AF Ap (nth [] (t.aE.map AZ) (gA D 0).toNat)++[I (O (O (0+1)+1)),jA S 0]))).bind λU=>
 some [G,L,I (O (gA M 0+gA U 0))]) (none))
abbrev Qad (S:Fn) (x:Ax3) (L D:List AC) (T:Fn) (t:Trk) (U:Fn) (M:List AC) (G:AC):Option (List AC):=
 (S [I x.b.step,I x.b.aS,I x.b.bD,I x.b.bE,I x.b.low,I x.b.aY,I x.b.bB,I x.b.aV,I x.b.aO, .vC Aa (x.b.aW.map At),jA L 1]).bind λN=>
 cond (decide (gA D 0<0)) ((T [I x.b.step,I x.b.aS,I x.b.bD,I x.b.bE,I x.b.low,I x.b.aY,I x.b.bB,I x.b.aV,I x.b.aO, .vC Aa (x.b.aW.map At),I t.aT.y]).bind λV=>
 XP S x L D T t G U M (I (O (gA N 0+gA V 0)))) (cond (decide (0<=gA D 0)&&decide (gA D 0<((t.aE.map AZ).length:Int))) ((U (I x.b.step::I x.b.aS::I x.b.bD::I x.b.bE::I x.b.low::I x.b.aY::I x.b.bB::I x.b.aV::I x.b.aO:: .vC Aa (x.b.aW.map At)::(AF Ap (nth [] (t.aE.map AZ) (gA D 0).toNat)++[I (O (0+1)),jA M 0]))).bind λX=>
 XP S x L D T t G U M (I (O (gA N 0+gA X 0)))) (none))
theorem Yg0 (S T U Ge Oa B6 DE:Fn) (M:Int) (p:Pth) (x:Ax3) (t:Trk):Qfp S T U Ge Oa B6 DE (pxt p x t [I M])=
 (DE [I M,I t.length]).bind λG=>
 (B6 [.vC Ap (t.aE.map AZ),I t.length,I t.aQ,I t.aT.x,I t.aT.y,I t.aT.z,jA G 0]).bind λV=>
 (Oa [I p.aQ.x,I p.aQ.y,I p.aQ.z, .vC Ag (p.aF.map Az), .vC kPt (p.aD.map Aq),jA V 0]).bind λL=>
 (Ge [.vC Ap (t.aE.map AZ),I t.length,I t.aQ,I t.aT.x,I t.aT.y,I t.aT.z,jA G 0]).bind λD=>
 (U [I x.a.step,I x.a.aS,I x.a.bD,I x.a.bE,I x.a.low,I x.a.aY,I x.a.bB,I x.a.aV,I x.a.aO, .vC Aa (x.a.aW.map At),jA L 0]).bind λN=>
 cond (decide (gA D 0<0)) ((T [I x.a.step,I x.a.aS,I x.a.bD,I x.a.bE,I x.a.low,I x.a.aY,I x.a.bB,I x.a.aV,I x.a.aO, .vC Aa (x.a.aW.map At),I t.aT.x]).bind λX=>
 Qad U x L D T t S G (I (O (gA N 0+gA X 0)))) (cond (decide (0<=gA D 0)&&decide (gA D 0<((t.aE.map AZ).length:Int))) ((S (I x.a.step::I x.a.aS::I x.a.bD::I x.a.bE::I x.a.low::I x.a.aY::I x.a.bB::I x.a.aV::I x.a.aO:: .vC Aa (x.a.aW.map At)::(AF Ap (nth [] (t.aE.map AZ) (gA D 0).toNat)++[I 0,jA G 0]))).bind λY=>
 Qad U x L D T t S G (I (O (gA N 0+gA Y 0)))) (none)):=by kernel_rfl
def Fc:=Qfp ST JQ M_ Jg RT ES Ht
theorem Yby:Ai PG (Qkn ST JQ M_ Jg RT ES Ht):=Ao rfl ⟨Z45,Q7u,Z3u,Zbm,Zo0,UY,Qbi,trivial⟩
theorem Qpf:Ak PG (ZG Fc):=rw1 (C:=Qkn ST JQ M_ Jg RT ES Ht) Yby
def Qfd:Sk:=⟨[tf [ci],TS.v true (cc 13++[sb,ci,sb]++cc 5++[sb])],[],[]⟩
def Znr:=qd 217 Qfd Zb
def Qp2:Fn:=An PG Qj1 64 217 Qfd Zb
theorem Yi8 (G x1 x2 x3 x4 x5 x6 x7 x8 x9 M N S T:Int) (U:Bool) (V:Int) (X:Bool) (Y a0 a1 D a2:Int) (L:Bool):Qp2 [I G,I x1,I x2,I x3,I x4,I x5,I x6,I x7,I x8,I x9,I M,I N,I S,I T,B U,I V,B X,I Y,I a0,I a1,I D,I a2,B L]=
 cond (x1 !=10) (some [I G]) (cond (decide (D<0)) (some [I G]) (cond (decide (D>=16)) (some [I G]) (cond (decide (wrap .u64 D<0)) (none) (cond (L) (some [I (O (↑(BitVec.ofInt IntKind.i64.bits G|||BitVec.ofInt IntKind.i64.bits (O (1*2^min (wrap .u64 D).toNat IntKind.i64.bits))).toNat:Int))]) (some [I (O (↑(BitVec.ofInt IntKind.i64.bits G&&& ~~~BitVec.ofInt IntKind.i64.bits (O (1*2^min (wrap .u64 D).toNat IntKind.i64.bits))).toNat:Int))]))))):=by kernel_rfl
def KD:=Qp2
theorem Zrz:Ai PG (Qj1):=Ao rfl trivial
theorem Yhf:Ak PG (Znr KD):=rw1 (C:=Qj1) Zrz
def Qmw:Sk:=⟨[TS.v true [ci,ci,ci],TS.v true [ci,ci,sb,sb,sb]],[],[]⟩
def Q2n:=qd 216 Qmw V_
def Qpu:Fn:=An PG Qj1 64 216 Qmw V_
theorem Yhh (M D N O S:Int) (T G L:Bool):Qpu [I M,I D,I N,I O,I S,B T,B G,B L]=
 cond (D==1) (some [B true]) (cond (D==3) (some [B true]) (cond (D==6) (some [B true]) (cond (D==4) (cond (L) (some [B true]) (some [B G])) (cond (D==2) (some [B G]) (some [B false]))))):=by kernel_rfl
def IF:=Qpu
theorem Zre:Ai PG (Qj1):=Ao rfl trivial
theorem Q1e:Ak PG (Q2n IF):=rw1 (C:=Qj1) Zre
def Qft:Sk:=⟨[tf [sd 20000 0],tf [ci]],[(20000,179,cS)],[]⟩
def ZU:Sk:=⟨[tf [sa Aa]],[(20000,179,cS)],[]⟩
def Z7x:=qd 165 Qft ZU
def Qt4 (D G:Fn):Cfg:={cf [Znr D,Q2n G]with prom:=λb=>cond (Nat.beq b 2) ([(5,3)]) ([])}
def Qwu:Sk:=⟨[tf [sd 20000 0],tf [ci],td,td,td,tf [se 5 1]]++dd 84,[(20000,179,cS)],[(5,3,Aa)]⟩
def Zd3:List (Ex×Sk):=[(Ex.exit 0,⟨[td,td,td,td,td,tf [se 5 1]]++dd 84,[(20000,179,cS)],[(5,3,Aa)]⟩)]
def SC (D G:Fn):Lp:=AG PG (Qt4 D G) 64 2 (AH PG 165 2) Qwu Zd3
def Qxm (D G:Fn) (I:Lp):Cfg:=(Qt4 D G).loop 2 Qwu Zd3 I
def Qtn (D G:Fn) (I:Lp):Fn:=An PG (Qxm D G I) 64 165 Qft ZU
abbrev PL (K:Kf) (c:Cv) (D:Rw) (M:Fn) (L:Int):Option (Nat×List AC):=
 cond (gA (nth [] (K.p.aD.map Aq) c.aK.toNat) 1==5) (cond (((D++[[jA (nth [] (K.p.aD.map Aq) c.aK.toNat) 2]]).length*8).ble 140737488355328) (cond (decide (0<=gA (nth [] (K.p.aD.map Aq) c.aK.toNat) 2)&&decide (gA (nth [] (K.p.aD.map Aq) c.aK.toNat) 2<((K.aA.map Af).length:Int))) ((M (I c.outs::AF Ae (nth [] (K.aA.map Af) (gA (nth [] (K.p.aD.map Aq) c.aK.toNat) 2).toNat))).bind λG=>
 some (0,(.vC Aa (D++[[jA (nth [] (K.p.aD.map Aq) c.aK.toNat) 2]])::I L::Aj K {c with outs:=gA G 0,aK:=O (c.aK+1)}))) (none)) (none)) (some (0,(.vC Aa D::I L::Aj K {c with aK:=O (c.aK+1)})))
theorem Zw2 (L M:Fn) (D:Rw) (G:Int) (K:Kf) (c:Cv):SC L M (.vC Aa D::I G::Aj K c)=
 cond (decide (c.aK<((K.p.aD.map Aq).length:Int))) (cond (decide (0<=c.aK)&&decide (c.aK<((K.p.aD.map Aq).length:Int))) (cond (decide (gA (nth [] (K.p.aD.map Aq) c.aK.toNat) 0>G)) (some (1,(.vC Aa D::Aj K c))) (cond (gA (nth [] (K.p.aD.map Aq) c.aK.toNat) 0==G) (cond (decide (c.aK>=c.next)) ((M [jA (nth [] (K.p.aD.map Aq) c.aK.toNat) 0,jA (nth [] (K.p.aD.map Aq) c.aK.toNat) 1,jA (nth [] (K.p.aD.map Aq) c.aK.toNat) 2,I c.o0,I c.o1,B c.o2,B c.o3,B c.o4]).bind λN=>
 cond (bA N 0) (some (1,(.vC Aa D::Aj K c))) (PL K c D L G)) (PL K c D L G)) (PL K c D L G))) (none)) (some (1,(.vC Aa D::Aj K c))):=by kernel_rfl
theorem Yj8 (M N:Fn) (G:Lp) (L:Int) (K:Kf) (c:Cv):Qtn M N G (I L::Aj K c)=
 (G (.vC Aa []::I L::Aj K c)).bind λD=>
 cond (D.1.beq 1) (some (.vC Aa (wA D.2 0)::cR 1 D.2)) (none):=by kernel_rfl
def Q9i:=Al (SC KD IF)
def Nl:=Qtn KD IF Q9i
theorem Q6d:Ai PG (Qt4 KD IF):=Ao rfl ⟨Yhf,Q1e,trivial⟩
theorem Yhu:Ak PG (Z7x Nl):=rw2 (C:=Qxm KD IF Q9i) (fl fb Q6d) Q6d
def Qnq:Sk:=⟨[TS.v true [ci,ci,ci,sa Ag,sa kPt],TS.v true (cc 9++[sa Aa]++cc 9++[sa Aa]++cc 9++[sa Aa]),TS.v true ([sa Ap]++cc 5),tf [ci],tf [ci]],[],[]⟩
def Zkg:=qd 164 Qnq Qqn
def Qkc (D:Fn):Cfg:={cf [ZG D]with prom:=λb=>cond (Nat.beq b 5) ([(11,125)]) ([]),unroll:=[9]}
def Q3h:Sk:=⟨[td,td,td,td,tf [ci],tf [sd 5 0],tf [sd 6 0],tf [sd 7 0],td,td,td,tf [se 11 3],tf [sd 12 0],tf [ci]]++dd 54,[(5,46,[ci,ci,ci,sa Ag,sa kPt]),(6,34,cc 9++[sa Aa]++cc 9++[sa Aa]++cc 9++[sa Aa]),(7,52,[sa Ap]++cc 5),(12,41,[ci,ci,ci])],[(11,125,kPt)]⟩
def Zeu:List (Ex×Sk):=[(Ex.exit 0,⟨dd 11++[tf [se 11 3]]++dd 56,[],[(11,125,kPt)]⟩)]
def Vj (D:Fn):Lp:=AG PG (Qkc D) 64 5 (AH PG 164 5) Q3h Zeu
def Q0z (D:Fn) (G:Lp):Cfg:=(Qkc D).loop 5 Q3h Zeu G
def YE (D:Fn) (G:Lp):Fn:=An PG (Q0z D G) 64 164 Qnq Qqn
abbrev RA (o6:List AC) (v46 M N:Int) (p:Pth) (x:Ax3) (t:Trk) (D:Bool) (G L:AC):Option (Nat×List AC):=
 cond (gA o6 2 !=v46) (cond (D) (some (0,(G::I M::I (O (N+1))::pxt p x t [jA o6 0,jA o6 1,jA o6 2]))) (none)) (some (0,(L::I M::I (O (N+1))::pxt p x t [jA o6 0,jA o6 1,jA o6 2])))
theorem Yi1 (N:Fn) (L:Rw) (M D:Int) (v44 G v46:Int) (p:Pth) (x:Ax3) (t:Trk):Vj N (.vC kPt L::I M::I D::pxt p x t [I v44,I G,I v46])=
 cond (decide (D<M)) ((N (pxt p x t [I (O (D+1))])).bind λo6=>
 cond (gA o6 0 !=v44) (cond (((L++[[I (O (D+1)),I 0,I (O (gA o6 0-v44))]]).length*24).ble 140737488355328) (cond (gA o6 1 !=G) (cond (((L++[[I (O (D+1)),I 0,I (O (gA o6 0-v44))]]++[[I (O (D+1)),I (O (0+1)),I (O (gA o6 1-G))]]).length*24).ble 140737488355328) (RA o6 v46 M D p x t (((L++[[I (O (D+1)),I 0,I (O (gA o6 0-v44))]]++[[I (O (D+1)),I (O (0+1)),I (O (gA o6 1-G))]]++[[I (O (D+1)),I (O (O (0+1)+1)),I (O (gA o6 2-v46))]]).length*24).ble 140737488355328) (.vC kPt (L++[[I (O (D+1)),I 0,I (O (gA o6 0-v44))]]++[[I (O (D+1)),I (O (0+1)),I (O (gA o6 1-G))]]++[[I (O (D+1)),I (O (O (0+1)+1)),I (O (gA o6 2-v46))]])) (.vC kPt (L++[[I (O (D+1)),I 0,I (O (gA o6 0-v44))]]++[[I (O (D+1)),I (O (0+1)),I (O (gA o6 1-G))]]))) (none)) (RA o6 v46 M D p x t (((L++[[I (O (D+1)),I 0,I (O (gA o6 0-v44))]]++[[I (O (D+1)),I (O (O (0+1)+1)),I (O (gA o6 2-v46))]]).length*24).ble 140737488355328) (.vC kPt (L++[[I (O (D+1)),I 0,I (O (gA o6 0-v44))]]++[[I (O (D+1)),I (O (O (0+1)+1)),I (O (gA o6 2-v46))]])) (.vC kPt (L++[[I (O (D+1)),I 0,I (O (gA o6 0-v44))]])))) (none)) (cond (gA o6 1 !=G) (cond (((L++[[I (O (D+1)),I (O (0+1)),I (O (gA o6 1-G))]]).length*24).ble 140737488355328) (RA o6 v46 M D p x t (((L++[[I (O (D+1)),I (O (0+1)),I (O (gA o6 1-G))]]++[[I (O (D+1)),I (O (O (0+1)+1)),I (O (gA o6 2-v46))]]).length*24).ble 140737488355328) (.vC kPt (L++[[I (O (D+1)),I (O (0+1)),I (O (gA o6 1-G))]]++[[I (O (D+1)),I (O (O (0+1)+1)),I (O (gA o6 2-v46))]])) (.vC kPt (L++[[I (O (D+1)),I (O (0+1)),I (O (gA o6 1-G))]]))) (none)) (RA o6 v46 M D p x t (((L++[[I (O (D+1)),I (O (O (0+1)+1)),I (O (gA o6 2-v46))]]).length*24).ble 140737488355328) (.vC kPt (L++[[I (O (D+1)),I (O (O (0+1)+1)),I (O (gA o6 2-v46))]])) (.vC kPt L)))) (some (1,[.vC kPt L])):=by kernel_rfl
theorem Z0u (M:Fn) (N:Lp) (D G:Int) (p:Pth) (x:Ax3) (t:Trk):YE M N (pxt p x t [I D,I G])=
 (M (pxt p x t [I (mx 0 (mn D t.length))])).bind λL=>
 (N (.vC kPt []::I (mx 0 (mn G t.length))::I (mx 0 (mn D t.length))::pxt p x t [jA L 0,jA L 1,jA L 2])).bind λo8=>
 cond (o8.1.beq 1) (some [.vC kPt (wA o8.2 0)]) (none):=by kernel_rfl
def Q07:=Al (Vj Fc)
def Lh:=YE Fc Q07
theorem Zg5:Ai PG (Qkc Fc):=Ao rfl ⟨Qpf,trivial⟩
theorem Zl9:Ak PG (Zkg Lh):=rw2 (C:=Q0z Fc Q07) (fl fb Zg5) Zg5
def Qr3:Sk:=⟨[tf [sd 20000 0]],[(20000,179,cS)],[]⟩
def S_ (M:Fn):Nat×Spec:=(102,E8 Qr3 Zb M)
def Qlx:Fn:=Od PG Qj1 64 102 Qr3 Zb
theorem Z28 (K:Kf) (c:Cv):Qlx (Aj K c)=
 some [I (O (c.m0.tdiv 256))]:=by kernel_rfl
def DM:=Qlx
theorem Ykc:Ai PG (Qj1):=Ao rfl trivial
theorem Zt8 (vars:List AC) (R:Type) (K:TV->Mem->Option R):EO PG Qj1 64 102 [TV.v false [AC.ptr 20000 0]] ⟨[(20000,(⟨179,(cR 0 vars)⟩:Box))],[]⟩ K=EO PG Qj1 64 102 [TV.v false [AC.ptr 20000 0]] ⟨[(20000,(⟨179,(cR 0 vars)⟩:Box))],[]⟩ (λv _=>K v ⟨[(20000,(⟨179,(cR 0 vars)⟩:Box))],[]⟩):=dc (b:=(K (TV.v false [I (O ((gA vars 50).tdiv 256))]) ⟨[(20000,(⟨179,(cR 0 vars)⟩:Box))],[]⟩)) (by kernel_rfl) (Eq.symm (by kernel_rfl))
theorem Tc:Ak PG (102,E8 Qr3 Zb DM):=S8 (C:=Qj1) (L:=64) (by kernel_rfl) (FnOK.bare rfl rfl rfl) Ykc eqOk GH (by kernel_rfl) (by kernel_rfl) (λvars R K=>Zt8 vars R K)
def Zfr (M:Fn):Nat×Spec:=(163,E8 Qr3 Zb M)
def Qw (D Bc:Fn):Cfg:=cr [Uq D,S_ Bc] [102] [102]
def Qaq (D Bc:Fn):Fn:=Od PG (Qw D Bc) 64 163 Qr3 Zb
theorem Ybj (D Bc:Fn) (K:Kf) (c:Cv):Qaq D Bc (Aj K c)=
 (Bc (Aj K c)).bind λo2=>
 (D (Bu K.t++[jA o2 0])).bind λo3=>
 some [jA o3 0]:=by kernel_rfl
def GW:=Qaq ES DM
theorem Zqz:Ai PG (Qw ES DM):=LE (rs:=[102]) rfl ⟨UY,Tc,trivial⟩ rfl (DB rfl (JA L1))
theorem Zop (vars : List AC) (R : Type) (K : TV -> Mem -> Option R) : EO PG (Qw ES DM) 64 163 [TV.v false [AC.ptr 20000 0]] ⟨[(20000, (⟨179, (cR 0 vars)⟩ : Box))], []⟩ K = EO PG (Qw ES DM) 64 163 [TV.v false [AC.ptr 20000 0]] ⟨[(20000, (⟨179, (cR 0 vars)⟩ : Box))], []⟩ (λv _ => K v ⟨[(20000, (⟨179, (cR 0 vars)⟩ : Box))], []⟩) := dc (b := ((DM (cR 0 vars)).bind λo2 =>
 (ES [.vC Ap (wA vars 44),jA vars 45,jA vars 46,jA vars 47,jA vars 48,jA vars 49,jA o2 0]).bind λo3=>
 K (TV.v false [jA o3 0]) ⟨[(20000,(⟨179,(cR 0 vars)⟩:Box))],[]⟩)) (by kernel_rfl) (Eq.symm (by kernel_rfl))
theorem Zjw:Ak PG (163,E8 Qr3 Zb GW):=S8 (C:=Qw ES DM) (L:=64) (by kernel_rfl) (FnOK.bare rfl rfl rfl) Zqz eqOk GH (by kernel_rfl) (by kernel_rfl) (λvars R K=>Zop vars R K)
def Qoc:Sk:=⟨[tf [sd 20000 0],tf [sd 20001 0],tf [ci]],[(20000,179,cS),(20001,61,[sa kPt,sa Aa]++cc 7)],[]⟩
def Qmj:Sk:=⟨[TS.tup []],[(20000,179,cS),(20001,61,[sa kPt,sa Aa]++cc 7)],[]⟩
def Z4j:=qd 110 Qoc Qmj
def Qeu (D G I L Bc:Fn):Cfg:=cr [ZG D,Z7x G,Zkg I,Zfr L,S_ Bc] [165,163,102] [163,102]
def WW (D G I L Bc:Fn):Fn:=An PG (Qeu D G I L Bc) 64 110 Qoc Qmj
abbrev Quf (c:Cv) (V:Fn) (L:List AC) (K:Kf) (T:Fn) (U:List AC) (O:Int) (S:Rw) (G:AC):Option (List AC):=
 cond (c.way==0) ((V (jA L 0::Aj K c)).bind λD=>
 (T [jA D 38,jA D 39,jA D 40, .vC Ag (wA D 41), .vC kPt (wA D 42),jA D 1,jA D 2,jA D 3,jA D 4,jA D 5,jA D 6,jA D 7,jA D 8,jA D 9, .vC Aa (wA D 10),jA D 11,jA D 12,jA D 13,jA D 14,jA D 15,jA D 16,jA D 17,jA D 18,jA D 19, .vC Aa (wA D 20),jA D 21,jA D 22,jA D 23,jA D 24,jA D 25,jA D 26,jA D 27,jA D 28,jA D 29, .vC Aa (wA D 30), .vC Ap (wA D 45),jA D 46,jA D 47,jA D 48,jA D 49,jA D 50,jA U 0]).bind λM=>
 some (cR 1 D++[G, .vC Aa (wA D 0),I O,jA L 0,jA M 0,jA M 1,jA M 2,jA D 68,jA D 63])) ((T (pxt K.p K.x K.t [jA U 0])).bind λN=>
 some (Aj K c++[G, .vC Aa S,I O,jA L 0,jA N 0,jA N 1,jA N 2,I c.s3,I c.g1]))
theorem Z7j (N O O0 GB Bc:Fn) (x0:Int) (L D:Rw) (G S T U V X Y:Int) (K:Kf) (c:Cv):WW N O O0 GB Bc (I x0::(Aj K c++[.vC kPt L, .vC Aa D,I G,I S,I T,I U,I V,I X,I Y]))=
 (Bc (Aj K c)).bind λo9=>
 (GB (Aj K c)).bind λM=>
 cond (!c.aL) ((O0 (pxt K.p K.x K.t [I x0,jA o9 0])).bind λa0=>
 Quf c O M K N o9 G D (.vC kPt (wA a0 0))) (Quf c O M K N o9 G D (.vC kPt L)):=by kernel_rfl
def PK:=WW Fc Nl Lh GW DM
theorem Zw3:Ai PG (Qeu Fc Nl Lh GW DM):=LE (rs:=[163,102]) rfl ⟨Qpf,Yhu,Zl9,Zjw,Tc,trivial⟩ rfl (DB rfl (DB rfl (DB rfl (JA (JA L1)))))
theorem Zng:Ak PG (Z4j PK):=rw1 (C:=Qeu Fc Nl Lh GW DM) Zw3
def Zdn:Sk:=⟨[TS.tup []],[(20000,179,cS)],[]⟩
def Q0n:=qd 161 Qr3 Zdn
def Ly:Fn:=λ_=>none
theorem Zg6:Ak PG (Q0n Ly):=FZ
def Qy9:=qd 239 Qhb Zb
def U6:Fn:=An PG Qj1 64 239 Qhb Zb
theorem Qf3 (L D M G:Int):U6 [I L,I D,I M,I G]=
 cond (decide (G<=0)) (some [I 0]) (cond (decide (D<=0)) (some [I 0]) (cond (decide (D=0)) (none) (some [I (O (O (O ((O (G-1)).tdiv D)*G)-O (D*O ((O (O ((O (G-1)).tdiv D)*O (O ((O (G-1)).tdiv D)+1))).tdiv 2))))]))):=by kernel_rfl
def GU:=U6
theorem Zmy:Ai PG (Qj1):=Ao rfl trivial
theorem Q6a:Ak PG (Qy9 GU):=rw1 (C:=Qj1) Zmy
def Zw:=qd 146 Quw V_
def Q6g:Fn:=An PG Qj1 64 146 Quw V_
theorem Yhz (D G L:Int):Q6g [I D,I G,I L]=
 cond (decide (1<=D)) (cond (decide (D<=65536)) (cond (decide (2<=G)) (cond (decide (G<=65536)) (cond (decide (1<=L)) (some [B (decide (L<=16777216))]) (some [B false])) (some [B false])) (some [B false])) (some [B false])) (some [B false]):=by kernel_rfl
def Fs:=Q6g
theorem Z3z:Ai PG (Qj1):=Ao rfl trivial
theorem Qsh:Ak PG (Zw Fs):=rw1 (C:=Qj1) Z3z
def Qhu:Sk:=⟨[TS.v true [ci,ci,ci],tf [ci],tf [ci]],[],[]⟩
def Q2i:=qd 206 Qhu Zb
def Qeb (D G:Fn):Cfg:=cf [Qy9 D,Zw G]
def Q8q:Sk:=⟨[td,tf [ci],td,tf [sd 3 0],td,td,td,tf [ci],tf [ci]]++dd 49,[(3,36,[ci,ci,ci])],[]⟩
def Q4k:List (Ex×Sk):=[(Ex.exit 0,⟨dd 7++[tf [ci]]++dd 50,[],[]⟩)]
def PM (D G:Fn):Lp:=AG PG (Qeb D G) 64 4 (AH PG 206 4) Q8q Q4k
def Zau (D G:Fn) (I:Lp):Cfg:=(Qeb D G).loop 4 Q8q Q4k I
def TK (D G:Fn) (I:Lp):Fn:=An PG (Zau D G I) 64 206 Qhu Zb
theorem Qzf (T U:Fn) (L G D M N S:Int):PM T U [I L,I G,I D,I M,I N,I S]=
 cond (decide (G<D)) ((T [I M,I N,I S,I (O (D-O ((O (D-G)).tdiv 2)))]).bind λo4=>
 cond (decide (O (L-O (D-O ((O (D-G)).tdiv 2)))>=gA o4 0)) (some (0,[I L,I (O (D-O ((O (D-G)).tdiv 2))),I D,I M,I N,I S])) (some (0,[I L,I G,I (O (O (D-O ((O (D-G)).tdiv 2))-1)),I M,I N,I S]))) (some (1,[I G])):=by kernel_rfl
theorem Zgr (U S:Fn) (T:Lp) (L D N M G:Int):TK U S T [I L,I D,I N,I M,I G]=
 (S [I L,I D,I N]).bind λV=>
 cond (!bA V 0) (some [I 0]) (cond (decide (mx G M>1099511627776)) (some [I 0]) (cond (decide (mn G M< -1099511627776)) (some [I 0]) ((T [I M,I (O (O (0-G)-D)),I (mn (O (D-G)) L),I L,I D,I N]).bind λo6=>
 cond (o6.1.beq 1) (some [I (O (0-gA o6.2 0))]) (none)))):=by kernel_rfl
def Q4p:=Al (PM GU Fs)
def HM:=TK GU Fs Q4p
theorem Qxo:Ai PG (Qeb GU Fs):=Ao rfl ⟨Q6a,Qsh,trivial⟩
theorem Q6h:Ak PG (Q2i HM):=rw2 (C:=Zau GU Fs Q4p) (fl fb Qxo) Qxo
def Qmb:Sk:=⟨[tf [sa Aa],tf [ci]],[],[]⟩
def Zk6:=qd 298 Qmb V_
def Qwx:Sk:=⟨[td,tf [ci],td,td,td,td,td,tf [sa Aa],tf [ci],tf [ci]]++dd 13,[],[]⟩
def Qw6:List (Ex×Sk):=[(Ex.ret,⟨[td,td,td,td,tf [sb]]++dd 18,[],[]⟩),(Ex.exit 0,⟨[td]++dd 22,[],[]⟩)]
def Wp:Lp:=AG PG Qj1 64 2 (AH PG 298 2) Qwx Qw6
def Zep (D:Lp):Cfg:=Qj1.loop 2 Qwx Qw6 D
def VX (D:Lp):Fn:=An PG (Zep D) 64 298 Qmb V_
theorem Z6t (L:Int) (G:Rw) (M D:Int):Wp [I L, .vC Aa G,I M,I D]=
 cond (decide (D<M)) (cond (decide (0<=D)&&decide (D<(G.length:Int))) (cond (decide (gA (nth [] G D.toNat) 0>L)) (some (1,[B false])) (cond (decide (gA (nth [] G D.toNat) 0<O (0-L))) (some (1,[B false])) (some (0,[I L, .vC Aa G,I M,I (O (D+1))])))) (none)) (some (2,[])):=by kernel_rfl
theorem Zna (G:Lp) (D:Rw) (L:Int):VX G [.vC Aa D,I L]=
 (G [I L, .vC Aa D,I (D.length:Int),I 0]).bind λo1=>
 cond (o1.1.beq 1) (some [B (bA o1.2 0)]) (cond (o1.1.beq 2) (some [B true]) (none)):=by kernel_rfl
def Zg9:=Al (Wp)
def QP:=VX Zg9
theorem Qvj:Ai PG (Qj1):=Ao rfl trivial
theorem Z2q:Ak PG (Zk6 QP):=rw2 (C:=Zep Zg9) (fl fb Qvj) Qvj
def Qjj:Sk:=⟨[tf [sa Aa]],[],[]⟩
def Zz0:=qd 297 Qjj Qjj
def C_limits_Differences_0:Cfg:={cf []with prom:=λb=>cond (Nat.beq b 3) ([(3,3)]) ([])}
def Qvh:Sk:=⟨[tf [sa Aa],td,td,tf [se 3 1],tf [ci]]++dd 20,[],[(3,3,Aa)]⟩
def Zfx:List (Ex×Sk):=[(Ex.exit 0,⟨[td,td,td,tf [se 3 1]]++dd 21,[],[(3,3,Aa)]⟩)]
def Qux:Lp:=AG PG C_limits_Differences_0 64 3 (AH PG 297 3) Qvh Zfx
def Q7w (D:Lp):Cfg:=C_limits_Differences_0.loop 3 Qvh Zfx D
def YZ (D:Lp):Fn:=An PG (Q7w D) 64 297 Qjj Qjj
theorem Z9b (L G:Rw) (D:Int):Qux [.vC Aa L, .vC Aa G,I D]=
 cond (decide (D<(G.length:Int))) (cond (decide (0<=D)&&decide (D<(G.length:Int))) (cond (decide (0<=O (D-1))&&decide (O (D-1)<(G.length:Int))) (cond (((L++[[I (O (gA (nth [] G D.toNat) 0-gA (nth [] G (O (D-1)).toNat) 0))]]).length*8).ble 140737488355328) (some (0,[.vC Aa (L++[[I (O (gA (nth [] G D.toNat) 0-gA (nth [] G (O (D-1)).toNat) 0))]]), .vC Aa G,I (O (D+1))])) (none)) (none)) (none)) (some (1,[.vC Aa L])):=by kernel_rfl
theorem Zwg (D:Lp) (G:Rw):YZ D [.vC Aa G]=
 (D [.vC Aa [], .vC Aa G,I 1]).bind λo1=>
 cond (o1.1.beq 1) (some [.vC Aa (wA o1.2 0)]) (none):=by kernel_rfl
def Zf9:=Al (Qux)
def R9:=YZ Zf9
theorem Q9l:Ai PG (C_limits_Differences_0):=Ao rfl trivial
theorem Yg5:Ak PG (Zz0 R9):=rw2 (C:=Q7w Zf9) (fl fb Q9l) Q9l
def Qe2:Sk:=⟨[TS.v true (cc 9++[sa Aa]),tf [sa Aa]],[],[]⟩
def Yfx:=qd 290 Qe2 V_
def Qr9 (D G:Fn):Cfg:={cf [Zk6 D,Zz0 G]with unroll:=[2]}
def Qfy (D G:Fn):Fn:=An PG (Qr9 D G) 64 290 Qe2 V_
theorem Yke (G L:Fn) (U O S T V X Y x7 x8:Int) (x9 D:Rw):Qfy G L [I U,I O,I S,I T,I V,I X,I Y,I x7,I x8, .vC Aa x9, .vC Aa D]=
 (L [.vC Aa D]).bind λo6=>
 (G [.vC Aa (wA o6 0),I O]).bind λo7=>
 cond (!bA o7 0) (some [B false]) ((L [.vC Aa (wA o6 0)]).bind λo8=>
 (G [.vC Aa (wA o8 0),I S]).bind λo9=>
 cond (!bA o9 0) (some [B false]) ((L [.vC Aa (wA o8 0)]).bind λM=>
 (G [.vC Aa (wA M 0),I T]).bind λN=>
 cond (!bA N 0) (some [B false]) (some [B true]))):=by kernel_rfl
def My:=Qfy QP R9
theorem Ye3:Ai PG (Qr9 QP R9):=Ao rfl ⟨Z2q,Yg5,trivial⟩
theorem Zmj:Ak PG (Yfx My):=rw1 (C:=Qr9 QP R9) Ye3
def Qt0:Sk:=⟨[TS.v true (cc 9++[sa Aa]++cc 9++[sa Aa]++cc 9++[sa Aa]),tf [sa kPt]],[],[]⟩
def Z9a:=qd 268 Qt0 V_
def YU (D:Fn):Cfg:=cf [Yfx D]
def Q5z:Sk:=⟨[td,tf [sa kPt],tf [sd 2 0],td,td,tf [ci],tf [se 13 1],td,tf [ci]]++dd 6++[tf [ci],tf [ci]]++dd 19,[(2,34,cc 9++[sa Aa]++cc 9++[sa Aa]++cc 9++[sa Aa])],[(13,3,Aa)]⟩
def Zfk:List (Ex×Sk):=[(Ex.exit 2,⟨[td,tf [sa kPt],tf [sd 2 0],td,td,tf [ci],tf [se 13 1],td,tf [ci]]++dd 27,[(2,34,cc 9++[sa Aa]++cc 9++[sa Aa]++cc 9++[sa Aa])],[(13,3,Aa)]⟩)]
def L_ (D:Fn):Lp:=AG PG (YU D) 64 6 (AH PG 268 6) Q5z Zfk
def Q4f (D:Fn) (G:Lp):Cfg:=(YU D).loop 6 Q5z Zfk G
def Q33:Sk:=⟨[td,tf [sa kPt],tf [sd 2 0],td,td,td,td,td,tf [ci]]++dd 27,[(2,34,cc 9++[sa Aa]++cc 9++[sa Aa]++cc 9++[sa Aa])],[]⟩
def Zfg:List (Ex×Sk):=[(Ex.ret,⟨[td,td,td,td,tf [sb]]++dd 31,[],[]⟩),(Ex.exit 0,⟨[td]++dd 35,[],[]⟩)]
def Ts (D:Fn) (G:Lp):Lp:=AG PG (Q4f D G) 64 2 (AH PG 268 2) Q33 Zfg
def Q6e (D:Fn) (G I:Lp):Cfg:=(Q4f D G).loop 2 Q33 Zfg I
def TW (D:Fn) (G I:Lp):Fn:=An PG (Q6e D G I) 64 268 Qt0 V_
theorem Zyy (DW:Fn) (v0 v1:Rw) (v2 v3 v4 D v6 v7 v8 v9 v10 v11 v12 G L:Int) (M:Rw) (N S T U v20 v21 v22 V v24:Int) (v25:Rw) (X v27 v28 Y v30 v31 a0 v33 a1:Int) (v35:Rw):L_ DW [.vC Aa v0, .vC kPt v1,I v2,I v3,I v4,I D,I v6,I v7,I v8,I v9,I v10,I v11,I v12,I G,I L, .vC Aa M,I N,I S,I T,I U,I v20,I v21,I v22,I V,I v24, .vC Aa v25,I X,I v27,I v28,I Y,I v30,I v31,I a0,I v33,I a1, .vC Aa v35]=
 cond (decide (D<v4)) (cond (decide (0<=D)&&decide (D<(v1.length:Int))) (cond (decide (v2=(↑0:Int))) (cond (decide (0<=D)&&decide (D<(v0.length:Int))) (some (0,[.vC Aa (v0.set D.toNat [jA (nth [] v1 D.toNat) 0]), .vC kPt v1,I v2,I v3,I v4,I (O (D+1)),I v6,I v7,I v8,I v9,I v10,I v11,I v12,I G,I L, .vC Aa M,I N,I S,I T,I U,I v20,I v21,I v22,I V,I v24, .vC Aa v25,I X,I v27,I v28,I Y,I v30,I v31,I a0,I v33,I a1, .vC Aa v35])) (none)) (cond (decide (v2=(↑(0+1):Int))) (cond (decide (0<=D)&&decide (D<(v0.length:Int))) (some (0,[.vC Aa (v0.set D.toNat [jA (nth [] v1 D.toNat) 1]), .vC kPt v1,I v2,I v3,I v4,I (O (D+1)),I v6,I v7,I v8,I v9,I v10,I v11,I v12,I G,I L, .vC Aa M,I N,I S,I T,I U,I v20,I v21,I v22,I V,I v24, .vC Aa v25,I X,I v27,I v28,I Y,I v30,I v31,I a0,I v33,I a1, .vC Aa v35])) (none)) (cond (decide (v2=(↑(0+1+1):Int))) (cond (decide (0<=D)&&decide (D<(v0.length:Int))) (some (0,[.vC Aa (v0.set D.toNat [jA (nth [] v1 D.toNat) 2]), .vC kPt v1,I v2,I v3,I v4,I (O (D+1)),I v6,I v7,I v8,I v9,I v10,I v11,I v12,I G,I L, .vC Aa M,I N,I S,I T,I U,I v20,I v21,I v22,I V,I v24, .vC Aa v25,I X,I v27,I v28,I Y,I v30,I v31,I a0,I v33,I a1, .vC Aa v35])) (none)) (none)))) (none)) (some (1,[.vC Aa v0, .vC kPt v1,I v2,I v3,I v6,I v7,I v8,I v9,I v10,I v11,I v12,I G,I L, .vC Aa M,I N,I S,I T,I U,I v20,I v21,I v22,I V,I v24, .vC Aa v25,I X,I v27,I v28,I Y,I v30,I v31,I a0,I v33,I a1, .vC Aa v35])):=by kernel_rfl
abbrev Sl (D:Nat×List AC) (G:Bool):Option (Nat×List AC):=
 cond (G) (some (1,[B false])) (some (0,[.vC kPt (wA D.2 1),I (O (gA D.2 3+1)),jA D.2 4,jA D.2 5,jA D.2 6,jA D.2 7,jA D.2 8,jA D.2 9,jA D.2 10,jA D.2 11,jA D.2 12, .vC Aa (wA D.2 13),jA D.2 14,jA D.2 15,jA D.2 16,jA D.2 17,jA D.2 18,jA D.2 19,jA D.2 20,jA D.2 21,jA D.2 22, .vC Aa (wA D.2 23),jA D.2 24,jA D.2 25,jA D.2 26,jA D.2 27,jA D.2 28,jA D.2 29,jA D.2 30,jA D.2 31,jA D.2 32, .vC Aa (wA D.2 33)]))
theorem Zua (DW:Fn) (N6:Lp) (G:Rw) (v1 v2 v3 v4 v5 v6 v7 v8 v9 v10:Int) (v11:Rw) (v12 L M N O S T U v20:Int) (v21:Rw) (v22 V v24 v25 X v27 v28 Y v30:Int) (v31:Rw):Ts DW N6 [.vC kPt G,I v1,I v2,I v3,I v4,I v5,I v6,I v7,I v8,I v9,I v10, .vC Aa v11,I v12,I L,I M,I N,I O,I S,I T,I U,I v20, .vC Aa v21,I v22,I V,I v24,I v25,I X,I v27,I v28,I Y,I v30, .vC Aa v31]=
 cond (decide (v1<3)) (cond (decide ((G.length:Int)=(G.length:Int))) (cond (decide (0<=(G.length:Int))&&decide ((G.length:Int)*(↑8:Int)<=140737488355328)) ((N6 [.vC Aa (List.replicate (G.length:Int).toNat [I 0]), .vC kPt G,I v1,I v1,I (G.length:Int),I 0,I v2,I v3,I v4,I v5,I v6,I v7,I v8,I v9,I v10, .vC Aa v11,I v12,I L,I M,I N,I O,I S,I T,I U,I v20, .vC Aa v21,I v22,I V,I v24,I v25,I X,I v27,I v28,I Y,I v30, .vC Aa v31]).bind λD=>
 cond (D.1.beq 1) (cond (decide (gA D.2 2=(↑0:Int))) ((DW [jA D.2 4,jA D.2 5,jA D.2 6,jA D.2 7,jA D.2 8,jA D.2 9,jA D.2 10,jA D.2 11,jA D.2 12, .vC Aa (wA D.2 13), .vC Aa (wA D.2 0)]).bind λo6=>
 Sl D (!bA o6 0)) (cond (decide (gA D.2 2=(↑(0+1):Int))) ((DW [jA D.2 14,jA D.2 15,jA D.2 16,jA D.2 17,jA D.2 18,jA D.2 19,jA D.2 20,jA D.2 21,jA D.2 22, .vC Aa (wA D.2 23), .vC Aa (wA D.2 0)]).bind λo7=>
 Sl D (!bA o7 0)) (cond (decide (gA D.2 2=(↑(0+1+1):Int))) ((DW [jA D.2 24,jA D.2 25,jA D.2 26,jA D.2 27,jA D.2 28,jA D.2 29,jA D.2 30,jA D.2 31,jA D.2 32, .vC Aa (wA D.2 33), .vC Aa (wA D.2 0)]).bind λo8=>
 Sl D (!bA o8 0)) (none)))) (none)) (none)) (none)) (some (2,[])):=by kernel_rfl
theorem Zri (DW:Fn) (N6 N2:Lp) (x0 x1 x2 x3 x4 x5 x6 x7 x8:Int) (x9:Rw) (D G L M N O S T U:Int) (V:Rw) (X Y a0 a1 a2 a3 a4 a5 a6:Int) (a7 a8:Rw):TW DW N6 N2 [I x0,I x1,I x2,I x3,I x4,I x5,I x6,I x7,I x8, .vC Aa x9,I D,I G,I L,I M,I N,I O,I S,I T,I U, .vC Aa V,I X,I Y,I a0,I a1,I a2,I a3,I a4,I a5,I a6, .vC Aa a7, .vC kPt a8]=
 (N2 [.vC kPt a8,I 0,I x0,I x1,I x2,I x3,I x4,I x5,I x6,I x7,I x8, .vC Aa x9,I D,I G,I L,I M,I N,I O,I S,I T,I U, .vC Aa V,I X,I Y,I a0,I a1,I a2,I a3,I a4,I a5,I a6, .vC Aa a7]).bind λo9=>
 cond (o9.1.beq 1) (some [B (bA o9.2 0)]) (cond (o9.1.beq 2) (some [B true]) (none)):=by kernel_rfl
def Qaj:=Al (L_ My)
def Zgb:=Al (Ts My Qaj)
def NC:=TW My Qaj Zgb
theorem Qdw:Ai PG (YU My):=Ao rfl ⟨Zmj,trivial⟩
theorem Yhi:Ak PG (Z9a NC):=rw2 (C:=Q6e My Qaj Zgb) (fl (fl fb Qdw) Qdw) Qdw
def Q64:=qd 266 Zb Zb
def Qsa:Fn:=An PG Qj1 64 266 Zb Zb
theorem Ygr (D:Int):Qsa [I D]=
 cond (decide (D.tmod 256<0)) (some [I (O (O (D.tdiv 256)-1))]) (some [I (O (D.tdiv 256))]):=by kernel_rfl
def IY:=Qsa
theorem Z0v:Ai PG (Qj1):=Ao rfl trivial
theorem Ziu:Ak PG (Q64 IY):=rw1 (C:=Qj1) Z0v
def Qki:Sk:=⟨[TS.v true [ci,ci,ci,sa Ag,sa kPt],TS.v true (cc 9++[sa Aa]++cc 9++[sa Aa]++cc 9++[sa Aa]),TS.v true ([sa Ap]++cc 5),tf [sa Aa]],[],[]⟩
def Zj1:=qd 242 Qki V_
def Qqh (D G I:Fn):Cfg:={cf [Z9a D,ZG G,Q64 I]with lend:=λf=>AM [268] f,cuts:=[30],prom:=λb=>cond (Nat.beq b 3) ([(9,41)]) ([])}
def Q5m:Sk:=⟨[td,td,td,td,tf [sd 4 0],tf [sd 5 0],tf [sd 6 0],td,td,tf [se 9 3],td,td,tf [sa Aa],tf [ci],tf [ci]]++dd 22,[(4,46,[ci,ci,ci,sa Ag,sa kPt]),(5,34,cc 9++[sa Aa]++cc 9++[sa Aa]++cc 9++[sa Aa]),(6,52,[sa Ap]++cc 5)],[(9,41,kPt)]⟩
def Qyd:List (Ex×Sk):=[(Ex.ret,⟨dd 8++[tf [sb]]++dd 28,[],[]⟩),(Ex.exit 0,⟨[td]++dd 36,[],[]⟩)]
def Qbn (D G I:Fn):Lp:=AG PG (Qqh D G I) 64 3 (AH PG 242 3) Q5m Qyd
def Q2p (D G I:Fn) (L:Lp):Cfg:=(Qqh D G I).loop 3 Q5m Qyd L
def Qi6 (D G I:Fn) (L:Lp):Fn:=An PG (Q2p D G I L) 64 242 Qki V_
theorem Z9e (S V X:Fn) (G M:Rw) (N L:Int) (p:Pth) (x:Ax3) (t:Trk):Qbn S V X (.vC kPt G:: .vC Aa M::I N::I L::pxt p x t [])=
 cond (decide (L<N)) (cond (decide (0<=L)&&decide (L<(M.length:Int))) ((X [jA (nth [] M L.toNat) 0]).bind λo8=>
 (V (pxt p x t [jA o8 0])).bind λD=>
 cond (((G++[[jA D 0,jA D 1,jA D 2]]).length*24).ble 140737488355328) (cond (decide ((↑(G++[[jA D 0,jA D 1,jA D 2]]).length:Int)>4)) (cond (decide (0<=1)&&decide (1<=(↑(G++[[jA D 0,jA D 1,jA D 2]]).length:Int))) (cond ((Int.toNat 1).ble (G++[[jA D 0,jA D 1,jA D 2]]).length) ((S (AK x++[.vC kPt (List.drop (Int.toNat 1) (G++[[jA D 0,jA D 1,jA D 2]]))])).bind λT=>
 cond (!bA T 0) (some (1,[B false])) (some (0,(.vC kPt (List.drop (Int.toNat 1) (G++[[jA D 0,jA D 1,jA D 2]])):: .vC Aa M::I N::I (O (L+1))::pxt p x t [])))) (none)) (none)) ((S (AK x++[.vC kPt (G++[[jA D 0,jA D 1,jA D 2]])])).bind λU=>
 cond (!bA U 0) (some (1,[B false])) (some (0,(.vC kPt (G++[[jA D 0,jA D 1,jA D 2]]):: .vC Aa M::I N::I (O (L+1))::pxt p x t []))))) (none)) (none)) (some (2,[])):=by kernel_rfl
theorem Zr5 (M N O:Fn) (L:Lp) (D:Rw) (p:Pth) (x:Ax3) (t:Trk):Qi6 M N O L (pxt p x t [.vC Aa D])=
 (L (.vC kPt []:: .vC Aa D::I (D.length:Int)::I 0::pxt p x t [])).bind λG=>
 cond (G.1.beq 1) (some [B (bA G.2 0)]) (cond (G.1.beq 2) (some [B true]) (none)):=by kernel_rfl
def Q9w:=Al (Qbn NC Fc IY)
def Rk:=Qi6 NC Fc IY Q9w
theorem Qx5:Ai PG (Qqh NC Fc IY):=Ao rfl ⟨Yhi,Qpf,Ziu,trivial⟩
theorem Yff:Ak PG (Zj1 Rk):=rw2 (C:=Q2p NC Fc IY Q9w) (fl fb Qx5) Qx5
def Zjt:=qd 202 Qhu V_
def Qim (D:Fn):Cfg:=cf [Qy9 D]
def Qen (D:Fn):Fn:=An PG (Qim D) 64 202 Qhu V_
theorem Zsv (N:Fn) (G L S M D:Int):Qen N [I G,I L,I S,I M,I D]=
 cond (decide (D<O (0-G))) (some [B false]) (cond (decide (D>G)) (some [B false]) (cond (M==0) (cond (decide (D>L)) (some [B false]) ((N [I G,I L,I S,I (O (0-D))]).bind λo4=>
 cond (decide (M>=gA o4 0)) ((N [I G,I L,I S,I D]).bind λT=>
 some [B (decide (M<=O (16777216-gA T 0)))]) (some [B false]))) ((N [I G,I L,I S,I (O (0-D))]).bind λo6=>
 cond (decide (M>=gA o6 0)) ((N [I G,I L,I S,I D]).bind λU=>
 some [B (decide (M<=O (16777216-gA U 0)))]) (some [B false])))):=by kernel_rfl
def H8:=Qen GU
theorem Zo2:Ai PG (Qim GU):=Ao rfl ⟨Q6a,trivial⟩
theorem Q2f:Ak PG (Zjt H8):=rw1 (C:=Qim GU) Zo2
def Quk:Sk:=⟨[TS.tup [(false,[sa Aa]),(false,[sb])]],[],[]⟩
def Z0s:=qd 265 Qhu Quk
def Xz (D G I:Fn):Cfg:={cf [Q2i D,Zjt G,Zw I]with prom:=λb=>cond (Nat.beq b 4) ([(8,3)]) ([])}
def Q9h:Sk:=⟨[td,tf [ci],tf [ci],tf [sd 3 0],td,td,td,td,tf [se 8 1]]++dd 27,[(3,36,[ci,ci,ci])],[(8,3,Aa)]⟩
def Zbq:List (Ex×Sk):=[(Ex.ret,⟨dd 6++[tf [CS.nil],tf [sb]]++dd 28,[],[]⟩),(Ex.exit 0,⟨dd 8++[tf [se 8 1]]++dd 27,[],[(8,3,Aa)]⟩)]
def Th (D G I:Fn):Lp:=AG PG (Xz D G I) 64 4 (AH PG 265 4) Q9h Zbq
def Q6i (D G I:Fn) (L:Lp):Cfg:=(Xz D G I).loop 4 Q9h Zbq L
def Qhr (D G I:Fn) (L:Lp):Fn:=An PG (Q6i D G I L) 64 265 Qhu Quk
theorem Z2j (T V X:Fn) (G:Rw) (D U M N S:Int):Th T V X [.vC Aa G,I D,I U,I M,I N,I S]=
 cond (decide (D>0)) (cond ((G.length:Int)==4096) (some (1,[B false])) ((T [I M,I N,I S,I D,I U]).bind λL=>
 cond (((G++[[I (O (D+gA L 0))]]).length*8).ble 140737488355328) (some (0,[.vC Aa (G++[[I (O (D+gA L 0))]]),I (O (D+gA L 0)),jA L 0,I M,I N,I S])) (none))) (some (2,[.vC Aa G])):=by kernel_rfl
theorem Zl5 (Y U V:Fn) (X:Lp) (G L M N O:Int):Qhr Y U V X [I G,I L,I M,I N,I O]=
 (V [I G,I L,I M]).bind λS=>
 cond (!bA S 0) (some [.vC Aa [],B false]) ((U [I G,I L,I M,I N,I O]).bind λT=>
 cond (!bA T 0) (some [.vC Aa [],B false]) ((X [.vC Aa [],I N,I O,I G,I L,I M]).bind λD=>
 cond (D.1.beq 1) (some [.vC Aa [],B (bA D.2 0)]) (cond (D.1.beq 2) (some [.vC Aa (wA D.2 0),B true]) (none)))):=by kernel_rfl
def Za2:=Al (Th HM H8 Fs)
def Ox:=Qhr HM H8 Fs Za2
theorem Zeh:Ai PG (Xz HM H8 Fs):=Ao rfl ⟨Q6h,Q2f,Qsh,trivial⟩
theorem Zmx:Ak PG (Z0s Ox):=rw2 (C:=Q6i HM H8 Fs Za2) (fl fb Zeh) Zeh
def Qiv:Sk:=⟨[TS.v true [ci,ci,ci],TS.v true (cc 6)],[],[]⟩
def ZL:=qd 240 Qiv Quk
def Qks (D:Fn):Cfg:=cf [Z0s D]
def Zck:Sk:=⟨dd 8++[tf [se 25 1],tf [ci]]++dd 18++[tf [sa Aa],tf [ci],tf [ci]]++dd 13,[],[(25,3,Aa)]⟩
def Zc8:List (Ex×Sk):=[(Ex.exit 0,⟨dd 8++[tf [se 25 1]]++dd 35,[],[(25,3,Aa)]⟩)]
def TJ (D:Fn):Lp:=AG PG (Qks D) 64 7 (AH PG 240 7) Zck Zc8
def Q8v (D:Fn) (G:Lp):Cfg:=(Qks D).loop 7 Zck Zc8 G
def Qtd (D:Fn) (G:Lp):Fn:=An PG (Q8v D G) 64 240 Qiv Quk
theorem Z3d (S:Fn) (L:Rw) (M:Int) (G:Rw) (N D:Int):TJ S [.vC Aa L,I M, .vC Aa G,I N,I D]=
 cond (decide (D<N)) (cond (decide (0<=D)&&decide (D<(G.length:Int))) (cond (decide (0<=D)&&decide (D<(L.length:Int))) (some (0,[.vC Aa (L.set D.toNat [I (O (M+gA (nth [] G D.toNat) 0))]),I (O (M+gA (nth [] G D.toNat) 0)), .vC Aa G,I N,I (O (D+1))])) (none)) (none)) (some (1,[.vC Aa L])):=by kernel_rfl
theorem Z10 (D:Fn) (G:Lp) (L M N O S T U V X:Int):Qtd D G [I L,I M,I N,I O,I S,I T,I U,I V,I X]=
 (D [I L,I M,I N,I S,I T]).bind λo3=>
 cond (!bA o3 1) (some [.vC Aa [],B false]) (cond (decide ((↑(wA o3 0).length:Int)=(↑(wA o3 0).length:Int))) (cond (decide (0<=(↑(wA o3 0).length:Int))&&decide ((↑(wA o3 0).length:Int)*(↑8:Int)<=140737488355328)) ((G [.vC Aa (List.replicate (↑(wA o3 0).length:Int).toNat [I 0]),I O, .vC Aa (wA o3 0),I (↑(wA o3 0).length:Int),I 0]).bind λo4=>
 cond (o4.1.beq 1) (some [.vC Aa (wA o4.2 0),B true]) (none)) (none)) (none)):=by kernel_rfl
def Qzy:=Al (TJ Ox)
def Gy:=Qtd Ox Qzy
theorem Ze4:Ai PG (Qks Ox):=Ao rfl ⟨Zmx,trivial⟩
theorem Qj9:Ak PG (ZL Gy):=rw2 (C:=Q8v Ox Qzy) (fl fb Ze4) Ze4
def Qp6:Sk:=⟨[TS.v true [ci,ci,ci,sa Ag,sa kPt],TS.v true (cc 9++[sa Aa]++cc 9++[sa Aa]++cc 9++[sa Aa]),TS.v true ([sa Ap]++cc 5),TS.v true [ci,ci,ci],TS.v true (cc 6),tf [ci]],[],[]⟩
def Yfc:=qd 205 Qp6 V_
def ZN (D G:Fn):Cfg:={cf [Zj1 D,ZL G]with rowDst:=[48]}
def Qcm (D G:Fn):Fn:=An PG (ZN D G) 64 205 Qp6 V_
theorem Zmg (Y CJ:Fn) (S T U D V X G L M N:Int) (p:Pth) (x:Ax3) (t:Trk):Qcm Y CJ (pxt p x t [I S,I T,I U,I D,I V,I X,I G,I L,I M,I N])=
 (CJ [I S,I T,I U,I D,I V,I X,I G,I L,I M]).bind λo3=>
 cond (!bA o3 1) (some [B false]) (cond (decide ((↑(wA o3 0).length:Int)>0)) (cond (decide (0<=O ((↑(wA o3 0).length:Int)-1))&&decide (O ((↑(wA o3 0).length:Int)-1)<(↑(wA o3 0).length:Int))) (cond (decide (Ah (nth .vD (nth [] (wA o3 0) (O ((↑(wA o3 0).length:Int)-1)).toNat) 0)>O (N*256))) (some [B false]) (cond ((([[I M],[I L],[I G],[I D]]++wA o3 0).length*8).ble 140737488355328) (cond ((([[I M],[I L],[I G],[I D]]++wA o3 0++[[I (Ah (nth .vD (nth [] (wA o3 0) (O ((↑(wA o3 0).length:Int)-1)).toNat) 0))],[I (Ah (nth .vD (nth [] (wA o3 0) (O ((↑(wA o3 0).length:Int)-1)).toNat) 0))]]).length*8).ble 140737488355328) ((Y (pxt p x t [.vC Aa ([[I M],[I L],[I G],[I D]]++wA o3 0++[[I (Ah (nth .vD (nth [] (wA o3 0) (O ((↑(wA o3 0).length:Int)-1)).toNat) 0))],[I (Ah (nth .vD (nth [] (wA o3 0) (O ((↑(wA o3 0).length:Int)-1)).toNat) 0))]])])).bind λo4=>
 some [B (bA o4 0)]) (none)) (none))) (none)) (cond (decide (D>O (N*256))) (some [B false]) (cond ((([[I M],[I L],[I G],[I D]]++wA o3 0).length*8).ble 140737488355328) (cond ((([[I M],[I L],[I G],[I D]]++wA o3 0++[[I D],[I D]]).length*8).ble 140737488355328) ((Y (pxt p x t [.vC Aa ([[I M],[I L],[I G],[I D]]++wA o3 0++[[I D],[I D]])])).bind λo5=>
 some [B (bA o5 0)]) (none)) (none)))):=by kernel_rfl
def OM:=Qcm Rk Gy
theorem Ztr:Ai PG (ZN Rk Gy):=Ao rfl ⟨Yff,Qj9,trivial⟩
theorem Z0r:Ak PG (Yfc OM):=rw1 (C:=ZN Rk Gy) Ztr
def Qs1:Sk:=⟨[TS.v true [ci,ci,sb,sb,sb],TS.v true [ci,ci,ci],TS.v true (cc 7)],[],[]⟩
def Z9o:=qd 267 Qs1 Zb
def Qoi:Fn:=An PG Qj1 64 267 Qs1 Zb
theorem Yc7 (L M:Int) (U X Y:Bool) (x5 x6 V x8 x9 N S T D G:Int):Qoi [I L,I M,B U,B X,B Y,I x5,I x6,I V,I x8,I x9,I N,I S,I T,I D,I G]=
 cond (U) (some [I 0]) (cond (G !=0) (some [I (mn (mx D 1) 16777216)]) (cond (D==0) (cond (M==0) (some [I 0]) (some [I (mn (mx (O ((O (V*M)).tdiv 100)) 1) 16777216)])) (cond (L==0) (some [I 0]) (some [I (mn (mx (O ((O (D*L)).tdiv 100)) 1) 16777216)])))):=by kernel_rfl
def Ro:=Qoi
theorem Yce:Ai PG (Qj1):=Ao rfl trivial
theorem Z38:Ak PG (Z9o Ro):=rw1 (C:=Qj1) Yce
def Qlw:Sk:=⟨[TS.v true [ci,ci,ci,sa Ag,sa kPt],TS.v true ([sa Ap]++cc 5),TS.v true [ci,ci,ci],TS.v true [ci,ci,sb,sb,sb],tf [ci]],[],[]⟩
def Z9n:=qd 241 Qlw Zb
def Qfr (D G I L:Fn):Cfg:=cf [Z9o D,Qk5 G,Uq I,Q64 L]
def Qm6 (D G I L:Fn):Fn:=An PG (Qfr D G I L) 64 241 Qlw Zb
theorem Zwo (V X Y D0:Fn) (D G L M N:Int) (O S T:Bool) (U:Int) (p:Pth) (t:Trk):Qm6 V X Y D0 (Fg p t [I D,I G,I L,I M,I N,B O,B S,B T,I U])=
 (D0 [I U]).bind λo4=>
 (Y (Bu t++[jA o4 0])).bind λo5=>
 (X (Bj p++[jA o5 0])).bind λo6=>
 cond (decide (0<=gA o6 0)&&decide (gA o6 0<((p.aF.map Az).length:Int))) ((V (I M::I N::B O::B S::B T::I D::I G::I L::AF Ag (nth [] (p.aF.map Az) (gA o6 0).toNat))).bind λo7=>
 some [jA o7 0]) (none):=by kernel_rfl
def NT:=Qm6 Ro EL ES IY
theorem Yij:Ai PG (Qfr Ro EL ES IY):=Ao rfl ⟨Z38,Qay,UY,Ziu,trivial⟩
theorem Zzb:Ak PG (Z9n NT):=rw1 (C:=Qfr Ro EL ES IY) Yij
def Qc1:Sk:=⟨[TS.v true [ci,ci,ci,sa Ag,sa kPt],TS.v true ([sa Ap]++cc 5),TS.v true [ci,ci,ci],TS.v true [ci,ci,sb,sb,sb],TS.v true (cc 6)],[],[]⟩
def Zwd:=qd 204 Qc1 V_
def Qf4 (D G:Fn):Cfg:=cf [Z9n D,ZL G]
def Q1y:Sk:=⟨[td,td,td,td,td,tf [sd 5 0],tf [sd 6 0],tf [sd 7 0],tf [sd 8 0],td,td,td,td,tf [ci]]++dd 30++[tf [sa Aa],tf [ci],tf [ci]]++dd 15,[(5,46,[ci,ci,ci,sa Ag,sa kPt]),(6,52,[sa Ap]++cc 5),(7,36,[ci,ci,ci]),(8,163,[ci,ci,sb,sb,sb])],[]⟩
def Zgh:List (Ex×Sk):=[(Ex.ret,⟨dd 10++[tf [sb]]++dd 51,[],[]⟩),(Ex.exit 0,⟨[td]++dd 61,[],[]⟩)]
def X_ (D G:Fn):Lp:=AG PG (Qf4 D G) 64 6 (AH PG 204 6) Q1y Zgh
def Zat (D G:Fn) (I:Lp):Cfg:=(Qf4 D G).loop 6 Q1y Zgh I
def Qk7 (D G:Fn) (I:Lp):Fn:=An PG (Zat D G I) 64 204 Qc1 V_
theorem Zq3 (V Y:Fn) (X:Int) (T:Rw) (U D:Int) (G L M N S:Int) (v20 v21 v22:Bool) (p:Pth) (t:Trk):X_ V Y (I X:: .vC Aa T::I U::I D::Fg p t [I G,I L,I M,I N,I S,B v20,B v21,B v22])=
 cond (decide (D<U)) (cond (decide (0<=D)&&decide (D<(T.length:Int))) ((V (Fg p t [I G,I L,I M,I N,I S,B v20,B v21,B v22,jA (nth [] T D.toNat) 0])).bind λo6=>
 cond (decide (O (gA (nth [] T D.toNat) 0-X)>gA o6 0)) (some (1,[B false])) (some (0,(jA (nth [] T D.toNat) 0:: .vC Aa T::I U::I (O (D+1))::Fg p t [I G,I L,I M,I N,I S,B v20,B v21,B v22])))) (none)) (some (2,[])):=by kernel_rfl
theorem Zr3 (Gk CJ:Fn) (N6:Lp) (D G L N O:Int) (S T U:Bool) (M V X Y a0 a1:Int) (p:Pth) (t:Trk):Qk7 Gk CJ N6 (Fg p t [I D,I G,I L,I N,I O,B S,B T,B U,I M,I V,I X,I Y,I a0,I a1])=
 (CJ [I D,I G,I L,I M,I V,I X,I Y,I a0,I a1]).bind λo7=>
 cond (!bA o7 1) (some [B false]) (cond (((p.aF.map Az).length:Int)==0) (some [B false]) ((Gk (Fg p t [I D,I G,I L,I N,I O,B S,B T,B U,I M])).bind λo8=>
 cond (decide (V>gA o8 0)) (some [B false]) ((N6 (I M:: .vC Aa (wA o7 0)::I (↑(wA o7 0).length:Int)::I 0::Fg p t [I D,I G,I L,I N,I O,B S,B T,B U])).bind λo9=>
 cond (o9.1.beq 1) (some [B (bA o9.2 0)]) (cond (o9.1.beq 2) (some [B true]) (none))))):=by kernel_rfl
def Q4v:=Al (X_ NT Gy)
def Pp:=Qk7 NT Gy Q4v
theorem Zfs:Ai PG (Qf4 NT Gy):=Ao rfl ⟨Zzb,Qj9,trivial⟩
theorem Zqc:Ak PG (Zwd Pp):=rw2 (C:=Zat NT Gy Q4v) (fl fb Zfs) Zfs
def Qcv:Sk:=⟨[TS.v true (cc 6),tf [ci]],[],[]⟩
def Qnd:Sk:=⟨[TS.v true (cc 6)],[],[]⟩
def Z7u:=qd 203 Qcv Qnd
def V5:Fn:=An PG Qj1 64 203 Qcv Qnd
theorem Ydh (G L S M N T D:Int):V5 [I G,I L,I S,I M,I N,I T,I D]=
 some [I (O (G+D)),I D,I (O (D-L)),I G,I M,I N]:=by kernel_rfl
def Ps:=V5
theorem Yh8:Ai PG (Qj1):=Ao rfl trivial
theorem Z1f:Ak PG (Z7u Ps):=rw1 (C:=Qj1) Yh8
def Z4f:=qd 201 Zb Qjj
def Qx8:Sk:=⟨[td,td,td,tf [se 3 1],tf [ci]]++dd 32,[],[(3,3,Aa)]⟩
def Qzs:List (Ex×Sk):=[(Ex.exit 0,⟨[td,td,td,tf [se 3 1]]++dd 33,[],[(3,3,Aa)]⟩)]
def Ru:Lp:=AG PG C_limits_Differences_0 64 3 (AH PG 201 3) Qx8 Qzs
def Zc5 (D:Lp):Cfg:=C_limits_Differences_0.loop 3 Qx8 Qzs D
def Q27:Sk:=⟨[td,td,td,tf [se 3 1],td,tf [se 16 1],tf [ci]]++dd 30,[],[(3,3,Aa),(16,3,Aa)]⟩
def Zet:List (Ex×Sk):=[(Ex.exit 2,⟨[td,td,td,td,td,tf [se 16 1]]++dd 31,[],[(16,3,Aa)]⟩)]
def Sr (D:Lp):Lp:=AG PG (Zc5 D) 64 8 (AH PG 201 8) Q27 Zet
def Zay (D G:Lp):Cfg:=(Zc5 D).loop 8 Q27 Zet G
def Qau (D G:Lp):Fn:=An PG (Zay D G) 64 201 Zb Qjj
theorem Zpy (G:Rw) (D:Int):Ru [.vC Aa G,I D]=
 cond (decide (D>0)) (cond (((G++[[I D]]).length*8).ble 140737488355328) (some (0,[.vC Aa (G++[[I D]]),I (O (D.tdiv 2))])) (none)) (some (1,[.vC Aa G])):=by kernel_rfl
theorem Z9y (M:Lp) (G L:Rw) (D:Int):Sr M [.vC Aa G, .vC Aa L,I D]=
 cond (decide (D>=0)) (cond (decide (0<=D)&&decide (D<(G.length:Int))) (cond (((L++[[I (O (0-gA (nth [] G D.toNat) 0))]]).length*8).ble 140737488355328) (some (0,[.vC Aa G, .vC Aa (L++[[I (O (0-gA (nth [] G D.toNat) 0))]]),I (O (D-1))])) (none)) (none)) (some (1,[.vC Aa L])):=by kernel_rfl
theorem Zy4 (D G:Lp) (L:Int):Qau D G [I L]=
 (D [.vC Aa [],I L]).bind λo3=>
 cond (o3.1.beq 1) (cond ((([]++wA o3.2 0).length*8).ble 140737488355328) (cond ((([]++wA o3.2 0++[[I 0]]).length*8).ble 140737488355328) ((G [.vC Aa (wA o3.2 0), .vC Aa ([]++wA o3.2 0++[[I 0]]),I (O ((↑(wA o3.2 0).length:Int)-1))]).bind λo4=>
 cond (o4.1.beq 1) (some [.vC Aa (wA o4.2 0)]) (none)) (none)) (none)) (none):=by kernel_rfl
def Qs6:=Al (Ru)
def Q9a:=Al (Sr Qs6)
def P1:=Qau Qs6 Q9a
theorem Yj:Ai PG (C_limits_Differences_0):=Ao rfl trivial
theorem Ykd:Ak PG (Z4f P1):=rw2 (C:=Zay Qs6 Q9a) (fl (fl fb Yj) Yj) Yj
def Qud:Sk:=⟨[TS.v true [ci,ci,ci,sa Ag,sa kPt],TS.v true (cc 9++[sa Aa]++cc 9++[sa Aa]++cc 9++[sa Aa]),TS.v true ([sa Ap]++cc 5),TS.v true [ci,ci,ci],TS.v true [ci,ci,sb,sb,sb],TS.v true (cc 6),tf [ci]],[],[]⟩
def Q5r:=qd 157 Qud Qnd
def Qpo (D G I L M N:Fn):Cfg:=cf [Q2i D,Yfc G,Zwd I,Z7u L,Zjt M,Z4f N]
def Q9j:Sk:=⟨dd 6++[tf [ci],tf [sd 7 0],tf [sd 8 0],tf [sd 9 0],tf [sd 10 0],tf [sd 11 0],tf [sd 12 0],td,tf [sd 14 0],tf [sd 15 0],tf [sb]]++dd 6++[tf [sa Aa],tf [ci],tf [ci]]++dd 57,[(7,46,[ci,ci,ci,sa Ag,sa kPt]),(8,34,cc 9++[sa Aa]++cc 9++[sa Aa]++cc 9++[sa Aa]),(9,52,[sa Ap]++cc 5),(10,36,[ci,ci,ci]),(11,163,[ci,ci,sb,sb,sb]),(12,171,cc 6),(14,171,cc 6),(15,171,cc 6)],[]⟩
def Q9e:List (Ex×Sk):=[(Ex.exit 0,⟨dd 10++[tf [sd 10 0],td,tf [sd 12 0],td,tf [sd 14 0],tf [sd 15 0],tf [sb]]++dd 66,[(10,36,[ci,ci,ci]),(12,171,cc 6),(14,171,cc 6),(15,171,cc 6)],[]⟩)]
def Qq6 (D G I L M N:Fn):Lp:=AG PG (Qpo D G I L M N) 64 4 (AH PG 157 4) Q9j Q9e
def Q8d (D G I L M N:Fn) (O:Lp):Cfg:=(Qpo D G I L M N).loop 4 Q9j Q9e O
def Qpj (D G I L M N:Fn) (O:Lp):Fn:=An PG (Q8d D G I L M N O) 64 157 Qud Qnd
theorem Z1r (B_ GL GO ER C2 Hy:Fn) (v0:Int) (v1:Bool) (v2:Rw) (v3 v4:Int) (v46 M v48 v49 a0:Int) (v51 a1 v53:Bool) (N L G S T v59 U V X v63 Y v65 a2 a3 v68 v69 v70 a4:Int) (p:Pth) (x:Ax3) (t:Trk):Qq6 B_ GL GO ER C2 Hy (I v0::B v1:: .vC Aa v2::I v3::I v4::pxt p x t [I v46,I M,I v48,I v49,I a0,B v51,B a1,B v53,I N,I L,I G,I S,I T,I v59,I U,I V,I X,I v63,I Y,I v65,I a2,I a3,I v68,I v69,I v70,I a4])=
 cond (decide (v4<v3)) (cond (decide (0<=v4)&&decide (v4<(v2.length:Int))) (cond (decide (O (L+O (G+gA (nth [] v2 v4.toNat) 0))<0)) (some (0,(I v0::B v1:: .vC Aa v2::I v3::I (O (v4+1))::pxt p x t [I v46,I M,I v48,I v49,I a0,B v51,B a1,B v53,I N,I L,I G,I S,I T,I v59,I U,I V,I X,I v63,I Y,I v65,I a2,I a3,I v68,I v69,I v70,I a4]))) ((C2 [I v46,I M,I v48,I (O (L+O (G+gA (nth [] v2 v4.toNat) 0))),I (O (G+gA (nth [] v2 v4.toNat) 0))]).bind λo9=>
 cond (!bA o9 0) (some (0,(I v0::B v1:: .vC Aa v2::I v3::I (O (v4+1))::pxt p x t [I v46,I M,I v48,I v49,I a0,B v51,B a1,B v53,I N,I L,I G,I S,I T,I v59,I U,I V,I X,I v63,I Y,I v65,I a2,I a3,I v68,I v69,I v70,I a4]))) ((ER [I N,I L,I G,I S,I T,I v59,I (O (L+O (G+gA (nth [] v2 v4.toNat) 0)))]).bind λD=>
 (GO (Fg p t [I v46,I M,I v48,I v49,I a0,B v51,B a1,B v53,jA D 0,jA D 1,jA D 2,jA D 3,jA D 4,jA D 5])).bind λa5=>
 cond (bA a5 0) ((GL (pxt p x t [I v46,I M,I v48,jA D 0,jA D 1,jA D 2,jA D 3,jA D 4,jA D 5,I v0])).bind λa6=>
 cond (bA a6 0) (some (1,[B true,I v46,I M,I v48,I N,I L,I G,I S,I T,I v59,I U,I V,I X,I v63,I Y,I v65,jA D 0,jA D 1,jA D 2,jA D 3,jA D 4,jA D 5])) (some (0,(I v0::B v1:: .vC Aa v2::I v3::I (O (v4+1))::pxt p x t [I v46,I M,I v48,I v49,I a0,B v51,B a1,B v53,I N,I L,I G,I S,I T,I v59,I U,I V,I X,I v63,I Y,I v65,jA D 0,jA D 1,jA D 2,jA D 3,jA D 4,jA D 5])))) (some (0,(I v0::B v1:: .vC Aa v2::I v3::I (O (v4+1))::pxt p x t [I v46,I M,I v48,I v49,I a0,B v51,B a1,B v53,I N,I L,I G,I S,I T,I v59,I U,I V,I X,I v63,I Y,I v65,jA D 0,jA D 1,jA D 2,jA D 3,jA D 4,jA D 5])))))) (none)) (some (1,[B v1,I v46,I M,I v48,I N,I L,I G,I S,I T,I v59,I U,I V,I X,I v63,I Y,I v65,I a2,I a3,I v68,I v69,I v70,I a4])):=by kernel_rfl
theorem Ydi (B_ GL GO ER C2 Hy:Fn) (N4:Lp) (M L N S T:Int) (U V X:Bool) (Y a0 a1 a2 a3 a4 a5:Int) (p:Pth) (x:Ax3) (t:Trk):Qpj B_ GL GO ER C2 Hy N4 (pxt p x t [I M,I L,I N,I S,I T,B U,B V,B X,I Y,I a0,I a1,I a2,I a3,I a4,I a5])=
 (Hy [I L]).bind λa6=>
 (N4 (I a5::B false:: .vC Aa (wA a6 0)::I (↑(wA a6 0).length:Int)::I 0::pxt p x t [I M,I L,I N,I S,I T,B U,B V,B X,I Y,I a0,I a1,I a2,I a3,I a4,I 0,I 0,I 0,I 0,I 0,I 0,I 0,I 0,I 0,I 0,I 0,I 0])).bind λD=>
 cond (D.1.beq 1) (cond (bA D.2 0) (some [jA D.2 16,jA D.2 17,jA D.2 18,jA D.2 19,jA D.2 20,jA D.2 21]) ((B_ [jA D.2 1,jA D.2 2,jA D.2 3,jA D.2 5,jA D.2 6]).bind λa7=>
 (ER [jA D.2 4,jA D.2 5,jA D.2 6,jA D.2 7,jA D.2 8,jA D.2 9,I (O (gA D.2 5+gA a7 0))]).bind λG=>
 some [jA G 0,jA G 1,jA G 2,jA G 3,jA G 4,jA G 5])) (none):=by kernel_rfl
def Zbj:=Al (Qq6 HM OM Pp Ps H8 P1)
def I6:=Qpj HM OM Pp Ps H8 P1 Zbj
theorem Qw7:Ai PG (Qpo HM OM Pp Ps H8 P1):=Ao rfl ⟨Q6h,Z0r,Zqc,Z1f,Q2f,Ykd,trivial⟩
theorem Zi9:Ak PG (Q5r I6):=rw2 (C:=Q8d HM OM Pp Ps H8 P1 Zbj) (fl fb Qw7) Qw7
attribute [go_sem] QG Qu9 Wf Qod Mz Qq3 Qp3 Qh2 RW UE WX VF Ud VH WI XP Qad PL RA Quf Sl
end Go.Bm
