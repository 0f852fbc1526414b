/- functions of the program and of the references, as models -/
import Derived.Test.YtnnpdlgenmnekaaGreatSeShelf
import Derived.Test.YtnnpdlgenmnekaaGreatSeExt
import Derived.Test.YtnnpdlgenmnekaaGreatSePre
import Derived.Test.YtnnpdlgenmnekaaGreatSeKc
import Derived.Test.YtnnpdlgenmnekaaGreatSeStep
import Derived.Test.YtnnpdlgenmnekaaGreatBmTy
set_option linter.unusedSimpArgs false
set_option linter.unusedVariables false
set_option maxRecDepth 100000
noncomputable section
open Go.IntKind (wrap)
namespace Go.Bm
open Go.Proofs
def qa (n:Nat) (s o:Sk) (M:Fn):Nat×Spec:=(n,Ad s o M)
def Qfq:Sk:=⟨[tf [sc 20000 0]],[(20000,95,cS)],[]⟩
def Qb0:Sk:=⟨[tf [ci]],[(20000,95,cS)],[]⟩
def Zn4:=qa 43 Qfq Qb0
def Qaf:Cfg:=cf []
def Qeq:Fn:=Al PG Qaf 64 43 Qfq Qb0
theorem Zsk (K:Kf) (c:Cv):Qeq (AD K c)=
 some (I c.outs::AD K c):=by kernel_rfl
def PA:=Qeq
theorem Zri:Aj PG (Qaf):=Am rfl trivial
theorem Zo2:Ak PG (Zn4 PA):=rw1 (C:=Qaf) Zri
def XM:Sk:=⟨[TS.v true [ci,ci,ci,ci]],[(20000,95,cS)],[]⟩
def Zf5:=qa 42 Qfq XM
def Vr:Fn:=Al PG Qaf 64 42 Qfq XM
theorem Zex (K:Kf) (c:Cv):Vr (AD K c)=
 some (I c.s0::I c.s1::I c.s2::I c.s3::AD K c):=by kernel_rfl
def Pq:=Vr
theorem Zq6:Aj PG (Qaf):=Am rfl trivial
theorem Zo6:Ak PG (Zf5 Pq):=rw1 (C:=Qaf) Zq6
def Qg2:Sk:=⟨[TS.v true [ci,ci,ci]],[(20000,95,cS)],[]⟩
def Zck:=qa 41 Qfq Qg2
def Xr:Fn:=Al PG Qaf 64 41 Qfq Qg2
theorem Q8u (K:Kf) (c:Cv):Xr (AD K c)=
 some (I c.g0::I c.g1::I c.g2::AD K c):=by kernel_rfl
def RZ:=Xr
theorem Zrx:Aj PG (Qaf):=Am rfl trivial
theorem Zox:Ak PG (Zck RZ):=rw1 (C:=Qaf) Zrx
def Qia:Sk:=⟨[TS.v true [ci,ci,sb,sb,sb]],[(20000,95,cS)],[]⟩
def Q87:=qa 40 Qfq Qia
def Zp:Fn:=Al PG Qaf 64 40 Qfq Qia
theorem Zuc (K:Kf) (c:Cv):Zp (AD K c)=
 some (I c.o0::I c.o1::B c.o2::B c.o3::B c.o4::AD K c):=by kernel_rfl
def Qi:=Zp
theorem Zgs:Aj PG (Qaf):=Am rfl trivial
theorem Zth:Ak PG (Q87 Qi):=rw1 (C:=Qaf) Zgs
def U6:Sk:=⟨[TS.v true (cc 6)],[(20000,95,cS)],[]⟩
def Zsw:=qa 39 Qfq U6
def U8:Fn:=Al PG Qaf 64 39 Qfq U6
theorem Zmd (K:Kf) (c:Cv):U8 (AD K c)=
 some (I c.m0::I c.m1::I c.m2::I c.m3::I c.m4::I c.m5::AD K c):=by kernel_rfl
def PR:=U8
theorem Zoc:Aj PG (Qaf):=Am rfl trivial
theorem Zb8:Ak PG (Zsw PR):=rw1 (C:=Qaf) Zoc
def Qh9:Sk:=⟨[TS.v true ([sa Ao]++cc 5),TS.v true ([sa Ao]++cc 5)],[],[]⟩
def WT:Sk:=⟨[tf [sb]],[],[]⟩
def Zg9:=qa 37 Qh9 WT
def Qpm:Sk:=⟨[td,td,tf [sc 2 0],tf [sc 3 0]]++dd 32++[tf [ci],tf [ci]]++dd 14,[(2,85,[sa Ao]++cc 5),(3,85,[sa Ao]++cc 5)],[]⟩
def Q02:List (Ex×Sk):=[(Ex.ret,⟨[td,td,td,td,tf [sb]]++dd 47,[],[]⟩),(Ex.exit 0,⟨[td]++dd 51,[],[]⟩)]
def Rk:Lp:=A4 PG Qaf 64 4 (A3 PG 37 4) Qpm Q02
def Qwa (D:Lp):Cfg:=Qaf.loop 4 Qpm Q02 D
def Qy4 (D:Lp):Fn:=Al PG (Qwa D) 64 37 Qh9 WT
theorem Qpz (v0 D:Int) (E:Rw) (L M N S T:Int) (G:Rw) (U v10 v11 v12 J:Int):Rk [I v0,I D, .vC Ao E,I L,I M,I N,I S,I T, .vC Ao G,I U,I v10,I v11,I v12,I J]=
 cond (decide (D<v0)) (cond (decide (0<=D)&&decide (D<(E.length:Int))) (cond (decide (0<=D)&&decide (D<(G.length:Int))) (cond (!(gA (nth [] E D.toNat) 0==gA (nth [] G D.toNat) 0&&(gA (nth [] E D.toNat) 1==gA (nth [] G D.toNat) 1&&(gA (nth [] E D.toNat) 2==gA (nth [] G D.toNat) 2&&(gA (nth [] E D.toNat) 3==gA (nth [] G D.toNat) 3&&(gA (nth [] E D.toNat) 4==gA (nth [] G D.toNat) 4&&(gA (nth [] E D.toNat) 5==gA (nth [] G D.toNat) 5&&(gA (nth [] E D.toNat) 6==gA (nth [] G D.toNat) 6&&true))&&(gA (nth [] E D.toNat) 7==gA (nth [] G D.toNat) 7&&(gA (nth [] E D.toNat) 8==gA (nth [] G D.toNat) 8&&(gA (nth [] E D.toNat) 9==gA (nth [] G D.toNat) 9&&true))&&true))))))) (some (1,[B false])) (some (0,[I v0,I (O (D+1)), .vC Ao E,I L,I M,I N,I S,I T, .vC Ao G,I U,I v10,I v11,I v12,I J]))) (none)) (none)) (some (2,[])):=by kernel_rfl
theorem Ziu (X:Lp) (G:Rw) (J L M N O:Int) (S:Rw) (T U V D E:Int):Qy4 X [.vC Ao G,I J,I L,I M,I N,I O, .vC Ao S,I T,I U,I V,I D,I E]=
 cond (J !=T) (some [B false]) (cond (L !=U) (some [B false]) (cond (!(M==V&&(N==D&&(O==E&&true)))) (some [B false]) (cond ((G.length:Int) !=(S.length:Int)) (some [B false]) ((X [I (G.length:Int),I 0, .vC Ao G,I J,I L,I M,I N,I O, .vC Ao S,I T,I U,I V,I D,I E]).bind λo1=>
 cond (o1.1.beq 1) (some [B (bA o1.2 0)]) (cond (o1.1.beq 2) (some [B true]) (none)))))):=by kernel_rfl
def P4:=An (Rk)
def Mi:=Qy4 P4
theorem Q0i:Aj PG (Qaf):=Am rfl trivial
theorem Ze1:Ak PG (Zg9 Mi):=rw2 (C:=Qwa P4) (fl fb Q0i) Q0i
def TJ:Sk:=⟨[TS.v true ([sa Ao]++cc 5)],[(20000,95,cS)],[]⟩
def Zpq:=qa 38 Qfq TJ
def Qbb:Fn:=Al PG Qaf 64 38 Qfq TJ
theorem Zig (K:Kf) (c:Cv):Qbb (AD K c)=
 cond (((K.t.aE.map Bh).length*80).ble 140737488355328) (some (AS K.t++AD K c)) (none):=by kernel_rfl
def PZ:=Qbb
theorem Zfu:Aj PG (Qaf):=Am rfl trivial
theorem Za2:Ak PG (Zpq PZ):=rw1 (C:=Qaf) Zfu
def Qi1:Sk:=⟨[TS.v true [ci,ci,ci,sa Af,sa kPt],TS.v true [ci,ci,ci,sa Af,sa kPt]],[],[]⟩
def Zjo:=qa 35 Qi1 WT
def Q2d:Sk:=⟨[td,td,tf [sc 2 0],tf [sc 3 0]]++dd 28++[tf [ci],tf [ci]]++dd 32,[(2,82,[ci,ci,ci,sa Af,sa kPt]),(3,82,[ci,ci,ci,sa Af,sa kPt])],[]⟩
def Q0u:List (Ex×Sk):=[(Ex.ret,⟨[td,td,td,td,tf [sb]]++dd 61,[],[]⟩),(Ex.exit 0,⟨[td,td,tf [sc 2 0],tf [sc 3 0]]++dd 62,[(2,82,[ci,ci,ci,sa Af,sa kPt]),(3,82,[ci,ci,ci,sa Af,sa kPt])],[]⟩)]
def R7:Lp:=A4 PG Qaf 64 4 (A3 PG 35 4) Q2d Q0u
def Qmk (D:Lp):Cfg:=Qaf.loop 4 Q2d Q0u D
def Qxn:Sk:=⟨[td,td,tf [sc 2 0],tf [sc 3 0]]++dd 46++[tf [ci],tf [ci]]++dd 14,[(2,82,[ci,ci,ci,sa Af,sa kPt]),(3,82,[ci,ci,ci,sa Af,sa kPt])],[]⟩
def Qtm:List (Ex×Sk):=[(Ex.ret,⟨[td,td,td,td,tf [sb]]++dd 61,[],[]⟩),(Ex.exit 2,⟨[td]++dd 65,[],[]⟩)]
def QY (D:Lp):Lp:=A4 PG (Qmk D) 64 10 (A3 PG 35 10) Qxn Qtm
def Qss (E D:Lp):Cfg:=(Qmk E).loop 10 Qxn Qtm D
def Vd (E D:Lp):Fn:=Al PG (Qss E D) 64 35 Qi1 WT
theorem Q2n (v0 D G J L:Int) (E M:Rw) (N S T:Int) (v10 v11:Rw):R7 [I v0,I D,I G,I J,I L, .vC Af E, .vC kPt M,I N,I S,I T, .vC Af v10, .vC kPt v11]=
 cond (decide (D<v0)) (cond (decide (0<=D)&&decide (D<(E.length:Int))) (cond (decide (0<=D)&&decide (D<(v10.length:Int))) (cond (!(gA (nth [] E D.toNat) 0==gA (nth [] v10 D.toNat) 0&&(gA (nth [] E D.toNat) 1==gA (nth [] v10 D.toNat) 1&&(gA (nth [] E D.toNat) 2==gA (nth [] v10 D.toNat) 2&&true))&&(gA (nth [] E D.toNat) 3==gA (nth [] v10 D.toNat) 3&&(gA (nth [] E D.toNat) 4==gA (nth [] v10 D.toNat) 4&&(gA (nth [] E D.toNat) 5==gA (nth [] v10 D.toNat) 5&&(gA (nth [] E D.toNat) 6==gA (nth [] v10 D.toNat) 6&&true)))))) (some (1,[B false])) (some (0,[I v0,I (O (D+1)),I G,I J,I L, .vC Af E, .vC kPt M,I N,I S,I T, .vC Af v10, .vC kPt v11]))) (none)) (none)) (some (2,[I G,I J,I L, .vC Af E, .vC kPt M,I N,I S,I T, .vC Af v10, .vC kPt v11])):=by kernel_rfl
theorem Qsq (U:Lp) (v0 D G J L:Int) (M E:Rw) (N S T:Int) (v10 v11:Rw):QY U [I v0,I D,I G,I J,I L, .vC Af M, .vC kPt E,I N,I S,I T, .vC Af v10, .vC kPt v11]=
 cond (decide (D<v0)) (cond (decide (0<=D)&&decide (D<(E.length:Int))) (cond (decide (0<=D)&&decide (D<(v11.length:Int))) (cond (!(gA (nth [] E D.toNat) 0==gA (nth [] v11 D.toNat) 0&&(gA (nth [] E D.toNat) 1==gA (nth [] v11 D.toNat) 1&&(gA (nth [] E D.toNat) 2==gA (nth [] v11 D.toNat) 2&&true)))) (some (1,[B false])) (some (0,[I v0,I (O (D+1)),I G,I J,I L, .vC Af M, .vC kPt E,I N,I S,I T, .vC Af v10, .vC kPt v11]))) (none)) (none)) (some (2,[])):=by kernel_rfl
theorem Zgd (V D:Lp) (G J L:Int) (E M:Rw) (N O S:Int) (T U:Rw):Vd V D [I G,I J,I L, .vC Af E, .vC kPt M,I N,I O,I S, .vC Af T, .vC kPt U]=
 cond (!(G==N&&(J==O&&(L==S&&true)))) (some [B false]) (cond ((E.length:Int) !=(T.length:Int)) (some [B false]) (cond ((M.length:Int) !=(U.length:Int)) (some [B false]) ((V [I (E.length:Int),I 0,I G,I J,I L, .vC Af E, .vC kPt M,I N,I O,I S, .vC Af T, .vC kPt U]).bind λo3=>
 cond (o3.1.beq 1) (some [B (bA o3.2 0)]) (cond (o3.1.beq 2) ((D [I (↑(wA o3.2 4).length:Int),I 0,jA o3.2 0,jA o3.2 1,jA o3.2 2, .vC Af (wA o3.2 3), .vC kPt (wA o3.2 4),jA o3.2 5,jA o3.2 6,jA o3.2 7, .vC Af (wA o3.2 8), .vC kPt (wA o3.2 9)]).bind λo4=>
 cond (o4.1.beq 1) (some [B (bA o4.2 0)]) (cond (o4.1.beq 2) (some [B true]) (none))) (none))))):=by kernel_rfl
def RP:=An (R7)
def Yj:=An (QY RP)
def N0:=Vd RP Yj
theorem Qc1:Aj PG (Qaf):=Am rfl trivial
theorem Zfb:Ak PG (Zjo N0):=rw2 (C:=Qss RP Yj) (fl (fl fb Qc1) Qc1) Qc1
def Qdf:Sk:=⟨[TS.v true [ci,ci,ci,sa Af,sa kPt]],[(20000,95,cS)],[]⟩
def Zt8:=qa 36 Qfq Qdf
def ZP:Fn:=Al PG Qaf 64 36 Qfq Qdf
theorem Zjv (K:Kf) (c:Cv):ZP (AD K c)=
 cond (((K.p.aF.map Ax).length*56).ble 140737488355328) (cond (((K.p.aD.map A1).length*24).ble 140737488355328) (some (AA K.p++AD K c)) (none)) (none):=by kernel_rfl
def PN:=ZP
theorem Q7u:Aj PG (Qaf):=Am rfl trivial
theorem Q9s:Ak PG (Zt8 PN):=rw1 (C:=Qaf) Q7u
def Qh8:Sk:=⟨[tf [sc 20000 0],TS.v true (cc 10)],[(20000,85,[sd 20000 10]++cc 5)],[(20000,126,Ao)]⟩
def Qda:Sk:=⟨[TS.tup []],[(20000,85,[sd 20000 10]++cc 5)],[(20000,126,Ao)]⟩
def Zrr:=qa 86 Qh8 Qda
def ST:Fn:=Al PG Qaf 64 86 Qh8 Qda
theorem Qn7 (D:Rw) (x1 J X T Y x6 x7 U V G E L M N S:Int):ST [.vC Ao D,I x1,I J,I X,I T,I Y,I x6,I x7,I U,I V,I G,I E,I L,I M,I N,I S]=
 cond (decide ((D.length:Int)>0)) (cond (T !=0) (cond (decide (0<=O ((D.length:Int)-1))&&decide (O ((D.length:Int)-1)<(D.length:Int))) (cond (gA (nth [] D (O ((D.length:Int)-1)).toNat) 3==T) (cond (decide (0<=O ((D.length:Int)-1))&&decide (O ((D.length:Int)-1)<(D.length:Int))) (cond (gA (nth [] D (O ((D.length:Int)-1)).toNat) 7==U&&(gA (nth [] D (O ((D.length:Int)-1)).toNat) 8==V&&(gA (nth [] D (O ((D.length:Int)-1)).toNat) 9==G&&true))) (cond (decide (0<=O ((D.length:Int)-1))&&decide (O ((D.length:Int)-1)<(D.length:Int))) (cond (decide (0<=O ((D.length:Int)-1))&&decide (O ((D.length:Int)-1)<(D.length:Int))) (some [.vC Ao (D.set (O ((D.length:Int)-1)).toNat [jA (nth [] D (O ((D.length:Int)-1)).toNat) 0,I (O (gA (nth [] D (O ((D.length:Int)-1)).toNat) 1+J)),jA (nth [] D (O ((D.length:Int)-1)).toNat) 2,jA (nth [] D (O ((D.length:Int)-1)).toNat) 3,jA (nth [] D (O ((D.length:Int)-1)).toNat) 4,jA (nth [] D (O ((D.length:Int)-1)).toNat) 5,jA (nth [] D (O ((D.length:Int)-1)).toNat) 6,jA (nth [] D (O ((D.length:Int)-1)).toNat) 7,jA (nth [] D (O ((D.length:Int)-1)).toNat) 8,jA (nth [] D (O ((D.length:Int)-1)).toNat) 9]),I (O (E+J)),I L,I M,I N,I S]) (none)) (none)) (cond (((D++[[I E,I J,I X,I T,I Y,I x6,I x7,I U,I V,I G]]).length*80).ble 140737488355328) (some [.vC Ao (D++[[I E,I J,I X,I T,I Y,I x6,I x7,I U,I V,I G]]),I (O (E+J)),I L,I M,I N,I S]) (none))) (none)) (cond (((D++[[I E,I J,I X,I T,I Y,I x6,I x7,I U,I V,I G]]).length*80).ble 140737488355328) (some [.vC Ao (D++[[I E,I J,I X,I T,I Y,I x6,I x7,I U,I V,I G]]),I (O (E+J)),I L,I M,I N,I S]) (none))) (none)) (cond (((D++[[I E,I J,I X,I T,I Y,I x6,I x7,I U,I V,I G]]).length*80).ble 140737488355328) (some [.vC Ao (D++[[I E,I J,I X,I T,I Y,I x6,I x7,I U,I V,I G]]),I (O (E+J)),I L,I M,I N,I S]) (none))) (cond (((D++[[I E,I J,I X,I T,I Y,I x6,I x7,I U,I V,I G]]).length*80).ble 140737488355328) (some [.vC Ao (D++[[I E,I J,I X,I T,I Y,I x6,I x7,I U,I V,I G]]),I (O (E+J)),I L,I M,I N,I S]) (none)):=by kernel_rfl
def I5:=ST
theorem Zhb:Aj PG (Qaf):=Am rfl trivial
theorem Znr:Ak PG (Zrr I5):=rw1 (C:=Qaf) Zhb
def UA:Sk:=⟨[TS.v true (cc 9++[sa Aa]++cc 9++[sa Aa]++cc 9++[sa Aa]),TS.v true [ci,ci,ci],TS.v true [ci,ci,ci]],[],[]⟩
def Qg6:Sk:=⟨[tf [ci]],[],[]⟩
def Q3l:=qa 85 UA Qg6
def VR:Cfg:={cf []with unroll:=[3]}
def Qpl:Fn:=Al PG VR 64 85 UA Qg6
theorem Q9k (x0 x1 x2 x3 x4 x5 N x7 x8:Int) (x9:Rw) (T U V X Y a0 D a1 a2:Int) (a3:Rw) (a4 a5 a6 a7 a8 a9 E b0 b1:Int) (b2:Rw) (O L G S M J:Int):Qpl [I x0,I x1,I x2,I x3,I x4,I x5,I N,I x7,I x8, .vC Aa x9,I T,I U,I V,I X,I Y,I a0,I D,I a1,I a2, .vC Aa a3,I a4,I a5,I a6,I a7,I a8,I a9,I E,I b0,I b1, .vC Aa b2,I O,I L,I G,I S,I M,I J]=
 cond (O !=S) (cond (L !=M) (cond (G !=J) (some [I (mx (mx (mx 0 N) D) E)]) (some [I (mx (mx 0 N) D)])) (cond (G !=J) (some [I (mx (mx 0 N) E)]) (some [I (mx 0 N)]))) (cond (L !=M) (cond (G !=J) (some [I (mx (mx 0 D) E)]) (some [I (mx 0 D)])) (cond (G !=J) (some [I (mx 0 E)]) (some [I 0]))):=by kernel_rfl
def H3:=Qpl
theorem Q75:Aj PG (VR):=Am rfl trivial
theorem Zu1:Ak PG (Q3l H3):=rw1 (C:=VR) Q75
def Xl:Sk:=⟨[TS.v true [ci,ci,ci,sa Af,sa kPt],tf [ci]],[],[]⟩
def X2:Sk:=⟨[TS.v true [ci,ci,ci]],[],[]⟩
def Q37:=qa 122 Xl X2
def Qnz:Fn:=Al PG Qaf 64 122 Xl X2
theorem Zde (G J L:Int) (E M:Rw) (D:Int):Qnz [I G,I J,I L, .vC Af E, .vC kPt M,I D]=
 cond (decide (D<=0)) (some [I G,I J,I L]) (cond (decide (0<=O (D-1))&&decide (O (D-1)<(E.length:Int))) (some [jA (nth [] E (O (D-1)).toNat) 0,jA (nth [] E (O (D-1)).toNat) 1,jA (nth [] E (O (D-1)).toNat) 2]) (none)):=by kernel_rfl
def KR:=Qnz
theorem Znf:Aj PG (Qaf):=Am rfl trivial
theorem Zc5:Ak PG (Q37 KR):=rw1 (C:=Qaf) Znf
def Qje:Sk:=⟨[TS.v true [ci,ci,ci,sa Af,sa kPt],TS.v true [ci,ci,ci],tf [ci],tf [ci]],[],[]⟩
def Q7z:=qa 84 Qje X2
def Yn (D:Fn):Cfg:={cf [Q37 D]with unroll:=[3]}
def Zx (D:Fn):Fn:=Al PG (Yn D) 64 84 Qje X2
abbrev RM (G:Rw) (J:Int) (o1:List AC) (L:Int) (D:AC) (M:Int) (E:AC):Option (List AC):=
 cond (decide (O (O (gA (nth [] G J.toNat) 2-gA o1 2)*L)>0)) (some [D,E,I 1]) (cond (decide (O (O (gA (nth [] G J.toNat) 2-gA o1 2)*L)<0)) (some [D,E,I (-1)]) (some [D,E,I M]))
abbrev PX (E:Rw) (G:Int) (o1:List AC) (J L M:Int) (D:AC):Option (List AC):=
 cond (decide (O (O (gA (nth [] E G.toNat) 1-gA o1 1)*J)>0)) (RM E G o1 J D L (I 1)) (cond (decide (O (O (gA (nth [] E G.toNat) 1-gA o1 1)*J)<0)) (RM E G o1 J D L (I (-1))) (RM E G o1 J D L (I M)))
theorem Zsr (M:Fn) (N S T:Int) (E U:Rw) (V J L D G:Int):Zx M [I N,I S,I T, .vC Af E, .vC kPt U,I V,I J,I L,I D,I G]=
 (M [I N,I S,I T, .vC Af E, .vC kPt U,I D]).bind λo1=>
 cond (decide (0<=D)&&decide (D<(E.length:Int))) (cond (decide (O (O (gA (nth [] E D.toNat) 0-gA o1 0)*G)>0)) (PX E D o1 G L J (I 1)) (cond (decide (O (O (gA (nth [] E D.toNat) 0-gA o1 0)*G)<0)) (PX E D o1 G L J (I (-1))) (PX E D o1 G L J (I V)))) (none):=by kernel_rfl
def Ic:=Zx KR
theorem Zfs:Aj PG (Yn KR):=Am rfl ⟨Zc5,trivial⟩
theorem Zd4:Ak PG (Q7z Ic):=rw1 (C:=Yn KR) Zfs
def Yx:Sk:=⟨[TS.v true [ci,ci,ci,sa Af,sa kPt]],[],[]⟩
def Qol:=qa 34 Yx Qg6
def Qrg:Sk:=⟨[td,td,td,tf [ci],td,td,td,tf [sa Af],tf [ci],tf [ci]]++dd 9,[],[]⟩
def Qz2:List (Ex×Sk):=[(Ex.exit 0,⟨[td,td,td,tf [ci]]++dd 15,[],[]⟩)]
def RY:Lp:=A4 PG Qaf 64 3 (A3 PG 34 3) Qrg Qz2
def Qni (D:Lp):Cfg:=Qaf.loop 3 Qrg Qz2 D
def Qmb (D:Lp):Fn:=Al PG (Qni D) 64 34 Yx Qg6
theorem Qwv (v0:Int) (E:Rw) (G D:Int):RY [I v0, .vC Af E,I G,I D]=
 cond (decide (D<G)) (cond (decide (0<=D)&&decide (D<(E.length:Int))) (some (0,[I (O (v0+gA (nth [] E D.toNat) 3)), .vC Af E,I G,I (O (D+1))])) (none)) (some (1,[I v0])):=by kernel_rfl
theorem Zs2 (E:Lp) (G J L:Int) (D M:Rw):Qmb E [I G,I J,I L, .vC Af D, .vC kPt M]=
 (E [I 0, .vC Af D,I (D.length:Int),I 0]).bind λo1=>
 cond (o1.1.beq 1) (some [jA o1.2 0]) (none):=by kernel_rfl
def P3:=An (RY)
def Gu:=Qmb P3
theorem Qz4:Aj PG (Qaf):=Am rfl trivial
theorem Qtr:Ak PG (Qol Gu):=rw2 (C:=Qni P3) (fl fb Qz4) Qz4
def X0:Sk:=⟨[TS.v true [ci,ci,ci,sa Af,sa kPt],TS.v true (cc 9++[sa Aa]++cc 9++[sa Aa]++cc 9++[sa Aa]),TS.v true [ci,ci,ci],tf [ci],tf [ci]],[],[]⟩
def Qfn:Sk:=⟨[TS.v true ([sa Ao]++cc 5)],[],[]⟩
def Zsl:=qa 33 X0 Qfn
def VF (D E G I:Fn):Cfg:=cp [Zrr D,Q3l E,Q7z G,Qol I] [86]
def Qw6:Sk:=⟨[td,td,td,tf [ci],tf [ci],tf [sc 5 0],tf [sc 6 0],td,td,td,tf [sc 10 0],td,tf [sc 12 0],tf [ci],tf [sc 14 0],tf [ci]]++dd 30++[tf [ci],tf [ci]]++dd 72,[(5,82,[ci,ci,ci,sa Af,sa kPt]),(6,25,cc 9++[sa Aa]++cc 9++[sa Aa]++cc 9++[sa Aa]),(10,85,[sd 1010000 10]++cc 5),(12,85,[sd 1012000 10]++cc 5),(14,51,[ci,ci,ci])],[(1010000,126,Ao),(1012000,126,Ao)]⟩
def Qp1:List (Ex×Sk):=[(Ex.exit 0,⟨dd 10++[tf [sc 10 0],td,tf [sc 12 0]]++dd 107,[(10,85,[sd 1010000 10]++cc 5),(12,85,[sd 1012000 10]++cc 5)],[(1010000,126,Ao),(1012000,126,Ao)]⟩)]
def Rc (D E G I:Fn):Lp:=A4 PG (VF D E G I) 64 11 (A3 PG 33 11) Qw6 Qp1
def Qwu (E G I J:Fn) (D:Lp):Cfg:=(VF E G I J).loop 11 Qw6 Qp1 D
def Vj (E G I J:Fn) (D:Lp):Fn:=Al PG (Qwu E G I J D) 64 33 X0 Qfn
abbrev Z9 (DN:Fn) (S T U V X Y a0 v20 v21:Int) (v22:Rw) (a1 v24 v25 a2 v27 v28 a3 v30 v31:Int) (a4:Rw) (v33 a5 v35 v36 v37 v38 a6 v40 a7:Int) (v42:Rw) (v53 a8 a9:Int) (D:List AC) (Do:Fn) (v1:Rw) (v48 v49 b0 v51 b1:Int) (M:AC) (v4:Int) (v0:Rw) (v2 v3:Int) (N:AC) (v6 v7 v8 v9 v10:Int) (v11 v12:Rw) (b2 v44 b3 v46 b4:Int) (L:AC):Option (Nat×List AC):=
 (DN [I S,I T,I U,I V,I X,I Y,I a0,I v20,I v21, .vC Aa v22,I a1,I v24,I v25,I a2,I v27,I v28,I a3,I v30,I v31, .vC Aa a4,I v33,I a5,I v35,I v36,I v37,I v38,I a6,I v40,I a7, .vC Aa v42,I v53,I a8,I a9,jA D 0,jA D 1,jA D 2]).bind λb5=>
 cond (decide (gA b5 0>0)) ((Do [.vC Ao v1,I 0,jA b5 0,L,I 0,I v53,I a8,I a9,jA D 0,jA D 1,jA D 2,I v48,I v49,I b0,I v51,I b1]).bind λE=>
 (Do [.vC Ao (wA E 0),I 0,M,L,I v4,jA D 0,jA D 1,jA D 2,jA D 0,jA D 1,jA D 2,jA E 1,jA E 2,jA E 3,jA E 4,jA E 5]).bind λG=>
 some (0,[.vC Ao v0, .vC Ao (wA G 0),I v2,I v3,I v4,N,I v6,I (O (v7+1)),I v8,I v9,I v10, .vC Af v11, .vC kPt v12,I S,I T,I U,I V,I X,I Y,I a0,I v20,I v21, .vC Aa v22,I a1,I v24,I v25,I a2,I v27,I v28,I a3,I v30,I v31, .vC Aa a4,I v33,I a5,I v35,I v36,I v37,I v38,I a6,I v40,I a7, .vC Aa v42,I b2,I v44,I b3,I v46,I b4,jA G 1,jA G 2,jA G 3,jA G 4,jA G 5,jA D 0,jA D 1,jA D 2])) ((Do [.vC Ao v1,I 0,M,L,I v4,jA D 0,jA D 1,jA D 2,jA D 0,jA D 1,jA D 2,I v48,I v49,I b0,I v51,I b1]).bind λJ=>
 some (0,[.vC Ao v0, .vC Ao (wA J 0),I v2,I v3,I v4,N,I v6,I (O (v7+1)),I v8,I v9,I v10, .vC Af v11, .vC kPt v12,I S,I T,I U,I V,I X,I Y,I a0,I v20,I v21, .vC Aa v22,I a1,I v24,I v25,I a2,I v27,I v28,I a3,I v30,I v31, .vC Aa a4,I v33,I a5,I v35,I v36,I v37,I v38,I a6,I v40,I a7, .vC Aa v42,I b2,I v44,I b3,I v46,I b4,jA J 1,jA J 2,jA J 3,jA J 4,jA J 5,jA D 0,jA D 1,jA D 2]))
abbrev Qe3 (Ei:Fn) (v8 v9 v10:Int) (v11 v12:Rw) (v53 E G v4:Int) (DN:Fn) (L M N S T U V v20 v21:Int) (v22:Rw) (X v24 v25 Y v27 v28 a0 v30 v31:Int) (a1:Rw) (v33 a2 v35 v36 v37 v38 a3 v40 a4:Int) (v42:Rw) (Do:Fn) (v1:Rw) (v48 v49 a5 v51 a6:Int) (v0:Rw) (v2 v3 v6 v7 a7 v44 a8 v46 a9:Int) (b0 b1:Bool) (b2 b3 J D b4:AC):Option (Nat×List AC):=
 cond (b0) (cond (b1) ((Ei [I v8,I v9,I v10, .vC Af v11, .vC kPt v12,I v53,I E,I G,b2,I v4]).bind λb5=>
 cond (decide (v4<0)) (Z9 DN L M N S T U V v20 v21 v22 X v24 v25 Y v27 v28 a0 v30 v31 a1 v33 a2 v35 v36 v37 v38 a3 v40 a4 v42 v53 E G b5 Do v1 v48 v49 a5 v51 a6 J v4 v0 v2 v3 D v6 v7 v8 v9 v10 v11 v12 a7 v44 a8 v46 a9 b3) (Z9 DN L M N S T U V v20 v21 v22 X v24 v25 Y v27 v28 a0 v30 v31 a1 v33 a2 v35 v36 v37 v38 a3 v40 a4 v42 v53 E G b5 Do v1 v48 v49 a5 v51 a6 J v4 v0 v2 v3 D v6 v7 v8 v9 v10 v11 v12 a7 v44 a8 v46 a9 b4)) (some (0,[.vC Ao v0, .vC Ao v1,I v2,I v3,I v4,D,I v6,I (O (v7+1)),I v8,I v9,I v10, .vC Af v11, .vC kPt v12,I L,I M,I N,I S,I T,I U,I V,I v20,I v21, .vC Aa v22,I X,I v24,I v25,I Y,I v27,I v28,I a0,I v30,I v31, .vC Aa a1,I v33,I a2,I v35,I v36,I v37,I v38,I a3,I v40,I a4, .vC Aa v42,I a7,I v44,I a8,I v46,I a9,I v48,I v49,I a5,I v51,I a6,I v53,I E,I G]))) (none)
theorem Qs6 (Do DN Ei Dw:Fn) (v0 v1:Rw) (J L G D v6 E v8 v9 v10:Int) (v11 v12:Rw) (V X Y a0 a1 a2 a3 v20 v21:Int) (v22:Rw) (a4 v24 v25 a5 v27 v28 a6 v30 v31:Int) (a7:Rw) (v33 a8 v35 v36 v37 v38 a9 v40 b0:Int) (v42:Rw) (M v44 N v46 S v48 v49 T v51 U v53 b1 b2:Int):Rc Do DN Ei Dw [.vC Ao v0, .vC Ao v1,I J,I L,I G,I D,I v6,I E,I v8,I v9,I v10, .vC Af v11, .vC kPt v12,I V,I X,I Y,I a0,I a1,I a2,I a3,I v20,I v21, .vC Aa v22,I a4,I v24,I v25,I a5,I v27,I v28,I a6,I v30,I v31, .vC Aa a7,I v33,I a8,I v35,I v36,I v37,I v38,I a9,I v40,I b0, .vC Aa v42,I M,I v44,I N,I v46,I S,I v48,I v49,I T,I v51,I U,I v53,I b1,I b2]=
 cond (decide (E<v6)) (cond (decide (G<0)) (Qe3 Ei v8 v9 v10 v11 v12 v53 b1 b2 G DN V X Y a0 a1 a2 a3 v20 v21 v22 a4 v24 v25 a5 v27 v28 a6 v30 v31 a7 v33 a8 v35 v36 v37 v38 a9 v40 b0 v42 Do v1 v48 v49 T v51 U v0 J L v6 E M v44 N v46 S (decide (0<=O (O ((v11.length:Int)-1)-E))&&decide (O (O ((v11.length:Int)-1)-E)<(v11.length:Int))) (decide (mx (mn D (O (D+O (G*Ah (nth .dead (nth [] v11 (O (O ((v11.length:Int)-1)-E)).toNat) 3))))) (mn J L)<mn (mx D (O (D+O (G*Ah (nth .dead (nth [] v11 (O (O ((v11.length:Int)-1)-E)).toNat) 3))))) (mx J L))) (I (O (O ((v11.length:Int)-1)-E))) (I (mn (mx D (O (D+O (G*Ah (nth .dead (nth [] v11 (O (O ((v11.length:Int)-1)-E)).toNat) 3))))) (mx J L))) (I (O (mn (mx D (O (D+O (G*Ah (nth .dead (nth [] v11 (O (O ((v11.length:Int)-1)-E)).toNat) 3))))) (mx J L)-mx (mn D (O (D+O (G*Ah (nth .dead (nth [] v11 (O (O ((v11.length:Int)-1)-E)).toNat) 3))))) (mn J L)))) (I (O (D+O (G*Ah (nth .dead (nth [] v11 (O (O ((v11.length:Int)-1)-E)).toNat) 3))))) (I (mx (mn D (O (D+O (G*Ah (nth .dead (nth [] v11 (O (O ((v11.length:Int)-1)-E)).toNat) 3))))) (mn J L)))) (Qe3 Ei v8 v9 v10 v11 v12 v53 b1 b2 G DN V X Y a0 a1 a2 a3 v20 v21 v22 a4 v24 v25 a5 v27 v28 a6 v30 v31 a7 v33 a8 v35 v36 v37 v38 a9 v40 b0 v42 Do v1 v48 v49 T v51 U v0 J L v6 E M v44 N v46 S (decide (0<=E)&&decide (E<(v11.length:Int))) (decide (mx (mn D (O (D+O (G*gA (nth [] v11 E.toNat) 3)))) (mn J L)<mn (mx D (O (D+O (G*gA (nth [] v11 E.toNat) 3)))) (mx J L))) (I E) (I (mn (mx D (O (D+O (G*gA (nth [] v11 E.toNat) 3)))) (mx J L))) (I (O (mn (mx D (O (D+O (G*gA (nth [] v11 E.toNat) 3)))) (mx J L)-mx (mn D (O (D+O (G*gA (nth [] v11 E.toNat) 3)))) (mn J L)))) (I (O (D+O (G*gA (nth [] v11 E.toNat) 3)))) (I (mx (mn D (O (D+O (G*gA (nth [] v11 E.toNat) 3)))) (mn J L))))) (some (1,[.vC Ao v0, .vC Ao v1,I M,I v44,I N,I v46,I S,I v48,I v49,I T,I v51,I U])):=by kernel_rfl
theorem Zkr (Do DN Ei Dw:Fn) (S:Lp) (x0 x1 x2:Int) (x3 x4:Rw) (x5 x6 x7 x8 x9 T U V X:Int) (Y:Rw) (a0 a1 a2 a3 a4 a5 a6 a7 a8:Int) (a9:Rw) (b0 b1 b2 b3 b4 b5 b6 b7 b8:Int) (b9:Rw) (L M N J O:Int):Vj Do DN Ei Dw S [I x0,I x1,I x2, .vC Af x3, .vC kPt x4,I x5,I x6,I x7,I x8,I x9,I T,I U,I V,I X, .vC Aa Y,I a0,I a1,I a2,I a3,I a4,I a5,I a6,I a7,I a8, .vC Aa a9,I b0,I b1,I b2,I b3,I b4,I b5,I b6,I b7,I b8, .vC Aa b9,I L,I M,I N,I J,I O]=
 (Dw [I x0,I x1,I x2, .vC Af x3, .vC kPt x4]).bind λD=>
 cond (decide (mn (mx O 0) (gA D 0)<mn (mx J 0) (gA D 0))) ((S [.vC Ao [], .vC Ao [],I (mn (mx J 0) (gA D 0)),I (mn (mx O 0) (gA D 0)),I (-1),jA D 0,I (x3.length:Int),I 0,I x0,I x1,I x2, .vC Af x3, .vC kPt x4,I x5,I x6,I x7,I x8,I x9,I T,I U,I V,I X, .vC Aa Y,I a0,I a1,I a2,I a3,I a4,I a5,I a6,I a7,I a8, .vC Aa a9,I b0,I b1,I b2,I b3,I b4,I b5,I b6,I b7,I b8, .vC Aa b9,I 0,I 0,I 0,I 0,I 0,I 0,I (mn (mx J 0) (gA D 0)),I L,I M,I N,I L,I M,I N]).bind λE=>
 cond (E.1.beq 1) (some [.vC Ao (wA E.2 1),jA E.2 7,jA E.2 8,jA E.2 9,jA E.2 10,jA E.2 11]) (none)) ((S [.vC Ao [], .vC Ao [],I (mn (mx J 0) (gA D 0)),I (mn (mx O 0) (gA D 0)),I 1,I 0,I (x3.length:Int),I 0,I x0,I x1,I x2, .vC Af x3, .vC kPt x4,I x5,I x6,I x7,I x8,I x9,I T,I U,I V,I X, .vC Aa Y,I a0,I a1,I a2,I a3,I a4,I a5,I a6,I a7,I a8, .vC Aa a9,I b0,I b1,I b2,I b3,I b4,I b5,I b6,I b7,I b8, .vC Aa b9,I 0,I 0,I 0,I 0,I 0,I 0,I (mn (mx J 0) (gA D 0)),I L,I M,I N,I L,I M,I N]).bind λG=>
 cond (G.1.beq 1) (some [.vC Ao (wA G.2 1),jA G.2 7,jA G.2 8,jA G.2 9,jA G.2 10,jA G.2 11]) (none)):=by kernel_rfl
def Yw:=An (Rc I5 H3 Ic Gu)
def Qy:=Vj I5 H3 Ic Gu Yw
theorem Qmg:Aj PG (VF I5 H3 Ic Gu):=Am rfl ⟨Znr,Zu1,Zd4,Qtr,trivial⟩
theorem Zfw:Ak PG (Zsl Qy):=rw2 (C:=Qwu I5 H3 Ic Gu Yw) (fl fb Qmg) Qmg
def UW:Sk:=⟨[],[],[]⟩
def Zk2:=qa 32 UW X2
def Qed:Fn:=Al PG Qaf 64 32 UW X2
theorem Zch:Qed []=
 some [I 0,I 0,I (-1)]:=by kernel_rfl
def PW:=Qed
theorem Q6p:Aj PG (Qaf):=Am rfl trivial
theorem Zmq:Ak PG (Zk2 PW):=rw1 (C:=Qaf) Q6p
def SS:Sk:=⟨[TS.v true [ci,ci,sb,sb,sb]],[],[]⟩
def Ziy:=qa 31 UW SS
def WR:Fn:=Al PG Qaf 64 31 UW SS
theorem Q9f:WR []=
 some [I 100,I 100,B false,B false,B false]:=by kernel_rfl
def Pu:=WR
theorem Zqb:Aj PG (Qaf):=Am rfl trivial
theorem Zsd:Ak PG (Ziy Pu):=rw1 (C:=Qaf) Zqb
def VI:Sk:=⟨[TS.v true (cc 9++[sa Aa]++cc 9++[sa Aa]++cc 9++[sa Aa]),TS.v true [ci,ci,ci,sa Af,sa kPt]],[],[]⟩
def Zcj:=qa 30 VI WT
def C_cncref43_Inside_0:Cfg:={cf []with unroll:=[8]}
def Qw0:Sk:=⟨[td,td,tf [sc 2 0],tf [sc 3 0],td,tf [ci]]++dd 41,[(2,25,cc 9++[sa Aa]++cc 9++[sa Aa]++cc 9++[sa Aa]),(3,82,[ci,ci,ci,sa Af,sa kPt])],[]⟩
def Qu9:List (Ex×Sk):=[(Ex.ret,⟨[td,td,td,td,tf [sb]]++dd 42,[],[]⟩),(Ex.exit 0,⟨[td]++dd 46,[],[]⟩)]
def Wd:Lp:=A4 PG C_cncref43_Inside_0 64 2 (A3 PG 30 2) Qw0 Qu9
def Qro (D:Lp):Cfg:=C_cncref43_Inside_0.loop 2 Qw0 Qu9 D
def Z5 (D:Lp):Fn:=Al PG (Qro D) 64 30 VI WT
theorem Qrz (v0 v1 v2 v3 v4 Y v6 v7 v8 v9:Int) (v10:Rw) (v11 v12 M N E G S T U:Int) (v20:Rw) (v21 v22 V v24 v25 J v27 v28 X:Int) (v30:Rw) (v31 L v33:Int) (D v35:Rw):Wd [I v0,I v1,I v2,I v3,I v4,I Y,I v6,I v7,I v8,I v9, .vC Aa v10,I v11,I v12,I M,I N,I E,I G,I S,I T,I U, .vC Aa v20,I v21,I v22,I V,I v24,I v25,I J,I v27,I v28,I X, .vC Aa v30,I v31,I L,I v33, .vC Af D, .vC kPt v35]=
 cond (decide (v0<(D.length:Int))) (cond (decide (v0>=0)) (cond (decide (0<=v0)&&decide (v0<(D.length:Int))) (cond (decide (gA (nth [] D v0.toNat) 0<Y)) (some (1,[B false])) (cond (decide (gA (nth [] D v0.toNat) 0>v6)) (some (1,[B false])) (cond (decide (gA (nth [] D v0.toNat) 1<E)) (some (1,[B false])) (cond (decide (gA (nth [] D v0.toNat) 1>G)) (some (1,[B false])) (cond (decide (gA (nth [] D v0.toNat) 2<v25)) (some (1,[B false])) (cond (decide (gA (nth [] D v0.toNat) 2>J)) (some (1,[B false])) (some (0,[I (O (v0+1)),I v1,I v2,I v3,I v4,I Y,I v6,I v7,I v8,I v9, .vC Aa v10,I v11,I v12,I M,I N,I E,I G,I S,I T,I U, .vC Aa v20,I v21,I v22,I V,I v24,I v25,I J,I v27,I v28,I X, .vC Aa v30,I v31,I L,I v33, .vC Af D, .vC kPt v35])))))))) (none)) (cond (decide (v31<Y)) (some (1,[B false])) (cond (decide (v31>v6)) (some (1,[B false])) (cond (decide (L<E)) (some (1,[B false])) (cond (decide (L>G)) (some (1,[B false])) (cond (decide (v33<v25)) (some (1,[B false])) (cond (decide (v33>J)) (some (1,[B false])) (some (0,[I (O (v0+1)),I v1,I v2,I v3,I v4,I Y,I v6,I v7,I v8,I v9, .vC Aa v10,I v11,I v12,I M,I N,I E,I G,I S,I T,I U, .vC Aa v20,I v21,I v22,I V,I v24,I v25,I J,I v27,I v28,I X, .vC Aa v30,I v31,I L,I v33, .vC Af D, .vC kPt v35]))))))))) (some (2,[])):=by kernel_rfl
theorem Q8y (N2:Lp) (x0 x1 x2 x3 x4 x5 x6 x7 x8:Int) (x9:Rw) (D E G J L M N O S:Int) (T:Rw) (U V X Y a0 a1 a2 a3 a4:Int) (a5:Rw) (a6 a7 a8:Int) (a9 b0:Rw):Z5 N2 [I x0,I x1,I x2,I x3,I x4,I x5,I x6,I x7,I x8, .vC Aa x9,I D,I E,I G,I J,I L,I M,I N,I O,I S, .vC Aa T,I U,I V,I X,I Y,I a0,I a1,I a2,I a3,I a4, .vC Aa a5,I a6,I a7,I a8, .vC Af a9, .vC kPt b0]=
 (N2 [I (-1),I x0,I x1,I x2,I x3,I x4,I x5,I x6,I x7,I x8, .vC Aa x9,I D,I E,I G,I J,I L,I M,I N,I O,I S, .vC Aa T,I U,I V,I X,I Y,I a0,I a1,I a2,I a3,I a4, .vC Aa a5,I a6,I a7,I a8, .vC Af a9, .vC kPt b0]).bind λo1=>
 cond (o1.1.beq 1) (some [B (bA o1.2 0)]) (cond (o1.1.beq 2) (some [B true]) (none)):=by kernel_rfl
def Qnf:=An (Wd)
def Ri:=Z5 Qnf
theorem Q0b:Aj PG (C_cncref43_Inside_0):=Am rfl trivial
theorem Zgc:Ak PG (Zcj Ri):=rw2 (C:=Qro Qnf) (fl fb Q0b) Q0b
def O9:=qa 75 Qg6 WT
def Qx7:Fn:=Al PG Qaf 64 75 Qg6 WT
theorem Ztr (D:Int):Qx7 [I D]=
 cond (decide (D>=1)) (some [B (decide (D<=6))]) (some [B false]):=by kernel_rfl
def Ct:=Qx7
theorem Zci:Aj PG (Qaf):=Am rfl trivial
theorem NF:Ak PG (O9 Ct):=rw1 (C:=Qaf) Zci
def Qd9:Sk:=⟨[TS.v true (cc 13++[sb,ci,sb]++cc 5++[sb])],[],[]⟩
def Qr9:=qa 79 Qd9 WT
def Qsb:Fn:=Al PG Qaf 64 79 Qd9 WT
theorem Q81 (D Y x2 x3 x4 x5 x6 x7 x8 x9 E G J:Int) (L:Bool) (M:Int) (N:Bool) (O S T U V:Int) (X:Bool):Qsb [I D,I Y,I x2,I x3,I x4,I x5,I x6,I x7,I x8,I x9,I E,I G,I J,B L,I M,B N,I O,I S,I T,I U,I V,B X]=
 cond (D==5) (some [B true]) (some [B (D==6)]):=by kernel_rfl
def EI:=Qsb
theorem Zba:Aj PG (Qaf):=Am rfl trivial
theorem Qmd:Ak PG (Qr9 EI):=rw1 (C:=Qaf) Zba
def Qh6:Sk:=⟨[tf [sa Ac],tf [ci]],[],[]⟩
def Zdk:=qa 83 Qh6 Qg6
def Qen (D E:Fn):Cfg:=cf [O9 D,Qr9 E]
def Qys:Sk:=⟨[tf [sa Ac],td,td,td,td,tf [ci]]++dd 38,[],[]⟩
def Qv6:List (Ex×Sk):=[(Ex.ret,⟨[td,td,td,td,tf [ci]]++dd 39,[],[]⟩),(Ex.exit 0,⟨[td]++dd 43,[],[]⟩)]
def Mr (D E:Fn):Lp:=A4 PG (Qen D E) 64 6 (A3 PG 83 6) Qys Qv6
def Qw3 (D E:Fn) (G:Lp):Cfg:=(Qen D E).loop 6 Qys Qv6 G
def X5 (D E:Fn) (G:Lp):Fn:=Al PG (Qw3 D E G) 64 83 Qh6 Qg6
theorem Q0a (E G:Fn) (v0:Rw) (D:Int):Mr E G [.vC Ac v0,I D]=
 cond (decide (D<(v0.length:Int))) (cond (decide (0<=D)&&decide (D<(v0.length:Int))) ((E [jA (nth [] v0 D.toNat) 0]).bind λJ=>
 cond (bA J 0) (cond (decide (0<=D)&&decide (D<(v0.length:Int))) ((G (AF Ac (nth [] v0 D.toNat))).bind λL=>
 cond (bA L 0) (some (1,[I 1])) (some (2,[]))) (none)) (some (0,[.vC Ac v0,I (O (D+1))]))) (none)) (some (2,[])):=by kernel_rfl
theorem Zfl (M J:Fn) (L:Lp) (E:Rw) (D:Int):X5 M J L [.vC Ac E,I D]=
 cond (decide (0<=D)&&decide (D<(E.length:Int))) (cond (gA (nth [] E D.toNat) 0==4) (some [I 6]) (cond (decide (0<=D)&&decide (D<(E.length:Int))) (cond (gA (nth [] E D.toNat) 18==0) (some [I 1]) (cond (decide (0<=D)&&decide (D<(E.length:Int))) ((J (AF Ac (nth [] E D.toNat))).bind λN=>
 cond (bA N 0) (some [I 1]) ((L [.vC Ac E,I (O (D+1))]).bind λG=>
 cond (G.1.beq 1) (some [jA G.2 0]) (cond (G.1.beq 2) (some [I 2]) (none)))) (none))) (none))) (none):=by kernel_rfl
def Qu3:=An (Mr Ct EI)
def G8:=X5 Ct EI Qu3
theorem Qk3:Aj PG (Qen Ct EI):=Am rfl ⟨NF,Qmd,trivial⟩
theorem Zr5:Ak PG (Zdk G8):=rw2 (C:=Qw3 Ct EI Qu3) (fl fb Qk3) Qk3
def Q13:=qa 117 Qd9 WT
def Q26:Fn:=Al PG Qaf 64 117 Qd9 WT
theorem Q4y (X x1 Y x3 x4 x5 x6 x7 x8 x9 D E G:Int) (J:Bool) (L:Int) (M:Bool) (N O S T U:Int) (V:Bool):Q26 [I X,I x1,I Y,I x3,I x4,I x5,I x6,I x7,I x8,I x9,I D,I E,I G,B J,I L,B M,I N,I O,I S,I T,I U,B V]=
 cond (X==2) (some [B !(Y==x5&&(x3==x6&&(x4==x7&&true)))]) (some [B false]):=by kernel_rfl
def Hb:=Q26
theorem Q5g:Aj PG (Qaf):=Am rfl trivial
theorem Qmu:Ak PG (Q13 Hb):=rw1 (C:=Qaf) Q5g
def Qnr:=qa 82 Qh6 Qg6
def Vy (D:Fn):Cfg:=cf [Q13 D]
def Q1u:Sk:=⟨[tf [sa Ac],td,td,td,td,tf [ci]]++dd 34,[],[]⟩
def Ql3:List (Ex×Sk):=[(Ex.ret,⟨[td,td,td,td,tf [ci]]++dd 35,[],[]⟩),(Ex.exit 0,⟨[td]++dd 39,[],[]⟩)]
def LR (D:Fn):Lp:=A4 PG (Vy D) 64 4 (A3 PG 82 4) Q1u Ql3
def Qrq (D:Fn) (E:Lp):Cfg:=(Vy D).loop 4 Q1u Ql3 E
def Qj0 (D:Fn) (E:Lp):Fn:=Al PG (Qrq D E) 64 82 Qh6 Qg6
theorem Qr4 (E:Fn) (v0:Rw) (D:Int):LR E [.vC Ac v0,I D]=
 cond (decide (D<(v0.length:Int))) (cond (decide (0<=D)&&decide (D<(v0.length:Int))) (cond (gA (nth [] v0 D.toNat) 0==10) (some (0,[.vC Ac v0,I (O (D+1))])) (cond (decide (0<=D)&&decide (D<(v0.length:Int))) ((E (AF Ac (nth [] v0 D.toNat))).bind λo4=>
 cond (bA o4 0) (some (1,[I D])) (some (1,[I (-1)]))) (none))) (none)) (some (2,[])):=by kernel_rfl
theorem Zpr (J:Fn) (L:Lp) (E:Rw) (D:Int):Qj0 J L [.vC Ac E,I D]=
 cond (decide (0<=D)&&decide (D<(E.length:Int))) ((J (AF Ac (nth [] E D.toNat))).bind λM=>
 cond (!bA M 0) (some [I (-1)]) (cond (decide (0<=D)&&decide (D<(E.length:Int))) (cond (gA (nth [] E D.toNat) 18==0) (some [I (-1)]) ((L [.vC Ac E,I (O (D+1))]).bind λG=>
 cond (G.1.beq 1) (some [jA G.2 0]) (cond (G.1.beq 2) (some [I (-1)]) (none)))) (none))) (none):=by kernel_rfl
def Qlj:=An (LR Hb)
def E5:=Qj0 Hb Qlj
theorem Q01:Aj PG (Vy Hb):=Am rfl ⟨Qmu,trivial⟩
theorem Qt2:Ak PG (Qnr E5):=rw2 (C:=Qrq Hb Qlj) (fl fb Q01) Q01
def Qmw:=qa 121 Qg6 Qg6
def Qzd:Sk:=⟨[tf [ci],td,td,tf [ci],tf [ci]]++dd 17,[],[]⟩
def Qk2:List (Ex×Sk):=[(Ex.exit 0,⟨[td,td,td,tf [ci]]++dd 18,[],[]⟩)]
def J0:Lp:=A4 PG Qaf 64 3 (A3 PG 121 3) Qzd Qk2
def Qvq (D:Lp):Cfg:=Qaf.loop 3 Qzd Qk2 D
def Z2 (D:Lp):Fn:=Al PG (Qvq D) 64 121 Qg6 Qg6
theorem Qtq (v0 E D:Int):J0 [I v0,I E,I D]=
 cond (decide (D>0)) (cond (decide (O (O (E+D)*O (E+D))<=v0)) (some (0,[I v0,I (O (E+D)),I (D.fdiv (2^min (Int.toNat 1) IntKind.i64.bits))])) (some (0,[I v0,I E,I (D.fdiv (2^min (Int.toNat 1) IntKind.i64.bits))]))) (some (1,[I E])):=by kernel_rfl
theorem Zd0 (D:Lp) (E:Int):Z2 D [I E]=
 (D [I E,I 0,I 1073741824]).bind λo1=>
 cond (o1.1.beq 1) (some [jA o1.2 0]) (none):=by kernel_rfl
def Qxq:=An (J0)
def HR:=Z2 Qxq
theorem Q2f:Aj PG (Qaf):=Am rfl trivial
theorem Qqw:Ak PG (Qmw HR):=rw2 (C:=Qvq Qxq) (fl fb Q2f) Q2f
def Qih:Sk:=⟨[TS.v true [ci,ci,ci],TS.v true [ci,ci,ci]],[],[]⟩
def Wo:=qa 120 Qih Qg6
def Qsu:Fn:=Al PG VR 64 120 Qih Qg6
theorem Zrb (D E G J L M:Int):Qsu [I D,I E,I G,I J,I L,I M]=
 some [I (O (O (O (0+O (O (D-J)*O (D-J)))+O (O (E-L)*O (E-L)))+O (O (G-M)*O (G-M))))]:=by kernel_rfl
def FY:=Qsu
theorem Zlk:Aj PG (VR):=Am rfl trivial
theorem Qdu:Ak PG (Wo FY):=rw1 (C:=VR) Zlk
def Qq7:=qa 81 Qih Qg6
def Wi (D E:Fn):Cfg:=cf [Qmw D,Wo E]
def Vv (D E:Fn):Fn:=Al PG (Wi D E) 64 81 Qih Qg6
theorem Q7m (D E:Fn) (G J L M N S:Int):Vv D E [I G,I J,I L,I M,I N,I S]=
 (E [I G,I J,I L,I M,I N,I S]).bind λo2=>
 (D [jA o2 0]).bind λo3=>
 cond (decide (O (gA o3 0*gA o3 0)<gA o2 0)) (some [I (O (gA o3 0+1))]) (some [jA o3 0]):=by kernel_rfl
def Fd:=Vv HR FY
theorem Zi4:Aj PG (Wi HR FY):=Am rfl ⟨Qqw,Qdu,trivial⟩
theorem Qn2:Ak PG (Qq7 Fd):=rw1 (C:=Wi HR FY) Zi4
def Qre:=qa 119 Qd9 X2
def Q1y:Fn:=Al PG Qaf 64 119 Qd9 X2
theorem Q3o (x0 x1 Y x3 x4 x5 x6 x7 x8 x9 D E G:Int) (J:Bool) (L:Int) (M:Bool) (N S T U V:Int) (X:Bool):Q1y [I x0,I x1,I Y,I x3,I x4,I x5,I x6,I x7,I x8,I x9,I D,I E,I G,B J,I L,B M,I N,I S,I T,I U,I V,B X]=
 some [I (O (O (Y+x5)*8)),I (O (O (x3+x6)*8)),I (O (O (x4+x7)*8))]:=by kernel_rfl
def H6:=Q1y
theorem Zlt:Aj PG (Qaf):=Am rfl trivial
theorem Qnw:Ak PG (Qre H6):=rw1 (C:=Qaf) Zlt
def Vx:Sk:=⟨[tf [ci],tf [ci]],[],[]⟩
def Quh:=qa 115 Vx Qg6
def Qwq:Fn:=Al PG Qaf 64 115 Vx Qg6
theorem Q69 (E D:Int):Qwq [I E,I D]=
 cond (decide (O (2*D)=0)) (none) (cond (decide (O (2*D)=0)) (none) (cond (decide ((O (O (2*E)+D)).tmod (O (2*D))<0)) (some [I (O (O ((O (O (2*E)+D)).tdiv (O (2*D)))-1))]) (some [I (O ((O (O (2*E)+D)).tdiv (O (2*D))))]))):=by kernel_rfl
def E2:=Qwq
theorem Zmc:Aj PG (Qaf):=Am rfl trivial
theorem Qm6:Ak PG (Quh E2):=rw1 (C:=Qaf) Zmc
def Zns:=qa 242 Qih X2
def Qsw:Fn:=Al PG Qaf 64 242 Qih X2
theorem Q36 (D E G J L M:Int):Qsw [I D,I E,I G,I J,I L,I M]=
 some [I (O (D+J)),I (O (E+L)),I (O (G+M))]:=by kernel_rfl
def K4:=Qsw
theorem Q80:Aj PG (Qaf):=Am rfl trivial
theorem Q9d:Ak PG (Zns K4):=rw1 (C:=Qaf) Q80
def Zlj:=qa 243 Qih X2
def Q0f:Fn:=Al PG Qaf 64 243 Qih X2
theorem Q6b (D E G J L M:Int):Q0f [I D,I E,I G,I J,I L,I M]=
 some [I (O (D-J)),I (O (E-L)),I (O (G-M))]:=by kernel_rfl
def Jr:=Q0f
theorem Zhz:Aj PG (Qaf):=Am rfl trivial
theorem Zqj:Ak PG (Zlj Jr):=rw1 (C:=Qaf) Zhz
def Qey:Sk:=⟨[TS.v true [ci,ci,ci],TS.v true [ci,ci,ci],TS.v true [ci,ci,ci]],[],[]⟩
def Quy:=qa 226 Qey Qg6
def Qd7 (D E G:Fn):Cfg:=cf [Wo D,Zns E,Zlj G]
def W9 (D E G:Fn):Fn:=Al PG (Qd7 D E G) 64 226 Qey Qg6
theorem Zus (N O D:Fn) (S T U E G J V X Y:Int):W9 N O D [I S,I T,I U,I E,I G,I J,I V,I X,I Y]=
 (D [I S,I T,I U,I E,I G,I J]).bind λo4=>
 (D [I V,I X,I Y,I E,I G,I J]).bind λL=>
 (O [jA o4 0,jA o4 1,jA o4 2,jA L 0,jA L 1,jA L 2]).bind λM=>
 (N [jA M 0,jA M 1,jA M 2,I 0,I 0,I 0]).bind λo7=>
 some [jA o7 0]:=by kernel_rfl
def Hk:=W9 FY K4 Jr
theorem Zgx:Aj PG (Qd7 FY K4 Jr):=Am rfl ⟨Qdu,Q9d,Zqj,trivial⟩
theorem Qxw:Ak PG (Quy Hk):=rw1 (C:=Qd7 FY K4 Jr) Zgx
def Za4:=qa 199 Qey Qg6
def Qfd (D:Fn):Cfg:=cf [Quy D]
def Qye:Sk:=⟨[td,td,td,tf [sc 3 0],tf [sc 4 0],tf [sc 5 0],td,tf [ci]]++dd 22,[(3,78,[ci,ci,ci]),(4,78,[ci,ci,ci]),(5,78,[ci,ci,ci])],[]⟩
def Qml:List (Ex×Sk):=[(Ex.exit 0,⟨dd 7++[tf [ci]]++dd 22,[],[]⟩)]
def NH (D:Fn):Lp:=A4 PG (Qfd D) 64 2 (A3 PG 199 2) Qye Qml
def Qtk (D:Fn) (E:Lp):Cfg:=(Qfd D).loop 2 Qye Qml E
def Un (D:Fn) (E:Lp):Fn:=Al PG (Qtk D E) 64 199 Qey Qg6
theorem Q92 (U:Fn) (v0 D E G J L M N S T:Int):NH U [I v0,I D,I E,I G,I J,I L,I M,I N,I S,I T]=
 cond (decide (v0<64)) ((U [I D,I E,I G,I J,I L,I M,I N,I S,I T]).bind λo2=>
 cond (decide (gA o2 0>O (O (O (O (O (O (16*v0)*v0)*v0)*v0)*4)*4))) (some (0,[I (O (v0*2)),I D,I E,I G,I J,I L,I M,I N,I S,I T])) (some (1,[I v0]))) (some (1,[I v0])):=by kernel_rfl
theorem Zko (U:Fn) (D:Lp) (E G J L M N O S T:Int):Un U D [I E,I G,I J,I L,I M,I N,I O,I S,I T]=
 (D [I 2,I E,I G,I J,I L,I M,I N,I O,I S,I T]).bind λo3=>
 cond (o3.1.beq 1) (some [jA o3.2 0]) (none):=by kernel_rfl
def Qo1:=An (NH Hk)
def Ib:=Un Hk Qo1
theorem Qwm:Aj PG (Qfd Hk):=Am rfl ⟨Qxw,trivial⟩
theorem Zdj:Ak PG (Za4 Ib):=rw2 (C:=Qtk Hk Qo1) (fl fb Qwm) Qwm
def TD:Sk:=⟨[tf [se .u64],tf [se .u64]],[],[]⟩
def Qfz:Sk:=⟨[TS.tup [(false,[se .u64]),(false,[se .u64])]],[],[]⟩
def Zao:=qa 253 TD Qfz
def Qo9:Fn:=Al PG Qaf 64 253 TD Qfz
theorem Ze8 (D E:Int):Qo9 [U D,U E]=
 some [U (wrap .u64 (wrap .u64 (wrap .u64 (D.fdiv (2^min (Int.toNat 32) IntKind.u64.bits)*E.fdiv (2^min (Int.toNat 32) IntKind.u64.bits))+(wrap .u64 (wrap .u64 (D.fdiv (2^min (Int.toNat 32) IntKind.u64.bits)*wrap .u64 (↑(BitVec.ofInt IntKind.u64.bits E&&&BitVec.ofInt IntKind.u64.bits 4294967295).toNat:Int))+(wrap .u64 (wrap .u64 (↑(BitVec.ofInt IntKind.u64.bits D&&&BitVec.ofInt IntKind.u64.bits 4294967295).toNat:Int)*wrap .u64 (↑(BitVec.ofInt IntKind.u64.bits E&&&BitVec.ofInt IntKind.u64.bits 4294967295).toNat:Int))).fdiv (2^min (Int.toNat 32) IntKind.u64.bits))).fdiv (2^min (Int.toNat 32) IntKind.u64.bits))+(wrap .u64 (wrap .u64 (wrap .u64 (↑(BitVec.ofInt IntKind.u64.bits D&&&BitVec.ofInt IntKind.u64.bits 4294967295).toNat:Int)*E.fdiv (2^min (Int.toNat 32) IntKind.u64.bits))+wrap .u64 (↑(BitVec.ofInt IntKind.u64.bits (wrap .u64 (wrap .u64 (D.fdiv (2^min (Int.toNat 32) IntKind.u64.bits)*wrap .u64 (↑(BitVec.ofInt IntKind.u64.bits E&&&BitVec.ofInt IntKind.u64.bits 4294967295).toNat:Int))+(wrap .u64 (wrap .u64 (↑(BitVec.ofInt IntKind.u64.bits D&&&BitVec.ofInt IntKind.u64.bits 4294967295).toNat:Int)*wrap .u64 (↑(BitVec.ofInt IntKind.u64.bits E&&&BitVec.ofInt IntKind.u64.bits 4294967295).toNat:Int))).fdiv (2^min (Int.toNat 32) IntKind.u64.bits)))&&&BitVec.ofInt IntKind.u64.bits 4294967295).toNat:Int))).fdiv (2^min (Int.toNat 32) IntKind.u64.bits))),U (wrap .u64 (↑(BitVec.ofInt IntKind.u64.bits (wrap .u64 (wrap .u64 (wrap .u64 (wrap .u64 (↑(BitVec.ofInt IntKind.u64.bits D&&&BitVec.ofInt IntKind.u64.bits 4294967295).toNat:Int)*E.fdiv (2^min (Int.toNat 32) IntKind.u64.bits))+wrap .u64 (↑(BitVec.ofInt IntKind.u64.bits (wrap .u64 (wrap .u64 (D.fdiv (2^min (Int.toNat 32) IntKind.u64.bits)*wrap .u64 (↑(BitVec.ofInt IntKind.u64.bits E&&&BitVec.ofInt IntKind.u64.bits 4294967295).toNat:Int))+(wrap .u64 (wrap .u64 (↑(BitVec.ofInt IntKind.u64.bits D&&&BitVec.ofInt IntKind.u64.bits 4294967295).toNat:Int)*wrap .u64 (↑(BitVec.ofInt IntKind.u64.bits E&&&BitVec.ofInt IntKind.u64.bits 4294967295).toNat:Int))).fdiv (2^min (Int.toNat 32) IntKind.u64.bits)))&&&BitVec.ofInt IntKind.u64.bits 4294967295).toNat:Int))*2^min (Int.toNat 32) IntKind.u64.bits))|||BitVec.ofInt IntKind.u64.bits (wrap .u64 (↑(BitVec.ofInt IntKind.u64.bits (wrap .u64 (wrap .u64 (↑(BitVec.ofInt IntKind.u64.bits D&&&BitVec.ofInt IntKind.u64.bits 4294967295).toNat:Int)*wrap .u64 (↑(BitVec.ofInt IntKind.u64.bits E&&&BitVec.ofInt IntKind.u64.bits 4294967295).toNat:Int)))&&&BitVec.ofInt IntKind.u64.bits 4294967295).toNat:Int))).toNat:Int))]:=by kernel_rfl
def Lu:=Qo9
theorem Q82:Aj PG (Qaf):=Am rfl trivial
theorem Q8e:Ak PG (Zao Lu):=rw1 (C:=Qaf) Q82
def Up:Sk:=⟨[tf [se .u64],tf [se .u64],tf [se .u64],tf [se .u64],tf [sb]],[],[]⟩
def Zqp:=qa 241 Up WT
def Qfo (D:Fn):Cfg:=cf [Zao D]
def Qa0 (D:Fn):Fn:=Al PG (Qfo D) 64 241 Up WT
theorem Q5u (D:Fn) (E G I J:Int) (L:Bool):Qa0 D [U E,U G,U I,U J,B L]=
 (D [U E,U G]).bind λo2=>
 (D [U I,U J]).bind λo3=>
 cond (decide (gA o2 0<gA o3 0)) (some [B true]) (cond (gA o2 0==gA o3 0) (cond (decide (gA o2 1<gA o3 1)) (some [B true]) (cond (gA o2 1==gA o3 1) (some [B !L]) (some [B false]))) (some [B false])):=by kernel_rfl
def LO:=Qa0 Lu
theorem Zfa:Aj PG (Qfo Lu):=Am rfl ⟨Q8e,trivial⟩
theorem Zhk:Ak PG (Zqp LO):=rw1 (C:=Qfo Lu) Zfa
def WA:Sk:=⟨[tf [ci],tf [ci],tf [ci]],[],[]⟩
def Q0m:=qa 225 WA Qg6
def Qcy (D:Fn):Cfg:=cf [Zqp D]
def Qw8:Sk:=⟨[tf [ci]]++dd 6++[tf [se .u64],tf [se .u64],tf [se .u64],tf [se .u64]]++dd 51,[],[]⟩
def Qnu:List (Ex×Sk):=[(Ex.exit 0,⟨[tf [ci]]++dd 6++[tf [se .u64],tf [se .u64],tf [se .u64]]++dd 52,[],[]⟩)]
def J8 (D:Fn):Lp:=A4 PG (Qcy D) 64 3 (A3 PG 225 3) Qw8 Qnu
def Qpk (D:Fn) (E:Lp):Cfg:=(Qcy D).loop 3 Qw8 Qnu E
def Qfx (D:Fn) (E:Lp):Fn:=Al PG (Qpk D E) 64 225 WA Qg6
theorem Qn8 (L:Fn) (v0 E J G D:Int):J8 L [I v0,U E,U J,U G,U D]=
 cond (decide (D>0)) ((L [U (wrap .u64 (wrap .u64 (G+D)*wrap .u64 (G+D))),U J,U E,U E,B false]).bind λo3=>
 cond (bA o3 0) (some (0,[I v0,U E,U J,U (wrap .u64 (G+D)),U (D.fdiv (2^min (Int.toNat 1) IntKind.u64.bits))])) (some (0,[I v0,U E,U J,U G,U (D.fdiv (2^min (Int.toNat 1) IntKind.u64.bits))]))) (some (1,[I v0,U E,U J,U G])):=by kernel_rfl
theorem Q9i (E:Fn) (G:Lp) (D J L:Int):Qfx E G [I D,I J,I L]=
 (G [I D,U (wrap .u64 (O (mx D (O (0-D))*J))),U (wrap .u64 L),U 0,U 134217728]).bind λo4=>
 cond (o4.1.beq 1) ((E [U (wrap .u64 (wrap .u64 (wrap .u64 (2*gA o4.2 3)+1)*wrap .u64 (wrap .u64 (2*gA o4.2 3)+1))),U (gA o4.2 2),U (wrap .u64 (2*gA o4.2 1)),U (wrap .u64 (2*gA o4.2 1)),B (decide (gA o4.2 0<0))]).bind λM=>
 cond (bA M 0) (cond (decide (gA o4.2 0<0)) (some [I (O (0-O (wrap .u64 (gA o4.2 3+1))))]) (some [I (O (wrap .u64 (gA o4.2 3+1)))])) (cond (decide (gA o4.2 0<0)) (some [I (O (0-O (gA o4.2 3)))]) (some [I (O (gA o4.2 3))]))) (none):=by kernel_rfl
def Q1b:=An (J8 LO)
def Gz:=Qfx LO Q1b
theorem Qo6:Aj PG (Qcy LO):=Am rfl ⟨Zhk,trivial⟩
theorem Qq0:Ak PG (Q0m Gz):=rw2 (C:=Qpk LO Q1b) (fl fb Qo6) Qo6
def Qh7:Sk:=⟨[TS.v true [ci,ci,ci],TS.v true [ci,ci,ci],tf [ci]],[],[]⟩
def Qfm:Sk:=⟨[TS.tup [(true,[ci,ci,ci]),(false,[sb])]],[],[]⟩
def Qwd:=qa 198 Qh7 Qfm
def Qf1 (D E:Fn):Cfg:={cf [Q0m D,Wo E]with unroll:=[6]}
def Xh (D E:Fn):Fn:=Al PG (Qf1 D E) 64 198 Qh7 Qfm
theorem Zhc (E T:Fn) (G J L M N S D:Int):Xh E T [I G,I J,I L,I M,I N,I S,I D]=
 (T [I M,I N,I S,I G,I J,I L]).bind λo4=>
 cond (gA o4 0==0) (some [I 0,I 0,I 0,B false]) (cond (decide (D<0)) (some [I 0,I 0,I 0,B false]) (cond (decide (D>33554432)) (some [I 0,I 0,I 0,B false]) ((E [I (O (M-G)),I D,jA o4 0]).bind λU=>
 (E [I (O (N-J)),I D,jA o4 0]).bind λV=>
 (E [I (O (S-L)),I D,jA o4 0]).bind λX=>
 some [I (O (G+gA U 0)),I (O (J+gA V 0)),I (O (L+gA X 0)),B true]))):=by kernel_rfl
def Gp:=Xh Gz FY
theorem Zb2:Aj PG (Qf1 Gz FY):=Am rfl ⟨Qq0,Qdu,trivial⟩
theorem Qxg:Ak PG (Qwd Gp):=rw1 (C:=Qf1 Gz FY) Zb2
def SA:Sk:=⟨[TS.v true [ci,ci,ci],TS.v true [ci,ci,ci],TS.v true [ci,ci,ci],tf [ci],tf [ci]],[],[]⟩
def Zq9:=qa 224 SA WT
def Qgj (D E G:Fn):Cfg:=cf [Quy D,Qwd E,Qq7 G]
def W5 (D E G:Fn):Fn:=Al PG (Qgj D E G) 64 224 SA WT
theorem Zhl (Du L M:Fn) (N S T E G J U V X Y D:Int):W5 Du L M [I N,I S,I T,I E,I G,I J,I U,I V,I X,I Y,I D]=
 (M [I N,I S,I T,I E,I G,I J]).bind λo5=>
 (M [I E,I G,I J,I U,I V,I X]).bind λo6=>
 cond (decide (D>O (mn (gA o5 0) (gA o6 0)-2))) (some [B false]) ((L [I E,I G,I J,I N,I S,I T,I D]).bind λo7=>
 (L [I E,I G,I J,I U,I V,I X,I D]).bind λo8=>
 (Du [jA o7 0,jA o7 1,jA o7 2,I E,I G,I J,jA o8 0,jA o8 1,jA o8 2]).bind λo9=>
 some [B (decide (gA o9 0<=O (O (16*Y)*Y)))]):=by kernel_rfl
def HH:=W5 Hk Gp Fd
theorem Q8v:Aj PG (Qgj Hk Gp Fd):=Am rfl ⟨Qxw,Qxg,Qn2,trivial⟩
theorem Zs1:Ak PG (Zq9 HH):=rw1 (C:=Qgj Hk Gp Fd) Q8v
def Qij:Sk:=⟨[TS.v true [ci,ci,ci],TS.v true [ci,ci,ci],TS.v true [ci,ci,ci],tf [ci]],[],[]⟩
def Zka:=qa 197 Qij Qg6
def VK (D:Fn):Cfg:=cf [Zq9 D]
def Qsc:Sk:=⟨[td,td,td,tf [ci],tf [sc 4 0],tf [sc 5 0],tf [sc 6 0],td,td,tf [ci],tf [ci]]++dd 26,[(4,78,[ci,ci,ci]),(5,78,[ci,ci,ci]),(6,78,[ci,ci,ci])],[]⟩
def Qop:List (Ex×Sk):=[(Ex.exit 0,⟨dd 9++[tf [ci]]++dd 27,[],[]⟩)]
def Ir (D:Fn):Lp:=A4 PG (VK D) 64 5 (A3 PG 197 5) Qsc Qop
def Qpy (D:Fn) (E:Lp):Cfg:=(VK D).loop 5 Qsc Qop E
def Qdi (D:Fn) (E:Lp):Fn:=Al PG (Qpy D E) 64 197 Qij Qg6
theorem Th (U:Fn) (v0 E D G J L M N S T v10 v11:Int):Ir U [I v0,I E,I D,I G,I J,I L,I M,I N,I S,I T,I v10,I v11]=
 cond (decide (D>0)) ((U [I G,I J,I L,I M,I N,I S,I T,I v10,I v11,I v0,I (O (E+D))]).bind λo2=>
 cond (bA o2 0) (some (0,[I v0,I (O (E+D)),I (D.fdiv (2^min (Int.toNat 1) IntKind.i64.bits)),I G,I J,I L,I M,I N,I S,I T,I v10,I v11])) (some (0,[I v0,I E,I (D.fdiv (2^min (Int.toNat 1) IntKind.i64.bits)),I G,I J,I L,I M,I N,I S,I T,I v10,I v11]))) (some (1,[I E])):=by kernel_rfl
theorem Zpc (V:Fn) (T:Lp) (J L M D E G N O S U:Int):Qdi V T [I J,I L,I M,I D,I E,I G,I N,I O,I S,I U]=
 cond (J==D&&(L==E&&(M==G&&true))) (some [I 0]) (cond (N==D&&(O==E&&(S==G&&true))) (some [I 0]) ((T [I U,I 0,I 16777216,I J,I L,I M,I D,I E,I G,I N,I O,I S]).bind λo3=>
 cond (o3.1.beq 1) (cond (decide (gA o3.2 0<16)) (some [I 0]) (some [jA o3.2 0])) (none))):=by kernel_rfl
def Qo2:=An (Ir HH)
def Jc:=Qdi HH Qo2
theorem Qp5:Aj PG (VK HH):=Am rfl ⟨Zs1,trivial⟩
theorem Zbq:Ak PG (Zka Jc):=rw2 (C:=Qpy HH Qo2) (fl fb Qp5) Qp5
def Qhl:Sk:=⟨[tf [sa kPt]],[],[]⟩
def Zu5:=qa 170 Qij Qhl
def V9 (D E G I:Fn):Cfg:={cf [Quh D,Za4 E,Qwd G,Zka I]with prom:=λb=>cond (Nat.beq b 9) ([(15,78)]) ([]),unroll:=[13]}
def Qy2:Sk:=⟨[td,td,td,td,td,tf [sc 5 0],td,td,td,td,tf [sc 10 0],td,tf [sc 12 0],td,tf [ci],tf [sd 15 3],tf [ci]]++dd 80,[(5,78,[ci,ci,ci]),(10,78,[ci,ci,ci]),(12,78,[ci,ci,ci])],[(15,78,kPt)]⟩
def Qsi:List (Ex×Sk):=[(Ex.exit 0,⟨dd 15++[tf [sd 15 3]]++dd 81,[],[(15,78,kPt)]⟩)]
def KI (D E G I:Fn):Lp:=A4 PG (V9 D E G I) 64 9 (A3 PG 170 9) Qy2 Qsi
def Q1p (D E G I:Fn) (J:Lp):Cfg:=(V9 D E G I).loop 9 Qy2 Qsi J
def Qdh (D E G I:Fn) (J:Lp):Fn:=Al PG (Q1p D E G I J) 64 170 Qij Qhl
theorem Qus (T Fx Da Gf:Fn) (v0:Rw) (D E G J L U V X Y v10 v11:Int):KI T Fx Da Gf [.vC kPt v0,I D,I E,I G,I J,I L,I U,I V,I X,I Y,I v10,I v11]=
 cond (decide (E<=D)) ((T [I (O (O (O (O (D-E)*O (D-E))*O (U-G))+O (O (E*E)*O (Y-G)))),I (O (D*D))]).bind λM=>
 (T [I (O (O (O (O (D-E)*O (D-E))*O (V-J))+O (O (E*E)*O (v10-J)))),I (O (D*D))]).bind λN=>
 (T [I (O (O (O (O (D-E)*O (D-E))*O (X-L))+O (O (E*E)*O (v11-L)))),I (O (D*D))]).bind λS=>
 cond (((v0++[[I (O (G+gA M 0)),I (O (J+gA N 0)),I (O (L+gA S 0))]]).length*24).ble 140737488355328) (some (0,[.vC kPt (v0++[[I (O (G+gA M 0)),I (O (J+gA N 0)),I (O (L+gA S 0))]]),I D,I (O (E+1)),I G,I J,I L,I U,I V,I X,I Y,I v10,I v11])) (none)) (some (1,[.vC kPt v0])):=by kernel_rfl
theorem Qm8 (CV Fx O Gf:Fn) (N9:Lp) (S T U G J L V X Y x9:Int):Qdh CV Fx O Gf N9 [I S,I T,I U,I G,I J,I L,I V,I X,I Y,I x9]=
 (Gf [I S,I T,I U,I G,I J,I L,I V,I X,I Y,I x9]).bind λM=>
 cond (gA M 0==0) (some [.vC kPt [[I G,I J,I L]]]) ((O [I G,I J,I L,I S,I T,I U,jA M 0]).bind λD=>
 (O [I G,I J,I L,I V,I X,I Y,jA M 0]).bind λE=>
 (Fx [jA D 0,jA D 1,jA D 2,I G,I J,I L,jA E 0,jA E 1,jA E 2]).bind λa0=>
 (N9 [.vC kPt [],jA a0 0,I 0,I G,I J,I L,jA D 0,jA D 1,jA D 2,jA E 0,jA E 1,jA E 2]).bind λN=>
 cond (N.1.beq 1) (some [.vC kPt (wA N.2 0)]) (none)):=by kernel_rfl
def Qzh:=An (KI E2 Ib Gp Jc)
def NN:=Qdh E2 Ib Gp Jc Qzh
theorem Qr5:Aj PG (V9 E2 Ib Gp Jc):=Am rfl ⟨Qm6,Zdj,Qxg,Zbq,trivial⟩
theorem Zq3:Ak PG (Zu5 NN):=rw2 (C:=Q1p E2 Ib Gp Jc Qzh) (fl fb Qr5) Qr5
def Qjy:=qa 77 X2 X2
def Qnc:Fn:=Al PG Qaf 64 77 X2 X2
theorem Q78 (D E G:Int):Qnc [I D,I E,I G]=
 some [I (O (D*16)),I (O (E*16)),I (O (G*16))]:=by kernel_rfl
def DE:=Qnc
theorem Zm0:Aj PG (Qaf):=Am rfl trivial
theorem Ut:Ak PG (Qjy DE):=rw1 (C:=Qaf) Zm0
def Vp:Sk:=⟨[tf [sa Ac],tf [ci],tf [ci]],[],[]⟩
def Zqx:=qa 118 Vp Qhl
def Y5 (D E G:Fn):Cfg:=cf [Zu5 D,Qjy E,Qre G]
def T5 (D E G:Fn):Fn:=Al PG (Y5 D E G) 64 118 Vp Qhl
theorem Zb5 (N S J:Fn) (E:Rw) (D G:Int):T5 N S J [.vC Ac E,I D,I G]=
 cond (decide (0<=D)&&decide (D<(E.length:Int))) ((J (AF Ac (nth [] E D.toNat))).bind λo4=>
 cond (decide (0<=D)&&decide (D<(E.length:Int))) ((S [jA (nth [] E D.toNat) 5,jA (nth [] E D.toNat) 6,jA (nth [] E D.toNat) 7]).bind λL=>
 cond (decide (0<=G)&&decide (G<(E.length:Int))) ((J (AF Ac (nth [] E G.toNat))).bind λM=>
 cond (decide (0<=D)&&decide (D<(E.length:Int))) ((N [jA o4 0,jA o4 1,jA o4 2,jA L 0,jA L 1,jA L 2,jA M 0,jA M 1,jA M 2,I (O (gA (nth [] E D.toNat) 18*16))]).bind λT=>
 some [.vC kPt (wA T 0)]) (none)) (none)) (none)) (none):=by kernel_rfl
def NA:=T5 NN DE H6
theorem Q98:Aj PG (Y5 NN DE H6):=Am rfl ⟨Zq3,Ut,Qnw,trivial⟩
theorem Zav:Ak PG (Zqx NA):=rw1 (C:=Y5 NN DE H6) Q98
def SK:Sk:=⟨[tf [ci],tf [ci],tf [ci],tf [ci]],[],[]⟩
def Qui:=qa 106 SK X2
def Q2t:Fn:=Al PG Qaf 64 106 SK X2
theorem Zsp (D E G J:Int):Q2t [I D,I E,I G,I J]=
 cond (J==17) (some [I D,I E,I G]) (cond (J==18) (some [I E,I G,I D]) (cond (J==19) (some [I G,I D,I E]) (some [I 0,I 0,I 0]))):=by kernel_rfl
def Hd:=Q2t
theorem Zce:Aj PG (Qaf):=Am rfl trivial
theorem Qoo:Ak PG (Qui Hd):=rw1 (C:=Qaf) Zce
def Zj:Sk:=⟨[TS.v true [ci,ci,ci],tf [ci]],[],[]⟩
def Qdr:Sk:=⟨[TS.tup [(false,[ci]),(false,[ci]),(false,[ci])]],[],[]⟩
def Qhq:=qa 104 Zj Qdr
def Qp0:Fn:=Al PG Qaf 64 104 Zj Qdr
theorem Zdt (D E G J:Int):Qp0 [I D,I E,I G,I J]=
 cond (J==17) (some [I D,I E,I G]) (cond (J==18) (some [I G,I D,I E]) (cond (J==19) (some [I E,I G,I D]) (some [I 0,I 0,I 0]))):=by kernel_rfl
def Ff:=Qp0
theorem Zq1:Aj PG (Qaf):=Am rfl trivial
theorem Qev:Ak PG (Qhq Ff):=rw1 (C:=Qaf) Zq1
def Ztx:=qa 240 Vx Qg6
def Qx4:Fn:=Al PG Qaf 64 240 Vx Qg6
theorem Q4w (D E:Int):Qx4 [I D,I E]=
 some [I ((O (O (D+E)+1)).fdiv (2^min (Int.toNat 1) IntKind.i64.bits))]:=by kernel_rfl
def KM:=Qx4
theorem Q41:Aj PG (Qaf):=Am rfl trivial
theorem Q8j:Ak PG (Ztx KM):=rw1 (C:=Qaf) Q41
def UU:Sk:=⟨[TS.v true [ci,ci,ci,ci],TS.v true [ci,ci,ci,ci]],[],[]⟩
def ZX:=qa 194 UU Qg6
def Qtz:Fn:=Al PG Qaf 64 194 UU Qg6
theorem Ztv (D E L M G J N S:Int):Qtz [I D,I E,I L,I M,I G,I J,I N,I S]=
 some [I (O (O (D*J)-O (E*G)))]:=by kernel_rfl
def Fy:=Qtz
theorem Zhe:Aj PG (Qaf):=Am rfl trivial
theorem Qhy:Ak PG (ZX Fy):=rw1 (C:=Qaf) Zhe
def TU:=qa 192 UU Qg6
def Qym:Fn:=Al PG Qaf 64 192 UU Qg6
theorem Q9x (D E L M G J N S:Int):Qym [I D,I E,I L,I M,I G,I J,I N,I S]=
 some [I (O (O (D*G)+O (E*J)))]:=by kernel_rfl
def E7:=Qym
theorem Zhg:Aj PG (Qaf):=Am rfl trivial
theorem Ty:Ak PG (TU E7):=rw1 (C:=Qaf) Zhg
def XH:Sk:=⟨[TS.v true [ci,ci,ci,ci],TS.v true [ci,ci,ci,ci],tf [ci],tf [sb]],[],[]⟩
def U_:Sk:=⟨[TS.tup [(true,[ci,ci,ci,ci]),(false,[sb])]],[],[]⟩
def Zdn:=qa 223 XH U_
def Qao (D E G I:Fn):Cfg:=cf [Q0m D,Ztx E,ZX G,TU I]
def Qgd (D E G I:Fn):Fn:=Al PG (Qao D E G I) 64 223 XH U_
abbrev NS (Y:Fn) (x2 x6:Int) (BW:Fn) (x3 x7:Int) (M N:Bool) (J D L:AC):Option (List AC):=
 cond (M) (cond (N) (some [I 0,I 0,I 0,I 0,B false]) ((Y [I x2,I x6]).bind λE=>
 (BW [J,jA E 0,D]).bind λO=>
 (BW [L,jA E 0,D]).bind λS=>
 (Y [I x3,I x7]).bind λT=>
 some [jA O 0,jA S 0,jA E 0,jA T 0,B true])) ((Y [I x2,I x6]).bind λG=>
 (BW [J,jA G 0,D]).bind λU=>
 (BW [L,jA G 0,D]).bind λV=>
 (Y [I x3,I x7]).bind λX=>
 some [jA U 0,jA V 0,jA G 0,jA X 0,B true])
abbrev Qj5 (Y:Fn) (D E N S G J T U:Int) (V X:Fn) (L:Int):Option (List AC):=
 (Y [I D,I E,I N,I S,I G,I J,I T,I U]).bind λM=>
 cond (decide (gA M 0>0)) (NS V N T X S U (O (0-O (D+G))==0) (O (0-O (E+J))==0) (I (O (0-O (D+G)))) (I (O (O (O (0-O (D+G))*O (0-O (D+G)))+O (O (0-O (E+J))*O (0-O (E+J)))))) (I (O (0-O (E+J))))) (NS V N T X S U (O (L*O (J-E))==0) (O (L*O (D-G))==0) (I (O (L*O (J-E)))) (I (O (O (O (L*O (J-E))*O (L*O (J-E)))+O (O (L*O (D-G))*O (L*O (D-G)))))) (I (O (L*O (D-G)))))
abbrev Sw (x9:Bool) (V:Fn) (L M:Int) (X:Fn) (N S D E:Int) (Y:Fn) (G J:Int) (Bw:Fn) (x8:Int):Option (List AC):=
 cond (x9) (NS V L M X N S (O (0-D)==0) (O (0-E)==0) (I (O (0-D))) (I (O (O (O (0-D)*O (0-D))+O (O (0-E)*O (0-E))))) (I (O (0-E)))) ((Y [I D,I E,I L,I N,I G,I J,I M,I S]).bind λT=>
 cond (decide (gA T 0>0)) ((Bw [I D,I E,I L,I N,I G,I J,I M,I S]).bind λU=>
 cond (decide (O (gA U 0*x8)>0)) (NS V L M X N S (O (D+G)==0) (O (E+J)==0) (I (O (D+G))) (I (O (O (O (D+G)*O (D+G))+O (O (E+J)*O (E+J))))) (I (O (E+J)))) (Qj5 Y D E L N G J M S V X x8)) (Qj5 Y D E L N G J M S V X x8))
theorem Zbl (E G J L:Fn) (M N O S T U V X D:Int) (Y:Bool):Qgd E G J L [I M,I N,I O,I S,I T,I U,I V,I X,I D,B Y]=
 cond (D !=1) (cond (D != -1) (some [I 0,I 0,I 0,I 0,B false]) (Sw Y G O V E S X M N L T U J D)) (Sw Y G O V E S X M N L T U J D):=by kernel_rfl
def J_:=Qgd Gz KM Fy E7
theorem Zcz:Aj PG (Qao Gz KM Fy E7):=Am rfl ⟨Qq0,Q8j,Qhy,Ty,trivial⟩
theorem Za3:Ak PG (Zdn J_):=rw1 (C:=Qao Gz KM Fy E7) Zcz
def Q7t:=qa 239 Vx WT
def Qs1:Fn:=Al PG Qaf 64 239 Vx WT
theorem Q4i (D E:Int):Qs1 [I D,I E]=
 some [B (decide (E<=O (O (O (8*D)*4)-64)))]:=by kernel_rfl
def KK:=Qs1
theorem Zaj:Aj PG (Qaf):=Am rfl trivial
theorem Zbz:Ak PG (Q7t KK):=rw1 (C:=Qaf) Zaj
def Q8w:=qa 222 XH WT
def Qin (D E:Fn):Cfg:=cf [Q7t D,ZX E]
def Qce (D E:Fn):Fn:=Al PG (Qin D E) 64 222 XH WT
theorem Q8t (N S:Fn) (D E L T G J M U V:Int) (X:Bool):Qce N S [I D,I E,I L,I T,I G,I J,I M,I U,I V,B X]=
 cond (!X) ((S [I D,I E,I L,I T,I G,I J,I M,I U]).bind λo2=>
 cond (decide (O (gA o2 0*V)>0)) ((N [I (mn L M),I (O (O (O (D-G)*O (D-G))+O (O (E-J)*O (E-J))))]).bind λo3=>
 some [B (bA o3 0)]) (some [B false])) (some [B false]):=by kernel_rfl
def I7:=Qce KK Fy
theorem Zjz:Aj PG (Qin KK Fy):=Am rfl ⟨Zbz,Qhy,trivial⟩
theorem Zms:Ak PG (Q8w I7):=rw1 (C:=Qin KK Fy) Zjz
def Qwl:Nat:=20
def Jk:Sk:=⟨[TS.v true [ci,ci,ci,ci],TS.v true [ci,ci,ci,ci],tf [ci],tf [sb],tf [ci]],[],[]⟩
def Jt:Sk:=⟨[tf [sd 103700 4]],[],[(103700,219,[kI,kI,kI,kI])]⟩
def Q2x:=qa 196 Jk Jt
def Xb (D E G:Fn):Cfg:={cp [Q2x D,Zdn E,Q8w G] [196]with rowDst:=[23],rowAs:=λd=>cond (Nat.beq d 23) (103700) (d),ownRes:=true}
def QU (D E G:Fn):Fn:=Al PG (Xb D E G) 64 196 Jk Jt
theorem Q2e (X Ml KD:Fn) (S T U V G J L M N:Int) (Y:Bool) (D:Int):QU X Ml KD [I S,I T,I U,I V,I G,I J,I L,I M,I N,B Y,I D]=
 cond (decide (D>=16)) (some [.vC [kI,kI,kI,kI] [[I G,I J,I L,I M]]]) ((KD [I S,I T,I U,I V,I G,I J,I L,I M,I N,B Y]).bind λo4=>
 cond (bA o4 0) (some [.vC [kI,kI,kI,kI] [[I G,I J,I L,I M]]]) ((Ml [I S,I T,I U,I V,I G,I J,I L,I M,I N,B Y]).bind λE=>
 (X [I S,I T,I U,I V,jA E 0,jA E 1,jA E 2,jA E 3,I N,B false,I (O (D+1))]).bind λo6=>
 (X [jA E 0,jA E 1,jA E 2,jA E 3,I G,I J,I L,I M,I N,B false,I (O (D+1))]).bind λo7=>
 cond (((wA o6 0++wA o7 0).length*32).ble 140737488355328) (some [.vC [kI,kI,kI,kI] (wA o6 0++wA o7 0)]) (none))):=by kernel_rfl
def Qkn (M:Fn):Fn:=QU M J_ I7
def Kn:Nat->Fn
 |0=>λ_=>none
 |n+1=>Qkn (Kn n)
theorem Zfe {M:Fn} (h:Ak PG (196,Ad Jk Jt M)):Aj PG (Xb M J_ I7):=Am rfl ⟨h,Za3,Zms,trivial⟩
theorem Zma {M:Fn} (h:Ak PG (196,Ad Jk Jt M)):Ak PG (196,Ad Jk Jt (Qkn M)):=Pc (C:=Xb M J_ I7) (L:=64) (by kernel_rfl) (FnOK.bare rfl rfl rfl) (Zfe h) eqOk Gj (by kernel_rfl) (by kernel_rfl)
theorem Qqb:∀n,Ak PG (196,Ad Jk Jt (Kn n))
 |0=>Q0n
 |n+1=>Zma (Qqb n)
def Py:=Kn Qwl
theorem Zbi:Ak PG (Q2x Py):=Qqb Qwl
def Qbn:Sk:=⟨[TS.v true [ci,ci,ci,ci]],[],[]⟩
def Zdo:=qa 221 Qbn Qbn
def YQ (D E:Fn):Cfg:=cf [Qmw D,TU E]
def Vz (D E:Fn):Fn:=Al PG (YQ D E) 64 221 Qbn Qbn
theorem Zhp (J L:Fn) (D E M G:Int):Vz J L [I D,I E,I M,I G]=
 (L [I (O (D*16)),I (O (E*16)),I 0,I (O (G*16)),I (O (D*16)),I (O (E*16)),I 0,I (O (G*16))]).bind λo2=>
 (J [jA o2 0]).bind λo3=>
 cond (decide (O (gA o3 0*O (gA o3 0+1))<gA o2 0)) (some [I (O (D*16)),I (O (E*16)),I (O (gA o3 0+1)),I (O (G*16))]) (some [I (O (D*16)),I (O (E*16)),jA o3 0,I (O (G*16))]):=by kernel_rfl
def Ph:=Vz HR E7
theorem Zgf:Aj PG (YQ HR E7):=Am rfl ⟨Qqw,Ty,trivial⟩
theorem Zea:Ak PG (Zdo Ph):=rw1 (C:=YQ HR E7) Zgf
def ZJ:Sk:=⟨[TS.tup [(true,[ci,ci,ci,ci]),(true,[ci,ci,ci,ci])]],[],[]⟩
def Qko:=qa 191 Qd9 ZJ
def Qc6 (D:Fn):Cfg:=cf [Qhq D]
def Uz (D:Fn):Fn:=Al PG (Qc6 D) 64 191 Qd9 ZJ
theorem Q4u (G:Fn) (x0 x1 x2 x3 x4 x5 x6 x7 J x9 D E L:Int) (M:Bool) (N:Int) (S:Bool) (T U V X Y:Int) (a0:Bool):Uz G [I x0,I x1,I x2,I x3,I x4,I x5,I x6,I x7,I J,I x9,I D,I E,I L,B M,I N,B S,I T,I U,I V,I X,I Y,B a0]=
 (G [I x9,I D,I E,I J]).bind λo3=>
 (G [I x2,I x3,I x4,I J]).bind λo4=>
 (G [I x5,I x6,I x7,I J]).bind λo5=>
 some [I (O (gA o4 0-gA o3 0)),I (O (gA o4 1-gA o3 1)),I 0,jA o4 2,I (O (gA o5 0-gA o3 0)),I (O (gA o5 1-gA o3 1)),I 0,jA o5 2]:=by kernel_rfl
def IC:=Uz Ff
theorem Q9z:Aj PG (Qc6 Ff):=Am rfl ⟨Qev,trivial⟩
theorem Q14:Ak PG (Qko IC):=rw1 (C:=Qc6 Ff) Q9z
def Zvk:=qa 195 Qd9 ZJ
def Qgk (D E:Fn):Cfg:=cf [Zdo D,Qko E]
def XW (D E:Fn):Fn:=Al PG (Qgk D E) 64 195 Qd9 ZJ
theorem Zj6 (Y Dg:Fn) (x0 x1 x2 x3 x4 x5 x6 x7 x8 x9 D E G:Int) (J:Bool) (L:Int) (M:Bool) (N O S T U:Int) (V:Bool):XW Y Dg [I x0,I x1,I x2,I x3,I x4,I x5,I x6,I x7,I x8,I x9,I D,I E,I G,B J,I L,B M,I N,I O,I S,I T,I U,B V]=
 (Dg [I x0,I x1,I x2,I x3,I x4,I x5,I x6,I x7,I x8,I x9,I D,I E,I G,B J,I L,B M,I N,I O,I S,I T,I U,B V]).bind λo3=>
 (Y [jA o3 0,jA o3 1,jA o3 2,jA o3 3]).bind λo4=>
 (Y [jA o3 4,jA o3 5,jA o3 6,jA o3 7]).bind λX=>
 some [jA o4 0,jA o4 1,jA o4 2,jA o4 3,jA X 0,jA X 1,jA X 2,jA X 3]:=by kernel_rfl
def NE:=XW Ph IC
theorem Zo0:Aj PG (Qgk Ph IC):=Am rfl ⟨Zea,Q14,trivial⟩
theorem Zjh:Ak PG (Zvk NE):=rw1 (C:=Qgk Ph IC) Zo0
def XT:Sk:=⟨[tf [sa [Kd.int .u64]],tf [sa [Kd.int .u64]]],[],[]⟩
def Ztz:=qa 219 XT Qg6
def Qtt:Sk:=⟨[tf [sa [Kd.int .u64]],tf [sa [Kd.int .u64]],td,td,td,tf [ci]]++dd 35,[],[]⟩
def Q03:List (Ex×Sk):=[(Ex.ret,⟨[td,td,td,td,tf [ci]]++dd 36,[],[]⟩),(Ex.exit 0,⟨[td]++dd 40,[],[]⟩)]
def Sh:Lp:=A4 PG Qaf 64 6 (A3 PG 219 6) Qtt Q03
def Qpq (D:Lp):Cfg:=Qaf.loop 6 Qtt Q03 D
def Qn9 (D:Lp):Fn:=Al PG (Qpq D) 64 219 XT Qg6
theorem Q05 (v0 E:Rw) (D:Int):Sh [.vC [Kd.int .u64] v0, .vC [Kd.int .u64] E,I D]=
 cond (decide (D>=0)) (cond (decide (0<=D)&&decide (D<(v0.length:Int))) (cond (decide (0<=D)&&decide (D<(E.length:Int))) (cond (decide (Ah (nth .dead (nth [] v0 D.toNat) 0)<Ah (nth .dead (nth [] E D.toNat) 0))) (some (1,[I (-1)])) (cond (decide (0<=D)&&decide (D<(v0.length:Int))) (cond (decide (0<=D)&&decide (D<(E.length:Int))) (cond (decide (Ah (nth .dead (nth [] v0 D.toNat) 0)>Ah (nth .dead (nth [] E D.toNat) 0))) (some (1,[I 1])) (some (0,[.vC [Kd.int IntKind.u64] v0, .vC [Kd.int IntKind.u64] E,I (O (D-1))]))) (none)) (none))) (none)) (none)) (some (2,[])):=by kernel_rfl
theorem Zhh (G:Lp) (D E:Rw):Qn9 G [.vC [Kd.int .u64] D, .vC [Kd.int .u64] E]=
 cond ((D.length:Int) !=(E.length:Int)) (cond (decide ((D.length:Int)<(E.length:Int))) (some [I (-1)]) (some [I 1])) ((G [.vC [Kd.int IntKind.u64] D, .vC [Kd.int IntKind.u64] E,I (O ((D.length:Int)-1))]).bind λo1=>
 cond (o1.1.beq 1) (some [I (Ah (nth .dead o1.2 0))]) (cond (o1.1.beq 2) (some [I 0]) (none))):=by kernel_rfl
def OG:=An (Sh)
def Kt:=Qn9 OG
theorem Q1j:Aj PG (Qaf):=Am rfl trivial
theorem Zh3:Ak PG (Ztz Kt):=rw2 (C:=Qpq OG) (fl fb Q1j) Q1j
def Qbu:Sk:=⟨[tf [sa [Kd.int .u64]]],[],[]⟩
def Zed:=qa 252 Qbu Qbu
def Qqa:Sk:=⟨[tf [sa [Kd.int .u64]]]++dd 20,[],[]⟩
def Q11:List (Ex×Sk):=[(Ex.exit 0,⟨[tf [sa [Kd.int .u64]]]++dd 20,[],[]⟩)]
def Qfa:Lp:=A4 PG Qaf 64 1 (A3 PG 252 1) Qqa Q11
def Qty (D:Lp):Cfg:=Qaf.loop 1 Qqa Q11 D
def Qts (D:Lp):Fn:=Al PG (Qty D) 64 252 Qbu Qbu
theorem Q1z (v0:Rw):Qfa [.vC [Kd.int .u64] v0]=
 cond (decide ((v0.length:Int)>0)) (cond (decide (0<=O ((v0.length:Int)-1))&&decide (O ((v0.length:Int)-1)<(v0.length:Int))) (cond (Ah (nth .dead (nth [] v0 (O ((v0.length:Int)-1)).toNat) 0)==0) (cond (decide (0<=O ((v0.length:Int)-1))&&decide (O ((v0.length:Int)-1)<=(v0.length:Int))) (some (0,[.vC [Kd.int IntKind.u64] (List.take (O ((v0.length:Int)-1)).toNat v0)])) (none)) (some (1,[.vC [Kd.int IntKind.u64] v0]))) (none)) (some (1,[.vC [Kd.int IntKind.u64] v0])):=by kernel_rfl
theorem Q9a (D:Lp) (E:Rw):Qts D [.vC [Kd.int .u64] E]=
 (D [.vC [Kd.int IntKind.u64] E]).bind λo1=>
 cond (o1.1.beq 1) (some [.vC [Kd.int IntKind.u64] (Bb (nth .dead o1.2 0))]) (none):=by kernel_rfl
def LG:=An (Qfa)
def IP:=Qts LG
theorem Qul:Aj PG (Qaf):=Am rfl trivial
theorem Q7b:Ak PG (Zed IP):=rw2 (C:=Qty LG) (fl fb Qul) Qul
def Zha:=qa 236 XT Qbu
def Qck (D:Fn):Cfg:=cf [Zed D]
def Qot:Sk:=⟨[tf [sa [Kd.int .u64]],tf [sa [Kd.int .u64]],td,td,td,tf [sd 15 1],tf [ci],tf [se .u64],tf [ci]]++dd 63,[],[(15,202,[Kd.int .u64])]⟩
def Q1s:List (Ex×Sk):=[(Ex.exit 2,⟨[tf [sa [Kd.int .u64]],tf [sa [Kd.int .u64]],td,td,td,tf [sd 15 1],tf [ci],tf [se .u64]]++dd 64,[],[(15,202,[Kd.int .u64])]⟩)]
def Gi (D:Fn):Lp:=A4 PG (Qck D) 64 7 (A3 PG 236 7) Qot Q1s
def Qki (D:Fn) (E:Lp):Cfg:=(Qck D).loop 7 Qot Q1s E
def Qnj:Sk:=⟨[tf [sa [Kd.int .u64]],tf [sa [Kd.int .u64]],td,td,td,tf [sd 15 1],tf [ci]]++dd 65,[],[(15,202,[Kd.int .u64])]⟩
def Qlo:List (Ex×Sk):=[(Ex.exit 0,⟨[td,td,td,td,td,tf [sd 15 1]]++dd 66,[],[(15,202,[Kd.int .u64])]⟩)]
def Ks (D:Fn) (E:Lp):Lp:=A4 PG (Qki D E) 64 3 (A3 PG 236 3) Qnj Qlo
def Qrk (D:Fn) (E G:Lp):Cfg:=(Qki D E).loop 3 Qnj Qlo G
def Qcl (D:Fn) (E G:Lp):Fn:=Al PG (Qrk D E G) 64 236 XT Qbu
theorem Qnk (M:Fn) (v0 J G:Rw) (D L E:Int):Gi M [.vC [Kd.int .u64] v0, .vC [Kd.int .u64] J, .vC [Kd.int .u64] G,I D,U L,I E]=
 cond (decide (E<(G.length:Int))) (cond (decide (0<=O (D+E))&&decide (O (D+E)<(v0.length:Int))) (cond (decide (0<=D)&&decide (D<(J.length:Int))) (cond (decide (0<=E)&&decide (E<(G.length:Int))) (cond (decide (0<=O (D+E))&&decide (O (D+E)<(v0.length:Int))) (some (0,[.vC [Kd.int IntKind.u64] (v0.set (O (D+E)).toNat [U (wrap .u64 (↑(BitVec.ofInt IntKind.u64.bits (wrap .u64 (wrap .u64 (Ah (nth .dead (nth [] v0 (O (D+E)).toNat) 0)+wrap .u64 (Ah (nth .dead (nth [] J D.toNat) 0)*Ah (nth .dead (nth [] G E.toNat) 0)))+L))&&&BitVec.ofInt IntKind.u64.bits 65535).toNat:Int))]), .vC [Kd.int IntKind.u64] J, .vC [Kd.int IntKind.u64] G,I D,U ((wrap .u64 (wrap .u64 (Ah (nth .dead (nth [] v0 (O (D+E)).toNat) 0)+wrap .u64 (Ah (nth .dead (nth [] J D.toNat) 0)*Ah (nth .dead (nth [] G E.toNat) 0)))+L)).fdiv (2^min (Int.toNat 16) IntKind.u64.bits)),I (O (E+1))])) (none)) (none)) (none)) (none)) (some (1,[.vC [Kd.int IntKind.u64] v0, .vC [Kd.int IntKind.u64] J, .vC [Kd.int IntKind.u64] G,I D,U L])):=by kernel_rfl
theorem Qs3 (L:Fn) (G:Lp) (v0 D J:Rw) (E:Int):Ks L G [.vC [Kd.int .u64] v0, .vC [Kd.int .u64] D, .vC [Kd.int .u64] J,I E]=
 cond (decide (E<(D.length:Int))) ((G [.vC [Kd.int IntKind.u64] v0, .vC [Kd.int IntKind.u64] D, .vC [Kd.int IntKind.u64] J,I E,U 0,I 0]).bind λo3=>
 cond (o3.1.beq 1) (cond (decide (0<=O (Ah (nth .dead o3.2 3)+(↑(Bb (nth .dead o3.2 2)).length:Int)))&&decide (O (Ah (nth .dead o3.2 3)+(↑(Bb (nth .dead o3.2 2)).length:Int))<(↑(Bb (nth .dead o3.2 0)).length:Int))) (cond (decide (0<=O (Ah (nth .dead o3.2 3)+(↑(Bb (nth .dead o3.2 2)).length:Int)))&&decide (O (Ah (nth .dead o3.2 3)+(↑(Bb (nth .dead o3.2 2)).length:Int))<(↑(Bb (nth .dead o3.2 0)).length:Int))) (some (0,[.vC [Kd.int IntKind.u64] ((Bb (nth .dead o3.2 0)).set (O (Ah (nth .dead o3.2 3)+(↑(Bb (nth .dead o3.2 2)).length:Int))).toNat [U (wrap .u64 (Ah (nth .dead (nth [] (Bb (nth .dead o3.2 0)) (O (Ah (nth .dead o3.2 3)+(↑(Bb (nth .dead o3.2 2)).length:Int))).toNat) 0)+Ah (nth .dead o3.2 4)))]), .vC [Kd.int IntKind.u64] (Bb (nth .dead o3.2 1)), .vC [Kd.int IntKind.u64] (Bb (nth .dead o3.2 2)),I (O (Ah (nth .dead o3.2 3)+1))])) (none)) (none)) (none)) (some (1,[.vC [Kd.int IntKind.u64] v0])):=by kernel_rfl
theorem Q6k (G:Fn) (L J:Lp) (D E:Rw):Qcl G L J [.vC [Kd.int .u64] D, .vC [Kd.int .u64] E]=
 cond (decide (O ((D.length:Int)+(E.length:Int))=O ((D.length:Int)+(E.length:Int)))) (cond (decide (0<=O ((D.length:Int)+(E.length:Int)))&&decide (O ((D.length:Int)+(E.length:Int))*(↑8:Int)<=140737488355328)) ((J [.vC [Kd.int IntKind.u64] (List.replicate (O ((D.length:Int)+(E.length:Int))).toNat [U 0]), .vC [Kd.int IntKind.u64] D, .vC [Kd.int IntKind.u64] E,I 0]).bind λo4=>
 cond (o4.1.beq 1) ((G [.vC [Kd.int IntKind.u64] (Bb (nth .dead o4.2 0))]).bind λM=>
 some [.vC [Kd.int IntKind.u64] (Bb (nth .dead M 0))]) (none)) (none)) (none):=by kernel_rfl
def VJ:=An (Gi IP)
def Qri:=An (Ks IP VJ)
def NW:=Qcl IP VJ Qri
theorem Vo:Aj PG (Qck IP):=Am rfl ⟨Q7b,trivial⟩
theorem Zfk:Ak PG (Zha NW):=rw2 (C:=Qrk IP VJ Qri) (fl (fl fb Vo) Vo) Vo
def S_:Sk:=⟨[tf [se .u64]],[],[]⟩
def Q3a:=qa 237 S_ Qbu
def C_cncref01_limbs_0:Cfg:={cf []with prom:=λb=>cond (Nat.beq b 2) ([(3,202)]) ([])}
def Q0j:Sk:=⟨[tf [se .u64],td,td,tf [sd 3 1]]++dd 10,[],[(3,202,[Kd.int .u64])]⟩
def Q24:List (Ex×Sk):=[(Ex.exit 0,⟨[td,td,td,tf [sd 3 1]]++dd 10,[],[(3,202,[Kd.int .u64])]⟩)]
def Yk:Lp:=A4 PG C_cncref01_limbs_0 64 2 (A3 PG 237 2) Q0j Q24
def Qzb (D:Lp):Cfg:=C_cncref01_limbs_0.loop 2 Q0j Q24 D
def Qqk (D:Lp):Fn:=Al PG (Qzb D) 64 237 S_ Qbu
theorem Qyc (v0:Rw) (D:Int):Yk [.vC [Kd.int .u64] v0,U D]=
 cond (decide (D>0)) (cond (((v0++[[U (wrap .u64 (↑(BitVec.ofInt IntKind.u64.bits D&&&BitVec.ofInt IntKind.u64.bits 65535).toNat:Int))]]).length*8).ble 140737488355328) (some (0,[.vC [Kd.int IntKind.u64] (v0++[[U (wrap .u64 (↑(BitVec.ofInt IntKind.u64.bits D&&&BitVec.ofInt IntKind.u64.bits 65535).toNat:Int))]]),U (D.fdiv (2^min (Int.toNat 16) IntKind.u64.bits))])) (none)) (some (1,[.vC [Kd.int IntKind.u64] v0])):=by kernel_rfl
theorem Q32 (D:Lp) (E:Int):Qqk D [U E]=
 (D [.vC [Kd.int IntKind.u64] [],U E]).bind λo1=>
 cond (o1.1.beq 1) (some [.vC [Kd.int IntKind.u64] (Bb (nth .dead o1.2 0))]) (none):=by kernel_rfl
def Oo:=An (Yk)
def K1:=Qqk Oo
theorem Qqs:Aj PG (C_cncref01_limbs_0):=Am rfl trivial
theorem Zja:Ak PG (Q3a K1):=rw2 (C:=Qzb Oo) (fl fb Qqs) Qqs
def Zqf:=qa 238 Qg6 S_
def Qqy:Fn:=Al PG Qaf 64 238 Qg6 S_
theorem Q94 (D:Int):Qqy [I D]=
 cond (decide (D<0)) (some [U (wrap .u64 (wrap .u64 (O (0-O (D+1)))+1))]) (some [U (wrap .u64 D)]):=by kernel_rfl
def LV:=Qqy
theorem Zdx:Aj PG (Qaf):=Am rfl trivial
theorem Zhd:Ak PG (Zqf LV):=rw1 (C:=Qaf) Zdx
def Zso:=qa 220 Vx Qbu
def Qfv (D E G:Fn):Cfg:=cf [Zha D,Q3a E,Zqf G]
def V3 (D E G:Fn):Fn:=Al PG (Qfv D E G) 64 220 Vx Qbu
theorem Q54 (G D E:Fn) (J L:Int):V3 G D E [I J,I L]=
 (E [I J]).bind λM=>
 (D [U (Ah (nth .dead M 0))]).bind λN=>
 (E [I L]).bind λO=>
 (D [U (Ah (nth .dead O 0))]).bind λS=>
 (G [.vC [Kd.int IntKind.u64] (Bb (nth .dead N 0)), .vC [Kd.int IntKind.u64] (Bb (nth .dead S 0))]).bind λT=>
 some [.vC [Kd.int IntKind.u64] (Bb (nth .dead T 0))]:=by kernel_rfl
def Ok:=V3 NW K1 LV
theorem Zim:Aj PG (Qfv NW K1 LV):=Am rfl ⟨Zfk,Zja,Zhd,trivial⟩
theorem Q71:Ak PG (Zso Ok):=rw1 (C:=Qfv NW K1 LV) Zim
def Zoi:=qa 218 Vx Qg6
def Qos:Fn:=Al PG Qaf 64 218 Vx Qg6
theorem Znv (D E:Int):Qos [I D,I E]=
 cond (D==0) (some [I 0]) (cond (E==0) (some [I 0]) (cond (decide (D<0)==decide (E<0)) (some [I 1]) (some [I (-1)]))):=by kernel_rfl
def KU:=Qos
theorem Q5p:Aj PG (Qaf):=Am rfl trivial
theorem Zdz:Ak PG (Zoi KU):=rw1 (C:=Qaf) Q5p
def Zhy:=qa 193 SK Qg6
def U3 (D E G:Fn):Cfg:=cf [Ztz D,Zso E,Zoi G]
def Vc (D E G:Fn):Fn:=Al PG (U3 D E G) 64 193 SK Qg6
theorem Q4o (S D E:Fn) (G J L M:Int):Vc S D E [I G,I J,I L,I M]=
 (E [I G,I J]).bind λN=>
 (E [I L,I M]).bind λT=>
 cond (decide (Ah (nth .dead N 0)<Ah (nth .dead T 0))) (some [I (-1)]) (cond (decide (Ah (nth .dead N 0)>Ah (nth .dead T 0))) (some [I 1]) ((D [I G,I J]).bind λU=>
 (D [I L,I M]).bind λV=>
 (S [.vC [Kd.int IntKind.u64] (Bb (nth .dead U 0)), .vC [Kd.int IntKind.u64] (Bb (nth .dead V 0))]).bind λX=>
 some [I (O (Ah (nth .dead N 0)*Ah (nth .dead X 0)))])):=by kernel_rfl
def Ot:=Vc Kt Ok KU
theorem Zda:Aj PG (U3 Kt Ok KU):=Am rfl ⟨Zh3,Q71,Zdz,trivial⟩
theorem Zt5:Ak PG (Zhy Ot):=rw1 (C:=U3 Kt Ok KU) Zda
def Zu3:=qa 217 Zj WT
def WD:Cfg:={cf []with unroll:=[2]}
def Qzg:Fn:=Al PG WD 64 217 Zj WT
theorem Zby (E G J D:Int):Qzg [I E,I G,I J,I D]=
 cond (decide (E<O (0-D))) (some [B false]) (cond (decide (E>D)) (some [B false]) (cond (decide (G<O (0-D))) (some [B false]) (cond (decide (G>D)) (some [B false]) (cond (decide (J<O (0-D))) (some [B false]) (cond (decide (J>D)) (some [B false]) (some [B true])))))):=by kernel_rfl
def LQ:=Qzg
theorem Q39:Aj PG (WD):=Am rfl trivial
theorem Q4g:Ak PG (Zu3 LQ):=rw1 (C:=WD) Q39
def Zqi:=qa 190 X2 WT
def Qcg (D:Fn):Cfg:=cf [Zu3 D]
def Wb (D:Fn):Fn:=Al PG (Qcg D) 64 190 X2 WT
theorem Zjw (D:Fn) (E G J:Int):Wb D [I E,I G,I J]=
 (D [I E,I G,I J,I 1048576]).bind λo1=>
 some [B (bA o1 0)]:=by kernel_rfl
def ND:=Wb LQ
theorem Zjf:Aj PG (Qcg LQ):=Am rfl ⟨Q4g,trivial⟩
theorem Zcb:Ak PG (Zqi ND):=rw1 (C:=Qcg LQ) Zjf
def ZK:=qa 168 Qd9 WT
def VB (D E G I J L:Fn):Cfg:=cf [ZX D,Zhy E,TU G,Qko I,Zqi J,O9 L]
def ZT (D E G I J L:Fn):Fn:=Al PG (VB D E G I J L) 64 168 Qd9 WT
abbrev Qek (E:Bool) (D:List AC) (J L:Fn):Option (List AC):=
 cond (E) (cond (gA D 0==gA D 4) (some [B (gA D 1==gA D 5)]) (some [B false])) ((J [jA D 0,jA D 1,jA D 2,jA D 3,jA D 4,jA D 5,jA D 6,jA D 7]).bind λG=>
 cond (gA G 0 !=0) (some [B true]) ((L [jA D 0,jA D 1,jA D 2,jA D 3,jA D 4,jA D 5,jA D 6,jA D 7]).bind λI=>
 some [B (decide (gA I 0<0))]))
abbrev Kg (Ej:Fn) (x9 L M:Int) (Dg:Fn) (x0 x1 x2 x3 x4 x5 x6 x7 x8 S:Int) (J:Bool) (T:Int) (U:Bool) (V X Y a0 a1:Int) (a2:Bool) (N Fc Bw:Fn):Option (List AC):=
 (Ej [I x9,I L,I M]).bind λa3=>
 cond (!bA a3 0) (some [B false]) ((Dg [I x0,I x1,I x2,I x3,I x4,I x5,I x6,I x7,I x8,I x9,I L,I M,I S,B J,I T,B U,I V,I X,I Y,I a0,I a1,B a2]).bind λD=>
 (N [jA D 0,jA D 1,jA D 2,jA D 3,jA D 0,jA D 1,jA D 2,jA D 3]).bind λE=>
 (N [jA D 4,jA D 5,jA D 6,jA D 7,jA D 4,jA D 5,jA D 6,jA D 7]).bind λG=>
 cond (decide (gA E 0<64)) (some [B false]) (cond (decide (gA G 0<64)) (some [B false]) (cond (decide (O (O (gA E 0+gA G 0)-16)>0)) ((Fc [I (O (O (gA E 0+gA G 0)-16)),I (O (O (gA E 0+gA G 0)-16)),I (O (4*gA E 0)),jA G 0]).bind λa4=>
 cond (decide (gA a4 0>0)) (some [B false]) (Qek J D Bw N)) (Qek J D Bw N))))
theorem Q3r (Bw Fc Bi Dg Y AH:Fn) (x0 x1 x2 x3 x4 x5 x6 x7 X x9 E G D:Int) (J:Bool) (L:Int) (M:Bool) (N O S T U:Int) (V:Bool):ZT Bw Fc Bi Dg Y AH [I x0,I x1,I x2,I x3,I x4,I x5,I x6,I x7,I X,I x9,I E,I G,I D,B J,I L,B M,I N,I O,I S,I T,I U,B V]=
 (AH [I x0]).bind λa0=>
 cond (!bA a0 0) (some [B false]) ((Y [I x2,I x3,I x4]).bind λa1=>
 cond (!bA a1 0) (some [B false]) ((Y [I x5,I x6,I x7]).bind λa2=>
 cond (!bA a2 0) (some [B false]) (cond (x0 !=3) (some [B true]) (cond (X !=17) (cond (X !=18) (cond (X !=19) (some [B false]) (cond (D !=1) (cond (D != -1) (some [B false]) (Kg Y x9 E G Dg x0 x1 x2 x3 x4 x5 x6 x7 X D J L M N O S T U V Bi Fc Bw)) (Kg Y x9 E G Dg x0 x1 x2 x3 x4 x5 x6 x7 X D J L M N O S T U V Bi Fc Bw))) (cond (D !=1) (cond (D != -1) (some [B false]) (Kg Y x9 E G Dg x0 x1 x2 x3 x4 x5 x6 x7 X D J L M N O S T U V Bi Fc Bw)) (Kg Y x9 E G Dg x0 x1 x2 x3 x4 x5 x6 x7 X D J L M N O S T U V Bi Fc Bw))) (cond (D !=1) (cond (D != -1) (some [B false]) (Kg Y x9 E G Dg x0 x1 x2 x3 x4 x5 x6 x7 X D J L M N O S T U V Bi Fc Bw)) (Kg Y x9 E G Dg x0 x1 x2 x3 x4 x5 x6 x7 X D J L M N O S T U V Bi Fc Bw)))))):=by kernel_rfl
def Fs:=ZT Fy Ot E7 IC ND Ct
theorem Zuv:Aj PG (VB Fy Ot E7 IC ND Ct):=Am rfl ⟨Qhy,Zt5,Ty,Q14,Zcb,NF,trivial⟩
theorem Qd5:Ak PG (ZK Fs):=rw1 (C:=VB Fy Ot E7 IC ND Ct) Zuv
def Y2:Sk:=⟨[TS.tup [(false,[sa [kI,kI,kI,kI]]),(false,[sb])]],[],[]⟩
def Zpi:=qa 169 Qd9 Y2
def Za (D E G:Fn):Cfg:={cp [Q2x D,Zvk E,ZK G] [196]with rowDst:=[20]}
def Qbj (D E G:Fn):Fn:=Al PG (Za D E G) 64 169 Qd9 Y2
theorem Zbu (EP Ls Ck:Fn) (X Y x2 x3 x4 x5 x6 x7 x8 x9 G J D:Int) (E:Bool) (L:Int) (M:Bool) (N O S T U:Int) (V:Bool):Qbj EP Ls Ck [I X,I Y,I x2,I x3,I x4,I x5,I x6,I x7,I x8,I x9,I G,I J,I D,B E,I L,B M,I N,I O,I S,I T,I U,B V]=
 cond (X !=3) (some [.vC [kI,kI,kI,kI] [],B false]) ((Ck [I X,I Y,I x2,I x3,I x4,I x5,I x6,I x7,I x8,I x9,I G,I J,I D,B E,I L,B M,I N,I O,I S,I T,I U,B V]).bind λo3=>
 cond (!bA o3 0) (some [.vC [kI,kI,kI,kI] [],B false]) ((Ls [I X,I Y,I x2,I x3,I x4,I x5,I x6,I x7,I x8,I x9,I G,I J,I D,B E,I L,B M,I N,I O,I S,I T,I U,B V]).bind λo4=>
 (EP [jA o4 0,jA o4 1,jA o4 2,jA o4 3,jA o4 4,jA o4 5,jA o4 6,jA o4 7,I D,B E,I 0]).bind λo5=>
 cond ((([[jA o4 0,jA o4 1,jA o4 2,jA o4 3]]++wA o5 0).length*32).ble 140737488355328) (some [.vC [kI,kI,kI,kI] ([[jA o4 0,jA o4 1,jA o4 2,jA o4 3]]++wA o5 0),B true]) (none))):=by kernel_rfl
def Mh:=Qbj Py NE Fs
theorem Zey:Aj PG (Za Py NE Fs):=Am rfl ⟨Zbi,Zjh,Qd5,trivial⟩
theorem Zas:Ak PG (Zpi Mh):=rw1 (C:=Za Py NE Fs) Zey
def YI:Sk:=⟨[TS.tup [(false,[sa kPt]),(false,[sb])]],[],[]⟩
def Zhq:=qa 116 Qd9 YI
def WZ (D E G I J:Fn):Cfg:={cf [Qui D,Qhq E,Qjy G,Zpi I,ZK J]with prom:=λb=>cond (Nat.beq b 9) ([(9,78)]) ([])}
def Qof:Sk:=⟨[td,tf [sc 1 0],td,td,td,td,tf [ci],tf [ci],td,tf [sd 9 3]]++dd 29++[tf [sa [kI,kI,kI,kI]],tf [ci],tf [ci]]++dd 21,[(1,49,cc 13++[sb,ci,sb]++cc 5++[sb])],[(9,78,kPt)]⟩
def Qoh:List (Ex×Sk):=[(Ex.exit 0,⟨dd 9++[tf [sd 9 3]]++dd 53,[],[(9,78,kPt)]⟩)]
def KL (D E G I J:Fn):Lp:=A4 PG (WZ D E G I J) 64 9 (A3 PG 116 9) Qof Qoh
def Qxt (D E G I J:Fn) (L:Lp):Cfg:=(WZ D E G I J).loop 9 Qof Qoh L
def TR (D E G I J:Fn) (L:Lp):Fn:=Al PG (Qxt D E G I J L) 64 116 Qd9 YI
theorem Qlx (Cx B0 A9 F1 Ck:Fn) (v0:Rw) (Y v2:Int) (J:Rw) (v4 E v6 v7 v8 v9 v10 v11 v12 L G M N S T:Int) (U:Bool) (v20:Int) (v21:Bool) (v22 V v24 v25 X:Int) (v27:Bool):KL Cx B0 A9 F1 Ck [.vC kPt v0,I Y,I v2, .vC [kI,kI,kI,kI] J,I v4,I E,I v6,I v7,I v8,I v9,I v10,I v11,I v12,I L,I G,I M,I N,I S,I T,B U,I v20,B v21,I v22,I V,I v24,I v25,I X,B v27]=
 cond (decide (E<v4)) (cond (decide (0<=E)&&decide (E<(J.length:Int))) ((Cx [I (O (Y+gA (nth [] J E.toNat) 0)),I (O (v2+gA (nth [] J E.toNat) 1)),jA (nth [] J E.toNat) 3,I G]).bind λD=>
 cond (((v0++[[jA D 0,jA D 1,jA D 2]]).length*24).ble 140737488355328) (some (0,[.vC kPt (v0++[[jA D 0,jA D 1,jA D 2]]),I Y,I v2, .vC [kI,kI,kI,kI] J,I v4,I (O (E+1)),I v6,I v7,I v8,I v9,I v10,I v11,I v12,I L,I G,I M,I N,I S,I T,B U,I v20,B v21,I v22,I V,I v24,I v25,I X,B v27])) (none)) (none)) (some (1,[.vC kPt v0])):=by kernel_rfl
theorem Q47 (Cx B0 A9 F1 Ck:Fn) (N9:Lp) (x0 x1 x2 x3 x4 x5 x6 x7 x8 x9 D E G:Int) (J:Bool) (L:Int) (M:Bool) (N O S T U:Int) (V:Bool):TR Cx B0 A9 F1 Ck N9 [I x0,I x1,I x2,I x3,I x4,I x5,I x6,I x7,I x8,I x9,I D,I E,I G,B J,I L,B M,I N,I O,I S,I T,I U,B V]=
 (Ck [I x0,I x1,I x2,I x3,I x4,I x5,I x6,I x7,I x8,I x9,I D,I E,I G,B J,I L,B M,I N,I O,I S,I T,I U,B V]).bind λa4=>
 cond (!bA a4 0) (some [.vC kPt [],B false]) ((F1 [I x0,I x1,I x2,I x3,I x4,I x5,I x6,I x7,I x8,I x9,I D,I E,I G,B J,I L,B M,I N,I O,I S,I T,I U,B V]).bind λX=>
 cond (!bA X 1) ((A9 [I x2,I x3,I x4]).bind λY=>
 (A9 [I x5,I x6,I x7]).bind λa0=>
 some [.vC kPt [[jA Y 0,jA Y 1,jA Y 2],[jA a0 0,jA a0 1,jA a0 2]],B true]) ((A9 [I x9,I D,I E]).bind λa1=>
 (B0 [jA a1 0,jA a1 1,jA a1 2,I x8]).bind λa2=>
 (N9 [.vC kPt [],jA a2 0,jA a2 1, .vC [kI,kI,kI,kI] (wA X 0),I (↑(wA X 0).length:Int),I 0,I x0,I x1,I x2,I x3,I x4,I x5,I x6,I x7,I x8,I x9,I D,I E,I G,B J,I L,B M,I N,I O,I S,I T,I U,B V]).bind λa3=>
 cond (a3.1.beq 1) (some [.vC kPt (wA a3.2 0),B true]) (none))):=by kernel_rfl
def Qs5:=An (KL Hd Ff DE Mh Fs)
def OW:=TR Hd Ff DE Mh Fs Qs5
theorem Qsz:Aj PG (WZ Hd Ff DE Mh Fs):=Am rfl ⟨Qoo,Qev,Ut,Zas,Qd5,trivial⟩
theorem Zok:Ak PG (Zhq OW):=rw2 (C:=Qxt Hd Ff DE Mh Fs Qs5) (fl fb Qsz) Qsz
def Zm9:=qa 80 Vp Qhl
def Qiy (D E G I J:Fn):Cfg:=cf [Qre D,Qnr E,Zqx G,Q13 I,Zhq J]
def Xg (D E G I J:Fn):Fn:=Al PG (Qiy D E G I J) 64 80 Vp Qhl
theorem Q5b (V Bp I4 Dp L7:Fn) (S:Rw) (G x2:Int):Xg V Bp I4 Dp L7 [.vC Ac S,I G,I x2]=
 cond (decide (0<=G)&&decide (G<(S.length:Int))) ((L7 (AF Ac (nth [] S G.toNat))).bind λE=>
 cond (decide (0<=G)&&decide (G<(S.length:Int))) ((Dp (AF Ac (nth [] S G.toNat))).bind λa0=>
 cond (!bA a0 0) (some [.vC kPt (wA E 0)]) (cond (decide (0<=1)&&decide (1<=(↑(wA E 0).length:Int))) (cond (decide (0<=1)&&decide (1<=(↑(wA E 0).length:Int))) (cond (decide (x2>=0)) ((I4 [.vC Ac S,I x2,I G]).bind λD=>
 cond (decide (0<=O ((↑(wA D 0).length:Int).tdiv 2))&&decide (O ((↑(wA D 0).length:Int).tdiv 2)<=(↑(wA D 0).length:Int))) ((Bp [.vC Ac S,I G]).bind λX=>
 cond (decide (gA X 0>=0)) ((I4 [.vC Ac S,I G,jA X 0]).bind λT=>
 cond (decide (0<=O (O ((↑(wA T 0).length:Int).tdiv 2)+1))&&decide (O (O ((↑(wA T 0).length:Int).tdiv 2)+1)<=(↑(wA T 0).length:Int))) (cond ((([]++List.drop (O ((↑(wA D 0).length:Int).tdiv 2)).toNat (wA D 0)).length*24).ble 140737488355328) (cond (decide (0<=G)&&decide (G<(S.length:Int))) ((V (AF Ac (nth [] S G.toNat))).bind λJ=>
 cond ((([]++List.drop (O ((↑(wA D 0).length:Int).tdiv 2)).toNat (wA D 0)++[[jA J 0,jA J 1,jA J 2]]).length*24).ble 140737488355328) (cond ((([]++List.drop (O ((↑(wA D 0).length:Int).tdiv 2)).toNat (wA D 0)++[[jA J 0,jA J 1,jA J 2]]++List.take (O (O ((↑(wA T 0).length:Int).tdiv 2)+1)).toNat (wA T 0)).length*24).ble 140737488355328) (some [.vC kPt ([]++List.drop (O ((↑(wA D 0).length:Int).tdiv 2)).toNat (wA D 0)++[[jA J 0,jA J 1,jA J 2]]++List.take (O (O ((↑(wA T 0).length:Int).tdiv 2)+1)).toNat (wA T 0))]) (none)) (none)) (none)) (none)) (none)) (cond ((([]++List.drop (O ((↑(wA D 0).length:Int).tdiv 2)).toNat (wA D 0)).length*24).ble 140737488355328) (cond (decide (0<=G)&&decide (G<(S.length:Int))) ((V (AF Ac (nth [] S G.toNat))).bind λL=>
 cond ((([]++List.drop (O ((↑(wA D 0).length:Int).tdiv 2)).toNat (wA D 0)++[[jA L 0,jA L 1,jA L 2]]).length*24).ble 140737488355328) (cond ((([]++List.drop (O ((↑(wA D 0).length:Int).tdiv 2)).toNat (wA D 0)++[[jA L 0,jA L 1,jA L 2]]++List.drop (Int.toNat 1) (wA E 0)).length*24).ble 140737488355328) (some [.vC kPt ([]++List.drop (O ((↑(wA D 0).length:Int).tdiv 2)).toNat (wA D 0)++[[jA L 0,jA L 1,jA L 2]]++List.drop (Int.toNat 1) (wA E 0))]) (none)) (none)) (none)) (none))) (none)) ((Bp [.vC Ac S,I G]).bind λY=>
 cond (decide (gA Y 0>=0)) ((I4 [.vC Ac S,I G,jA Y 0]).bind λU=>
 cond (decide (0<=O (O ((↑(wA U 0).length:Int).tdiv 2)+1))&&decide (O (O ((↑(wA U 0).length:Int).tdiv 2)+1)<=(↑(wA U 0).length:Int))) (cond ((([]++List.take (Int.toNat 1) (wA E 0)).length*24).ble 140737488355328) (cond (decide (0<=G)&&decide (G<(S.length:Int))) ((V (AF Ac (nth [] S G.toNat))).bind λM=>
 cond ((([]++List.take (Int.toNat 1) (wA E 0)++[[jA M 0,jA M 1,jA M 2]]).length*24).ble 140737488355328) (cond ((([]++List.take (Int.toNat 1) (wA E 0)++[[jA M 0,jA M 1,jA M 2]]++List.take (O (O ((↑(wA U 0).length:Int).tdiv 2)+1)).toNat (wA U 0)).length*24).ble 140737488355328) (some [.vC kPt ([]++List.take (Int.toNat 1) (wA E 0)++[[jA M 0,jA M 1,jA M 2]]++List.take (O (O ((↑(wA U 0).length:Int).tdiv 2)+1)).toNat (wA U 0))]) (none)) (none)) (none)) (none)) (none)) (cond ((([]++List.take (Int.toNat 1) (wA E 0)).length*24).ble 140737488355328) (cond (decide (0<=G)&&decide (G<(S.length:Int))) ((V (AF Ac (nth [] S G.toNat))).bind λN=>
 cond ((([]++List.take (Int.toNat 1) (wA E 0)++[[jA N 0,jA N 1,jA N 2]]).length*24).ble 140737488355328) (cond ((([]++List.take (Int.toNat 1) (wA E 0)++[[jA N 0,jA N 1,jA N 2]]++List.drop (Int.toNat 1) (wA E 0)).length*24).ble 140737488355328) (some [.vC kPt ([]++List.take (Int.toNat 1) (wA E 0)++[[jA N 0,jA N 1,jA N 2]]++List.drop (Int.toNat 1) (wA E 0))]) (none)) (none)) (none)) (none)))) (none)) (none))) (none)) (none):=by kernel_rfl
def Hc:=Xg H6 E5 NA Hb OW
theorem Zu2:Aj PG (Qiy H6 E5 NA Hb OW):=Am rfl ⟨Qnw,Qt2,Zav,Qmu,Zok,trivial⟩
theorem Zu4:Ak PG (Zm9 Hc):=rw1 (C:=Qiy H6 E5 NA Hb OW) Zu2
def Qgy:Sk:=⟨[TS.v true (cc 13++[sb,ci,sb]++cc 5++[sb]),tf [ci]],[],[]⟩
def Zm7:=qa 78 Qgy Qg6
def X1 (D:Fn):Cfg:=cf [Quh D]
def Zi (D:Fn):Fn:=Al PG (X1 D) 64 78 Qgy Qg6
theorem Q0w (CV:Fn) (x0 x1 x2 x3 x4 x5 x6 x7 x8 x9 J L M:Int) (N:Bool) (D:Int) (E:Bool) (S T U V X:Int) (Y:Bool) (G:Int):Zi CV [I x0,I x1,I x2,I x3,I x4,I x5,I x6,I x7,I x8,I x9,I J,I L,I M,B N,I D,B E,I S,I T,I U,I V,I X,B Y,I G]=
 cond (x0==1) (some [I 0]) (cond (E) ((CV [I (O (O (mn (O (D*mx G 1)) 60000000*16)*256)),I 60000]).bind λo2=>
 some [I (mx (gA o2 0) 1)]) ((CV [I (O (O (mn D 60000000*16)*256)),I 60000]).bind λo3=>
 some [I (mx (gA o3 0) 1)])):=by kernel_rfl
def FC:=Zi E2
theorem Zd5:Aj PG (X1 E2):=Am rfl ⟨Qm6,trivial⟩
theorem Zkf:Ak PG (Zm7 FC):=rw1 (C:=X1 E2) Zd5
def Q7v:=qa 76 Qd9 Qg6
def Q2i:Fn:=Al PG Qaf 64 76 Qd9 Qg6
theorem Znm (D Y x2 x3 x4 x5 x6 x7 x8 x9 E G J:Int) (L:Bool) (M:Int) (N:Bool) (O S T U V:Int) (X:Bool):Q2i [I D,I Y,I x2,I x3,I x4,I x5,I x6,I x7,I x8,I x9,I E,I G,I J,B L,I M,B N,I O,I S,I T,I U,I V,B X]=
 cond (D==10) (some [I 5]) (cond (D==13) (some [I 4]) (some [I 3])):=by kernel_rfl
def GC:=Q2i
theorem Zir:Aj PG (Qaf):=Am rfl trivial
theorem Ze6:Ak PG (Q7v GC):=rw1 (C:=Qaf) Zir
def Q45:=qa 114 Qd9 WT
def Vf (D E:Fn):Cfg:=cf [ZK D,O9 E]
def Qah (D E:Fn):Fn:=Al PG (Vf D E) 64 114 Qd9 WT
theorem Zfg (Y AH:Fn) (L x1 x2 x3 x4 x5 x6 x7 x8 x9 M N O:Int) (S:Bool) (E:Int) (T:Bool) (U V D G J:Int) (X:Bool):Qah Y AH [I L,I x1,I x2,I x3,I x4,I x5,I x6,I x7,I x8,I x9,I M,I N,I O,B S,I E,B T,I U,I V,I D,I G,I J,B X]=
 cond (decide (L<1)) (some [B true]) (cond (decide (L>14)) (some [B true]) ((AH [I L]).bind λo2=>
 cond (bA o2 0) ((Y [I L,I x1,I x2,I x3,I x4,I x5,I x6,I x7,I x8,I x9,I M,I N,I O,B S,I E,B T,I U,I V,I D,I G,I J,B X]).bind λo3=>
 cond (!bA o3 0) (some [B true]) (cond (L !=1) (cond (decide (E<1)) (some [B true]) (cond (decide (E>60000000)) (some [B true]) (cond (decide (D<0)) (some [B true]) (some [B (decide (D>1000))])))) (cond (decide (D<0)) (some [B true]) (some [B (decide (D>1000))])))) (cond (L==8) (cond (decide (G<3)) (some [B true]) (cond (decide (G>5)) (some [B true]) (cond (decide (J<0)) (some [B true]) (some [B (decide (J>30000))])))) (some [B false])))):=by kernel_rfl
def JH:=Qah Fs Ct
theorem Zgk:Aj PG (Vf Fs Ct):=Am rfl ⟨Qd5,NF,trivial⟩
theorem Zeu:Ak PG (Q45 JH):=rw1 (C:=Vf Fs Ct) Zgk
def Xf:Sk:=⟨[tf [sa Ac]],[],[]⟩
def Zel:=qa 74 Xf Qg6
def V8 (D E:Fn):Cfg:=cf [O9 D,Q45 E]
def Qz7:Sk:=⟨[tf [sa Ac],td,td,tf [ci],td,td,td,td,td,tf [sa Ac],tf [ci],tf [ci]]++dd 24,[],[]⟩
def Q1n:List (Ex×Sk):=[(Ex.ret,⟨[td,td,tf [ci]]++dd 33,[],[]⟩),(Ex.exit 0,⟨[td]++dd 35,[],[]⟩)]
def ID (D E:Fn):Lp:=A4 PG (V8 D E) 64 5 (A3 PG 74 5) Qz7 Q1n
def Qsg (D E:Fn) (G:Lp):Cfg:=(V8 D E).loop 5 Qz7 Q1n G
def VQ (D E:Fn) (G:Lp):Fn:=Al PG (Qsg D E G) 64 74 Xf Qg6
theorem Ql8 (L M:Fn) (v0:Rw) (G:Int) (E:Rw) (J D:Int):ID L M [.vC Ac v0,I G, .vC Ac E,I J,I D]=
 cond (decide (D<J)) (cond (decide (0<=D)&&decide (D<(E.length:Int))) ((M (AF Ac (nth [] E D.toNat))).bind λo3=>
 cond (bA o3 0) (some (1,[I 1])) ((L [jA (nth [] E D.toNat) 0]).bind λo4=>
 cond (!bA o4 0) (some (0,[.vC Ac v0,I G, .vC Ac E,I J,I (O (D+1))])) (cond (decide (G>=0)) (cond (decide (0<=G)&&decide (G<(v0.length:Int))) (cond (!(gA (nth [] v0 G.toNat) 5==gA (nth [] E D.toNat) 2&&(gA (nth [] v0 G.toNat) 6==gA (nth [] E D.toNat) 3&&(gA (nth [] v0 G.toNat) 7==gA (nth [] E D.toNat) 4&&true)))) (some (1,[I 13])) (some (0,[.vC Ac v0,I D, .vC Ac E,I J,I (O (D+1))]))) (none)) (some (0,[.vC Ac v0,I D, .vC Ac E,I J,I (O (D+1))]))))) (none)) (some (2,[])):=by kernel_rfl
theorem Zan (J L:Fn) (G:Lp) (D:Rw):VQ J L G [.vC Ac D]=
 cond (decide ((D.length:Int)>20000)) (some [I 10]) ((G [.vC Ac D,I (-1), .vC Ac D,I (D.length:Int),I 0]).bind λE=>
 cond (E.1.beq 1) (some [jA E.2 0]) (cond (E.1.beq 2) (some [I 0]) (none))):=by kernel_rfl
def Qqc:=An (ID Ct JH)
def GK:=VQ Ct JH Qqc
theorem Qpv:Aj PG (V8 Ct JH):=Am rfl ⟨NF,Zeu,trivial⟩
theorem Zki:Ak PG (Zel GK):=rw2 (C:=Qsg Ct JH Qqc) (fl fb Qpv) Qpv
def ZG:Sk:=⟨[TS.tup [(true,[ci,ci,ci,sa Af,sa kPt]),(false,[ci])]],[],[]⟩
def Q7g:=qa 29 Xf ZG
def TW (D E G I J L M N O S:Fn):Cfg:={spec:=GE [Zdk D,Qnr E,Qq7 G,Zm9 I,Qr9 J,Zm7 L,Qjy M,Q7v N,O9 O,Zel S],eqOk:=HC,ownOff:=Qsr,ownBut:=[2]}
def Qqq:Sk:=⟨[tf [sa Ac],td,tf [sc 2 0],td,td,tf [sc 5 0],tf [sc 6 0],tf [ci],tf [ci],td,tf [sb],tf [ci],td,tf [sc 13 0]]++dd 9++[tf [sa Ac],tf [ci],tf [ci]]++dd 57++[tf [sa kPt],tf [ci],tf [ci]]++dd 47,[(2,82,[ci,ci,ci,sa Af,sa kPt]),(5,82,[ci,ci,ci,sd 1005003 7,sd 1005004 3]),(6,78,[ci,ci,ci]),(13,140,cc 7)],[(1005003,140,Af),(1005004,136,kPt)]⟩
def Qq1:List (Ex×Sk):=[(Ex.ret,⟨[td,td,tf [sc 2 0],tf [ci]]++dd 129,[(2,82,[ci,ci,ci,CS.nil,CS.nil])],[]⟩),(Ex.exit 2,⟨[tf [sa Ac],td,tf [sc 2 0],td,td,tf [sc 5 0],tf [sc 6 0],tf [ci],tf [ci],td,tf [sb],tf [ci]]++dd 11++[tf [sa Ac],tf [ci],tf [ci]]++dd 107,[(2,82,[ci,ci,ci,sa Af,sa kPt]),(5,82,[ci,ci,ci,sd 1005003 7,sd 1005004 3]),(6,78,[ci,ci,ci])],[(1005003,140,Af),(1005004,136,kPt)]⟩)]
def OP (D E G I J L M N O S:Fn):Lp:=A4 PG (TW D E G I J L M N O S) 64 19 (A3 PG 29 19) Qqq Qq1
def Qkt (E G I J L M N O S T:Fn) (D:Lp):Cfg:=(TW E G I J L M N O S T).loop 19 Qqq Qq1 D
def Qqn:Sk:=⟨[tf [sa Ac],td,tf [sc 2 0],td,td,tf [sc 5 0],tf [sc 6 0],tf [ci],tf [ci],tf [ci],tf [sb]]++dd 12++[tf [sa Ac],tf [ci],tf [ci]]++dd 107,[(2,82,[ci,ci,ci,sa Af,sa kPt]),(5,82,[ci,ci,ci,sd 1005003 7,sd 1005004 3]),(6,78,[ci,ci,ci])],[(1005003,140,Af),(1005004,136,kPt)]⟩
def Qk1:List (Ex×Sk):=[(Ex.ret,⟨[td,td,tf [sc 2 0],tf [ci]]++dd 129,[(2,82,[ci,ci,ci,CS.nil,CS.nil])],[]⟩),(Ex.exit 0,⟨[td,td,tf [sc 2 0],td,td,tf [sc 5 0]]++dd 127,[(2,82,[ci,ci,ci,sa Af,sa kPt]),(5,82,[ci,ci,ci,sd 1005003 7,sd 1005004 3])],[(1005003,140,Af),(1005004,136,kPt)]⟩)]
def Nm (E G I J L M N O S T:Fn) (D:Lp):Lp:=A4 PG (Qkt E G I J L M N O S T D) 64 7 (A3 PG 29 7) Qqn Qk1
def Qur (E G I J L M N O S T:Fn) (D U:Lp):Cfg:=(Qkt E G I J L M N O S T D).loop 7 Qqn Qk1 U
def Tk (E G I J L M N O S T:Fn) (D U:Lp):Fn:=Al PG (Qur E G I J L M N O S T D U) 64 29 Xf ZG
theorem TT (BC Bp Cg BY Bg Ci A9 C2 AH DB:Fn) (v0 X Y:Rw) (v3 v4:Int) (v5:Bool) (v6:Int) (v7:Rw) (v8 v9:Int) (v10:Rw) (v11 v12 J L M:Int) (N S:Rw) (T U v20 v21 v22 G v24 v25 V v27 v28 E v30:Int):OP BC Bp Cg BY Bg Ci A9 C2 AH DB [.vC Af v0, .vC kPt X, .vC Ac Y,I v3,I v4,B v5,I v6, .vC Ac v7,I v8,I v9, .vC kPt v10,I v11,I v12,I J,I L,I M, .vC Af N, .vC kPt S,I T,I U,I v20,I v21,I v22,I G,I v24,I v25,I V,I v27,I v28,I E,I v30]=
 cond (decide (v12<v11)) (cond (decide (0<=v12)&&decide (v12<(v10.length:Int))) (cond (gA (nth [] v10 v12.toNat) 0==v21&&(gA (nth [] v10 v12.toNat) 1==v22&&(gA (nth [] v10 v12.toNat) 2==G&&true))) (some (0,[.vC Af v0, .vC kPt X, .vC Ac Y,I v3,I v4,B v5,I v6, .vC Ac v7,I v8,I v9, .vC kPt v10,I v11,I (O (v12+1)),I J,I L,I M, .vC Af N, .vC kPt S,I T,I U,I v20,I v21,I v22,I G,I v24,I v25,I V,I v27,I v28,I E,I v30])) ((Cg [I v21,I v22,I G,jA (nth [] v10 v12.toNat) 0,jA (nth [] v10 v12.toNat) 1,jA (nth [] v10 v12.toNat) 2]).bind λD=>
 cond (((v0++[[jA (nth [] v10 v12.toNat) 0,jA (nth [] v10 v12.toNat) 1,jA (nth [] v10 v12.toNat) 2,jA D 0,I v28,I E,I v30]]).length*56).ble 140737488355328) (cond (decide ((↑(v0++[[jA (nth [] v10 v12.toNat) 0,jA (nth [] v10 v12.toNat) 1,jA (nth [] v10 v12.toNat) 2,jA D 0,I v28,I E,I v30]]).length:Int)>1048576)) (some (1,[I 10,I 0,I 0,I 0])) (some (0,[.vC Af (v0++[[jA (nth [] v10 v12.toNat) 0,jA (nth [] v10 v12.toNat) 1,jA (nth [] v10 v12.toNat) 2,jA D 0,I v28,I E,I v30]]), .vC kPt X, .vC Ac Y,I (O (v3+gA D 0)),I v4,B v5,I v6, .vC Ac v7,I v8,I v9, .vC kPt v10,I v11,I (O (v12+1)),I J,I L,I M, .vC Af N, .vC kPt S,I T,I U,I v20,jA (nth [] v10 v12.toNat) 0,jA (nth [] v10 v12.toNat) 1,jA (nth [] v10 v12.toNat) 2,jA (nth [] v10 v12.toNat) 0,jA (nth [] v10 v12.toNat) 1,jA (nth [] v10 v12.toNat) 2,jA D 0,I v28,I E,I v30]))) (none))) (none)) (some (2,[.vC Af v0, .vC kPt X, .vC Ac Y,I v3,I v4,B v5,I v6, .vC Ac v7,I v8,I v9,I J,I L,I M, .vC Af N, .vC kPt S,I T,I U,I v20,I v21,I v22,I G])):=by kernel_rfl
abbrev Qgo (J:Fn) (D:Nat×List AC) (G:AC):Option (Nat×List AC):=
 (J [.vC Ac (wA D.2 2),jA D.2 6]).bind λE=>
 cond (((wA D.2 1++[[jA D.2 3,jA E 0,jA D.2 6]]).length*24).ble 140737488355328) (some (0,[.vC Af (wA D.2 0), .vC kPt (wA D.2 1++[[jA D.2 3,jA E 0,jA D.2 6]]), .vC Ac (wA D.2 2),jA D.2 3,jA D.2 4,G,B (bA D.2 5), .vC Ac (wA D.2 7),jA D.2 8,I (O (gA D.2 9+1)),jA D.2 10,jA D.2 11,jA D.2 12, .vC Af (wA D.2 13), .vC kPt (wA D.2 14),jA D.2 15,jA D.2 16,jA D.2 17,jA D.2 18,jA D.2 19,jA D.2 20])) (none)
abbrev Qfu (BY:Fn) (v2:Rw) (Y v5:Int) (a0:Lp) (v0 v1:Rw) (v3:Int) (G J:AC) (v7:Rw) (v8 v10 v11 v12:Int) (a1 a2:Rw) (L M N O S T:AC) (U:List AC) (Bp BC:Fn) (V:AC):Option (Nat×List AC):=
 (BY [.vC Ac v2,I Y,I v5]).bind λE=>
 (a0 [.vC Af v0, .vC kPt v1, .vC Ac v2,I v3,G,J,I Y, .vC Ac v7,I v8,I Y, .vC kPt (wA E 0),I (↑(wA E 0).length:Int),I 0,I v10,I v11,I v12, .vC Af a1, .vC kPt a2,L,M,N,O,S,T,I 0,I 0,I 0,I 0,I Y,jA U 0,V]).bind λD=>
 cond (D.1.beq 1) (some (1,[jA D.2 0,jA D.2 1,jA D.2 2,jA D.2 3])) (cond (D.1.beq 2) ((Bp [.vC Ac (wA D.2 2),jA D.2 6]).bind λX=>
 cond (decide (gA X 0>=0)) (Qgo BC D (jA D.2 6)) (Qgo BC D (I (-1)))) (none))
abbrev ZH (Ci:Fn) (U:Rw) (V:Int) (Bg BY:Fn) (v2:Rw) (v5:Int) (X:Lp) (v0 v1:Rw) (v3 v8 v10 v11 v12:Int) (Y a0:Rw) (Bp BC:Fn) (D E G J L M N S:AC):Option (Nat×List AC):=
 (Ci (AF Ac (nth [] U V.toNat)++[D])).bind λT=>
 (Bg (AF Ac (nth [] U V.toNat))).bind λa1=>
 cond (bA a1 0) (Qfu BY v2 V v5 X v0 v1 v3 D E U v8 v10 v11 v12 Y a0 G J L M N S T Bp BC (I (mn (O (gA (nth [] U V.toNat) 14*16)) 16777216))) (Qfu BY v2 V v5 X v0 v1 v3 D E U v8 v10 v11 v12 Y a0 G J L M N S T Bp BC (I 0))
abbrev O3 (AH:Fn) (E:Rw) (D:Int) (C2:Fn) (v1:Rw) (T:Int) (v0 v2:Rw) (v5:Int) (v6:Bool) (v8 v10 v11 v12:Int) (N S:Rw) (U V X Y a0 v20:Int) (A9 Ci Bg BY:Fn) (a1:Lp) (Bp BC:Fn) (a2 L:AC):Option (Nat×List AC):=
 (AH [jA (nth [] E D.toNat) 0]).bind λa3=>
 cond (!bA a3 0) ((C2 (AF Ac (nth [] E D.toNat))).bind λM=>
 cond (((v1++[[I T,jA M 0,I D]]).length*24).ble 140737488355328) (some (0,[.vC Af v0, .vC kPt (v1++[[I T,jA M 0,I D]]), .vC Ac v2,I T,a2,I v5,B v6, .vC Ac E,I v8,I (O (D+1)),I v10,I v11,I v12, .vC Af N, .vC kPt S,I U,I V,I X,I Y,I a0,I v20])) (none)) (cond (!v6) ((A9 [jA (nth [] E D.toNat) 2,jA (nth [] E D.toNat) 3,jA (nth [] E D.toNat) 4]).bind λG=>
 (A9 [jA (nth [] E D.toNat) 2,jA (nth [] E D.toNat) 3,jA (nth [] E D.toNat) 4]).bind λJ=>
 ZH Ci E D Bg BY v2 v5 a1 v0 v1 T v8 v10 v11 v12 N S Bp BC L (B true) (jA G 0) (jA G 1) (jA G 2) (jA J 0) (jA J 1) (jA J 2)) (ZH Ci E D Bg BY v2 v5 a1 v0 v1 T v8 v10 v11 v12 N S Bp BC L (B v6) (I U) (I V) (I X) (I Y) (I a0) (I v20)))
theorem Q1a (X Y Cg BY Bg Ci A9 C2 AH DB:Fn) (O:Lp) (v0 U v2:Rw) (v3 v4 v5:Int) (v6:Bool) (E:Rw) (V D v10 v11 v12:Int) (G J:Rw) (L M N S T v20:Int):Nm X Y Cg BY Bg Ci A9 C2 AH DB O [.vC Af v0, .vC kPt U, .vC Ac v2,I v3,I v4,I v5,B v6, .vC Ac E,I V,I D,I v10,I v11,I v12, .vC Af G, .vC kPt J,I L,I M,I N,I S,I T,I v20]=
 cond (decide (D<V)) (cond (decide (0<=D)&&decide (D<(E.length:Int))) (cond (gA (nth [] E D.toNat) 0==8) (cond (gA (nth [] E D.toNat) 19==3) (O3 AH E D C2 U v3 v0 v2 v5 v6 V v10 v11 v12 G J L M N S T v20 A9 Ci Bg BY O Y X (jA (nth [] E D.toNat) 20) (jA (nth [] E D.toNat) 20)) (cond (gA (nth [] E D.toNat) 19==4) (O3 AH E D C2 U v3 v0 v2 v5 v6 V v10 v11 v12 G J L M N S T v20 A9 Ci Bg BY O Y X (jA (nth [] E D.toNat) 20) (jA (nth [] E D.toNat) 20)) (O3 AH E D C2 U v3 v0 v2 v5 v6 V v10 v11 v12 G J L M N S T v20 A9 Ci Bg BY O Y X (I v4) (I v4)))) (O3 AH E D C2 U v3 v0 v2 v5 v6 V v10 v11 v12 G J L M N S T v20 A9 Ci Bg BY O Y X (I v4) (I v4))) (none)) (some (2,[.vC Af v0, .vC kPt U,I v10,I v11,I v12, .vC Af G, .vC kPt J,I L,I M,I N])):=by kernel_rfl
theorem Q59 (N O S T U V X Y AH L:Fn) (J M:Lp) (G:Rw):Tk N O S T U V X Y AH L J M [.vC Ac G]=
 (L [.vC Ac G]).bind λE=>
 cond (gA E 0 !=0) (some [I 0,I 0,I 0, .vC Af [], .vC kPt [],jA E 0]) ((M [.vC Af [], .vC kPt [], .vC Ac G,I 0,I 0,I (-1),B false, .vC Ac G,I (G.length:Int),I 0,I 0,I 0,I 0, .vC Af [], .vC kPt [],I 0,I 0,I 0,I 0,I 0,I 0]).bind λD=>
 cond (D.1.beq 1) (some [jA D.2 1,jA D.2 2,jA D.2 3, .vC Af [], .vC kPt [],jA D.2 0]) (cond (D.1.beq 2) (some [jA D.2 7,jA D.2 8,jA D.2 9, .vC Af (wA D.2 0), .vC kPt (wA D.2 1),I 0]) (none))):=by kernel_rfl
def No:=An (OP G8 E5 Fd Hc EI FC DE GC Ct GK)
def Qph:=An (Nm G8 E5 Fd Hc EI FC DE GC Ct GK No)
def KP:=Tk G8 E5 Fd Hc EI FC DE GC Ct GK No Qph
theorem Qdl:Aj PG (TW G8 E5 Fd Hc EI FC DE GC Ct GK):=Am rfl ⟨Zr5,Qt2,Qn2,Zu4,Qmd,Zkf,Ut,Ze6,NF,Zki,trivial⟩
theorem Zte:Ak PG (Q7g KP):=rw2 (C:=Qur G8 E5 Fd Hc EI FC DE GC Ct GK No Qph) (fl (fl fb Qdl) Qdl) Qdl
def Q3y:=qa 113 Vx Qg6
def XJ:Fn:=Al PG Qaf 64 113 Vx Qg6
theorem Q9w (E D:Int):XJ [I E,I D]=
 cond (decide (D=0)) (none) (cond (decide (D=0)) (none) (cond (decide (E.tmod D<0)) (some [I (O (O (E.tdiv D)-1))]) (some [I (O (E.tdiv D))]))):=by kernel_rfl
def Pp:=XJ
theorem Zjb:Aj PG (Qaf):=Am rfl trivial
theorem Zbb:Ak PG (Q3y Pp):=rw1 (C:=Qaf) Zjb
def Zno:=qa 73 Qg6 Qg6
def Qeo (D:Fn):Cfg:=cf [Q3y D]
def Ue (D:Fn):Fn:=Al PG (Qeo D) 64 73 Qg6 Qg6
theorem Zst (D:Fn) (E:Int):Ue D [I E]=
 (D [I (O (O (O (O (2*E)*4096)*256)+60000)),I 120000]).bind λo1=>
 some [jA o1 0]:=by kernel_rfl
def NV:=Ue Pp
theorem Zbg:Aj PG (Qeo Pp):=Am rfl ⟨Zbb,trivial⟩
theorem Zct:Ak PG (Zno NV):=rw1 (C:=Qeo Pp) Zbg
def Q34:=qa 72 X2 WT
def Um:Fn:=Al PG Qaf 64 72 X2 WT
theorem Zoj (D E G:Int):Um [I D,I E,I G]=
 cond (decide (D>=1)) (cond (decide (D<=65536)) (cond (decide (E>=2)) (cond (decide (E<=65536)) (cond (decide (G>=1)) (some [B (decide (G<=16777216))]) (some [B false])) (some [B false])) (some [B false])) (some [B false])) (some [B false]):=by kernel_rfl
def NI:=Um
theorem Q8s:Aj PG (Qaf):=Am rfl trivial
theorem Zkw:Ak PG (Q34 NI):=rw1 (C:=Qaf) Q8s
def Qaq:Sk:=⟨[TS.v true (cc 9++[sa Aa])],[],[]⟩
def Zoq:=qa 71 Qaq WT
def Qn1:Sk:=⟨[td,tf [sc 1 0]]++dd 95++[tf [sa Aa],tf [ci],tf [ci]]++dd 41,[(1,24,cc 9++[sa Aa])],[]⟩
def Q04:List (Ex×Sk):=[(Ex.ret,⟨[td,td,tf [sb]]++dd 138,[],[]⟩),(Ex.exit 0,⟨[td]++dd 140,[],[]⟩)]
def VC:Lp:=A4 PG Qaf 64 10 (A3 PG 71 10) Qn1 Q04
def Qpi (D:Lp):Cfg:=Qaf.loop 10 Qn1 Q04 D
def Qew (D:Lp):Fn:=Al PG (Qpi D) 64 71 Qaq WT
theorem Qll (v0:Rw) (E D G J L M N S T v10 v11:Int) (v12:Rw):VC [.vC Aa v0,I E,I D,I G,I J,I L,I M,I N,I S,I T,I v10,I v11, .vC Aa v12]=
 cond (decide (D<E)) (cond (decide (0<=D)&&decide (D<(v0.length:Int))) (cond (decide (gA (nth [] v0 D.toNat) 0< -4096)) (some (1,[B false])) (cond (decide (gA (nth [] v0 D.toNat) 0>4096)) (some (1,[B false])) (cond (decide (D>0)) (cond (decide (0<=O (D-1))&&decide (O (D-1)<(v12.length:Int))) (cond (decide (O (gA (nth [] v0 D.toNat) 0-gA (nth [] v12 (O (D-1)).toNat) 0)>O (v11.tdiv 4))) (some (1,[B false])) (cond (decide (0<=O (D-1))&&decide (O (D-1)<(v12.length:Int))) (cond (decide (O (gA (nth [] v12 (O (D-1)).toNat) 0-gA (nth [] v0 D.toNat) 0)>O (v11.tdiv 4))) (some (1,[B false])) (some (0,[.vC Aa v0,I E,I (O (D+1)),I G,I J,I L,I M,I N,I S,I T,I v10,I v11, .vC Aa v12]))) (none))) (none)) (some (0,[.vC Aa v0,I E,I (O (D+1)),I G,I J,I L,I M,I N,I S,I T,I v10,I v11, .vC Aa v12]))))) (none)) (some (2,[])):=by kernel_rfl
theorem Zk0 (E:Lp) (G J L M N O S T U:Int) (D:Rw):Qew E [I G,I J,I L,I M,I N,I O,I S,I T,I U, .vC Aa D]=
 cond (decide (G<4)) (some [B false]) (cond (decide (G>4096)) (some [B false]) (cond (decide (J<1)) (some [B false]) (cond (decide (J>1048576)) (some [B false]) (cond (decide (L<2)) (some [B false]) (cond (decide (L>1048576)) (some [B false]) (cond (decide (M<4)) (some [B false]) (cond (decide (M>1048576)) (some [B false]) (cond (decide (N< -16777216)) (some [B false]) (cond (decide (O>16777216)) (some [B false]) (cond (decide (N>O)) (some [B false]) (cond (decide (S<0)) (some [B false]) (cond (decide (S>64)) (some [B false]) (cond (decide ((D.length:Int)>64)) (some [B false]) (cond ((D.length:Int)==0) (some [B true]) (cond (decide (T< -16777216)) (some [B false]) (cond (decide (T>16777216)) (some [B false]) (cond (decide (U<4)) (some [B false]) (cond (decide (U>16777216)) (some [B false]) ((E [.vC Aa D,I (D.length:Int),I 0,I G,I J,I L,I M,I N,I O,I S,I T,I U, .vC Aa D]).bind λo1=>
 cond (o1.1.beq 1) (some [B (bA o1.2 0)]) (cond (o1.1.beq 2) (some [B true]) (none))))))))))))))))))))):=by kernel_rfl
def Q1w:=An (VC)
def Pa:=Qew Q1w
theorem Qwg:Aj PG (Qaf):=Am rfl trivial
theorem Q8n:Ak PG (Zoq Pa):=rw2 (C:=Qpi Q1w) (fl fb Qwg) Qwg
def Qhz:Sk:=⟨[TS.v true (cc 9++[sa Aa]++cc 9++[sa Aa]++cc 9++[sa Aa]++cc 5)],[],[]⟩
def Q93:=qa 28 Qhz WT
def Qe9 (D E G:Fn):Cfg:={cf [Zno D,Q34 E,Zoq G]with unroll:=[2]}
def UP (D E G:Fn):Fn:=Al PG (Qe9 D E G) 64 28 Qhz WT
theorem Zjk (KZ Lg IY:Fn) (x0 x1 x2 x3 x4 x5 x6 x7 x8:Int) (x9:Rw) (G J L M N O S T U:Int) (V:Rw) (X Y a0 a1 a2 a3 a4 a5 a6:Int) (a7:Rw) (a8 a9 b0 D E:Int):UP KZ Lg IY [I x0,I x1,I x2,I x3,I x4,I x5,I x6,I x7,I x8, .vC Aa x9,I G,I J,I L,I M,I N,I O,I S,I T,I U, .vC Aa V,I X,I Y,I a0,I a1,I a2,I a3,I a4,I a5,I a6, .vC Aa a7,I a8,I a9,I b0,I D,I E]=
 (IY [I x0,I x1,I x2,I x3,I x4,I x5,I x6,I x7,I x8, .vC Aa x9]).bind λo5=>
 cond (!bA o5 0) (some [B false]) ((IY [I G,I J,I L,I M,I N,I O,I S,I T,I U, .vC Aa V]).bind λo6=>
 cond (!bA o6 0) (some [B false]) ((IY [I X,I Y,I a0,I a1,I a2,I a3,I a4,I a5,I a6, .vC Aa a7]).bind λo7=>
 cond (!bA o7 0) (some [B false]) ((Lg [I a8,I a9,I b0]).bind λo8=>
 cond (bA o8 0) (cond (decide (D>=1)) ((KZ [I 30000]).bind λo9=>
 cond (decide (D<=gA o9 0)) (cond (decide (E>=0)) (some [B (decide (E<=1048576))]) (some [B false])) (some [B false])) (some [B false])) (some [B false])))):=by kernel_rfl
def Ps:=UP NV NI Pa
theorem Q57:Aj PG (Qe9 NV NI Pa):=Am rfl ⟨Zct,Zkw,Q8n,trivial⟩
theorem Q8m:Ak PG (Q93 Ps):=rw1 (C:=Qe9 NV NI Pa) Q57
def Qjj:Sk:=⟨[TS.v true (cc 9++[sa Aa]++cc 9++[sa Aa]++cc 9++[sa Aa]++cc 5),tf [sa Ac],tf [sb]],[],[]⟩
def Wx:Sk:=⟨[TS.tup [(false,[sc 37 0]),(false,[ci])]],[(37,103,cc 9++[sa Aa]++cc 9++[sa Aa]++cc 9++[sa Aa]++cc 5++[sd 28 22,sb,ci,ci,ci,sa Af,sa kPt,sa Ao]++cc 13++[sb,sb,sb]++cc 13++[sb,ci,sb]++cc 8)],[(28,49,Ac)]⟩
def Qii:Sk:=⟨[TS.tup [(false,[CS.nilp]),(false,[ci])]],[],[]⟩
def OE (o:List AC):Bool:=(match o with|[_]=>false|_=>true)
def Q15 (D E G I J L M:Fn):Cfg:=cf [Zsl D,Qol E,Zk2 G,Ziy I,Zcj J,Q7g L,Q93 M]
def Pm (D E G I J L M:Fn):Fn:=Oi PG (Q15 D E G I J L M) 64 10 Qjj Wx Qii OE
theorem TG (Kr Dw Lk Mt Mm Mk Li:Fn) (x0 x1 x2 x3 x4 x5 x6 x7 x8:Int) (x9:Rw) (G J L M N O S T U:Int) (V:Rw) (X Y a0 a1 a2 a3 a4 a5 a6:Int) (a7:Rw) (b0 b1 b2 b3 b4:Int) (a9:Rw) (b6:Bool):Pm Kr Dw Lk Mt Mm Mk Li [I x0,I x1,I x2,I x3,I x4,I x5,I x6,I x7,I x8, .vC Aa x9,I G,I J,I L,I M,I N,I O,I S,I T,I U, .vC Aa V,I X,I Y,I a0,I a1,I a2,I a3,I a4,I a5,I a6, .vC Aa a7,I b0,I b1,I b2,I b3,I b4, .vC Ac a9,B b6]=
 (Li [I x0,I x1,I x2,I x3,I x4,I x5,I x6,I x7,I x8, .vC Aa x9,I G,I J,I L,I M,I N,I O,I S,I T,I U, .vC Aa V,I X,I Y,I a0,I a1,I a2,I a3,I a4,I a5,I a6, .vC Aa a7,I b0,I b1,I b2,I b3,I b4]).bind λo7=>
 cond (!bA o7 0) (some [I 1]) ((Mk [.vC Ac a9]).bind λD=>
 cond (gA D 5 !=0) (some [jA D 5]) ((Mm [I x0,I x1,I x2,I x3,I x4,I x5,I x6,I x7,I x8, .vC Aa x9,I G,I J,I L,I M,I N,I O,I S,I T,I U, .vC Aa V,I X,I Y,I a0,I a1,I a2,I a3,I a4,I a5,I a6, .vC Aa a7,jA D 0,jA D 1,jA D 2, .vC Af (wA D 3), .vC kPt (wA D 4)]).bind λo9=>
 cond (!bA o9 0) (some [I 17]) (cond ((([]++a9).length*176).ble 140737488355328) ((Mt []).bind λa8=>
 (Lk []).bind λb5=>
 (Dw [jA D 0,jA D 1,jA D 2, .vC Af (wA D 3), .vC kPt (wA D 4)]).bind λb7=>
 (Kr [jA D 0,jA D 1,jA D 2, .vC Af (wA D 3), .vC kPt (wA D 4),I x0,I x1,I x2,I x3,I x4,I x5,I x6,I x7,I x8, .vC Aa x9,I G,I J,I L,I M,I N,I O,I S,I T,I U, .vC Aa V,I X,I Y,I a0,I a1,I a2,I a3,I a4,I a5,I a6, .vC Aa a7,I 1,I 1,I 1,I 0,jA b7 0]).bind λE=>
 some [.vC Ac ([]++a9),I 0,I x0,I x1,I x2,I x3,I x4,I x5,I x6,I x7,I x8, .vC Aa x9,I G,I J,I L,I M,I N,I O,I S,I T,I U, .vC Aa V,I X,I Y,I a0,I a1,I a2,I a3,I a4,I a5,I a6, .vC Aa a7,I b0,I b1,I b2,I b3,I b4,B b6,jA D 0,jA D 1,jA D 2, .vC Af (wA D 3), .vC kPt (wA D 4), .vC Ao (wA E 0),jA E 1,jA E 2,jA E 3,jA E 4,jA E 5,I 0,I 0,I 0,I 0,I 0,I 0,jA a8 0,jA a8 1,B (bA a8 2),B (bA a8 3),B (bA a8 4),jA b5 0,jA b5 1,jA b5 2,I 1,I 0,I 0,I 0,I 0,I 0,I 0,I 0,I 0,I (-1),B false,I 0,B false,I 0,I (-1),I 0,I 0,I 0,I 0,I 0,I 0]) (none)))):=by kernel_rfl
def HL:=Pm Qy Gu PW Pu Ri KP Ps
theorem Zpd:Aj PG (Q15 Qy Gu PW Pu Ri KP Ps):=Am rfl ⟨Zfw,Qtr,Zmq,Zsd,Zgc,Zte,Q8m,trivial⟩
theorem Zo4:Ak PG (10,GD Qjj Wx Qii OE HL):=Qp9 (by kernel_rfl) (FnOK.bare rfl rfl rfl) Zpd eqOk Gj (by kernel_rfl) (by kernel_rfl) (by kernel_rfl)
def Xm:Sk:=⟨[TS.v true (cc 6)],[],[]⟩
def Zmg:=qa 27 Qg6 Xm
def XL:Fn:=Al PG Qaf 64 27 Qg6 Xm
theorem Zrd (D:Int):XL [I D]=
 some [I (O (D*256)),I 0,I 0,I (O (D*256)),I (O (D*256)),I (O (D*256))]:=by kernel_rfl
def Rx:=XL
theorem Zbx:Aj PG (Qaf):=Am rfl trivial
theorem Q42:Ak PG (Zmg Rx):=rw1 (C:=Qaf) Zbx
def Zcl:=qa 69 UA Qg6
def Qsn:Fn:=Al PG VR 64 69 UA Qg6
theorem Q4p (x0 x1 x2 x3 x4 x5 N x7 x8:Int) (x9:Rw) (T U V X Y a0 D a1 a2:Int) (a3:Rw) (a4 a5 a6 a7 a8 a9 E b0 b1:Int) (b2:Rw) (O L G S M J:Int):Qsn [I x0,I x1,I x2,I x3,I x4,I x5,I N,I x7,I x8, .vC Aa x9,I T,I U,I V,I X,I Y,I a0,I D,I a1,I a2, .vC Aa a3,I a4,I a5,I a6,I a7,I a8,I a9,I E,I b0,I b1, .vC Aa b2,I O,I L,I G,I S,I M,I J]=
 cond (O !=S) (cond (L !=M) (cond (G !=J) (some [I (mx (mx (mx 0 N) D) E)]) (some [I (mx (mx 0 N) D)])) (cond (G !=J) (some [I (mx (mx 0 N) E)]) (some [I (mx 0 N)]))) (cond (L !=M) (cond (G !=J) (some [I (mx (mx 0 D) E)]) (some [I (mx 0 D)])) (cond (G !=J) (some [I (mx 0 E)]) (some [I 0]))):=by kernel_rfl
def KE:=Qsn
theorem Q3g:Aj PG (VR):=Am rfl trivial
theorem Zff:Ak PG (Zcl KE):=rw1 (C:=VR) Q3g
def Zvl:=qa 68 Qij X2
def Q1g:Fn:=Al PG WD 64 68 Qij X2
abbrev Po (G J:Int) (D:AC) (L M:Int) (E:AC):Option (List AC):=
 cond (decide (G>J)) (some [D,E,I L]) (cond (decide (G<J)) (some [D,E,I (O (0-L))]) (some [D,E,I M]))
abbrev QP (M N G J E L S:Int) (D:AC):Option (List AC):=
 cond (decide (M>N)) (Po G J D E L (I E)) (cond (decide (M<N)) (Po G J D E L (I (O (0-E)))) (Po G J D E L (I S)))
theorem Q6h (U E G S J L T M N D:Int):Q1g [I U,I E,I G,I S,I J,I L,I T,I M,I N,I D]=
 cond (decide (T>S)) (QP M J N L D G E (I D)) (cond (decide (T<S)) (QP M J N L D G E (I (O (0-D)))) (QP M J N L D G E (I U))):=by kernel_rfl
def LB:=Q1g
theorem Zjg:Aj PG (WD):=Am rfl trivial
theorem Zts:Ak PG (Zvl LB):=rw1 (C:=WD) Zjg
def Qfj:Sk:=⟨[TS.v true (cc 10),tf [sc 20000 0]],[(20000,85,[sd 20000 10]++cc 5)],[(20000,126,Ao)]⟩
def Qvg:=qa 66 Qfj Qda
def Sm:Fn:=Al PG Qaf 64 66 Qfj Qda
theorem Q0d (D:Rw) (x1 J X T Y x6 x7 U V G E L M N S:Int):Sm [.vC Ao D,I x1,I J,I X,I T,I Y,I x6,I x7,I U,I V,I G,I E,I L,I M,I N,I S]=
 cond (decide ((D.length:Int)>0)) (cond (T !=0) (cond (decide (0<=O ((D.length:Int)-1))&&decide (O ((D.length:Int)-1)<(D.length:Int))) (cond (gA (nth [] D (O ((D.length:Int)-1)).toNat) 3==T) (cond (decide (0<=O ((D.length:Int)-1))&&decide (O ((D.length:Int)-1)<(D.length:Int))) (cond (gA (nth [] D (O ((D.length:Int)-1)).toNat) 7==U&&(gA (nth [] D (O ((D.length:Int)-1)).toNat) 8==V&&(gA (nth [] D (O ((D.length:Int)-1)).toNat) 9==G&&true))) (cond (decide (0<=O ((D.length:Int)-1))&&decide (O ((D.length:Int)-1)<(D.length:Int))) (cond (decide (0<=O ((D.length:Int)-1))&&decide (O ((D.length:Int)-1)<(D.length:Int))) (some [.vC Ao (D.set (O ((D.length:Int)-1)).toNat [jA (nth [] D (O ((D.length:Int)-1)).toNat) 0,I (O (gA (nth [] D (O ((D.length:Int)-1)).toNat) 1+J)),jA (nth [] D (O ((D.length:Int)-1)).toNat) 2,jA (nth [] D (O ((D.length:Int)-1)).toNat) 3,jA (nth [] D (O ((D.length:Int)-1)).toNat) 4,jA (nth [] D (O ((D.length:Int)-1)).toNat) 5,jA (nth [] D (O ((D.length:Int)-1)).toNat) 6,jA (nth [] D (O ((D.length:Int)-1)).toNat) 7,jA (nth [] D (O ((D.length:Int)-1)).toNat) 8,jA (nth [] D (O ((D.length:Int)-1)).toNat) 9]),I (O (E+J)),I L,I M,I N,I S]) (none)) (none)) (cond (((D++[[I E,I J,I X,I T,I Y,I x6,I x7,I U,I V,I G]]).length*80).ble 140737488355328) (some [.vC Ao (D++[[I E,I J,I X,I T,I Y,I x6,I x7,I U,I V,I G]]),I (O (E+J)),I L,I M,I N,I S]) (none))) (none)) (cond (((D++[[I E,I J,I X,I T,I Y,I x6,I x7,I U,I V,I G]]).length*80).ble 140737488355328) (some [.vC Ao (D++[[I E,I J,I X,I T,I Y,I x6,I x7,I U,I V,I G]]),I (O (E+J)),I L,I M,I N,I S]) (none))) (none)) (cond (((D++[[I E,I J,I X,I T,I Y,I x6,I x7,I U,I V,I G]]).length*80).ble 140737488355328) (some [.vC Ao (D++[[I E,I J,I X,I T,I Y,I x6,I x7,I U,I V,I G]]),I (O (E+J)),I L,I M,I N,I S]) (none))) (cond (((D++[[I E,I J,I X,I T,I Y,I x6,I x7,I U,I V,I G]]).length*80).ble 140737488355328) (some [.vC Ao (D++[[I E,I J,I X,I T,I Y,I x6,I x7,I U,I V,I G]]),I (O (E+J)),I L,I M,I N,I S]) (none)):=by kernel_rfl
def Kl:=Sm
theorem Zd3:Aj PG (Qaf):=Am rfl trivial
theorem Qkv:Ak PG (Qvg Kl):=rw1 (C:=Qaf) Zd3
def Qhc:Sk:=⟨[TS.v true [ci,ci,ci],TS.v true [ci,ci,ci],tf [ci],tf [ci],tf [sc 20000 0],tf [sc 20001 0],tf [sc 20002 0],tf [sc 20003 0]],[(20000,51,[ci,ci,ci]),(20001,3,[ci]),(20002,25,cc 9++[sa Aa]++cc 9++[sa Aa]++cc 9++[sa Aa]),(20003,127,[CS.clo 66 [] [(20004,0)]]),(20004,85,[sd 20000 10]++cc 5)],[(20000,126,Ao)]⟩
def Qcq:Sk:=⟨[TS.tup []],[(20000,51,[ci,ci,ci]),(20001,3,[ci]),(20002,25,cc 9++[sa Aa]++cc 9++[sa Aa]++cc 9++[sa Aa]),(20003,127,[CS.clo 66 [] [(20004,0)]]),(20004,85,[sd 20000 10]++cc 5)],[(20000,126,Ao)]⟩
def Qrj:=qa 67 Qhc Qcq
def V2 (D E G:Fn):Cfg:=cp [Zcl D,Zvl E,Qvg G] [66]
def Qix (D E G:Fn):Fn:=Al PG (V2 D E G) 64 67 Qhc Qcq
theorem Zod (LS Ni EU:Fn) (x0:Rw) (x1 x2 x3 x4 x5 x6 x7 x8 x9 G J E L M N O S T U V X:Int) (Y:Rw) (a0 a1 a2 a3 a4 a5 a6 a7 a8:Int) (a9:Rw) (b0 b1 b2 b3 b4 b5 b6 b7 b8:Int) (b9:Rw) (c0 c1 c2 c3 c4:Int):Qix LS Ni EU [.vC Ao x0,I x1,I x2,I x3,I x4,I x5,I x6,I x7,I x8,I x9,I G,I J,I E,I L,I M,I N,I O,I S,I T,I U,I V,I X, .vC Aa Y,I a0,I a1,I a2,I a3,I a4,I a5,I a6,I a7,I a8, .vC Aa a9,I b0,I b1,I b2,I b3,I b4,I b5,I b6,I b7,I b8, .vC Aa b9,I c0,I c1,I c2,I c3,I c4]=
 (Ni [I x9,I G,I J,I x1,I x2,I x3,I x4,I x5,I x6,I E]).bind λD=>
 (LS [I L,I M,I N,I O,I S,I T,I U,I V,I X, .vC Aa Y,I a0,I a1,I a2,I a3,I a4,I a5,I a6,I a7,I a8, .vC Aa a9,I b0,I b1,I b2,I b3,I b4,I b5,I b6,I b7,I b8, .vC Aa b9,I x9,I G,I J,jA D 0,jA D 1,jA D 2]).bind λo6=>
 cond (decide (gA o6 0>0)) ((EU [.vC Ao x0,I 0,jA o6 0,I x7,I 0,I x9,I G,I J,jA D 0,jA D 1,jA D 2,I c0,I c1,I c2,I c3,I c4]).bind λo7=>
 (EU [.vC Ao (wA o7 0),I 0,I x8,I x7,I E,jA D 0,jA D 1,jA D 2,jA D 0,jA D 1,jA D 2,jA o7 1,jA o7 2,jA o7 3,jA o7 4,jA o7 5]).bind λo8=>
 some [.vC Ao (wA o8 0),jA D 0,jA D 1,jA D 2,I E,I L,I M,I N,I O,I S,I T,I U,I V,I X, .vC Aa Y,I a0,I a1,I a2,I a3,I a4,I a5,I a6,I a7,I a8, .vC Aa a9,I b0,I b1,I b2,I b3,I b4,I b5,I b6,I b7,I b8, .vC Aa b9,jA o8 1,jA o8 2,jA o8 3,jA o8 4,jA o8 5]) ((EU [.vC Ao x0,I 0,I x8,I x7,I E,jA D 0,jA D 1,jA D 2,jA D 0,jA D 1,jA D 2,I c0,I c1,I c2,I c3,I c4]).bind λo9=>
 some [.vC Ao (wA o9 0),jA D 0,jA D 1,jA D 2,I E,I L,I M,I N,I O,I S,I T,I U,I V,I X, .vC Aa Y,I a0,I a1,I a2,I a3,I a4,I a5,I a6,I a7,I a8, .vC Aa a9,I b0,I b1,I b2,I b3,I b4,I b5,I b6,I b7,I b8, .vC Aa b9,jA o9 1,jA o9 2,jA o9 3,jA o9 4,jA o9 5]):=by kernel_rfl
def EX:=Qix KE LB Kl
theorem Zn1:Aj PG (V2 KE LB Kl):=Am rfl ⟨Zff,Zts,Qkv,trivial⟩
theorem Qw4:Ak PG (Qrj EX):=rw1 (C:=V2 KE LB Kl) Zn1
def WK:Sk:=⟨[TS.v true [ci,ci,ci,sa Af,sa kPt],tf [ci],tf [ci],tf [ci],tf [CS.clo 67 [] [(20000,0),(20001,0),(20002,0),(20003,0)]]],[(20000,51,[ci,ci,ci]),(20001,3,[ci]),(20002,25,cc 9++[sa Aa]++cc 9++[sa Aa]++cc 9++[sa Aa]),(20003,127,[CS.clo 66 [] [(20004,0)]]),(20004,85,[sd 20000 10]++cc 5)],[(20000,126,Ao)]⟩
def Zm1:=qa 70 WK Qcq
def Tb (D:Fn):Cfg:={cp [Qrj D] [67]with prom:=λb=>cond (Nat.beq b 4) ([(11,3)]) ([])}
def Qvf:Sk:=⟨[td,tf [ci],tf [ci],tf [ci],tf [CS.clo 67 [] [(20000,0),(20001,0),(20002,0),(20003,0)]],tf [sc 5 0],td,td,td,td,tf [ci],tf [sd 11 1]]++dd 9++[tf [sa Af],tf [ci],tf [ci]]++dd 78,[(5,82,[ci,ci,ci,sa Af,sa kPt]),(20000,51,[ci,ci,ci]),(20001,3,[ci]),(20002,25,cc 9++[sa Aa]++cc 9++[sa Aa]++cc 9++[sa Aa]),(20003,127,[CS.clo 66 [] [(20004,0)]]),(20004,85,[sd 20000 10]++cc 5)],[(11,3,Aa),(20000,126,Ao)]⟩
def Qkg:List (Ex×Sk):=[(Ex.exit 0,⟨[td,tf [ci],tf [ci],tf [ci],tf [CS.clo 67 [] [(20000,0),(20001,0),(20002,0),(20003,0)]],tf [sc 5 0],td,td,td,td,td,tf [sd 11 1]]++dd 90,[(5,82,[ci,ci,ci,sa Af,sa kPt]),(20000,51,[ci,ci,ci]),(20001,3,[ci]),(20002,25,cc 9++[sa Aa]++cc 9++[sa Aa]++cc 9++[sa Aa]),(20003,127,[CS.clo 66 [] [(20004,0)]]),(20004,85,[sd 20000 10]++cc 5)],[(11,3,Aa),(20000,126,Ao)]⟩)]
def Rt (D:Fn):Lp:=A4 PG (Tb D) 64 4 (A3 PG 70 4) Qvf Qkg
def Qxj (D:Fn) (E:Lp):Cfg:=(Tb D).loop 4 Qvf Qkg E
def Qxo:Sk:=⟨[td,tf [ci],tf [ci],tf [ci],tf [CS.clo 67 [] [(20000,0),(20001,0),(20002,0),(20003,0)]],tf [sc 5 0],td,td,td,td,td,tf [sd 11 1]]++dd 26++[tf [ci],tf [ci]]++dd 62,[(5,82,[ci,ci,ci,sa Af,sa kPt]),(20000,51,[ci,ci,ci]),(20001,3,[ci]),(20002,25,cc 9++[sa Aa]++cc 9++[sa Aa]++cc 9++[sa Aa]),(20003,127,[CS.clo 66 [] [(20004,0)]]),(20004,85,[sd 20000 10]++cc 5)],[(11,3,Aa),(20000,126,Ao)]⟩
def Qte:List (Ex×Sk):=[(Ex.exit 2,⟨[td]++dd 101,[(20000,51,[ci,ci,ci]),(20001,3,[ci]),(20002,25,cc 9++[sa Aa]++cc 9++[sa Aa]++cc 9++[sa Aa]),(20003,127,[CS.clo 66 [] [(20004,0)]]),(20004,85,[sd 20000 10]++cc 5)],[(20000,126,Ao)]⟩)]
def RL (D:Fn) (E:Lp):Lp:=A4 PG (Qxj D E) 64 10 (A3 PG 70 10) Qxo Qte
def Qy1 (E:Fn) (G D:Lp):Cfg:=(Qxj E G).loop 10 Qxo Qte D
def YO (E:Fn) (G D:Lp):Fn:=Al PG (Qy1 E G D) 64 70 WK Qcq
theorem Qrs (BB:Fn) (v0 v1:Rw) (v2 v3 v4 v5:Int) (v6:Rw) (v7 v8 v9 v10 v11:Int) (v12 D:Rw) (E G J L M N v20 v21 v22 S v24 v25 T:Int) (v27:Rw) (v28 U v30 v31 V v33 X v35 v36:Int) (v37:Rw) (v38 Y v40 a0 v42 a1 v44 a2 v46:Int) (a3:Rw) (v48 v49 a4 v51 a5:Int):Rt BB [.vC Aa v0, .vC Ao v1,I v2,I v3,I v4,I v5, .vC Af v6,I v7,I v8,I v9,I v10,I v11, .vC Af v12, .vC kPt D,I E,I G,I J,I L,I M,I N,I v20,I v21,I v22,I S,I v24,I v25,I T, .vC Aa v27,I v28,I U,I v30,I v31,I V,I v33,I X,I v35,I v36, .vC Aa v37,I v38,I Y,I v40,I a0,I v42,I a1,I v44,I a2,I v46, .vC Aa a3,I v48,I v49,I a4,I v51,I a5]=
 cond (decide (v8<v7)) (cond (decide (0<=v8)&&decide (v8<(v6.length:Int))) (cond (((v0++[[I v5]]).length*8).ble 140737488355328) (some (0,[.vC Aa (v0++[[I v5]]), .vC Ao v1,I v2,I v3,I v4,I (O (v5+gA (nth [] v6 v8.toNat) 3)), .vC Af v6,I v7,I (O (v8+1)),I v9,I v10,I v11, .vC Af v12, .vC kPt D,I E,I G,I J,I L,I M,I N,I v20,I v21,I v22,I S,I v24,I v25,I T, .vC Aa v27,I v28,I U,I v30,I v31,I V,I v33,I X,I v35,I v36, .vC Aa v37,I v38,I Y,I v40,I a0,I v42,I a1,I v44,I a2,I v46, .vC Aa a3,I v48,I v49,I a4,I v51,I a5])) (none)) (none)) (some (1,[.vC Aa v0, .vC Ao v1,I v2,I v3,I v4,I v9,I v10,I v11, .vC Af v12, .vC kPt D,I E,I G,I J,I L,I M,I N,I v20,I v21,I v22,I S,I v24,I v25,I T, .vC Aa v27,I v28,I U,I v30,I v31,I V,I v33,I X,I v35,I v36, .vC Aa v37,I v38,I Y,I v40,I a0,I v42,I a1,I v44,I a2,I v46, .vC Aa a3,I v48,I v49,I a4,I v51,I a5])):=by kernel_rfl
abbrev O_ (J:Bool) (BB:Fn) (v1:Rw) (L M E G:AC) (v12 V X Y a0 a1 a2 a3 v20 v21 v22 a4 v24:Int) (v25:Rw) (a5 v27 v28 a6 v30 v31 a7 v33 a8:Int) (v35:Rw) (v36 v37 v38 a9 v40 b0 v42 b1 v44:Int) (b2:Rw) (v46 b3 v48 v49 b4:Int) (v0:Rw) (v2 v3 v4 v5 v6 v7 v8 v9:Int) (v10 v11:Rw) (N S T U:AC):Option (Nat×List AC):=
 cond (J) ((BB [.vC Ao v1,N,S,T,L,M,E,U,G,I v12,I V,I X,I Y,I a0,I a1,I a2,I a3,I v20,I v21,I v22,I a4,I v24, .vC Aa v25,I a5,I v27,I v28,I a6,I v30,I v31,I a7,I v33,I a8, .vC Aa v35,I v36,I v37,I v38,I a9,I v40,I b0,I v42,I b1,I v44, .vC Aa b2,I v46,I b3,I v48,I v49,I b4]).bind λD=>
 some (0,[.vC Aa v0, .vC Ao (wA D 0),I v2,I v3,I v4,I v5,I (O (v6+1)),I v7,I v8,I v9, .vC Af v10, .vC kPt v11,jA D 1,jA D 2,jA D 3,jA D 4,jA D 5,jA D 6,jA D 7,jA D 8,jA D 9,jA D 10,jA D 11,jA D 12,jA D 13, .vC Aa (wA D 14),jA D 15,jA D 16,jA D 17,jA D 18,jA D 19,jA D 20,jA D 21,jA D 22,jA D 23, .vC Aa (wA D 24),jA D 25,jA D 26,jA D 27,jA D 28,jA D 29,jA D 30,jA D 31,jA D 32,jA D 33, .vC Aa (wA D 34),jA D 35,jA D 36,jA D 37,jA D 38,jA D 39])) (none)
abbrev Xt (v0 v1:Rw) (v2 v3 v4 v5 v6 v7 v8 v9:Int) (v10 v11:Rw) (v12 M N S T U V X v20 v21 v22 Y v24:Int) (v25:Rw) (a0 v27 v28 a1 v30 v31 a2 v33 a3:Int) (v35:Rw) (v36 v37 v38 a4 v40 a5 v42 a6 v44:Int) (a7:Rw) (v46 a8 v48 v49 a9:Int) (BB:Fn) (b2 G b6 b7 b8:Bool) (b3 b4 b5 J L D b0 E b1:AC):Option (Nat×List AC):=
 cond (b2) (cond (b2) (cond (G) (cond (b6) (some (0,[.vC Aa v0, .vC Ao v1,I v2,I v3,I v4,I v5,I (O (v6+1)),I v7,I v8,I v9, .vC Af v10, .vC kPt v11,I v12,I M,I N,I S,I T,I U,I V,I X,I v20,I v21,I v22,I Y,I v24, .vC Aa v25,I a0,I v27,I v28,I a1,I v30,I v31,I a2,I v33,I a3, .vC Aa v35,I v36,I v37,I v38,I a4,I v40,I a5,I v42,I a6,I v44, .vC Aa a7,I v46,I a8,I v48,I v49,I a9])) (cond (b7) (cond (b8) (cond (decide (v4<0)) (O_ G BB v1 J L D E v12 M N S T U V X v20 v21 v22 Y v24 v25 a0 v27 v28 a1 v30 v31 a2 v33 a3 v35 v36 v37 v38 a4 v40 a5 v42 a6 v44 a7 v46 a8 v48 v49 a9 v0 v2 v3 v4 v5 v6 v7 v8 v9 v10 v11 b3 b4 b5 b0) (O_ G BB v1 J L D E v12 M N S T U V X v20 v21 v22 Y v24 v25 a0 v27 v28 a1 v30 v31 a2 v33 a3 v35 v36 v37 v38 a4 v40 a5 v42 a6 v44 a7 v46 a8 v48 v49 a9 v0 v2 v3 v4 v5 v6 v7 v8 v9 v10 v11 b3 b4 b5 b1)) (none)) (cond (decide (v4<0)) (O_ G BB v1 J L D E v12 M N S T U V X v20 v21 v22 Y v24 v25 a0 v27 v28 a1 v30 v31 a2 v33 a3 v35 v36 v37 v38 a4 v40 a5 v42 a6 v44 a7 v46 a8 v48 v49 a9 v0 v2 v3 v4 v5 v6 v7 v8 v9 v10 v11 (I v7) (I v8) (I v9) b0) (O_ G BB v1 J L D E v12 M N S T U V X v20 v21 v22 Y v24 v25 a0 v27 v28 a1 v30 v31 a2 v33 a3 v35 v36 v37 v38 a4 v40 a5 v42 a6 v44 a7 v46 a8 v48 v49 a9 v0 v2 v3 v4 v5 v6 v7 v8 v9 v10 v11 (I v7) (I v8) (I v9) b1)))) (none)) (none)) (none)
theorem Qza (BB:Fn) (N4:Lp) (v0 v1:Rw) (E G v4 v5 D v7 v8 v9:Int) (v10 v11:Rw) (v12 J L M N S T U v20 v21 v22 V v24:Int) (v25:Rw) (X v27 v28 Y v30 v31 a0 v33 a1:Int) (v35:Rw) (v36 v37 v38 a2 v40 a3 v42 a4 v44:Int) (a5:Rw) (v46 a6 v48 v49 a7:Int):RL BB N4 [.vC Aa v0, .vC Ao v1,I E,I G,I v4,I v5,I D,I v7,I v8,I v9, .vC Af v10, .vC kPt v11,I v12,I J,I L,I M,I N,I S,I T,I U,I v20,I v21,I v22,I V,I v24, .vC Aa v25,I X,I v27,I v28,I Y,I v30,I v31,I a0,I v33,I a1, .vC Aa v35,I v36,I v37,I v38,I a2,I v40,I a3,I v42,I a4,I v44, .vC Aa a5,I v46,I a6,I v48,I v49,I a7]=
 cond (decide (D<v5)) (cond (decide (v4<0)) (Xt v0 v1 E G v4 v5 D v7 v8 v9 v10 v11 v12 J L M N S T U v20 v21 v22 V v24 v25 X v27 v28 Y v30 v31 a0 v33 a1 v35 v36 v37 v38 a2 v40 a3 v42 a4 v44 a5 v46 a6 v48 v49 a7 BB (decide (0<=O (O ((v10.length:Int)-1)-D))&&decide (O (O ((v10.length:Int)-1)-D)<(v0.length:Int))) (decide (0<=O (O ((v10.length:Int)-1)-D))&&decide (O (O ((v10.length:Int)-1)-D)<(v10.length:Int))) (decide (mx (Ah (nth .dead (nth [] v0 (O (O ((v10.length:Int)-1)-D)).toNat) 0)) E>=mn (O (Ah (nth .dead (nth [] v0 (O (O ((v10.length:Int)-1)-D)).toNat) 0)+Ah (nth .dead (nth [] v10 (O (O ((v10.length:Int)-1)-D)).toNat) 3))) G)) (decide (O (O ((v10.length:Int)-1)-D)>0)) (decide (0<=O (O (O ((v10.length:Int)-1)-D)-1))&&decide (O (O (O ((v10.length:Int)-1)-D)-1)<(v10.length:Int))) (I (Ah (nth .dead (nth [] v10 (O (O (O ((v10.length:Int)-1)-D)-1)).toNat) 0))) (I (Ah (nth .dead (nth [] v10 (O (O (O ((v10.length:Int)-1)-D)-1)).toNat) 1))) (I (Ah (nth .dead (nth [] v10 (O (O (O ((v10.length:Int)-1)-D)-1)).toNat) 2))) (I (Ah (nth .dead (nth [] v10 (O (O ((v10.length:Int)-1)-D)).toNat) 0))) (I (Ah (nth .dead (nth [] v10 (O (O ((v10.length:Int)-1)-D)).toNat) 1))) (I (Ah (nth .dead (nth [] v10 (O (O ((v10.length:Int)-1)-D)).toNat) 2))) (I (mn (O (Ah (nth .dead (nth [] v0 (O (O ((v10.length:Int)-1)-D)).toNat) 0)+Ah (nth .dead (nth [] v10 (O (O ((v10.length:Int)-1)-D)).toNat) 3))) G)) (I (O (mn (O (Ah (nth .dead (nth [] v0 (O (O ((v10.length:Int)-1)-D)).toNat) 0)+Ah (nth .dead (nth [] v10 (O (O ((v10.length:Int)-1)-D)).toNat) 3))) G-mx (Ah (nth .dead (nth [] v0 (O (O ((v10.length:Int)-1)-D)).toNat) 0)) E))) (I (mx (Ah (nth .dead (nth [] v0 (O (O ((v10.length:Int)-1)-D)).toNat) 0)) E))) (Xt v0 v1 E G v4 v5 D v7 v8 v9 v10 v11 v12 J L M N S T U v20 v21 v22 V v24 v25 X v27 v28 Y v30 v31 a0 v33 a1 v35 v36 v37 v38 a2 v40 a3 v42 a4 v44 a5 v46 a6 v48 v49 a7 BB (decide (0<=D)&&decide (D<(v0.length:Int))) (decide (0<=D)&&decide (D<(v10.length:Int))) (decide (mx (gA (nth [] v0 D.toNat) 0) E>=mn (O (gA (nth [] v0 D.toNat) 0+gA (nth [] v10 D.toNat) 3)) G)) (decide (D>0)) (decide (0<=O (D-1))&&decide (O (D-1)<(v10.length:Int))) (jA (nth [] v10 (O (D-1)).toNat) 0) (jA (nth [] v10 (O (D-1)).toNat) 1) (jA (nth [] v10 (O (D-1)).toNat) 2) (jA (nth [] v10 D.toNat) 0) (jA (nth [] v10 D.toNat) 1) (jA (nth [] v10 D.toNat) 2) (I (mn (O (gA (nth [] v0 D.toNat) 0+gA (nth [] v10 D.toNat) 3)) G)) (I (O (mn (O (gA (nth [] v0 D.toNat) 0+gA (nth [] v10 D.toNat) 3)) G-mx (gA (nth [] v0 D.toNat) 0) E))) (I (mx (gA (nth [] v0 D.toNat) 0) E)))) (some (1,[.vC Ao v1,I v12,I J,I L,I M,I N,I S,I T,I U,I v20,I v21,I v22,I V,I v24, .vC Aa v25,I X,I v27,I v28,I Y,I v30,I v31,I a0,I v33,I a1, .vC Aa v35,I v36,I v37,I v38,I a2,I v40,I a3,I v42,I a4,I v44, .vC Aa a5,I v46,I a6,I v48,I v49,I a7])):=by kernel_rfl
theorem Ze0 (BB:Fn) (N4 G:Lp) (x0:Rw) (x1 x2 x3:Int) (x4 x5:Rw) (x6 x7 x8 x9 J L M N O S T U V X Y a0:Int) (a1:Rw) (a2 a3 a4 a5 a6 a7 a8 a9 b0:Int) (b1:Rw) (b2 b3 b4 b5 b6 b7 b8 b9 c0:Int) (c1:Rw) (c2 c3 c4 c5 c6:Int):YO BB N4 G [.vC Ao x0,I x1,I x2,I x3, .vC Af x4, .vC kPt x5,I x6,I x7,I x8,I x9,I J,I L,I M,I N,I O,I S,I T,I U,I V,I X,I Y,I a0, .vC Aa a1,I a2,I a3,I a4,I a5,I a6,I a7,I a8,I a9,I b0, .vC Aa b1,I b2,I b3,I b4,I b5,I b6,I b7,I b8,I b9,I c0, .vC Aa c1,I c2,I c3,I c4,I c5,I c6]=
 (N4 [.vC Aa [], .vC Ao x0,I x6,I x7,I x8,I 0, .vC Af x4,I (x4.length:Int),I 0,I x1,I x2,I x3, .vC Af x4, .vC kPt x5,I x9,I J,I L,I M,I N,I O,I S,I T,I U,I V,I X,I Y,I a0, .vC Aa a1,I a2,I a3,I a4,I a5,I a6,I a7,I a8,I a9,I b0, .vC Aa b1,I b2,I b3,I b4,I b5,I b6,I b7,I b8,I b9,I c0, .vC Aa c1,I c2,I c3,I c4,I c5,I c6]).bind λD=>
 cond (D.1.beq 1) ((G [.vC Aa (wA D.2 0), .vC Ao (wA D.2 1),jA D.2 2,jA D.2 3,jA D.2 4,I (↑(wA D.2 8).length:Int),I 0,jA D.2 5,jA D.2 6,jA D.2 7, .vC Af (wA D.2 8), .vC kPt (wA D.2 9),jA D.2 10,jA D.2 11,jA D.2 12,jA D.2 13,jA D.2 14,jA D.2 15,jA D.2 16,jA D.2 17,jA D.2 18,jA D.2 19,jA D.2 20,jA D.2 21,jA D.2 22, .vC Aa (wA D.2 23),jA D.2 24,jA D.2 25,jA D.2 26,jA D.2 27,jA D.2 28,jA D.2 29,jA D.2 30,jA D.2 31,jA D.2 32, .vC Aa (wA D.2 33),jA D.2 34,jA D.2 35,jA D.2 36,jA D.2 37,jA D.2 38,jA D.2 39,jA D.2 40,jA D.2 41,jA D.2 42, .vC Aa (wA D.2 43),jA D.2 44,jA D.2 45,jA D.2 46,jA D.2 47,jA D.2 48]).bind λE=>
 cond (E.1.beq 1) (some [.vC Ao (wA E.2 0),jA E.2 1,jA E.2 2,jA E.2 3,jA E.2 4,jA E.2 5,jA E.2 6,jA E.2 7,jA E.2 8,jA E.2 9,jA E.2 10,jA E.2 11,jA E.2 12,jA E.2 13, .vC Aa (wA E.2 14),jA E.2 15,jA E.2 16,jA E.2 17,jA E.2 18,jA E.2 19,jA E.2 20,jA E.2 21,jA E.2 22,jA E.2 23, .vC Aa (wA E.2 24),jA E.2 25,jA E.2 26,jA E.2 27,jA E.2 28,jA E.2 29,jA E.2 30,jA E.2 31,jA E.2 32,jA E.2 33, .vC Aa (wA E.2 34),jA E.2 35,jA E.2 36,jA E.2 37,jA E.2 38,jA E.2 39]) (none)) (none):=by kernel_rfl
def LU:=An (Rt EX)
def Qar:=An (RL EX LU)
def NJ:=YO EX LU Qar
theorem Qhg:Aj PG (Tb EX):=Am rfl ⟨Qw4,trivial⟩
theorem Zfr:Ak PG (Zm1 NJ):=rw2 (C:=Qy1 EX LU Qar) (fl (fl fb Qhg) Qhg) Qhg
def Zrn:=qa 65 Vx Qg6
def Q1x:Fn:=Al PG Qaf 64 65 Vx Qg6
theorem Ze7 (D E:Int):Q1x [I D,I E]=
 some [I (mx 0 (mn D E))]:=by kernel_rfl
def Mn:=Q1x
theorem Zlh:Aj PG (Qaf):=Am rfl trivial
theorem Zb6:Ak PG (Zrn Mn):=rw1 (C:=Qaf) Zlh
def Qzj:=qa 63 Yx Qg6
def Qt3:List (Ex×Sk):=[(Ex.exit 0,⟨[td,td,td,tf [ci]]++dd 15,[],[]⟩)]
def Pz:Lp:=A4 PG Qaf 64 3 (A3 PG 63 3) Qrg Qt3
def Q1m (D:Lp):Cfg:=Qaf.loop 3 Qrg Qt3 D
def Qs0 (D:Lp):Fn:=Al PG (Q1m D) 64 63 Yx Qg6
theorem Que (v0:Int) (E:Rw) (G D:Int):Pz [I v0, .vC Af E,I G,I D]=
 cond (decide (D<G)) (cond (decide (0<=D)&&decide (D<(E.length:Int))) (some (0,[I (O (v0+gA (nth [] E D.toNat) 3)), .vC Af E,I G,I (O (D+1))])) (none)) (some (1,[I v0])):=by kernel_rfl
theorem Zcy (E:Lp) (G J L:Int) (D M:Rw):Qs0 E [I G,I J,I L, .vC Af D, .vC kPt M]=
 (E [I 0, .vC Af D,I (D.length:Int),I 0]).bind λo1=>
 cond (o1.1.beq 1) (some [jA o1.2 0]) (none):=by kernel_rfl
def PL:=An (Pz)
def H5:=Qs0 PL
theorem Qy9:Aj PG (Qaf):=Am rfl trivial
theorem Qxm:Ak PG (Qzj H5):=rw2 (C:=Q1m PL) (fl fb Qy9) Qy9
def Q7j:=qa 26 X0 Qfn
def Qbv (D E G I J:Fn):Cfg:=cp [Zm1 D,Qrj E,Qvg G,Zrn I,Qzj J] [70,67,66]
def Qa5 (D E G I J:Fn):Fn:=Al PG (Qbv D E G I J) 64 26 X0 Qfn
theorem Q7d (Jp BB EU J1 Fo:Fn) (x0 x1 x2:Int) (x3 x4:Rw) (x5 x6 x7 x8 x9 J L M N:Int) (O:Rw) (S T U V X Y a0 a1 a2:Int) (a3:Rw) (a4 a5 a6 a7 a8 a9 b0 b1 b2:Int) (b3:Rw) (D E G b4 b5:Int):Qa5 Jp BB EU J1 Fo [I x0,I x1,I x2, .vC Af x3, .vC kPt x4,I x5,I x6,I x7,I x8,I x9,I J,I L,I M,I N, .vC Aa O,I S,I T,I U,I V,I X,I Y,I a0,I a1,I a2, .vC Aa a3,I a4,I a5,I a6,I a7,I a8,I a9,I b0,I b1,I b2, .vC Aa b3,I D,I E,I G,I b4,I b5]=
 (Fo [I x0,I x1,I x2, .vC Af x3, .vC kPt x4]).bind λo5=>
 (J1 [I b4,jA o5 0]).bind λo6=>
 (J1 [I b5,jA o5 0]).bind λo7=>
 cond (decide (gA o6 0>gA o7 0)) ((Jp [.vC Ao [],I x0,I x1,I x2, .vC Af x3, .vC kPt x4,I (mn (gA o6 0) (gA o7 0)),I (mx (gA o6 0) (gA o7 0)),I (-1),I D,I E,I G,I (-1),I x5,I x6,I x7,I x8,I x9,I J,I L,I M,I N, .vC Aa O,I S,I T,I U,I V,I X,I Y,I a0,I a1,I a2, .vC Aa a3,I a4,I a5,I a6,I a7,I a8,I a9,I b0,I b1,I b2, .vC Aa b3,I 0,jA o6 0,I D,I E,I G]).bind λo8=>
 some [.vC Ao (wA o8 0),jA o8 35,jA o8 36,jA o8 37,jA o8 38,jA o8 39]) ((Jp [.vC Ao [],I x0,I x1,I x2, .vC Af x3, .vC kPt x4,I (mn (gA o6 0) (gA o7 0)),I (mx (gA o6 0) (gA o7 0)),I 1,I D,I E,I G,I 1,I x5,I x6,I x7,I x8,I x9,I J,I L,I M,I N, .vC Aa O,I S,I T,I U,I V,I X,I Y,I a0,I a1,I a2, .vC Aa a3,I a4,I a5,I a6,I a7,I a8,I a9,I b0,I b1,I b2, .vC Aa b3,I 0,jA o6 0,I D,I E,I G]).bind λo9=>
 some [.vC Ao (wA o9 0),jA o9 35,jA o9 36,jA o9 37,jA o9 38,jA o9 39]):=by kernel_rfl
def Px:=Qa5 NJ EX Kl Mn H5
theorem Q8z:Aj PG (Qbv NJ EX Kl Mn H5):=Am rfl ⟨Zfr,Qw4,Qkv,Zb6,Qxm,trivial⟩
theorem Q4h:Ak PG (Q7j Px):=rw1 (C:=Qbv NJ EX Kl Mn H5) Q8z
def RT:=qa 112 Qd9 WT
def Ql5:Fn:=Al PG Qaf 64 112 Qd9 WT
theorem Ztq (X x1 Y x3 x4 x5 x6 x7 x8 x9 D E G:Int) (J:Bool) (L:Int) (M:Bool) (N O S T U:Int) (V:Bool):Ql5 [I X,I x1,I Y,I x3,I x4,I x5,I x6,I x7,I x8,I x9,I D,I E,I G,B J,I L,B M,I N,I O,I S,I T,I U,B V]=
 cond (X==2) (some [B !(Y==x5&&(x3==x6&&(x4==x7&&true)))]) (some [B false]):=by kernel_rfl
def D7:=Ql5
theorem Zln:Aj PG (Qaf):=Am rfl trivial
theorem Qw:Ak PG (RT D7):=rw1 (C:=Qaf) Zln
def Rp:=qa 163 Qg6 WT
def Qmv:Fn:=Al PG Qaf 64 163 Qg6 WT
theorem Zui (D:Int):Qmv [I D]=
 cond (decide (D>=1)) (some [B (decide (D<=6))]) (some [B false]):=by kernel_rfl
def De:=Qmv
theorem Zqt:Aj PG (Qaf):=Am rfl trivial
theorem Qh:Ak PG (Rp De):=rw1 (C:=Qaf) Zqt
def Qnq:=qa 185 Qd9 WT
def Qrf:Fn:=Al PG Qaf 64 185 Qd9 WT
theorem Zf2 (D Y x2 x3 x4 x5 x6 x7 x8 x9 E G J:Int) (L:Bool) (M:Int) (N:Bool) (O S T U V:Int) (X:Bool):Qrf [I D,I Y,I x2,I x3,I x4,I x5,I x6,I x7,I x8,I x9,I E,I G,I J,B L,I M,B N,I O,I S,I T,I U,I V,B X]=
 cond (D==5) (some [B true]) (some [B (D==6)]):=by kernel_rfl
def Gs:=Qrf
theorem Zux:Aj PG (Qaf):=Am rfl trivial
theorem Qvd:Ak PG (Qnq Gs):=rw1 (C:=Qaf) Zux
def Zd2:=qa 189 Qh6 WT
def To (D E:Fn):Cfg:=cf [Rp D,Qnq E]
def Qln:Sk:=⟨dd 23++[tf [sa Ac],tf [ci],tf [ci]]++dd 9,[],[]⟩
def Qou:List (Ex×Sk):=[(Ex.ret,⟨[td,td,td,td,tf [sb]]++dd 30,[],[]⟩),(Ex.exit 0,⟨[td]++dd 34,[],[]⟩)]
def Jd (D E:Fn):Lp:=A4 PG (To D E) 64 4 (A3 PG 189 4) Qln Qou
def Qt6 (D E:Fn) (G:Lp):Cfg:=(To D E).loop 4 Qln Qou G
def Qit (D E:Fn) (G:Lp):Fn:=Al PG (Qt6 D E G) 64 189 Qh6 WT
theorem Qqd (G J:Fn) (v0:Rw) (E D:Int):Jd G J [.vC Ac v0,I E,I D]=
 cond (decide (D<E)) (cond (decide (0<=D)&&decide (D<(v0.length:Int))) ((G [jA (nth [] v0 D.toNat) 0]).bind λL=>
 cond (bA L 0) ((J (AF Ac (nth [] v0 D.toNat))).bind λM=>
 some (1,[B (bA M 0)])) (some (0,[.vC Ac v0,I E,I (O (D+1))]))) (none)) (some (2,[])):=by kernel_rfl
theorem Zk8 (M J:Fn) (L:Lp) (E:Rw) (D:Int):Qit M J L [.vC Ac E,I D]=
 cond (decide (0<=D)&&decide (D<(E.length:Int))) (cond (gA (nth [] E D.toNat) 18==0) (some [B true]) (cond (decide (0<=D)&&decide (D<(E.length:Int))) ((J (AF Ac (nth [] E D.toNat))).bind λN=>
 cond (bA N 0) (some [B true]) (cond (decide (0<=O (D+1))&&decide (O (D+1)<=(E.length:Int))) ((L [.vC Ac (List.drop (O (D+1)).toNat E),I (↑(List.drop (O (D+1)).toNat E).length:Int),I 0]).bind λG=>
 cond (G.1.beq 1) (some [B (bA G.2 0)]) (cond (G.1.beq 2) (some [B false]) (none))) (none))) (none))) (none):=by kernel_rfl
def Qxr:=An (Jd De Gs)
def Pd:=Qit De Gs Qxr
theorem Qm9:Aj PG (To De Gs):=Am rfl ⟨Qh,Qvd,trivial⟩
theorem Zsa:Ak PG (Zd2 Pd):=rw2 (C:=Qt6 De Gs Qxr) (fl fb Qm9) Qm9
def Qb5:Sk:=⟨[tf [sc 20000 0],tf [sa Ac],tf [ci]],[(20000,172,[ci,ci,ci,sd 20000 7,sd 20001 3,sb,ci,ci,ci])],[(20000,140,Af),(20001,136,kPt)]⟩
def Qgc:Sk:=⟨[TS.tup []],[(20000,172,[ci,ci,ci,sd 20000 7,sd 20001 3,sb,ci,ci,ci])],[(20000,140,Af),(20001,136,kPt)]⟩
def Q5s:=qa 167 Qb5 Qgc
def Zf (D E:Fn):Cfg:=cf [Zd2 D,Rp E]
def Qdj (D E:Fn):Fn:=Al PG (Zf D E) 64 167 Qb5 Qgc
abbrev Qaa (V:Fn) (U:Rw) (E:Int) (J:Rw) (D:Int) (L:Rw) (M N O:Int) (S:Bool) (T G:Int):Option (List AC):=
 (V [jA (nth [] U E.toNat) 0]).bind λX=>
 cond (bA X 0) (cond (((J++[[I D,I 2,I E]]).length*24).ble 140737488355328) (some [.vC Af L, .vC kPt (J++[[I D,I 2,I E]]),I M,I N,I O,B S,I D,I T,I G]) (none)) (cond (gA (nth [] U E.toNat) 0==10) (cond (((J++[[I D,I 5,I E]]).length*24).ble 140737488355328) (some [.vC Af L, .vC kPt (J++[[I D,I 5,I E]]),I M,I N,I O,B S,I D,I T,I G]) (none)) (cond (gA (nth [] U E.toNat) 0==13) (cond (((J++[[I D,I 4,I E]]).length*24).ble 140737488355328) (some [.vC Af L, .vC kPt (J++[[I D,I 4,I E]]),I M,I N,I O,B S,I D,I T,I G]) (none)) (cond (((J++[[I D,I 3,I E]]).length*24).ble 140737488355328) (some [.vC Af L, .vC kPt (J++[[I D,I 3,I E]]),I M,I N,I O,B S,I D,I T,I G]) (none))))
theorem Zuj (X V:Fn) (M J L:Rw) (D N O S:Int) (T:Bool) (G U E:Int):Qdj X V [.vC Af M, .vC kPt J, .vC Ac L,I D,I N,I O,I S,B T,I G,I U,I E]=
 cond (decide (0<=D)&&decide (D<(L.length:Int))) (cond (gA (nth [] L D.toNat) 0==4) (cond (((J++[[I G,I 6,I D]]).length*24).ble 140737488355328) (some [.vC Af M, .vC kPt (J++[[I G,I 6,I D]]),I N,I O,I S,B T,I G,I U,I E]) (none)) ((V [jA (nth [] L D.toNat) 0]).bind λo4=>
 cond (bA o4 0) ((X [.vC Ac L,I D]).bind λY=>
 cond (bA Y 0) (cond (((J++[[I G,I 1,I D]]).length*24).ble 140737488355328) (some [.vC Af M, .vC kPt (J++[[I G,I 1,I D]]),I N,I O,I S,B T,I G,I U,I E]) (none)) (Qaa V L D J G M N O S T U E)) (Qaa V L D J G M N O S T U E))) (none):=by kernel_rfl
def HG:=Qdj Pd De
theorem Zk7:Aj PG (Zf Pd De):=Am rfl ⟨Zsa,Qh,trivial⟩
theorem Q88:Ak PG (Q5s HG):=rw1 (C:=Zf Pd De) Zk7
def X_:=qa 188 Qd9 X2
def Qqp:Fn:=Al PG Qaf 64 188 Qd9 X2
theorem Zb3 (x0 x1 Y x3 x4 x5 x6 x7 x8 x9 D E G:Int) (J:Bool) (L:Int) (M:Bool) (N S T U V:Int) (X:Bool):Qqp [I x0,I x1,I Y,I x3,I x4,I x5,I x6,I x7,I x8,I x9,I D,I E,I G,B J,I L,B M,I N,I S,I T,I U,I V,B X]=
 some [I (O (O (Y+x5)*8)),I (O (O (x3+x6)*8)),I (O (O (x4+x7)*8))]:=by kernel_rfl
def Fg:=Qqp
theorem Zqo:Aj PG (Qaf):=Am rfl trivial
theorem Qj3:Ak PG (X_ Fg):=rw1 (C:=Qaf) Zqo
def VM:Sk:=⟨[tf [se .u64],tf [sb]],[],[]⟩
def UY:Sk:=⟨[TS.tup [(false,[ci]),(false,[sb])]],[],[]⟩
def Tn:=qa 161 VM UY
def Qv2:Fn:=Al PG Qaf 64 161 VM UY
theorem Q1h (D:Int) (E:Bool):Qv2 [U D,B E]=
 cond (E) (cond (decide (D<=9223372036854775808)) (some [I (O (wrap .u64 (0-D))),B true]) (cond (!E) (cond (decide (D<9223372036854775808)) (some [I (O D),B true]) (some [I 0,B false])) (some [I 0,B false]))) (cond (!E) (cond (decide (D<9223372036854775808)) (some [I (O D),B true]) (some [I 0,B false])) (some [I 0,B false])):=by kernel_rfl
def Eu:=Qv2
theorem Zh9:Aj PG (Qaf):=Am rfl trivial
theorem Qd0:Ak PG (Tn Eu):=rw1 (C:=Qaf) Zh9
def Wc:Sk:=⟨[TS.v true [se .u64,se .u64],TS.v true [se .u64,se .u64]],[],[]⟩
def Qkc:=qa 246 Wc Qg6
def Qvk:Fn:=Al PG Qaf 64 246 Wc Qg6
theorem Q83 (D G E J:Int):Qvk [U D,U G,U E,U J]=
 cond (decide (D<E)) (some [I (-1)]) (cond (D==E) (cond (decide (G<J)) (some [I (-1)]) (cond (D==E&&(G==J&&true)) (some [I 0]) (some [I 1]))) (cond (D==E&&(G==J&&true)) (some [I 0]) (some [I 1]))):=by kernel_rfl
def GT:=Qvk
theorem Zgw:Aj PG (Qaf):=Am rfl trivial
theorem Qq6:Ak PG (Qkc GT):=rw1 (C:=Qaf) Zgw
def X8:Sk:=⟨[TS.v true [se .u64,se .u64]],[],[]⟩
def Q7:=qa 156 TD X8
def Vk (D:Fn):Cfg:=cf [(181,Ad NX Nq D)]
def Qzy (D:Fn):Fn:=Al PG (Vk D) 64 156 TD X8
theorem Q8a (D:Fn) (E G:Int):Qzy D [U E,U G]=
 (D [U E,U G]).bind λo1=>
 some [U (gA o1 0),U (gA o1 1)]:=by kernel_rfl
def DO:=Qzy FK
theorem Q6x:Aj PG (Vk FK):=Am rfl ⟨UG,trivial⟩
theorem RH:Ak PG (Q7 DO):=rw1 (C:=Vk FK) Q6x
def Qxi:=qa 258 X8 S_
def Qcd (D E:Fn):Cfg:=cf [Qkc D,Q7 E]
def Qx1:Sk:=⟨[td,tf [sc 1 0],td,tf [se .u64],tf [se .u64]]++dd 16,[(1,204,[se .u64,se .u64])],[]⟩
def Qzo:List (Ex×Sk):=[(Ex.exit 0,⟨[td,td,td,tf [se .u64]]++dd 17,[],[]⟩)]
def JL (D E:Fn):Lp:=A4 PG (Qcd D E) 64 3 (A3 PG 258 3) Qx1 Qzo
def Q17 (D E:Fn) (G:Lp):Cfg:=(Qcd D E).loop 3 Qx1 Qzo G
def XY (D E:Fn) (G:Lp):Fn:=Al PG (Q17 D E G) 64 258 X8 S_
theorem Qz5 (I J:Fn) (v0 D E G:Int):JL I J [U v0,U D,U E,U G]=
 cond (decide (D>0)) ((J [U (wrap .u64 (↑(BitVec.ofInt IntKind.u64.bits v0|||BitVec.ofInt IntKind.u64.bits D).toNat:Int)),U (wrap .u64 (↑(BitVec.ofInt IntKind.u64.bits v0|||BitVec.ofInt IntKind.u64.bits D).toNat:Int))]).bind λo3=>
 (I [U (gA o3 0),U (gA o3 1),U E,U G]).bind λo4=>
 cond (decide (gA o4 0<=0)) (some (0,[U (wrap .u64 (↑(BitVec.ofInt IntKind.u64.bits v0|||BitVec.ofInt IntKind.u64.bits D).toNat:Int)),U (D.fdiv (2^min (Int.toNat 1) IntKind.u64.bits)),U E,U G])) (some (0,[U v0,U (D.fdiv (2^min (Int.toNat 1) IntKind.u64.bits)),U E,U G]))) (some (1,[U v0])):=by kernel_rfl
theorem Zsm (J L:Fn) (D:Lp) (E G:Int):XY J L D [U E,U G]=
 (D [U 0,U 9223372036854775808,U E,U G]).bind λI=>
 cond (I.1.beq 1) (some [U (gA I.2 0)]) (none):=by kernel_rfl
def Qqi:=An (JL GT DO)
def Id:=XY GT DO Qqi
theorem Qz8:Aj PG (Qcd GT DO):=Am rfl ⟨Qq6,RH,trivial⟩
theorem Qvm:Ak PG (Qxi Id):=rw2 (C:=Q17 GT DO Qqi) (fl fb Qz8) Qz8
def TI:Sk:=⟨[TS.v true [se .u64,se .u64],tf [ci]],[],[]⟩
def Zr2:=qa 251 TI UY
def Qiz (D E G I:Fn):Cfg:=cf [Tn D,(259,Ad QH Q1 E),(181,Ad NX Nq G),Qxi I]
def UQ (D E G I:Fn):Fn:=Al PG (Qiz D E G I) 64 251 TI UY
abbrev YD (O:Int) (M:List AC) (L:Fn) (D N:List AC):Option (List AC):=
 cond (O==2) (cond (decide (gA M 0>0)) ((L [U (wrap .u64 (gA D 0+1)),B false]).bind λE=>
 some [jA E 0,B (bA E 1)]) (cond (decide (gA N 0>gA D 0)) ((L [U (wrap .u64 (gA D 0+1)),B false]).bind λG=>
 some [jA G 0,B (bA G 1)]) ((L [U (gA D 0),B false]).bind λI=>
 some [jA I 0,B (bA I 1)]))) ((L [U (gA D 0),B false]).bind λJ=>
 some [jA J 0,B (bA J 1)])
theorem Zll (J S X Y:Fn) (T V O:Int):UQ J S X Y [U T,U V,I O]=
 (Y [U T,U V]).bind λD=>
 (X [U (gA D 0),U (gA D 0)]).bind λL=>
 (S [U V,U (gA L 1),U 0]).bind λE=>
 (S [U T,U (gA L 0),U (gA E 1)]).bind λG=>
 cond (O==1) (cond (decide (gA G 0>0)) ((J [U (wrap .u64 (gA D 0+1)),B false]).bind λM=>
 some [jA M 0,B (bA M 1)]) (cond (decide (gA E 0>0)) ((J [U (wrap .u64 (gA D 0+1)),B false]).bind λN=>
 some [jA N 0,B (bA N 1)]) (YD O G J D E))) (YD O G J D E):=by kernel_rfl
def Rg:=UQ Eu G4 FK Id
theorem Zei:Aj PG (Qiz Eu G4 FK Id):=Am rfl ⟨Qd0,Qub,UG,Qvm,trivial⟩
theorem Zmx:Ak PG (Zr2 Rg):=rw1 (C:=Qiz Eu G4 FK Id) Zei
def Qiq:=qa 155 Qg6 WT
def Qkw:Fn:=Al PG Qaf 64 155 Qg6 WT
theorem Zji (D:Int):Qkw [I D]=
 cond (D==0) (some [B true]) (cond (D==1) (some [B true]) (some [B (D==2)])):=by kernel_rfl
def Fm:=Qkw
theorem Zky:Aj PG (Qaf):=Am rfl trivial
theorem Qg0:Ak PG (Qiq Fm):=rw1 (C:=Qaf) Zky
def Qm3:=qa 235 Vx UY
def Va (D E:Fn):Cfg:=cf [Zr2 D,Qiq E]
def Wy (D E:Fn):Fn:=Al PG (Va D E) 64 235 Vx UY
theorem Zn7 (G J:Fn) (D E:Int):Wy G J [I D,I E]=
 cond (decide (D<0)) (some [I 0,B false]) ((J [I E]).bind λo2=>
 cond (!bA o2 0) (some [I 0,B false]) ((G [U 0,U (wrap .u64 D),I E]).bind λo3=>
 some [jA o3 0,B (bA o3 1)])):=by kernel_rfl
def Ht:=Wy Rg Fm
theorem Zp7:Aj PG (Va Rg Fm):=Am rfl ⟨Zmx,Qg0,trivial⟩
theorem Qpt:Ak PG (Qm3 Ht):=rw1 (C:=Va Rg Fm) Zp7
def Ql1:=qa 216 Qih Qg6
def Qfp (D:Fn):Cfg:={cf [Qm3 D]with unroll:=[3]}
def Tv (D:Fn):Fn:=Al PG (Qfp D) 64 216 Qih Qg6
theorem Zkd (N:Fn) (D E G J L M:Int):Tv N [I D,I E,I G,I J,I L,I M]=
 (N [I (O (O (O (0+O (O (D-J)*O (D-J)))+O (O (E-L)*O (E-L)))+O (O (G-M)*O (G-M)))),I 1]).bind λo1=>
 some [jA o1 0]:=by kernel_rfl
def HN:=Tv Ht
theorem Zmf:Aj PG (Qfp Ht):=Am rfl ⟨Qpt,trivial⟩
theorem Qnb:Ak PG (Ql1 HN):=rw1 (C:=Qfp Ht) Zmf
def YF:Sk:=⟨[tf [sc 20000 0],TS.v true [ci,ci,ci],TS.v true (cc 7)],[(20000,172,[ci,ci,ci,sd 20000 7,sd 20001 3,sb,ci,ci,ci])],[(20000,140,Af),(20001,136,kPt)]⟩
def Zsi:=qa 187 YF Qgc
def WG (D:Fn):Cfg:=cf [Ql1 D]
def Qt (D:Fn):Fn:=Al PG (WG D) 64 187 YF Qgc
abbrev UK (D:Bool) (x0 x1:Rw) (x2 x3 x4 E G J L M N:Int) (CU:Fn) (x9 S T:Int) (U:Bool) (V X Y:AC):Option (List AC):=
 cond (!D) (some [.vC Af x0, .vC kPt x1,I x2,I x3,I x4,B true,I E,I G,I J]) (cond (U) (some [.vC Af x0, .vC kPt x1,I L,I M,I N,B D,I E,I G,I J]) ((CU [V,X,Y,I x2,I x3,I x4]).bind λo2=>
 cond (((x0++[[I x2,I x3,I x4,jA o2 0,I x9,I S,I T]]).length*56).ble 140737488355328) (some [.vC Af (x0++[[I x2,I x3,I x4,jA o2 0,I x9,I S,I T]]), .vC kPt x1,I L,I M,I N,B D,I (O (E+gA o2 0)),I G,I J]) (none)))
theorem Qzl (CU:Fn) (D x1:Rw) (V X Y x5 x6 x7 x8 x9 L M E G J:Int) (N:Bool) (S T U:Int):Qt CU [.vC Af D, .vC kPt x1,I V,I X,I Y,I x5,I x6,I x7,I x8,I x9,I L,I M,I E,I G,I J,B N,I S,I T,I U]=
 cond (decide ((D.length:Int)>0)) (cond (decide (0<=O ((D.length:Int)-1))&&decide (O ((D.length:Int)-1)<(D.length:Int))) (UK N D x1 V X Y S T U E G J CU x9 L M (V==gA (nth [] D (O ((D.length:Int)-1)).toNat) 0&&(X==gA (nth [] D (O ((D.length:Int)-1)).toNat) 1&&(Y==gA (nth [] D (O ((D.length:Int)-1)).toNat) 2&&true))) (jA (nth [] D (O ((D.length:Int)-1)).toNat) 0) (jA (nth [] D (O ((D.length:Int)-1)).toNat) 1) (jA (nth [] D (O ((D.length:Int)-1)).toNat) 2)) (none)) (UK N D x1 V X Y S T U E G J CU x9 L M (V==E&&(X==G&&(Y==J&&true))) (I E) (I G) (I J)):=by kernel_rfl
def Nd:=Qt HN
theorem Zn2:Aj PG (WG HN):=Am rfl ⟨Qnb,trivial⟩
theorem Q4v:Ak PG (Zsi Nd):=rw1 (C:=WG HN) Zn2
def Qfg:=qa 165 Qh6 Qg6
def Qry:Sk:=⟨[tf [sa Ac],tf [ci]]++dd 20,[],[]⟩
def Qxd:List (Ex×Sk):=[(Ex.exit 0,⟨[td,tf [ci]]++dd 20,[],[]⟩)]
def NQ:Lp:=A4 PG Qaf 64 2 (A3 PG 165 2) Qry Qxd
def Qw5 (D:Lp):Cfg:=Qaf.loop 2 Qry Qxd D
def Zz (D:Lp):Fn:=Al PG (Qw5 D) 64 165 Qh6 Qg6
theorem Qyb (v0:Rw) (D:Int):NQ [.vC Ac v0,I D]=
 cond (decide (D<(v0.length:Int))) (cond (decide (0<=D)&&decide (D<(v0.length:Int))) (cond (gA (nth [] v0 D.toNat) 0==10) (some (0,[.vC Ac v0,I (O (D+1))])) (some (1,[I D]))) (none)) (some (1,[I D])):=by kernel_rfl
theorem Zd6 (D:Lp) (E:Rw) (G:Int):Zz D [.vC Ac E,I G]=
 (D [.vC Ac E,I (O (G+1))]).bind λo1=>
 cond (o1.1.beq 1) (some [jA o1.2 0]) (none):=by kernel_rfl
def Qx3:=An (NQ)
def EA:=Zz Qx3
theorem Qsk:Aj PG (Qaf):=Am rfl trivial
theorem Qf4:Ak PG (Qfg EA):=rw2 (C:=Qw5 Qx3) (fl fb Qsk) Qsk
def Quf:=qa 164 Qh6 WT
def Qba (D E:Fn):Cfg:=cf [RT D,Qfg E]
def Uq (D E:Fn):Fn:=Al PG (Qba D E) 64 164 Qh6 WT
theorem Zmt (G J:Fn) (D:Rw) (E:Int):Uq G J [.vC Ac D,I E]=
 (J [.vC Ac D,I E]).bind λo3=>
 cond (decide (0<=E)&&decide (E<(D.length:Int))) ((G (AF Ac (nth [] D E.toNat))).bind λo4=>
 cond (bA o4 0) (cond (decide (0<=E)&&decide (E<(D.length:Int))) (cond (gA (nth [] D E.toNat) 18 !=0) (cond (decide (gA o3 0<(D.length:Int))) (cond (decide (0<=gA o3 0)&&decide (gA o3 0<(D.length:Int))) ((G (AF Ac (nth [] D (gA o3 0).toNat))).bind λL=>
 some [B (bA L 0)]) (none)) (some [B false])) (some [B false])) (none)) (some [B false])) (none):=by kernel_rfl
def F9:=Uq D7 EA
theorem Q6d:Aj PG (Qba D7 EA):=Am rfl ⟨Qw,Qf4,trivial⟩
theorem Qon:Ak PG (Quf F9):=rw1 (C:=Qba D7 EA) Q6d
def Zn:Sk:=⟨[tf [ci],tf [ci],tf [sb],tf [sb]],[],[]⟩
def Qvs:=qa 160 Zn WT
def Qyd:Fn:=Al PG Qaf 64 160 Zn WT
theorem Zga (E G:Int) (J D:Bool):Qyd [I E,I G,B J,B D]=
 cond (E==0) (cond (J) (some [B D]) (some [B false])) (cond (E==1) (cond (J) (some [B !D]) (some [B false])) (cond (decide (G>0)) (some [B true]) (cond (G==0) (some [B !D]) (some [B false])))):=by kernel_rfl
def Hl:=Qyd
theorem Zvj:Aj PG (Qaf):=Am rfl trivial
theorem Q2s:Ak PG (Qvs Hl):=rw1 (C:=Qaf) Zvj
attribute [go_sem] RM PX Z9 Qe3 NS Qj5 Sw Qek Kg Qgo Qfu ZH O3 Po QP O_ Xt Qaa YD UK
end Go.Bm
