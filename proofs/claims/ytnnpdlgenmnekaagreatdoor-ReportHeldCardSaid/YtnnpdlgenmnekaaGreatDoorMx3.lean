/- functions of the program and of the references, as models -/
import Derived.Test.YtnnpdlgenmnekaaGreatDoorMx2
set_option linter.unusedSimpArgs false
set_option linter.unusedVariables false
set_option maxRecDepth 100000
noncomputable section
open Go.IntKind (wrap)
namespace Go.Bm
open Go.Proofs
def Z9a:=qd 87 Qnx Y3
def WM (D G:Fn):Cfg:=cf [Qdg D,UT G]
def Qlp (D G:Fn):Fn:=Am PG (WM D G) 64 87 Qnx Y3
abbrev Lr (L D G:Int):Option (List AC):=
 cond (L==8) (cond (decide (D<3)) (some [I 1]) (cond (decide (D>5)) (some [I 1]) (cond (decide (G<0)) (some [I 1]) (cond (decide (G>30000)) (some [I 1]) (some [I 0]))))) (some [I 0])
theorem Zxt (CD AU:Fn) (L x1 x2 x3 x4 x5 x6 x7 x8 x9 O S T:Int) (U:Bool) (M:Int) (V:Bool) (X Y N D G:Int) (a0:Bool):Qlp CD AU [I L,I x1,I x2,I x3,I x4,I x5,I x6,I x7,I x8,I x9,I O,I S,I T,B U,I M,B V,I X,I Y,I N,I D,I G,B a0]=
 cond (decide (L<1)) (some [I 1]) (cond (decide (L>14)) (some [I 1]) ((AU [I L]).bind λo4=>
 cond (bA o4 0) ((CD [I L,I x1,I x2,I x3,I x4,I x5,I x6,I x7,I x8,I x9,I O,I S,I T,B U,I M,B V,I X,I Y,I N,I D,I G,B a0]).bind λo5=>
 cond (!bA o5 0) (some [I 1]) (cond (decide (N<0)) (some [I 1]) (cond (decide (N>1000)) (some [I 1]) ((AU [I L]).bind λo6=>
 cond (bA o6 0) (cond (L !=1) (cond (decide (M<1)) (some [I 1]) (cond (decide (M>60000000)) (some [I 1]) (Lr L D G))) (Lr L D G)) (Lr L D G))))) ((AU [I L]).bind λo7=>
 cond (bA o7 0) (cond (L !=1) (cond (decide (M<1)) (some [I 1]) (cond (decide (M>60000000)) (some [I 1]) (Lr L D G))) (Lr L D G)) (Lr L D G)))):=by kernel_rfl
def Jm:=Qlp G1 DE
theorem Zys:Ai PG (WM G1 DE):=An rfl ⟨Qcg,Te,trivial⟩
theorem Ykz:Ak PG (Z9a Jm):=rw1 (C:=WM G1 DE) Zys
def Qpu:Sk:=⟨[TS.tup [(false,[sd 13 0]),(false,[ci])]],[(13,102,[ci,ci,ci,se 1013003 7,se 1013004 3,sb,ci,ci,ci])],[(1013003,111,Ag),(1013004,130,kPt)]⟩
def Qxh:=qd 46 Qcv Qpu
def Qea (D G I L M N:Fn):Cfg:=cp [Znc D,Ygv G,Qpc I,Q7y L,UT M,Z9a N] [92,91]
def Zdc:Sk:=⟨[tf [sa Ae],td,td,td,tf [sd 13 0],tf [ci]]++dd 12++[tf [sa Ae],tf [ci],tf [ci]]++dd 87,[(13,102,[ci,ci,ci,se 1013003 7,se 1013004 3,sb,ci,ci,ci])],[(1013003,111,Ag),(1013004,130,kPt)]⟩
def Qw0:List (Ex×Sk):=[(Ex.ret,⟨[td,td,tf [sd 13 0],tf [ci]]++dd 104,[(13,102,[ci,ci,ci,se 1013003 7,se 1013004 3,sb,ci,ci,ci])],[(1013003,111,Ag),(1013004,130,kPt)]⟩),(Ex.exit 0,⟨[tf [sa Ae],td,td,td,tf [sd 13 0]]++dd 103,[(13,102,[ci,ci,ci,se 1013003 7,se 1013004 3,sb,ci,ci,ci])],[(1013003,111,Ag),(1013004,130,kPt)]⟩)]
def QQ (D G I L M N:Fn):Lp:=AG PG (Qea D G I L M N) 64 6 (AH PG 46 6) Zdc Qw0
def Q4d (D G I L M N:Fn) (O:Lp):Cfg:=(Qea D G I L M N).loop 6 Zdc Qw0 O
def Zhf:Sk:=⟨[tf [sa Ae],td,td,td,tf [sd 13 0],tf [ci]]++dd 44++[tf [sa Ae],tf [ci],tf [ci]]++dd 55,[(13,102,[ci,ci,ci,se 1013003 7,se 1013004 3,sb,ci,ci,ci])],[(1013003,111,Ag),(1013004,130,kPt)]⟩
def Zit:List (Ex×Sk):=[(Ex.ret,⟨[td,td,tf [sd 13 0],tf [ci]]++dd 104,[(13,102,[ci,ci,ci,se 1013003 7,se 1013004 3,sb,ci,ci,ci])],[(1013003,111,Ag),(1013004,130,kPt)]⟩),(Ex.exit 2,⟨[td,td,td,td,tf [sd 13 0]]++dd 103,[(13,102,[ci,ci,ci,se 1013003 7,se 1013004 3,sb,ci,ci,ci])],[(1013003,111,Ag),(1013004,130,kPt)]⟩)]
def Qo (D G I L M N:Fn) (O:Lp):Lp:=AG PG (Q4d D G I L M N O) 64 18 (AH PG 46 18) Zhf Zit
def Zaz (G I L M N O:Fn) (S D:Lp):Cfg:=(Q4d G I L M N O S).loop 18 Zhf Zit D
def Qnz (G I L M N O:Fn) (S D:Lp):Fn:=Am PG (Zaz G I L M N O S D) 64 46 Qcv Qpu
theorem Zat (Cb Cj Bu BU AU Ej:Fn) (S T M:Rw) (N:Int) (L:Rw) (Y G U V X:Int) (v10:Bool) (v11 v12 D:Int):QQ Cb Cj Bu BU AU Ej [.vC Ag S, .vC kPt T, .vC Ae M,I N, .vC Ae L,I Y,I G,I U,I V,I X,B v10,I v11,I v12,I D]=
 cond (decide (G<Y)) (cond (decide (0<=G)&&decide (G<(L.length:Int))) ((Ej (AE Ae (nth [] L G.toNat))).bind λa0=>
 cond (gA a0 0 !=0) (some (1,[.vC Ag S, .vC kPt T,jA a0 0,I U,I V,I X,B v10,I v11,I v12,I D])) ((AU [jA (nth [] L G.toNat) 0]).bind λa1=>
 cond (!bA a1 0) (some (0,[.vC Ag S, .vC kPt T, .vC Ae M,I N, .vC Ae L,I Y,I (O (G+1)),I U,I V,I X,B v10,I v11,I v12,I D])) (cond (decide (N>=0)) (cond (decide (0<=N)&&decide (N<(M.length:Int))) (cond (!(gA (nth [] M N.toNat) 5==gA (nth [] L G.toNat) 2&&(gA (nth [] M N.toNat) 6==gA (nth [] L G.toNat) 3&&(gA (nth [] M N.toNat) 7==gA (nth [] L G.toNat) 4&&true)))) (some (1,[.vC Ag S, .vC kPt T,I 13,I U,I V,I X,B v10,I v11,I v12,I D])) (some (0,[.vC Ag S, .vC kPt T, .vC Ae M,I G, .vC Ae L,I Y,I (O (G+1)),I U,I V,I X,B v10,I v11,I v12,I D]))) (none)) (some (0,[.vC Ag S, .vC kPt T, .vC Ae M,I G, .vC Ae L,I Y,I (O (G+1)),I U,I V,I X,B v10,I v11,I v12,I D]))))) (none)) (some (2,[.vC Ag S, .vC kPt T, .vC Ae M,I U,I V,I X,B v10,I v11,I v12,I D])):=by kernel_rfl
abbrev Ry (U:Fn) (V X S:Rw) (N Y v8 v9:Int) (v10:Bool) (v11:Int) (L:AC) (T:Int) (Cb:Fn) (v4:Rw) (v5:Int) (M:AC):Option (Nat×List AC):=
 (U [.vC Ag V, .vC kPt X, .vC Ae S,I N,M,I Y,I v8,I v9,B v10,I v11,L,I T]).bind λD=>
 cond (!bA D 2) (some (1,[.vC Ag (wA D 0), .vC kPt (wA D 1),I 10,jA D 3,jA D 4,jA D 5,B (bA D 6),jA D 7,jA D 8,jA D 9])) ((Cb [.vC Ag (wA D 0), .vC kPt (wA D 1), .vC Ae S,I N,jA D 3,jA D 4,jA D 5,B (bA D 6),jA D 7,jA D 8,jA D 9]).bind λG=>
 some (0,[.vC Ag (wA G 0), .vC kPt (wA G 1), .vC Ae S,I N, .vC Ae v4,I v5,I (O (N+1)),jA G 2,jA G 3,jA G 4,B (bA G 5),jA G 6,jA G 7,jA G 8]))
abbrev Qw (AU:Fn) (S:Rw) (M T:Int) (BU:Fn) (N:Rw) (Cj:Fn) (U V:Rw) (X Y v9:Int) (v10:Bool) (v11 L:Int) (Cb:Fn) (v5:Int) (Bu:Fn) (G:AC):Option (Nat×List AC):=
 (AU [jA (nth [] S M.toNat) 0]).bind λa0=>
 cond (bA a0 0) (cond (decide (T>=0)) ((BU [.vC Ae N,I T]).bind λa1=>
 cond (!bA a1 0) (Ry Cj U V N M X Y v9 v10 v11 G L Cb S v5 (I (-1))) ((Bu [.vC Ae N,I T]).bind λa2=>
 cond (gA a2 0 !=M) (Ry Cj U V N M X Y v9 v10 v11 G L Cb S v5 (I (-1))) (Ry Cj U V N M X Y v9 v10 v11 G L Cb S v5 (I T)))) (Ry Cj U V N M X Y v9 v10 v11 G L Cb S v5 (I T))) ((Cb [.vC Ag U, .vC kPt V, .vC Ae N,I M,I X,I Y,I v9,B v10,I v11,G,I L]).bind λD=>
 some (0,[.vC Ag (wA D 0), .vC kPt (wA D 1), .vC Ae N,I T, .vC Ae S,I v5,I (O (M+1)),jA D 2,jA D 3,jA D 4,B (bA D 5),jA D 6,jA D 7,jA D 8]))
theorem Zee (V X Y BU AU Ej:Fn) (N6:Lp) (M N v2:Rw) (v3:Int) (L:Rw) (O D S T U:Int) (v10:Bool) (v11 v12 G:Int):Qo V X Y BU AU Ej N6 [.vC Ag M, .vC kPt N, .vC Ae v2,I v3, .vC Ae L,I O,I D,I S,I T,I U,B v10,I v11,I v12,I G]=
 cond (decide (D<O)) (cond (decide (0<=D)&&decide (D<(L.length:Int))) (cond (gA (nth [] L D.toNat) 0==8) (cond (gA (nth [] L D.toNat) 19==3) (Qw AU L D v3 BU v2 X M N S T U v10 v11 G V O Y (jA (nth [] L D.toNat) 20)) (cond (gA (nth [] L D.toNat) 19==4) (Qw AU L D v3 BU v2 X M N S T U v10 v11 G V O Y (jA (nth [] L D.toNat) 20)) (Qw AU L D v3 BU v2 X M N S T U v10 v11 G V O Y (I v12)))) (Qw AU L D v3 BU v2 X M N S T U v10 v11 G V O Y (I v12))) (none)) (some (2,[.vC Ag M, .vC kPt N,I S,I T,I U,B v10,I v11,I v12,I G])):=by kernel_rfl
theorem Z02 (O S T U V X:Fn) (N L:Lp) (M:Rw):Qnz O S T U V X N L [.vC Ae M]=
 cond (decide ((M.length:Int)>20000)) (some [.vC Ag [], .vC kPt [],I 10,I 0,I 0,I 0,B false,I 0,I 0,I 0]) ((N [.vC Ag [], .vC kPt [], .vC Ae M,I (-1), .vC Ae M,I (M.length:Int),I 0,I 0,I 0,I 0,B false,I 0,I 0,I 0]).bind λD=>
 cond (D.1.beq 1) (some [.vC Ag (wA D.2 0), .vC kPt (wA D.2 1),jA D.2 2,jA D.2 3,jA D.2 4,jA D.2 5,B (bA D.2 6),jA D.2 7,jA D.2 8,jA D.2 9]) (cond (D.1.beq 2) ((L [.vC Ag (wA D.2 0), .vC kPt (wA D.2 1), .vC Ae (wA D.2 2),I (-1), .vC Ae (wA D.2 2),I (↑(wA D.2 2).length:Int),I 0,jA D.2 3,jA D.2 4,jA D.2 5,B (bA D.2 6),jA D.2 7,jA D.2 8,jA D.2 9]).bind λG=>
 cond (G.1.beq 1) (some [.vC Ag (wA G.2 0), .vC kPt (wA G.2 1),jA G.2 2,jA G.2 3,jA G.2 4,jA G.2 5,B (bA G.2 6),jA G.2 7,jA G.2 8,jA G.2 9]) (cond (G.1.beq 2) (some [.vC Ag (wA G.2 0), .vC kPt (wA G.2 1),I 0,jA G.2 2,jA G.2 3,jA G.2 4,B (bA G.2 5),jA G.2 6,jA G.2 7,jA G.2 8]) (none))) (none))):=by kernel_rfl
def Ru:=Al (QQ Jf Kn Fo Hs DE Jm)
def Zjg:=Al (Qo Jf Kn Fo Hs DE Jm Ru)
def IZ:=Qnz Jf Kn Fo Hs DE Jm Ru Zjg
theorem Qen:Ai PG (Qea Jf Kn Fo Hs DE Jm):=An rfl ⟨Zrl,Yi0,Qqc,Q0p,Te,Ykz,trivial⟩
theorem Q6j:Ak PG (Qxh IZ):=rw2 (C:=Zaz Jf Kn Fo Hs DE Jm Ru Zjg) (fl (fl fb Qen) Qen) Qen
def Zs6:=qd 149 Qcv Y3
def Qe6 (Bl D:Fn):Cfg:=cp [Vp Bl,Qxh D] [46]
def Zjb:Sk:=⟨[tf [sa Ae],td,td,tf [sd 100800 0],td,tf [ci]]++dd 47,[(100800,102,[ci,ci,ci,se 100800 7,se 100801 3,sb,ci,ci,ci])],[(100800,111,Ag),(100801,130,kPt)]⟩
def Q2j:List (Ex×Sk):=[(Ex.ret,⟨[td,td,tf [ci]]++dd 50,[],[]⟩),(Ex.exit 0,⟨[td,td,td,tf [sd 100800 0]]++dd 49,[(100800,102,[ci,ci,ci,se 100800 7,se 100801 3,sb,ci,ci,ci])],[(100800,111,Ag),(100801,130,kPt)]⟩)]
def P3 (Bl D:Fn):Lp:=AG PG (Qe6 Bl D) 64 5 (AH PG 149 5) Zjb Q2j
def Zdy (Bl D:Fn) (G:Lp):Cfg:=(Qe6 Bl D).loop 5 Zjb Q2j G
def Qn6 (Bl D:Fn) (G:Lp):Fn:=Am PG (Zdy Bl D G) 64 149 Qcv Y3
theorem Zec (Bl Y:Fn) (M N G:Rw) (D S T U:Int) (V:Bool) (L X v10:Int):P3 Bl Y [.vC Ag M, .vC kPt N, .vC Ae G,I D,I S,I T,I U,B V,I L,I X,I v10]=
 cond (decide (D>=0)) (cond (decide (0<=D)&&decide (D<(G.length:Int))) (cond (gA (nth [] G D.toNat) 0==10) (some (0,[.vC Ag M, .vC kPt N, .vC Ae G,I (O (D-1)),I S,I T,I U,B V,I L,I X,I v10])) (cond (decide (0<=D)&&decide (D<(G.length:Int))) ((Bl (AE Ae (nth [] G D.toNat))).bind λo4=>
 cond (bA o4 0) (cond (decide (0<=D)&&decide (D<(G.length:Int))) (cond (gA (nth [] G D.toNat) 18 !=0) (some (1,[I v10])) (some (1,[I L]))) (none)) (some (1,[I L]))) (none))) (none)) (some (2,[.vC Ag M, .vC kPt N,I S,I T,I U,B V,I L,I X,I v10])):=by kernel_rfl
theorem Ze4 (Bl L:Fn) (M:Lp) (G:Rw):Qn6 Bl L M [.vC Ae G]=
 (L [.vC Ae G]).bind λD=>
 cond (gA D 2 !=0) (some [I 0]) ((M [.vC Ag (wA D 0), .vC kPt (wA D 1), .vC Ae G,I (O ((G.length:Int)-1)),jA D 3,jA D 4,jA D 5,B (bA D 6),jA D 7,jA D 8,jA D 9]).bind λo6=>
 cond (o6.1.beq 1) (some [jA o6.2 0]) (cond (o6.1.beq 2) (some [jA o6.2 6]) (none))):=by kernel_rfl
def Zgn:=Al (P3 ES IZ)
def NL:=Qn6 ES IZ Zgn
theorem Qzu:Ai PG (Qe6 ES IZ):=An rfl ⟨Tx,Q6j,trivial⟩
theorem Z31:Ak PG (Zs6 NL):=rw2 (C:=Zdy ES IZ Zgn) (fl fb Qzu) Qzu
def Qml:=qd 190 Qbk V1
def Qdu:Fn:=Am PG Qjw 64 190 Qbk V1
theorem Zlu (D G L:Int):Qdu [I D,I G,I L]=
 cond (decide (G<=D)) (some [B (decide (D<=L))]) (some [B false]):=by kernel_rfl
def Ha:=Qdu
theorem Zrr:Ai PG (Qjw):=An rfl trivial
theorem Qq6:Ak PG (Qml Ha):=rw1 (C:=Qjw) Zrr
def Ygh:=qd 192 Qb2 V1
def WR (D:Fn):Cfg:=cf [Qml D]
def Qm0 (D:Fn):Fn:=Am PG (WR D) 64 192 Qb2 V1
theorem Zpn (G:Fn) (N O S T L M U V X:Int) (Y:Rw) (D:Int):Qm0 G [I N,I O,I S,I T,I L,I M,I U,I V,I X, .vC Aa Y,I D]=
 (G [I D,I L,I M]).bind λo1=>
 some [B (bA o1 0)]:=by kernel_rfl
def HS:=Qm0 Ha
theorem Z8g:Ai PG (WR Ha):=An rfl ⟨Qq6,trivial⟩
theorem Z4j:Ak PG (Ygh HS):=rw1 (C:=WR Ha) Z8g
def Qla:Sk:=⟨[TS.v true (cc 9++[sa Aa]++cc 9++[sa Aa]++cc 9++[sa Aa]),TS.v true [ci,ci,ci,sa Ag,sa kPt]],[],[]⟩
def Zna:=qd 148 Qla V1
def Qtz (D:Fn):Cfg:={cf [Ygh D]with rowDst:=[13],unroll:=[11]}
def Q6t:Sk:=⟨[td,td,tf [sd 2 0],td,td,tf [se 13 3]]++dd 9++[tf [sa Ag],tf [ci],tf [ci]]++dd 28,[(2,34,cc 9++[sa Aa]++cc 9++[sa Aa]++cc 9++[sa Aa])],[(13,42,kPt)]⟩
def Zby:List (Ex×Sk):=[(Ex.exit 0,⟨[td,td,tf [sd 2 0],td,td,tf [se 13 3]]++dd 40,[(2,34,cc 9++[sa Aa]++cc 9++[sa Aa]++cc 9++[sa Aa])],[(13,42,kPt)]⟩)]
def QR (D:Fn):Lp:=AG PG (Qtz D) 64 3 (AH PG 148 3) Q6t Zby
def Q2d (D:Fn) (G:Lp):Cfg:=(Qtz D).loop 3 Q6t Zby G
def Zdx:Sk:=⟨[td,td,tf [sd 2 0]]++dd 24++[tf [se 13 3],tf [ci],tf [ci]]++dd 16,[(2,34,cc 9++[sa Aa]++cc 9++[sa Aa]++cc 9++[sa Aa])],[(13,42,kPt)]⟩
def Q87:List (Ex×Sk):=[(Ex.ret,⟨[td,td,td,td,tf [sb]]++dd 41,[],[]⟩),(Ex.exit 2,⟨[td]++dd 45,[],[]⟩)]
def Ve (D:Fn) (G:Lp):Lp:=AG PG (Q2d D G) 64 8 (AH PG 148 8) Zdx Q87
def Zdn (D:Fn) (G I:Lp):Cfg:=(Q2d D G).loop 8 Zdx Q87 I
def Qa2 (D:Fn) (G I:Lp):Fn:=Am PG (Zdn D G I) 64 148 Qla V1
theorem Z3a (DS:Fn) (v0 G:Rw) (v2 D v4 v5 v6 v7 v8 v9 v10 v11 v12:Int) (L:Rw) (M N S T U V v20 v21 v22:Int) (X:Rw) (v24 v25 Y v27 v28 a0 v30 v31 a1:Int) (v33:Rw):QR DS [.vC kPt v0, .vC Ag G,I v2,I D,I v4,I v5,I v6,I v7,I v8,I v9,I v10,I v11,I v12, .vC Aa L,I M,I N,I S,I T,I U,I V,I v20,I v21,I v22, .vC Aa X,I v24,I v25,I Y,I v27,I v28,I a0,I v30,I v31,I a1, .vC Aa v33]=
 cond (decide (D<v2)) (cond (decide (0<=D)&&decide (D<(G.length:Int))) (cond (((v0++[[jA (nth [] G D.toNat) 0,jA (nth [] G D.toNat) 1,jA (nth [] G D.toNat) 2]]).length*24).ble 140737488355328) (some (0,[.vC kPt (v0++[[jA (nth [] G D.toNat) 0,jA (nth [] G D.toNat) 1,jA (nth [] G D.toNat) 2]]), .vC Ag G,I v2,I (O (D+1)),I v4,I v5,I v6,I v7,I v8,I v9,I v10,I v11,I v12, .vC Aa L,I M,I N,I S,I T,I U,I V,I v20,I v21,I v22, .vC Aa X,I v24,I v25,I Y,I v27,I v28,I a0,I v30,I v31,I a1, .vC Aa v33])) (none)) (none)) (some (1,[.vC kPt v0,I v4,I v5,I v6,I v7,I v8,I v9,I v10,I v11,I v12, .vC Aa L,I M,I N,I S,I T,I U,I V,I v20,I v21,I v22, .vC Aa X,I v24,I v25,I Y,I v27,I v28,I a0,I v30,I v31,I a1, .vC Aa v33])):=by kernel_rfl
theorem Z6u (DS:Fn) (N3:Lp) (v0:Rw) (v1 D v3 v4 v5 v6 v7 v8 v9 v10 v11:Int) (v12:Rw) (G L M N S T U v20 v21:Int) (v22:Rw) (V v24 v25 X v27 v28 Y v30 v31:Int) (a0:Rw):Ve DS N3 [.vC kPt v0,I v1,I D,I v3,I v4,I v5,I v6,I v7,I v8,I v9,I v10,I v11, .vC Aa v12,I G,I L,I M,I N,I S,I T,I U,I v20,I v21, .vC Aa v22,I V,I v24,I v25,I X,I v27,I v28,I Y,I v30,I v31, .vC Aa a0]=
 cond (decide (D<v1)) (cond (decide (0<=D)&&decide (D<(v0.length:Int))) ((DS [I v3,I v4,I v5,I v6,I v7,I v8,I v9,I v10,I v11, .vC Aa v12,jA (nth [] v0 D.toNat) 0]).bind λo6=>
 cond (!bA o6 0) (some (1,[B false])) ((DS [I G,I L,I M,I N,I S,I T,I U,I v20,I v21, .vC Aa v22,jA (nth [] v0 D.toNat) 1]).bind λo7=>
 cond (!bA o7 0) (some (1,[B false])) ((DS [I V,I v24,I v25,I X,I v27,I v28,I Y,I v30,I v31, .vC Aa a0,jA (nth [] v0 D.toNat) 2]).bind λo8=>
 cond (!bA o8 0) (some (1,[B false])) (some (0,[.vC kPt v0,I v1,I (O (D+1)),I v3,I v4,I v5,I v6,I v7,I v8,I v9,I v10,I v11, .vC Aa v12,I G,I L,I M,I N,I S,I T,I U,I v20,I v21, .vC Aa v22,I V,I v24,I v25,I X,I v27,I v28,I Y,I v30,I v31, .vC Aa a0]))))) (none)) (some (2,[])):=by kernel_rfl
theorem Z2c (DS:Fn) (N3 N8:Lp) (x0 x1 x2 x3 x4 x5 x6 x7 x8:Int) (x9:Rw) (M N O S T U V X Y:Int) (a0:Rw) (a1 a2 a3 a4 a5 a6 a7 a8 a9:Int) (b0:Rw) (b1 b2 b3:Int) (G b4:Rw):Qa2 DS N3 N8 [I x0,I x1,I x2,I x3,I x4,I x5,I x6,I x7,I x8, .vC Aa x9,I M,I N,I O,I S,I T,I U,I V,I X,I Y, .vC Aa a0,I a1,I a2,I a3,I a4,I a5,I a6,I a7,I a8,I a9, .vC Aa b0,I b1,I b2,I b3, .vC Ag G, .vC kPt b4]=
 (N3 [.vC kPt [[I b1,I b2,I b3]], .vC Ag G,I (G.length:Int),I 0,I x0,I x1,I x2,I x3,I x4,I x5,I x6,I x7,I x8, .vC Aa x9,I M,I N,I O,I S,I T,I U,I V,I X,I Y, .vC Aa a0,I a1,I a2,I a3,I a4,I a5,I a6,I a7,I a8,I a9, .vC Aa b0]).bind λD=>
 cond (D.1.beq 1) ((N8 [.vC kPt (wA D.2 0),I (↑(wA D.2 0).length:Int),I 0,jA D.2 1,jA D.2 2,jA D.2 3,jA D.2 4,jA D.2 5,jA D.2 6,jA D.2 7,jA D.2 8,jA D.2 9, .vC Aa (wA D.2 10),jA D.2 11,jA D.2 12,jA D.2 13,jA D.2 14,jA D.2 15,jA D.2 16,jA D.2 17,jA D.2 18,jA D.2 19, .vC Aa (wA D.2 20),jA D.2 21,jA D.2 22,jA D.2 23,jA D.2 24,jA D.2 25,jA D.2 26,jA D.2 27,jA D.2 28,jA D.2 29, .vC Aa (wA D.2 30)]).bind λL=>
 cond (L.1.beq 1) (some [B (bA L.2 0)]) (cond (L.1.beq 2) (some [B true]) (none))) (none):=by kernel_rfl
def Qkh:=Al (QR HS)
def Q88:=Al (Ve HS Qkh)
def Qx:=Qa2 HS Qkh Q88
theorem Qiv:Ai PG (Qtz HS):=An rfl ⟨Z4j,trivial⟩
theorem Ydv:Ak PG (Zna Qx):=rw2 (C:=Zdn HS Qkh Q88) (fl (fl fb Qiv) Qiv) Qiv
def Zj9:=qd 15 Qcv Qhw
def Qhj (D:Fn):Cfg:=cp [Qxh D] [46]
def Qky (D:Fn):Fn:=Am PG (Qhj D) 64 15 Qcv Qhw
theorem Z3x (D:Fn) (G:Rw):Qky D [.vC Ae G]=
 (D [.vC Ae G]).bind λo1=>
 cond (gA o1 2 !=0) (some [I 0,I 0,I 0, .vC Ag [], .vC kPt [],jA o1 2]) (some [jA o1 3,jA o1 4,jA o1 5, .vC Ag (wA o1 0), .vC kPt (wA o1 1),I 0]):=by kernel_rfl
def NJ:=Qky IZ
theorem Z4y:Ai PG (Qhj IZ):=An rfl ⟨Q6j,trivial⟩
theorem Zt7:Ak PG (Zj9 NJ):=rw1 (C:=Qhj IZ) Z4y
def Qo9:Sk:=⟨[tf [sd 20000 0],tf [sa Ae],tf [sb]],[(20000,179,cS)],[]⟩
def Zy5:=qd 97 Qo9 Qo8
def Qha (Nx D G I:Fn):Cfg:={cf [Zs6 Nx,Zez D,Zna G,Zj9 I]with fstore:=true}
def Q0 (Nx D G I:Fn):Fn:=Am PG (Qha Nx D G I) 64 97 Qo9 Qo8
theorem Zoo (Nx G L M:Fn) (D:Rw) (N:Bool) (K:Kf) (c:Cv):Q0 Nx G L M (.vC Ae D::B N::Aj K c)=
 (M [.vC Ae D]).bind λo4=>
 cond (gA o4 5 !=0) (some (jA o4 5::Aj K c)) ((L (AK K.x++[jA o4 0,jA o4 1,jA o4 2, .vC Ag (wA o4 3), .vC kPt (wA o4 4)])).bind λO=>
 cond (!bA O 0) (some (I 17::Aj K c)) (cond ((D.length*176).ble 140737488355328) ((G [jA o4 0,jA o4 1,jA o4 2, .vC Ag (wA o4 3), .vC kPt (wA o4 4)]).bind λo6=>
 (Nx [.vC Ae D]).bind λS=>
 some (I 0::EX (Aj K c) [(35, .vC Ae D),(36,B N),(37,jA o4 0),(38,jA o4 1),(39,jA o4 2),(40, .vC Ag (wA o4 3)),(41, .vC kPt (wA o4 4)),(42,jA o6 0),(43,jA S 0)])) (none))):=by kernel_rfl
def Uk:=Q0 NL JH Qx NJ
theorem Zub:Ai PG (Qha NL JH Qx NJ):=An rfl ⟨Z31,Zcb,Ydv,Zt7,trivial⟩
theorem Zz8:Ak PG (Zy5 Uk):=rw1 (C:=Qha NL JH Qx NJ) Zub
def Z5d:=qd 95 Qbj Qrs
def Qio:Fn:=Am PG Qjw 64 95 Qbj Qrs
theorem Ydl:Qio []=
 some [I 100,I 100,B false,B false,B false]:=by kernel_rfl
def QJ:=Qio
theorem Zxb:Ai PG (Qjw):=An rfl trivial
theorem Z8t:Ak PG (Z5d QJ):=rw1 (C:=Qjw) Zxb
def W2:Sk:=⟨[TS.v true (cc 9++[sa Aa]++cc 9++[sa Aa]++cc 9++[sa Aa]++cc 5)],[],[]⟩
def Zuj:=qd 94 W2 W2
def YH:Cfg:={cf []with fstore:=true,unroll:=[2]}
def Qdh:Fn:=Am PG YH 64 94 W2 W2
theorem Zkj (x0 x1 x2 x3 x4 x5 x6 x7 x8:Int) (x9:Rw) (L M N O S T U V X:Int) (D:Rw) (Y a0 a1 a2 a3 a4 a5 a6 a7:Int) (G:Rw) (a8 a9 b0 b1 b2:Int):Qdh [I x0,I x1,I x2,I x3,I x4,I x5,I x6,I x7,I x8, .vC Aa x9,I L,I M,I N,I O,I S,I T,I U,I V,I X, .vC Aa D,I Y,I a0,I a1,I a2,I a3,I a4,I a5,I a6,I a7, .vC Aa G,I a8,I a9,I b0,I b1,I b2]=
 cond ((x9.length*8).ble 140737488355328) (cond ((D.length*8).ble 140737488355328) (cond ((G.length*8).ble 140737488355328) (some [I x0,I x1,I x2,I x3,I x4,I x5,I x6,I x7,I x8, .vC Aa x9,I L,I M,I N,I O,I S,I T,I U,I V,I X, .vC Aa D,I Y,I a0,I a1,I a2,I a3,I a4,I a5,I a6,I a7, .vC Aa G,I a8,I a9,I b0,I b1,I b2]) (none)) (none)) (none):=by kernel_rfl
def QL:=Qdh
theorem Yb3:Ai PG (YH):=An rfl trivial
theorem Zpa:Ak PG (Zuj QL):=rw1 (C:=YH) Yb3
def Qkj:Sk:=⟨[TS.v true (cc 9++[sa Aa])],[],[]⟩
def Zqu:=qd 191 Qkj V1
def Qqj (D:Fn):Cfg:=cf [Qml D]
def Zdj:Sk:=⟨[td,tf [sd 1 0]]++dd 24++[tf [sa Aa],tf [ci],tf [ci]]++dd 29,[(1,33,cc 9++[sa Aa])],[]⟩
def Zcd:List (Ex×Sk):=[(Ex.ret,⟨[td,td,tf [sb]]++dd 55,[],[]⟩),(Ex.exit 0,⟨[td]++dd 57,[],[]⟩)]
def Qbs (D:Fn):Lp:=AG PG (Qqj D) 64 6 (AH PG 191 6) Zdj Zcd
def Q44 (D:Fn) (G:Lp):Cfg:=(Qqj D).loop 6 Zdj Zcd G
def Qa8 (D:Fn) (G:Lp):Fn:=Am PG (Q44 D G) 64 191 Qkj V1
theorem Zv5 (M:Fn) (G:Rw) (L D N S T U V X Y v10 v11:Int) (v12:Rw):Qbs M [.vC Aa G,I L,I D,I N,I S,I T,I U,I V,I X,I Y,I v10,I v11, .vC Aa v12]=
 cond (decide (D<L)) (cond (decide (0<=D)&&decide (D<(G.length:Int))) ((M [jA (nth [] G D.toNat) 0,I (-4096),I 4096]).bind λo7=>
 cond (!bA o7 0) (some (1,[B false])) (cond (decide (D>0)) (cond (decide (0<=O (D-1))&&decide (O (D-1)<(v12.length:Int))) ((M [I (O (gA (nth [] G D.toNat) 0-gA (nth [] v12 (O (D-1)).toNat) 0)),I (O (0-O (v11.tdiv 4))),I (O (v11.tdiv 4))]).bind λo8=>
 cond (!bA o8 0) (some (1,[B false])) (some (0,[.vC Aa G,I L,I (O (D+1)),I N,I S,I T,I U,I V,I X,I Y,I v10,I v11, .vC Aa v12]))) (none)) (some (0,[.vC Aa G,I L,I (O (D+1)),I N,I S,I T,I U,I V,I X,I Y,I v10,I v11, .vC Aa v12])))) (none)) (some (2,[])):=by kernel_rfl
theorem Zr9 (L:Fn) (S:Lp) (T U V X Y x5 x6 M N:Int) (G:Rw):Qa8 L S [I T,I U,I V,I X,I Y,I x5,I x6,I M,I N, .vC Aa G]=
 cond ((G.length:Int)==0) (some [B true]) (cond (decide ((G.length:Int)>64)) (some [B false]) ((L [I M,I (-16777216),I 16777216]).bind λo9=>
 cond (!bA o9 0) (some [B false]) ((L [I N,I 4,I 16777216]).bind λO=>
 cond (!bA O 0) (some [B false]) ((S [.vC Aa G,I (G.length:Int),I 0,I T,I U,I V,I X,I Y,I x5,I x6,I M,I N, .vC Aa G]).bind λD=>
 cond (D.1.beq 1) (some [B (bA D.2 0)]) (cond (D.1.beq 2) (some [B true]) (none)))))):=by kernel_rfl
def Qx9:=Al (Qbs Ha)
def QS:=Qa8 Ha Qx9
theorem Zhw:Ai PG (Qqj Ha):=An rfl ⟨Qq6,trivial⟩
theorem Zyu:Ak PG (Zqu QS):=rw2 (C:=Q44 Ha Qx9) (fl fb Zhw) Zhw
def Ykd:=qd 145 Qkj V1
def Qsu (D G:Fn):Cfg:=cf [Zqu D,Qml G]
def Qgy (D G:Fn):Fn:=Am PG (Qsu D G) 64 145 Qkj V1
theorem Yig (Y L:Fn) (M N O S D G T x7 x8:Int) (x9:Rw):Qgy Y L [I M,I N,I O,I S,I D,I G,I T,I x7,I x8, .vC Aa x9]=
 (L [I M,I 4,I 4096]).bind λo6=>
 cond (bA o6 0) ((L [I N,I 1,I 1048576]).bind λo7=>
 cond (bA o7 0) ((L [I O,I 2,I 1048576]).bind λo8=>
 cond (bA o8 0) ((L [I S,I 4,I 1048576]).bind λU=>
 cond (decide (D>= -16777216)) (cond (decide (G<=16777216)) (cond (bA U 0) (cond (decide (D<=G)) ((L [I T,I 0,I 64]).bind λV=>
 cond (bA V 0) ((Y [I M,I N,I O,I S,I D,I G,I T,I x7,I x8, .vC Aa x9]).bind λX=>
 some [B (bA X 0)]) (some [B false])) (some [B false])) (some [B false])) (cond (bA U 0) (some [B false]) (some [B false]))) (cond (bA U 0) (some [B false]) (some [B false]))) (cond (decide (D>= -16777216)) (cond (decide (G<=16777216)) (some [B false]) (some [B false])) (some [B false]))) (cond (decide (D>= -16777216)) (cond (decide (G<=16777216)) (some [B false]) (some [B false])) (some [B false]))) (cond (decide (D>= -16777216)) (cond (decide (G<=16777216)) (some [B false]) (some [B false])) (some [B false])):=by kernel_rfl
def Q4:=Qgy QS Ha
theorem Zze:Ai PG (Qsu QS Ha):=An rfl ⟨Zyu,Qq6,trivial⟩
theorem Ya7:Ak PG (Ykd Q4):=rw1 (C:=Qsu QS Ha) Zze
def Yd4:=qd 93 W2 V1
def Qai (D G I:Fn):Cfg:={cf [Z5q D,Zn G,Ykd I]with unroll:=[2]}
def WY (D G I:Fn):Fn:=Am PG (Qai D G I) 64 93 W2 V1
theorem Z85 (PW BN Ki:Fn) (x0 x1 x2 x3 x4 x5 x6 x7 x8:Int) (x9:Rw) (L M N O S T U V X:Int) (Y:Rw) (a0 a1 a2 a3 a4 a5 a6 a7 a8:Int) (a9:Rw) (b0 b1 b2 D G:Int):WY PW BN Ki [I x0,I x1,I x2,I x3,I x4,I x5,I x6,I x7,I x8, .vC Aa x9,I L,I M,I N,I O,I S,I T,I U,I V,I X, .vC Aa Y,I a0,I a1,I a2,I a3,I a4,I a5,I a6,I a7,I a8, .vC Aa a9,I b0,I b1,I b2,I D,I G]=
 (Ki [I x0,I x1,I x2,I x3,I x4,I x5,I x6,I x7,I x8, .vC Aa x9]).bind λo5=>
 cond (!bA o5 0) (some [B false]) ((Ki [I L,I M,I N,I O,I S,I T,I U,I V,I X, .vC Aa Y]).bind λo6=>
 cond (!bA o6 0) (some [B false]) ((Ki [I a0,I a1,I a2,I a3,I a4,I a5,I a6,I a7,I a8, .vC Aa a9]).bind λo7=>
 cond (!bA o7 0) (some [B false]) ((BN [I b0,I b1,I b2]).bind λo8=>
 cond (bA o8 0) (cond (decide (D>=1)) ((PW [I 30000]).bind λo9=>
 cond (decide (D<=gA o9 0)) (cond (decide (G>=0)) (some [B (decide (G<=1048576))]) (some [B false])) (some [B false])) (some [B false])) (some [B false])))):=by kernel_rfl
def RJ:=WY RH Fm Q4
theorem Zo8:Ai PG (Qai RH Fm Q4):=An rfl ⟨Yal,Qsf,Ya7,trivial⟩
theorem Zoa:Ak PG (Yd4 RJ):=rw1 (C:=Qai RH Fm Q4) Zo8
def Qk0:Sk:=⟨[TS.v true (cc 9++[sa Aa]++cc 9++[sa Aa]++cc 9++[sa Aa]++cc 5),tf [sa Ae],tf [sb]],[],[]⟩
def Wv:Sk:=⟨[TS.tup [(false,[sd 19 0]),(false,[ci])]],[(19,179,cS)],[]⟩
def Zxs:=qd 54 Qk0 Wv
def Qhc (D G I L M N O:Fn):Cfg:={cp [Zbm D,Zph G,Zy5 I,Qwe L,Z5d M,Zuj N,Yd4 O] [97]with fstore:=true}
def Tj (D G I L M N O:Fn):Fn:=Am PG (Qhc D G I L M N O) 64 54 Qk0 Wv
theorem Zk3 (F_ N0 PU Gn PL PP Pg:Fn) (x0 x1 x2 x3 x4 x5 x6 x7 x8:Int) (x9:Rw) (M N O S T U V X Y:Int) (a0:Rw) (a1 a2 a3 a4 a5 a6 a7 a8 a9:Int) (b0:Rw) (b1 b2 b3 b4 b5:Int) (b7:Rw) (b8:Bool):Tj F_ N0 PU Gn PL PP Pg [I x0,I x1,I x2,I x3,I x4,I x5,I x6,I x7,I x8, .vC Aa x9,I M,I N,I O,I S,I T,I U,I V,I X,I Y, .vC Aa a0,I a1,I a2,I a3,I a4,I a5,I a6,I a7,I a8,I a9, .vC Aa b0,I b1,I b2,I b3,I b4,I b5, .vC Ae b7,B b8]=
 (Pg [I x0,I x1,I x2,I x3,I x4,I x5,I x6,I x7,I x8, .vC Aa x9,I M,I N,I O,I S,I T,I U,I V,I X,I Y, .vC Aa a0,I a1,I a2,I a3,I a4,I a5,I a6,I a7,I a8,I a9, .vC Aa b0,I b1,I b2,I b3,I b4,I b5]).bind λo7=>
 cond (!bA o7 0) (none) ((PP [I x0,I x1,I x2,I x3,I x4,I x5,I x6,I x7,I x8, .vC Aa x9,I M,I N,I O,I S,I T,I U,I V,I X,I Y, .vC Aa a0,I a1,I a2,I a3,I a4,I a5,I a6,I a7,I a8,I a9, .vC Aa b0,I b1,I b2,I b3,I b4,I b5]).bind λo8=>
 (PL []).bind λo9=>
 (Gn []).bind λb6=>
 (PU [.vC Ae b7,B b8,jA o8 0,jA o8 1,jA o8 2,jA o8 3,jA o8 4,jA o8 5,jA o8 6,jA o8 7,jA o8 8, .vC Aa (wA o8 9),jA o8 10,jA o8 11,jA o8 12,jA o8 13,jA o8 14,jA o8 15,jA o8 16,jA o8 17,jA o8 18, .vC Aa (wA o8 19),jA o8 20,jA o8 21,jA o8 22,jA o8 23,jA o8 24,jA o8 25,jA o8 26,jA o8 27,jA o8 28, .vC Aa (wA o8 29),jA o8 30,jA o8 31,jA o8 32,jA o8 33,jA o8 34, .vC Ae [],B false,I 0,I 0,I 0, .vC Ag [], .vC kPt [],I 0,I 0, .vC Ap [],I 0,I 0,I 0,I 0,I 0,I 0,I 0,I 0,I 0,I 0,I 0,jA o9 0,jA o9 1,B (bA o9 2),B (bA o9 3),B (bA o9 4),jA b6 0,jA b6 1,jA b6 2,I 1,I 0,I 0,I 0,I 0,I 0,I 0,I 0,I 0,B false,I 0,B false,I 0,B false,I 0,I (-1),I 0,I 0,I 0,I 0,I 0,I 0,I 0,B false,B false,B false]).bind λD=>
 cond (gA D 0 !=0) (none) ((N0 [jA D 38,jA D 39,jA D 40, .vC Ag (wA D 41), .vC kPt (wA D 42),jA D 1,jA D 2,jA D 3,jA D 4,jA D 5,jA D 6,jA D 7,jA D 8,jA D 9, .vC Aa (wA D 10),jA D 11,jA D 12,jA D 13,jA D 14,jA D 15,jA D 16,jA D 17,jA D 18,jA D 19, .vC Aa (wA D 20),jA D 21,jA D 22,jA D 23,jA D 24,jA D 25,jA D 26,jA D 27,jA D 28,jA D 29, .vC Aa (wA D 30),I 1,I 1,I 1,I 0,jA D 43]).bind λG=>
 (F_ [I 0]).bind λL=>
 some (I 0::EX (cR 1 D) [(44, .vC Ap (wA G 0)),(45,jA G 1),(46,jA G 2),(47,jA G 3),(48,jA G 4),(49,jA G 5),(50,jA L 0),(51,jA L 1),(52,jA L 2),(53,jA L 3),(54,jA L 4),(55,jA L 5)]))):=by kernel_rfl
def I2:=Tj Jy Qa Uk J2 QJ QL RJ
theorem Zrz:Ai PG (Qhc Jy Qa Uk J2 QJ QL RJ):=An rfl ⟨Qwp,Zlg,Zz8,Q16,Z8t,Zpa,Zoa,trivial⟩
theorem Yg8:Ak PG (Zxs I2):=rw1 (C:=Qhc Jy Qa Uk J2 QJ QL RJ) Zrz
def Zon:=qd 53 Qqk V1
def Zf6:Sk:=⟨[td,td,td,tf [ci],td,td,td,td,td,tf [sa kPt],tf [ci],tf [ci]]++dd 35,[],[]⟩
def Qxn:List (Ex×Sk):=[(Ex.ret,⟨[td,td,tf [sb]]++dd 44,[],[]⟩),(Ex.exit 0,⟨[td]++dd 46,[],[]⟩)]
def Nj:Lp:=AG PG Qjw 64 5 (AH PG 53 5) Zf6 Qxn
def Zff (D:Lp):Cfg:=Qjw.loop 5 Zf6 Qxn D
def Qqb (D:Lp):Fn:=Am PG (Zff D) 64 53 Qqk V1
theorem Zhz (M:Int) (G:Rw) (L D:Int):Nj [I M, .vC kPt G,I L,I D]=
 cond (decide (D<L)) (cond (decide (0<=D)&&decide (D<(G.length:Int))) (cond (decide (gA (nth [] G D.toNat) 0<M)) (some (1,[B false])) (cond (decide (gA (nth [] G D.toNat) 0>1073741824)) (some (1,[B false])) (cond (decide (gA (nth [] G D.toNat) 1<1)) (some (1,[B false])) (cond (decide (gA (nth [] G D.toNat) 1>13)) (some (1,[B false])) (cond (decide (gA (nth [] G D.toNat) 2< -1073741824)) (some (1,[B false])) (cond (decide (gA (nth [] G D.toNat) 2>1073741824)) (some (1,[B false])) (some (0,[jA (nth [] G D.toNat) 0, .vC kPt G,I L,I (O (D+1))])))))))) (none)) (some (2,[])):=by kernel_rfl
theorem Z6k (G:Lp) (D:Rw):Qqb G [.vC kPt D]=
 cond (decide ((D.length:Int)>2000)) (some [B false]) ((G [I 0, .vC kPt D,I (D.length:Int),I 0]).bind λo1=>
 cond (o1.1.beq 1) (some [B (bA o1.2 0)]) (cond (o1.1.beq 2) (some [B true]) (none))):=by kernel_rfl
def Q7t:=Al (Nj)
def Pp:=Qqb Q7t
theorem Qvw:Ai PG (Qjw):=An rfl trivial
theorem Ycf:Ak PG (Zon Pp):=rw2 (C:=Zff Q7t) (fl fb Qvw) Qvw
def Wr:Sk:=⟨[TS.v true (cc 9++[sa Aa]++cc 9++[sa Aa]++cc 9++[sa Aa]++cc 5),tf [sa Ae],tf [sa kPt],tf [ci]],[],[]⟩
def Qps:Sk:=⟨[TS.tup [(false,[sa [Kd.sl kPt,Kd.sl Aa,kI,kI,kI,kI,kI,kI,kI]]),(false,[ci])]],[],[]⟩
def Zad:=qd 18 Wr Qps
def Qc0 (D G I L:Fn):Cfg:={cp [Yku D,Z0a G,Zxs I,Zon L] [55,54]with prom:=λb=>cond (Nat.beq b 8) ([(12,61)]) ([])}
def Zic:Sk:=⟨[td,td,tf [sa kPt],tf [ci]]++dd 6++[tf [sd 102500 0],td,tf [se 12 9],tf [ci]]++dd 40,[(102500,179,cS)],[(12,61,[Kd.sl kPt,Kd.sl Aa,kI,kI,kI,kI,kI,kI,kI])]⟩
def Q2r:List (Ex×Sk):=[(Ex.exit 0,⟨dd 12++[tf [se 12 9]]++dd 41,[],[(12,61,[Kd.sl kPt,Kd.sl Aa,kI,kI,kI,kI,kI,kI,kI])]⟩)]
def O3 (D G I L:Fn):Lp:=AG PG (Qc0 D G I L) 64 8 (AH PG 18 8) Zic Q2r
def Zi1 (D G I L:Fn) (M:Lp):Cfg:=(Qc0 D G I L).loop 8 Zic Q2r M
def Qmp (D G I L:Fn) (M:Lp):Fn:=Am PG (Zi1 D G I L M) 64 18 Wr Qps
theorem Zdo (T U V X:Fn) (G M:Rw) (N L:Int) (K:Kf) (c:Cv):O3 T U V X (.vC [Kd.sl kPt,Kd.sl Aa,kI,kI,kI,kI,kI,kI,kI] G:: .vC kPt M::I N::I L::Aj K c)=
 cond (decide (L<N)) ((U [.vC kPt M,I L]).bind λS=>
 (T (.vC kPt (wA S 0)::Aj K c)).bind λD=>
 cond (((G++[[.vC (Aa++(Aa++(Aa++[]))) (wA D 0), .vC Aa (wA D 1),jA D 2,jA D 3,jA D 4,jA D 5,jA D 6,jA D 7,jA D 8]]).length*104).ble 140737488355328) (cond (gA D 2==7) (some (1,[.vC [Kd.sl kPt,Kd.sl Aa,kI,kI,kI,kI,kI,kI,kI] (G++[[.vC (Aa++(Aa++(Aa++[]))) (wA D 0), .vC Aa (wA D 1),jA D 2,jA D 3,jA D 4,jA D 5,jA D 6,jA D 7,jA D 8]])])) (cond (gA D 2==8) (some (1,[.vC [Kd.sl kPt,Kd.sl Aa,kI,kI,kI,kI,kI,kI,kI] (G++[[.vC (Aa++(Aa++(Aa++[]))) (wA D 0), .vC Aa (wA D 1),jA D 2,jA D 3,jA D 4,jA D 5,jA D 6,jA D 7,jA D 8]])])) (some (0,(.vC [Kd.sl kPt,Kd.sl Aa,kI,kI,kI,kI,kI,kI,kI] (G++[[.vC (Aa++(Aa++(Aa++[]))) (wA D 0), .vC Aa (wA D 1),jA D 2,jA D 3,jA D 4,jA D 5,jA D 6,jA D 7,jA D 8]]):: .vC kPt M::I N::I (O (L+1))::cR 9 D))))) (none)) (some (1,[.vC [Kd.sl kPt,Kd.sl Aa,kI,kI,kI,kI,kI,kI,kI] G])):=by kernel_rfl
theorem Zxv (Hx Ht G8 Hl:Fn) (N8:Lp) (x0 x1 x2 x3 x4 x5 x6 x7 x8:Int) (x9:Rw) (M N O S T U V X Y:Int) (a0:Rw) (a1 a2 a3 a4 a5 a6 a7 a8 a9:Int) (b0:Rw) (b1 b2 b3 b4 b5:Int) (b6 D:Rw) (G:Int):Qmp Hx Ht G8 Hl N8 [I x0,I x1,I x2,I x3,I x4,I x5,I x6,I x7,I x8, .vC Aa x9,I M,I N,I O,I S,I T,I U,I V,I X,I Y, .vC Aa a0,I a1,I a2,I a3,I a4,I a5,I a6,I a7,I a8,I a9, .vC Aa b0,I b1,I b2,I b3,I b4,I b5, .vC Ae b6, .vC kPt D,I G]=
 (Hl [.vC kPt D]).bind λb8=>
 cond (!bA b8 0) (some [.vC [Kd.sl kPt,Kd.sl Aa,kI,kI,kI,kI,kI,kI,kI] [],I 1]) (cond (decide (G>1073741824)) (some [.vC [Kd.sl kPt,Kd.sl Aa,kI,kI,kI,kI,kI,kI,kI] [],I 1]) ((G8 [I x0,I x1,I x2,I x3,I x4,I x5,I x6,I x7,I x8, .vC Aa x9,I M,I N,I O,I S,I T,I U,I V,I X,I Y, .vC Aa a0,I a1,I a2,I a3,I a4,I a5,I a6,I a7,I a8,I a9, .vC Aa b0,I b1,I b2,I b3,I b4,I b5, .vC Ae b6,B true]).bind λL=>
 cond (gA L 0 !=0) (some [.vC [Kd.sl kPt,Kd.sl Aa,kI,kI,kI,kI,kI,kI,kI] [],jA L 0]) ((N8 (.vC [Kd.sl kPt,Kd.sl Aa,kI,kI,kI,kI,kI,kI,kI] []:: .vC kPt D::I G::I 0::cR 1 L)).bind λb7=>
 cond (b7.1.beq 1) (some [.vC [Kd.sl kPt,Kd.sl Aa,kI,kI,kI,kI,kI,kI,kI] (wA b7.2 0),I 0]) (none)))):=by kernel_rfl
def Zcn:=Al (O3 I5 PE I2 Pp)
def KX:=Qmp I5 PE I2 Pp Zcn
theorem Q7h:Ai PG (Qc0 I5 PE I2 Pp):=An rfl ⟨Ya4,Z6l,Yg8,Ycf,trivial⟩
theorem Qx0:Ak PG (Zad KX):=rw2 (C:=Zi1 I5 PE I2 Pp Zcn) (fl fb Q7h) Q7h
def Q1u:=qd 12 ZA Y3
def Qww:Fn:=Am PG Qjw 64 12 ZA Y3
theorem Z1s (G D:Int):Qww [I G,I D]=
 cond (decide (D=0)) (none) (cond (decide (D=0)) (none) (some [I ((O (G.tmod D+D)).tmod D)])):=by kernel_rfl
def HF:=Qww
theorem Z7z:Ai PG (Qjw):=An rfl trivial
theorem Qxs:Ak PG (Q1u HF):=rw1 (C:=Qjw) Z7z
def WJ:Sk:=⟨[tf [sd 20000 0],tf [ci]],[(20000,95,[sa Aa,ci])],[]⟩
def Qu5:Sk:=⟨[tf [ci]],[(20000,95,[sa Aa,ci])],[]⟩
def PM:=qd 41 WJ Qu5
def Qhn (D:Fn):Cfg:=cf [Q1u D]
def Qro (D:Fn):Fn:=Am PG (Qhn D) 64 41 WJ Qu5
theorem Z6t (L:Fn) (M:Int) (G:Rw) (D:Int):Qro L [I M, .vC Aa G,I D]=
 cond (decide (D>=(G.length:Int))) (some [I 0, .vC Aa G,I D]) (cond (decide (0<=D)&&decide (D<(G.length:Int))) ((L [jA (nth [] G D.toNat) 0,I M]).bind λo1=>
 some [jA o1 0, .vC Aa G,I (O (D+1))]) (none)):=by kernel_rfl
def Db:=Qro HF
theorem Zqp:Ai PG (Qhn HF):=An rfl ⟨Qxs,trivial⟩
theorem NO:Ak PG (PM Db):=rw1 (C:=Qhn HF) Zqp
def Qof:Sk:=⟨[tf [sd 5 0]],[(5,95,[sa Aa,ci])],[]⟩
def UV:=qd 40 Qje Qof
def Zdd:Fn:=Am PG Qjw 64 40 Qje Qof
theorem Zye (D:Rw):Zdd [.vC Aa D]=
 some [.vC Aa D,I 0]:=by kernel_rfl
def DM:=Zdd
theorem Z3w:Ai PG (Qjw):=An rfl trivial
theorem Uy:Ak PG (UV DM):=rw1 (C:=Qjw) Z3w
def Zkp:=qd 45 Qje Quv
def Qgq (D G:Fn):Cfg:=cp [PM D,UV G] [41,40]
def V2 (D G:Fn):Fn:=Am PG (Qgq D G) 64 45 Qje Quv
theorem Z8f (D L:Fn) (M:Rw):V2 D L [.vC Aa M]=
 (L [.vC Aa M]).bind λo4=>
 (D [I 900, .vC Aa (wA o4 0),jA o4 1]).bind λG=>
 (D [I 200, .vC Aa (wA G 1),jA G 2]).bind λo6=>
 (D [I 16000, .vC Aa (wA o6 1),jA o6 2]).bind λN=>
 some [I (O (1+gA G 0)),I (O (2+gA o6 0)),I (O (1+gA N 0))]:=by kernel_rfl
def R8:=V2 Db DM
theorem Zj8:Ai PG (Qgq Db DM):=An rfl ⟨NO,Uy,trivial⟩
theorem Z5b:Ak PG (Zkp R8):=rw1 (C:=Qgq Db DM) Zj8
def XG:Sk:=⟨[tf [sd 20000 0]],[(20000,95,[sa Aa,ci])],[]⟩
def WH:Sk:=⟨[TS.v true (cc 9++[sa Aa])],[(20000,95,[sa Aa,ci])],[]⟩
def Zsl:=qd 86 XG WH
def Yz (D:Fn):Cfg:={spec:=FX [PM D],eqOk:=Ja,pure:=λf=> !(AN [41] f),ownOff:=Q5u}
def Qwr:Sk:=⟨[tf [sd 20000 0],td,tf [sd 2 0],tf [sd 3 0],tf [ci],tf [ci],tf [ci]]++dd 72,[(2,33,cc 9++[se 1002009 1]),(3,33,cc 9++[se 1003009 1]),(20000,95,[sa Aa,ci])],[(1002009,3,Aa),(1003009,3,Aa)]⟩
def Q5y:List (Ex×Sk):=[(Ex.exit 0,⟨[td,td,tf [sd 2 0],tf [sd 3 0]]++dd 75,[(2,33,cc 9++[se 1002009 1]),(3,33,cc 9++[se 1003009 1]),(20000,95,[sa Aa,ci])],[(1002009,3,Aa),(1003009,3,Aa)]⟩)]
def SC (D:Fn):Lp:=AG PG (Yz D) 64 11 (AH PG 86 11) Qwr Q5y
def Qwq (G:Fn) (D:Lp):Cfg:=(Yz G).loop 11 Qwr Q5y D
def Wf (G:Fn) (D:Lp):Fn:=Am PG (Qwq G D) 64 86 XG WH
theorem Zc2 (Ay:Fn) (v0 X:Rw) (v2 Y v4 v5 v6 v7 v8 v9 v10 v11 v12 D G L M N S T v20 v21 v22:Int) (U:Rw) (v24:Int):SC Ay [.vC Aa v0, .vC Aa X,I v2,I Y,I v4,I v5,I v6,I v7,I v8,I v9,I v10,I v11,I v12,I D,I G,I L,I M,I N,I S,I T,I v20,I v21,I v22, .vC Aa U,I v24]=
 cond (decide (v4<v2)) (cond (((X++[[I Y]]).length*8).ble 140737488355328) ((Ay [I (O (O (2*O (v22.tdiv 4))+1)), .vC Aa U,I v24]).bind λV=>
 some (0,[.vC Aa v0, .vC Aa (X++[[I Y]]),I v2,I (mn (mx (O (O (Y+gA V 0)-O (v22.tdiv 4))) (-4096)) 4096),I (O (v4+1)),I v5,I v6,I v7,I v8,I v9,I v10,I v11,I v12,I D,I G,I L,I M,I N,I S,I T,I v20,I v21,I v22, .vC Aa (wA V 1),jA V 2])) (none)) (some (1,[.vC Aa v0, .vC Aa X,I v5,I v6,I v7,I v8,I v9,I v10,I v11,I v12,I D,I G,I L,I M,I N,I S,I T,I v20,I v21,I v22, .vC Aa U,I v24])):=by kernel_rfl
theorem Znu (U:Fn) (a0:Lp) (x0:Rw) (x1:Int):Wf U a0 [.vC Aa x0,I x1]=
 (U [I 6, .vC Aa x0,I x1]).bind λG=>
 cond (decide (0<=gA G 0)&&decide (gA G 0<(↑[[I 8],[I 4],[I 5],[I 16],[I 23],[I 64]].length:Int))) ((U [I 4, .vC Aa (wA G 1),jA G 2]).bind λL=>
 cond (decide (0<=gA L 0)&&decide (gA L 0<(↑[[I 0],[I 1],[I 3],[I 6]].length:Int))) ((U [I 5, .vC Aa (wA L 1),jA L 2]).bind λM=>
 cond (decide (0<=gA M 0)&&decide (gA M 0<(↑[[I 40],[I 1],[I 3],[I 9],[I 1000]].length:Int))) ((U [I 5, .vC Aa (wA M 1),jA M 2]).bind λN=>
 cond (decide (0<=gA N 0)&&decide (gA N 0<(↑[[I 20],[I 2],[I 3],[I 5],[I 1000]].length:Int))) ((U [I 5, .vC Aa (wA N 1),jA N 2]).bind λS=>
 cond (decide (0<=gA S 0)&&decide (gA S 0<(↑[[I 30],[I 4],[I 5],[I 8],[I 1000]].length:Int))) ((U [I 5, .vC Aa (wA S 1),jA S 2]).bind λT=>
 cond (gA T 0==0) (some [I (Ah (nth .vD (nth [] [[I 8],[I 4],[I 5],[I 16],[I 23],[I 64]] (gA G 0).toNat) 0)),I (Ah (nth .vD (nth [] [[I 40],[I 1],[I 3],[I 9],[I 1000]] (gA M 0).toNat) 0)),I (Ah (nth .vD (nth [] [[I 20],[I 2],[I 3],[I 5],[I 1000]] (gA N 0).toNat) 0)),I (Ah (nth .vD (nth [] [[I 30],[I 4],[I 5],[I 8],[I 1000]] (gA S 0).toNat) 0)),I (-16777216),I 16777216,I (Ah (nth .vD (nth [] [[I 0],[I 1],[I 3],[I 6]] (gA L 0).toNat) 0)),I 0,I 0, .vC Aa [], .vC Aa (wA T 1),jA T 2]) ((U [I 400, .vC Aa (wA T 1),jA T 2]).bind λV=>
 (U [I 120, .vC Aa (wA V 1),jA V 2]).bind λX=>
 (U [I 9, .vC Aa (wA X 1),jA X 2]).bind λY=>
 (a0 [.vC Aa [], .vC Aa [],jA T 0,I (O (gA Y 0-4)),I 0,I 0,I 0,I 0,I 0,I 0,I 0,I 0,I 0,I 0,I (Ah (nth .vD (nth [] [[I 8],[I 4],[I 5],[I 16],[I 23],[I 64]] (gA G 0).toNat) 0)),I (Ah (nth .vD (nth [] [[I 40],[I 1],[I 3],[I 9],[I 1000]] (gA M 0).toNat) 0)),I (Ah (nth .vD (nth [] [[I 20],[I 2],[I 3],[I 5],[I 1000]] (gA N 0).toNat) 0)),I (Ah (nth .vD (nth [] [[I 30],[I 4],[I 5],[I 8],[I 1000]] (gA S 0).toNat) 0)),I (-16777216),I 16777216,I (Ah (nth .vD (nth [] [[I 0],[I 1],[I 3],[I 6]] (gA L 0).toNat) 0)),I (O (gA V 0-200)),I (O (4+gA X 0)), .vC Aa (wA Y 1),jA Y 2]).bind λD=>
 cond (D.1.beq 1) (some [jA D.2 11,jA D.2 12,jA D.2 13,jA D.2 14,jA D.2 15,jA D.2 16,jA D.2 17,jA D.2 18,jA D.2 19, .vC Aa (wA D.2 1), .vC Aa (wA D.2 20),jA D.2 21]) (none))) (none)) (none)) (none)) (none)) (none):=by kernel_rfl
def Qth:=Al (SC Db)
def Np:=Wf Db Qth
theorem Qz2:Ai PG (Yz Db):=An rfl ⟨NO,trivial⟩
theorem Yfo:Ak PG (Zsl Np):=rw2 (C:=Qwq Db Qth) (fl fb Qz2) Qz2
def Qn3:Sk:=⟨[TS.v true (cc 9++[sa Aa]++cc 9++[sa Aa]++cc 9++[sa Aa])],[],[]⟩
def Ydm:=qd 44 Qje Qn3
def Qgm (D G:Fn):Cfg:=cp [Zsl D,UV G] [86,40]
def Q2y (D G:Fn):Fn:=Am PG (Qgm D G) 64 44 Qje Qn3
theorem Yiy (I L:Fn) (M:Rw):Q2y I L [.vC Aa M]=
 (L [.vC Aa M]).bind λo4=>
 (I [.vC Aa (wA o4 0),jA o4 1]).bind λD=>
 (I [.vC Aa (wA D 10),jA D 11]).bind λo6=>
 (I [.vC Aa (wA o6 10),jA o6 11]).bind λG=>
 some [jA D 0,jA D 1,jA D 2,jA D 3,jA D 4,jA D 5,jA D 6,jA D 7,jA D 8, .vC Aa (wA D 9),jA o6 0,jA o6 1,jA o6 2,jA o6 3,jA o6 4,jA o6 5,jA o6 6,jA o6 7,jA o6 8, .vC Aa (wA o6 9),jA G 0,jA G 1,jA G 2,jA G 3,jA G 4,jA G 5,jA G 6,jA G 7,jA G 8, .vC Aa (wA G 9)]:=by kernel_rfl
def OM:=Q2y Np DM
theorem Yhd:Ai PG (Qgm Np DM):=An rfl ⟨Yfo,Uy,trivial⟩
theorem Zzd:Ak PG (Ydm OM):=rw1 (C:=Qgm Np DM) Yhd
def Qu7:Sk:=⟨[tf [sa Aa],tf [sa Aa]],[],[]⟩
def Ztj:=qd 14 Qu7 W2
def WU (D G I L:Fn):Cfg:=cp [PM D,Zkp G,Ydm I,UV L] [41,40]
def YT (D G I L:Fn):Fn:=Am PG (WU D G I L) 64 14 Qu7 W2
theorem Z72 (G M N S:Fn) (T D:Rw):YT G M N S [.vC Aa T, .vC Aa D]=
 (S [.vC Aa D]).bind λU=>
 (N [.vC Aa T]).bind λo6=>
 (M [.vC Aa D]).bind λL=>
 (G [I 60000, .vC Aa (wA U 0),I (mn 3 (D.length:Int))]).bind λo8=>
 (G [I 40, .vC Aa (wA o8 1),jA o8 2]).bind λV=>
 some [jA o6 0,jA o6 1,jA o6 2,jA o6 3,jA o6 4,jA o6 5,jA o6 6,jA o6 7,jA o6 8, .vC Aa (wA o6 9),jA o6 10,jA o6 11,jA o6 12,jA o6 13,jA o6 14,jA o6 15,jA o6 16,jA o6 17,jA o6 18, .vC Aa (wA o6 19),jA o6 20,jA o6 21,jA o6 22,jA o6 23,jA o6 24,jA o6 25,jA o6 26,jA o6 27,jA o6 28, .vC Aa (wA o6 29),jA L 0,jA L 1,jA L 2,I (O (1+gA o8 0)),jA V 0]:=by kernel_rfl
def Oa:=YT Db R8 OM DM
theorem Z9b:Ai PG (WU Db R8 OM DM):=An rfl ⟨NO,Z5b,Zzd,Uy,trivial⟩
theorem Ygq:Ak PG (Ztj Oa):=rw1 (C:=WU Db R8 OM DM) Z9b
def Zt3:=qd 136 ZA Xn
def Q3x:Fn:=Am PG Qjw 64 136 ZA Xn
theorem Z5s (D G:Int):Q3x [I D,I G]=
 cond (decide (0<=G.tmod 4)&&decide (G.tmod 4<(↑[[I D],[I 0],[I (O (0-D))],[I 0]].length:Int))) (cond (decide (0<=G.tmod 4)&&decide (G.tmod 4<(↑[[I 0],[I D],[I 0],[I (O (0-D))]].length:Int))) (some [I (Ah (nth .vD (nth [] [[I D],[I 0],[I (O (0-D))],[I 0]] (G.tmod 4).toNat) 0)),I (Ah (nth .vD (nth [] [[I 0],[I D],[I 0],[I (O (0-D))]] (G.tmod 4).toNat) 0))]) (none)) (none):=by kernel_rfl
def Pm:=Q3x
theorem Ybu:Ai PG (Qjw):=An rfl trivial
theorem Z0v:Ak PG (Zt3 Pm):=rw1 (C:=Qjw) Ybu
def Qr2:Sk:=⟨[tf [sd 20000 0],TS.v true [ci,ci,ci],tf [ci]],[(20000,95,[sa Aa,ci])],[]⟩
def YA:Sk:=⟨[TS.v true (cc 13++[sb,ci,sb]++cc 5++[sb])],[(20000,95,[sa Aa,ci])],[]⟩
def Z22:=qd 85 Qr2 YA
def YK (D G I L:Fn):Cfg:=cp [Q72 D,Zt3 G,Qsa I,PM L] [41]
def Qmk (D G I L:Fn):Fn:=Am PG (YK D G I L) 64 85 Qr2 YA
abbrev SL (Ay C2:Fn) (V M:List AC) (x0 x1 x2:Int) (G X Y:List AC) (N S T U:AC):Option (List AC):=
 (Ay [I 4,N,S]).bind λD=>
 cond (decide (0<=gA D 0)&&decide (gA D 0<(↑[[I 0],[I 0],[I 7],[I (-12)]].length:Int))) ((C2 [T,U,I (O (gA V 2+Ah (nth .vD (nth [] [[I 0],[I 0],[I 7],[I (-12)]] (gA D 0).toNat) 0))),I (Ah (nth .vD (nth [] [[I 17],[I 18],[I 19]] (gA M 0).toNat) 0))]).bind λL=>
 some [I 3,I 0,I x0,I x1,I x2,jA L 0,jA L 1,jA L 2,I (Ah (nth .vD (nth [] [[I 17],[I 18],[I 19]] (gA M 0).toNat) 0)),jA G 0,jA G 1,jA G 2,I (O (1-O (gA X 0*2))),B (gA Y 0==0),I 0,B false,I 0,I 0,I 0,I 0,I 0,B false, .vC Aa (wA D 1),jA D 2]) (none)
theorem Z7k (C2 Mi Ci T:Fn) (x0 x1 x2 x3:Int) (x4:Rw) (x5:Int):Qmk C2 Mi Ci T [I x0,I x1,I x2,I x3, .vC Aa x4,I x5]=
 (T [I 3, .vC Aa x4,I x5]).bind λG=>
 cond (decide (0<=gA G 0)&&decide (gA G 0<(↑[[I 17],[I 18],[I 19]].length:Int))) ((T [I 2, .vC Aa (wA G 1),jA G 2]).bind λU=>
 (T [I x3, .vC Aa (wA U 1),jA U 2]).bind λM=>
 (T [I 4, .vC Aa (wA M 1),jA M 2]).bind λX=>
 (T [I 4, .vC Aa (wA X 1),jA X 2]).bind λL=>
 (Ci [I x0,I x1,I x2,I (Ah (nth .vD (nth [] [[I 17],[I 18],[I 19]] (gA G 0).toNat) 0))]).bind λD=>
 (Mi [I (O (8+gA M 0)),jA X 0]).bind λN=>
 (Mi [I (O (8+gA M 0)),I (O (gA X 0+gA L 0))]).bind λS=>
 (C2 [I (O (gA D 0-gA N 0)),I (O (gA D 1-gA N 1)),jA D 2,I (Ah (nth .vD (nth [] [[I 17],[I 18],[I 19]] (gA G 0).toNat) 0))]).bind λY=>
 cond (decide (gA L 0>0)) ((T [I 3, .vC Aa (wA L 1),jA L 2]).bind λV=>
 cond (gA V 0==0) (cond (decide (O (8+gA M 0)=0)) (none) ((T [I 5, .vC Aa (wA V 1),jA V 2]).bind λa0=>
 cond (decide (O (8+gA M 0)=0)) (none) ((T [I 5, .vC Aa (wA a0 1),jA a0 2]).bind λa1=>
 SL T C2 D G x0 x1 x2 Y U L (.vC Aa (wA a1 1)) (jA a1 2) (I (O (O (gA D 0-gA N 0)+O (gA S 0+O (O ((gA S 0).tdiv (O (8+gA M 0)))*gA a0 0))))) (I (O (O (gA D 1-gA N 1)+O (gA S 1+O (O ((gA S 1).tdiv (O (8+gA M 0)))*gA a1 0)))))))) (SL T C2 D G x0 x1 x2 Y U L (.vC Aa (wA V 1)) (jA V 2) (I (O (O (gA D 0-gA N 0)+gA S 0))) (I (O (O (gA D 1-gA N 1)+gA S 1))))) (SL T C2 D G x0 x1 x2 Y U L (.vC Aa (wA L 1)) (jA L 2) (I (O (O (gA D 0-gA N 0)+gA S 0))) (I (O (O (gA D 1-gA N 1)+gA S 1))))) (none):=by kernel_rfl
def QU:=Qmk Ix Pm Gl Db
theorem Zj4:Ai PG (YK Ix Pm Gl Db):=An rfl ⟨Q0q,Z0v,Qoi,NO,trivial⟩
theorem Ycg:Ak PG (Z22 QU):=rw1 (C:=YK Ix Pm Gl Db) Zj4
def Zu2:=qd 43 Qr2 YA
def Wn (D G:Fn):Cfg:=cp [PM D,Z22 G] [41,85]
def Wh (D G:Fn):Fn:=Am PG (Wn D G) 64 43 Qr2 YA
abbrev Qg2 (Ay:Fn) (a9:List AC) (x3:Int) (X Y a0 a1 a2 a3 a4 a5 a6 a7 G L M N S T U V:AC):Option (List AC):=
 (Ay [I 60, .vC Aa (wA a9 1),jA a9 2]).bind λD=>
 cond (x3==6) ((Ay [I 2, .vC Aa (wA D 1),jA D 2]).bind λa8=>
 some [X,Y,a0,a1,a2,a3,a4,a5,a6,a7,G,L,M,N,I (O (1+gA D 0)),B true,S,T,I 0,I (O (3+gA a8 0)),U,V, .vC Aa (wA a8 1),jA a8 2]) (some [X,Y,a0,a1,a2,a3,a4,a5,a6,a7,G,L,M,N,I (O (1+gA D 0)),B true,S,T,I 0,I 0,U,V, .vC Aa (wA D 1),jA D 2])
abbrev Xa (x3:Int) (Ay:Fn) (V X Y a0 a1 a2 a3 a4 a5 a6 D G L M b2 a7 N O b3 a8 S T b0 b1:AC):Option (List AC):=
 cond (x3==1) (some [V,X,Y,a0,a1,a2,a3,a4,a5,a6,D,G,L,M,b2,a7,N,O,b3,a8,S,T,b0,b1]) ((Ay [I 5,b0,b1]).bind λa9=>
 cond (decide (0<=gA a9 0)&&decide (gA a9 0<(↑[[I 300000],[I 1],[I 60000],[I 2000000],[I 60000000]].length:Int))) ((Ay [I 5, .vC Aa (wA a9 1),jA a9 2]).bind λU=>
 cond (decide (0<=gA U 0)&&decide (gA U 0<(↑[[I 0],[I 1],[I 2],[I 4],[I 9]].length:Int))) (cond (x3==5) (Qg2 Ay U x3 V X Y a0 a1 a2 a3 a4 a5 a6 D G L M N O S T) (cond (x3==6) (Qg2 Ay U x3 V X Y a0 a1 a2 a3 a4 a5 a6 D G L M N O S T) (cond (x3==4) (some [V,X,Y,a0,a1,a2,a3,a4,a5,a6,D,G,L,M,I (Ah (nth .vD (nth [] [[I 300000],[I 1],[I 60000],[I 2000000],[I 60000000]] (gA a9 0).toNat) 0)),a7,N,O,I 0,a8,S,T, .vC Aa (wA U 1),jA U 2]) (some [V,X,Y,a0,a1,a2,a3,a4,a5,a6,D,G,L,M,I (Ah (nth .vD (nth [] [[I 300000],[I 1],[I 60000],[I 2000000],[I 60000000]] (gA a9 0).toNat) 0)),a7,N,O,I (Ah (nth .vD (nth [] [[I 0],[I 1],[I 2],[I 4],[I 9]] (gA U 0).toNat) 0)),a8,S,T, .vC Aa (wA U 1),jA U 2])))) (none)) (none))
theorem Z92 (G PN:Fn) (V X Y U:Int) (x4:Rw) (x5:Int):Wh G PN [I V,I X,I Y,I U, .vC Aa x4,I x5]=
 cond (U==3) ((PN [I V,I X,I Y,I 8, .vC Aa x4,I x5]).bind λD=>
 Xa U G (jA D 0) (jA D 1) (jA D 2) (jA D 3) (jA D 4) (jA D 5) (jA D 6) (jA D 7) (jA D 8) (jA D 9) (jA D 10) (jA D 11) (jA D 12) (B (bA D 13)) (jA D 14) (B (bA D 15)) (jA D 16) (jA D 17) (jA D 18) (jA D 19) (jA D 20) (B (bA D 21)) (.vC Aa (wA D 22)) (jA D 23)) ((G [I 25, .vC Aa x4,I x5]).bind λL=>
 (G [I 25, .vC Aa (wA L 1),jA L 2]).bind λM=>
 (G [I 3, .vC Aa (wA M 1),jA M 2]).bind λN=>
 (G [I 9, .vC Aa (wA N 1),jA N 2]).bind λS=>
 (G [I 2, .vC Aa (wA S 1),jA S 2]).bind λT=>
 Xa U G (I U) (I 0) (I V) (I X) (I Y) (I (O (O (V+gA L 0)-12))) (I (O (O (X+gA M 0)-12))) (I (O (O (Y+O (gA N 0*gA S 0))-O (8*gA T 0)))) (I 0) (I 0) (I 0) (I 0) (I 0) (B false) (I 0) (B false) (I 0) (I 0) (I 0) (I 0) (I 0) (B false) (.vC Aa (wA T 1)) (jA T 2)):=by kernel_rfl
def Nk:=Wh Db QU
theorem Zz7:Ai PG (Wn Db QU):=An rfl ⟨NO,Ycg,trivial⟩
theorem Zxe:Ak PG (Zu2 Nk):=rw1 (C:=Wn Db QU) Zz7
def Qmz:Sk:=⟨[tf [sb]],[(20000,95,[sa Aa,ci])],[]⟩
def Zqb:=qd 42 XG Qmz
def Q1e:Fn:=Am PG Qjw 64 42 XG Qmz
theorem Zm5 (D:Rw) (G:Int):Q1e [.vC Aa D,I G]=
 some [B (decide (G<(D.length:Int))), .vC Aa D,I G]:=by kernel_rfl
def Lo:=Q1e
theorem Zvu:Ai PG (Qjw):=An rfl trivial
theorem Ye4:Ak PG (Zqb Lo):=rw1 (C:=Qjw) Zvu
def Qek:Sk:=⟨[tf [se 6 22]],[],[(6,31,Ae)]⟩
def Zxh:=qd 11 Ql7 Qek
def ZO (D G I L:Fn):Cfg:={cp [Zu2 D,Zqb G,PM I,UV L] [43,42,41,40]with ownRes:=true,prom:=λb=>cond (Nat.beq b 4) ([(6,31)]) ([])}
def Zfs:Sk:=⟨[td,tf [ci],td,td,td,tf [sd 101000 0],tf [se 6 22],tf [sd 7 0]]++dd 36,[(7,29,[ci,ci,ci]),(101000,95,[sa Aa,ci])],[(6,31,Ae)]⟩
def Zg7:List (Ex×Sk):=[(Ex.exit 0,⟨dd 6++[tf [se 6 22]]++dd 37,[],[(6,31,Ae)]⟩)]
def Qpr (D G I L:Fn):Lp:=AG PG (ZO D G I L) 64 4 (AH PG 11 4) Zfs Zg7
def Qw2 (D G I L:Fn) (M:Lp):Cfg:=(ZO D G I L).loop 4 Zfs Zg7 M
def Qkb (D G I L:Fn) (M:Lp):Fn:=Am PG (Qw2 D G I L M) 64 11 Ql7 Qek
theorem Z70 (O S T BH:Fn) (M:Rw) (N U V X:Int) (Y:Rw) (v6:Int):Qpr O S T BH [.vC Ae M,I N,I U,I V,I X, .vC Aa Y,I v6]=
 cond (decide ((M.length:Int)<N)) ((S [.vC Aa Y,I v6]).bind λL=>
 cond (bA L 0) ((T [I 5, .vC Aa (wA L 1),jA L 2]).bind λG=>
 cond (decide (0<=gA G 0)&&decide (gA G 0<(↑[[I 2],[I 2],[I 2],[I 3],[I 1]].length:Int))) ((O [I U,I V,I X,I (Ah (nth .vD (nth [] [[I 2],[I 2],[I 2],[I 3],[I 1]] (gA G 0).toNat) 0)), .vC Aa (wA G 1),jA G 2]).bind λD=>
 cond (((M++[[jA D 0,jA D 1,jA D 2,jA D 3,jA D 4,jA D 5,jA D 6,jA D 7,jA D 8,jA D 9,jA D 10,jA D 11,jA D 12,B (bA D 13),jA D 14,B (bA D 15),jA D 16,jA D 17,jA D 18,jA D 19,jA D 20,B (bA D 21)]]).length*176).ble 140737488355328) (some (0,[.vC Ae (M++[[jA D 0,jA D 1,jA D 2,jA D 3,jA D 4,jA D 5,jA D 6,jA D 7,jA D 8,jA D 9,jA D 10,jA D 11,jA D 12,B (bA D 13),jA D 14,B (bA D 15),jA D 16,jA D 17,jA D 18,jA D 19,jA D 20,B (bA D 21)]]),I N,jA D 5,jA D 6,jA D 7, .vC Aa (wA D 22),jA D 23])) (none)) (none)) (some (1,[.vC Ae M]))) (some (1,[.vC Ae M])):=by kernel_rfl
theorem Zqz (Y G6 S T:Fn) (U:Lp) (V:Rw) (X:Int):Qkb Y G6 S T U [.vC Aa V,I X]=
 (T [.vC Aa V]).bind λM=>
 (S [I 9, .vC Aa (wA M 0),jA M 1]).bind λD=>
 (S [I 9, .vC Aa (wA D 1),jA D 2]).bind λG=>
 (S [I 9, .vC Aa (wA G 1),jA G 2]).bind λL=>
 (U [.vC Ae [],I X,I (O (gA D 0-4)),I (O (gA G 0-4)),I (O (gA L 0-4)), .vC Aa (wA L 1),jA L 2]).bind λN=>
 cond (N.1.beq 1) (some [.vC Ae (wA N.2 0)]) (none):=by kernel_rfl
def Q19:=Al (Qpr Nk Lo Db DM)
def Nz:=Qkb Nk Lo Db DM Q19
theorem Q3w:Ai PG (ZO Nk Lo Db DM):=An rfl ⟨Zxe,Ye4,NO,Uy,trivial⟩
theorem Yhc:Ak PG (Zxh Nz):=rw2 (C:=Qw2 Nk Lo Db DM Q19) (fl fb Q3w) Q3w
def Qge:Sk:=⟨[tf [sa [Kd.sl Aa]]],[],[]⟩
def Yhg:=qd 39 Qge V1
def Q5n:Sk:=⟨[td,td,td,td,td,tf [sa [Kd.sl Aa]],tf [ci],tf [ci]]++dd 7,[],[]⟩
def Qyq:List (Ex×Sk):=[(Ex.ret,⟨[td,td,tf [sb]]++dd 12,[],[]⟩),(Ex.exit 0,⟨[td]++dd 14,[],[]⟩)]
def TW:Lp:=AG PG Qjw 64 2 (AH PG 39 2) Q5n Qyq
def Zbt (D:Lp):Cfg:=Qjw.loop 2 Q5n Qyq D
def WL (D:Lp):Fn:=Am PG (Zbt D) 64 39 Qge V1
theorem Z82 (G:Rw) (L D:Int):TW [.vC [Kd.sl Aa] G,I L,I D]=
 cond (decide (D<L)) (cond (decide (0<=D)&&decide (D<(G.length:Int))) (cond (decide ((↑(wA (nth [] G D.toNat) 0).length:Int)>60)) (some (1,[B false])) (some (0,[.vC [Kd.sl Aa] G,I L,I (O (D+1))]))) (none)) (some (2,[])):=by kernel_rfl
theorem Z71 (G:Lp) (D:Rw):WL G [.vC [Kd.sl Aa] D]=
 (G [.vC [Kd.sl Aa] D,I (D.length:Int),I 0]).bind λo1=>
 cond (o1.1.beq 1) (some [B (bA o1.2 0)]) (cond (o1.1.beq 2) (some [B true]) (none)):=by kernel_rfl
def Zgs:=Al (TW)
def KK:=WL Zgs
theorem Zis:Ai PG (Qjw):=An rfl trivial
theorem Zrt:Ak PG (Yhg KK):=rw2 (C:=Zbt Zgs) (fl fb Zis) Zis
abbrev Yge (L:Fn) (o8:List AC):Option (List AC):=
 (L [I 16, .vC Aa (wA o8 1),jA o8 2]).bind λG=>
 (L [I 2, .vC Aa (wA G 1),jA G 2]).bind λD=>
 some [I 10,I 0,I 0,I 0,I 0,I 0,I 0,I 0,I 0,I 0,I 0,I 0,I 0,B false,I 0,B false,I 0,I 0,I 0,jA G 0,I 0,B (gA D 0==0), .vC Aa (wA D 1),jA D 2]
abbrev Yee (M:Fn) (L:List AC) (N:Int) (G:AC):Option (List AC):=
 (M [G, .vC Aa (wA L 1),jA L 2]).bind λD=>
 some [I N,I (Ah (nth .vD (nth [] [[I 4],[I 1],[I 2],[I 3],[I 4],[I 5],[I 6],[I 7],[I 4],[I 8],[I 9],[I 11],[I 12],[I 13],[I 10]] (gA L 0).toNat) 0)),I (O (gA D 0-5)), .vC Aa (wA D 1),jA D 2]
def Q4b:Sk:=⟨[tf [ci],TS.v true ([sa kPt,sa Aa]++cc 7)],[],[]⟩
def Zi5:Sk:=⟨[tf [CS.str]],[],[]⟩
def Qht (D:Fn):Cfg:=cf [(122,Ab Q84 Q15 D)]
def Qyw:Sk:=⟨[td,td,td,td,td,tf [CS.str]]++dd 20++[tf [sa Aa],tf [ci],tf [ci]]++dd 11,[],[]⟩
def Q2h:List (Ex×Sk):=[(Ex.exit 0,⟨[td,td,td,td,td,tf [CS.str]]++dd 34,[],[]⟩)]
def Sj (D:Fn):Lp:=AG PG (Qht D) 64 3 (AH PG 76 3) Qyw Q2h
def Q5q (D:Fn) (G:Lp):Cfg:=(Qht D).loop 3 Qyw Q2h G
def YO (D:Fn) (G:Lp):Fn:=Am PG (Q5q D G) 64 76 Q4b Zi5
theorem Z1t (S:Fn) (L:ByteArray) (M:Rw) (N G:Int):Sj S [AC.raw (Go.Value.string L), .vC Aa M,I N,I G]=
 cond (decide (G<N)) (cond (decide (0<=G)&&decide (G<(M.length:Int))) ((S [jA (nth [] M G.toNat) 0]).bind λD=>
 cond (((ByteArray.mk #[32,111,117,116,112,117,116]).size+(Bd (nth .vD D 0)).size).ble 9223372036854775807) (cond (((Bd (AC.raw (Value.string L))).size+((ByteArray.mk #[32,111,117,116,112,117,116])++Bd (nth .vD D 0)).size).ble 9223372036854775807) (some (0,[AC.raw (Value.string (Bd (AC.raw (Value.string L))++((ByteArray.mk #[32,111,117,116,112,117,116])++Bd (nth .vD D 0)))), .vC Aa M,I N,I (O (G+1))])) (none)) (none)) (none)) (some (1,[AC.raw (Value.string (Bd (AC.raw (Value.string L))))])):=by kernel_rfl
theorem Z32 (N:Fn) (T:Lp) (U:Int) (x1 S:Rw) (V X x5 x6 x7 x8 Y:Int):YO N T [I U, .vC kPt x1, .vC Aa S,I V,I X,I x5,I x6,I x7,I x8,I Y]=
 (N [I U]).bind λD=>
 cond (((Bd (nth .vD D 0)).size+(ByteArray.mk #[32,109,111,100,101]).size).ble 9223372036854775807) ((N [I V]).bind λG=>
 cond (((Bd (nth .vD D 0)++(ByteArray.mk #[32,109,111,100,101])).size+(Bd (nth .vD G 0)).size).ble 9223372036854775807) (cond (((Bd (nth .vD D 0)++(ByteArray.mk #[32,109,111,100,101])++Bd (nth .vD G 0)).size+(ByteArray.mk #[32,97,116]).size).ble 9223372036854775807) ((N [I X]).bind λL=>
 cond (((Bd (nth .vD D 0)++(ByteArray.mk #[32,109,111,100,101])++Bd (nth .vD G 0)++(ByteArray.mk #[32,97,116])).size+(Bd (nth .vD L 0)).size).ble 9223372036854775807) (cond (((Bd (nth .vD D 0)++(ByteArray.mk #[32,109,111,100,101])++Bd (nth .vD G 0)++(ByteArray.mk #[32,97,116])++Bd (nth .vD L 0)).size+(ByteArray.mk #[32,102,97,117,108,116]).size).ble 9223372036854775807) ((N [I Y]).bind λO=>
 cond (((Bd (nth .vD D 0)++(ByteArray.mk #[32,109,111,100,101])++Bd (nth .vD G 0)++(ByteArray.mk #[32,97,116])++Bd (nth .vD L 0)++(ByteArray.mk #[32,102,97,117,108,116])).size+(Bd (nth .vD O 0)).size).ble 9223372036854775807) ((T [AC.raw (Value.string (Bd (nth .vD D 0)++(ByteArray.mk #[32,109,111,100,101])++Bd (nth .vD G 0)++(ByteArray.mk #[32,97,116])++Bd (nth .vD L 0)++(ByteArray.mk #[32,102,97,117,108,116])++Bd (nth .vD O 0))), .vC Aa S,I (S.length:Int),I 0]).bind λM=>
 cond (M.1.beq 1) (cond (((Bd (nth .vD M.2 0)).size+(ByteArray.mk #[10]).size).ble 9223372036854775807) (some [AC.raw (Value.string (Bd (nth .vD M.2 0)++(ByteArray.mk #[10])))]) (none)) (none)) (none)) (none)) (none)) (none)) (none)) (none):=by kernel_rfl
def Q9p:=Al (Sj Mf)
def Qej:=YO Mf Q9p
theorem Q5c:Ai PG (Qht Mf):=An rfl ⟨Ybl,trivial⟩
theorem Yht:Ak PG (76,Ab Q4b Zi5 Qej):=rw2 (C:=Q5q Mf Q9p) (fl fb Q5c) Q5c
attribute [go_sem] Lr Ry Qw SL Qg2 Xa Yge Yee
end Go.Bm
