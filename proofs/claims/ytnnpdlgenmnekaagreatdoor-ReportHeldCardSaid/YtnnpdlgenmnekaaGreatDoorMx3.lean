/- functions of the program and of the references, as models -/
import Derived.Test.YtnnpdlgenmnekaaGreatDoorMx2
set_option linter.unusedSimpArgs false
set_option linter.unusedVariables false
set_option maxRecDepth 100000
noncomputable section
open Go.IntKind (wrap)
namespace Go.Bm
open Go.Proofs
def Z82:=qd 87 Qn1 Zb
def WV (D G:Fn):Cfg:=cf [Qdn D,U1 G]
def Qlt (D G:Fn):Fn:=An PG (WV D G) 64 87 Qn1 Zb
abbrev Lt (L D G:Int):Option (List AC):=
 cond (L==8) (cond (decide (D<3)) (some [I 1]) (cond (decide (D>5)) (some [I 1]) (cond (decide (G<0)) (some [I 1]) (cond (decide (G>30000)) (some [I 1]) (some [I 0]))))) (some [I 0])
theorem Zxn (CF AU:Fn) (L x1 x2 x3 x4 x5 x6 x7 x8 x9 O S T:Int) (U:Bool) (M:Int) (V:Bool) (X Y N D G:Int) (a0:Bool):Qlt CF AU [I L,I x1,I x2,I x3,I x4,I x5,I x6,I x7,I x8,I x9,I O,I S,I T,B U,I M,B V,I X,I Y,I N,I D,I G,B a0]=
 cond (decide (L<1)) (some [I 1]) (cond (decide (L>14)) (some [I 1]) ((AU [I L]).bind λo4=>
 cond (bA o4 0) ((CF [I L,I x1,I x2,I x3,I x4,I x5,I x6,I x7,I x8,I x9,I O,I S,I T,B U,I M,B V,I X,I Y,I N,I D,I G,B a0]).bind λo5=>
 cond (!bA o5 0) (some [I 1]) (cond (decide (N<0)) (some [I 1]) (cond (decide (N>1000)) (some [I 1]) ((AU [I L]).bind λo6=>
 cond (bA o6 0) (cond (L !=1) (cond (decide (M<1)) (some [I 1]) (cond (decide (M>60000000)) (some [I 1]) (Lt L D G))) (Lt L D G)) (Lt L D G))))) ((AU [I L]).bind λo7=>
 cond (bA o7 0) (cond (L !=1) (cond (decide (M<1)) (some [I 1]) (cond (decide (M>60000000)) (some [I 1]) (Lt L D G))) (Lt L D G)) (Lt L D G)))):=by kernel_rfl
def Jq:=Qlt GZ DG
theorem Zym:Ai PG (WV GZ DG):=Ao rfl ⟨Qcn,Tm,trivial⟩
theorem Ykn:Ak PG (Z82 Jq):=rw1 (C:=WV GZ DG) Zym
def Qpy:Sk:=⟨[TS.tup [(false,[sd 13 0]),(false,[ci])]],[(13,102,[ci,ci,ci,se 1013003 7,se 1013004 3,sb,ci,ci,ci])],[(1013003,111,Ag),(1013004,130,kPt)]⟩
def Qxj:=qd 46 Qc2 Qpy
def Qeg (D G I L M N:Fn):Cfg:=cp [Zm8 D,Ygl G,Qpg I,Q72 L,U1 M,Z82 N] [92,91]
def Zdd:Sk:=⟨[tf [sa Ae],td,td,td,tf [sd 13 0],tf [ci]]++dd 12++[tf [sa Ae],tf [ci],tf [ci]]++dd 87,[(13,102,[ci,ci,ci,se 1013003 7,se 1013004 3,sb,ci,ci,ci])],[(1013003,111,Ag),(1013004,130,kPt)]⟩
def Qw2:List (Ex×Sk):=[(Ex.ret,⟨[td,td,tf [sd 13 0],tf [ci]]++dd 104,[(13,102,[ci,ci,ci,se 1013003 7,se 1013004 3,sb,ci,ci,ci])],[(1013003,111,Ag),(1013004,130,kPt)]⟩),(Ex.exit 0,⟨[tf [sa Ae],td,td,td,tf [sd 13 0]]++dd 103,[(13,102,[ci,ci,ci,se 1013003 7,se 1013004 3,sb,ci,ci,ci])],[(1013003,111,Ag),(1013004,130,kPt)]⟩)]
def QT (D G I L M N:Fn):Lp:=AG PG (Qeg D G I L M N) 64 6 (AH PG 46 6) Zdd Qw2
def Q4g (D G I L M N:Fn) (O:Lp):Cfg:=(Qeg D G I L M N).loop 6 Zdd Qw2 O
def Zhg:Sk:=⟨[tf [sa Ae],td,td,td,tf [sd 13 0],tf [ci]]++dd 44++[tf [sa Ae],tf [ci],tf [ci]]++dd 55,[(13,102,[ci,ci,ci,se 1013003 7,se 1013004 3,sb,ci,ci,ci])],[(1013003,111,Ag),(1013004,130,kPt)]⟩
def Zis:List (Ex×Sk):=[(Ex.ret,⟨[td,td,tf [sd 13 0],tf [ci]]++dd 104,[(13,102,[ci,ci,ci,se 1013003 7,se 1013004 3,sb,ci,ci,ci])],[(1013003,111,Ag),(1013004,130,kPt)]⟩),(Ex.exit 2,⟨[td,td,td,td,tf [sd 13 0]]++dd 103,[(13,102,[ci,ci,ci,se 1013003 7,se 1013004 3,sb,ci,ci,ci])],[(1013003,111,Ag),(1013004,130,kPt)]⟩)]
def Qs (D G I L M N:Fn) (O:Lp):Lp:=AG PG (Q4g D G I L M N O) 64 18 (AH PG 46 18) Zhg Zis
def Za1 (G I L M N O:Fn) (S D:Lp):Cfg:=(Q4g G I L M N O S).loop 18 Zhg Zis D
def Qn3 (G I L M N O:Fn) (S D:Lp):Fn:=An PG (Za1 G I L M N O S D) 64 46 Qc2 Qpy
theorem Zav (Cb Cj Bw BW AU Ej:Fn) (S T M:Rw) (N:Int) (L:Rw) (Y G U V X:Int) (v10:Bool) (v11 v12 D:Int):QT Cb Cj Bw BW AU Ej [.vC Ag S, .vC kPt T, .vC Ae M,I N, .vC Ae L,I Y,I G,I U,I V,I X,B v10,I v11,I v12,I D]=
 cond (decide (G<Y)) (cond (decide (0<=G)&&decide (G<(L.length:Int))) ((Ej (AF Ae (nth [] L G.toNat))).bind λa0=>
 cond (gA a0 0 !=0) (some (1,[.vC Ag S, .vC kPt T,jA a0 0,I U,I V,I X,B v10,I v11,I v12,I D])) ((AU [jA (nth [] L G.toNat) 0]).bind λa1=>
 cond (!bA a1 0) (some (0,[.vC Ag S, .vC kPt T, .vC Ae M,I N, .vC Ae L,I Y,I (O (G+1)),I U,I V,I X,B v10,I v11,I v12,I D])) (cond (decide (N>=0)) (cond (decide (0<=N)&&decide (N<(M.length:Int))) (cond (!(gA (nth [] M N.toNat) 5==gA (nth [] L G.toNat) 2&&(gA (nth [] M N.toNat) 6==gA (nth [] L G.toNat) 3&&(gA (nth [] M N.toNat) 7==gA (nth [] L G.toNat) 4&&true)))) (some (1,[.vC Ag S, .vC kPt T,I 13,I U,I V,I X,B v10,I v11,I v12,I D])) (some (0,[.vC Ag S, .vC kPt T, .vC Ae M,I G, .vC Ae L,I Y,I (O (G+1)),I U,I V,I X,B v10,I v11,I v12,I D]))) (none)) (some (0,[.vC Ag S, .vC kPt T, .vC Ae M,I G, .vC Ae L,I Y,I (O (G+1)),I U,I V,I X,B v10,I v11,I v12,I D]))))) (none)) (some (2,[.vC Ag S, .vC kPt T, .vC Ae M,I U,I V,I X,B v10,I v11,I v12,I D])):=by kernel_rfl
abbrev RC (U:Fn) (V X S:Rw) (N Y v8 v9:Int) (v10:Bool) (v11:Int) (L:AC) (T:Int) (Cb:Fn) (v4:Rw) (v5:Int) (M:AC):Option (Nat×List AC):=
 (U [.vC Ag V, .vC kPt X, .vC Ae S,I N,M,I Y,I v8,I v9,B v10,I v11,L,I T]).bind λD=>
 cond (!bA D 2) (some (1,[.vC Ag (wA D 0), .vC kPt (wA D 1),I 10,jA D 3,jA D 4,jA D 5,B (bA D 6),jA D 7,jA D 8,jA D 9])) ((Cb [.vC Ag (wA D 0), .vC kPt (wA D 1), .vC Ae S,I N,jA D 3,jA D 4,jA D 5,B (bA D 6),jA D 7,jA D 8,jA D 9]).bind λG=>
 some (0,[.vC Ag (wA G 0), .vC kPt (wA G 1), .vC Ae S,I N, .vC Ae v4,I v5,I (O (N+1)),jA G 2,jA G 3,jA G 4,B (bA G 5),jA G 6,jA G 7,jA G 8]))
abbrev Qz (AU:Fn) (S:Rw) (M T:Int) (BW:Fn) (N:Rw) (Cj:Fn) (U V:Rw) (X Y v9:Int) (v10:Bool) (v11 L:Int) (Cb:Fn) (v5:Int) (Bw:Fn) (G:AC):Option (Nat×List AC):=
 (AU [jA (nth [] S M.toNat) 0]).bind λa0=>
 cond (bA a0 0) (cond (decide (T>=0)) ((BW [.vC Ae N,I T]).bind λa1=>
 cond (!bA a1 0) (RC Cj U V N M X Y v9 v10 v11 G L Cb S v5 (I (-1))) ((Bw [.vC Ae N,I T]).bind λa2=>
 cond (gA a2 0 !=M) (RC Cj U V N M X Y v9 v10 v11 G L Cb S v5 (I (-1))) (RC Cj U V N M X Y v9 v10 v11 G L Cb S v5 (I T)))) (RC Cj U V N M X Y v9 v10 v11 G L Cb S v5 (I T))) ((Cb [.vC Ag U, .vC kPt V, .vC Ae N,I M,I X,I Y,I v9,B v10,I v11,G,I L]).bind λD=>
 some (0,[.vC Ag (wA D 0), .vC kPt (wA D 1), .vC Ae N,I T, .vC Ae S,I v5,I (O (M+1)),jA D 2,jA D 3,jA D 4,B (bA D 5),jA D 6,jA D 7,jA D 8]))
theorem Zeg (V X Y BW AU Ej:Fn) (N6:Lp) (M N v2:Rw) (v3:Int) (L:Rw) (O D S T U:Int) (v10:Bool) (v11 v12 G:Int):Qs V X Y BW AU Ej N6 [.vC Ag M, .vC kPt N, .vC Ae v2,I v3, .vC Ae L,I O,I D,I S,I T,I U,B v10,I v11,I v12,I G]=
 cond (decide (D<O)) (cond (decide (0<=D)&&decide (D<(L.length:Int))) (cond (gA (nth [] L D.toNat) 0==8) (cond (gA (nth [] L D.toNat) 19==3) (Qz AU L D v3 BW v2 X M N S T U v10 v11 G V O Y (jA (nth [] L D.toNat) 20)) (cond (gA (nth [] L D.toNat) 19==4) (Qz AU L D v3 BW v2 X M N S T U v10 v11 G V O Y (jA (nth [] L D.toNat) 20)) (Qz AU L D v3 BW v2 X M N S T U v10 v11 G V O Y (I v12)))) (Qz AU L D v3 BW v2 X M N S T U v10 v11 G V O Y (I v12))) (none)) (some (2,[.vC Ag M, .vC kPt N,I S,I T,I U,B v10,I v11,I v12,I G])):=by kernel_rfl
theorem Z0w (O S T U V X:Fn) (N L:Lp) (M:Rw):Qn3 O S T U V X N L [.vC Ae M]=
 cond (decide ((M.length:Int)>20000)) (some [.vC Ag [], .vC kPt [],I 10,I 0,I 0,I 0,B false,I 0,I 0,I 0]) ((N [.vC Ag [], .vC kPt [], .vC Ae M,I (-1), .vC Ae M,I (M.length:Int),I 0,I 0,I 0,I 0,B false,I 0,I 0,I 0]).bind λD=>
 cond (D.1.beq 1) (some [.vC Ag (wA D.2 0), .vC kPt (wA D.2 1),jA D.2 2,jA D.2 3,jA D.2 4,jA D.2 5,B (bA D.2 6),jA D.2 7,jA D.2 8,jA D.2 9]) (cond (D.1.beq 2) ((L [.vC Ag (wA D.2 0), .vC kPt (wA D.2 1), .vC Ae (wA D.2 2),I (-1), .vC Ae (wA D.2 2),I (↑(wA D.2 2).length:Int),I 0,jA D.2 3,jA D.2 4,jA D.2 5,B (bA D.2 6),jA D.2 7,jA D.2 8,jA D.2 9]).bind λG=>
 cond (G.1.beq 1) (some [.vC Ag (wA G.2 0), .vC kPt (wA G.2 1),jA G.2 2,jA G.2 3,jA G.2 4,jA G.2 5,B (bA G.2 6),jA G.2 7,jA G.2 8,jA G.2 9]) (cond (G.1.beq 2) (some [.vC Ag (wA G.2 0), .vC kPt (wA G.2 1),I 0,jA G.2 2,jA G.2 3,jA G.2 4,B (bA G.2 5),jA G.2 6,jA G.2 7,jA G.2 8]) (none))) (none))):=by kernel_rfl
def Rz:=Al (QT Ji Ks Ft Hr DG Jq)
def Zjg:=Al (Qs Ji Ks Ft Hr DG Jq Rz)
def I3:=Qn3 Ji Ks Ft Hr DG Jq Rz Zjg
theorem Qet:Ai PG (Qeg Ji Ks Ft Hr DG Jq):=Ao rfl ⟨Zrg,Yiq,Qqf,Q0s,Tm,Ykn,trivial⟩
theorem Q6m:Ak PG (Qxj I3):=rw2 (C:=Za1 Ji Ks Ft Hr DG Jq Rz Zjg) (fl (fl fb Qet) Qet) Qet
def Zs1:=qd 149 Qc2 Zb
def Qfc (D G:Fn):Cfg:=cp [Vy D,Qxj G] [46]
def Zja:Sk:=⟨[tf [sa Ae],td,td,tf [sd 100800 0],td,tf [ci]]++dd 47,[(100800,102,[ci,ci,ci,se 100800 7,se 100801 3,sb,ci,ci,ci])],[(100800,111,Ag),(100801,130,kPt)]⟩
def Q2m:List (Ex×Sk):=[(Ex.ret,⟨[td,td,tf [ci]]++dd 50,[],[]⟩),(Ex.exit 0,⟨[td,td,td,tf [sd 100800 0]]++dd 49,[(100800,102,[ci,ci,ci,se 100800 7,se 100801 3,sb,ci,ci,ci])],[(100800,111,Ag),(100801,130,kPt)]⟩)]
def P7 (D G:Fn):Lp:=AG PG (Qfc D G) 64 5 (AH PG 149 5) Zja Q2m
def Zdz (D G:Fn) (I:Lp):Cfg:=(Qfc D G).loop 5 Zja Q2m I
def Qoa (D G:Fn) (I:Lp):Fn:=An PG (Zdz D G I) 64 149 Qc2 Zb
theorem Zee (Y Eb:Fn) (M N G:Rw) (D S T U:Int) (V:Bool) (L X v10:Int):P7 Y Eb [.vC Ag M, .vC kPt N, .vC Ae G,I D,I S,I T,I U,B V,I L,I X,I v10]=
 cond (decide (D>=0)) (cond (decide (0<=D)&&decide (D<(G.length:Int))) (cond (gA (nth [] G D.toNat) 0==10) (some (0,[.vC Ag M, .vC kPt N, .vC Ae G,I (O (D-1)),I S,I T,I U,B V,I L,I X,I v10])) (cond (decide (0<=D)&&decide (D<(G.length:Int))) ((Y (AF Ae (nth [] G D.toNat))).bind λo4=>
 cond (bA o4 0) (cond (decide (0<=D)&&decide (D<(G.length:Int))) (cond (gA (nth [] G D.toNat) 18 !=0) (some (1,[I v10])) (some (1,[I L]))) (none)) (some (1,[I L]))) (none))) (none)) (some (2,[.vC Ag M, .vC kPt N,I S,I T,I U,B V,I L,I X,I v10])):=by kernel_rfl
theorem Ze5 (N L:Fn) (M:Lp) (G:Rw):Qoa N L M [.vC Ae G]=
 (L [.vC Ae G]).bind λD=>
 cond (gA D 2 !=0) (some [I 0]) ((M [.vC Ag (wA D 0), .vC kPt (wA D 1), .vC Ae G,I (O ((G.length:Int)-1)),jA D 3,jA D 4,jA D 5,B (bA D 6),jA D 7,jA D 8,jA D 9]).bind λo6=>
 cond (o6.1.beq 1) (some [jA o6.2 0]) (cond (o6.1.beq 2) (some [jA o6.2 6]) (none))):=by kernel_rfl
def Zgp:=Al (P7 EV I3)
def NK:=Qoa EV I3 Zgp
theorem Qzx:Ai PG (Qfc EV I3):=Ao rfl ⟨TG,Q6m,trivial⟩
theorem Z3s:Ak PG (Zs1 NK):=rw2 (C:=Zdz EV I3 Zgp) (fl fb Qzx) Qzx
def Qmp:=qd 190 Qbr V_
def Qd0:Fn:=An PG Qj1 64 190 Qbr V_
theorem Zls (D G L:Int):Qd0 [I D,I G,I L]=
 cond (decide (G<=D)) (some [B (decide (D<=L))]) (some [B false]):=by kernel_rfl
def G_:=Qd0
theorem Zrm:Ai PG (Qj1):=Ao rfl trivial
theorem Qq9:Ak PG (Qmp G_):=rw1 (C:=Qj1) Zrm
def Yf7:=qd 192 Qb9 V_
def W0 (D:Fn):Cfg:=cf [Qmp D]
def Qm4 (D:Fn):Fn:=An PG (W0 D) 64 192 Qb9 V_
theorem Zpj (G:Fn) (N O S T L M U V X:Int) (Y:Rw) (D:Int):Qm4 G [I N,I O,I S,I T,I L,I M,I U,I V,I X, .vC Aa Y,I D]=
 (G [I D,I L,I M]).bind λo1=>
 some [B (bA o1 0)]:=by kernel_rfl
def HP:=Qm4 G_
theorem Z77:Ai PG (W0 G_):=Ao rfl ⟨Qq9,trivial⟩
theorem Z4a:Ak PG (Yf7 HP):=rw1 (C:=W0 G_) Z77
def Qle:Sk:=⟨[TS.v true (cc 9++[sa Aa]++cc 9++[sa Aa]++cc 9++[sa Aa]),TS.v true [ci,ci,ci,sa Ag,sa kPt]],[],[]⟩
def Zm6:=qd 148 Qle V_
def Qt1 (D:Fn):Cfg:={cf [Yf7 D]with rowDst:=[13],unroll:=[11]}
def Q6w:Sk:=⟨[td,td,tf [sd 2 0],td,td,tf [se 13 3]]++dd 9++[tf [sa Ag],tf [ci],tf [ci]]++dd 28,[(2,34,cc 9++[sa Aa]++cc 9++[sa Aa]++cc 9++[sa Aa])],[(13,42,kPt)]⟩
def Zbz:List (Ex×Sk):=[(Ex.exit 0,⟨[td,td,tf [sd 2 0],td,td,tf [se 13 3]]++dd 40,[(2,34,cc 9++[sa Aa]++cc 9++[sa Aa]++cc 9++[sa Aa])],[(13,42,kPt)]⟩)]
def QU (D:Fn):Lp:=AG PG (Qt1 D) 64 3 (AH PG 148 3) Q6w Zbz
def Q2g (D:Fn) (G:Lp):Cfg:=(Qt1 D).loop 3 Q6w Zbz G
def Zdy:Sk:=⟨[td,td,tf [sd 2 0]]++dd 24++[tf [se 13 3],tf [ci],tf [ci]]++dd 16,[(2,34,cc 9++[sa Aa]++cc 9++[sa Aa]++cc 9++[sa Aa])],[(13,42,kPt)]⟩
def Q9b:List (Ex×Sk):=[(Ex.ret,⟨[td,td,td,td,tf [sb]]++dd 41,[],[]⟩),(Ex.exit 2,⟨[td]++dd 45,[],[]⟩)]
def Vm (D:Fn) (G:Lp):Lp:=AG PG (Q2g D G) 64 8 (AH PG 148 8) Zdy Q9b
def Zdo (D:Fn) (G I:Lp):Cfg:=(Q2g D G).loop 8 Zdy Q9b I
def Qa9 (D:Fn) (G I:Lp):Fn:=An PG (Zdo D G I) 64 148 Qle V_
theorem Z21 (DS:Fn) (v0 G:Rw) (v2 D v4 v5 v6 v7 v8 v9 v10 v11 v12:Int) (L:Rw) (M N S T U V v20 v21 v22:Int) (X:Rw) (v24 v25 Y v27 v28 a0 v30 v31 a1:Int) (v33:Rw):QU DS [.vC kPt v0, .vC Ag G,I v2,I D,I v4,I v5,I v6,I v7,I v8,I v9,I v10,I v11,I v12, .vC Aa L,I M,I N,I S,I T,I U,I V,I v20,I v21,I v22, .vC Aa X,I v24,I v25,I Y,I v27,I v28,I a0,I v30,I v31,I a1, .vC Aa v33]=
 cond (decide (D<v2)) (cond (decide (0<=D)&&decide (D<(G.length:Int))) (cond (((v0++[[jA (nth [] G D.toNat) 0,jA (nth [] G D.toNat) 1,jA (nth [] G D.toNat) 2]]).length*24).ble 140737488355328) (some (0,[.vC kPt (v0++[[jA (nth [] G D.toNat) 0,jA (nth [] G D.toNat) 1,jA (nth [] G D.toNat) 2]]), .vC Ag G,I v2,I (O (D+1)),I v4,I v5,I v6,I v7,I v8,I v9,I v10,I v11,I v12, .vC Aa L,I M,I N,I S,I T,I U,I V,I v20,I v21,I v22, .vC Aa X,I v24,I v25,I Y,I v27,I v28,I a0,I v30,I v31,I a1, .vC Aa v33])) (none)) (none)) (some (1,[.vC kPt v0,I v4,I v5,I v6,I v7,I v8,I v9,I v10,I v11,I v12, .vC Aa L,I M,I N,I S,I T,I U,I V,I v20,I v21,I v22, .vC Aa X,I v24,I v25,I Y,I v27,I v28,I a0,I v30,I v31,I a1, .vC Aa v33])):=by kernel_rfl
theorem Z6l (DS:Fn) (N3:Lp) (v0:Rw) (v1 D v3 v4 v5 v6 v7 v8 v9 v10 v11:Int) (v12:Rw) (G L M N S T U v20 v21:Int) (v22:Rw) (V v24 v25 X v27 v28 Y v30 v31:Int) (a0:Rw):Vm DS N3 [.vC kPt v0,I v1,I D,I v3,I v4,I v5,I v6,I v7,I v8,I v9,I v10,I v11, .vC Aa v12,I G,I L,I M,I N,I S,I T,I U,I v20,I v21, .vC Aa v22,I V,I v24,I v25,I X,I v27,I v28,I Y,I v30,I v31, .vC Aa a0]=
 cond (decide (D<v1)) (cond (decide (0<=D)&&decide (D<(v0.length:Int))) ((DS [I v3,I v4,I v5,I v6,I v7,I v8,I v9,I v10,I v11, .vC Aa v12,jA (nth [] v0 D.toNat) 0]).bind λo6=>
 cond (!bA o6 0) (some (1,[B false])) ((DS [I G,I L,I M,I N,I S,I T,I U,I v20,I v21, .vC Aa v22,jA (nth [] v0 D.toNat) 1]).bind λo7=>
 cond (!bA o7 0) (some (1,[B false])) ((DS [I V,I v24,I v25,I X,I v27,I v28,I Y,I v30,I v31, .vC Aa a0,jA (nth [] v0 D.toNat) 2]).bind λo8=>
 cond (!bA o8 0) (some (1,[B false])) (some (0,[.vC kPt v0,I v1,I (O (D+1)),I v3,I v4,I v5,I v6,I v7,I v8,I v9,I v10,I v11, .vC Aa v12,I G,I L,I M,I N,I S,I T,I U,I v20,I v21, .vC Aa v22,I V,I v24,I v25,I X,I v27,I v28,I Y,I v30,I v31, .vC Aa a0]))))) (none)) (some (2,[])):=by kernel_rfl
theorem Z14 (DS:Fn) (N3 N8:Lp) (x0 x1 x2 x3 x4 x5 x6 x7 x8:Int) (x9:Rw) (M N O S T U V X Y:Int) (a0:Rw) (a1 a2 a3 a4 a5 a6 a7 a8 a9:Int) (b0:Rw) (b1 b2 b3:Int) (G b4:Rw):Qa9 DS N3 N8 [I x0,I x1,I x2,I x3,I x4,I x5,I x6,I x7,I x8, .vC Aa x9,I M,I N,I O,I S,I T,I U,I V,I X,I Y, .vC Aa a0,I a1,I a2,I a3,I a4,I a5,I a6,I a7,I a8,I a9, .vC Aa b0,I b1,I b2,I b3, .vC Ag G, .vC kPt b4]=
 (N3 [.vC kPt [[I b1,I b2,I b3]], .vC Ag G,I (G.length:Int),I 0,I x0,I x1,I x2,I x3,I x4,I x5,I x6,I x7,I x8, .vC Aa x9,I M,I N,I O,I S,I T,I U,I V,I X,I Y, .vC Aa a0,I a1,I a2,I a3,I a4,I a5,I a6,I a7,I a8,I a9, .vC Aa b0]).bind λD=>
 cond (D.1.beq 1) ((N8 [.vC kPt (wA D.2 0),I (↑(wA D.2 0).length:Int),I 0,jA D.2 1,jA D.2 2,jA D.2 3,jA D.2 4,jA D.2 5,jA D.2 6,jA D.2 7,jA D.2 8,jA D.2 9, .vC Aa (wA D.2 10),jA D.2 11,jA D.2 12,jA D.2 13,jA D.2 14,jA D.2 15,jA D.2 16,jA D.2 17,jA D.2 18,jA D.2 19, .vC Aa (wA D.2 20),jA D.2 21,jA D.2 22,jA D.2 23,jA D.2 24,jA D.2 25,jA D.2 26,jA D.2 27,jA D.2 28,jA D.2 29, .vC Aa (wA D.2 30)]).bind λL=>
 cond (L.1.beq 1) (some [B (bA L.2 0)]) (cond (L.1.beq 2) (some [B true]) (none))) (none):=by kernel_rfl
def Qkm:=Al (QU HP)
def Q9c:=Al (Vm HP Qkm)
def QA:=Qa9 HP Qkm Q9c
theorem Qi0:Ai PG (Qt1 HP):=Ao rfl ⟨Z4a,trivial⟩
theorem Ydl:Ak PG (Zm6 QA):=rw2 (C:=Zdo HP Qkm Q9c) (fl (fl fb Qi0) Qi0) Qi0
def Zj9:=qd 15 Qc2 Qh1
def Qhp (D:Fn):Cfg:=cp [Qxj D] [46]
def Qk2 (D:Fn):Fn:=An PG (Qhp D) 64 15 Qc2 Qh1
theorem Z3o (D:Fn) (G:Rw):Qk2 D [.vC Ae G]=
 (D [.vC Ae G]).bind λo1=>
 cond (gA o1 2 !=0) (some [I 0,I 0,I 0, .vC Ag [], .vC kPt [],jA o1 2]) (some [jA o1 3,jA o1 4,jA o1 5, .vC Ag (wA o1 0), .vC kPt (wA o1 1),I 0]):=by kernel_rfl
def NI:=Qk2 I3
theorem Z4p:Ai PG (Qhp I3):=Ao rfl ⟨Q6m,trivial⟩
theorem Zt2:Ak PG (Zj9 NI):=rw1 (C:=Qhp I3) Z4p
def Qpd:Sk:=⟨[tf [sd 20000 0],tf [sa Ae],tf [sb]],[(20000,179,cS)],[]⟩
def Zyz:=qd 97 Qpd Qpc
def Qhg (D G I L:Fn):Cfg:={cf [Zs1 D,Ze0 G,Zm6 I,Zj9 L]with fstore:=true}
def Q4 (D G I L:Fn):Fn:=An PG (Qhg D G I L) 64 97 Qpd Qpc
theorem Zok (G L M N:Fn) (D:Rw) (O:Bool) (K:Kf) (c:Cv):Q4 G L M N (.vC Ae D::B O::Aj K c)=
 (N [.vC Ae D]).bind λo4=>
 cond (gA o4 5 !=0) (some (jA o4 5::Aj K c)) ((M (AK K.x++[jA o4 0,jA o4 1,jA o4 2, .vC Ag (wA o4 3), .vC kPt (wA o4 4)])).bind λS=>
 cond (!bA S 0) (some (I 17::Aj K c)) (cond ((D.length*176).ble 140737488355328) ((L [jA o4 0,jA o4 1,jA o4 2, .vC Ag (wA o4 3), .vC kPt (wA o4 4)]).bind λo6=>
 (G [.vC Ae D]).bind λT=>
 some (I 0::E1 (Aj K c) [(35, .vC Ae D),(36,B O),(37,jA o4 0),(38,jA o4 1),(39,jA o4 2),(40, .vC Ag (wA o4 3)),(41, .vC kPt (wA o4 4)),(42,jA o6 0),(43,jA T 0)])) (none))):=by kernel_rfl
def Ur:=Q4 NK JL QA NI
theorem Zt5:Ai PG (Qhg NK JL QA NI):=Ao rfl ⟨Z3s,Zcc,Ydl,Zt2,trivial⟩
theorem Zz2:Ak PG (Zyz Ur):=rw1 (C:=Qhg NK JL QA NI) Zt5
def Z44:=qd 95 Qbq Qru
def Qit:Fn:=An PG Qj1 64 95 Qbq Qru
theorem Ydb:Qit []=
 some [I 100,I 100,B false,B false,B false]:=by kernel_rfl
def QM:=Qit
theorem Zw5:Ai PG (Qj1):=Ao rfl trivial
theorem Z8l:Ak PG (Z44 QM):=rw1 (C:=Qj1) Zw5
def Xa:Sk:=⟨[TS.v true (cc 9++[sa Aa]++cc 9++[sa Aa]++cc 9++[sa Aa]++cc 5)],[],[]⟩
def Zud:=qd 94 Xa Xa
def YQ:Cfg:={cf []with fstore:=true,unroll:=[2]}
def Qdo:Fn:=An PG YQ 64 94 Xa Xa
theorem Zki (x0 x1 x2 x3 x4 x5 x6 x7 x8:Int) (x9:Rw) (L M N O S T U V X:Int) (D:Rw) (Y a0 a1 a2 a3 a4 a5 a6 a7:Int) (G:Rw) (a8 a9 b0 b1 b2:Int):Qdo [I x0,I x1,I x2,I x3,I x4,I x5,I x6,I x7,I x8, .vC Aa x9,I L,I M,I N,I O,I S,I T,I U,I V,I X, .vC Aa D,I Y,I a0,I a1,I a2,I a3,I a4,I a5,I a6,I a7, .vC Aa G,I a8,I a9,I b0,I b1,I b2]=
 cond ((x9.length*8).ble 140737488355328) (cond ((D.length*8).ble 140737488355328) (cond ((G.length*8).ble 140737488355328) (some [I x0,I x1,I x2,I x3,I x4,I x5,I x6,I x7,I x8, .vC Aa x9,I L,I M,I N,I O,I S,I T,I U,I V,I X, .vC Aa D,I Y,I a0,I a1,I a2,I a3,I a4,I a5,I a6,I a7, .vC Aa G,I a8,I a9,I b0,I b1,I b2]) (none)) (none)) (none):=by kernel_rfl
def QO:=Qdo
theorem Ybu:Ai PG (YQ):=Ao rfl trivial
theorem Zo6:Ak PG (Zud QO):=rw1 (C:=YQ) Ybu
def Qko:Sk:=⟨[TS.v true (cc 9++[sa Aa])],[],[]⟩
def Zqq:=qd 191 Qko V_
def Qqm (D:Fn):Cfg:=cf [Qmp D]
def Zdk:Sk:=⟨[td,tf [sd 1 0]]++dd 24++[tf [sa Aa],tf [ci],tf [ci]]++dd 29,[(1,33,cc 9++[sa Aa])],[]⟩
def Zce:List (Ex×Sk):=[(Ex.ret,⟨[td,td,tf [sb]]++dd 55,[],[]⟩),(Ex.exit 0,⟨[td]++dd 57,[],[]⟩)]
def Qbz (D:Fn):Lp:=AG PG (Qqm D) 64 6 (AH PG 191 6) Zdk Zce
def Q47 (D:Fn) (G:Lp):Cfg:=(Qqm D).loop 6 Zdk Zce G
def Qbf (D:Fn) (G:Lp):Fn:=An PG (Q47 D G) 64 191 Qko V_
theorem Zvz (M:Fn) (G:Rw) (L D N S T U V X Y v10 v11:Int) (v12:Rw):Qbz M [.vC Aa G,I L,I D,I N,I S,I T,I U,I V,I X,I Y,I v10,I v11, .vC Aa v12]=
 cond (decide (D<L)) (cond (decide (0<=D)&&decide (D<(G.length:Int))) ((M [jA (nth [] G D.toNat) 0,I (-4096),I 4096]).bind λo7=>
 cond (!bA o7 0) (some (1,[B false])) (cond (decide (D>0)) (cond (decide (0<=O (D-1))&&decide (O (D-1)<(v12.length:Int))) ((M [I (O (gA (nth [] G D.toNat) 0-gA (nth [] v12 (O (D-1)).toNat) 0)),I (O (0-O (v11.tdiv 4))),I (O (v11.tdiv 4))]).bind λo8=>
 cond (!bA o8 0) (some (1,[B false])) (some (0,[.vC Aa G,I L,I (O (D+1)),I N,I S,I T,I U,I V,I X,I Y,I v10,I v11, .vC Aa v12]))) (none)) (some (0,[.vC Aa G,I L,I (O (D+1)),I N,I S,I T,I U,I V,I X,I Y,I v10,I v11, .vC Aa v12])))) (none)) (some (2,[])):=by kernel_rfl
theorem Zr4 (L:Fn) (S:Lp) (T U V X Y x5 x6 M N:Int) (G:Rw):Qbf L S [I T,I U,I V,I X,I Y,I x5,I x6,I M,I N, .vC Aa G]=
 cond ((G.length:Int)==0) (some [B true]) (cond (decide ((G.length:Int)>64)) (some [B false]) ((L [I M,I (-16777216),I 16777216]).bind λo9=>
 cond (!bA o9 0) (some [B false]) ((L [I N,I 4,I 16777216]).bind λO=>
 cond (!bA O 0) (some [B false]) ((S [.vC Aa G,I (G.length:Int),I 0,I T,I U,I V,I X,I Y,I x5,I x6,I M,I N, .vC Aa G]).bind λD=>
 cond (D.1.beq 1) (some [B (bA D.2 0)]) (cond (D.1.beq 2) (some [B true]) (none)))))):=by kernel_rfl
def Qyb:=Al (Qbz G_)
def QV:=Qbf G_ Qyb
theorem Zhw:Ai PG (Qqm G_):=Ao rfl ⟨Qq9,trivial⟩
theorem Zyo:Ak PG (Zqq QV):=rw2 (C:=Q47 G_ Qyb) (fl fb Zhw) Zhw
def Yj2:=qd 145 Qko V_
def Qsw (D G:Fn):Cfg:=cf [Zqq D,Qmp G]
def Qg4 (D G:Fn):Fn:=An PG (Qsw D G) 64 145 Qko V_
theorem Yh6 (Y L:Fn) (M N O S D G T x7 x8:Int) (x9:Rw):Qg4 Y L [I M,I N,I O,I S,I D,I G,I T,I x7,I x8, .vC Aa x9]=
 (L [I M,I 4,I 4096]).bind λo6=>
 cond (bA o6 0) ((L [I N,I 1,I 1048576]).bind λo7=>
 cond (bA o7 0) ((L [I O,I 2,I 1048576]).bind λo8=>
 cond (bA o8 0) ((L [I S,I 4,I 1048576]).bind λU=>
 cond (decide (D>= -16777216)) (cond (decide (G<=16777216)) (cond (bA U 0) (cond (decide (D<=G)) ((L [I T,I 0,I 64]).bind λV=>
 cond (bA V 0) ((Y [I M,I N,I O,I S,I D,I G,I T,I x7,I x8, .vC Aa x9]).bind λX=>
 some [B (bA X 0)]) (some [B false])) (some [B false])) (some [B false])) (cond (bA U 0) (some [B false]) (some [B false]))) (cond (bA U 0) (some [B false]) (some [B false]))) (cond (decide (D>= -16777216)) (cond (decide (G<=16777216)) (some [B false]) (some [B false])) (some [B false]))) (cond (decide (D>= -16777216)) (cond (decide (G<=16777216)) (some [B false]) (some [B false])) (some [B false]))) (cond (decide (D>= -16777216)) (cond (decide (G<=16777216)) (some [B false]) (some [B false])) (some [B false])):=by kernel_rfl
def Q8:=Qg4 QV G_
theorem Zy8:Ai PG (Qsw QV G_):=Ao rfl ⟨Zyo,Qq9,trivial⟩
theorem Yay:Ak PG (Yj2 Q8):=rw1 (C:=Qsw QV G_) Zy8
def Ydu:=qd 93 Xa V_
def Qap (D G I:Fn):Cfg:={cf [Z5h D,Zw G,Yj2 I]with unroll:=[2]}
def W7 (D G I:Fn):Fn:=An PG (Qap D G I) 64 93 Xa V_
theorem Z8x (PZ BO Kn:Fn) (x0 x1 x2 x3 x4 x5 x6 x7 x8:Int) (x9:Rw) (L M N O S T U V X:Int) (Y:Rw) (a0 a1 a2 a3 a4 a5 a6 a7 a8:Int) (a9:Rw) (b0 b1 b2 D G:Int):W7 PZ BO Kn [I x0,I x1,I x2,I x3,I x4,I x5,I x6,I x7,I x8, .vC Aa x9,I L,I M,I N,I O,I S,I T,I U,I V,I X, .vC Aa Y,I a0,I a1,I a2,I a3,I a4,I a5,I a6,I a7,I a8, .vC Aa a9,I b0,I b1,I b2,I D,I G]=
 (Kn [I x0,I x1,I x2,I x3,I x4,I x5,I x6,I x7,I x8, .vC Aa x9]).bind λo5=>
 cond (!bA o5 0) (some [B false]) ((Kn [I L,I M,I N,I O,I S,I T,I U,I V,I X, .vC Aa Y]).bind λo6=>
 cond (!bA o6 0) (some [B false]) ((Kn [I a0,I a1,I a2,I a3,I a4,I a5,I a6,I a7,I a8, .vC Aa a9]).bind λo7=>
 cond (!bA o7 0) (some [B false]) ((BO [I b0,I b1,I b2]).bind λo8=>
 cond (bA o8 0) (cond (decide (D>=1)) ((PZ [I 30000]).bind λo9=>
 cond (decide (D<=gA o9 0)) (cond (decide (G>=0)) (some [B (decide (G<=1048576))]) (some [B false])) (some [B false])) (some [B false])) (some [B false])))):=by kernel_rfl
def RO:=W7 RM Fs Q8
theorem Zo4:Ai PG (Qap RM Fs Q8):=Ao rfl ⟨Yac,Qsh,Yay,trivial⟩
theorem Zn6:Ak PG (Ydu RO):=rw1 (C:=Qap RM Fs Q8) Zo4
def Qk4:Sk:=⟨[TS.v true (cc 9++[sa Aa]++cc 9++[sa Aa]++cc 9++[sa Aa]++cc 5),tf [sa Ae],tf [sb]],[],[]⟩
def WE:Sk:=⟨[TS.tup [(false,[sd 19 0]),(false,[ci])]],[(19,179,cS)],[]⟩
def Zxm:=qd 54 Qk4 WE
def Qhi (D G I L M N Pi:Fn):Cfg:={cp [Zbn D,Zpd G,Zyz I,Qwg L,Z44 M,Zud N,Ydu Pi] [97]with fstore:=true}
def Tr (D G I L M N Pi:Fn):Fn:=An PG (Qhi D G I L M N Pi) 64 54 Qk4 WE
theorem Zk1 (F9 N_ PX Gp PO PS Pi:Fn) (x0 x1 x2 x3 x4 x5 x6 x7 x8:Int) (x9:Rw) (M N O S T U V X Y:Int) (a0:Rw) (a1 a2 a3 a4 a5 a6 a7 a8 a9:Int) (b0:Rw) (b1 b2 b3 b4 b5:Int) (b7:Rw) (b8:Bool):Tr F9 N_ PX Gp PO PS Pi [I x0,I x1,I x2,I x3,I x4,I x5,I x6,I x7,I x8, .vC Aa x9,I M,I N,I O,I S,I T,I U,I V,I X,I Y, .vC Aa a0,I a1,I a2,I a3,I a4,I a5,I a6,I a7,I a8,I a9, .vC Aa b0,I b1,I b2,I b3,I b4,I b5, .vC Ae b7,B b8]=
 (Pi [I x0,I x1,I x2,I x3,I x4,I x5,I x6,I x7,I x8, .vC Aa x9,I M,I N,I O,I S,I T,I U,I V,I X,I Y, .vC Aa a0,I a1,I a2,I a3,I a4,I a5,I a6,I a7,I a8,I a9, .vC Aa b0,I b1,I b2,I b3,I b4,I b5]).bind λo7=>
 cond (!bA o7 0) (none) ((PS [I x0,I x1,I x2,I x3,I x4,I x5,I x6,I x7,I x8, .vC Aa x9,I M,I N,I O,I S,I T,I U,I V,I X,I Y, .vC Aa a0,I a1,I a2,I a3,I a4,I a5,I a6,I a7,I a8,I a9, .vC Aa b0,I b1,I b2,I b3,I b4,I b5]).bind λo8=>
 (PO []).bind λo9=>
 (Gp []).bind λb6=>
 (PX [.vC Ae b7,B b8,jA o8 0,jA o8 1,jA o8 2,jA o8 3,jA o8 4,jA o8 5,jA o8 6,jA o8 7,jA o8 8, .vC Aa (wA o8 9),jA o8 10,jA o8 11,jA o8 12,jA o8 13,jA o8 14,jA o8 15,jA o8 16,jA o8 17,jA o8 18, .vC Aa (wA o8 19),jA o8 20,jA o8 21,jA o8 22,jA o8 23,jA o8 24,jA o8 25,jA o8 26,jA o8 27,jA o8 28, .vC Aa (wA o8 29),jA o8 30,jA o8 31,jA o8 32,jA o8 33,jA o8 34, .vC Ae [],B false,I 0,I 0,I 0, .vC Ag [], .vC kPt [],I 0,I 0, .vC Ap [],I 0,I 0,I 0,I 0,I 0,I 0,I 0,I 0,I 0,I 0,I 0,jA o9 0,jA o9 1,B (bA o9 2),B (bA o9 3),B (bA o9 4),jA b6 0,jA b6 1,jA b6 2,I 1,I 0,I 0,I 0,I 0,I 0,I 0,I 0,I 0,B false,I 0,B false,I 0,B false,I 0,I (-1),I 0,I 0,I 0,I 0,I 0,I 0,I 0,B false,B false,B false]).bind λD=>
 cond (gA D 0 !=0) (none) ((N_ [jA D 38,jA D 39,jA D 40, .vC Ag (wA D 41), .vC kPt (wA D 42),jA D 1,jA D 2,jA D 3,jA D 4,jA D 5,jA D 6,jA D 7,jA D 8,jA D 9, .vC Aa (wA D 10),jA D 11,jA D 12,jA D 13,jA D 14,jA D 15,jA D 16,jA D 17,jA D 18,jA D 19, .vC Aa (wA D 20),jA D 21,jA D 22,jA D 23,jA D 24,jA D 25,jA D 26,jA D 27,jA D 28,jA D 29, .vC Aa (wA D 30),I 1,I 1,I 1,I 0,jA D 43]).bind λG=>
 (F9 [I 0]).bind λL=>
 some (I 0::E1 (cR 1 D) [(44, .vC Ap (wA G 0)),(45,jA G 1),(46,jA G 2),(47,jA G 3),(48,jA G 4),(49,jA G 5),(50,jA L 0),(51,jA L 1),(52,jA L 2),(53,jA L 3),(54,jA L 4),(55,jA L 5)]))):=by kernel_rfl
def I4:=Tr JC Qf Ur J7 QM QO RO
theorem Zru:Ai PG (Qhi JC Qf Ur J7 QM QO RO):=Ao rfl ⟨Qwr,Zle,Zz2,Q19,Z8l,Zo6,Zn6,trivial⟩
theorem Ygy:Ak PG (Zxm I4):=rw1 (C:=Qhi JC Qf Ur J7 QM QO RO) Zru
def Zoj:=qd 53 Qqn V_
def Zf8:Sk:=⟨[td,td,td,tf [ci],td,td,td,td,td,tf [sa kPt],tf [ci],tf [ci]]++dd 35,[],[]⟩
def Qxp:List (Ex×Sk):=[(Ex.ret,⟨[td,td,tf [sb]]++dd 44,[],[]⟩),(Ex.exit 0,⟨[td]++dd 46,[],[]⟩)]
def Ni:Lp:=AG PG Qj1 64 5 (AH PG 53 5) Zf8 Qxp
def Zfh (D:Lp):Cfg:=Qj1.loop 5 Zf8 Qxp D
def Qqe (D:Lp):Fn:=An PG (Zfh D) 64 53 Qqn V_
theorem Zhz (M:Int) (G:Rw) (L D:Int):Ni [I M, .vC kPt G,I L,I D]=
 cond (decide (D<L)) (cond (decide (0<=D)&&decide (D<(G.length:Int))) (cond (decide (gA (nth [] G D.toNat) 0<M)) (some (1,[B false])) (cond (decide (gA (nth [] G D.toNat) 0>1073741824)) (some (1,[B false])) (cond (decide (gA (nth [] G D.toNat) 1<1)) (some (1,[B false])) (cond (decide (gA (nth [] G D.toNat) 1>13)) (some (1,[B false])) (cond (decide (gA (nth [] G D.toNat) 2< -1073741824)) (some (1,[B false])) (cond (decide (gA (nth [] G D.toNat) 2>1073741824)) (some (1,[B false])) (some (0,[jA (nth [] G D.toNat) 0, .vC kPt G,I L,I (O (D+1))])))))))) (none)) (some (2,[])):=by kernel_rfl
theorem Z6b (G:Lp) (D:Rw):Qqe G [.vC kPt D]=
 cond (decide ((D.length:Int)>2000)) (some [B false]) ((G [I 0, .vC kPt D,I (D.length:Int),I 0]).bind λo1=>
 cond (o1.1.beq 1) (some [B (bA o1.2 0)]) (cond (o1.1.beq 2) (some [B true]) (none))):=by kernel_rfl
def Q7x:=Al (Ni)
def Pr:=Qqe Q7x
theorem Qvx:Ai PG (Qj1):=Ao rfl trivial
theorem Yb6:Ak PG (Zoj Pr):=rw2 (C:=Zfh Q7x) (fl fb Qvx) Qvx
def WA:Sk:=⟨[TS.v true (cc 9++[sa Aa]++cc 9++[sa Aa]++cc 9++[sa Aa]++cc 5),tf [sa Ae],tf [sa kPt],tf [ci]],[],[]⟩
def Qpw:Sk:=⟨[TS.tup [(false,[sa [Kd.sl kPt,Kd.sl Aa,kI,kI,kI,kI,kI,kI,kI]]),(false,[ci])]],[],[]⟩
def Zaf:=qd 18 WA Qpw
def Qc7 (D Hs G I:Fn):Cfg:={cp [Yki D,Zz4 Hs,Zxm G,Zoj I] [55,54]with prom:=λb=>cond (Nat.beq b 8) ([(12,61)]) ([])}
def Zic:Sk:=⟨[td,td,tf [sa kPt],tf [ci]]++dd 6++[tf [sd 102500 0],td,tf [se 12 9],tf [ci]]++dd 40,[(102500,179,cS)],[(12,61,[Kd.sl kPt,Kd.sl Aa,kI,kI,kI,kI,kI,kI,kI])]⟩
def Q2u:List (Ex×Sk):=[(Ex.exit 0,⟨dd 12++[tf [se 12 9]]++dd 41,[],[(12,61,[Kd.sl kPt,Kd.sl Aa,kI,kI,kI,kI,kI,kI,kI])]⟩)]
def O5 (D Hs G I:Fn):Lp:=AG PG (Qc7 D Hs G I) 64 8 (AH PG 18 8) Zic Q2u
def Zi0 (D Hs G I:Fn) (L:Lp):Cfg:=(Qc7 D Hs G I).loop 8 Zic Q2u L
def Qmt (D Hs G I:Fn) (L:Lp):Fn:=An PG (Zi0 D Hs G I L) 64 18 WA Qpw
theorem Zdp (T Hs U V:Fn) (G M:Rw) (N L:Int) (K:Kf) (c:Cv):O5 T Hs U V (.vC [Kd.sl kPt,Kd.sl Aa,kI,kI,kI,kI,kI,kI,kI] G:: .vC kPt M::I N::I L::Aj K c)=
 cond (decide (L<N)) ((Hs [.vC kPt M,I L]).bind λS=>
 (T (.vC kPt (wA S 0)::Aj K c)).bind λD=>
 cond (((G++[[.vC (Aa++(Aa++(Aa++[]))) (wA D 0), .vC Aa (wA D 1),jA D 2,jA D 3,jA D 4,jA D 5,jA D 6,jA D 7,jA D 8]]).length*104).ble 140737488355328) (cond (gA D 2==7) (some (1,[.vC [Kd.sl kPt,Kd.sl Aa,kI,kI,kI,kI,kI,kI,kI] (G++[[.vC (Aa++(Aa++(Aa++[]))) (wA D 0), .vC Aa (wA D 1),jA D 2,jA D 3,jA D 4,jA D 5,jA D 6,jA D 7,jA D 8]])])) (cond (gA D 2==8) (some (1,[.vC [Kd.sl kPt,Kd.sl Aa,kI,kI,kI,kI,kI,kI,kI] (G++[[.vC (Aa++(Aa++(Aa++[]))) (wA D 0), .vC Aa (wA D 1),jA D 2,jA D 3,jA D 4,jA D 5,jA D 6,jA D 7,jA D 8]])])) (some (0,(.vC [Kd.sl kPt,Kd.sl Aa,kI,kI,kI,kI,kI,kI,kI] (G++[[.vC (Aa++(Aa++(Aa++[]))) (wA D 0), .vC Aa (wA D 1),jA D 2,jA D 3,jA D 4,jA D 5,jA D 6,jA D 7,jA D 8]]):: .vC kPt M::I N::I (O (L+1))::cR 9 D))))) (none)) (some (1,[.vC [Kd.sl kPt,Kd.sl Aa,kI,kI,kI,kI,kI,kI,kI] G])):=by kernel_rfl
theorem Zxp (Hw Hs G7 Hi:Fn) (N8:Lp) (x0 x1 x2 x3 x4 x5 x6 x7 x8:Int) (x9:Rw) (M N O S T U V X Y:Int) (a0:Rw) (a1 a2 a3 a4 a5 a6 a7 a8 a9:Int) (b0:Rw) (b1 b2 b3 b4 b5:Int) (b6 D:Rw) (G:Int):Qmt Hw Hs G7 Hi N8 [I x0,I x1,I x2,I x3,I x4,I x5,I x6,I x7,I x8, .vC Aa x9,I M,I N,I O,I S,I T,I U,I V,I X,I Y, .vC Aa a0,I a1,I a2,I a3,I a4,I a5,I a6,I a7,I a8,I a9, .vC Aa b0,I b1,I b2,I b3,I b4,I b5, .vC Ae b6, .vC kPt D,I G]=
 (Hi [.vC kPt D]).bind λb8=>
 cond (!bA b8 0) (some [.vC [Kd.sl kPt,Kd.sl Aa,kI,kI,kI,kI,kI,kI,kI] [],I 1]) (cond (decide (G>1073741824)) (some [.vC [Kd.sl kPt,Kd.sl Aa,kI,kI,kI,kI,kI,kI,kI] [],I 1]) ((G7 [I x0,I x1,I x2,I x3,I x4,I x5,I x6,I x7,I x8, .vC Aa x9,I M,I N,I O,I S,I T,I U,I V,I X,I Y, .vC Aa a0,I a1,I a2,I a3,I a4,I a5,I a6,I a7,I a8,I a9, .vC Aa b0,I b1,I b2,I b3,I b4,I b5, .vC Ae b6,B true]).bind λL=>
 cond (gA L 0 !=0) (some [.vC [Kd.sl kPt,Kd.sl Aa,kI,kI,kI,kI,kI,kI,kI] [],jA L 0]) ((N8 (.vC [Kd.sl kPt,Kd.sl Aa,kI,kI,kI,kI,kI,kI,kI] []:: .vC kPt D::I G::I 0::cR 1 L)).bind λb7=>
 cond (b7.1.beq 1) (some [.vC [Kd.sl kPt,Kd.sl Aa,kI,kI,kI,kI,kI,kI,kI] (wA b7.2 0),I 0]) (none)))):=by kernel_rfl
def Zco:=Al (O5 I7 PH I4 Pr)
def K1:=Qmt I7 PH I4 Pr Zco
theorem Q7k:Ai PG (Qc7 I7 PH I4 Pr):=Ao rfl ⟨Yav,Z6c,Ygy,Yb6,trivial⟩
theorem Qx2:Ak PG (Zaf K1):=rw2 (C:=Zi0 I7 PH I4 Pr Zco) (fl fb Q7k) Q7k
def Q1x:=qd 12 ZJ Zb
def Qwy:Fn:=An PG Qj1 64 12 ZJ Zb
theorem Z1k (G D:Int):Qwy [I G,I D]=
 cond (decide (D=0)) (none) (cond (decide (D=0)) (none) (some [I ((O (G.tmod D+D)).tmod D)])):=by kernel_rfl
def HD:=Qwy
theorem Z7q:Ai PG (Qj1):=Ao rfl trivial
theorem Qxu:Ak PG (Q1x HD):=rw1 (C:=Qj1) Z7q
def WS:Sk:=⟨[tf [sd 20000 0],tf [ci]],[(20000,95,[sa Aa,ci])],[]⟩
def Qu6:Sk:=⟨[tf [ci]],[(20000,95,[sa Aa,ci])],[]⟩
def PP:=qd 41 WS Qu6
def Qhs (D:Fn):Cfg:=cf [Q1x D]
def Qrq (D:Fn):Fn:=An PG (Qhs D) 64 41 WS Qu6
theorem Z6k (L:Fn) (M:Int) (G:Rw) (D:Int):Qrq L [I M, .vC Aa G,I D]=
 cond (decide (D>=(G.length:Int))) (some [I 0, .vC Aa G,I D]) (cond (decide (0<=D)&&decide (D<(G.length:Int))) ((L [jA (nth [] G D.toNat) 0,I M]).bind λo1=>
 some [jA o1 0, .vC Aa G,I (O (D+1))]) (none)):=by kernel_rfl
def Dd:=Qrq HD
theorem Zql:Ai PG (Qhs HD):=Ao rfl ⟨Qxu,trivial⟩
theorem NO:Ak PG (PP Dd):=rw1 (C:=Qhs HD) Zql
def Qoj:Sk:=⟨[tf [sd 5 0]],[(5,95,[sa Aa,ci])],[]⟩
def U3:=qd 40 Qjj Qoj
def Zde:Fn:=An PG Qj1 64 40 Qjj Qoj
theorem Zx8 (D:Rw):Zde [.vC Aa D]=
 some [.vC Aa D,I 0]:=by kernel_rfl
def DO:=Zde
theorem Z3n:Ai PG (Qj1):=Ao rfl trivial
theorem UG:Ak PG (U3 DO):=rw1 (C:=Qj1) Z3n
def Zko:=qd 45 Qjj Quw
def Qgw (D G:Fn):Cfg:=cp [PP D,U3 G] [41,40]
def Wa (D G:Fn):Fn:=An PG (Qgw D G) 64 45 Qjj Quw
theorem Z76 (D L:Fn) (M:Rw):Wa D L [.vC Aa M]=
 (L [.vC Aa M]).bind λo4=>
 (D [I 900, .vC Aa (wA o4 0),jA o4 1]).bind λG=>
 (D [I 200, .vC Aa (wA G 1),jA G 2]).bind λo6=>
 (D [I 16000, .vC Aa (wA o6 1),jA o6 2]).bind λN=>
 some [I (O (1+gA G 0)),I (O (2+gA o6 0)),I (O (1+gA N 0))]:=by kernel_rfl
def Sc:=Wa Dd DO
theorem Zj8:Ai PG (Qgw Dd DO):=Ao rfl ⟨NO,UG,trivial⟩
theorem Z42:Ak PG (Zko Sc):=rw1 (C:=Qgw Dd DO) Zj8
def XQ:Sk:=⟨[tf [sd 20000 0]],[(20000,95,[sa Aa,ci])],[]⟩
def WQ:Sk:=⟨[TS.v true (cc 9++[sa Aa])],[(20000,95,[sa Aa,ci])],[]⟩
def Zsg:=qd 86 XQ WQ
def YI (D:Fn):Cfg:={spec:=FX [PP D],eqOk:=Jc,pure:=λf=> !(AM [41] f),ownOff:=Q5y}
def Qwt:Sk:=⟨[tf [sd 20000 0],td,tf [sd 2 0],tf [sd 3 0],tf [ci],tf [ci],tf [ci]]++dd 72,[(2,33,cc 9++[se 1002009 1]),(3,33,cc 9++[se 1003009 1]),(20000,95,[sa Aa,ci])],[(1002009,3,Aa),(1003009,3,Aa)]⟩
def Q52:List (Ex×Sk):=[(Ex.exit 0,⟨[td,td,tf [sd 2 0],tf [sd 3 0]]++dd 75,[(2,33,cc 9++[se 1002009 1]),(3,33,cc 9++[se 1003009 1]),(20000,95,[sa Aa,ci])],[(1002009,3,Aa),(1003009,3,Aa)]⟩)]
def SJ (D:Fn):Lp:=AG PG (YI D) 64 11 (AH PG 86 11) Qwt Q52
def Qws (G:Fn) (D:Lp):Cfg:=(YI G).loop 11 Qwt Q52 D
def Wo (G:Fn) (D:Lp):Fn:=An PG (Qws G D) 64 86 XQ WQ
theorem Zc3 (Ay:Fn) (v0 X:Rw) (v2 Y v4 v5 v6 v7 v8 v9 v10 v11 v12 D G L M N S T v20 v21 v22:Int) (U:Rw) (v24:Int):SJ Ay [.vC Aa v0, .vC Aa X,I v2,I Y,I v4,I v5,I v6,I v7,I v8,I v9,I v10,I v11,I v12,I D,I G,I L,I M,I N,I S,I T,I v20,I v21,I v22, .vC Aa U,I v24]=
 cond (decide (v4<v2)) (cond (((X++[[I Y]]).length*8).ble 140737488355328) ((Ay [I (O (O (2*O (v22.tdiv 4))+1)), .vC Aa U,I v24]).bind λV=>
 some (0,[.vC Aa v0, .vC Aa (X++[[I Y]]),I v2,I (mn (mx (O (O (Y+gA V 0)-O (v22.tdiv 4))) (-4096)) 4096),I (O (v4+1)),I v5,I v6,I v7,I v8,I v9,I v10,I v11,I v12,I D,I G,I L,I M,I N,I S,I T,I v20,I v21,I v22, .vC Aa (wA V 1),jA V 2])) (none)) (some (1,[.vC Aa v0, .vC Aa X,I v5,I v6,I v7,I v8,I v9,I v10,I v11,I v12,I D,I G,I L,I M,I N,I S,I T,I v20,I v21,I v22, .vC Aa U,I v24])):=by kernel_rfl
theorem Znq (U:Fn) (a0:Lp) (x0:Rw) (x1:Int):Wo U a0 [.vC Aa x0,I x1]=
 (U [I 6, .vC Aa x0,I x1]).bind λG=>
 cond (decide (0<=gA G 0)&&decide (gA G 0<(↑[[I 8],[I 4],[I 5],[I 16],[I 23],[I 64]].length:Int))) ((U [I 4, .vC Aa (wA G 1),jA G 2]).bind λL=>
 cond (decide (0<=gA L 0)&&decide (gA L 0<(↑[[I 0],[I 1],[I 3],[I 6]].length:Int))) ((U [I 5, .vC Aa (wA L 1),jA L 2]).bind λM=>
 cond (decide (0<=gA M 0)&&decide (gA M 0<(↑[[I 40],[I 1],[I 3],[I 9],[I 1000]].length:Int))) ((U [I 5, .vC Aa (wA M 1),jA M 2]).bind λN=>
 cond (decide (0<=gA N 0)&&decide (gA N 0<(↑[[I 20],[I 2],[I 3],[I 5],[I 1000]].length:Int))) ((U [I 5, .vC Aa (wA N 1),jA N 2]).bind λS=>
 cond (decide (0<=gA S 0)&&decide (gA S 0<(↑[[I 30],[I 4],[I 5],[I 8],[I 1000]].length:Int))) ((U [I 5, .vC Aa (wA S 1),jA S 2]).bind λT=>
 cond (gA T 0==0) (some [I (Ah (nth .vD (nth [] [[I 8],[I 4],[I 5],[I 16],[I 23],[I 64]] (gA G 0).toNat) 0)),I (Ah (nth .vD (nth [] [[I 40],[I 1],[I 3],[I 9],[I 1000]] (gA M 0).toNat) 0)),I (Ah (nth .vD (nth [] [[I 20],[I 2],[I 3],[I 5],[I 1000]] (gA N 0).toNat) 0)),I (Ah (nth .vD (nth [] [[I 30],[I 4],[I 5],[I 8],[I 1000]] (gA S 0).toNat) 0)),I (-16777216),I 16777216,I (Ah (nth .vD (nth [] [[I 0],[I 1],[I 3],[I 6]] (gA L 0).toNat) 0)),I 0,I 0, .vC Aa [], .vC Aa (wA T 1),jA T 2]) ((U [I 400, .vC Aa (wA T 1),jA T 2]).bind λV=>
 (U [I 120, .vC Aa (wA V 1),jA V 2]).bind λX=>
 (U [I 9, .vC Aa (wA X 1),jA X 2]).bind λY=>
 (a0 [.vC Aa [], .vC Aa [],jA T 0,I (O (gA Y 0-4)),I 0,I 0,I 0,I 0,I 0,I 0,I 0,I 0,I 0,I 0,I (Ah (nth .vD (nth [] [[I 8],[I 4],[I 5],[I 16],[I 23],[I 64]] (gA G 0).toNat) 0)),I (Ah (nth .vD (nth [] [[I 40],[I 1],[I 3],[I 9],[I 1000]] (gA M 0).toNat) 0)),I (Ah (nth .vD (nth [] [[I 20],[I 2],[I 3],[I 5],[I 1000]] (gA N 0).toNat) 0)),I (Ah (nth .vD (nth [] [[I 30],[I 4],[I 5],[I 8],[I 1000]] (gA S 0).toNat) 0)),I (-16777216),I 16777216,I (Ah (nth .vD (nth [] [[I 0],[I 1],[I 3],[I 6]] (gA L 0).toNat) 0)),I (O (gA V 0-200)),I (O (4+gA X 0)), .vC Aa (wA Y 1),jA Y 2]).bind λD=>
 cond (D.1.beq 1) (some [jA D.2 11,jA D.2 12,jA D.2 13,jA D.2 14,jA D.2 15,jA D.2 16,jA D.2 17,jA D.2 18,jA D.2 19, .vC Aa (wA D.2 1), .vC Aa (wA D.2 20),jA D.2 21]) (none))) (none)) (none)) (none)) (none)) (none):=by kernel_rfl
def Qtj:=Al (SJ Dd)
def No:=Wo Dd Qtj
theorem Qz5:Ai PG (YI Dd):=Ao rfl ⟨NO,trivial⟩
theorem Yfe:Ak PG (Zsg No):=rw2 (C:=Qws Dd Qtj) (fl fb Qz5) Qz5
def Qn7:Sk:=⟨[TS.v true (cc 9++[sa Aa]++cc 9++[sa Aa]++cc 9++[sa Aa])],[],[]⟩
def Ydc:=qd 44 Qjj Qn7
def Qgs (D G:Fn):Cfg:=cp [Zsg D,U3 G] [86,40]
def Q21 (D G:Fn):Fn:=An PG (Qgs D G) 64 44 Qjj Qn7
theorem Yio (I L:Fn) (M:Rw):Q21 I L [.vC Aa M]=
 (L [.vC Aa M]).bind λo4=>
 (I [.vC Aa (wA o4 0),jA o4 1]).bind λD=>
 (I [.vC Aa (wA D 10),jA D 11]).bind λo6=>
 (I [.vC Aa (wA o6 10),jA o6 11]).bind λG=>
 some [jA D 0,jA D 1,jA D 2,jA D 3,jA D 4,jA D 5,jA D 6,jA D 7,jA D 8, .vC Aa (wA D 9),jA o6 0,jA o6 1,jA o6 2,jA o6 3,jA o6 4,jA o6 5,jA o6 6,jA o6 7,jA o6 8, .vC Aa (wA o6 9),jA G 0,jA G 1,jA G 2,jA G 3,jA G 4,jA G 5,jA G 6,jA G 7,jA G 8, .vC Aa (wA G 9)]:=by kernel_rfl
def OO:=Q21 No DO
theorem Yg3:Ai PG (Qgs No DO):=Ao rfl ⟨Yfe,UG,trivial⟩
theorem Zy7:Ak PG (Ydc OO):=rw1 (C:=Qgs No DO) Yg3
def Qu8:Sk:=⟨[tf [sa Aa],tf [sa Aa]],[],[]⟩
def Zte:=qd 14 Qu8 Xa
def W3 (D G I L:Fn):Cfg:=cp [PP D,Zko G,Ydc I,U3 L] [41,40]
def Y2 (D G I L:Fn):Fn:=An PG (W3 D G I L) 64 14 Qu8 Xa
theorem Z7t (G M N S:Fn) (T D:Rw):Y2 G M N S [.vC Aa T, .vC Aa D]=
 (S [.vC Aa D]).bind λU=>
 (N [.vC Aa T]).bind λo6=>
 (M [.vC Aa D]).bind λL=>
 (G [I 60000, .vC Aa (wA U 0),I (mn 3 (D.length:Int))]).bind λo8=>
 (G [I 40, .vC Aa (wA o8 1),jA o8 2]).bind λV=>
 some [jA o6 0,jA o6 1,jA o6 2,jA o6 3,jA o6 4,jA o6 5,jA o6 6,jA o6 7,jA o6 8, .vC Aa (wA o6 9),jA o6 10,jA o6 11,jA o6 12,jA o6 13,jA o6 14,jA o6 15,jA o6 16,jA o6 17,jA o6 18, .vC Aa (wA o6 19),jA o6 20,jA o6 21,jA o6 22,jA o6 23,jA o6 24,jA o6 25,jA o6 26,jA o6 27,jA o6 28, .vC Aa (wA o6 29),jA L 0,jA L 1,jA L 2,I (O (1+gA o8 0)),jA V 0]:=by kernel_rfl
def Ob:=Y2 Dd Sc OO DO
theorem Z83:Ai PG (W3 Dd Sc OO DO):=Ao rfl ⟨NO,Z42,Zy7,UG,trivial⟩
theorem Ygg:Ak PG (Zte Ob):=rw1 (C:=W3 Dd Sc OO DO) Z83
def Zty:=qd 136 ZJ Xx
def Q30:Fn:=An PG Qj1 64 136 ZJ Xx
theorem Z5j (D G:Int):Q30 [I D,I G]=
 cond (decide (0<=G.tmod 4)&&decide (G.tmod 4<(↑[[I D],[I 0],[I (O (0-D))],[I 0]].length:Int))) (cond (decide (0<=G.tmod 4)&&decide (G.tmod 4<(↑[[I 0],[I D],[I 0],[I (O (0-D))]].length:Int))) (some [I (Ah (nth .vD (nth [] [[I D],[I 0],[I (O (0-D))],[I 0]] (G.tmod 4).toNat) 0)),I (Ah (nth .vD (nth [] [[I 0],[I D],[I 0],[I (O (0-D))]] (G.tmod 4).toNat) 0))]) (none)) (none):=by kernel_rfl
def Po:=Q30
theorem Ybl:Ai PG (Qj1):=Ao rfl trivial
theorem Z0p:Ak PG (Zty Po):=rw1 (C:=Qj1) Ybl
def Qr4:Sk:=⟨[tf [sd 20000 0],TS.v true [ci,ci,ci],tf [ci]],[(20000,95,[sa Aa,ci])],[]⟩
def YJ:Sk:=⟨[TS.v true (cc 13++[sb,ci,sb]++cc 5++[sb])],[(20000,95,[sa Aa,ci])],[]⟩
def Z2t:=qd 85 Qr4 YJ
def YT (D G I L:Fn):Cfg:=cp [Q76 D,Zty G,Qsc I,PP L] [41]
def Qmo (D G I L:Fn):Fn:=An PG (YT D G I L) 64 85 Qr4 YJ
abbrev SS (Ay C4:Fn) (V M:List AC) (x0 x1 x2:Int) (G X Y:List AC) (N S T U:AC):Option (List AC):=
 (Ay [I 4,N,S]).bind λD=>
 cond (decide (0<=gA D 0)&&decide (gA D 0<(↑[[I 0],[I 0],[I 7],[I (-12)]].length:Int))) ((C4 [T,U,I (O (gA V 2+Ah (nth .vD (nth [] [[I 0],[I 0],[I 7],[I (-12)]] (gA D 0).toNat) 0))),I (Ah (nth .vD (nth [] [[I 17],[I 18],[I 19]] (gA M 0).toNat) 0))]).bind λL=>
 some [I 3,I 0,I x0,I x1,I x2,jA L 0,jA L 1,jA L 2,I (Ah (nth .vD (nth [] [[I 17],[I 18],[I 19]] (gA M 0).toNat) 0)),jA G 0,jA G 1,jA G 2,I (O (1-O (gA X 0*2))),B (gA Y 0==0),I 0,B false,I 0,I 0,I 0,I 0,I 0,B false, .vC Aa (wA D 1),jA D 2]) (none)
theorem Z7b (C4 Mi Ci T:Fn) (x0 x1 x2 x3:Int) (x4:Rw) (x5:Int):Qmo C4 Mi Ci T [I x0,I x1,I x2,I x3, .vC Aa x4,I x5]=
 (T [I 3, .vC Aa x4,I x5]).bind λG=>
 cond (decide (0<=gA G 0)&&decide (gA G 0<(↑[[I 17],[I 18],[I 19]].length:Int))) ((T [I 2, .vC Aa (wA G 1),jA G 2]).bind λU=>
 (T [I x3, .vC Aa (wA U 1),jA U 2]).bind λM=>
 (T [I 4, .vC Aa (wA M 1),jA M 2]).bind λX=>
 (T [I 4, .vC Aa (wA X 1),jA X 2]).bind λL=>
 (Ci [I x0,I x1,I x2,I (Ah (nth .vD (nth [] [[I 17],[I 18],[I 19]] (gA G 0).toNat) 0))]).bind λD=>
 (Mi [I (O (8+gA M 0)),jA X 0]).bind λN=>
 (Mi [I (O (8+gA M 0)),I (O (gA X 0+gA L 0))]).bind λS=>
 (C4 [I (O (gA D 0-gA N 0)),I (O (gA D 1-gA N 1)),jA D 2,I (Ah (nth .vD (nth [] [[I 17],[I 18],[I 19]] (gA G 0).toNat) 0))]).bind λY=>
 cond (decide (gA L 0>0)) ((T [I 3, .vC Aa (wA L 1),jA L 2]).bind λV=>
 cond (gA V 0==0) (cond (decide (O (8+gA M 0)=0)) (none) ((T [I 5, .vC Aa (wA V 1),jA V 2]).bind λa0=>
 cond (decide (O (8+gA M 0)=0)) (none) ((T [I 5, .vC Aa (wA a0 1),jA a0 2]).bind λa1=>
 SS T C4 D G x0 x1 x2 Y U L (.vC Aa (wA a1 1)) (jA a1 2) (I (O (O (gA D 0-gA N 0)+O (gA S 0+O (O ((gA S 0).tdiv (O (8+gA M 0)))*gA a0 0))))) (I (O (O (gA D 1-gA N 1)+O (gA S 1+O (O ((gA S 1).tdiv (O (8+gA M 0)))*gA a1 0)))))))) (SS T C4 D G x0 x1 x2 Y U L (.vC Aa (wA V 1)) (jA V 2) (I (O (O (gA D 0-gA N 0)+gA S 0))) (I (O (O (gA D 1-gA N 1)+gA S 1))))) (SS T C4 D G x0 x1 x2 Y U L (.vC Aa (wA L 1)) (jA L 2) (I (O (O (gA D 0-gA N 0)+gA S 0))) (I (O (O (gA D 1-gA N 1)+gA S 1))))) (none):=by kernel_rfl
def QX:=Qmo IC Po Gm Dd
theorem Zj4:Ai PG (YT IC Po Gm Dd):=Ao rfl ⟨Q0t,Z0p,Qom,NO,trivial⟩
theorem Yb7:Ak PG (Z2t QX):=rw1 (C:=YT IC Po Gm Dd) Zj4
def Zuw:=qd 43 Qr4 YJ
def Ww (D G:Fn):Cfg:=cp [PP D,Z2t G] [41,85]
def Wq (D G:Fn):Fn:=An PG (Ww D G) 64 43 Qr4 YJ
abbrev Qg8 (Ay:Fn) (a9:List AC) (x3:Int) (X Y a0 a1 a2 a3 a4 a5 a6 a7 G L M N S T U V:AC):Option (List AC):=
 (Ay [I 60, .vC Aa (wA a9 1),jA a9 2]).bind λD=>
 cond (x3==6) ((Ay [I 2, .vC Aa (wA D 1),jA D 2]).bind λa8=>
 some [X,Y,a0,a1,a2,a3,a4,a5,a6,a7,G,L,M,N,I (O (1+gA D 0)),B true,S,T,I 0,I (O (3+gA a8 0)),U,V, .vC Aa (wA a8 1),jA a8 2]) (some [X,Y,a0,a1,a2,a3,a4,a5,a6,a7,G,L,M,N,I (O (1+gA D 0)),B true,S,T,I 0,I 0,U,V, .vC Aa (wA D 1),jA D 2])
abbrev Xj (x3:Int) (Ay:Fn) (V X Y a0 a1 a2 a3 a4 a5 a6 D G L M b2 a7 N O b3 a8 S T b0 b1:AC):Option (List AC):=
 cond (x3==1) (some [V,X,Y,a0,a1,a2,a3,a4,a5,a6,D,G,L,M,b2,a7,N,O,b3,a8,S,T,b0,b1]) ((Ay [I 5,b0,b1]).bind λa9=>
 cond (decide (0<=gA a9 0)&&decide (gA a9 0<(↑[[I 300000],[I 1],[I 60000],[I 2000000],[I 60000000]].length:Int))) ((Ay [I 5, .vC Aa (wA a9 1),jA a9 2]).bind λU=>
 cond (decide (0<=gA U 0)&&decide (gA U 0<(↑[[I 0],[I 1],[I 2],[I 4],[I 9]].length:Int))) (cond (x3==5) (Qg8 Ay U x3 V X Y a0 a1 a2 a3 a4 a5 a6 D G L M N O S T) (cond (x3==6) (Qg8 Ay U x3 V X Y a0 a1 a2 a3 a4 a5 a6 D G L M N O S T) (cond (x3==4) (some [V,X,Y,a0,a1,a2,a3,a4,a5,a6,D,G,L,M,I (Ah (nth .vD (nth [] [[I 300000],[I 1],[I 60000],[I 2000000],[I 60000000]] (gA a9 0).toNat) 0)),a7,N,O,I 0,a8,S,T, .vC Aa (wA U 1),jA U 2]) (some [V,X,Y,a0,a1,a2,a3,a4,a5,a6,D,G,L,M,I (Ah (nth .vD (nth [] [[I 300000],[I 1],[I 60000],[I 2000000],[I 60000000]] (gA a9 0).toNat) 0)),a7,N,O,I (Ah (nth .vD (nth [] [[I 0],[I 1],[I 2],[I 4],[I 9]] (gA U 0).toNat) 0)),a8,S,T, .vC Aa (wA U 1),jA U 2])))) (none)) (none))
theorem Z9t (G PQ:Fn) (V X Y U:Int) (x4:Rw) (x5:Int):Wq G PQ [I V,I X,I Y,I U, .vC Aa x4,I x5]=
 cond (U==3) ((PQ [I V,I X,I Y,I 8, .vC Aa x4,I x5]).bind λD=>
 Xj U G (jA D 0) (jA D 1) (jA D 2) (jA D 3) (jA D 4) (jA D 5) (jA D 6) (jA D 7) (jA D 8) (jA D 9) (jA D 10) (jA D 11) (jA D 12) (B (bA D 13)) (jA D 14) (B (bA D 15)) (jA D 16) (jA D 17) (jA D 18) (jA D 19) (jA D 20) (B (bA D 21)) (.vC Aa (wA D 22)) (jA D 23)) ((G [I 25, .vC Aa x4,I x5]).bind λL=>
 (G [I 25, .vC Aa (wA L 1),jA L 2]).bind λM=>
 (G [I 3, .vC Aa (wA M 1),jA M 2]).bind λN=>
 (G [I 9, .vC Aa (wA N 1),jA N 2]).bind λS=>
 (G [I 2, .vC Aa (wA S 1),jA S 2]).bind λT=>
 Xj U G (I U) (I 0) (I V) (I X) (I Y) (I (O (O (V+gA L 0)-12))) (I (O (O (X+gA M 0)-12))) (I (O (O (Y+O (gA N 0*gA S 0))-O (8*gA T 0)))) (I 0) (I 0) (I 0) (I 0) (I 0) (B false) (I 0) (B false) (I 0) (I 0) (I 0) (I 0) (I 0) (B false) (.vC Aa (wA T 1)) (jA T 2)):=by kernel_rfl
def Nj:=Wq Dd QX
theorem Zz1:Ai PG (Ww Dd QX):=Ao rfl ⟨NO,Yb7,trivial⟩
theorem Zw8:Ak PG (Zuw Nj):=rw1 (C:=Ww Dd QX) Zz1
def Qm3:Sk:=⟨[tf [sb]],[(20000,95,[sa Aa,ci])],[]⟩
def Zp7:=qd 42 XQ Qm3
def Q1h:Fn:=An PG Qj1 64 42 XQ Qm3
theorem Zm1 (D:Rw) (G:Int):Q1h [.vC Aa D,I G]=
 some [B (decide (G<(D.length:Int))), .vC Aa D,I G]:=by kernel_rfl
def Lr:=Q1h
theorem Zvo:Ai PG (Qj1):=Ao rfl trivial
theorem Yeu:Ak PG (Zp7 Lr):=rw1 (C:=Qj1) Zvo
def Qeq:Sk:=⟨[tf [se 6 22]],[],[(6,31,Ae)]⟩
def Zxb:=qd 11 Qmb Qeq
def ZW (D G I L:Fn):Cfg:={cp [Zuw D,Zp7 G,PP I,U3 L] [43,42,41,40]with ownRes:=true,prom:=λb=>cond (Nat.beq b 4) ([(6,31)]) ([])}
def Zfu:Sk:=⟨[td,tf [ci],td,td,td,tf [sd 101000 0],tf [se 6 22],tf [sd 7 0]]++dd 36,[(7,29,[ci,ci,ci]),(101000,95,[sa Aa,ci])],[(6,31,Ae)]⟩
def Zg8:List (Ex×Sk):=[(Ex.exit 0,⟨dd 6++[tf [se 6 22]]++dd 37,[],[(6,31,Ae)]⟩)]
def Qpv (D G I L:Fn):Lp:=AG PG (ZW D G I L) 64 4 (AH PG 11 4) Zfu Zg8
def Qw4 (D G I L:Fn) (M:Lp):Cfg:=(ZW D G I L).loop 4 Zfu Zg8 M
def Qkg (D G I L:Fn) (M:Lp):Fn:=An PG (Qw4 D G I L M) 64 11 Qmb Qeq
theorem Z7r (O S T BJ:Fn) (M:Rw) (N U V X:Int) (Y:Rw) (v6:Int):Qpv O S T BJ [.vC Ae M,I N,I U,I V,I X, .vC Aa Y,I v6]=
 cond (decide ((M.length:Int)<N)) ((S [.vC Aa Y,I v6]).bind λL=>
 cond (bA L 0) ((T [I 5, .vC Aa (wA L 1),jA L 2]).bind λG=>
 cond (decide (0<=gA G 0)&&decide (gA G 0<(↑[[I 2],[I 2],[I 2],[I 3],[I 1]].length:Int))) ((O [I U,I V,I X,I (Ah (nth .vD (nth [] [[I 2],[I 2],[I 2],[I 3],[I 1]] (gA G 0).toNat) 0)), .vC Aa (wA G 1),jA G 2]).bind λD=>
 cond (((M++[[jA D 0,jA D 1,jA D 2,jA D 3,jA D 4,jA D 5,jA D 6,jA D 7,jA D 8,jA D 9,jA D 10,jA D 11,jA D 12,B (bA D 13),jA D 14,B (bA D 15),jA D 16,jA D 17,jA D 18,jA D 19,jA D 20,B (bA D 21)]]).length*176).ble 140737488355328) (some (0,[.vC Ae (M++[[jA D 0,jA D 1,jA D 2,jA D 3,jA D 4,jA D 5,jA D 6,jA D 7,jA D 8,jA D 9,jA D 10,jA D 11,jA D 12,B (bA D 13),jA D 14,B (bA D 15),jA D 16,jA D 17,jA D 18,jA D 19,jA D 20,B (bA D 21)]]),I N,jA D 5,jA D 6,jA D 7, .vC Aa (wA D 22),jA D 23])) (none)) (none)) (some (1,[.vC Ae M]))) (some (1,[.vC Ae M])):=by kernel_rfl
theorem Zqv (Y G5 S T:Fn) (U:Lp) (V:Rw) (X:Int):Qkg Y G5 S T U [.vC Aa V,I X]=
 (T [.vC Aa V]).bind λM=>
 (S [I 9, .vC Aa (wA M 0),jA M 1]).bind λD=>
 (S [I 9, .vC Aa (wA D 1),jA D 2]).bind λG=>
 (S [I 9, .vC Aa (wA G 1),jA G 2]).bind λL=>
 (U [.vC Ae [],I X,I (O (gA D 0-4)),I (O (gA G 0-4)),I (O (gA L 0-4)), .vC Aa (wA L 1),jA L 2]).bind λN=>
 cond (N.1.beq 1) (some [.vC Ae (wA N.2 0)]) (none):=by kernel_rfl
def Q2c:=Al (Qpv Nj Lr Dd DO)
def Ny:=Qkg Nj Lr Dd DO Q2c
theorem Q3z:Ai PG (ZW Nj Lr Dd DO):=Ao rfl ⟨Zw8,Yeu,NO,UG,trivial⟩
theorem Yg2:Ak PG (Zxb Ny):=rw2 (C:=Qw4 Nj Lr Dd DO Q2c) (fl fb Q3z) Q3z
def Qgk:Sk:=⟨[tf [sa [Kd.sl Aa]]],[],[]⟩
def Yg6:=qd 39 Qgk V_
def Q5q:Sk:=⟨[td,td,td,td,td,tf [sa [Kd.sl Aa]],tf [ci],tf [ci]]++dd 7,[],[]⟩
def Qys:List (Ex×Sk):=[(Ex.ret,⟨[td,td,tf [sb]]++dd 12,[],[]⟩),(Ex.exit 0,⟨[td]++dd 14,[],[]⟩)]
def T4:Lp:=AG PG Qj1 64 2 (AH PG 39 2) Q5q Qys
def Zbu (D:Lp):Cfg:=Qj1.loop 2 Q5q Qys D
def WU (D:Lp):Fn:=An PG (Zbu D) 64 39 Qgk V_
theorem Z8u (G:Rw) (L D:Int):T4 [.vC [Kd.sl Aa] G,I L,I D]=
 cond (decide (D<L)) (cond (decide (0<=D)&&decide (D<(G.length:Int))) (cond (decide ((↑(wA (nth [] G D.toNat) 0).length:Int)>60)) (some (1,[B false])) (some (0,[.vC [Kd.sl Aa] G,I L,I (O (D+1))]))) (none)) (some (2,[])):=by kernel_rfl
theorem Z7s (G:Lp) (D:Rw):WU G [.vC [Kd.sl Aa] D]=
 (G [.vC [Kd.sl Aa] D,I (D.length:Int),I 0]).bind λo1=>
 cond (o1.1.beq 1) (some [B (bA o1.2 0)]) (cond (o1.1.beq 2) (some [B true]) (none)):=by kernel_rfl
def Zgu:=Al (T4)
def KO:=WU Zgu
theorem Zir:Ai PG (Qj1):=Ao rfl trivial
theorem Zro:Ak PG (Yg6 KO):=rw2 (C:=Zbu Zgu) (fl fb Zir) Zir
abbrev Yf4 (L:Fn) (o8:List AC):Option (List AC):=
 (L [I 16, .vC Aa (wA o8 1),jA o8 2]).bind λG=>
 (L [I 2, .vC Aa (wA G 1),jA G 2]).bind λD=>
 some [I 10,I 0,I 0,I 0,I 0,I 0,I 0,I 0,I 0,I 0,I 0,I 0,I 0,B false,I 0,B false,I 0,I 0,I 0,jA G 0,I 0,B (gA D 0==0), .vC Aa (wA D 1),jA D 2]
abbrev Yd4 (M:Fn) (L:List AC) (N:Int) (G:AC):Option (List AC):=
 (M [G, .vC Aa (wA L 1),jA L 2]).bind λD=>
 some [I N,I (Ah (nth .vD (nth [] [[I 4],[I 1],[I 2],[I 3],[I 4],[I 5],[I 6],[I 7],[I 4],[I 8],[I 9],[I 11],[I 12],[I 13],[I 10]] (gA L 0).toNat) 0)),I (O (gA D 0-5)), .vC Aa (wA D 1),jA D 2]
def Q4e:Sk:=⟨[tf [ci],TS.v true ([sa kPt,sa Aa]++cc 7)],[],[]⟩
def Zi4:Sk:=⟨[tf [CS.str]],[],[]⟩
def Qhy (D:Fn):Cfg:=cf [(122,Ac Q88 Q18 D)]
def Qyz:Sk:=⟨[td,td,td,td,td,tf [CS.str]]++dd 20++[tf [sa Aa],tf [ci],tf [ci]]++dd 11,[],[]⟩
def Q2k:List (Ex×Sk):=[(Ex.exit 0,⟨[td,td,td,td,td,tf [CS.str]]++dd 34,[],[]⟩)]
def Sp (D:Fn):Lp:=AG PG (Qhy D) 64 3 (AH PG 76 3) Qyz Q2k
def Q5t (D:Fn) (G:Lp):Cfg:=(Qhy D).loop 3 Qyz Q2k G
def YX (D:Fn) (G:Lp):Fn:=An PG (Q5t D G) 64 76 Q4e Zi4
theorem Z1l (S:Fn) (L:ByteArray) (M:Rw) (N G:Int):Sp S [AC.raw (Go.Value.string L), .vC Aa M,I N,I G]=
 cond (decide (G<N)) (cond (decide (0<=G)&&decide (G<(M.length:Int))) ((S [jA (nth [] M G.toNat) 0]).bind λD=>
 cond (((ByteArray.mk #[32,111,117,116,112,117,116]).size+(Bd (nth .vD D 0)).size).ble 9223372036854775807) (cond (((Bd (AC.raw (Value.string L))).size+((ByteArray.mk #[32,111,117,116,112,117,116])++Bd (nth .vD D 0)).size).ble 9223372036854775807) (some (0,[AC.raw (Value.string (Bd (AC.raw (Value.string L))++((ByteArray.mk #[32,111,117,116,112,117,116])++Bd (nth .vD D 0)))), .vC Aa M,I N,I (O (G+1))])) (none)) (none)) (none)) (some (1,[AC.raw (Value.string (Bd (AC.raw (Value.string L))))])):=by kernel_rfl
theorem Z3t (N:Fn) (T:Lp) (U:Int) (x1 S:Rw) (V X x5 x6 x7 x8 Y:Int):YX N T [I U, .vC kPt x1, .vC Aa S,I V,I X,I x5,I x6,I x7,I x8,I Y]=
 (N [I U]).bind λD=>
 cond (((Bd (nth .vD D 0)).size+(ByteArray.mk #[32,109,111,100,101]).size).ble 9223372036854775807) ((N [I V]).bind λG=>
 cond (((Bd (nth .vD D 0)++(ByteArray.mk #[32,109,111,100,101])).size+(Bd (nth .vD G 0)).size).ble 9223372036854775807) (cond (((Bd (nth .vD D 0)++(ByteArray.mk #[32,109,111,100,101])++Bd (nth .vD G 0)).size+(ByteArray.mk #[32,97,116]).size).ble 9223372036854775807) ((N [I X]).bind λL=>
 cond (((Bd (nth .vD D 0)++(ByteArray.mk #[32,109,111,100,101])++Bd (nth .vD G 0)++(ByteArray.mk #[32,97,116])).size+(Bd (nth .vD L 0)).size).ble 9223372036854775807) (cond (((Bd (nth .vD D 0)++(ByteArray.mk #[32,109,111,100,101])++Bd (nth .vD G 0)++(ByteArray.mk #[32,97,116])++Bd (nth .vD L 0)).size+(ByteArray.mk #[32,102,97,117,108,116]).size).ble 9223372036854775807) ((N [I Y]).bind λO=>
 cond (((Bd (nth .vD D 0)++(ByteArray.mk #[32,109,111,100,101])++Bd (nth .vD G 0)++(ByteArray.mk #[32,97,116])++Bd (nth .vD L 0)++(ByteArray.mk #[32,102,97,117,108,116])).size+(Bd (nth .vD O 0)).size).ble 9223372036854775807) ((T [AC.raw (Value.string (Bd (nth .vD D 0)++(ByteArray.mk #[32,109,111,100,101])++Bd (nth .vD G 0)++(ByteArray.mk #[32,97,116])++Bd (nth .vD L 0)++(ByteArray.mk #[32,102,97,117,108,116])++Bd (nth .vD O 0))), .vC Aa S,I (S.length:Int),I 0]).bind λM=>
 cond (M.1.beq 1) (cond (((Bd (nth .vD M.2 0)).size+(ByteArray.mk #[10]).size).ble 9223372036854775807) (some [AC.raw (Value.string (Bd (nth .vD M.2 0)++(ByteArray.mk #[10])))]) (none)) (none)) (none)) (none)) (none)) (none)) (none)) (none):=by kernel_rfl
def Q9t:=Al (Sp Mf)
def Qep:=YX Mf Q9t
theorem Q5f:Ai PG (Qhy Mf):=Ao rfl ⟨Ybc,trivial⟩
theorem Yhj:Ak PG (76,Ac Q4e Zi4 Qep):=rw2 (C:=Q5t Mf Q9t) (fl fb Q5f) Q5f
attribute [go_sem] Lt RC Qz SS Qg8 Xj Yf4 Yd4
end Go.Bm
