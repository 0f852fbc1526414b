/- functions of the program and of the references, as models -/
import Derived.Test.YtnnpdlgenmnekaaGreatDoorMx3
import Derived.Test.YtnnpdlgenmnekaaGreatDoorSeFm
set_option linter.unusedSimpArgs false
set_option linter.unusedVariables false
set_option maxRecDepth 100000
noncomputable section
open Go.IntKind (wrap)
namespace Go.Bm
open Go.Proofs
def RP:Sk:=⟨[tf [se 20000 22],TS.v true (cc 9++[sa Aa]++cc 9++[sa Aa]++cc 9++[sa Aa]++cc 5)],[],[(20000,31,Ai)]⟩
def Su:Sk:=⟨[TS.v true (cc 9++[sa Aa]++cc 9++[sa Aa]++cc 9++[sa Aa]++cc 5)],[],[(20000,31,Ai)]⟩
def Zm6:=qa 13 RP Su
def C_cnclaw44_quick_0:Cfg:={cf []with keepIn:=true}
def Qse:Sk:=⟨[tf [se 20000 22],td,td,tf [sd 3 0],tf [sd 4 0],td,td,tf [ci],tf [ci]]++dd 40,[(3,38,cc 9++[sa Aa]++cc 9++[sa Aa]++cc 9++[sa Aa]++cc 5),(4,38,cc 9++[sa Aa]++cc 9++[sa Aa]++cc 9++[sa Aa]++cc 5)],[(20000,31,Ai)]⟩
def Q5u:List (Ex×Sk):=[(Ex.exit 0,⟨[tf [se 20000 22],td,td,tf [sd 3 0],tf [sd 4 0]]++dd 44,[(3,38,cc 9++[sa Aa]++cc 9++[sa Aa]++cc 9++[sa Aa]++cc 5),(4,38,cc 9++[sa Aa]++cc 9++[sa Aa]++cc 9++[sa Aa]++cc 5)],[(20000,31,Ai)]⟩)]
def Qgp:Lp:=A1 PG C_cnclaw44_quick_0 64 2 (A2 PG 13 2) Qse Q5u
def Qj0 (D:Lp):Cfg:=C_cnclaw44_quick_0.loop 2 Qse Q5u D
def Q9n (D:Lp):Fn:=Ao PG (Qj0 D) 64 13 RP Su
abbrev Qjf (D:Int) (G:Rw) (v1 v3 v4 v5 v6 v7 v8 v9 v10 v11:Int) (v12:Rw) (L M N O T U X v20 v21:Int) (v22:Rw) (Y v24 v25 a0 v27 v28 a1 v30 v31:Int) (a2:Rw) (v33 a3 v35 v36 v37 v38 a4 v40 a5 v42 a6 v44 a7 v46:Int) (a8:Rw) (v48 v49 a9 v51 b0 v53 b1 b2 b3:Int) (b4:Rw) (b5 v59 b6 b7 b8 v63 b9 v65 c0:Int) (c1:Rw) (v68 v69 v70 c2 v72:Int):Option (Nat×List AC):=
 cond (decide (0<=D)&&decide (D<(G.length:Int))) (some (0,[.vC Ai (G.set D.toNat [jA (nth [] G D.toNat) 0,jA (nth [] G D.toNat) 1,jA (nth [] G D.toNat) 2,jA (nth [] G D.toNat) 3,jA (nth [] G D.toNat) 4,jA (nth [] G D.toNat) 5,jA (nth [] G D.toNat) 6,jA (nth [] G D.toNat) 7,jA (nth [] G D.toNat) 8,jA (nth [] G D.toNat) 9,jA (nth [] G D.toNat) 10,jA (nth [] G D.toNat) 11,jA (nth [] G D.toNat) 12,B (bA (nth [] G D.toNat) 13),I 2000000,B (bA (nth [] G D.toNat) 15),jA (nth [] G D.toNat) 16,jA (nth [] G D.toNat) 17,jA (nth [] G D.toNat) 18,jA (nth [] G D.toNat) 19,jA (nth [] G D.toNat) 20,B (bA (nth [] G D.toNat) 21)]),I v1,I (V (D+1)),I v3,I v4,I v5,I v6,I v7,I v8,I v9,I v10,I v11, .vC Aa v12,I L,I M,I N,I O,I T,I U,I X,I v20,I v21, .vC Aa v22,I Y,I v24,I v25,I a0,I v27,I v28,I a1,I v30,I v31, .vC Aa a2,I v33,I a3,I v35,I v36,I v37,I v38,I a4,I v40,I a5,I v42,I a6,I v44,I a7,I v46, .vC Aa a8,I v48,I v49,I a9,I v51,I b0,I v53,I b1,I b2,I b3, .vC Aa b4,I b5,I v59,I b6,I b7,I b8,I v63,I b9,I v65,I c0, .vC Aa c1,I v68,I v69,I v70,I c2,I v72])) (none)
attribute [go_sem] Qjf
theorem Zyb (v0:Rw) (v1 D v3 v4 v5 v6 v7 v8 v9 v10 v11:Int) (v12:Rw) (G L M N O T U v20 v21:Int) (v22:Rw) (X v24 v25 Y v27 v28 a0 v30 v31:Int) (a1:Rw) (v33 a2 v35 v36 v37 v38 a3 v40 a4 v42 a5 v44 a6 v46:Int) (a7:Rw) (v48 v49 a8 v51 a9 v53 b0 b1 b2:Int) (b3:Rw) (b4 v59 b5 b6 b7 v63 b8 v65 b9:Int) (c0:Rw) (v68 v69 v70 c1 v72:Int):Qgp [.vC Ai v0,I v1,I D,I v3,I v4,I v5,I v6,I v7,I v8,I v9,I v10,I v11, .vC Aa v12,I G,I L,I M,I N,I O,I T,I U,I v20,I v21, .vC Aa v22,I X,I v24,I v25,I Y,I v27,I v28,I a0,I v30,I v31, .vC Aa a1,I v33,I a2,I v35,I v36,I v37,I v38,I a3,I v40,I a4,I v42,I a5,I v44,I a6,I v46, .vC Aa a7,I v48,I v49,I a8,I v51,I a9,I v53,I b0,I b1,I b2, .vC Aa b3,I b4,I v59,I b5,I b6,I b7,I v63,I b8,I v65,I b9, .vC Aa c0,I v68,I v69,I v70,I c1,I v72]=
 cond (decide (D<v1)) (cond (decide (0<=D)&&decide (D<(v0.length:Int))) (cond (gA (nth [] v0 D.toNat) 0==2) (Qjf D v0 v1 v3 v4 v5 v6 v7 v8 v9 v10 v11 v12 G L M N O T U v20 v21 v22 X v24 v25 Y v27 v28 a0 v30 v31 a1 v33 a2 v35 v36 v37 v38 a3 v40 a4 v42 a5 v44 a6 v46 a7 v48 v49 a8 v51 a9 v53 b0 b1 b2 b3 b4 v59 b5 b6 b7 v63 b8 v65 b9 c0 v68 v69 v70 c1 v72) (cond (decide (0<=D)&&decide (D<(v0.length:Int))) (cond (gA (nth [] v0 D.toNat) 0==3) (Qjf D v0 v1 v3 v4 v5 v6 v7 v8 v9 v10 v11 v12 G L M N O T U v20 v21 v22 X v24 v25 Y v27 v28 a0 v30 v31 a1 v33 a2 v35 v36 v37 v38 a3 v40 a4 v42 a5 v44 a6 v46 a7 v48 v49 a8 v51 a9 v53 b0 b1 b2 b3 b4 v59 b5 b6 b7 v63 b8 v65 b9 c0 v68 v69 v70 c1 v72) (some (0,[.vC Ai v0,I v1,I (V (D+1)),I v3,I v4,I v5,I v6,I v7,I v8,I v9,I v10,I v11, .vC Aa v12,I G,I L,I M,I N,I O,I T,I U,I v20,I v21, .vC Aa v22,I X,I v24,I v25,I Y,I v27,I v28,I a0,I v30,I v31, .vC Aa a1,I v33,I a2,I v35,I v36,I v37,I v38,I a3,I v40,I a4,I v42,I a5,I v44,I a6,I v46, .vC Aa a7,I v48,I v49,I a8,I v51,I a9,I v53,I b0,I b1,I b2, .vC Aa b3,I b4,I v59,I b5,I b6,I b7,I v63,I b8,I v65,I b9, .vC Aa c0,I v68,I v69,I v70,I c1,I v72]))) (none))) (none)) (some (1,[.vC Ai v0,I v3,I v4,I v5,I v6,I v7,I v8,I v9,I v10,I v11, .vC Aa v12,I G,I L,I M,I N,I O,I T,I U,I v20,I v21, .vC Aa v22,I X,I v24,I v25,I Y,I v27,I v28,I a0,I v30,I v31, .vC Aa a1,I v33,I a2,I v35,I v36,I v37,I v38,I a3,I v40,I a4,I v42,I a5,I v44,I a6,I v46, .vC Aa a7,I v48,I v49,I a8,I v51,I a9,I v53,I b0,I b1,I b2, .vC Aa b3,I b4,I v59,I b5,I b6,I b7,I v63,I b8,I v65,I b9, .vC Aa c0,I v68,I v69,I v70,I c1,I v72])):=by kernel_rfl
theorem Z6u (N2:Lp) (x0:Rw) (x1 x2 x3 x4 x5 x6 x7 x8 x9:Int) (D:Rw) (G L M N O T U X Y:Int) (a0:Rw) (a1 a2 a3 a4 a5 a6 a7 a8 a9:Int) (b0:Rw) (b1 b2 b3 b4 b5:Int):Q9n N2 [.vC Ai x0,I x1,I x2,I x3,I x4,I x5,I x6,I x7,I x8,I x9, .vC Aa D,I G,I L,I M,I N,I O,I T,I U,I X,I Y, .vC Aa a0,I a1,I a2,I a3,I a4,I a5,I a6,I a7,I a8,I a9, .vC Aa b0,I b1,I b2,I b3,I b4,I b5]=
 (N2 [.vC Ai x0,I (x0.length:Int),I 0,I x1,I x2,I x3,I x4,I x5,I x6,I x7,I x8,I x9, .vC Aa D,I G,I L,I M,I N,I O,I T,I U,I X,I Y, .vC Aa a0,I a1,I a2,I a3,I a4,I a5,I a6,I a7,I a8,I a9, .vC Aa b0,I b1,I b2,I b3,I b4,I b5,I 0,I 0,I 0,I 0,I 0,I 0,I 0,I 0,I 0, .vC Aa [],I 0,I 0,I 0,I 0,I 0,I 0,I 0,I 0,I 0, .vC Aa [],I 0,I 0,I 0,I 0,I 0,I 0,I 0,I 0,I 0, .vC Aa [],I 0,I 0,I 0,I 0,I 0]).bind λo1=>
 cond (o1.1.beq 1) (some [.vC Ai (wA o1.2 0),jA o1.2 1,jA o1.2 2,jA o1.2 3,jA o1.2 4,jA o1.2 5,jA o1.2 6,jA o1.2 7,jA o1.2 8,jA o1.2 9, .vC Aa (wA o1.2 10),jA o1.2 11,jA o1.2 12,jA o1.2 13,jA o1.2 14,jA o1.2 15,jA o1.2 16,jA o1.2 17,jA o1.2 18,jA o1.2 19, .vC Aa (wA o1.2 20),jA o1.2 21,jA o1.2 22,jA o1.2 23,jA o1.2 24,jA o1.2 25,jA o1.2 26,jA o1.2 27,jA o1.2 28,jA o1.2 29, .vC Aa (wA o1.2 30),I (V (gA o1.2 31+50)),I (V (gA o1.2 32+10)),I (V (gA o1.2 33+2000)),jA o1.2 34,jA o1.2 35]) (none):=by kernel_rfl
def Q9:=Am (Qgp)
def O2:=Q9n Q9
theorem RJ:Ak PG (C_cnclaw44_quick_0):=Ap rfl trivial
theorem k13:Oo PG 13 (Ac RP Su O2):=Zkf (C:=Qj0 Q9) (L:=64) (RJ) eqOk Hq rfl (I6 (by kernel_rfl)) (by kernel_rfl) (by kernel_rfl) ⟨_,_,rfl⟩ (Zw4 RJ eqOk Hq rfl rfl (by kernel_rfl) (by kernel_rfl) (by kernel_rfl) (by kernel_rfl) (by kernel_rfl))
theorem Zx3:An PG (Zm6 O2):=rw2 (C:=Qj0 Q9) (fl fb RJ) RJ
def Xm:Sk:=⟨[tf [sa Aa],tf [sa Aa],tf [sa Aa],tf [sa Aa]],[],[]⟩
def Zn7:=qa 10 Xm Qne
def Qfy (D:Fn):Cfg:=cf [Z65 D]
def ZO (D:Fn):Fn:=Ao PG (Qfy D) 64 10 Xm Qne
theorem Zdp (D:Fn) (G I L M:Rw):ZO D [.vC Aa G, .vC Aa I, .vC Aa L, .vC Aa M]=
 (D [.vC [Kd.sl Aa] [[.vC Aa G],[.vC Aa I],[.vC Aa L],[.vC Aa M]]]).bind λo1=>
 some [B (bA o1 0)]:=by kernel_rfl
def P5:=ZO KE
theorem Z1p:Ak PG (Qfy KE):=Ap rfl ⟨Zix,trivial⟩
theorem Zey:An PG (Zn7 P5):=rw1 (C:=Qfy KE) Z1p
def Z4p:=qa 9 Zf Qne
def Yc (D G I:Fn):Cfg:=cf [(31,Ac PC QT D),Zab G,Q2v I]
def Qge (D G I:Fn):Fn:=Ao PG (Yc D G I) 64 9 Zf Qne
theorem Z76 (D G L:Fn):Qge D G L []=
 (L [I 8,I 10,I 10,I 10,I (-16777216),I 16777216,I 0,I 0,I 0, .vC Aa [],I 8,I 10,I 10,I 10,I (-16777216),I 16777216,I 0,I 0,I 0, .vC Aa [],I 8,I 10,I 10,I 10,I (-16777216),I 16777216,I 0,I 0,I 0, .vC Aa [],I 9,I 3,I 100,I 1,I 0, .vC Ai [], .vC kPt [],I 5]).bind λo3=>
 cond (gA o3 1==0) (cond ((↑(wA o3 0).length:Int)==1) ((G [.vC [Kd.sl kPt,Kd.sl Aa,kI,kI,kI,kI,kI,kI,kI] (wA o3 0)]).bind λo4=>
 cond (bA o4 0) ((D [.vC [Kd.sl kPt,Kd.sl Aa,kI,kI,kI,kI,kI,kI,kI] [[.vC (Aa++(Aa++(Aa++[]))) [], .vC Aa [],I 7,I 160,I 0,I 0,I 0,I 0,I 0]]]).bind λM=>
 some [B ((Bp (nth .vD M 0)).toList==(ByteArray.mk #[48,32,109,111,100,101,55,32,97,116,49,54,48,32,102,97,117,108,116,48,10]).toList)]) (some [B false])) (some [B false])) (some [B false]):=by kernel_rfl
def QK:=Qge P9 J2 KT
theorem Zh6:Ak PG (Yc P9 J2 KT):=Ap rfl ⟨Zja,Qxc,Qrk,trivial⟩
theorem Zlw:An PG (Z4p QK):=rw1 (C:=Yc P9 J2 KT) Zh6
def Qxl:Sk:=⟨[tf [sa Aa],tf [sa Aa],tf [sa Aa],tf [ci]],[],[]⟩
def Qda (D G I L M N O T U V X Y Oi:Fn):Cfg:={cp [P3 D,Zi4 G,Zab I,Q2v L,Qsg M,Qlb N,Qpd O,Zm6 T,Zkg U,Zn1 V,Qu9 X,Zn7 Y,Z4p Oi] [13,11]with lend:=λf=>AQ [13] f,keepR:=λf=>AQ [13] f}
def Qig (D G I L M N O T U V X Y Oi:Fn):Fn:=Ao PG (Qda D G I L M N O T U V X Y Oi) 64 3 Qxl Qne
theorem Z74 (Bi OF Gb Gj F2 D7 F8 O4 NC Ow Gq NX Oi:Fn) (U X Y:Rw) (x3:Int):Qig Bi OF Gb Gj F2 D7 F8 O4 NC Ow Gq NX Oi [.vC Aa U, .vC Aa X, .vC Aa Y,I x3]=
 (Oi []).bind λa0=>
 cond (!bA a0 0) (some [B false]) ((NX [.vC Aa U, .vC Aa X, .vC Aa Y, .vC Aa []]).bind λa1=>
 cond (!bA a1 0) (some [B true]) ((Gq [I x3,I 4]).bind λa2=>
 (Ow [.vC Aa U,jA a2 0]).bind λT=>
 cond (((wA T 0++[[I 10,I 0,I 0,I 0,I 0,I 0,I 0,I 0,I 0,I 0,I 0,I 0,I 0,B false,I 0,B false,I 0,I 0,I 0,I 0,I 0,B false],[I 14,I 0,I 0,I 0,I 0,I 0,I 0,I 0,I 0,I 0,I 0,I 0,I 0,B false,I 0,B false,I 0,I 0,I 0,I 0,I 0,B false]]).length*176).ble 140737488355328) ((NC [.vC Aa X, .vC Aa Y]).bind λG=>
 (O4 [.vC Ai (wA T 0++[[I 10,I 0,I 0,I 0,I 0,I 0,I 0,I 0,I 0,I 0,I 0,I 0,I 0,B false,I 0,B false,I 0,I 0,I 0,I 0,I 0,B false],[I 14,I 0,I 0,I 0,I 0,I 0,I 0,I 0,I 0,I 0,I 0,I 0,I 0,B false,I 0,B false,I 0,I 0,I 0,I 0,I 0,B false]]),jA G 0,jA G 1,jA G 2,jA G 3,jA G 4,jA G 5,jA G 6,jA G 7,jA G 8, .vC Aa (wA G 9),jA G 10,jA G 11,jA G 12,jA G 13,jA G 14,jA G 15,jA G 16,jA G 17,jA G 18, .vC Aa (wA G 19),jA G 20,jA G 21,jA G 22,jA G 23,jA G 24,jA G 25,jA G 26,jA G 27,jA G 28, .vC Aa (wA G 29),jA G 30,jA G 31,jA G 32,jA G 33,jA G 34]).bind λD=>
 (F8 [.vC Ai (wA D 0)]).bind λL=>
 cond (gA L 5 !=0) (some [B false]) ((D7 [jA L 0,jA L 1,jA L 2, .vC Ah (wA L 3), .vC kPt (wA L 4)]).bind λa3=>
 (F2 [jA L 0,jA L 1,jA L 2, .vC Ah (wA L 3), .vC kPt (wA L 4),jA D 1,jA D 2,jA D 3,jA D 4,jA D 5,jA D 6,jA D 7,jA D 8,jA D 9, .vC Aa (wA D 10),jA D 11,jA D 12,jA D 13,jA D 14,jA D 15,jA D 16,jA D 17,jA D 18,jA D 19, .vC Aa (wA D 20),jA D 21,jA D 22,jA D 23,jA D 24,jA D 25,jA D 26,jA D 27,jA D 28,jA D 29, .vC Aa (wA D 30),I 1,I 1,I 1,I 0,jA a3 0]).bind λN=>
 (Gj [jA D 1,jA D 2,jA D 3,jA D 4,jA D 5,jA D 6,jA D 7,jA D 8,jA D 9, .vC Aa (wA D 10),jA D 11,jA D 12,jA D 13,jA D 14,jA D 15,jA D 16,jA D 17,jA D 18,jA D 19, .vC Aa (wA D 20),jA D 21,jA D 22,jA D 23,jA D 24,jA D 25,jA D 26,jA D 27,jA D 28,jA D 29, .vC Aa (wA D 30),jA D 31,jA D 32,jA D 33,jA D 34,jA D 35, .vC Ai (wA D 0), .vC kPt [],I (V (V (768*gA N 1)+V (8*(↑(wA D 0).length:Int))))]).bind λM=>
 cond (gA M 1 !=0) (some [B false]) ((Gb [.vC [Kd.sl kPt,Kd.sl Aa,kI,kI,kI,kI,kI,kI,kI] (wA M 0)]).bind λa4=>
 cond (!bA a4 0) (some [B false]) (cond (decide (0<=V ((↑(wA M 0).length:Int)-1))&&decide (V ((↑(wA M 0).length:Int)-1)<(↑(wA M 0).length:Int))) ((OF [jA L 0,jA L 1,jA L 2, .vC Ah (wA L 3), .vC kPt (wA L 4)]).bind λa5=>
 cond (Ag (nth .vD (nth [] (wA M 0) (V ((↑(wA M 0).length:Int)-1)).toNat) 3)==gA a5 0) ((Bi [jA L 0,jA L 1,jA L 2, .vC Ah (wA L 3), .vC kPt (wA L 4),jA D 1,jA D 2,jA D 3,jA D 4,jA D 5,jA D 6,jA D 7,jA D 8,jA D 9, .vC Aa (wA D 10),jA D 11,jA D 12,jA D 13,jA D 14,jA D 15,jA D 16,jA D 17,jA D 18,jA D 19, .vC Aa (wA D 20),jA D 21,jA D 22,jA D 23,jA D 24,jA D 25,jA D 26,jA D 27,jA D 28,jA D 29, .vC Aa (wA D 30), .vC Au (wA N 0),jA N 1,jA N 2,jA N 3,jA N 4,jA N 5,jA N 1]).bind λO=>
 cond (Ag (nth .vD (nth [] (wA M 0) (V ((↑(wA M 0).length:Int)-1)).toNat) 4)==gA O 0&&(Ag (nth .vD (nth [] (wA M 0) (V ((↑(wA M 0).length:Int)-1)).toNat) 5)==gA O 1&&(Ag (nth .vD (nth [] (wA M 0) (V ((↑(wA M 0).length:Int)-1)).toNat) 6)==gA O 2&&true))) (some [B (Ag (nth .vD (nth [] (wA M 0) (V ((↑(wA M 0).length:Int)-1)).toNat) 8)==0)]) (some [B false])) (some [B false])) (none))))) (none))):=by kernel_rfl
def Qxb:=Qig D9 LD J2 KT JK Hi H4 O2 Qr PQ IV P5 QK
theorem Z6s:Ak PG (Qda D9 LD J2 KT JK Hi H4 O2 Qr PQ IV P5 QK):=Z4i rfl ⟨Up,Zs3,Qxc,Qrk,Qpy,Qh4,Qu6,Zx3,Z6b,Z60,Qrf,Zey,Zlw,trivial⟩ rfl (Gv rfl (Gv rfl (Gv rfl (Gv rfl (Gv rfl (Gv rfl (Gv rfl (Z8w k13 (Gv rfl (Gv rfl (Gv rfl (Gv rfl (Gv rfl Z6t)))))))))))))
theorem Zbs:∀(args:List TV) (v:TV) (mem:Mem),(Ac Qxl Qne Qxb (TV×Mem) args ⟨[],[]⟩ λv m=>some (v,m))=some (v,mem)->PCallM PG 3 args ⟨[],[]⟩ v mem:=λargs v mem h=>Yaj (f:=3) (C:=Qda D9 LD J2 KT JK Hi H4 O2 Qr PQ IV P5 QK) (L:=64) (by kernel_rfl) (FnOK.bare rfl rfl rfl) Z6s eqOk Hq (by kernel_rfl) (by kernel_rfl) args v mem h
end Go.Bm
