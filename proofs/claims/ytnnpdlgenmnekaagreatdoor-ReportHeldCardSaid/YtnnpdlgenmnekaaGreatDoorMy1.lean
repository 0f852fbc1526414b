/- functions of the program and of the references, as models -/
import Derived.Test.YtnnpdlgenmnekaaGreatDoorMx3
import Derived.Test.YtnnpdlgenmnekaaGreatDoorSeFm
set_option linter.unusedSimpArgs false
set_option linter.unusedVariables false
set_option maxRecDepth 100000
noncomputable section
namespace Go.Bm
open Go.Proofs
def Yjq:=qd 29 Qf9 Y3
def Q7e:Sk:=⟨[td,td,td,tf [ci],td,td,tf [sa [Kd.sl kPt,Kd.sl Aa,kI,kI,kI,kI,kI,kI,kI]],tf [ci],tf [ci]]++dd 9,[],[]⟩
def Q7z:List (Ex×Sk):=[(Ex.exit 0,⟨[td,td,td,tf [ci]]++dd 14,[],[]⟩)]
def O5:Lp:=AG PG Qjw 64 3 (AH PG 29 3) Q7e Q7z
def Q3o (D:Lp):Cfg:=Qjw.loop 3 Q7e Q7z D
def Qmv (D:Lp):Fn:=Am PG (Q3o D) 64 29 Qf9 Y3
theorem Zhn (L:Int) (G:Rw) (M D:Int):O5 [I L, .vC [Kd.sl kPt,Kd.sl Aa,kI,kI,kI,kI,kI,kI,kI] G,I M,I D]=
 cond (decide (D<M)) (cond (decide (0<=D)&&decide (D<(G.length:Int))) (some (0,[I (mx L (gA (nth [] G D.toNat) 3)), .vC [Kd.sl kPt,Kd.sl Aa,kI,kI,kI,kI,kI,kI,kI] G,I M,I (O (D+1))])) (none)) (some (1,[I L])):=by kernel_rfl
theorem Z1l (G:Lp) (D:Rw):Qmv G [.vC [Kd.sl kPt,Kd.sl Aa,kI,kI,kI,kI,kI,kI,kI] D]=
 (G [I 0, .vC [Kd.sl kPt,Kd.sl Aa,kI,kI,kI,kI,kI,kI,kI] D,I (D.length:Int),I 0]).bind λo1=>
 cond (o1.1.beq 1) (some [jA o1.2 0]) (none):=by kernel_rfl
def Q9v:=Al (O5)
def R6:=Qmv Q9v
theorem Qyj:Ai PG (Qjw):=An rfl trivial
theorem Zvk:Ak PG (Yjq R6):=rw2 (C:=Q3o Q9v) (fl fb Qyj) Qyj
def Sz:Sk:=⟨[tf [se 20000 22],TS.v true (cc 9++[sa Aa]++cc 9++[sa Aa]++cc 9++[sa Aa]++cc 5)],[],[(20000,31,Ae)]⟩
def S7:Sk:=⟨[TS.v true (cc 9++[sa Aa]++cc 9++[sa Aa]++cc 9++[sa Aa]++cc 5)],[],[(20000,31,Ae)]⟩
def Zwk:=qd 13 Sz S7
def C_cnclaw44_quick_0:Cfg:={cf []with keepIn:=true}
def Qyz:Sk:=⟨[tf [se 20000 22],td,td,tf [sd 3 0],tf [sd 4 0],td,td,tf [ci],tf [ci]]++dd 40,[(3,38,cc 9++[sa Aa]++cc 9++[sa Aa]++cc 9++[sa Aa]++cc 5),(4,38,cc 9++[sa Aa]++cc 9++[sa Aa]++cc 9++[sa Aa]++cc 5)],[(20000,31,Ae)]⟩
def Zdg:List (Ex×Sk):=[(Ex.exit 0,⟨[tf [se 20000 22],td,td,tf [sd 3 0],tf [sd 4 0]]++dd 44,[(3,38,cc 9++[sa Aa]++cc 9++[sa Aa]++cc 9++[sa Aa]++cc 5),(4,38,cc 9++[sa Aa]++cc 9++[sa Aa]++cc 9++[sa Aa]++cc 5)],[(20000,31,Ae)]⟩)]
def Qld:Lp:=AG PG C_cnclaw44_quick_0 64 2 (AH PG 13 2) Qyz Zdg
def Qph (D:Lp):Cfg:=C_cnclaw44_quick_0.loop 2 Qyz Zdg D
def Zhp (D:Lp):Fn:=Am PG (Qph D) 64 13 Sz S7
abbrev Qos (D:Int) (G:Rw) (v1 v3 v4 v5 v6 v7 v8 v9 v10 v11:Int) (v12:Rw) (L M N S T U V v20 v21:Int) (v22:Rw) (X v24 v25 Y v27 v28 a0 v30 v31:Int) (a1:Rw) (v33 a2 v35 v36 v37 v38 a3 v40 a4 v42 a5 v44 a6 v46:Int) (a7:Rw) (v48 v49 a8 v51 a9 v53 b0 b1 b2:Int) (b3:Rw) (b4 v59 b5 b6 b7 v63 b8 v65 b9:Int) (c0:Rw) (v68 v69 v70 c1 v72:Int):Option (Nat×List AC):=
 cond (decide (0<=D)&&decide (D<(G.length:Int))) (some (0,[.vC Ae (G.set D.toNat [jA (nth [] G D.toNat) 0,jA (nth [] G D.toNat) 1,jA (nth [] G D.toNat) 2,jA (nth [] G D.toNat) 3,jA (nth [] G D.toNat) 4,jA (nth [] G D.toNat) 5,jA (nth [] G D.toNat) 6,jA (nth [] G D.toNat) 7,jA (nth [] G D.toNat) 8,jA (nth [] G D.toNat) 9,jA (nth [] G D.toNat) 10,jA (nth [] G D.toNat) 11,jA (nth [] G D.toNat) 12,B (bA (nth [] G D.toNat) 13),I 2000000,B (bA (nth [] G D.toNat) 15),jA (nth [] G D.toNat) 16,jA (nth [] G D.toNat) 17,jA (nth [] G D.toNat) 18,jA (nth [] G D.toNat) 19,jA (nth [] G D.toNat) 20,B (bA (nth [] G D.toNat) 21)]),I v1,I (O (D+1)),I v3,I v4,I v5,I v6,I v7,I v8,I v9,I v10,I v11, .vC Aa v12,I L,I M,I N,I S,I T,I U,I V,I v20,I v21, .vC Aa v22,I X,I v24,I v25,I Y,I v27,I v28,I a0,I v30,I v31, .vC Aa a1,I v33,I a2,I v35,I v36,I v37,I v38,I a3,I v40,I a4,I v42,I a5,I v44,I a6,I v46, .vC Aa a7,I v48,I v49,I a8,I v51,I a9,I v53,I b0,I b1,I b2, .vC Aa b3,I b4,I v59,I b5,I b6,I b7,I v63,I b8,I v65,I b9, .vC Aa c0,I v68,I v69,I v70,I c1,I v72])) (none)
attribute [go_sem] Qos
theorem Z8m (v0:Rw) (v1 D v3 v4 v5 v6 v7 v8 v9 v10 v11:Int) (v12:Rw) (G L M N S T U v20 v21:Int) (v22:Rw) (V v24 v25 X v27 v28 Y v30 v31:Int) (a0:Rw) (v33 a1 v35 v36 v37 v38 a2 v40 a3 v42 a4 v44 a5 v46:Int) (a6:Rw) (v48 v49 a7 v51 a8 v53 a9 b0 b1:Int) (b2:Rw) (b3 v59 b4 b5 b6 v63 b7 v65 b8:Int) (b9:Rw) (v68 v69 v70 c0 v72:Int):Qld [.vC Ae v0,I v1,I D,I v3,I v4,I v5,I v6,I v7,I v8,I v9,I v10,I v11, .vC Aa v12,I G,I L,I M,I N,I S,I T,I U,I v20,I v21, .vC Aa v22,I V,I v24,I v25,I X,I v27,I v28,I Y,I v30,I v31, .vC Aa a0,I v33,I a1,I v35,I v36,I v37,I v38,I a2,I v40,I a3,I v42,I a4,I v44,I a5,I v46, .vC Aa a6,I v48,I v49,I a7,I v51,I a8,I v53,I a9,I b0,I b1, .vC Aa b2,I b3,I v59,I b4,I b5,I b6,I v63,I b7,I v65,I b8, .vC Aa b9,I v68,I v69,I v70,I c0,I v72]=
 cond (decide (D<v1)) (cond (decide (0<=D)&&decide (D<(v0.length:Int))) (cond (gA (nth [] v0 D.toNat) 0==2) (Qos D v0 v1 v3 v4 v5 v6 v7 v8 v9 v10 v11 v12 G L M N S T U v20 v21 v22 V v24 v25 X v27 v28 Y v30 v31 a0 v33 a1 v35 v36 v37 v38 a2 v40 a3 v42 a4 v44 a5 v46 a6 v48 v49 a7 v51 a8 v53 a9 b0 b1 b2 b3 v59 b4 b5 b6 v63 b7 v65 b8 b9 v68 v69 v70 c0 v72) (cond (decide (0<=D)&&decide (D<(v0.length:Int))) (cond (gA (nth [] v0 D.toNat) 0==3) (Qos D v0 v1 v3 v4 v5 v6 v7 v8 v9 v10 v11 v12 G L M N S T U v20 v21 v22 V v24 v25 X v27 v28 Y v30 v31 a0 v33 a1 v35 v36 v37 v38 a2 v40 a3 v42 a4 v44 a5 v46 a6 v48 v49 a7 v51 a8 v53 a9 b0 b1 b2 b3 v59 b4 b5 b6 v63 b7 v65 b8 b9 v68 v69 v70 c0 v72) (some (0,[.vC Ae v0,I v1,I (O (D+1)),I v3,I v4,I v5,I v6,I v7,I v8,I v9,I v10,I v11, .vC Aa v12,I G,I L,I M,I N,I S,I T,I U,I v20,I v21, .vC Aa v22,I V,I v24,I v25,I X,I v27,I v28,I Y,I v30,I v31, .vC Aa a0,I v33,I a1,I v35,I v36,I v37,I v38,I a2,I v40,I a3,I v42,I a4,I v44,I a5,I v46, .vC Aa a6,I v48,I v49,I a7,I v51,I a8,I v53,I a9,I b0,I b1, .vC Aa b2,I b3,I v59,I b4,I b5,I b6,I v63,I b7,I v65,I b8, .vC Aa b9,I v68,I v69,I v70,I c0,I v72]))) (none))) (none)) (some (1,[.vC Ae v0,I v3,I v4,I v5,I v6,I v7,I v8,I v9,I v10,I v11, .vC Aa v12,I G,I L,I M,I N,I S,I T,I U,I v20,I v21, .vC Aa v22,I V,I v24,I v25,I X,I v27,I v28,I Y,I v30,I v31, .vC Aa a0,I v33,I a1,I v35,I v36,I v37,I v38,I a2,I v40,I a3,I v42,I a4,I v44,I a5,I v46, .vC Aa a6,I v48,I v49,I a7,I v51,I a8,I v53,I a9,I b0,I b1, .vC Aa b2,I b3,I v59,I b4,I b5,I b6,I v63,I b7,I v65,I b8, .vC Aa b9,I v68,I v69,I v70,I c0,I v72])):=by kernel_rfl
theorem Yg6 (N2:Lp) (x0:Rw) (x1 x2 x3 x4 x5 x6 x7 x8 x9:Int) (D:Rw) (G L M N S T U V X:Int) (Y:Rw) (a0 a1 a2 a3 a4 a5 a6 a7 a8:Int) (a9:Rw) (b0 b1 b2 b3 b4:Int):Zhp N2 [.vC Ae x0,I x1,I x2,I x3,I x4,I x5,I x6,I x7,I x8,I x9, .vC Aa D,I G,I L,I M,I N,I S,I T,I U,I V,I X, .vC Aa Y,I a0,I a1,I a2,I a3,I a4,I a5,I a6,I a7,I a8, .vC Aa a9,I b0,I b1,I b2,I b3,I b4]=
 (N2 [.vC Ae x0,I (x0.length:Int),I 0,I x1,I x2,I x3,I x4,I x5,I x6,I x7,I x8,I x9, .vC Aa D,I G,I L,I M,I N,I S,I T,I U,I V,I X, .vC Aa Y,I a0,I a1,I a2,I a3,I a4,I a5,I a6,I a7,I a8, .vC Aa a9,I b0,I b1,I b2,I b3,I b4,I 0,I 0,I 0,I 0,I 0,I 0,I 0,I 0,I 0, .vC Aa [],I 0,I 0,I 0,I 0,I 0,I 0,I 0,I 0,I 0, .vC Aa [],I 0,I 0,I 0,I 0,I 0,I 0,I 0,I 0,I 0, .vC Aa [],I 0,I 0,I 0,I 0,I 0]).bind λo1=>
 cond (o1.1.beq 1) (some [.vC Ae (wA o1.2 0),jA o1.2 1,jA o1.2 2,jA o1.2 3,jA o1.2 4,jA o1.2 5,jA o1.2 6,jA o1.2 7,jA o1.2 8,jA o1.2 9, .vC Aa (wA o1.2 10),jA o1.2 11,jA o1.2 12,jA o1.2 13,jA o1.2 14,jA o1.2 15,jA o1.2 16,jA o1.2 17,jA o1.2 18,jA o1.2 19, .vC Aa (wA o1.2 20),jA o1.2 21,jA o1.2 22,jA o1.2 23,jA o1.2 24,jA o1.2 25,jA o1.2 26,jA o1.2 27,jA o1.2 28,jA o1.2 29, .vC Aa (wA o1.2 30),I (O (gA o1.2 31+50)),I (O (gA o1.2 32+10)),I (O (gA o1.2 33+2000)),jA o1.2 34,jA o1.2 35]) (none):=by kernel_rfl
def RL:=Al (Qld)
def Pv:=Zhp RL
theorem Sp:Ai PG (C_cnclaw44_quick_0):=An rfl trivial
theorem k13:OE PG 13 (Ab Sz S7 Pv):=Zti (C:=Qph RL) (L:=64) (Sp) eqOk GI rfl (Jh (by kernel_rfl)) (by kernel_rfl) (by kernel_rfl) ⟨_,_,rfl⟩ (Z7g Sp eqOk GI rfl rfl (by kernel_rfl) (by kernel_rfl) (by kernel_rfl) (by kernel_rfl) (by kernel_rfl))
theorem Z8c:Ak PG (Zwk Pv):=rw2 (C:=Qph RL) (fl fb Sp) Sp
def Yn:Sk:=⟨[tf [sa Aa],tf [sa Aa],tf [sa Aa],tf [sa Aa]],[],[]⟩
def Zxn:=qd 10 Yn V1
def Qkf (D:Fn):Cfg:=cf [Yhg D]
def Qcx (D:Fn):Fn:=Am PG (Qkf D) 64 10 Yn V1
theorem Zl9 (D:Fn) (G I L M:Rw):Qcx D [.vC Aa G, .vC Aa I, .vC Aa L, .vC Aa M]=
 (D [.vC [Kd.sl Aa] [[.vC Aa G],[.vC Aa I],[.vC Aa L],[.vC Aa M]]]).bind λo1=>
 some [B (bA o1 0)]:=by kernel_rfl
def QG:=Qcx KK
theorem Yb6:Ai PG (Qkf KK):=An rfl ⟨Zrt,trivial⟩
theorem Znm:Ak PG (Zxn QG):=rw1 (C:=Qkf KK) Yb6
def Yfa:=qd 9 Qbj V1
def Zs (PB D G:Fn):Cfg:=cf [(31,Ab Qd Rt PB),Zik D,Zad G]
def Qkw (PB D G:Fn):Fn:=Am PG (Zs PB D G) 64 9 Qbj V1
theorem Yij (PB D G:Fn):Qkw PB D G []=
 (G [I 8,I 10,I 10,I 10,I (-16777216),I 16777216,I 0,I 0,I 0, .vC Aa [],I 8,I 10,I 10,I 10,I (-16777216),I 16777216,I 0,I 0,I 0, .vC Aa [],I 8,I 10,I 10,I 10,I (-16777216),I 16777216,I 0,I 0,I 0, .vC Aa [],I 9,I 3,I 100,I 1,I 0, .vC Ae [], .vC kPt [],I 5]).bind λo3=>
 cond (gA o3 1==0) (cond ((↑(wA o3 0).length:Int)==1) ((D [.vC [Kd.sl kPt,Kd.sl Aa,kI,kI,kI,kI,kI,kI,kI] (wA o3 0)]).bind λo4=>
 cond (bA o4 0) ((PB [.vC [Kd.sl kPt,Kd.sl Aa,kI,kI,kI,kI,kI,kI,kI] [[.vC (Aa++(Aa++(Aa++[]))) [], .vC Aa [],I 7,I 160,I 0,I 0,I 0,I 0,I 0]]]).bind λL=>
 some [B ((Bd (nth .vD L 0)).toList==(ByteArray.mk #[48,32,109,111,100,101,55,32,97,116,49,54,48,32,102,97,117,108,116,48,10]).toList)]) (some [B false])) (some [B false])) (some [B false]):=by kernel_rfl
def Rl:=Qkw QI I9 KX
theorem Zqv:Ai PG (Zs QI I9 KX):=An rfl ⟨Zr5,Q32,Qx0,trivial⟩
theorem Zu6:Ak PG (Yfa Rl):=rw1 (C:=Zs QI I9 KX) Zqv
def Qy8:Sk:=⟨[tf [sa Aa],tf [sa Aa],tf [sa Aa],tf [ci],tf [ci]],[],[]⟩
def Qdy (D G I L M N O S T U V:Fn):Cfg:={cp [Yjq D,Zik G,Zn1 I,Zpd L,Zad M,Zwk N,Ztj O,Zxh S,Q1u T,Zxn U,Yfa V] [13,11]with lend:=λf=>AN [13] f,keepR:=λf=>AN [13] f}
def Qss (D G I L M N O S T U V:Fn):Fn:=Am PG (Qdy D G I L M N O S T U V) 64 6 Qy8 V1
theorem Yft (S Gq Ph Px Gv Py NP OI T Oh Ox:Fn) (U V X:Rw) (x3 x4:Int):Qss S Gq Ph Px Gv Py NP OI T Oh Ox [.vC Aa U, .vC Aa V, .vC Aa X,I x3,I x4]=
 (Ox []).bind λY=>
 cond (!bA Y 0) (some [B false]) ((Oh [.vC Aa U, .vC Aa V, .vC Aa X, .vC Aa []]).bind λa0=>
 cond (!bA a0 0) (some [B true]) ((T [I x3,I 4]).bind λa1=>
 (OI [.vC Aa U,I (O (1+gA a1 0))]).bind λa2=>
 (NP [.vC Aa V, .vC Aa X]).bind λG=>
 (Py [.vC Ae (wA a2 0),jA G 0,jA G 1,jA G 2,jA G 3,jA G 4,jA G 5,jA G 6,jA G 7,jA G 8, .vC Aa (wA G 9),jA G 10,jA G 11,jA G 12,jA G 13,jA G 14,jA G 15,jA G 16,jA G 17,jA G 18, .vC Aa (wA G 19),jA G 20,jA G 21,jA G 22,jA G 23,jA G 24,jA G 25,jA G 26,jA G 27,jA G 28, .vC Aa (wA G 29),jA G 30,jA G 31,jA G 32,jA G 33,jA G 34]).bind λD=>
 (T [I x4,I 60]).bind λM=>
 (Gv [jA D 1,jA D 2,jA D 3,jA D 4,jA D 5,jA D 6,jA D 7,jA D 8,jA D 9, .vC Aa (wA D 10),jA D 11,jA D 12,jA D 13,jA D 14,jA D 15,jA D 16,jA D 17,jA D 18,jA D 19, .vC Aa (wA D 20),jA D 21,jA D 22,jA D 23,jA D 24,jA D 25,jA D 26,jA D 27,jA D 28,jA D 29, .vC Aa (wA D 30),jA D 31,jA D 32,jA D 33,jA D 34,jA D 35, .vC Ae (wA D 0), .vC kPt [[I 0,I 3,I 0],[jA M 0,I 4,I 0]],jA M 0]).bind λL=>
 (Px [.vC Ae (wA D 0)]).bind λN=>
 cond (gA L 1==0) (cond (gA N 5==0) ((Ph [.vC [Kd.sl kPt,Kd.sl Aa,kI,kI,kI,kI,kI,kI,kI] (wA L 0)]).bind λa3=>
 cond ((↑(wA a3 0).length:Int)==0) (cond ((↑(wA N 3).length:Int)==0) ((S [.vC [Kd.sl kPt,Kd.sl Aa,kI,kI,kI,kI,kI,kI,kI] (wA L 0)]).bind λa4=>
 some [B (gA a4 0==0)]) (cond ((↑(wA L 0).length:Int)==gA M 0) ((Gq [.vC [Kd.sl kPt,Kd.sl Aa,kI,kI,kI,kI,kI,kI,kI] (wA L 0)]).bind λa5=>
 cond (!bA a5 0) ((S [.vC [Kd.sl kPt,Kd.sl Aa,kI,kI,kI,kI,kI,kI,kI] (wA L 0)]).bind λa6=>
 some [B (gA a6 0==0)]) (some [B false])) (some [B false]))) (some [B false])) (some [B false])) (some [B false]))):=by kernel_rfl
def Qz9:=Qss R6 I9 Rj QC KX Pv Oa Nz HF QG Rl
theorem Zvf:Ai PG (Qdy R6 I9 Rj QC KX Pv Oa Nz HF QG Rl):=Ye2 rfl ⟨Zvk,Q32,Ya0,Yhh,Qx0,Z8c,Ygq,Yhc,Qxs,Znm,Zu6,trivial⟩ rfl (H7 rfl (H7 rfl (H7 rfl (H7 rfl (H7 rfl (Yi5 k13 (H7 rfl (H7 rfl (H7 rfl (H7 rfl (H7 rfl Yg5)))))))))))
theorem Ybn:∀(args:List TV) (v:TV) (mem:Mem),(Ab Qy8 V1 Qz9 (TV×Mem) args ⟨[],[]⟩ λv m=>some (v,m))=some (v,mem)->PCallM PG 6 args ⟨[],[]⟩ v mem:=λargs v mem h=>Ykw (f:=6) (C:=Qdy R6 I9 Rj QC KX Pv Oa Nz HF QG Rl) (L:=64) (by kernel_rfl) (FnOK.bare rfl rfl rfl) Zvf eqOk GI (by kernel_rfl) (by kernel_rfl) args v mem h
end Go.Bm
