/- functions of the program and of the references, as models -/
import Derived.Test.YtnnpdlgenmnekaaGreatDoorMx3
import Derived.Test.YtnnpdlgenmnekaaGreatDoorSeFm
set_option linter.unusedSimpArgs false
set_option linter.unusedVariables false
set_option maxRecDepth 100000
noncomputable section
namespace Go.Bm
open Go.Proofs
def Xi:Sk:=⟨[tf [sa Aa],tf [sa Aa],tf [sa Aa],tf [sa Aa]],[],[]⟩
def Zo2:=qa 10 Xi Qhz
def Qgo (D:Fn):Cfg:=cf [Z8e D]
def ZY (D:Fn):Fn:=An PG (Qgo D) 64 10 Xi Qhz
theorem Zej (D:Fn) (G I L M:Rw):ZY D [.vC Aa G, .vC Aa I, .vC Aa L, .vC Aa M]=
 (D [.vC [Kd.sl Aa] [[.vC Aa G],[.vC Aa I],[.vC Aa L],[.vC Aa M]]]).bind λo1=>
 some [B (bA o1 0)]:=by kernel_rfl
def PQ:=ZY Kz
theorem Z2r:Ai PG (Qgo Kz):=Ao rfl ⟨Zjn,trivial⟩
theorem Zfr:Al PG (Zo2 PQ):=rw1 (C:=Qgo Kz) Z2r
def Z5s:=qa 9 Zp Qhz
def Yg (D G I:Fn):Cfg:=cf [(31,Ac Pu QR D),Z9q G,Q36 I]
def Qg4 (D G I:Fn):Fn:=An PG (Yg D G I) 64 9 Zp Qhz
theorem Z9c (D G L:Fn):Qg4 D G L []=
 (L [I 8,I 10,I 10,I 10,I (-16777216),I 16777216,I 0,I 0,I 0, .vC Aa [],I 8,I 10,I 10,I 10,I (-16777216),I 16777216,I 0,I 0,I 0, .vC Aa [],I 8,I 10,I 10,I 10,I (-16777216),I 16777216,I 0,I 0,I 0, .vC Aa [],I 9,I 3,I 100,I 1,I 0, .vC Ah [], .vC kPt [],I 5]).bind λo3=>
 cond (gA o3 1==0) (cond ((↑(wA o3 0).length:Int)==1) ((G [.vC [Kd.sl kPt,Kd.sl Aa,kI,kI,kI,kI,kI,kI,kI] (wA o3 0)]).bind λo4=>
 cond (bA o4 0) ((D [.vC [Kd.sl kPt,Kd.sl Aa,kI,kI,kI,kI,kI,kI,kI] [[.vC (Aa++(Aa++(Aa++[]))) [], .vC Aa [],I 7,I 160,I 0,I 0,I 0,I 0,I 0]]]).bind λM=>
 some [B ((A7 (nth .vD M 0)).toList==(ByteArray.mk #[48,32,109,111,100,101,55,32,97,116,49,54,48,32,102,97,117,108,116,48,10]).toList)]) (some [B false])) (some [B false])) (some [B false]):=by kernel_rfl
def QG:=Qg4 PU P0 Jw
theorem Ziw:Ai PG (Yg PU P0 Jw):=Ao rfl ⟨Zj1,Zp2,Qto,trivial⟩
theorem Zms:Al PG (Z5s QG):=rw1 (C:=Yg PU P0 Jw) Ziw
def RM:Sk:=⟨[tf [se 20000 22],TS.v true (cc 9++[sa Aa]++cc 9++[sa Aa]++cc 9++[sa Aa]++cc 5)],[],[(20000,31,Ah)]⟩
def Ss:Sk:=⟨[TS.v true (cc 9++[sa Aa]++cc 9++[sa Aa]++cc 9++[sa Aa]++cc 5)],[],[(20000,31,Ah)]⟩
def Zn4:=qa 13 RM Ss
def C_cnclaw44_quick_0:Cfg:={cf []with keepIn:=true}
def Qul:Sk:=⟨[tf [se 20000 22],td,td,tf [sd 3 0],tf [sd 4 0],td,td,tf [ci],tf [ci]]++dd 40,[(3,38,cc 9++[sa Aa]++cc 9++[sa Aa]++cc 9++[sa Aa]++cc 5),(4,38,cc 9++[sa Aa]++cc 9++[sa Aa]++cc 9++[sa Aa]++cc 5)],[(20000,31,Ah)]⟩
def Q66:List (Ex×Sk):=[(Ex.exit 0,⟨[tf [se 20000 22],td,td,tf [sd 3 0],tf [sd 4 0]]++dd 44,[(3,38,cc 9++[sa Aa]++cc 9++[sa Aa]++cc 9++[sa Aa]++cc 5),(4,38,cc 9++[sa Aa]++cc 9++[sa Aa]++cc 9++[sa Aa]++cc 5)],[(20000,31,Ah)]⟩)]
def Qhk:Lp:=AL PG C_cnclaw44_quick_0 64 2 (AN PG 13 2) Qul Q66
def Qle (D:Lp):Cfg:=C_cnclaw44_quick_0.loop 2 Qul Q66 D
def Zao (D:Lp):Fn:=An PG (Qle D) 64 13 RM Ss
abbrev Qko (D:Int) (G:Rw) (v1 v3 v4 v5 v6 v7 v8 v9 v10 v11:Int) (v12:Rw) (L M N O S T U v20 v21:Int) (v22:Rw) (X v24 v25 Y v27 v28 a0 v30 v31:Int) (a1:Rw) (v33 a2 v35 v36 v37 v38 a3 v40 a4 v42 a5 v44 a6 v46:Int) (a7:Rw) (v48 v49 a8 v51 a9 v53 b0 b1 b2:Int) (b3:Rw) (b4 v59 b5 b6 b7 v63 b8 v65 b9:Int) (c0:Rw) (v68 v69 v70 c1 v72:Int):Option (Nat×List AC):=
 cond (decide (0<=D)&&decide (D<(G.length:Int))) (some (0,[.vC Ah (G.set D.toNat [jA (nth [] G D.toNat) 0,jA (nth [] G D.toNat) 1,jA (nth [] G D.toNat) 2,jA (nth [] G D.toNat) 3,jA (nth [] G D.toNat) 4,jA (nth [] G D.toNat) 5,jA (nth [] G D.toNat) 6,jA (nth [] G D.toNat) 7,jA (nth [] G D.toNat) 8,jA (nth [] G D.toNat) 9,jA (nth [] G D.toNat) 10,jA (nth [] G D.toNat) 11,jA (nth [] G D.toNat) 12,B (bA (nth [] G D.toNat) 13),I 2000000,B (bA (nth [] G D.toNat) 15),jA (nth [] G D.toNat) 16,jA (nth [] G D.toNat) 17,jA (nth [] G D.toNat) 18,jA (nth [] G D.toNat) 19,jA (nth [] G D.toNat) 20,B (bA (nth [] G D.toNat) 21)]),I v1,I (V (D+1)),I v3,I v4,I v5,I v6,I v7,I v8,I v9,I v10,I v11, .vC Aa v12,I L,I M,I N,I O,I S,I T,I U,I v20,I v21, .vC Aa v22,I X,I v24,I v25,I Y,I v27,I v28,I a0,I v30,I v31, .vC Aa a1,I v33,I a2,I v35,I v36,I v37,I v38,I a3,I v40,I a4,I v42,I a5,I v44,I a6,I v46, .vC Aa a7,I v48,I v49,I a8,I v51,I a9,I v53,I b0,I b1,I b2, .vC Aa b3,I b4,I v59,I b5,I b6,I b7,I v63,I b8,I v65,I b9, .vC Aa c0,I v68,I v69,I v70,I c1,I v72])) (none)
attribute [go_sem] Qko
theorem Zzc (v0:Rw) (v1 D v3 v4 v5 v6 v7 v8 v9 v10 v11:Int) (v12:Rw) (G L M N O S T v20 v21:Int) (v22:Rw) (U v24 v25 X v27 v28 Y v30 v31:Int) (a0:Rw) (v33 a1 v35 v36 v37 v38 a2 v40 a3 v42 a4 v44 a5 v46:Int) (a6:Rw) (v48 v49 a7 v51 a8 v53 a9 b0 b1:Int) (b2:Rw) (b3 v59 b4 b5 b6 v63 b7 v65 b8:Int) (b9:Rw) (v68 v69 v70 c0 v72:Int):Qhk [.vC Ah v0,I v1,I D,I v3,I v4,I v5,I v6,I v7,I v8,I v9,I v10,I v11, .vC Aa v12,I G,I L,I M,I N,I O,I S,I T,I v20,I v21, .vC Aa v22,I U,I v24,I v25,I X,I v27,I v28,I Y,I v30,I v31, .vC Aa a0,I v33,I a1,I v35,I v36,I v37,I v38,I a2,I v40,I a3,I v42,I a4,I v44,I a5,I v46, .vC Aa a6,I v48,I v49,I a7,I v51,I a8,I v53,I a9,I b0,I b1, .vC Aa b2,I b3,I v59,I b4,I b5,I b6,I v63,I b7,I v65,I b8, .vC Aa b9,I v68,I v69,I v70,I c0,I v72]=
 cond (decide (D<v1)) (cond (decide (0<=D)&&decide (D<(v0.length:Int))) (cond (gA (nth [] v0 D.toNat) 0==2) (Qko D v0 v1 v3 v4 v5 v6 v7 v8 v9 v10 v11 v12 G L M N O S T v20 v21 v22 U v24 v25 X v27 v28 Y v30 v31 a0 v33 a1 v35 v36 v37 v38 a2 v40 a3 v42 a4 v44 a5 v46 a6 v48 v49 a7 v51 a8 v53 a9 b0 b1 b2 b3 v59 b4 b5 b6 v63 b7 v65 b8 b9 v68 v69 v70 c0 v72) (cond (decide (0<=D)&&decide (D<(v0.length:Int))) (cond (gA (nth [] v0 D.toNat) 0==3) (Qko D v0 v1 v3 v4 v5 v6 v7 v8 v9 v10 v11 v12 G L M N O S T v20 v21 v22 U v24 v25 X v27 v28 Y v30 v31 a0 v33 a1 v35 v36 v37 v38 a2 v40 a3 v42 a4 v44 a5 v46 a6 v48 v49 a7 v51 a8 v53 a9 b0 b1 b2 b3 v59 b4 b5 b6 v63 b7 v65 b8 b9 v68 v69 v70 c0 v72) (some (0,[.vC Ah v0,I v1,I (V (D+1)),I v3,I v4,I v5,I v6,I v7,I v8,I v9,I v10,I v11, .vC Aa v12,I G,I L,I M,I N,I O,I S,I T,I v20,I v21, .vC Aa v22,I U,I v24,I v25,I X,I v27,I v28,I Y,I v30,I v31, .vC Aa a0,I v33,I a1,I v35,I v36,I v37,I v38,I a2,I v40,I a3,I v42,I a4,I v44,I a5,I v46, .vC Aa a6,I v48,I v49,I a7,I v51,I a8,I v53,I a9,I b0,I b1, .vC Aa b2,I b3,I v59,I b4,I b5,I b6,I v63,I b7,I v65,I b8, .vC Aa b9,I v68,I v69,I v70,I c0,I v72]))) (none))) (none)) (some (1,[.vC Ah v0,I v3,I v4,I v5,I v6,I v7,I v8,I v9,I v10,I v11, .vC Aa v12,I G,I L,I M,I N,I O,I S,I T,I v20,I v21, .vC Aa v22,I U,I v24,I v25,I X,I v27,I v28,I Y,I v30,I v31, .vC Aa a0,I v33,I a1,I v35,I v36,I v37,I v38,I a2,I v40,I a3,I v42,I a4,I v44,I a5,I v46, .vC Aa a6,I v48,I v49,I a7,I v51,I a8,I v53,I a9,I b0,I b1, .vC Aa b2,I b3,I v59,I b4,I b5,I b6,I v63,I b7,I v65,I b8, .vC Aa b9,I v68,I v69,I v70,I c0,I v72])):=by kernel_rfl
theorem Z70 (N2:Lp) (x0:Rw) (x1 x2 x3 x4 x5 x6 x7 x8 x9:Int) (D:Rw) (G L M N O S T U X:Int) (Y:Rw) (a0 a1 a2 a3 a4 a5 a6 a7 a8:Int) (a9:Rw) (b0 b1 b2 b3 b4:Int):Zao N2 [.vC Ah x0,I x1,I x2,I x3,I x4,I x5,I x6,I x7,I x8,I x9, .vC Aa D,I G,I L,I M,I N,I O,I S,I T,I U,I X, .vC Aa Y,I a0,I a1,I a2,I a3,I a4,I a5,I a6,I a7,I a8, .vC Aa a9,I b0,I b1,I b2,I b3,I b4]=
 (N2 [.vC Ah x0,I (x0.length:Int),I 0,I x1,I x2,I x3,I x4,I x5,I x6,I x7,I x8,I x9, .vC Aa D,I G,I L,I M,I N,I O,I S,I T,I U,I X, .vC Aa Y,I a0,I a1,I a2,I a3,I a4,I a5,I a6,I a7,I a8, .vC Aa a9,I b0,I b1,I b2,I b3,I b4,I 0,I 0,I 0,I 0,I 0,I 0,I 0,I 0,I 0, .vC Aa [],I 0,I 0,I 0,I 0,I 0,I 0,I 0,I 0,I 0, .vC Aa [],I 0,I 0,I 0,I 0,I 0,I 0,I 0,I 0,I 0, .vC Aa [],I 0,I 0,I 0,I 0,I 0]).bind λo1=>
 cond (o1.1.beq 1) (some [.vC Ah (wA o1.2 0),jA o1.2 1,jA o1.2 2,jA o1.2 3,jA o1.2 4,jA o1.2 5,jA o1.2 6,jA o1.2 7,jA o1.2 8,jA o1.2 9, .vC Aa (wA o1.2 10),jA o1.2 11,jA o1.2 12,jA o1.2 13,jA o1.2 14,jA o1.2 15,jA o1.2 16,jA o1.2 17,jA o1.2 18,jA o1.2 19, .vC Aa (wA o1.2 20),jA o1.2 21,jA o1.2 22,jA o1.2 23,jA o1.2 24,jA o1.2 25,jA o1.2 26,jA o1.2 27,jA o1.2 28,jA o1.2 29, .vC Aa (wA o1.2 30),I (V (gA o1.2 31+50)),I (V (gA o1.2 32+10)),I (V (gA o1.2 33+2000)),jA o1.2 34,jA o1.2 35]) (none):=by kernel_rfl
def Q7:=Am (Qhk)
def OP:=Zao Q7
theorem RF:Ai PG (C_cnclaw44_quick_0):=Ao rfl trivial
theorem k13:NU PG 13 (Ac RM Ss OP):=Zlb (C:=Qle Q7) (L:=64) (RF) eqOk Hk rfl (IY (by kernel_rfl)) (by kernel_rfl) (by kernel_rfl) ⟨_,_,rfl⟩ (Zya RF eqOk Hk rfl rfl (by kernel_rfl) (by kernel_rfl) (by kernel_rfl) (by kernel_rfl) (by kernel_rfl))
theorem Zy4:Al PG (Zn4 OP):=rw2 (C:=Qle Q7) (fl fb RF) RF
def Qss:Sk:=⟨[tf [sa Aa],tf [sa Aa],tf [sa Aa],tf [sa Aa],tf [sa Aa],tf [ci]],[],[]⟩
def Ql8 (D G I L M N O S T U V:Fn):Cfg:={cp [Zle D,Zf4 G,Q36 I,Zku L,Z3u M,Zn4 N,Zlc O,Z6j S,Qwz T,Zo2 U,Z5s V] [13,22]with lend:=λf=>AH [13] f,keepR:=λf=>AH [13] f}
def Qd9 (D G I L M N O S T U V:Fn):Fn:=An PG (Ql8 D G I L M N O S T U V) 64 5 Qss Qhz
theorem Z3q (Mv S T U V OR Nl OS Gh NB NO:Fn) (X Y x2 x3 x4:Rw) (x5:Int):Qd9 Mv S T U V OR Nl OS Gh NB NO [.vC Aa X, .vC Aa Y, .vC Aa x2, .vC Aa x3, .vC Aa x4,I x5]=
 (NO []).bind λa0=>
 cond (!bA a0 0) (some [B false]) ((NB [.vC Aa X, .vC Aa Y, .vC Aa x2, .vC Aa x3]).bind λa1=>
 cond (!bA a1 0) (some [B true]) (cond (decide ((x4.length:Int)>60)) (some [B true]) ((Gh [I x5,I 7]).bind λa2=>
 (OS [.vC Aa X,jA a2 0,B true]).bind λa3=>
 (Nl [.vC Aa Y, .vC Aa x2]).bind λG=>
 (OR [.vC Ah (wA a3 0),jA G 0,jA G 1,jA G 2,jA G 3,jA G 4,jA G 5,jA G 6,jA G 7,jA G 8, .vC Aa (wA G 9),jA G 10,jA G 11,jA G 12,jA G 13,jA G 14,jA G 15,jA G 16,jA G 17,jA G 18, .vC Aa (wA G 19),jA G 20,jA G 21,jA G 22,jA G 23,jA G 24,jA G 25,jA G 26,jA G 27,jA G 28, .vC Aa (wA G 29),jA G 30,jA G 31,jA G 32,jA G 33,jA G 34]).bind λD=>
 (V [.vC Aa x3]).bind λa4=>
 (U [.vC kPt (wA a4 0)]).bind λa5=>
 (T [jA D 1,jA D 2,jA D 3,jA D 4,jA D 5,jA D 6,jA D 7,jA D 8,jA D 9, .vC Aa (wA D 10),jA D 11,jA D 12,jA D 13,jA D 14,jA D 15,jA D 16,jA D 17,jA D 18,jA D 19, .vC Aa (wA D 20),jA D 21,jA D 22,jA D 23,jA D 24,jA D 25,jA D 26,jA D 27,jA D 28,jA D 29, .vC Aa (wA D 30),jA D 31,jA D 32,jA D 33,jA D 34,jA D 35, .vC Ah (wA D 0), .vC kPt (wA a5 0),I 150]).bind λN=>
 (V [.vC Aa x4]).bind λa6=>
 (U [.vC kPt (wA a6 0)]).bind λa7=>
 (T [jA D 1,jA D 2,jA D 3,jA D 4,jA D 5,jA D 6,jA D 7,jA D 8,jA D 9, .vC Aa (wA D 10),jA D 11,jA D 12,jA D 13,jA D 14,jA D 15,jA D 16,jA D 17,jA D 18,jA D 19, .vC Aa (wA D 20),jA D 21,jA D 22,jA D 23,jA D 24,jA D 25,jA D 26,jA D 27,jA D 28,jA D 29, .vC Aa (wA D 30),jA D 31,jA D 32,jA D 33,jA D 34,jA D 35, .vC Ah (wA D 0), .vC kPt (wA a7 0),I 150]).bind λO=>
 (S [.vC [Kd.sl kPt,Kd.sl Aa,kI,kI,kI,kI,kI,kI,kI] (wA N 0)]).bind λL=>
 (S [.vC [Kd.sl kPt,Kd.sl Aa,kI,kI,kI,kI,kI,kI,kI] (wA O 0)]).bind λM=>
 cond (gA N 1==0) (cond (gA O 1==0) (cond (decide ((↑(wA N 0).length:Int)>0)) (cond (decide (0<=mn (↑(wA L 0).length:Int) (↑(wA M 0).length:Int))&&decide (mn (↑(wA L 0).length:Int) (↑(wA M 0).length:Int)<=(↑(wA L 0).length:Int))) (cond (decide (0<=mn (↑(wA L 0).length:Int) (↑(wA M 0).length:Int))&&decide (mn (↑(wA L 0).length:Int) (↑(wA M 0).length:Int)<=(↑(wA M 0).length:Int))) ((Mv [.vC kPt (List.take (mn (↑(wA L 0).length:Int) (↑(wA M 0).length:Int)).toNat (wA L 0)), .vC kPt (List.take (mn (↑(wA L 0).length:Int) (↑(wA M 0).length:Int)).toNat (wA M 0))]).bind λa8=>
 some [B (bA a8 0)]) (none)) (none)) (some [B false])) (some [B false])) (some [B false])))):=by kernel_rfl
def Qwt:=Qd9 PW QE Jw Qe Qd OP Qj Ot IL PQ QG
theorem Zwu:Ai PG (Ql8 PW QE Jw Qe Qd OP Qj Ot IL PQ QG):=Z5m rfl ⟨Zt7,Z1o,Qto,Zje,Z00,Zy4,Z7k,Zxq,Qtk,Zfr,Zms,trivial⟩ rfl (HU rfl (HU rfl (HU rfl (HU rfl (HU rfl (Z92 k13 (HU rfl (HU rfl (HU rfl (HU rfl (HU rfl Z7z)))))))))))
theorem Zfa:∀(args:List TV) (v:TV) (mem:Mem),(Ac Qss Qhz Qwt (TV×Mem) args ⟨[],[]⟩ λv m=>some (v,m))=some (v,mem)->PCallM PG 5 args ⟨[],[]⟩ v mem:=λargs v mem h=>Ybk (f:=5) (C:=Ql8 PW QE Jw Qe Qd OP Qj Ot IL PQ QG) (L:=64) (by kernel_rfl) (FnOK.bare rfl rfl rfl) Zwu eqOk Hk (by kernel_rfl) (by kernel_rfl) args v mem h
end Go.Bm
