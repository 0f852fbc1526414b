/- functions of the program and of the references, as models -/
import Derived.Test.YtnnpdlgenmnekaaGreatDoorMx3
import Derived.Test.YtnnpdlgenmnekaaGreatDoorSeFm
set_option linter.unusedSimpArgs false
set_option linter.unusedVariables false
set_option maxRecDepth 100000
noncomputable section
namespace Go.Bm
open Go.Proofs
def X0:Sk:=⟨[tf [sa Aa],tf [sa Aa],tf [sa Aa],tf [sa Aa]],[],[]⟩
def Zrk:=qa 10 X0 Qjj
def Qh9 (D:Fn):Cfg:=cf [Ybf D]
def Qba (D:Fn):Fn:=An PG (Qh9 D) 64 10 X0 Qjj
theorem Zgx (D:Fn) (G I L M:Rw):Qba D [.vC Aa G, .vC Aa I, .vC Aa L, .vC Aa M]=
 (D [.vC [Kd.sl Aa] [[.vC Aa G],[.vC Aa I],[.vC Aa L],[.vC Aa M]]]).bind λo1=>
 some [B (bA o1 0)]:=by kernel_rfl
def ND:=Qba KU
theorem Z5w:Aj PG (Qh9 KU):=Ao rfl ⟨Zl5,trivial⟩
theorem Zh5:Al PG (Zrk ND):=rw1 (C:=Qh9 KU) Z5w
def Z8u:=qa 9 Z_ Qjj
def YU (D G I:Fn):Cfg:=cf [(31,Ad PR Ri D),Ycp G,Q53 I]
def Qip (D G I:Fn):Fn:=An PG (YU D G I) 64 9 Z_ Qjj
theorem Ycb (D G L:Fn):Qip D G L []=
 (L [I 8,I 10,I 10,I 10,I (-16777216),I 16777216,I 0,I 0,I 0, .vC Aa [],I 8,I 10,I 10,I 10,I (-16777216),I 16777216,I 0,I 0,I 0, .vC Aa [],I 8,I 10,I 10,I 10,I (-16777216),I 16777216,I 0,I 0,I 0, .vC Aa [],I 9,I 3,I 100,I 1,I 0, .vC Ai [], .vC kPt [],I 5]).bind λo3=>
 cond (gA o3 1==0) (cond ((↑(wA o3 0).length:Int)==1) ((G [.vC [Kd.sl kPt,Kd.sl Aa,kI,kI,kI,kI,kI,kI,kI] (wA o3 0)]).bind λo4=>
 cond (bA o4 0) ((D [.vC [Kd.sl kPt,Kd.sl Aa,kI,kI,kI,kI,kI,kI,kI] [[.vC (Aa++(Aa++(Aa++[]))) [], .vC Aa [],I 7,I 160,I 0,I 0,I 0,I 0,I 0]]]).bind λM=>
 some [B ((A8 (nth .vD M 0)).toList==(ByteArray.mk #[48,32,109,111,100,101,55,32,97,116,49,54,48,32,102,97,117,108,116,48,10]).toList)]) (some [B false])) (some [B false])) (some [B false]):=by kernel_rfl
def Ow:=Qip Ql Qq JP
theorem Zle:Aj PG (YU Ql Qq JP):=Ao rfl ⟨Zmj,Zsm,Qvd,trivial⟩
theorem Zpa:Al PG (Z8u Ow):=rw1 (C:=YU Ql Qq JP) Zle
def Qyj:Sk:=⟨[tf [sa Aa],tf [sa Aa],tf [sa Aa],tf [sa Aa],tf [ci],tf [ci],tf [ci],TS.v true [ci,ci,ci]],[],[]⟩
def Z2 (D G I L M GE N O:Fn):Cfg:={cp [Ze9 D,Q53 G,Z60 I,Z9m L,Qyn M,Znt GE,Zrk N,Z8u O] [22]with prom:=λb=>cond (Nat.beq b 9) ([(20,65)]) ([])}
def Qtb:Sk:=⟨dd 6++[tf [ci]]++dd 8++[tf [sc 15 0],td,tf [sc 17 0],tf [sd 106100 22],tf [ci],tf [sd 20 3]]++dd 44++[tf [sa kPt],tf [ci],tf [ci]]++dd 60,[(15,65,[ci,ci,ci]),(17,38,cc 9++[sa Aa]++cc 9++[sa Aa]++cc 9++[sa Aa]++cc 5)],[(20,65,kPt),(106100,31,Ai)]⟩
def Q64:List (Ex×Sk):=[(Ex.exit 0,⟨dd 6++[tf [ci]]++dd 8++[tf [sc 15 0],td,tf [sc 17 0],tf [sd 106100 22],tf [ci],tf [sd 20 3]]++dd 107,[(15,65,[ci,ci,ci]),(17,38,cc 9++[sa Aa]++cc 9++[sa Aa]++cc 9++[sa Aa]++cc 5)],[(20,65,kPt),(106100,31,Ai)]⟩)]
def R5 (D G I L M GE N O:Fn):Lp:=AL PG (Z2 D G I L M GE N O) 64 9 (AK PG 4 9) Qtb Q64
def Qvs (D G I L M GE N O:Fn) (S:Lp):Cfg:=(Z2 D G I L M GE N O).loop 9 Qtb Q64 S
def YV (D G I L M GE N O:Fn) (S:Lp):Fn:=An PG (Qvs D G I L M GE N O S) 64 4 Qyj Qjj
theorem Qze (Hh DR Hc Hm Do GE GS G1:Fn) (v0 v1:Rw) (v2 v3:Int) (G:Rw) (v5 D v7 v8 v9 v10 v11 v12 L M N O S T:Int) (U:Rw) (v20 v21 v22 X v24 v25 Y v27 v28:Int) (a0:Rw) (v30 v31 a1 v33 a2 v35 v36 v37 v38:Int) (a3:Rw) (v40 a4 v42 a5 v44:Int):R5 Hh DR Hc Hm Do GE GS G1 [.vC kPt v0, .vC Ai v1,I v2,I v3, .vC kPt G,I v5,I D,I v7,I v8,I v9,I v10,I v11,I v12,I L,I M,I N,I O,I S,I T, .vC Aa U,I v20,I v21,I v22,I X,I v24,I v25,I Y,I v27,I v28, .vC Aa a0,I v30,I v31,I a1,I v33,I a2,I v35,I v36,I v37,I v38, .vC Aa a3,I v40,I a4,I v42,I a5,I v44]=
 cond (decide (D<v5)) (cond (decide (0<=D)&&decide (D<(G.length:Int))) (cond (decide (gA (nth [] G D.toNat) 0<v3)) (cond (((v0++[[jA (nth [] G D.toNat) 0,jA (nth [] G D.toNat) 1,jA (nth [] G D.toNat) 2]]).length*24).ble 140737488355328) (some (0,[.vC kPt (v0++[[jA (nth [] G D.toNat) 0,jA (nth [] G D.toNat) 1,jA (nth [] G D.toNat) 2]]), .vC Ai v1,I v2,I v3, .vC kPt G,I v5,I (V (D+1)),I v7,I v8,I v9,I v10,I v11,I v12,I L,I M,I N,I O,I S,I T, .vC Aa U,I v20,I v21,I v22,I X,I v24,I v25,I Y,I v27,I v28, .vC Aa a0,I v30,I v31,I a1,I v33,I a2,I v35,I v36,I v37,I v38, .vC Aa a3,I v40,I a4,I v42,I a5,I v44])) (none)) (some (0,[.vC kPt v0, .vC Ai v1,I v2,I v3, .vC kPt G,I v5,I (V (D+1)),I v7,I v8,I v9,I v10,I v11,I v12,I L,I M,I N,I O,I S,I T, .vC Aa U,I v20,I v21,I v22,I X,I v24,I v25,I Y,I v27,I v28, .vC Aa a0,I v30,I v31,I a1,I v33,I a2,I v35,I v36,I v37,I v38, .vC Aa a3,I v40,I a4,I v42,I a5,I v44]))) (none)) (some (1,[.vC kPt v0, .vC Ai v1,I v2,I v3,I v7,I v8,I v9,I v10,I v11,I v12,I L,I M,I N,I O,I S,I T, .vC Aa U,I v20,I v21,I v22,I X,I v24,I v25,I Y,I v27,I v28, .vC Aa a0,I v30,I v31,I a1,I v33,I a2,I v35,I v36,I v37,I v38, .vC Aa a3,I v40,I a4,I v42,I a5,I v44])):=by kernel_rfl
theorem Z1a (Hh X Hc Hm N GE GS G1:Fn) (N9:Lp) (Y x1 x2 x3:Rw) (x4 x5 x6 x7 T U:Int):YV Hh X Hc Hm N GE GS G1 N9 [.vC Aa Y, .vC Aa x1, .vC Aa x2, .vC Aa x3,I x4,I x5,I x6,I x7,I T,I U]=
 (G1 []).bind λa0=>
 cond (!bA a0 0) (some [B false]) ((GS [.vC Aa Y, .vC Aa x1, .vC Aa x2, .vC Aa x3]).bind λa1=>
 cond (!bA a1 0) (some [B true]) (cond (decide (T<1)) (some [B true]) (cond (decide (T>13)) (some [B true]) (cond (decide (U< -1073741824)) (some [B true]) (cond (decide (U>1073741824)) (some [B true]) ((GE [.vC Aa x1, .vC Aa x2]).bind λG=>
 (N [I x4,I 6]).bind λa2=>
 (Hm [.vC Aa Y,jA a2 0,B true]).bind λa3=>
 (N [I x5,I 60]).bind λa4=>
 (Hc [.vC Aa x3]).bind λO=>
 (N9 [.vC kPt [], .vC Ai (wA a3 0),I x6,jA a4 0, .vC kPt (wA O 0),I (↑(wA O 0).length:Int),I 0,I x7,I T,I U,jA G 0,jA G 1,jA G 2,jA G 3,jA G 4,jA G 5,jA G 6,jA G 7,jA G 8, .vC Aa (wA G 9),jA G 10,jA G 11,jA G 12,jA G 13,jA G 14,jA G 15,jA G 16,jA G 17,jA G 18, .vC Aa (wA G 19),jA G 20,jA G 21,jA G 22,jA G 23,jA G 24,jA G 25,jA G 26,jA G 27,jA G 28, .vC Aa (wA G 29),jA G 30,jA G 31,jA G 32,jA G 33,jA G 34]).bind λD=>
 cond (D.1.beq 1) ((N [jA D.2 2,I 1000]).bind λS=>
 (X [jA D.2 7,jA D.2 8,jA D.2 9,jA D.2 10,jA D.2 11,jA D.2 12,jA D.2 13,jA D.2 14,jA D.2 15, .vC Aa (wA D.2 16),jA D.2 17,jA D.2 18,jA D.2 19,jA D.2 20,jA D.2 21,jA D.2 22,jA D.2 23,jA D.2 24,jA D.2 25, .vC Aa (wA D.2 26),jA D.2 27,jA D.2 28,jA D.2 29,jA D.2 30,jA D.2 31,jA D.2 32,jA D.2 33,jA D.2 34,jA D.2 35, .vC Aa (wA D.2 36),jA D.2 37,jA D.2 38,jA D.2 39,jA D.2 40,jA D.2 41, .vC Ai (wA D.2 1), .vC kPt (wA D.2 0),jA D.2 3]).bind λL=>
 cond ((([]++wA D.2 0).length*24).ble 140737488355328) (cond ((([]++wA D.2 0++[[I (V (gA D.2 3+gA S 0)),jA D.2 5,jA D.2 6]]).length*24).ble 140737488355328) ((N [jA D.2 2,I 30]).bind λa5=>
 (X [jA D.2 7,jA D.2 8,jA D.2 9,jA D.2 10,jA D.2 11,jA D.2 12,jA D.2 13,jA D.2 14,jA D.2 15, .vC Aa (wA D.2 16),jA D.2 17,jA D.2 18,jA D.2 19,jA D.2 20,jA D.2 21,jA D.2 22,jA D.2 23,jA D.2 24,jA D.2 25, .vC Aa (wA D.2 26),jA D.2 27,jA D.2 28,jA D.2 29,jA D.2 30,jA D.2 31,jA D.2 32,jA D.2 33,jA D.2 34,jA D.2 35, .vC Aa (wA D.2 36),jA D.2 37,jA D.2 38,jA D.2 39,jA D.2 40,jA D.2 41, .vC Ai (wA D.2 1), .vC kPt ([]++wA D.2 0++[[I (V (gA D.2 3+gA S 0)),jA D.2 5,jA D.2 6]]),I (V (gA D.2 3+gA a5 0))]).bind λM=>
 cond (gA L 1 !=0) (some [B false]) (cond (gA M 1 !=0) (some [B false]) (cond (decide ((↑(wA M 0).length:Int)<(↑(wA L 0).length:Int))) (some [B false]) (cond (decide (0<=(↑(wA L 0).length:Int))&&decide ((↑(wA L 0).length:Int)<=(↑(wA M 0).length:Int))) ((Hh [.vC [Kd.sl kPt,Kd.sl Aa,kI,kI,kI,kI,kI,kI,kI] (wA L 0), .vC [Kd.sl kPt,Kd.sl Aa,kI,kI,kI,kI,kI,kI,kI] (List.take (↑(wA L 0).length:Int).toNat (wA M 0))]).bind λa6=>
 some [B (bA a6 0)]) (none))))) (none)) (none)) (none))))))):=by kernel_rfl
def Q4e:=Am (R5 NK JP NQ Ma GC NS ND Ow)
def Quh:=YV NK JP NQ Ma GC NS ND Ow Q4e
theorem Q9v:Aj PG (Z2 NK JP NQ Ma GC NS ND Ow):=Ao rfl ⟨Z3r,Qvd,Z32,Z0l,Qu8,Yan,Zh5,Zpa,trivial⟩
theorem Zq1:∀(args:List TV) (v:TV) (mem:Mem),(Ad Qyj Qjj Quh (TV×Mem) args ⟨[],[]⟩ λv m=>some (v,m))=some (v,mem)->PCallM PG 4 args ⟨[],[]⟩ v mem:=λargs v mem h=>Yek (f:=4) (C:=Qvs NK JP NQ Ma GC NS ND Ow Q4e) (L:=64) (by kernel_rfl) ((FnOK.bare rfl rfl rfl).loop Q9v eqOk Gn (by kernel_rfl) (by kernel_rfl)) Q9v eqOk Gn (by kernel_rfl) (by kernel_rfl) args v mem h
abbrev Z5h (D:Int) (G:Rw) (v1 v3 v4 v5 v6 v7 v8 v9 v10 v11:Int) (v12:Rw) (L M N O S T U v20 v21:Int) (v22:Rw) (X v24 v25 Y v27 v28 a0 v30 v31:Int) (a1:Rw) (v33 a2 v35 v36 v37 v38 a3 v40 a4 v42 a5 v44 a6 v46:Int) (a7:Rw) (v48 v49 a8 v51 a9 v53 b0 b1 b2:Int) (b3:Rw) (b4 v59 b5 b6 b7 v63 b8 v65 b9:Int) (c0:Rw) (v68 v69 v70 c1 v72:Int):Option (Nat×List AC):=
 cond (decide (0<=D)&&decide (D<(G.length:Int))) (some (0,[.vC Ai (G.set D.toNat [jA (nth [] G D.toNat) 0,jA (nth [] G D.toNat) 1,jA (nth [] G D.toNat) 2,jA (nth [] G D.toNat) 3,jA (nth [] G D.toNat) 4,jA (nth [] G D.toNat) 5,jA (nth [] G D.toNat) 6,jA (nth [] G D.toNat) 7,jA (nth [] G D.toNat) 8,jA (nth [] G D.toNat) 9,jA (nth [] G D.toNat) 10,jA (nth [] G D.toNat) 11,jA (nth [] G D.toNat) 12,B (bA (nth [] G D.toNat) 13),I 2000000,B (bA (nth [] G D.toNat) 15),jA (nth [] G D.toNat) 16,jA (nth [] G D.toNat) 17,jA (nth [] G D.toNat) 18,jA (nth [] G D.toNat) 19,jA (nth [] G D.toNat) 20,B (bA (nth [] G D.toNat) 21)]),I v1,I (V (D+1)),I v3,I v4,I v5,I v6,I v7,I v8,I v9,I v10,I v11, .vC Aa v12,I L,I M,I N,I O,I S,I T,I U,I v20,I v21, .vC Aa v22,I X,I v24,I v25,I Y,I v27,I v28,I a0,I v30,I v31, .vC Aa a1,I v33,I a2,I v35,I v36,I v37,I v38,I a3,I v40,I a4,I v42,I a5,I v44,I a6,I v46, .vC Aa a7,I v48,I v49,I a8,I v51,I a9,I v53,I b0,I b1,I b2, .vC Aa b3,I b4,I v59,I b5,I b6,I b7,I v63,I b8,I v65,I b9, .vC Aa c0,I v68,I v69,I v70,I c1,I v72])) (none)
attribute [go_sem] Z5h
end Go.Bm
