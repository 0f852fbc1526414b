/- functions of the program and of the references, as models -/
import Derived.Test.YtnnpdlgenmnekaaGreatDoorMx3
import Derived.Test.YtnnpdlgenmnekaaGreatDoorSeFm
set_option linter.unusedSimpArgs false
set_option linter.unusedVariables false
set_option linter.defProp false
set_option maxRecDepth 100000
noncomputable section
open Go.IntKind (wrap)
namespace Go.Bm
open Go.Proofs
variable {G H J K P Q R S T W:Fn} {A C E F:Rw} {Z:Lp} {a:Int}
instance:RI (31,Ah OJ Qe RH):=⟨Ztv⟩
def Qqx:Sk:=⟨[tf [sa Aa],tf [sa Aa],tf [sa Aa],tf [sa Aa]],[],[]⟩
def Qx7:=qa 10 Qqx Zkh
def Q8i (D:Fn):Cfg:=cf [Zkg D]
def Qa0 (D:Fn):Fn:=mF (Q8i D) 10 Qqx Zkh
theorem Zpc:Qa0 G [.vC Aa A, .vC Aa C, .vC Aa E, .vC Aa F]=
 (G [.vC [Kd.sl Aa] [[.vC Aa A],[.vC Aa C],[.vC Aa E],[.vC Aa F]]]).bind λo1=>
 some [B (bA o1 0)]:=by kernel_rfl
def O7:=Qa0 NP
instance r_cnclaw44_few:RI (Qx7 O7):=rw1 (Q8i NP)
def Zht:=qa 9 Qv8 Zkh
def Qs9 (D G I:Fn):Cfg:=cf [(31,Ah OJ Qe D),Zlc G,Qek I]
def Qes (D G I:Fn):Fn:=mF (Qs9 D G I) 9 Qv8 Zkh
theorem Ydq:Qes G H J []=
 (J [I 8,I 10,I 10,I 10,I (-16777216),I 16777216,I 0,I 0,I 0, .vC Aa [],I 8,I 10,I 10,I 10,I (-16777216),I 16777216,I 0,I 0,I 0, .vC Aa [],I 8,I 10,I 10,I 10,I (-16777216),I 16777216,I 0,I 0,I 0, .vC Aa [],I 9,I 3,I 100,I 1,I 0, .vC Ae [], .vC kPt [],I 5]).bind λo3=>
 cond (gA o3 1==0) (cond ((↑(wA o3 0).length:Int)==1) ((H [.vC [Kd.sl kPt,Kd.sl Aa,kI,kI,kI,kI,kI,kI,kI] (wA o3 0)]).bind λo4=>
 cond (bA o4 0) ((G [.vC [Kd.sl kPt,Kd.sl Aa,kI,kI,kI,kI,kI,kI,kI] [[.vC (Aa++(Aa++(Aa++[]))) [], .vC Aa [],I 7,I 160,I 0,I 0,I 0,I 0,I 0]]]).bind λM=>
 some [B ((Bp (nth .vD M 0)).toList==(ByteArray.mk #[48,32,109,111,100,101,55,32,97,116,49,54,48,32,102,97,117,108,116,48,10]).toList)]) (some [B false])) (some [B false])) (some [B false]):=by kernel_rfl
def P4:=Qes RH UQ LZ
instance r_cnclaw44_awake:RI (Zht P4):=rw1 (Qs9 RH UQ LZ)
def YE:Sk:=⟨[tf [sd 20000 22],tT (cX++cc 5)],[],[(20000,31,Ae)]⟩
def ZO:Sk:=⟨[tT (cX++cc 5)],[],[(20000,31,Ae)]⟩
def Qw1:=qa 13 YE ZO
def C_cnclaw44_quick_0:Cfg:={cf []with keepIn:=true}
def Qqi:Sk:=⟨[tf [sd 20000 22],td,td,tf [sc 3 0],tf [sc 4 0],td,td,tf [ci],tf [ci]]++dd 40,[(3,38,cX++cc 5),(4,38,cX++cc 5)],[(20000,31,Ae)]⟩
def Zd2:List (Ex×Sk):=[(Ex.exit 0,⟨[tf [sd 20000 22],td,td,tf [sc 3 0],tf [sc 4 0]]++dd 44,[(3,38,cX++cc 5),(4,38,cX++cc 5)],[(20000,31,Ae)]⟩)]
def Qe0:Lp:=sL C_cnclaw44_quick_0 13 2 Qqi Zd2
def Qg4 (D:Lp):Cfg:=C_cnclaw44_quick_0.loop 2 Qqi Zd2 D
def Zka (D:Lp):Fn:=mF (Qg4 D) 13 YE ZO
abbrev Qgs (D:Int) (G:Rw) (v1 v3 v4 v5 v6 v7 v8 v9 v10 v11:Int) (v12:Rw) (L M N U V X Y v20 v21:Int) (v22:Rw) (a0 v24 v25 a1 v27 v28 a2 v30 v31:Int) (a3:Rw) (v33 a4 v35 v36 v37 v38 a5 v40 a6 v42 a7 v44 a8 v46:Int) (a9:Rw) (v48 v49 b0 v51 b1 v53 b2 b3 b4:Int) (b5:Rw) (b6 v59 b7 b8 b9 v63 c0 v65 c1:Int) (c2:Rw) (v68 v69 v70 c3 v72:Int):Option (Nat×List AC):=
 cond (decide (0<=D)&&decide (D<(G.length:Int))) (some (0,[.vC Ae (G.set D.toNat [jA (nth [] G D.toNat) 0,jA (nth [] G D.toNat) 1,jA (nth [] G D.toNat) 2,jA (nth [] G D.toNat) 3,jA (nth [] G D.toNat) 4,jA (nth [] G D.toNat) 5,jA (nth [] G D.toNat) 6,jA (nth [] G D.toNat) 7,jA (nth [] G D.toNat) 8,jA (nth [] G D.toNat) 9,jA (nth [] G D.toNat) 10,jA (nth [] G D.toNat) 11,jA (nth [] G D.toNat) 12,B (bA (nth [] G D.toNat) 13),I 2000000,B (bA (nth [] G D.toNat) 15),jA (nth [] G D.toNat) 16,jA (nth [] G D.toNat) 17,jA (nth [] G D.toNat) 18,jA (nth [] G D.toNat) 19,jA (nth [] G D.toNat) 20,B (bA (nth [] G D.toNat) 21)]),I v1,I (O (D+1)),I v3,I v4,I v5,I v6,I v7,I v8,I v9,I v10,I v11, .vC Aa v12,I L,I M,I N,I U,I V,I X,I Y,I v20,I v21, .vC Aa v22,I a0,I v24,I v25,I a1,I v27,I v28,I a2,I v30,I v31, .vC Aa a3,I v33,I a4,I v35,I v36,I v37,I v38,I a5,I v40,I a6,I v42,I a7,I v44,I a8,I v46, .vC Aa a9,I v48,I v49,I b0,I v51,I b1,I v53,I b2,I b3,I b4, .vC Aa b5,I b6,I v59,I b7,I b8,I b9,I v63,I c0,I v65,I c1, .vC Aa c2,I v68,I v69,I v70,I c3,I v72])) (none)
attribute [go_sem] Qgs
def Z5y (v0:Rw) (v1 D v3 v4 v5 v6 v7 v8 v9 v10 v11:Int) (v12:Rw) (G L M N U V X v20 v21:Int) (v22:Rw) (Y v24 v25 a0 v27 v28 a1 v30 v31:Int) (a2:Rw) (v33 a3 v35 v36 v37 v38 a4 v40 a5 v42 a6 v44 a7 v46:Int) (a8:Rw) (v48 v49 a9 v51 b0 v53 b1 b2 b3:Int) (b4:Rw) (b5 v59 b6 b7 b8 v63 b9 v65 c0:Int) (c1:Rw) (v68 v69 v70 c2 v72:Int):Qe0 [.vC Ae v0,I v1,I D,I v3,I v4,I v5,I v6,I v7,I v8,I v9,I v10,I v11, .vC Aa v12,I G,I L,I M,I N,I U,I V,I X,I v20,I v21, .vC Aa v22,I Y,I v24,I v25,I a0,I v27,I v28,I a1,I v30,I v31, .vC Aa a2,I v33,I a3,I v35,I v36,I v37,I v38,I a4,I v40,I a5,I v42,I a6,I v44,I a7,I v46, .vC Aa a8,I v48,I v49,I a9,I v51,I b0,I v53,I b1,I b2,I b3, .vC Aa b4,I b5,I v59,I b6,I b7,I b8,I v63,I b9,I v65,I c0, .vC Aa c1,I v68,I v69,I v70,I c2,I v72]=
 cond (decide (D<v1)) (cond (decide (0<=D)&&decide (D<(v0.length:Int))) (cond (gA (nth [] v0 D.toNat) 0==2) (Qgs D v0 v1 v3 v4 v5 v6 v7 v8 v9 v10 v11 v12 G L M N U V X v20 v21 v22 Y v24 v25 a0 v27 v28 a1 v30 v31 a2 v33 a3 v35 v36 v37 v38 a4 v40 a5 v42 a6 v44 a7 v46 a8 v48 v49 a9 v51 b0 v53 b1 b2 b3 b4 b5 v59 b6 b7 b8 v63 b9 v65 c0 c1 v68 v69 v70 c2 v72) (cond (decide (0<=D)&&decide (D<(v0.length:Int))) (cond (gA (nth [] v0 D.toNat) 0==3) (Qgs D v0 v1 v3 v4 v5 v6 v7 v8 v9 v10 v11 v12 G L M N U V X v20 v21 v22 Y v24 v25 a0 v27 v28 a1 v30 v31 a2 v33 a3 v35 v36 v37 v38 a4 v40 a5 v42 a6 v44 a7 v46 a8 v48 v49 a9 v51 b0 v53 b1 b2 b3 b4 b5 v59 b6 b7 b8 v63 b9 v65 c0 c1 v68 v69 v70 c2 v72) (some (0,[.vC Ae v0,I v1,I (O (D+1)),I v3,I v4,I v5,I v6,I v7,I v8,I v9,I v10,I v11, .vC Aa v12,I G,I L,I M,I N,I U,I V,I X,I v20,I v21, .vC Aa v22,I Y,I v24,I v25,I a0,I v27,I v28,I a1,I v30,I v31, .vC Aa a2,I v33,I a3,I v35,I v36,I v37,I v38,I a4,I v40,I a5,I v42,I a6,I v44,I a7,I v46, .vC Aa a8,I v48,I v49,I a9,I v51,I b0,I v53,I b1,I b2,I b3, .vC Aa b4,I b5,I v59,I b6,I b7,I b8,I v63,I b9,I v65,I c0, .vC Aa c1,I v68,I v69,I v70,I c2,I v72]))) (none))) (none)) (some (1,[.vC Ae v0,I v3,I v4,I v5,I v6,I v7,I v8,I v9,I v10,I v11, .vC Aa v12,I G,I L,I M,I N,I U,I V,I X,I v20,I v21, .vC Aa v22,I Y,I v24,I v25,I a0,I v27,I v28,I a1,I v30,I v31, .vC Aa a2,I v33,I a3,I v35,I v36,I v37,I v38,I a4,I v40,I a5,I v42,I a6,I v44,I a7,I v46, .vC Aa a8,I v48,I v49,I a9,I v51,I b0,I v53,I b1,I b2,I b3, .vC Aa b4,I b5,I v59,I b6,I b7,I b8,I v63,I b9,I v65,I c0, .vC Aa c1,I v68,I v69,I v70,I c2,I v72])):=by kernel_rfl
def Ycq (N2:Lp) (x0:Rw) (x1 x2 x3 x4 x5 x6 x7 x8 x9:Int) (D:Rw) (G L M N U V X Y a0:Int) (a1:Rw) (a2 a3 a4 a5 a6 a7 a8 a9 b0:Int) (b1:Rw) (b2 b3 b4 b5 b6:Int):Zka N2 [.vC Ae x0,I x1,I x2,I x3,I x4,I x5,I x6,I x7,I x8,I x9, .vC Aa D,I G,I L,I M,I N,I U,I V,I X,I Y,I a0, .vC Aa a1,I a2,I a3,I a4,I a5,I a6,I a7,I a8,I a9,I b0, .vC Aa b1,I b2,I b3,I b4,I b5,I b6]=
 (N2 [.vC Ae x0,I (x0.length:Int),I 0,I x1,I x2,I x3,I x4,I x5,I x6,I x7,I x8,I x9, .vC Aa D,I G,I L,I M,I N,I U,I V,I X,I Y,I a0, .vC Aa a1,I a2,I a3,I a4,I a5,I a6,I a7,I a8,I a9,I b0, .vC Aa b1,I b2,I b3,I b4,I b5,I b6,I 0,I 0,I 0,I 0,I 0,I 0,I 0,I 0,I 0, .vC Aa [],I 0,I 0,I 0,I 0,I 0,I 0,I 0,I 0,I 0, .vC Aa [],I 0,I 0,I 0,I 0,I 0,I 0,I 0,I 0,I 0, .vC Aa [],I 0,I 0,I 0,I 0,I 0]).bind λo1=>
 cond (o1.1.beq 1) (some [.vC Ae (wA o1.2 0),jA o1.2 1,jA o1.2 2,jA o1.2 3,jA o1.2 4,jA o1.2 5,jA o1.2 6,jA o1.2 7,jA o1.2 8,jA o1.2 9, .vC Aa (wA o1.2 10),jA o1.2 11,jA o1.2 12,jA o1.2 13,jA o1.2 14,jA o1.2 15,jA o1.2 16,jA o1.2 17,jA o1.2 18,jA o1.2 19, .vC Aa (wA o1.2 20),jA o1.2 21,jA o1.2 22,jA o1.2 23,jA o1.2 24,jA o1.2 25,jA o1.2 26,jA o1.2 27,jA o1.2 28,jA o1.2 29, .vC Aa (wA o1.2 30),I (O (gA o1.2 31+50)),I (O (gA o1.2 32+10)),I (O (gA o1.2 33+2000)),jA o1.2 34,jA o1.2 35]) (none):=by kernel_rfl
def W1:=Ak (Qe0)
def Oi:=Zka W1
def Qmp:AK PG (C_cnclaw44_quick_0):=IA rfl LI.out
def k13:P1 PG 13 (Ah YE ZO Oi):=Zuu (C:=Qg4 W1) (L:=64) (Qmp) eqOk FX rfl (JU (by kernel_rfl)) (by kernel_rfl) (by kernel_rfl) ⟨_,_,rfl⟩ (Z41 Qmp eqOk FX rfl rfl (by kernel_rfl) (by kernel_rfl) (by kernel_rfl) (by kernel_rfl) (by kernel_rfl))
instance r_cnclaw44_quick:RI (Qw1 Oi):=rw2 (Qg4 W1) (fl fb)
def Qpg:Sk:=⟨[tf [sa Aa],tf [sa Aa],tf [sa Aa],tf [sa Aa],tf [ci]],[],[]⟩
def Qbq (D G I L M N O U V X Y G7 HN EE Hi Hs:Fn):Cfg:={cp [Q4c D,Q7b G,Qj6 I,Q8q L,Qsr M,Qvh N,Qor O,Qek U,Zf3 V,XU X,Qw1 Y,Quf G7,Zir HN,ZY EE,Qx7 Hi,Zht Hs] [13,22]with lend:=λf=>AV [13] f,keepR:=λf=>AV [13] f,unroll:=[22]}
def Zd3:Sk:=⟨dd 11++[tf [sa Ae],tf [sc 12 0],tf [sc 13 0],td,td,td,tf [sc 17 0]]++dd 60++[tf [sa [Kd.sl kPt,Kd.sl Aa,kI,kI,kI,kI,kI,kI,kI]],tf [ci],tf [ci]]++dd 52,[(12,38,cX++cc 5),(13,46,[ci,ci,ci,sa Ai,sa kPt]),(17,81,cc 6)],[]⟩
def Qwy:List (Ex×Sk):=[(Ex.ret,⟨dd 10++[tf [sb]]++dd 122,[],[]⟩),(Ex.exit 0,⟨[td]++dd 132,[],[]⟩)]
def Sc (D G I L M N O U V X Y G7 HN EE Hi Hs:Fn):Lp:=sL (Qbq D G I L M N O U V X Y G7 HN EE Hi Hs) 8 15 Zd3 Qwy
def Zcy (G I L M N O U V X Y HK G7 HN EE Hi Hs:Fn) (D:Lp):Cfg:=(Qbq G I L M N O U V X Y HK G7 HN EE Hi Hs).loop 15 Zd3 Qwy D
def Qjz (G I L M N O U V X Y HK G7 HN EE Hi Hs:Fn) (D:Lp):Fn:=mF (Zcy G I L M N O U V X Y HK G7 HN EE Hi Hs D) 8 Qpg Zkh
def Zp6 (Hb Hn El Hz Hk Hj HD EA HE Ep HK G7 HN EE Hi Hs:Fn) (v0 v1:Rw) (v2 v3 v4 v5 v6 v7 v8 v9 v10 v11 v12:Int) (N:Rw) (L U V X Y a0 v20 v21 v22:Int) (a1:Rw) (v24 v25 a2 v27 v28 a3 v30 v31 a4:Int) (v33:Rw) (a8 v35 v36 v37 v38 a5 v40 a6:Int) (v42 a7:Rw) (v44 a9 v46 b0 v48 v49:Int):Sc Hb Hn El Hz Hk Hj HD EA HE Ep HK G7 HN EE Hi Hs [.vC Ae v0, .vC [Kd.sl kPt,Kd.sl Aa,kI,kI,kI,kI,kI,kI,kI] v1,I v2,I v3,I v4,I v5,I v6,I v7,I v8,I v9,I v10,I v11,I v12, .vC Aa N,I L,I U,I V,I X,I Y,I a0,I v20,I v21,I v22, .vC Aa a1,I v24,I v25,I a2,I v27,I v28,I a3,I v30,I v31,I a4, .vC Aa v33,I a8,I v35,I v36,I v37,I v38,I a5,I v40,I a6, .vC Ai v42, .vC kPt a7,I v44,I a9,I v46,I b0,I v48,I v49]=
 cond (decide (v3<v2)) (cond (decide (0<=v3)&&decide (v3<(v1.length:Int))) ((Hk [I v4,I v5,I v6,I v7,I v8,I v9,I v10,I v11,I v12, .vC Aa N,I L,I U,I V,I X,I Y,I a0,I v20,I v21,I v22, .vC Aa a1,I v24,I v25,I a2,I v27,I v28,I a3,I v30,I v31,I a4, .vC Aa v33,I v44,I a9,I v46,I b0,I v48,I v49, .vC kPt (wA (nth [] v1 v3.toNat) 0)]).bind λD=>
 (Hz [I v4,I v5,I v6,I v7,I v8,I v9,I v10,I v11,I v12, .vC Aa N,I L,I U,I V,I X,I Y,I a0,I v20,I v21,I v22, .vC Aa a1,I v24,I v25,I a2,I v27,I v28,I a3,I v30,I v31,I a4, .vC Aa v33,jA D 0,jA D 1,jA D 2,jA D 3,jA D 4,jA D 5]).bind λM=>
 (El [I a5,I v40,I a6, .vC Ai v42, .vC kPt a7,jA (nth [] v1 v3.toNat) 3]).bind λG=>
 (Hn [.vC Ae v0]).bind λb1=>
 (Hb [.vC Ae v0,jA G 0,jA G 1,jA G 2,jA b1 0]).bind λb2=>
 cond (!bA b2 0) (some (1,[B false])) (cond (decide (O (gA M 0-gA G 0)>v4)) (some (1,[B false])) (cond (decide (O (0-O (gA M 0-gA G 0))>v4)) (some (1,[B false])) (cond (decide (O (gA M 1-gA G 1)>L)) (some (1,[B false])) (cond (decide (O (0-O (gA M 1-gA G 1))>L)) (some (1,[B false])) (cond (decide (O (gA M 2-gA G 2)>v24)) (some (1,[B false])) (cond (decide (O (0-O (gA M 2-gA G 2))>v24)) (some (1,[B false])) (some (0,[.vC Ae v0, .vC [Kd.sl kPt,Kd.sl Aa,kI,kI,kI,kI,kI,kI,kI] v1,I v2,I (O (v3+1)),I v4,I v5,I v6,I v7,I v8,I v9,I v10,I v11,I v12, .vC Aa N,I L,I U,I V,I X,I Y,I a0,I v20,I v21,I v22, .vC Aa a1,I v24,I v25,I a2,I v27,I v28,I a3,I v30,I v31,I a4, .vC Aa v33,I a8,I v35,I v36,I v37,I v38,I a5,I v40,I a6, .vC Ai v42, .vC kPt a7,jA D 0,jA D 1,jA D 2,jA D 3,jA D 4,jA D 5]))))))))) (none)) (some (2,[])):=by kernel_rfl
theorem Yas (Ep HK G7 HN EE Hi Hs:Fn):Qjz H J K P Q R S T W Ep HK G7 HN EE Hi Hs Z [.vC Aa A, .vC Aa C, .vC Aa E, .vC Aa F,I a]=
 (Hs []).bind λa0=>
 cond (!bA a0 0) (some [B false]) ((Hi [.vC Aa A, .vC Aa C, .vC Aa E, .vC Aa F]).bind λa1=>
 cond (!bA a1 0) (some [B true]) ((EE [I a,I 6]).bind λa2=>
 (HN [.vC Aa A,jA a2 0,B true]).bind λa3=>
 (G7 [.vC Aa C, .vC Aa E]).bind λG=>
 (HK [.vC Ae (wA a3 0),jA G 0,jA G 1,jA G 2,jA G 3,jA G 4,jA G 5,jA G 6,jA G 7,jA G 8, .vC Aa (wA G 9),jA G 10,jA G 11,jA G 12,jA G 13,jA G 14,jA G 15,jA G 16,jA G 17,jA G 18, .vC Aa (wA G 19),jA G 20,jA G 21,jA G 22,jA G 23,jA G 24,jA G 25,jA G 26,jA G 27,jA G 28, .vC Aa (wA G 29),jA G 30,jA G 31,jA G 32,jA G 33,jA G 34]).bind λD=>
 (Ep [.vC Ae (wA D 0)]).bind λL=>
 (W [.vC Aa F]).bind λa4=>
 (T [jA D 1,jA D 2,jA D 3,jA D 4,jA D 5,jA D 6,jA D 7,jA D 8,jA D 9, .vC Aa (wA D 10),jA D 11,jA D 12,jA D 13,jA D 14,jA D 15,jA D 16,jA D 17,jA D 18,jA D 19, .vC Aa (wA D 20),jA D 21,jA D 22,jA D 23,jA D 24,jA D 25,jA D 26,jA D 27,jA D 28,jA D 29, .vC Aa (wA D 30),jA D 31,jA D 32,jA D 33,jA D 34,jA D 35, .vC Ae (wA D 0), .vC kPt (wA a4 0),I 100]).bind λN=>
 cond (gA L 5 !=0) (some [B false]) (cond (gA N 1 !=0) (some [B false]) (cond ((↑(wA N 0).length:Int)==0) (some [B false]) (cond ((↑(wA L 3).length:Int)==0) ((S [.vC [Kd.sl kPt,Kd.sl Aa,kI,kI,kI,kI,kI,kI,kI] (wA N 0)]).bind λa5=>
 some [B ((↑(wA a5 0).length:Int)==0)]) ((R [jA D 1,jA D 2,jA D 3,jA D 4,jA D 5,jA D 6,jA D 7,jA D 8,jA D 9, .vC Aa (wA D 10),jA D 11,jA D 12,jA D 13,jA D 14,jA D 15,jA D 16,jA D 17,jA D 18,jA D 19, .vC Aa (wA D 20),jA D 21,jA D 22,jA D 23,jA D 24,jA D 25,jA D 26,jA D 27,jA D 28,jA D 29, .vC Aa (wA D 30),jA L 0,jA L 1,jA L 2]).bind λM=>
 (Z [.vC Ae (wA D 0), .vC [Kd.sl kPt,Kd.sl Aa,kI,kI,kI,kI,kI,kI,kI] (wA N 0),I (↑(wA N 0).length:Int),I 0,jA D 1,jA D 2,jA D 3,jA D 4,jA D 5,jA D 6,jA D 7,jA D 8,jA D 9, .vC Aa (wA D 10),jA D 11,jA D 12,jA D 13,jA D 14,jA D 15,jA D 16,jA D 17,jA D 18,jA D 19, .vC Aa (wA D 20),jA D 21,jA D 22,jA D 23,jA D 24,jA D 25,jA D 26,jA D 27,jA D 28,jA D 29, .vC Aa (wA D 30),jA D 31,jA D 32,jA D 33,jA D 34,jA D 35,jA L 0,jA L 1,jA L 2, .vC Ai (wA L 3), .vC kPt (wA L 4),jA M 0,jA M 1,jA M 2,jA M 3,jA M 4,jA M 5]).bind λO=>
 cond (O.1.beq 1) (some [B (bA O.2 0)]) (cond (O.1.beq 2) (some [B true]) (none)))))))):=by kernel_rfl
def Za4:=Ak (Sc NH Ns LO Ql Pe QC PY LZ Pv JF Oi Px NU JH O7 P4)
def Zfm:=Qjz NH Ns LO Ql Pe QC PY LZ Pv JF Oi Px NU JH O7 P4 Za4
def Zlj:AK PG (Qbq NH Ns LO Ql Pe QC PY LZ Pv JF Oi Px NU JH O7 P4):=Yaz rfl ⟨r_contour_OnItems.out,r_contour_Slack.out,r_path_At.out,r_plant_Position.out,r_plant_Step.out,r_plant_Start.out,r_report_Pulses.out,r_report_Run.out,r_cncmill_Events.out,r_path_Build.out,r_cnclaw44_quick.out,r_cncmill_Machine.out,r_cncmill_Items.out,r_cncmill_Mod.out,r_cnclaw44_few.out,r_cnclaw44_awake.out,trivial⟩ rfl (Fz rfl (Fz rfl (Fz rfl (Fz rfl (Fz rfl (Fz rfl (Fz rfl (Fz rfl (Fz rfl (Fz rfl (Yec k13 (Fz rfl (Fz rfl (Fz rfl (Fz rfl (Fz rfl Ycp))))))))))))))))
def Z70:∀(args:List TV) (v:TV) (mem:Mem),(Ah Qpg Zkh Zfm (TV×Mem) args ⟨[],[]⟩ λv m=>some (v,m))=some (v,mem)->PCallM PG 8 args ⟨[],[]⟩ v mem:=λargs v mem h=>Yfg (f:=8) (C:=Zcy NH Ns LO Ql Pe QC PY LZ Pv JF Oi Px NU JH O7 P4 Za4) (L:=64) (by kernel_rfl) ((FnOK.bare rfl rfl rfl).loop Zlj eqOk FX (by kernel_rfl) (by kernel_rfl)) Zlj eqOk FX (by kernel_rfl) (by kernel_rfl) args v mem h
end Go.Bm
