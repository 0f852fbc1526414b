/- functions of the program and of the references, as models -/
import Derived.Test.YtommijghjlikkaaGreatSeShelf
import Derived.Test.YtommijghjlikkaaGreatSeExt
import Derived.Test.YtommijghjlikkaaGreatSePre
import Derived.Test.YtommijghjlikkaaGreatSeKc
import Derived.Test.YtommijghjlikkaaGreatBmTy
set_option linter.unusedSimpArgs false
set_option linter.unusedVariables false
set_option maxRecDepth 100000
noncomputable section
open Go.IntKind (wrap)
namespace Go.Bm
open Go.Proofs
def Xb:Sk:=⟨[TS.v true (cc 9++[CS.sl Aa]),tf [ci]],[],[]⟩
def Qlf:Sk:=⟨[tf [ci]],[],[]⟩
def Qw9 (M:Fn):Nat×Spec:=(115,Ac Xb Qlf M)
def Qhz:Cfg:=cf []
def Q60:Fn:=Am PG Qhz 64 115 Xb Qlf
theorem Zxu (x0 x1 x2 x3 x4 x5 x6 x7 x8:Int) (x9:Rw) (x10:Int):Q60 [I x0,I x1,I x2,I x3,I x4,I x5,I x6,I x7,I x8, .view Aa x9,I x10]=
 bif x10== -1 then
 some [I (wrap .i64 (0-x6))]
 else
 some [I 0]:=by kernel_rfl
def Je:=Q60
theorem Zzv:Ai PG (Qhz):=Ao rfl trivial
theorem Q4w:Aj PG (115,Ac Xb Qlf Je):=rw1 (C:=Qhz) Zzv
def Qo0:Sk:=⟨[TS.v true (cc 9++[CS.sl Aa]),TS.v true (cc 10),tf [ci],tf [ci]],[],[]⟩
def Qbd:Sk:=⟨[tf [ci]],[],[]⟩
def Zfr (M:Fn):Nat×Spec:=(116,Ac Qo0 Qbd M)
def Ql1 (By:Fn):Cfg:=cf [Qw9 By]
def PT (By:Fn):Fn:=Am PG (Ql1 By) 64 116 Qo0 Qbd
abbrev Qdv (x20:Int) (By:Fn) (x0 x1 x2 x3 x4 x5 x6 x7 x8:Int) (x9:Rw) (x17 x18 x19:Int):Option (List AC):=
 bif decide (x20=(↑0:Int))then
 (By [I x0,I x1,I x2,I x3,I x4,I x5,I x6,I x7,I x8, .view Aa x9,I x17]).bind fun o30=>
 some [jA o30 0]
 else
 bif decide (x20=(↑(0+1):Int))then
 (By [I x0,I x1,I x2,I x3,I x4,I x5,I x6,I x7,I x8, .view Aa x9,I x18]).bind fun o31=>
 some [jA o31 0]
 else
 bif decide (x20=(↑(0+1+1):Int))then
 (By [I x0,I x1,I x2,I x3,I x4,I x5,I x6,I x7,I x8, .view Aa x9,I x19]).bind fun o32=>
 some [jA o32 0]
 else
 none
attribute [go_sem] Qdv
abbrev R9 (x21 x10 x6:Int) (h4_0:Bool):Option (List AC):=
 bif h4_0 then
 some [I (wrap .i64 (0-mn (wrap .i64 (x21-x10)) x6))]
 else
 some [I (wrap .i64 (mn (wrap .i64 (x21-x10)) x6-x6))]
attribute [go_sem] R9
abbrev Sv (x20:Int) (By:Fn) (x0 x1 x2 x3 x4 x5 x6 x7 x8:Int) (x9:Rw) (x17 x18 x19 x21 x10:Int) (h1_0:Bool):Option (List AC):=
 bif h1_0 then
 Qdv x20 By x0 x1 x2 x3 x4 x5 x6 x7 x8 x9 x17 x18 x19
 else
 bif decide (x20=(↑0:Int))then
 R9 x21 x10 x6 (x17== -1)
 else
 bif decide (x20=(↑(0+1):Int))then
 R9 x21 x10 x6 (x18== -1)
 else
 bif decide (x20=(↑(0+1+1):Int))then
 R9 x21 x10 x6 (x19== -1)
 else
 none
attribute [go_sem] Sv
abbrev Su (x20:Int) (By:Fn) (x0 x1 x2 x3 x4 x5 x6 x7 x8:Int) (x9:Rw) (x17 x18 x19 x21 x10:Int) (h2_0 h2_1 h2_2:Bool):Option (List AC):=
 bif decide (x20=(↑0:Int))then
 Sv x20 By x0 x1 x2 x3 x4 x5 x6 x7 x8 x9 x17 x18 x19 x21 x10 h2_0
 else
 bif decide (x20=(↑(0+1):Int))then
 Sv x20 By x0 x1 x2 x3 x4 x5 x6 x7 x8 x9 x17 x18 x19 x21 x10 h2_1
 else
 bif decide (x20=(↑(0+1+1):Int))then
 Sv x20 By x0 x1 x2 x3 x4 x5 x6 x7 x8 x9 x17 x18 x19 x21 x10 h2_2
 else
 none
attribute [go_sem] Su
theorem Qox (By:Fn) (x0 x1 x2 x3 x4 x5 x6 x7 x8:Int) (x9:Rw) (x10 x11 x12 x13 x14 x15 x16 x17 x18 x19 x20 x21:Int):PT By [I x0,I x1,I x2,I x3,I x4,I x5,I x6,I x7,I x8, .view Aa x9,I x10,I x11,I x12,I x13,I x14,I x15,I x16,I x17,I x18,I x19,I x20,I x21]=
 bif x13 !=0 then
 Qdv x20 By x0 x1 x2 x3 x4 x5 x6 x7 x8 x9 x17 x18 x19
 else
 bif decide (x20=(↑0:Int))then
 Su x20 By x0 x1 x2 x3 x4 x5 x6 x7 x8 x9 x17 x18 x19 x21 x10 (x14==x17) (x14==x18) (x14==x19)
 else
 bif decide (x20=(↑(0+1):Int))then
 Su x20 By x0 x1 x2 x3 x4 x5 x6 x7 x8 x9 x17 x18 x19 x21 x10 (x15==x17) (x15==x18) (x15==x19)
 else
 bif decide (x20=(↑(0+1+1):Int))then
 Su x20 By x0 x1 x2 x3 x4 x5 x6 x7 x8 x9 x17 x18 x19 x21 x10 (x16==x17) (x16==x18) (x16==x19)
 else
 none:=by kernel_rfl
def R_:=PT Je
theorem Zwu:Ai PG (Ql1 Je):=Ao rfl ⟨Q4w,trivial⟩
theorem Z6f:Aj PG (116,Ac Qo0 Qbd R_):=rw1 (C:=(Ql1 Je)) Zwu
def Qly:Sk:=⟨[TS.v true ([CS.sl Ap]++cc 5),tf [ci]],[],[]⟩
def VI:Sk:=⟨[TS.tup [(false,[ci]),(false,[ci])]],[],[]⟩
def Q6a (M:Fn):Nat×Spec:=(114,Ac Qly VI M)
def C_cncref29_piece_0:Cfg:=cf []
def Qsl:Sk:=⟨[td,tf [ci]]++dd 12++[tf [CS.sl Ap],tf [ci],tf [ci]]++dd 15,[],[]⟩
def Q3a:List (Ex×Sk):=[(Ex.ret,⟨[td,td,td,td,tf [ci],tf [ci]]++dd 26,[],[]⟩),(Ex.exit 0,⟨[td,tf [ci]]++dd 30,[],[]⟩)]
def TK:Lp:=AT PG C_cncref29_piece_0 64 3 (AU PG 114 3) Qsl Q3a
def Qtg (N3:Lp):Cfg:=C_cncref29_piece_0.loop 3 Qsl Q3a N3
def Qya (N3:Lp):Fn:=Am PG (Qtg N3) 64 114 Qly VI
theorem Qwq (v0:Int) (v1:Rw) (v2 v3:Int):TK [I v0, .view Ap v1,I v2,I v3]=
 bif decide (v3<v2)then
 bif decide (0<=v3)&&decide (v3<(v1.length:Int))then
 bif decide (v0<=wrap .i64 (gA (nth [] v1 v3.toNat) 0+gA (nth [] v1 v3.toNat) 1))then
 some (1,[I v3,I v0])
 else
 some (0,[I v0, .view Ap v1,I v2,I (wrap .i64 (v3+1))])
 else
 none
 else
 some (2,[I v0]):=by kernel_rfl
theorem Z15 (N3:Lp) (x0:Rw) (x1 x2 x3 x4 x5 x6:Int):Qya N3 [.view Ap x0,I x1,I x2,I x3,I x4,I x5,I x6]=
 (N3 [I (mn (mx x6 0) x1), .view Ap x0,I (x0.length:Int),I 0]).bind fun o1=>
 bif o1.1.beq 1 then
 some [jA o1.2 0,jA o1.2 1]
 else
 bif o1.1.beq 2 then
 some [I (-1),jA o1.2 0]
 else
 none:=by kernel_rfl
def Md:=An (TK)
def IL:=Qya Md
theorem Qtm:Ai PG (C_cncref29_piece_0):=Ao rfl trivial
theorem Q54:Aj PG (114,Ac Qly VI IL):=rw2 (C:=(Qtg Md)) (fl fb Qtm) Qtm
def Qj2:Sk:=⟨[tf [ci],tf [ci]],[],[]⟩
def Qa8:Sk:=⟨[tf [ci]],[],[]⟩
def Zau (M:Fn):Nat×Spec:=(202,Ac Qj2 Qa8 M)
def Qnz:Cfg:=cf []
def Q1n:Fn:=Am PG Qnz 64 202 Qj2 Qa8
theorem Ztw (x0 x1:Int):Q1n [I x0,I x1]=
 bif decide (x1=0)then
 none
 else
 bif decide (x1=0)then
 none
 else
 bif decide (x0.tmod x1<0)then
 some [I (wrap .i64 (wrap .i64 (x0.tdiv x1)-1))]
 else
 some [I (wrap .i64 (x0.tdiv x1))]:=by kernel_rfl
def FR:=Q1n
theorem Zyx:Ai PG (Qnz):=Ao rfl trivial
theorem Qv7:Aj PG (202,Ac Qj2 Qa8 FR):=rw1 (C:=Qnz) Zyx
def VB:Sk:=⟨[TS.v true (cc 9++[CS.sl Aa]),tf [ci]],[],[]⟩
def Qb3:Sk:=⟨[tf [ci]],[],[]⟩
def Zn7 (M:Fn):Nat×Spec:=(185,Ac VB Qb3 M)
def YM (FG:Fn):Cfg:=cf [Zau FG]
def Qs4 (FG:Fn):Fn:=Am PG (YM FG) 64 185 VB Qb3
theorem Zs8 (FG:Fn) (x0 x1 x2 x3 x4 x5 x6 x7 x8:Int) (x9:Rw) (x10:Int):Qs4 FG [I x0,I x1,I x2,I x3,I x4,I x5,I x6,I x7,I x8, .view Aa x9,I x10]=
 (FG [I (wrap .i64 (wrap .i64 (2*x10)+x0)),I (wrap .i64 (2*x0))]).bind fun o1=>
 some [jA o1 0]:=by kernel_rfl
def Ki:=Qs4 FR
theorem Z1b:Ai PG (YM FR):=Ao rfl ⟨Qv7,trivial⟩
theorem Zpu:Aj PG (185,Ac VB Qb3 Ki):=rw1 (C:=(YM FR)) Z1b
def Qcz:Sk:=⟨[TS.v true (cc 9++[CS.sl Aa]),tf [ci]],[],[]⟩
def Uo:Sk:=⟨[tf [ci]],[],[]⟩
def Zu9 (M:Fn):Nat×Spec:=(186,Ac Qcz Uo M)
def Xl (FG:Fn):Cfg:=cf [Zau FG]
def Quj (FG:Fn):Fn:=Am PG (Xl FG) 64 186 Qcz Uo
theorem Zfs (FG:Fn) (x0 x1 x2 x3 x4 x5 x6 x7 x8:Int) (x9:Rw) (x10:Int):Quj FG [I x0,I x1,I x2,I x3,I x4,I x5,I x6,I x7,I x8, .view Aa x9,I x10]=
 bif(x9.length:Int)==0 then
 some [I 0]
 else
 bif decide (x10<=x7)then
 bif decide (0<=0)&&decide (0<(x9.length:Int))then
 some [jA (nth [] x9 0) 0]
 else
 none
 else
 bif decide (x8=0)then
 none
 else
 bif decide (wrap .i64 ((wrap .i64 (x10-x7)).tdiv x8)>=wrap .i64 ((x9.length:Int)-1))then
 bif decide (0<=wrap .i64 ((x9.length:Int)-1))&&decide (wrap .i64 ((x9.length:Int)-1)<(x9.length:Int))then
 some [jA (nth [] x9 (wrap .i64 ((x9.length:Int)-1)).toNat) 0]
 else
 none
 else
 bif decide (0<=wrap .i64 ((wrap .i64 (x10-x7)).tdiv x8))&&decide (wrap .i64 ((wrap .i64 (x10-x7)).tdiv x8)<(x9.length:Int))then
 bif decide (0<=wrap .i64 (wrap .i64 ((wrap .i64 (x10-x7)).tdiv x8)+1))&&decide (wrap .i64 (wrap .i64 ((wrap .i64 (x10-x7)).tdiv x8)+1)<(x9.length:Int))then
 bif decide (0<=wrap .i64 ((wrap .i64 (x10-x7)).tdiv x8))&&decide (wrap .i64 ((wrap .i64 (x10-x7)).tdiv x8)<(x9.length:Int))then
 (FG [I (wrap .i64 (wrap .i64 (wrap .i64 (2*wrap .i64 (Af (nth .dead (nth [] x9 (wrap .i64 (wrap .i64 ((wrap .i64 (x10-x7)).tdiv x8)+1)).toNat) 0)-Af (nth .dead (nth [] x9 (wrap .i64 ((wrap .i64 (x10-x7)).tdiv x8)).toNat) 0)))*wrap .i64 (wrap .i64 (x10-x7)-wrap .i64 (wrap .i64 ((wrap .i64 (x10-x7)).tdiv x8)*x8)))+x8)),I (wrap .i64 (2*x8))]).bind fun o1=>
 some [I (wrap .i64 (Af (nth .dead (nth [] x9 (wrap .i64 ((wrap .i64 (x10-x7)).tdiv x8)).toNat) 0)+gA o1 0))]
 else
 none
 else
 none
 else
 none:=by kernel_rfl
def Jz:=Quj FR
theorem Zbu:Ai PG (Xl FR):=Ao rfl ⟨Qv7,trivial⟩
theorem Znm:Aj PG (186,Ac Qcz Uo Jz):=rw1 (C:=(Xl FR)) Zbu
def XU:Sk:=⟨[TS.v true (cc 9++[CS.sl Aa]),tf [ci]],[],[]⟩
def Qp3:Sk:=⟨[tf [ci]],[],[]⟩
def Zuu (M:Fn):Nat×Spec:=(166,Ac XU Qp3 M)
def Qez (Ou ND:Fn):Cfg:=cf [Zn7 Ou,Zu9 ND]
def Quh (Ou ND:Fn):Fn:=Am PG (Qez Ou ND) 64 166 XU Qp3
theorem Zdx (Ou ND:Fn) (x0 x1 x2 x3 x4 x5 x6 x7 x8:Int) (x9:Rw) (x10:Int):Quh Ou ND [I x0,I x1,I x2,I x3,I x4,I x5,I x6,I x7,I x8, .view Aa x9,I x10]=
 (ND [I x0,I x1,I x2,I x3,I x4,I x5,I x6,I x7,I x8, .view Aa x9,I x10]).bind fun o2=>
 (Ou [I x0,I x1,I x2,I x3,I x4,I x5,I x6,I x7,I x8, .view Aa x9,I (wrap .i64 (x10+gA o2 0))]).bind fun o3=>
 some [jA o3 0]:=by kernel_rfl
def OM:=Quh Ki Jz
theorem Z6c:Ai PG (Qez Ki Jz):=Ao rfl ⟨Zpu,Znm,trivial⟩
theorem Zq0:Aj PG (166,Ac XU Qp3 OM):=rw1 (C:=(Qez Ki Jz)) Z6c
def YV:Sk:=⟨[tf [ci],tf [ci]],[],[]⟩
def Yl:Sk:=⟨[tf [ci]],[],[]⟩
def Zco (M:Fn):Nat×Spec:=(184,Ac YV Yl M)
def Uw:Cfg:=cf []
def Qxs:Fn:=Am PG Uw 64 184 YV Yl
theorem Zl3 (x0 x1:Int):Qxs [I x0,I x1]=
 bif decide (wrap .i64 (2*x1)=0)then
 none
 else
 bif decide (wrap .i64 (2*x1)=0)then
 none
 else
 bif decide ((wrap .i64 (wrap .i64 (2*x0)+x1)).tmod (wrap .i64 (2*x1))<0)then
 some [I (wrap .i64 (wrap .i64 ((wrap .i64 (wrap .i64 (2*x0)+x1)).tdiv (wrap .i64 (2*x1)))-1))]
 else
 some [I (wrap .i64 ((wrap .i64 (wrap .i64 (2*x0)+x1)).tdiv (wrap .i64 (2*x1))))]:=by kernel_rfl
def OC:=Qxs
theorem Zqu:Ai PG (Uw):=Ao rfl trivial
theorem Za9:Aj PG (184,Ac YV Yl OC):=rw1 (C:=Uw) Zqu
def Qfy:Sk:=⟨[TS.v true [ci,ci,ci,CS.sl Ag,CS.sl kPt],tf [ci]],[],[]⟩
def Vh:Sk:=⟨[TS.v true [ci,ci,ci]],[],[]⟩
def Zzp (M:Fn):Nat×Spec:=(183,Ac Qfy Vh M)
def Qev:Cfg:=cf []
def Qq8:Fn:=Am PG Qev 64 183 Qfy Vh
theorem Zf1 (x0 x1 x2:Int) (x3 x4:Rw) (x5:Int):Qq8 [I x0,I x1,I x2, .view Ag x3, .view kPt x4,I x5]=
 bif decide (x5<=0)then
 some [I x0,I x1,I x2]
 else
 bif decide (0<=wrap .i64 (x5-1))&&decide (wrap .i64 (x5-1)<(x3.length:Int))then
 some [jA (nth [] x3 (wrap .i64 (x5-1)).toNat) 0,jA (nth [] x3 (wrap .i64 (x5-1)).toNat) 1,jA (nth [] x3 (wrap .i64 (x5-1)).toNat) 2]
 else
 none:=by kernel_rfl
def Mz:=Qq8
theorem Zm8:Ai PG (Qev):=Ao rfl trivial
theorem Zc3:Aj PG (183,Ac Qfy Vh Mz):=rw1 (C:=Qev) Zm8
def Wi:Sk:=⟨[TS.v true [ci,ci,ci,CS.sl Ag,CS.sl kPt],tf [ci]],[],[]⟩
def Qkv:Sk:=⟨[TS.tup [(false,[ci]),(false,[ci])]],[],[]⟩
def Zpl (M:Fn):Nat×Spec:=(182,Ac Wi Qkv M)
def C_cncref25_Find_0:Cfg:=cf []
def Q22:Sk:=⟨[td,tf [ci],tf [CS.ptr 2 0]]++dd 13++[tf [CS.sl Ag],tf [ci],tf [ci]]++dd 26,[(2,58,[ci,ci,ci,CS.sl Ag,CS.sl kPt])],[]⟩
def Q5z:List (Ex×Sk):=[(Ex.ret,⟨[td,td,td,td,tf [ci],tf [ci]]++dd 39,[],[]⟩),(Ex.exit 0,⟨[td,td,tf [CS.ptr 2 0]]++dd 42,[(2,58,[ci,ci,ci,CS.sl Ag,CS.sl kPt])],[]⟩)]
def OJ:Lp:=AT PG C_cncref25_Find_0 64 5 (AU PG 182 5) Q22 Q5z
def Q7a (N5:Lp):Cfg:=C_cncref25_Find_0.loop 5 Q22 Q5z N5
def Q73 (N5:Lp):Fn:=Am PG (Q7a N5) 64 182 Wi Qkv
theorem Qzv (v0:Int) (v1:Rw) (v2 v3 v4 v5 v6:Int) (v7 v8:Rw):OJ [I v0, .view Ag v1,I v2,I v3,I v4,I v5,I v6, .view Ag v7, .view kPt v8]=
 bif decide (v3<v2)then
 bif decide (0<=v3)&&decide (v3<(v1.length:Int))then
 bif decide (v0<gA (nth [] v1 v3.toNat) 3)then
 some (1,[I v3,I v0])
 else
 some (0,[I (wrap .i64 (v0-gA (nth [] v1 v3.toNat) 3)), .view Ag v1,I v2,I (wrap .i64 (v3+1)),I v4,I v5,I v6, .view Ag v7, .view kPt v8])
 else
 none
 else
 some (2,[I v4,I v5,I v6, .view Ag v7, .view kPt v8]):=by kernel_rfl
theorem Q2w (N5:Lp) (x0 x1 x2:Int) (x3 x4:Rw) (x5:Int):Q73 N5 [I x0,I x1,I x2, .view Ag x3, .view kPt x4,I x5]=
 bif(x3.length:Int)==0 then
 some [I (-1),I 0]
 else
 (N5 [I (mx x5 0), .view Ag x3,I (x3.length:Int),I 0,I x0,I x1,I x2, .view Ag x3, .view kPt x4]).bind fun o1=>
 bif o1.1.beq 1 then
 some [jA o1.2 0,jA o1.2 1]
 else
 bif o1.1.beq 2 then
 bif decide (0<=wrap .i64 ((↑(wA o1.2 3).length:Int)-1))&&decide (wrap .i64 ((↑(wA o1.2 3).length:Int)-1)<(↑(wA o1.2 3).length:Int))then
 some [I (wrap .i64 ((↑(wA o1.2 3).length:Int)-1)),I (Af (nth .dead (nth [] (wA o1.2 3) (wrap .i64 ((↑(wA o1.2 3).length:Int)-1)).toNat) 3))]
 else
 none
 else
 none:=by kernel_rfl
def KE:=An (OJ)
def Lu:=Q73 KE
theorem Qvu:Ai PG (C_cncref25_Find_0):=Ao rfl trivial
theorem Z1e:Aj PG (182,Ac Wi Qkv Lu):=rw2 (C:=(Q7a KE)) (fl fb Qvu) Qvu
def Qm1:Sk:=⟨[TS.v true [ci,ci,ci,CS.sl Ag,CS.sl kPt],tf [ci]],[],[]⟩
def Zz:Sk:=⟨[TS.v true [ci,ci,ci]],[],[]⟩
def Zw3 (M:Fn):Nat×Spec:=(165,Ac Qm1 Zz M)
def Qem (Jy KS L1:Fn):Cfg:={cf [Zco Jy,Zzp KS,Zpl L1]with unroll:=[6]}
def Xa (Jy KS L1:Fn):Fn:=Am PG (Qem Jy KS L1) 64 165 Qm1 Zz
theorem Zqy (Jy KS L1:Fn) (x0 x1 x2:Int) (x3 x4:Rw) (x5:Int):Xa Jy KS L1 [I x0,I x1,I x2, .view Ag x3, .view kPt x4,I x5]=
 (L1 [I x0,I x1,I x2, .view Ag x3, .view kPt x4,I x5]).bind fun o5=>
 bif decide (gA o5 0<0)then
 some [I x0,I x1,I x2]
 else
 bif decide (0<=gA o5 0)&&decide (gA o5 0<(x3.length:Int))then
 (KS [I x0,I x1,I x2, .view Ag x3, .view kPt x4,jA o5 0]).bind fun o6=>
 (Jy [I (wrap .i64 (wrap .i64 (gA (nth [] x3 (gA o5 0).toNat) 0-gA o6 0)*gA o5 1)),jA (nth [] x3 (gA o5 0).toNat) 3]).bind fun o7=>
 (Jy [I (wrap .i64 (wrap .i64 (gA (nth [] x3 (gA o5 0).toNat) 1-gA o6 1)*gA o5 1)),jA (nth [] x3 (gA o5 0).toNat) 3]).bind fun o8=>
 (Jy [I (wrap .i64 (wrap .i64 (gA (nth [] x3 (gA o5 0).toNat) 2-gA o6 2)*gA o5 1)),jA (nth [] x3 (gA o5 0).toNat) 3]).bind fun o9=>
 some [I (wrap .i64 (gA o6 0+gA o7 0)),I (wrap .i64 (gA o6 1+gA o8 0)),I (wrap .i64 (gA o6 2+gA o9 0))]
 else
 none:=by kernel_rfl
def QM:=Xa OC Mz Lu
theorem Zbt:Ai PG (Qem OC Mz Lu):=Ao rfl ⟨Za9,Zc3,Z1e,trivial⟩
theorem Z2c:Aj PG (165,Ac Qm1 Zz QM):=rw1 (C:=(Qem OC Mz Lu)) Zbt
def Qoh:Sk:=⟨[TS.v true [ci,ci,ci,CS.sl Ag,CS.sl kPt],TS.v true (cc 9++[CS.sl Aa]++cc 9++[CS.sl Aa]++cc 9++[CS.sl Aa]),tf [ci]],[],[]⟩
def Va:Sk:=⟨[TS.v true [ci,ci,ci]],[],[]⟩
def Zcf (M:Fn):Nat×Spec:=(112,Ac Qoh Va M)
def Qpq (JE Of:Fn):Cfg:={cf [Zuu JE,Zw3 Of]with unroll:=[4]}
def Qpe (JE Of:Fn):Fn:=Am PG (Qpq JE Of) 64 112 Qoh Va
theorem Zt0 (JE Of:Fn) (x0 x1 x2:Int) (x3 x4:Rw) (x5 x6 x7 x8 x9 x10 x11 x12 x13:Int) (x14:Rw) (x15 x16 x17 x18 x19 x20 x21 x22 x23:Int) (x24:Rw) (x25 x26 x27 x28 x29 x30 x31 x32 x33:Int) (x34:Rw) (x35:Int):Qpe JE Of [I x0,I x1,I x2, .view Ag x3, .view kPt x4,I x5,I x6,I x7,I x8,I x9,I x10,I x11,I x12,I x13, .view Aa x14,I x15,I x16,I x17,I x18,I x19,I x20,I x21,I x22,I x23, .view Aa x24,I x25,I x26,I x27,I x28,I x29,I x30,I x31,I x32,I x33, .view Aa x34,I x35]=
 (Of [I x0,I x1,I x2, .view Ag x3, .view kPt x4,I x35]).bind fun o4=>
 (JE [I x5,I x6,I x7,I x8,I x9,I x10,I x11,I x12,I x13, .view Aa x14,jA o4 0]).bind fun o5=>
 (JE [I x15,I x16,I x17,I x18,I x19,I x20,I x21,I x22,I x23, .view Aa x24,jA o4 1]).bind fun o6=>
 (JE [I x25,I x26,I x27,I x28,I x29,I x30,I x31,I x32,I x33, .view Aa x34,jA o4 2]).bind fun o7=>
 some [jA o5 0,jA o6 0,jA o7 0]:=by kernel_rfl
def Qj:=Qpe OM QM
theorem Zuq:Ai PG (Qpq OM QM):=Ao rfl ⟨Zq0,Z2c,trivial⟩
theorem Z5f:Aj PG (112,Ac Qoh Va Qj):=rw1 (C:=(Qpq OM QM)) Zuq
def Qjb:Sk:=⟨[TS.v true ([CS.sl Ap]++cc 5),tf [ci]],[],[]⟩
def Qk8:Sk:=⟨[tf [ci]],[],[]⟩
def Z2k (M:Fn):Nat×Spec:=(113,Ac Qjb Qk8 M)
def Y3 (F2:Fn):Cfg:=cf [Q6a F2]
def Qgt (F2:Fn):Fn:=Am PG (Y3 F2) 64 113 Qjb Qk8
theorem Zhr (F2:Fn) (x0:Rw) (x1 x2 x3 x4 x5 x6:Int):Qgt F2 [.view Ap x0,I x1,I x2,I x3,I x4,I x5,I x6]=
 (F2 [.view Ap x0,I x1,I x2,I x3,I x4,I x5,I x6]).bind fun o1=>
 bif decide (gA o1 0<0)then
 some [I x2]
 else
 bif decide (0<=gA o1 0)&&decide (gA o1 0<(x0.length:Int))then
 bif decide (0<=gA o1 0)&&decide (gA o1 0<(x0.length:Int))then
 bif decide (0<=gA o1 0)&&decide (gA o1 0<(x0.length:Int))then
 some [I (wrap .i64 (gA (nth [] x0 (gA o1 0).toNat) 2+wrap .i64 (gA (nth [] x0 (gA o1 0).toNat) 3*wrap .i64 (gA o1 1-gA (nth [] x0 (gA o1 0).toNat) 0))))]
 else
 none
 else
 none
 else
 none:=by kernel_rfl
def Pf:=Qgt IL
theorem Ze2:Ai PG (Y3 IL):=Ao rfl ⟨Q54,trivial⟩
theorem Zoh:Aj PG (113,Ac Qjb Qk8 Pf):=rw1 (C:=(Y3 IL)) Ze2
def Qb8:Sk:=⟨[TS.v true [ci,ci,ci,CS.sl Ag,CS.sl kPt],TS.v true (cc 9++[CS.sl Aa]++cc 9++[CS.sl Aa]++cc 9++[CS.sl Aa]),TS.v true ([CS.sl Ap]++cc 5),tf [ci]],[],[]⟩
def Qns:Sk:=⟨[TS.v true [ci,ci,ci]],[],[]⟩
def Zpf (M:Fn):Nat×Spec:=(72,Ac Qb8 Qns M)
def Wk (Fx By F2 Nq OB:Fn):Cfg:={cf [Zfr Fx,Qw9 By,Q6a F2,Zcf Nq,Z2k OB]with unroll:=[4]}
def Qfd (Fx By F2 Nq OB:Fn):Fn:=Am PG (Wk Fx By F2 Nq OB) 64 72 Qb8 Qns
abbrev W_ (o19:List AC) (By:Fn) (x:Ax3) (t:Trk) (h1_0:AC) (o18:List AC) (Fx:Fn) (h2_0:AC):Option (List AC):=
 bif decide (gA o19 0<0)then
 (By [I x.c.step,I x.c.speed,I x.c.accel,I x.c.jerk,I x.c.low,I x.c.high,I x.c.back,I x.c.origin,I x.c.spacing, .view Aa (x.c.pitch.map As),I t.dirs.z]).bind fun o22=>
 some [h1_0,h2_0,I (wrap .i64 (gA o18 2+gA o22 0))]
 else
 bif decide (0<=gA o19 0)&&decide (gA o19 0<((t.aE.map AA).length:Int))then
 (Fx (I x.c.step::I x.c.speed::I x.c.accel::I x.c.jerk::I x.c.low::I x.c.high::I x.c.back::I x.c.origin::I x.c.spacing:: .view Aa (x.c.pitch.map As)::(AO Ap (nth [] (t.aE.map AA) (gA o19 0).toNat)++[I (wrap .i64 (wrap .i64 (0+1)+1)),jA o19 1]))).bind fun o23=>
 some [h1_0,h2_0,I (wrap .i64 (gA o18 2+gA o23 0))]
 else
 none
attribute [go_sem] W_
abbrev Qig (o19:List AC) (By:Fn) (x:Ax3) (t:Trk) (o18:List AC) (Fx:Fn) (h1_0:AC):Option (List AC):=
 bif decide (gA o19 0<0)then
 (By [I x.b.step,I x.b.speed,I x.b.accel,I x.b.jerk,I x.b.low,I x.b.high,I x.b.back,I x.b.origin,I x.b.spacing, .view Aa (x.b.pitch.map As),I t.dirs.y]).bind fun o21=>
 W_ o19 By x t h1_0 o18 Fx (I (wrap .i64 (gA o18 1+gA o21 0)))
 else
 bif decide (0<=gA o19 0)&&decide (gA o19 0<((t.aE.map AA).length:Int))then
 (Fx (I x.b.step::I x.b.speed::I x.b.accel::I x.b.jerk::I x.b.low::I x.b.high::I x.b.back::I x.b.origin::I x.b.spacing:: .view Aa (x.b.pitch.map As)::(AO Ap (nth [] (t.aE.map AA) (gA o19 0).toNat)++[I (wrap .i64 (0+1)),jA o19 1]))).bind fun o24=>
 W_ o19 By x t h1_0 o18 Fx (I (wrap .i64 (gA o18 1+gA o24 0)))
 else
 none
attribute [go_sem] Qig
theorem Zys (Fx By F2 Nq OB:Fn) (x41:Int) (p:Pth) (x:Ax3) (t:Trk):Qfd Fx By F2 Nq OB (pxt p x t [I x41])=
 (OB (AS t++[I x41])).bind fun o17=>
 (Nq (AH p++(AF x++[jA o17 0]))).bind fun o18=>
 (F2 (AS t++[I x41])).bind fun o19=>
 bif decide (gA o19 0<0)then
 (By [I x.a.step,I x.a.speed,I x.a.accel,I x.a.jerk,I x.a.low,I x.a.high,I x.a.back,I x.a.origin,I x.a.spacing, .view Aa (x.a.pitch.map As),I t.dirs.x]).bind fun o20=>
 Qig o19 By x t o18 Fx (I (wrap .i64 (gA o18 0+gA o20 0)))
 else
 bif decide (0<=gA o19 0)&&decide (gA o19 0<((t.aE.map AA).length:Int))then
 (Fx (I x.a.step::I x.a.speed::I x.a.accel::I x.a.jerk::I x.a.low::I x.a.high::I x.a.back::I x.a.origin::I x.a.spacing:: .view Aa (x.a.pitch.map As)::(AO Ap (nth [] (t.aE.map AA) (gA o19 0).toNat)++[I 0,jA o19 1]))).bind fun o27=>
 Qig o19 By x t o18 Fx (I (wrap .i64 (gA o18 0+gA o27 0)))
 else
 none:=by kernel_rfl
def Nx:=Qfd R_ Je IL Qj Pf
theorem Zcm:Ai PG (Wk R_ Je IL Qj Pf):=Ao rfl ⟨Z6f,Q4w,Q54,Z5f,Zoh,trivial⟩
theorem Zx2:Aj PG (72,Ac Qb8 Qns Nx):=rw1 (C:=(Wk R_ Je IL Qj Pf)) Zcm
def Qja:Sk:=⟨[TS.v true [ci,ci,ci,CS.sl Ag,CS.sl kPt],TS.v true (cc 9++[CS.sl Aa]++cc 9++[CS.sl Aa]++cc 9++[CS.sl Aa]),TS.v true ([CS.sl Ap]++cc 5),tf [ci],tf [ci]],[],[]⟩
def Qjs:Sk:=⟨[tf [CS.sl kPt]],[],[]⟩
def Zif (M:Fn):Nat×Spec:=(28,Ac Qja Qjs M)
def Qit (FP:Fn):Cfg:={cf [Zpf FP]with prom:=fun b=>bif Nat.beq b 5 then [(11,130)]else [],unroll:=[9]}
def Qxp:Sk:=⟨[td,td,td,td,tf [ci],tf [CS.ptr 5 0],tf [CS.ptr 6 0],tf [CS.ptr 7 0],td,td,td,tf [CS.own 11 3],tf [CS.ptr 12 0],tf [ci]]++dd 55,[(5,58,[ci,ci,ci,CS.sl Ag,CS.sl kPt]),(6,27,cc 9++[CS.sl Aa]++cc 9++[CS.sl Aa]++cc 9++[CS.sl Aa]),(7,62,[CS.sl Ap]++cc 5),(12,44,[ci,ci,ci])],[(11,130,kPt)]⟩
def Zad:List (Ex×Sk):=[(Ex.exit 0,⟨dd 11++[tf [CS.own 11 3]]++dd 57,[],[(11,130,kPt)]⟩)]
def Rs (FP:Fn):Lp:=AT PG (Qit FP) 64 5 (AU PG 28 5) Qxp Zad
def Qxw (FP:Fn) (N5:Lp):Cfg:=(Qit FP).loop 5 Qxp Zad N5
def Qd3 (FP:Fn) (N5:Lp):Fn:=Am PG (Qxw FP N5) 64 28 Qja Qjs
abbrev NA (o6:List AC) (v46 v1 v2:Int) (p:Pth) (x:Ax3) (t:Trk) (h1_0:Bool) (h1_1 h1_2:AC):Option (Nat×List AC):=
 bif gA o6 2 !=v46 then
 bif h1_0 then
 some (0,(h1_1::I v1::I (wrap .i64 (v2+1))::pxt p x t [jA o6 0,jA o6 1,jA o6 2]))
 else
 none
 else
 some (0,(h1_2::I v1::I (wrap .i64 (v2+1))::pxt p x t [jA o6 0,jA o6 1,jA o6 2]))
attribute [go_sem] NA
theorem Zdk (FP:Fn) (v0:Rw) (v1 v2:Int) (v44 v45 v46:Int) (p:Pth) (x:Ax3) (t:Trk):Rs FP (.view kPt v0::I v1::I v2::pxt p x t [I v44,I v45,I v46])=
 bif decide (v2<=v1)then
 (FP (pxt p x t [I v2])).bind fun o6=>
 bif gA o6 0 !=v44 then
 bif((v0++[[I v2,I 0,I (wrap .i64 (gA o6 0-v44))]]).length*24).ble 140737488355328 then
 bif gA o6 1 !=v45 then
 bif((v0++[[I v2,I 0,I (wrap .i64 (gA o6 0-v44))]]++[[I v2,I (wrap .i64 (0+1)),I (wrap .i64 (gA o6 1-v45))]]).length*24).ble 140737488355328 then
 NA o6 v46 v1 v2 p x t (((v0++[[I v2,I 0,I (wrap .i64 (gA o6 0-v44))]]++[[I v2,I (wrap .i64 (0+1)),I (wrap .i64 (gA o6 1-v45))]]++[[I v2,I (wrap .i64 (wrap .i64 (0+1)+1)),I (wrap .i64 (gA o6 2-v46))]]).length*24).ble 140737488355328) (.view kPt (v0++[[I v2,I 0,I (wrap .i64 (gA o6 0-v44))]]++[[I v2,I (wrap .i64 (0+1)),I (wrap .i64 (gA o6 1-v45))]]++[[I v2,I (wrap .i64 (wrap .i64 (0+1)+1)),I (wrap .i64 (gA o6 2-v46))]])) (.view kPt (v0++[[I v2,I 0,I (wrap .i64 (gA o6 0-v44))]]++[[I v2,I (wrap .i64 (0+1)),I (wrap .i64 (gA o6 1-v45))]]))
 else
 none
 else
 NA o6 v46 v1 v2 p x t (((v0++[[I v2,I 0,I (wrap .i64 (gA o6 0-v44))]]++[[I v2,I (wrap .i64 (wrap .i64 (0+1)+1)),I (wrap .i64 (gA o6 2-v46))]]).length*24).ble 140737488355328) (.view kPt (v0++[[I v2,I 0,I (wrap .i64 (gA o6 0-v44))]]++[[I v2,I (wrap .i64 (wrap .i64 (0+1)+1)),I (wrap .i64 (gA o6 2-v46))]])) (.view kPt (v0++[[I v2,I 0,I (wrap .i64 (gA o6 0-v44))]]))
 else
 none
 else
 bif gA o6 1 !=v45 then
 bif((v0++[[I v2,I (wrap .i64 (0+1)),I (wrap .i64 (gA o6 1-v45))]]).length*24).ble 140737488355328 then
 NA o6 v46 v1 v2 p x t (((v0++[[I v2,I (wrap .i64 (0+1)),I (wrap .i64 (gA o6 1-v45))]]++[[I v2,I (wrap .i64 (wrap .i64 (0+1)+1)),I (wrap .i64 (gA o6 2-v46))]]).length*24).ble 140737488355328) (.view kPt (v0++[[I v2,I (wrap .i64 (0+1)),I (wrap .i64 (gA o6 1-v45))]]++[[I v2,I (wrap .i64 (wrap .i64 (0+1)+1)),I (wrap .i64 (gA o6 2-v46))]])) (.view kPt (v0++[[I v2,I (wrap .i64 (0+1)),I (wrap .i64 (gA o6 1-v45))]]))
 else
 none
 else
 NA o6 v46 v1 v2 p x t (((v0++[[I v2,I (wrap .i64 (wrap .i64 (0+1)+1)),I (wrap .i64 (gA o6 2-v46))]]).length*24).ble 140737488355328) (.view kPt (v0++[[I v2,I (wrap .i64 (wrap .i64 (0+1)+1)),I (wrap .i64 (gA o6 2-v46))]])) (.view kPt v0)
 else
 some (1,[.view kPt v0]):=by kernel_rfl
theorem Zq3 (FP:Fn) (N5:Lp) (x41 x42:Int) (p:Pth) (x:Ax3) (t:Trk):Qd3 FP N5 (pxt p x t [I x41,I x42])=
 (FP (pxt p x t [I (mn (mx x41 0) t.length)])).bind fun o7=>
 (N5 (.view kPt []::I (mn (mx x42 0) t.length)::I (wrap .i64 (mn (mx x41 0) t.length+1))::pxt p x t [jA o7 0,jA o7 1,jA o7 2])).bind fun o8=>
 bif o8.1.beq 1 then
 some [.view kPt (wA o8.2 0)]
 else
 none:=by kernel_rfl
def Qrm:=An (Rs Nx)
def OG:=Qd3 Nx Qrm
theorem Q2c:Ai PG (Qit Nx):=Ao rfl ⟨Zx2,trivial⟩
theorem Zff:Aj PG (28,Ac Qja Qjs OG):=rw2 (C:=(Qxw Nx Qrm)) (fl fb Q2c) Q2c
def Qqo:Sk:=⟨[tf [CS.sl kPt],tf [CS.sl kPt]],[],[]⟩
def Qnm:Sk:=⟨[tf [CS.bool]],[],[]⟩
def Z7n (M:Fn):Nat×Spec:=(24,Ac Qqo Qnm M)
def C_cncref30_SamePulses_0:Cfg:=cf []
def Qx3:Sk:=⟨[tf [CS.sl kPt],tf [CS.sl kPt]]++dd 10++[tf [ci],tf [ci]]++dd 12,[],[]⟩
def Qy2:List (Ex×Sk):=[(Ex.ret,⟨[td,td,td,td,tf [CS.bool]]++dd 21,[],[]⟩),(Ex.exit 0,⟨[td]++dd 25,[],[]⟩)]
def TM:Lp:=AT PG C_cncref30_SamePulses_0 64 4 (AU PG 24 4) Qx3 Qy2
def Q2u (N4:Lp):Cfg:=C_cncref30_SamePulses_0.loop 4 Qx3 Qy2 N4
def VD (N4:Lp):Fn:=Am PG (Q2u N4) 64 24 Qqo Qnm
theorem Zbb (v0 v1:Rw) (v2 v3:Int):TM [.view kPt v0, .view kPt v1,I v2,I v3]=
 bif decide (v3<v2)then
 bif decide (0<=v3)&&decide (v3<(v0.length:Int))then
 bif decide (0<=v3)&&decide (v3<(v1.length:Int))then
 bif !(gA (nth [] v0 v3.toNat) 0==gA (nth [] v1 v3.toNat) 0&&(gA (nth [] v0 v3.toNat) 1==gA (nth [] v1 v3.toNat) 1&&(gA (nth [] v0 v3.toNat) 2==gA (nth [] v1 v3.toNat) 2&&true)))then
 some (1,[B false])
 else
 some (0,[.view kPt v0, .view kPt v1,I v2,I (wrap .i64 (v3+1))])
 else
 none
 else
 none
 else
 some (2,[]):=by kernel_rfl
theorem Zpn (N4:Lp) (x0 x1:Rw):VD N4 [.view kPt x0, .view kPt x1]=
 bif(x0.length:Int) !=(x1.length:Int)then
 some [B false]
 else
 (N4 [.view kPt x0, .view kPt x1,I (x0.length:Int),I 0]).bind fun o1=>
 bif o1.1.beq 1 then
 some [B (bA o1.2 0)]
 else
 bif o1.1.beq 2 then
 some [B true]
 else
 none:=by kernel_rfl
def Qsb:=An (TM)
def Nn:=VD Qsb
theorem Q8d:Ai PG (C_cncref30_SamePulses_0):=Ao rfl trivial
theorem Znu:Aj PG (24,Ac Qqo Qnm Nn):=rw2 (C:=(Q2u Qsb)) (fl fb Q8d) Q8d
def Qiv:Sk:=⟨[TS.v true (cc 9++[CS.sl Aa]),tf [ci]],[],[]⟩
def XB:Sk:=⟨[tf [ci]],[],[]⟩
def Q8c (M:Fn):Nat×Spec:=(77,Ac Qiv XB M)
def Zi:Cfg:=cf []
def Q2y:Fn:=Am PG Zi 64 77 Qiv XB
theorem Zm1 (x0 x1 x2 x3 x4 x5 x6 x7 x8:Int) (x9:Rw) (x10:Int):Q2y [I x0,I x1,I x2,I x3,I x4,I x5,I x6,I x7,I x8, .view Aa x9,I x10]=
 bif x10== -1 then
 some [I (wrap .i64 (0-x6))]
 else
 some [I 0]:=by kernel_rfl
def IP:=Q2y
theorem Z5s:Ai PG (Zi):=Ao rfl trivial
theorem Qwu:Aj PG (77,Ac Qiv XB IP):=rw1 (C:=Zi) Z5s
def Qmx:Sk:=⟨[TS.v true (cc 9++[CS.sl Aa]),TS.v true (cc 10),tf [ci],tf [ci]],[],[]⟩
def Qfn:Sk:=⟨[tf [ci]],[],[]⟩
def Zyn (M:Fn):Nat×Spec:=(78,Ac Qmx Qfn M)
def Qe0 (BB:Fn):Cfg:=cf [Q8c BB]
def PS (BB:Fn):Fn:=Am PG (Qe0 BB) 64 78 Qmx Qfn
abbrev Qdy (x20:Int) (BB:Fn) (x0 x1 x2 x3 x4 x5 x6 x7 x8:Int) (x9:Rw) (x17 x18 x19:Int):Option (List AC):=
 bif decide (x20=(↑0:Int))then
 (BB [I x0,I x1,I x2,I x3,I x4,I x5,I x6,I x7,I x8, .view Aa x9,I x17]).bind fun o30=>
 some [jA o30 0]
 else
 bif decide (x20=(↑(0+1):Int))then
 (BB [I x0,I x1,I x2,I x3,I x4,I x5,I x6,I x7,I x8, .view Aa x9,I x18]).bind fun o31=>
 some [jA o31 0]
 else
 bif decide (x20=(↑(0+1+1):Int))then
 (BB [I x0,I x1,I x2,I x3,I x4,I x5,I x6,I x7,I x8, .view Aa x9,I x19]).bind fun o32=>
 some [jA o32 0]
 else
 none
attribute [go_sem] Qdy
abbrev TZ (x21 x10 x6:Int) (h4_0:Bool):Option (List AC):=
 bif h4_0 then
 some [I (wrap .i64 (0-mn (wrap .i64 (x21-x10)) x6))]
 else
 some [I (wrap .i64 (mn (wrap .i64 (x21-x10)) x6-x6))]
attribute [go_sem] TZ
abbrev TD (x20:Int) (BB:Fn) (x0 x1 x2 x3 x4 x5 x6 x7 x8:Int) (x9:Rw) (x17 x18 x19 x21 x10:Int) (h1_0:Bool):Option (List AC):=
 bif h1_0 then
 Qdy x20 BB x0 x1 x2 x3 x4 x5 x6 x7 x8 x9 x17 x18 x19
 else
 bif decide (x20=(↑0:Int))then
 TZ x21 x10 x6 (x17== -1)
 else
 bif decide (x20=(↑(0+1):Int))then
 TZ x21 x10 x6 (x18== -1)
 else
 bif decide (x20=(↑(0+1+1):Int))then
 TZ x21 x10 x6 (x19== -1)
 else
 none
attribute [go_sem] TD
abbrev SI (x20:Int) (BB:Fn) (x0 x1 x2 x3 x4 x5 x6 x7 x8:Int) (x9:Rw) (x17 x18 x19 x21 x10:Int) (h2_0 h2_1 h2_2:Bool):Option (List AC):=
 bif decide (x20=(↑0:Int))then
 TD x20 BB x0 x1 x2 x3 x4 x5 x6 x7 x8 x9 x17 x18 x19 x21 x10 h2_0
 else
 bif decide (x20=(↑(0+1):Int))then
 TD x20 BB x0 x1 x2 x3 x4 x5 x6 x7 x8 x9 x17 x18 x19 x21 x10 h2_1
 else
 bif decide (x20=(↑(0+1+1):Int))then
 TD x20 BB x0 x1 x2 x3 x4 x5 x6 x7 x8 x9 x17 x18 x19 x21 x10 h2_2
 else
 none
attribute [go_sem] SI
theorem Vm (BB:Fn) (x0 x1 x2 x3 x4 x5 x6 x7 x8:Int) (x9:Rw) (x10 x11 x12 x13 x14 x15 x16 x17 x18 x19 x20 x21:Int):PS BB [I x0,I x1,I x2,I x3,I x4,I x5,I x6,I x7,I x8, .view Aa x9,I x10,I x11,I x12,I x13,I x14,I x15,I x16,I x17,I x18,I x19,I x20,I x21]=
 bif x13 !=0 then
 Qdy x20 BB x0 x1 x2 x3 x4 x5 x6 x7 x8 x9 x17 x18 x19
 else
 bif decide (x20=(↑0:Int))then
 SI x20 BB x0 x1 x2 x3 x4 x5 x6 x7 x8 x9 x17 x18 x19 x21 x10 (x14==x17) (x14==x18) (x14==x19)
 else
 bif decide (x20=(↑(0+1):Int))then
 SI x20 BB x0 x1 x2 x3 x4 x5 x6 x7 x8 x9 x17 x18 x19 x21 x10 (x15==x17) (x15==x18) (x15==x19)
 else
 bif decide (x20=(↑(0+1+1):Int))then
 SI x20 BB x0 x1 x2 x3 x4 x5 x6 x7 x8 x9 x17 x18 x19 x21 x10 (x16==x17) (x16==x18) (x16==x19)
 else
 none:=by kernel_rfl
def T9:=PS IP
theorem Zzo:Ai PG (Qe0 IP):=Ao rfl ⟨Qwu,trivial⟩
theorem Zv4:Aj PG (78,Ac Qmx Qfn T9):=rw1 (C:=(Qe0 IP)) Zzo
def Z6:Sk:=⟨[TS.v true (cc 9++[CS.sl Aa]),tf [ci]],[],[]⟩
def YI:Sk:=⟨[tf [ci]],[],[]⟩
def Zvf (M:Fn):Nat×Spec:=(118,Ac Z6 YI M)
def Xs:Cfg:=cf []
def Q7s:Fn:=Am PG Xs 64 118 Z6 YI
theorem Zjx (x0 x1 x2 x3 x4 x5 x6 x7 x8:Int) (x9:Rw) (x10:Int):Q7s [I x0,I x1,I x2,I x3,I x4,I x5,I x6,I x7,I x8, .view Aa x9,I x10]=
 bif decide (x0<=0)then
 some [I 0]
 else
 bif decide (wrap .i64 (2*x0)<=0)then
 some [I 0]
 else
 bif decide (wrap .i64 (2*x0)=0)then
 none
 else
 bif decide (wrap .i64 (2*x0)=0)then
 none
 else
 bif decide ((wrap .i64 (wrap .i64 (2*x10)+x0)).tmod (wrap .i64 (2*x0))<0)then
 some [I (wrap .i64 (wrap .i64 ((wrap .i64 (wrap .i64 (2*x10)+x0)).tdiv (wrap .i64 (2*x0)))-1))]
 else
 some [I (wrap .i64 ((wrap .i64 (wrap .i64 (2*x10)+x0)).tdiv (wrap .i64 (2*x0))))]:=by kernel_rfl
def JR:=Q7s
theorem Z2o:Ai PG (Xs):=Ao rfl trivial
theorem Zto:Aj PG (118,Ac Z6 YI JR):=rw1 (C:=Xs) Z2o
def Qdq:Sk:=⟨[tf [CS.int .u64],tf [CS.bool]],[],[]⟩
def Qdg:Sk:=⟨[TS.tup [(false,[ci]),(false,[CS.bool])]],[],[]⟩
def Zw (M:Fn):Nat×Spec:=(136,Ac Qdq Qdg M)
def Qgv:Cfg:=cf []
def Qa3:Fn:=Am PG Qgv 64 136 Qdq Qdg
theorem Xu (x0:Int) (x1:Bool):Qa3 [U x0,B x1]=
 bif x1 then
 bif decide (x0<=9223372036854775808)then
 some [I (wrap .i64 (wrap .u64 (0-x0))),B true]
 else
 bif !x1 then
 bif decide (x0<9223372036854775808)then
 some [I (wrap .i64 x0),B true]
 else
 some [I 0,B false]
 else
 some [I 0,B false]
 else
 bif !x1 then
 bif decide (x0<9223372036854775808)then
 some [I (wrap .i64 x0),B true]
 else
 some [I 0,B false]
 else
 some [I 0,B false]:=by kernel_rfl
def EQ:=Qa3
theorem Zt4:Ai PG (Qgv):=Ao rfl trivial
theorem Qdt:Aj PG (136,Ac Qdq Qdg EQ):=rw1 (C:=Qgv) Zt4
def U9:Sk:=⟨[tf [ci],tf [ci],tf [CS.bool],tf [CS.bool]],[],[]⟩
def Qg5:Sk:=⟨[tf [CS.bool]],[],[]⟩
def Qs3 (M:Fn):Nat×Spec:=(135,Ac U9 Qg5 M)
def VK:Cfg:=cf []
def Qqu:Fn:=Am PG VK 64 135 U9 Qg5
theorem Q9d (x0 x1:Int) (x2 x3:Bool):Qqu [I x0,I x1,B x2,B x3]=
 bif x0==0 then
 bif x2 then
 some [B x3]
 else
 some [B false]
 else
 bif x0==1 then
 bif x2 then
 some [B !x3]
 else
 some [B false]
 else
 bif decide (x1>0)then
 some [B true]
 else
 bif x1==0 then
 some [B !x3]
 else
 some [B false]:=by kernel_rfl
def Hg:=Qqu
theorem Zcb:Ai PG (VK):=Ao rfl trivial
theorem Qt7:Aj PG (135,Ac U9 Qg5 Hg):=rw1 (C:=VK) Zcb
def Yx:Sk:=⟨[tf [ci],tf [ci]],[],[]⟩
def Z0:Sk:=⟨[tf [ci]],[],[]⟩
def ZB (M:Fn):Nat×Spec:=(134,Ac Yx Z0 M)
def Qe4:Cfg:=cf []
def Qcl:Fn:=Am PG Qe4 64 134 Yx Z0
theorem Qxg (x0 x1:Int):Qcl [I x0,I x1]=
 bif x0==0 then
 some [I 0]
 else
 bif x1==0 then
 some [I 0]
 else
 bif decide (x0<0)==decide (x1<0)then
 some [I 1]
 else
 some [I (-1)]:=by kernel_rfl
def Ft:=Qcl
theorem Zkf:Ai PG (Qe4):=Ao rfl trivial
theorem Qo4:Aj PG (134,Ac Yx Z0 Ft):=rw1 (C:=Qe4) Zkf
def Qol:Sk:=⟨[tf [CS.int .u64],tf [CS.int .u64],tf [CS.int .u64]],[],[]⟩
def Qex:Sk:=⟨[TS.tup [(false,[CS.int .u64]),(false,[CS.int .u64])]],[],[]⟩
def Q8j (M:Fn):Nat×Spec:=(133,Ac Qol Qex M)
def YQ (DB:Fn):Cfg:=cf [(176,Ac Q3y Qxc DB)]
def Zax:Sk:=⟨[td,td,tf [CS.int .u64],td,td,td,td,td,tf [CS.int .u64],tf [CS.int .u64],tf [CS.int .u64],tf [CS.int .u64],td,tf [CS.int .u64],tf [CS.int .u64],tf [CS.int .u64],tf [CS.int .u64]]++dd 118,[],[]⟩
def Qyx:List (Ex×Sk):=[(Ex.exit 0,⟨[td,td,tf [CS.int .u64],td,td,td,td,td,tf [CS.int .u64],tf [CS.int .u64],tf [CS.int .u64],tf [CS.int .u64],td,tf [CS.int .u64],tf [CS.int .u64],tf [CS.int .u64]]++dd 119,[],[]⟩)]
def KV (DB:Fn):Lp:=AT PG (YQ DB) 64 17 (AU PG 133 17) Zax Qyx
def Q3j (DB:Fn) (N17:Lp):Cfg:=(YQ DB).loop 17 Zax Qyx N17
def Qrz:Sk:=⟨[td,td,tf [CS.int .u64],td,td,td,td,td,tf [CS.int .u64],tf [CS.int .u64],tf [CS.int .u64],td,td,td,tf [CS.int .u64],tf [CS.int .u64],tf [CS.int .u64],tf [CS.int .u64],tf [CS.int .u64]]++dd 116,[],[]⟩
def Qxo:List (Ex×Sk):=[(Ex.exit 2,⟨[td,td,tf [CS.int .u64],td,td,td,td,td,tf [CS.int .u64],td,td,td,td,td,tf [CS.int .u64],tf [CS.int .u64],td,tf [CS.int .u64],tf [CS.int .u64]]++dd 116,[],[]⟩)]
def P9 (DB:Fn) (N17:Lp):Lp:=AT PG (Q3j DB N17) 64 24 (AU PG 133 24) Qrz Qxo
def Q7w (DB:Fn) (N17 N24:Lp):Cfg:=(Q3j DB N17).loop 24 Qrz Qxo N24
def Qpb (DB:Fn) (N17 N24:Lp):Fn:=Am PG (Q7w DB N17 N24) 64 133 Qol Qex
theorem Zfa (DB:Fn) (v0 v1 v2 v3 v4 v5 v6 v7 v8:Int):KV DB [U v0,U v1,U v2,U v3,U v4,U v5,U v6,U v7,U v8]=
 bif decide (v7>=4294967296)then
 bif decide (wrap .u64 (v8+v2)>=4294967296)then
 some (1,[U v0,U v1,U v2,U v3,U v4,U v5,U v6,U (wrap .u64 (v7-1))])
 else
 some (0,[U v0,U v1,U v2,U v3,U v4,U v5,U v6,U (wrap .u64 (v7-1)),U (wrap .u64 (v8+v2))])
 else
 bif decide (wrap .u64 (v7*v3)>wrap .u64 (wrap .u64 (4294967296*v8)+v5))then
 bif decide (wrap .u64 (v8+v2)>=4294967296)then
 some (1,[U v0,U v1,U v2,U v3,U v4,U v5,U v6,U (wrap .u64 (v7-1))])
 else
 some (0,[U v0,U v1,U v2,U v3,U v4,U v5,U v6,U (wrap .u64 (v7-1)),U (wrap .u64 (v8+v2))])
 else
 some (1,[U v0,U v1,U v2,U v3,U v4,U v5,U v6,U v7]):=by kernel_rfl
theorem Zw9 (DB:Fn) (N17:Lp) (v0 v1 v2 v3 v4 v5 v6 v7 v8:Int):P9 DB N17 [U v0,U v1,U v2,U v3,U v4,U v5,U v6,U v7,U v8]=
 bif decide (v8>=4294967296)then
 bif decide (wrap .u64 (v6+v2)>=4294967296)then
 some (1,[U v0,U v1,U v4,U v5,U v7,U (wrap .u64 (v8-1))])
 else
 some (0,[U v0,U v1,U v2,U v3,U v4,U v5,U (wrap .u64 (v6+v2)),U v7,U (wrap .u64 (v8-1))])
 else
 bif decide (wrap .u64 (v8*v3)>wrap .u64 (wrap .u64 (4294967296*v6)+v4))then
 bif decide (wrap .u64 (v6+v2)>=4294967296)then
 some (1,[U v0,U v1,U v4,U v5,U v7,U (wrap .u64 (v8-1))])
 else
 some (0,[U v0,U v1,U v2,U v3,U v4,U v5,U (wrap .u64 (v6+v2)),U v7,U (wrap .u64 (v8-1))])
 else
 some (1,[U v0,U v1,U v4,U v5,U v7,U v8]):=by kernel_rfl
theorem Q1m (DB:Fn) (N17 N24:Lp) (x0 x1 x2:Int):Qpb DB N17 N24 [U x0,U x1,U x2]=
 bif x2==0 then
 none
 else
 bif decide (x2<=x0)then
 none
 else
 bif x0==0 then
 bif decide (x2=0)then
 none
 else
 bif decide (x2=0)then
 none
 else
 some [U (wrap .u64 (x1.tdiv x2)),U (x1.tmod x2)]
 else
 (DB [U x2]).bind fun o6=>
 bif decide (wrap .u64 (gA o6 0)<0)then
 none
 else
 bif decide (wrap .u64 (gA o6 0)<0)then
 none
 else
 bif decide (wrap .u64 (64-wrap .u64 (gA o6 0))<0)then
 none
 else
 bif decide (wrap .u64 (gA o6 0)<0)then
 none
 else
 bif decide ((wrap .u64 (x2*2^min (wrap .u64 (gA o6 0)).toNat IntKind.u64.bits)).fdiv (2^min (Int.toNat 32) IntKind.u64.bits)=0)then
 none
 else
 (N17 [U (wrap .u64 (x2*2^min (wrap .u64 (gA o6 0)).toNat IntKind.u64.bits)),U (wrap .u64 (gA o6 0)),U ((wrap .u64 (x2*2^min (wrap .u64 (gA o6 0)).toNat IntKind.u64.bits)).fdiv (2^min (Int.toNat 32) IntKind.u64.bits)),U (wrap .u64 (↑(BitVec.ofInt IntKind.u64.bits (wrap .u64 (x2*2^min (wrap .u64 (gA o6 0)).toNat IntKind.u64.bits))&&&BitVec.ofInt IntKind.u64.bits 4294967295).toNat:Int)),U (wrap .u64 (↑(BitVec.ofInt IntKind.u64.bits (wrap .u64 (x0*2^min (wrap .u64 (gA o6 0)).toNat IntKind.u64.bits))|||BitVec.ofInt IntKind.u64.bits (x1.fdiv (2^min (wrap .u64 (64-wrap .u64 (gA o6 0))).toNat IntKind.u64.bits))).toNat:Int)),U ((wrap .u64 (x1*2^min (wrap .u64 (gA o6 0)).toNat IntKind.u64.bits)).fdiv (2^min (Int.toNat 32) IntKind.u64.bits)),U (wrap .u64 (↑(BitVec.ofInt IntKind.u64.bits (wrap .u64 (x1*2^min (wrap .u64 (gA o6 0)).toNat IntKind.u64.bits))&&&BitVec.ofInt IntKind.u64.bits 4294967295).toNat:Int)),U (wrap .u64 ((wrap .u64 (↑(BitVec.ofInt IntKind.u64.bits (wrap .u64 (x0*2^min (wrap .u64 (gA o6 0)).toNat IntKind.u64.bits))|||BitVec.ofInt IntKind.u64.bits (x1.fdiv (2^min (wrap .u64 (64-wrap .u64 (gA o6 0))).toNat IntKind.u64.bits))).toNat:Int)).tdiv ((wrap .u64 (x2*2^min (wrap .u64 (gA o6 0)).toNat IntKind.u64.bits)).fdiv (2^min (Int.toNat 32) IntKind.u64.bits)))),U (wrap .u64 (wrap .u64 (↑(BitVec.ofInt IntKind.u64.bits (wrap .u64 (x0*2^min (wrap .u64 (gA o6 0)).toNat IntKind.u64.bits))|||BitVec.ofInt IntKind.u64.bits (x1.fdiv (2^min (wrap .u64 (64-wrap .u64 (gA o6 0))).toNat IntKind.u64.bits))).toNat:Int)-wrap .u64 (wrap .u64 ((wrap .u64 (↑(BitVec.ofInt IntKind.u64.bits (wrap .u64 (x0*2^min (wrap .u64 (gA o6 0)).toNat IntKind.u64.bits))|||BitVec.ofInt IntKind.u64.bits (x1.fdiv (2^min (wrap .u64 (64-wrap .u64 (gA o6 0))).toNat IntKind.u64.bits))).toNat:Int)).tdiv ((wrap .u64 (x2*2^min (wrap .u64 (gA o6 0)).toNat IntKind.u64.bits)).fdiv (2^min (Int.toNat 32) IntKind.u64.bits)))*(wrap .u64 (x2*2^min (wrap .u64 (gA o6 0)).toNat IntKind.u64.bits)).fdiv (2^min (Int.toNat 32) IntKind.u64.bits))))]).bind fun o7=>
 bif o7.1.beq 1 then
 bif decide (gA o7.2 2=0)then
 none
 else
 (N24 [U (gA o7.2 0),U (gA o7.2 1),U (gA o7.2 2),U (gA o7.2 3),U (gA o7.2 6),U (gA o7.2 7),U (wrap .u64 (wrap .u64 (wrap .u64 (wrap .u64 (gA o7.2 4*4294967296)+gA o7.2 5)-wrap .u64 (gA o7.2 7*gA o7.2 0))-wrap .u64 (wrap .u64 ((wrap .u64 (wrap .u64 (wrap .u64 (gA o7.2 4*4294967296)+gA o7.2 5)-wrap .u64 (gA o7.2 7*gA o7.2 0))).tdiv (gA o7.2 2))*gA o7.2 2))),U (wrap .u64 (wrap .u64 (wrap .u64 (gA o7.2 4*4294967296)+gA o7.2 5)-wrap .u64 (gA o7.2 7*gA o7.2 0))),U (wrap .u64 ((wrap .u64 (wrap .u64 (wrap .u64 (gA o7.2 4*4294967296)+gA o7.2 5)-wrap .u64 (gA o7.2 7*gA o7.2 0))).tdiv (gA o7.2 2)))]).bind fun o8=>
 bif o8.1.beq 1 then
 bif decide (gA o8.2 1<0)then
 none
 else
 some [U (wrap .u64 (wrap .u64 (gA o8.2 3*4294967296)+gA o8.2 5)),U ((wrap .u64 (wrap .u64 (wrap .u64 (gA o8.2 4*4294967296)+gA o8.2 2)-wrap .u64 (gA o8.2 5*gA o8.2 0))).fdiv (2^min (gA o8.2 1).toNat IntKind.u64.bits))]
 else
 none
 else
 none:=by kernel_rfl
def Sa:=An (KV Ic)
def Qbt:=An (P9 Ic Sa)
def G8:=Qpb Ic Sa Qbt
theorem Qbh:Ai PG (YQ Ic):=Ao rfl ⟨Zv8,trivial⟩
theorem Qw3:Aj PG (133,Ac Qol Qex G8):=rw2 (C:=(Q7w Ic Sa Qbt)) (fl (fl fb Qbh) Qbh) Qbh
def Qe7:Sk:=⟨[tf [CS.int .u64],tf [CS.int .u64]],[],[]⟩
def Qki:Sk:=⟨[TS.v true [CS.int .u64,CS.int .u64]],[],[]⟩
def Rn (M:Fn):Nat×Spec:=(131,Ac Qe7 Qki M)
def Qf4 (F_:Fn):Cfg:=cf [(175,Ac Zp UE F_)]
def Q8i (F_:Fn):Fn:=Am PG (Qf4 F_) 64 131 Qe7 Qki
theorem Zj1 (F_:Fn) (x0 x1:Int):Q8i F_ [U x0,U x1]=
 (F_ [U x0,U x1]).bind fun o1=>
 some [U (gA o1 0),U (gA o1 1)]:=by kernel_rfl
def Ea:=Q8i H6
theorem Zke:Ai PG (Qf4 H6):=Ao rfl ⟨Qvd,trivial⟩
theorem Sl:Aj PG (131,Ac Qe7 Qki Ea):=rw1 (C:=(Qf4 H6)) Zke
def U8:Sk:=⟨[tf [ci]],[],[]⟩
def Qhj:Sk:=⟨[tf [CS.int .u64]],[],[]⟩
def WB (M:Fn):Nat×Spec:=(132,Ac U8 Qhj M)
def Qdk:Cfg:=cf []
def Qzw:Fn:=Am PG Qdk 64 132 U8 Qhj
theorem Zmt (x0:Int):Qzw [I x0]=
 bif decide (x0<0)then
 some [U (wrap .u64 (wrap .u64 (wrap .i64 (0-wrap .i64 (x0+1)))+1))]
 else
 some [U (wrap .u64 x0)]:=by kernel_rfl
def FT:=Qzw
theorem Zq9:Ai PG (Qdk):=Ao rfl trivial
theorem VL:Aj PG (132,Ac U8 Qhj FT):=rw1 (C:=Qdk) Zq9
def Qik:Sk:=⟨[tf [ci]],[],[]⟩
def WU:Sk:=⟨[tf [CS.bool]],[],[]⟩
def Qiq (M:Fn):Nat×Spec:=(130,Ac Qik WU M)
def Qm5:Cfg:=cf []
def Z7:Fn:=Am PG Qm5 64 130 Qik WU
theorem Q6z (x0:Int):Z7 [I x0]=
 bif x0==0 then
 some [B true]
 else
 bif x0==1 then
 some [B true]
 else
 some [B (x0==2)]:=by kernel_rfl
def Fi:=Z7
theorem Zmh:Ai PG (Qm5):=Ao rfl trivial
theorem Qom:Aj PG (130,Ac Qik WU Fi):=rw1 (C:=Qm5) Zmh
def Xy:Sk:=⟨[tf [ci],tf [ci],tf [ci],tf [ci]],[],[]⟩
def YC:Sk:=⟨[TS.tup [(false,[ci]),(false,[CS.bool])]],[],[]⟩
def L3 (M:Fn):Nat×Spec:=(83,Ac Xy YC M)
def Z8 (Bc Cz CY Fb Bw B_ Dz:Fn):Cfg:=cf [Zw Bc,Qs3 Cz,ZB CY,Q8j Fb,Rn Bw,WB B_,Qiq Dz]
def RF (Bc Cz CY Fb Bw B_ Dz:Fn):Fn:=Am PG (Z8 Bc Cz CY Fb Bw B_ Dz) 64 83 Xy YC
abbrev Ro (Cz:Fn) (x3:Int) (o31:List AC) (Bc:Fn) (h1_0 h1_1:AC):Option (List AC):=
 (Cz [I x3,h1_0,B (decide (gA o31 1>0)),h1_1]).bind fun o34=>
 bif bA o34 0 then
 bif wrap .u64 (gA o31 0+1)==0 then
 some [I 0,B false]
 else
 (Bc [U (wrap .u64 (gA o31 0+1)),h1_1]).bind fun o35=>
 some [jA o35 0,B (bA o35 1)]
 else
 (Bc [U (gA o31 0),h1_1]).bind fun o36=>
 some [jA o36 0,B (bA o36 1)]
attribute [go_sem] Ro
abbrev Qlw (o31 o30:List AC) (Cz:Fn) (x3:Int) (Bc:Fn) (h2_0:AC):Option (List AC):=
 bif decide (gA o31 1>wrap .u64 (gA o30 0-gA o31 1))then
 Ro Cz x3 o31 Bc (I 1) h2_0
 else
 bif decide (gA o31 1<wrap .u64 (gA o30 0-gA o31 1))then
 Ro Cz x3 o31 Bc (I (-1)) h2_0
 else
 Ro Cz x3 o31 Bc (I 0) h2_0
attribute [go_sem] Qlw
theorem Za0 (Bc Cz CY Fb Bw B_ Dz:Fn) (x0 x1 x2 x3:Int):RF Bc Cz CY Fb Bw B_ Dz [I x0,I x1,I x2,I x3]=
 bif x2==0 then
 some [I 0,B false]
 else
 (Dz [I x3]).bind fun o26=>
 bif !bA o26 0 then
 some [I 0,B false]
 else
 (B_ [I x0]).bind fun o27=>
 (B_ [I x1]).bind fun o28=>
 (Bw [U (gA o27 0),U (gA o28 0)]).bind fun o29=>
 (B_ [I x2]).bind fun o30=>
 bif decide (gA o29 0>=gA o30 0)then
 some [I 0,B false]
 else
 (Fb [U (gA o29 0),U (gA o29 1),U (gA o30 0)]).bind fun o31=>
 (CY [I x0,I x1]).bind fun o32=>
 bif !decide (gA o32 0<0)==decide (x2<0)then
 (CY [I x0,I x1]).bind fun o33=>
 Qlw o31 o30 Cz x3 Bc (B (gA o33 0 !=0))
 else
 Qlw o31 o30 Cz x3 Bc (B false):=by kernel_rfl
def Bn:=RF EQ Hg Ft G8 Ea FT Fi
theorem Z0n:Ai PG (Z8 EQ Hg Ft G8 Ea FT Fi):=Ao rfl ⟨Qdt,Qt7,Qo4,Qw3,Sl,VL,Qom,trivial⟩
theorem LT:Aj PG (83,Ac Xy YC Bn):=rw1 (C:=(Z8 EQ Hg Ft G8 Ea FT Fi)) Z0n
def Qj0:Sk:=⟨[TS.v true (cc 9++[CS.sl Aa]),tf [ci]],[],[]⟩
def Z9:Sk:=⟨[tf [ci]],[],[]⟩
def Zoe (M:Fn):Nat×Spec:=(119,Ac Qj0 Z9 M)
def Qpr (AI:Fn):Cfg:=cf [L3 AI]
def Qwj (AI:Fn):Fn:=Am PG (Qpr AI) 64 119 Qj0 Z9
theorem Zg3 (AI:Fn) (x0 x1 x2 x3 x4 x5 x6 x7 x8:Int) (x9:Rw) (x10:Int):Qwj AI [I x0,I x1,I x2,I x3,I x4,I x5,I x6,I x7,I x8, .view Aa x9,I x10]=
 bif decide (wrap .i64 ((x9.length:Int)-1)<0)then
 some [I 0]
 else
 bif decide (wrap .i64 (x10-x7)<=0)then
 bif decide (0<=0)&&decide (0<(x9.length:Int))then
 some [jA (nth [] x9 0) 0]
 else
 none
 else
 bif decide (x8<=0)then
 bif decide (0<=0)&&decide (0<(x9.length:Int))then
 some [jA (nth [] x9 0) 0]
 else
 none
 else
 bif decide (x8=0)then
 none
 else
 bif decide (wrap .i64 ((wrap .i64 (x10-x7)).tdiv x8)>=wrap .i64 ((x9.length:Int)-1))then
 bif decide (0<=wrap .i64 ((x9.length:Int)-1))&&decide (wrap .i64 ((x9.length:Int)-1)<(x9.length:Int))then
 some [jA (nth [] x9 (wrap .i64 ((x9.length:Int)-1)).toNat) 0]
 else
 none
 else
 bif decide (0<=wrap .i64 (wrap .i64 ((wrap .i64 (x10-x7)).tdiv x8)+1))&&decide (wrap .i64 (wrap .i64 ((wrap .i64 (x10-x7)).tdiv x8)+1)<(x9.length:Int))then
 bif decide (0<=wrap .i64 ((wrap .i64 (x10-x7)).tdiv x8))&&decide (wrap .i64 ((wrap .i64 (x10-x7)).tdiv x8)<(x9.length:Int))then
 (AI [I (wrap .i64 (Af (nth .dead (nth [] x9 (wrap .i64 (wrap .i64 ((wrap .i64 (x10-x7)).tdiv x8)+1)).toNat) 0)-Af (nth .dead (nth [] x9 (wrap .i64 ((wrap .i64 (x10-x7)).tdiv x8)).toNat) 0))),I (wrap .i64 (wrap .i64 (x10-x7)-wrap .i64 (wrap .i64 ((wrap .i64 (x10-x7)).tdiv x8)*x8))),I x8,I 2]).bind fun o1=>
 bif decide (0<=wrap .i64 ((wrap .i64 (x10-x7)).tdiv x8))&&decide (wrap .i64 ((wrap .i64 (x10-x7)).tdiv x8)<(x9.length:Int))then
 some [I (wrap .i64 (Af (nth .dead (nth [] x9 (wrap .i64 ((wrap .i64 (x10-x7)).tdiv x8)).toNat) 0)+gA o1 0))]
 else
 none
 else
 none
 else
 none:=by kernel_rfl
def JH:=Qwj Bn
theorem Zeg:Ai PG (Qpr Bn):=Ao rfl ⟨LT,trivial⟩
theorem Zuj:Aj PG (119,Ac Qj0 Z9 JH):=rw1 (C:=(Qpr Bn)) Zeg
def WG:Sk:=⟨[TS.v true (cc 9++[CS.sl Aa]),tf [ci]],[],[]⟩
def YO:Sk:=⟨[tf [ci]],[],[]⟩
def Zp7 (M:Fn):Nat×Spec:=(76,Ac WG YO M)
def ZI (Mg NP:Fn):Cfg:=cf [Zvf Mg,Zoe NP]
def Q0a (Mg NP:Fn):Fn:=Am PG (ZI Mg NP) 64 76 WG YO
theorem Zej (Mg NP:Fn) (x0 x1 x2 x3 x4 x5 x6 x7 x8:Int) (x9:Rw) (x10:Int):Q0a Mg NP [I x0,I x1,I x2,I x3,I x4,I x5,I x6,I x7,I x8, .view Aa x9,I x10]=
 (NP [I x0,I x1,I x2,I x3,I x4,I x5,I x6,I x7,I x8, .view Aa x9,I x10]).bind fun o2=>
 (Mg [I x0,I x1,I x2,I x3,I x4,I x5,I x6,I x7,I x8, .view Aa x9,I (wrap .i64 (x10+gA o2 0))]).bind fun o3=>
 some [jA o3 0]:=by kernel_rfl
def OY:=Q0a JR JH
theorem Ztv:Ai PG (ZI JR JH):=Ao rfl ⟨Zto,Zuj,trivial⟩
theorem Zq5:Aj PG (76,Ac WG YO OY):=rw1 (C:=(ZI JR JH)) Ztv
def Qks:Sk:=⟨[TS.v true ([CS.sl Ap]++cc 5),tf [ci]],[],[]⟩
def UB:Sk:=⟨[tf [ci]],[],[]⟩
def Qys (M:Fn):Nat×Spec:=(75,Ac Qks UB M)
def C_track_find_0:Cfg:=cf []
def Q7h:Sk:=⟨[td,tf [ci],tf [CS.ptr 2 0],td,td,tf [ci],tf [ci]]++dd 29,[(2,62,[CS.sl Ap]++cc 5)],[]⟩
def Q7r:List (Ex×Sk):=[(Ex.exit 0,⟨dd 6++[tf [ci]]++dd 29,[],[]⟩)]
def TN:Lp:=AT PG C_track_find_0 64 2 (AU PG 75 2) Q7h Q7r
def Q8x (N2:Lp):Cfg:=C_track_find_0.loop 2 Q7h Q7r N2
def Q7c (N2:Lp):Fn:=Am PG (Q8x N2) 64 75 Qks UB
theorem ZJ (v0 v1 v2:Int) (v3:Rw) (v4 v5 v6 v7 v8:Int):TN [I v0,I v1,I v2, .view Ap v3,I v4,I v5,I v6,I v7,I v8]=
 bif decide (v1<v2)then
 bif decide (0<=wrap .i64 ((wrap .i64 (v1+v2)).tdiv 2))&&decide (wrap .i64 ((wrap .i64 (v1+v2)).tdiv 2)<(v3.length:Int))then
 bif decide (v0<=wrap .i64 (Af (nth .dead (nth [] v3 (wrap .i64 ((wrap .i64 (v1+v2)).tdiv 2)).toNat) 0)+Af (nth .dead (nth [] v3 (wrap .i64 ((wrap .i64 (v1+v2)).tdiv 2)).toNat) 1)))then
 some (0,[I v0,I v1,I (wrap .i64 ((wrap .i64 (v1+v2)).tdiv 2)), .view Ap v3,I v4,I v5,I v6,I v7,I v8])
 else
 some (0,[I v0,I (wrap .i64 (wrap .i64 ((wrap .i64 (v1+v2)).tdiv 2)+1)),I v2, .view Ap v3,I v4,I v5,I v6,I v7,I v8])
 else
 none
 else
 some (1,[I v2]):=by kernel_rfl
theorem Zda (N2:Lp) (x0:Rw) (x1 x2 x3 x4 x5 x6:Int):Q7c N2 [.view Ap x0,I x1,I x2,I x3,I x4,I x5,I x6]=
 (N2 [I x6,I 0,I (wrap .i64 ((x0.length:Int)-1)), .view Ap x0,I x1,I x2,I x3,I x4,I x5]).bind fun o1=>
 bif o1.1.beq 1 then
 some [jA o1.2 0]
 else
 none:=by kernel_rfl
def L6:=An (TN)
def Jb:=Q7c L6
theorem Q14:Ai PG (C_track_find_0):=Ao rfl trivial
theorem Q1v:Aj PG (75,Ac Qks UB Jb):=rw2 (C:=(Q8x L6)) (fl fb Q14) Q14
def Qqs:Sk:=⟨[TS.v true [ci,ci,ci,CS.sl Ag,CS.sl kPt],tf [ci]],[],[]⟩
def Qkc:Sk:=⟨[TS.tup [(false,[ci]),(false,[ci])]],[],[]⟩
def Qo3 (M:Fn):Nat×Spec:=(117,Ac Qqs Qkc M)
def C_path_Find_0:Cfg:=cf []
def Q20:Sk:=⟨[td,tf [ci],tf [CS.ptr 2 0]]++dd 8++[tf [CS.sl Ag],tf [ci],tf [ci]]++dd 24,[(2,58,[ci,ci,ci,CS.sl Ag,CS.sl kPt])],[]⟩
def Q3g:List (Ex×Sk):=[(Ex.ret,⟨[td,td,td,td,tf [ci],tf [ci]]++dd 32,[],[]⟩),(Ex.exit 0,⟨[td]++dd 37,[],[]⟩)]
def Tj:Lp:=AT PG C_path_Find_0 64 3 (AU PG 117 3) Q20 Q3g
def Qt8 (N3:Lp):Cfg:=C_path_Find_0.loop 3 Q20 Q3g N3
def Q3u (N3:Lp):Fn:=Am PG (Qt8 N3) 64 117 Qqs Qkc
theorem Q82 (v0:Int) (v1:Rw) (v2 v3 v4 v5 v6:Int) (v7 v8:Rw):Tj [I v0, .view Ag v1,I v2,I v3,I v4,I v5,I v6, .view Ag v7, .view kPt v8]=
 bif decide (v3<v2)then
 bif decide (0<=v3)&&decide (v3<(v1.length:Int))then
 bif decide (v0<gA (nth [] v1 v3.toNat) 3)then
 some (1,[I v3,I v0])
 else
 bif v3==wrap .i64 ((v7.length:Int)-1)then
 some (1,[I v3,jA (nth [] v1 v3.toNat) 3])
 else
 some (0,[I (wrap .i64 (v0-gA (nth [] v1 v3.toNat) 3)), .view Ag v1,I v2,I (wrap .i64 (v3+1)),I v4,I v5,I v6, .view Ag v7, .view kPt v8])
 else
 none
 else
 some (2,[]):=by kernel_rfl
theorem Qvp (N3:Lp) (x0 x1 x2:Int) (x3 x4:Rw) (x5:Int):Q3u N3 [I x0,I x1,I x2, .view Ag x3, .view kPt x4,I x5]=
 (N3 [I (mx x5 0), .view Ag x3,I (x3.length:Int),I 0,I x0,I x1,I x2, .view Ag x3, .view kPt x4]).bind fun o1=>
 bif o1.1.beq 1 then
 some [jA o1.2 0,jA o1.2 1]
 else
 bif o1.1.beq 2 then
 some [I (-1),I 0]
 else
 none:=by kernel_rfl
def O9:=An (Tj)
def Es:=Q3u O9
theorem Q5t:Ai PG (C_path_Find_0):=Ao rfl trivial
theorem Qfz:Aj PG (117,Ac Qqs Qkc Es):=rw2 (C:=(Qt8 O9)) (fl fb Q5t) Q5t
def Qkh:Sk:=⟨[TS.v true [ci,ci,ci,CS.sl Ag,CS.sl kPt],tf [ci]],[],[]⟩
def Zj:Sk:=⟨[TS.v true [ci,ci,ci]],[],[]⟩
def Zwh (M:Fn):Nat×Spec:=(74,Ac Qkh Zj M)
def Qj9 (AI Dq:Fn):Cfg:={cf [L3 AI,Qo3 Dq]with unroll:=[9]}
def Qip (AI Dq:Fn):Fn:=Am PG (Qj9 AI Dq) 64 74 Qkh Zj
theorem Zpc (AI Dq:Fn) (x0 x1 x2:Int) (x3 x4:Rw) (x5:Int):Qip AI Dq [I x0,I x1,I x2, .view Ag x3, .view kPt x4,I x5]=
 (Dq [I x0,I x1,I x2, .view Ag x3, .view kPt x4,I x5]).bind fun o7=>
 bif decide (gA o7 0<0)then
 some [I x0,I x1,I x2]
 else
 bif decide (gA o7 0>0)then
 bif decide (0<=wrap .i64 (gA o7 0-1))&&decide (wrap .i64 (gA o7 0-1)<(x3.length:Int))then
 bif decide (0<=gA o7 0)&&decide (gA o7 0<(x3.length:Int))then
 (AI [I (wrap .i64 (gA (nth [] x3 (gA o7 0).toNat) 0-gA (nth [] x3 (wrap .i64 (gA o7 0-1)).toNat) 0)),jA o7 1,jA (nth [] x3 (gA o7 0).toNat) 3,I 2]).bind fun o8=>
 (AI [I (wrap .i64 (gA (nth [] x3 (gA o7 0).toNat) 1-gA (nth [] x3 (wrap .i64 (gA o7 0-1)).toNat) 1)),jA o7 1,jA (nth [] x3 (gA o7 0).toNat) 3,I 2]).bind fun o9=>
 (AI [I (wrap .i64 (gA (nth [] x3 (gA o7 0).toNat) 2-gA (nth [] x3 (wrap .i64 (gA o7 0-1)).toNat) 2)),jA o7 1,jA (nth [] x3 (gA o7 0).toNat) 3,I 2]).bind fun o10=>
 some [I (wrap .i64 (gA (nth [] x3 (wrap .i64 (gA o7 0-1)).toNat) 0+gA o8 0)),I (wrap .i64 (gA (nth [] x3 (wrap .i64 (gA o7 0-1)).toNat) 1+gA o9 0)),I (wrap .i64 (gA (nth [] x3 (wrap .i64 (gA o7 0-1)).toNat) 2+gA o10 0))]
 else
 none
 else
 none
 else
 bif decide (0<=gA o7 0)&&decide (gA o7 0<(x3.length:Int))then
 (AI [I (wrap .i64 (gA (nth [] x3 (gA o7 0).toNat) 0-x0)),jA o7 1,jA (nth [] x3 (gA o7 0).toNat) 3,I 2]).bind fun o11=>
 (AI [I (wrap .i64 (gA (nth [] x3 (gA o7 0).toNat) 1-x1)),jA o7 1,jA (nth [] x3 (gA o7 0).toNat) 3,I 2]).bind fun o12=>
 (AI [I (wrap .i64 (gA (nth [] x3 (gA o7 0).toNat) 2-x2)),jA o7 1,jA (nth [] x3 (gA o7 0).toNat) 3,I 2]).bind fun o13=>
 some [I (wrap .i64 (x0+gA o11 0)),I (wrap .i64 (x1+gA o12 0)),I (wrap .i64 (x2+gA o13 0))]
 else
 none:=by kernel_rfl
def Q2:=Qip Bn Es
theorem Zd6:Ai PG (Qj9 Bn Es):=Ao rfl ⟨LT,Qfz,trivial⟩
theorem Zf7:Aj PG (74,Ac Qkh Zj Q2):=rw1 (C:=(Qj9 Bn Es)) Zd6
def X9:Sk:=⟨[tf [ci],tf [ci]],[],[]⟩
def Qoa:Sk:=⟨[tf [ci]],[],[]⟩
def UK (M:Fn):Nat×Spec:=(73,Ac X9 Qoa M)
def Qj6:Cfg:=cf []
def Qxn:Fn:=Am PG Qj6 64 73 X9 Qoa
theorem Z2t (x0 x1:Int):Qxn [I x0,I x1]=
 some [I (mx 0 (mn x0 x1))]:=by kernel_rfl
def He:=Qxn
theorem Z4b:Ai PG (Qj6):=Ao rfl trivial
theorem Qht:Aj PG (73,Ac X9 Qoa He):=rw1 (C:=Qj6) Z4b
def Zs:Sk:=⟨[TS.v true ([CS.sl Ap]++cc 5),tf [ci]],[],[]⟩
def UW:Sk:=⟨[tf [ci]],[],[]⟩
def RX (M:Fn):Nat×Spec:=(36,Ac Zs UW M)
def Qhc (Gb Dn:Fn):Cfg:=cf [Qys Gb,UK Dn]
def Qcj (Gb Dn:Fn):Fn:=Am PG (Qhc Gb Dn) 64 36 Zs UW
theorem Zzt (Gb Dn:Fn) (x0:Rw) (x1 x2 x3 x4 x5 x6:Int):Qcj Gb Dn [.view Ap x0,I x1,I x2,I x3,I x4,I x5,I x6]=
 (Dn [I x6,I x1]).bind fun o2=>
 (Gb [.view Ap x0,I x1,I x2,I x3,I x4,I x5,jA o2 0]).bind fun o3=>
 bif decide (gA o3 0<0)then
 some [I x2]
 else
 bif decide (0<=gA o3 0)&&decide (gA o3 0<(x0.length:Int))then
 bif decide (0<=gA o3 0)&&decide (gA o3 0<(x0.length:Int))then
 bif decide (0<=gA o3 0)&&decide (gA o3 0<(x0.length:Int))then
 some [I (wrap .i64 (gA (nth [] x0 (gA o3 0).toNat) 2+wrap .i64 (gA (nth [] x0 (gA o3 0).toNat) 3*wrap .i64 (gA o2 0-gA (nth [] x0 (gA o3 0).toNat) 0))))]
 else
 none
 else
 none
 else
 none:=by kernel_rfl
def Ev:=Qcj Jb He
theorem Zbr:Ai PG (Qhc Jb He):=Ao rfl ⟨Q1v,Qht,trivial⟩
theorem T4:Aj PG (36,Ac Zs UW Ev):=rw1 (C:=(Qhc Jb He)) Zbr
def Qfi:Sk:=⟨[TS.v true [ci,ci,ci,CS.sl Ag,CS.sl kPt],TS.v true (cc 9++[CS.sl Aa]++cc 9++[CS.sl Aa]++cc 9++[CS.sl Aa]),TS.v true ([CS.sl Ap]++cc 5),tf [ci]],[],[]⟩
def Qie:Sk:=⟨[TS.v true [ci,ci,ci]],[],[]⟩
def Qm0 (M:Fn):Nat×Spec:=(29,Ac Qfi Qie M)
def Qcf (Fl BB Fc Gb NN BT Dn:Fn):Cfg:={cf [Zyn Fl,Q8c BB,Zp7 Fc,Qys Gb,Zwh NN,RX BT,UK Dn]with unroll:=[6]}
def Qen (Fl BB Fc Gb NN BT Dn:Fn):Fn:=Am PG (Qcf Fl BB Fc Gb NN BT Dn) 64 29 Qfi Qie
abbrev Wa (Fc:Fn) (x:Ax3) (o27 o28:List AC) (BB:Fn) (t:Trk) (h1_0:AC) (Fl:Fn) (o25:List AC) (h2_0:AC):Option (List AC):=
 (Fc [I x.c.step,I x.c.speed,I x.c.accel,I x.c.jerk,I x.c.low,I x.c.high,I x.c.back,I x.c.origin,I x.c.spacing, .view Aa (x.c.pitch.map As),jA o27 2]).bind fun o33=>
 bif decide (gA o28 0<0)then
 (BB [I x.c.step,I x.c.speed,I x.c.accel,I x.c.jerk,I x.c.low,I x.c.high,I x.c.back,I x.c.origin,I x.c.spacing, .view Aa (x.c.pitch.map As),I t.dirs.z]).bind fun o34=>
 some [h1_0,h2_0,I (wrap .i64 (gA o33 0+gA o34 0))]
 else
 bif decide (0<=gA o28 0)&&decide (gA o28 0<((t.aE.map AA).length:Int))then
 (Fl (I x.c.step::I x.c.speed::I x.c.accel::I x.c.jerk::I x.c.low::I x.c.high::I x.c.back::I x.c.origin::I x.c.spacing:: .view Aa (x.c.pitch.map As)::(AO Ap (nth [] (t.aE.map AA) (gA o28 0).toNat)++[I (wrap .i64 (wrap .i64 (0+1)+1)),jA o25 0]))).bind fun o35=>
 some [h1_0,h2_0,I (wrap .i64 (gA o33 0+gA o35 0))]
 else
 none
attribute [go_sem] Wa
abbrev Qk1 (Fc:Fn) (x:Ax3) (o27 o28:List AC) (BB:Fn) (t:Trk) (Fl:Fn) (o25:List AC) (h1_0:AC):Option (List AC):=
 (Fc [I x.b.step,I x.b.speed,I x.b.accel,I x.b.jerk,I x.b.low,I x.b.high,I x.b.back,I x.b.origin,I x.b.spacing, .view Aa (x.b.pitch.map As),jA o27 1]).bind fun o31=>
 bif decide (gA o28 0<0)then
 (BB [I x.b.step,I x.b.speed,I x.b.accel,I x.b.jerk,I x.b.low,I x.b.high,I x.b.back,I x.b.origin,I x.b.spacing, .view Aa (x.b.pitch.map As),I t.dirs.y]).bind fun o32=>
 Wa Fc x o27 o28 BB t h1_0 Fl o25 (I (wrap .i64 (gA o31 0+gA o32 0)))
 else
 bif decide (0<=gA o28 0)&&decide (gA o28 0<((t.aE.map AA).length:Int))then
 (Fl (I x.b.step::I x.b.speed::I x.b.accel::I x.b.jerk::I x.b.low::I x.b.high::I x.b.back::I x.b.origin::I x.b.spacing:: .view Aa (x.b.pitch.map As)::(AO Ap (nth [] (t.aE.map AA) (gA o28 0).toNat)++[I (wrap .i64 (0+1)),jA o25 0]))).bind fun o36=>
 Wa Fc x o27 o28 BB t h1_0 Fl o25 (I (wrap .i64 (gA o31 0+gA o36 0)))
 else
 none
attribute [go_sem] Qk1
theorem Z16 (Fl BB Fc Gb NN BT Dn:Fn) (x41:Int) (p:Pth) (x:Ax3) (t:Trk):Qen Fl BB Fc Gb NN BT Dn (pxt p x t [I x41])=
 (Dn [I x41,I t.length]).bind fun o25=>
 (BT [.view Ap (t.aE.map AA),I t.length,I t.start,I t.dirs.x,I t.dirs.y,I t.dirs.z,jA o25 0]).bind fun o26=>
 (NN [I p.start.x,I p.start.y,I p.start.z, .view Ag (p.aF.map Au), .view kPt (p.aD.map At),jA o26 0]).bind fun o27=>
 (Gb [.view Ap (t.aE.map AA),I t.length,I t.start,I t.dirs.x,I t.dirs.y,I t.dirs.z,jA o25 0]).bind fun o28=>
 (Fc [I x.a.step,I x.a.speed,I x.a.accel,I x.a.jerk,I x.a.low,I x.a.high,I x.a.back,I x.a.origin,I x.a.spacing, .view Aa (x.a.pitch.map As),jA o27 0]).bind fun o29=>
 bif decide (gA o28 0<0)then
 (BB [I x.a.step,I x.a.speed,I x.a.accel,I x.a.jerk,I x.a.low,I x.a.high,I x.a.back,I x.a.origin,I x.a.spacing, .view Aa (x.a.pitch.map As),I t.dirs.x]).bind fun o30=>
 Qk1 Fc x o27 o28 BB t Fl o25 (I (wrap .i64 (gA o29 0+gA o30 0)))
 else
 bif decide (0<=gA o28 0)&&decide (gA o28 0<((t.aE.map AA).length:Int))then
 (Fl (I x.a.step::I x.a.speed::I x.a.accel::I x.a.jerk::I x.a.low::I x.a.high::I x.a.back::I x.a.origin::I x.a.spacing:: .view Aa (x.a.pitch.map As)::(AO Ap (nth [] (t.aE.map AA) (gA o28 0).toNat)++[I 0,jA o25 0]))).bind fun o40=>
 Qk1 Fc x o27 o28 BB t Fl o25 (I (wrap .i64 (gA o29 0+gA o40 0)))
 else
 none:=by kernel_rfl
def Fe:=Qen T9 IP OY Jb Q2 Ev He
theorem Z2f:Ai PG (Qcf T9 IP OY Jb Q2 Ev He):=Ao rfl ⟨Zv4,Qwu,Zq5,Q1v,Zf7,T4,Qht,trivial⟩
theorem Qhr:Aj PG (29,Ac Qfi Qie Fe):=rw1 (C:=(Qcf T9 IP OY Jb Q2 Ev He)) Z2f
def Qir:Sk:=⟨[TS.v true [ci,ci,ci,CS.sl Ag,CS.sl kPt],TS.v true (cc 9++[CS.sl Aa]++cc 9++[CS.sl Aa]++cc 9++[CS.sl Aa]),TS.v true ([CS.sl Ap]++cc 5),tf [ci],tf [ci]],[],[]⟩
def UT:Sk:=⟨[tf [CS.sl kPt]],[],[]⟩
def Q8q (M:Fn):Nat×Spec:=(25,Ac Qir UT M)
def V8 (Br:Fn):Cfg:={cf [Qm0 Br]with prom:=fun b=>bif Nat.beq b 5 then [(11,130)]else [],unroll:=[9]}
def Qz5:Sk:=⟨[td,td,td,td,tf [ci],tf [CS.ptr 5 0],tf [CS.ptr 6 0],tf [CS.ptr 7 0],td,td,td,tf [CS.own 11 3],tf [CS.ptr 12 0],tf [ci]]++dd 54,[(5,58,[ci,ci,ci,CS.sl Ag,CS.sl kPt]),(6,27,cc 9++[CS.sl Aa]++cc 9++[CS.sl Aa]++cc 9++[CS.sl Aa]),(7,62,[CS.sl Ap]++cc 5),(12,44,[ci,ci,ci])],[(11,130,kPt)]⟩
def Q62:List (Ex×Sk):=[(Ex.exit 0,⟨dd 11++[tf [CS.own 11 3]]++dd 56,[],[(11,130,kPt)]⟩)]
def P8 (Br:Fn):Lp:=AT PG (V8 Br) 64 5 (AU PG 25 5) Qz5 Q62
def Q2f (Br:Fn) (N5:Lp):Cfg:=(V8 Br).loop 5 Qz5 Q62 N5
def Sy (Br:Fn) (N5:Lp):Fn:=Am PG (Q2f Br N5) 64 25 Qir UT
abbrev Ls (o6:List AC) (v46 v1 v2:Int) (p:Pth) (x:Ax3) (t:Trk) (h1_0:Bool) (h1_1 h1_2:AC):Option (Nat×List AC):=
 bif gA o6 2 !=v46 then
 bif h1_0 then
 some (0,(h1_1::I v1::I (wrap .i64 (v2+1))::pxt p x t [jA o6 0,jA o6 1,jA o6 2]))
 else
 none
 else
 some (0,(h1_2::I v1::I (wrap .i64 (v2+1))::pxt p x t [jA o6 0,jA o6 1,jA o6 2]))
attribute [go_sem] Ls
theorem Q0y (Br:Fn) (v0:Rw) (v1 v2:Int) (v44 v45 v46:Int) (p:Pth) (x:Ax3) (t:Trk):P8 Br (.view kPt v0::I v1::I v2::pxt p x t [I v44,I v45,I v46])=
 bif decide (v2<v1)then
 (Br (pxt p x t [I (wrap .i64 (v2+1))])).bind fun o6=>
 bif gA o6 0 !=v44 then
 bif((v0++[[I (wrap .i64 (v2+1)),I 0,I (wrap .i64 (gA o6 0-v44))]]).length*24).ble 140737488355328 then
 bif gA o6 1 !=v45 then
 bif((v0++[[I (wrap .i64 (v2+1)),I 0,I (wrap .i64 (gA o6 0-v44))]]++[[I (wrap .i64 (v2+1)),I (wrap .i64 (0+1)),I (wrap .i64 (gA o6 1-v45))]]).length*24).ble 140737488355328 then
 Ls o6 v46 v1 v2 p x t (((v0++[[I (wrap .i64 (v2+1)),I 0,I (wrap .i64 (gA o6 0-v44))]]++[[I (wrap .i64 (v2+1)),I (wrap .i64 (0+1)),I (wrap .i64 (gA o6 1-v45))]]++[[I (wrap .i64 (v2+1)),I (wrap .i64 (wrap .i64 (0+1)+1)),I (wrap .i64 (gA o6 2-v46))]]).length*24).ble 140737488355328) (.view kPt (v0++[[I (wrap .i64 (v2+1)),I 0,I (wrap .i64 (gA o6 0-v44))]]++[[I (wrap .i64 (v2+1)),I (wrap .i64 (0+1)),I (wrap .i64 (gA o6 1-v45))]]++[[I (wrap .i64 (v2+1)),I (wrap .i64 (wrap .i64 (0+1)+1)),I (wrap .i64 (gA o6 2-v46))]])) (.view kPt (v0++[[I (wrap .i64 (v2+1)),I 0,I (wrap .i64 (gA o6 0-v44))]]++[[I (wrap .i64 (v2+1)),I (wrap .i64 (0+1)),I (wrap .i64 (gA o6 1-v45))]]))
 else
 none
 else
 Ls o6 v46 v1 v2 p x t (((v0++[[I (wrap .i64 (v2+1)),I 0,I (wrap .i64 (gA o6 0-v44))]]++[[I (wrap .i64 (v2+1)),I (wrap .i64 (wrap .i64 (0+1)+1)),I (wrap .i64 (gA o6 2-v46))]]).length*24).ble 140737488355328) (.view kPt (v0++[[I (wrap .i64 (v2+1)),I 0,I (wrap .i64 (gA o6 0-v44))]]++[[I (wrap .i64 (v2+1)),I (wrap .i64 (wrap .i64 (0+1)+1)),I (wrap .i64 (gA o6 2-v46))]])) (.view kPt (v0++[[I (wrap .i64 (v2+1)),I 0,I (wrap .i64 (gA o6 0-v44))]]))
 else
 none
 else
 bif gA o6 1 !=v45 then
 bif((v0++[[I (wrap .i64 (v2+1)),I (wrap .i64 (0+1)),I (wrap .i64 (gA o6 1-v45))]]).length*24).ble 140737488355328 then
 Ls o6 v46 v1 v2 p x t (((v0++[[I (wrap .i64 (v2+1)),I (wrap .i64 (0+1)),I (wrap .i64 (gA o6 1-v45))]]++[[I (wrap .i64 (v2+1)),I (wrap .i64 (wrap .i64 (0+1)+1)),I (wrap .i64 (gA o6 2-v46))]]).length*24).ble 140737488355328) (.view kPt (v0++[[I (wrap .i64 (v2+1)),I (wrap .i64 (0+1)),I (wrap .i64 (gA o6 1-v45))]]++[[I (wrap .i64 (v2+1)),I (wrap .i64 (wrap .i64 (0+1)+1)),I (wrap .i64 (gA o6 2-v46))]])) (.view kPt (v0++[[I (wrap .i64 (v2+1)),I (wrap .i64 (0+1)),I (wrap .i64 (gA o6 1-v45))]]))
 else
 none
 else
 Ls o6 v46 v1 v2 p x t (((v0++[[I (wrap .i64 (v2+1)),I (wrap .i64 (wrap .i64 (0+1)+1)),I (wrap .i64 (gA o6 2-v46))]]).length*24).ble 140737488355328) (.view kPt (v0++[[I (wrap .i64 (v2+1)),I (wrap .i64 (wrap .i64 (0+1)+1)),I (wrap .i64 (gA o6 2-v46))]])) (.view kPt v0)
 else
 some (1,[.view kPt v0]):=by kernel_rfl
theorem Qt9 (Br:Fn) (N5:Lp) (x41 x42:Int) (p:Pth) (x:Ax3) (t:Trk):Sy Br N5 (pxt p x t [I x41,I x42])=
 (Br (pxt p x t [I (mx 0 (mn x41 t.length))])).bind fun o7=>
 (N5 (.view kPt []::I (mx 0 (mn x42 t.length))::I (mx 0 (mn x41 t.length))::pxt p x t [jA o7 0,jA o7 1,jA o7 2])).bind fun o8=>
 bif o8.1.beq 1 then
 some [.view kPt (wA o8.2 0)]
 else
 none:=by kernel_rfl
def Qtu:=An (P8 Fe)
def G0:=Sy Fe Qtu
theorem Qry:Ai PG (V8 Fe):=Ao rfl ⟨Qhr,trivial⟩
theorem Q4l:Aj PG (25,Ac Qir UT G0):=rw2 (C:=(Q2f Fe Qtu)) (fl fb Qry) Qry
def Qe8:Sk:=⟨[tf [CS.ptr 20000 0]],[(20000,119,cS)],[]⟩
def Qcw:Sk:=⟨[TS.v true ([CS.sl Ap]++cc 5)],[(20000,119,cS)],[]⟩
def Zx9 (M:Fn):Nat×Spec:=(27,Ac Qe8 Qcw M)
def Qm9:Cfg:=cf []
def Q37:Fn:=Am PG Qm9 64 27 Qe8 Qcw
theorem Zfm (K:Kf) (c:Cv):Q37 (Ad K c)=
 bif((K.t.aE.map AA).length*80).ble 140737488355328 then
 some (AS K.t++Ad K c)
 else
 none:=by kernel_rfl
def Oa:=Q37
theorem Zvu:Ai PG (Qm9):=Ao rfl trivial
theorem Zky:Aj PG (27,Ac Qe8 Qcw Oa):=rw1 (C:=Qm9) Zvu
def Qgd:Sk:=⟨[tf [CS.ptr 20000 0]],[(20000,119,cS)],[]⟩
def Ys:Sk:=⟨[TS.v true [ci,ci,ci,CS.sl Ag,CS.sl kPt]],[(20000,119,cS)],[]⟩
def Z1s (M:Fn):Nat×Spec:=(26,Ac Qgd Ys M)
def Qc1:Cfg:=cf []
def Qwf:Fn:=Am PG Qc1 64 26 Qgd Ys
theorem Zvc (K:Kf) (c:Cv):Qwf (Ad K c)=
 bif((K.p.aF.map Au).length*56).ble 140737488355328 then
 bif((K.p.aD.map At).length*24).ble 140737488355328 then
 some (AH K.p++Ad K c)
 else
 none
 else
 none:=by kernel_rfl
def No:=Qwf
theorem Zs3:Ai PG (Qc1):=Ao rfl trivial
theorem Z38:Aj PG (26,Ac Qgd Ys No):=rw1 (C:=Qc1) Zs3
def Qpo:Sk:=⟨[tf [CS.ptr 20000 0]],[(20000,119,cS)],[]⟩
def Qkl:Sk:=⟨[TS.v true (cc 6)],[(20000,119,cS)],[]⟩
def Zdb (M:Fn):Nat×Spec:=(23,Ac Qpo Qkl M)
def Qa9:Cfg:=cf []
def Q09:Fn:=Am PG Qa9 64 23 Qpo Qkl
theorem Zer (K:Kf) (c:Cv):Q09 (Ad K c)=
 some (I c.m0::I c.m1::I c.m2::I c.m3::I c.m4::I c.m5::Ad K c):=by kernel_rfl
def MY:=Q09
theorem Zte:Ai PG (Qa9):=Ao rfl trivial
theorem Z6j:Aj PG (23,Ac Qpo Qkl MY):=rw1 (C:=Qa9) Zte
def Wh:Sk:=⟨[tf [ci],TS.v true (cc 13++[CS.bool,ci,CS.bool]++cc 5++[CS.bool])],[],[]⟩
def XH:Sk:=⟨[tf [ci]],[],[]⟩
def Zc9 (M:Fn):Nat×Spec:=(164,Ac Wh XH M)
def V9:Cfg:=cf []
def Qmh:Fn:=Am PG V9 64 164 Wh XH
theorem Zsp (x0 x1 x2 x3 x4 x5 x6 x7 x8 x9 x10 x11 x12 x13:Int) (x14:Bool) (x15:Int) (x16:Bool) (x17 x18 x19 x20 x21:Int) (x22:Bool):Qmh [I x0,I x1,I x2,I x3,I x4,I x5,I x6,I x7,I x8,I x9,I x10,I x11,I x12,I x13,B x14,I x15,B x16,I x17,I x18,I x19,I x20,I x21,B x22]=
 bif x1 !=10 then
 some [I x0]
 else
 bif decide (x20<0)then
 some [I x0]
 else
 bif decide (x20>=16)then
 some [I x0]
 else
 bif decide (wrap .u64 x20<0)then
 none
 else
 bif x22 then
 some [I (wrap .i64 (↑(BitVec.ofInt IntKind.i64.bits x0|||BitVec.ofInt IntKind.i64.bits (wrap .i64 (1*2^min (wrap .u64 x20).toNat IntKind.i64.bits))).toNat:Int))]
 else
 some [I (wrap .i64 (↑(BitVec.ofInt IntKind.i64.bits x0&&& ~~~BitVec.ofInt IntKind.i64.bits (wrap .i64 (1*2^min (wrap .u64 x20).toNat IntKind.i64.bits))).toNat:Int))]:=by kernel_rfl
def Kt:=Qmh
theorem Z5u:Ai PG (V9):=Ao rfl trivial
theorem Zwg:Aj PG (164,Ac Wh XH Kt):=rw1 (C:=V9) Z5u
def Qkw:Sk:=⟨[TS.v true [ci,ci,ci],TS.v true [ci,ci,CS.bool,CS.bool,CS.bool]],[],[]⟩
def Qnd:Sk:=⟨[tf [CS.bool]],[],[]⟩
def Q3k (M:Fn):Nat×Spec:=(163,Ac Qkw Qnd M)
def WT:Cfg:=cf []
def Qlo:Fn:=Am PG WT 64 163 Qkw Qnd
theorem Zjl (x0 x1 x2 x3 x4:Int) (x5 x6 x7:Bool):Qlo [I x0,I x1,I x2,I x3,I x4,B x5,B x6,B x7]=
 bif x1==1 then
 some [B true]
 else
 bif x1==3 then
 some [B true]
 else
 bif x1==6 then
 some [B true]
 else
 bif x1==4 then
 bif x7 then
 some [B true]
 else
 some [B x6]
 else
 bif x1==2 then
 some [B x6]
 else
 some [B false]:=by kernel_rfl
def Iq:=Qlo
theorem Z5a:Ai PG (WT):=Ao rfl trivial
theorem Qsy:Aj PG (163,Ac Qkw Qnd Iq):=rw1 (C:=WT) Z5a
def Qgn:Sk:=⟨[tf [CS.ptr 20000 0],tf [ci]],[(20000,119,cS)],[]⟩
def Qak:Sk:=⟨[tf [CS.sl Aa]],[(20000,119,cS)],[]⟩
def Ziq (M:Fn):Nat×Spec:=(111,Ac Qgn Qak M)
def Qle (EO CH:Fn):Cfg:={cf [Zc9 EO,Q3k CH]with prom:=fun b=>bif Nat.beq b 2 then [(5,3)]else []}
def Qvn:Sk:=⟨[tf [CS.ptr 20000 0],tf [ci],td,td,td,tf [CS.own 5 1]]++dd 84,[(20000,119,cS)],[(5,3,Aa)]⟩
def Q2s:List (Ex×Sk):=[(Ex.exit 0,⟨[td,td,td,td,td,tf [CS.own 5 1]]++dd 84,[(20000,119,cS)],[(5,3,Aa)]⟩)]
def Rb (EO CH:Fn):Lp:=AT PG (Qle EO CH) 64 2 (AU PG 111 2) Qvn Q2s
def Q4g (EO CH:Fn) (N2:Lp):Cfg:=(Qle EO CH).loop 2 Qvn Q2s N2
def UA (EO CH:Fn) (N2:Lp):Fn:=Am PG (Q4g EO CH N2) 64 111 Qgn Qak
abbrev Mp (K:Kf) (c:Cv) (v0:Rw) (EO:Fn) (v1:Int):Option (Nat×List AC):=
 bif gA (nth [] (K.p.aD.map At) c.aK.toNat) 1==5 then
 bif((v0++[[jA (nth [] (K.p.aD.map At) c.aK.toNat) 2]]).length*8).ble 140737488355328 then
 bif decide (0<=gA (nth [] (K.p.aD.map At) c.aK.toNat) 2)&&decide (gA (nth [] (K.p.aD.map At) c.aK.toNat) 2<((K.aA.map Ah).length:Int))then
 (EO (I c.outs::AO Al (nth [] (K.aA.map Ah) (gA (nth [] (K.p.aD.map At) c.aK.toNat) 2).toNat))).bind fun o10=>
 some (0,(.view Aa (v0++[[jA (nth [] (K.p.aD.map At) c.aK.toNat) 2]])::I v1::Ad K {c with outs:=gA o10 0,aK:=wrap .i64 (c.aK+1)}))
 else
 none
 else
 none
 else
 some (0,(.view Aa v0::I v1::Ad K {c with aK:=wrap .i64 (c.aK+1)}))
attribute [go_sem] Mp
theorem Z5o (EO CH:Fn) (v0:Rw) (v1:Int) (K:Kf) (c:Cv):Rb EO CH (.view Aa v0::I v1::Ad K c)=
 bif decide (c.aK<((K.p.aD.map At).length:Int))then
 bif decide (0<=c.aK)&&decide (c.aK<((K.p.aD.map At).length:Int))then
 bif decide (gA (nth [] (K.p.aD.map At) c.aK.toNat) 0>v1)then
 some (1,(.view Aa v0::Ad K c))
 else
 bif gA (nth [] (K.p.aD.map At) c.aK.toNat) 0==v1 then
 bif decide (c.aK>=c.next)then
 (CH [jA (nth [] (K.p.aD.map At) c.aK.toNat) 0,jA (nth [] (K.p.aD.map At) c.aK.toNat) 1,jA (nth [] (K.p.aD.map At) c.aK.toNat) 2,I c.o0,I c.o1,B c.o2,B c.o3,B c.o4]).bind fun o9=>
 bif bA o9 0 then
 some (1,(.view Aa v0::Ad K c))
 else
 Mp K c v0 EO v1
 else
 Mp K c v0 EO v1
 else
 Mp K c v0 EO v1
 else
 none
 else
 some (1,(.view Aa v0::Ad K c)):=by kernel_rfl
theorem Z5b (EO CH:Fn) (N2:Lp) (x0:Int) (K:Kf) (c:Cv):UA EO CH N2 (I x0::Ad K c)=
 (N2 (.view Aa []::I x0::Ad K c)).bind fun o13=>
 bif o13.1.beq 1 then
 some (.view Aa (wA o13.2 0)::cR 1 o13.2)
 else
 none:=by kernel_rfl
def Quc:=An (Rb Kt Iq)
def QN:=UA Kt Iq Quc
theorem Qsz:Ai PG (Qle Kt Iq):=Ao rfl ⟨Zwg,Qsy,trivial⟩
theorem Zty:Aj PG (111,Ac Qgn Qak QN):=rw2 (C:=(Q4g Kt Iq Quc)) (fl fb Qsz) Qsz
def Qfr:Sk:=⟨[tf [CS.ptr 20000 0]],[(20000,119,cS)],[]⟩
def Qpn:Sk:=⟨[tf [ci]],[],[]⟩
def RW (M:Fn):Nat×Spec:=(63,EJ Qfr Qpn M)
def QI:Cfg:=cf []
def Qf1:Fn:=Oj PG QI 64 63 Qfr Qpn
theorem Zyv (K:Kf) (c:Cv):Qf1 (Ad K c)=
 some [I (wrap .i64 (c.m0.tdiv 256))]:=by kernel_rfl
def DX:=Qf1
theorem Zsj:Ai PG (QI):=Ao rfl trivial
theorem Zg6 (vars:List AC) (R:Type) (K:TV->Mem->Option R):EZ PG QI 64 63 [TV.v false [AC.ptr 20000 0]] ⟨[(20000,(⟨119,(cR 0 vars)⟩:Box))],[]⟩ K=EZ PG QI 64 63 [TV.v false [AC.ptr 20000 0]] ⟨[(20000,(⟨119,(cR 0 vars)⟩:Box))],[]⟩ (fun v _=>K v ⟨[(20000,(⟨119,(cR 0 vars)⟩:Box))],[]⟩):=Eq.trans (b:=(K (TV.v false [I (wrap .i64 ((gA vars 50).tdiv 256))]) ⟨[(20000,(⟨119,(cR 0 vars)⟩:Box))],[]⟩)) (by kernel_rfl) (Eq.symm (by kernel_rfl))
theorem T8:Aj PG (63,EJ Qfr Qpn DX):=S4 (C:=QI) (L:=64) (by kernel_rfl) (FnOK.bare rfl rfl rfl) Zsj eqOk Ig (by kernel_rfl) (by kernel_rfl) (fun vars R K=>Zg6 vars R K)
def Qmg:Sk:=⟨[tf [CS.ptr 20000 0]],[(20000,119,cS)],[]⟩
def Zf:Sk:=⟨[tf [ci]],[],[]⟩
def Tm (M:Fn):Nat×Spec:=(110,EJ Qmg Zf M)
def Pr (BT A9:Fn):Cfg:=cr [RX BT,RW A9] [63] [63]
def ZQ (BT A9:Fn):Fn:=Oj PG (Pr BT A9) 64 110 Qmg Zf
theorem Zbl (BT A9:Fn) (K:Kf) (c:Cv):ZQ BT A9 (Ad K c)=
 (A9 (Ad K c)).bind fun o2=>
 (BT (AS K.t++[jA o2 0])).bind fun o3=>
 some [jA o3 0]:=by kernel_rfl
def Ep:=ZQ Ev DX
theorem Zyo:Ai PG (Pr Ev DX):=II (rs:=[63]) rfl ⟨T4,T8,trivial⟩ rfl (CO rfl (Hp Jx))
theorem Ztk (vars : List AC) (R : Type) (K : TV -> Mem -> Option R) : EZ PG (Pr Ev DX) 64 110 [TV.v false [AC.ptr 20000 0]] ⟨[(20000, (⟨119, (cR 0 vars)⟩ : Box))], []⟩ K = EZ PG (Pr Ev DX) 64 110 [TV.v false [AC.ptr 20000 0]] ⟨[(20000, (⟨119, (cR 0 vars)⟩ : Box))], []⟩ (fun v _ => K v ⟨[(20000, (⟨119, (cR 0 vars)⟩ : Box))], []⟩) := Eq.trans (b := ((DX (cR 0 vars)).bind fun o2 =>
 (Ev [.view Ap (wA vars 44),jA vars 45,jA vars 46,jA vars 47,jA vars 48,jA vars 49,jA o2 0]).bind fun o3=>
 K (TV.v false [jA o3 0]) ⟨[(20000,(⟨119,(cR 0 vars)⟩:Box))],[]⟩)) (by kernel_rfl) (Eq.symm (by kernel_rfl))
theorem TL:Aj PG (110,EJ Qmg Zf Ep):=S4 (C:=(Pr Ev DX)) (L:=64) (by kernel_rfl) (FnOK.bare rfl rfl rfl) Zyo eqOk Ig (by kernel_rfl) (by kernel_rfl) (fun vars R K=>Ztk vars R K)
def YN:Sk:=⟨[tf [CS.ptr 20000 0],tf [CS.ptr 20001 0],tf [ci]],[(20000,119,cS),(20001,46,[CS.sl kPt,CS.sl Aa]++cc 7)],[]⟩
def Ws:Sk:=⟨[TS.tup []],[(20000,119,cS),(20001,46,[CS.sl kPt,CS.sl Aa]++cc 7)],[]⟩
def Zcq (M:Fn):Nat×Spec:=(71,Ac YN Ws M)
def Qla (Br Jv DJ B5 A9:Fn):Cfg:=cr [Qm0 Br,Ziq Jv,Q8q DJ,Tm B5,RW A9] [111,110,63] [110,63]
def VZ (Br Jv DJ B5 A9:Fn):Fn:=Am PG (Qla Br Jv DJ B5 A9) 64 71 YN Ws
abbrev Qqg (c:Cv) (Jv:Fn) (o10:List AC) (K:Kf) (Br:Fn) (o9:List AC) (x93:Int) (x92:Rw) (h1_0:AC):Option (List AC):=
 bif c.way==0 then
 (Jv (jA o10 0::Ad K c)).bind fun o12=>
 (Br [jA o12 38,jA o12 39,jA o12 40, .view Ag (wA o12 41), .view kPt (wA o12 42),jA o12 1,jA o12 2,jA o12 3,jA o12 4,jA o12 5,jA o12 6,jA o12 7,jA o12 8,jA o12 9, .view Aa (wA o12 10),jA o12 11,jA o12 12,jA o12 13,jA o12 14,jA o12 15,jA o12 16,jA o12 17,jA o12 18,jA o12 19, .view Aa (wA o12 20),jA o12 21,jA o12 22,jA o12 23,jA o12 24,jA o12 25,jA o12 26,jA o12 27,jA o12 28,jA o12 29, .view Aa (wA o12 30), .view Ap (wA o12 45),jA o12 46,jA o12 47,jA o12 48,jA o12 49,jA o12 50,jA o9 0]).bind fun o13=>
 some (cR 1 o12++[h1_0, .view Aa (wA o12 0),I x93,jA o10 0,jA o13 0,jA o13 1,jA o13 2,jA o12 68,jA o12 63])
 else
 (Br (pxt K.p K.x K.t [jA o9 0])).bind fun o14=>
 some (Ad K c++[h1_0, .view Aa x92,I x93,jA o10 0,jA o14 0,jA o14 1,jA o14 2,I c.s3,I c.g1])
attribute [go_sem] Qqg
theorem Zk6 (Br Jv DJ B5 A9:Fn) (x0:Int) (x91 x92:Rw) (x93 x94 x95 x96 x97 x98 x99:Int) (K:Kf) (c:Cv):VZ Br Jv DJ B5 A9 (I x0::(Ad K c++[.view kPt x91, .view Aa x92,I x93,I x94,I x95,I x96,I x97,I x98,I x99]))=
 (A9 (Ad K c)).bind fun o9=>
 (B5 (Ad K c)).bind fun o10=>
 bif !c.aL then
 (DJ (pxt K.p K.x K.t [I x0,jA o9 0])).bind fun o11=>
 Qqg c Jv o10 K Br o9 x93 x92 (.view kPt (wA o11 0))
 else
 Qqg c Jv o10 K Br o9 x93 x92 (.view kPt x91):=by kernel_rfl
def KM:=VZ Fe QN G0 Ep DX
theorem Z7o:Ai PG (Qla Fe QN G0 Ep DX):=II (rs:=[110,63]) rfl ⟨Qhr,Zty,Q4l,TL,T8,trivial⟩ rfl (CO rfl (CO rfl (CO rfl (Hp (Hp Jx)))))
theorem Zc0:Aj PG (71,Ac YN Ws KM):=rw1 (C:=(Qla Fe QN G0 Ep DX)) Z7o
def Qfo:Sk:=⟨[tf [CS.ptr 20000 0]],[(20000,119,cS)],[]⟩
def Zt:Sk:=⟨[TS.tup []],[(20000,119,cS)],[]⟩
def Qc9 (M:Fn):Nat×Spec:=(108,Ac Qfo Zt M)
def Qhh:Cfg:=cf []
def YH:Fn:=Am PG Qhh 64 108 Qfo Zt
theorem Zbz (K:Kf) (c:Cv):YH (Ad K c)=
 bif c.g0==0 then
 some (Ad K {c with o2:=true,g0:=1,g1:=18,g2:= -1})
 else
 some (Ad K c):=by kernel_rfl
def GN:=YH
theorem Zf8:Ai PG (Qhh):=Ao rfl trivial
theorem Qhf:Aj PG (108,Ac Qfo Zt GN):=rw1 (C:=Qhh) Zf8
def Qba:Sk:=⟨[TS.v true [ci,ci,ci],tf [ci]],[],[]⟩
def Qa5:Sk:=⟨[tf [ci]],[],[]⟩
def Q1y (M:Fn):Nat×Spec:=(174,Ac Qba Qa5 M)
def Vb:Cfg:=cf []
def R5:Fn:=Am PG Vb 64 174 Qba Qa5
theorem Xi (x0 x1 x2 x3:Int):R5 [I x0,I x1,I x2,I x3]=
 bif decide (x3<=0)then
 some [I 0]
 else
 bif decide (x1<=0)then
 some [I 0]
 else
 bif decide (x1=0)then
 none
 else
 some [I (wrap .i64 (wrap .i64 (wrap .i64 ((wrap .i64 (x3-1)).tdiv x1)*x3)-wrap .i64 (x1*wrap .i64 ((wrap .i64 (wrap .i64 ((wrap .i64 (x3-1)).tdiv x1)*wrap .i64 (wrap .i64 ((wrap .i64 (x3-1)).tdiv x1)+1))).tdiv 2))))]:=by kernel_rfl
def GO:=R5
theorem Zb4:Ai PG (Vb):=Ao rfl trivial
theorem Qt0:Aj PG (174,Ac Qba Qa5 GO):=rw1 (C:=Vb) Zb4
def Qoy:Sk:=⟨[TS.v true [ci,ci,ci]],[],[]⟩
def Yq:Sk:=⟨[tf [CS.bool]],[],[]⟩
def Qcd (M:Fn):Nat×Spec:=(87,Ac Qoy Yq M)
def Qmf:Cfg:=cf []
def Qy0:Fn:=Am PG Qmf 64 87 Qoy Yq
theorem Z25 (x0 x1 x2:Int):Qy0 [I x0,I x1,I x2]=
 bif decide (1<=x0)then
 bif decide (x0<=65536)then
 bif decide (2<=x1)then
 bif decide (x1<=65536)then
 bif decide (1<=x2)then
 some [B (decide (x2<=16777216))]
 else
 some [B false]
 else
 some [B false]
 else
 some [B false]
 else
 some [B false]
 else
 some [B false]:=by kernel_rfl
def EL:=Qy0
theorem Zwz:Ai PG (Qmf):=Ao rfl trivial
theorem Qbe:Aj PG (87,Ac Qoy Yq EL):=rw1 (C:=Qmf) Zwz
def Qna:Sk:=⟨[TS.v true [ci,ci,ci],tf [ci],tf [ci]],[],[]⟩
def Yh:Sk:=⟨[tf [ci]],[],[]⟩
def ZY (M:Fn):Nat×Spec:=(129,Ac Qna Yh M)
def WP (C_ BH:Fn):Cfg:=cf [Q1y C_,Qcd BH]
def Qsp:Sk:=⟨[td,tf [ci],td,tf [CS.ptr 3 0],td,td,td,tf [ci],tf [ci]]++dd 49,[(3,29,[ci,ci,ci])],[]⟩
def Qvi:List (Ex×Sk):=[(Ex.exit 0,⟨dd 7++[tf [ci]]++dd 50,[],[]⟩)]
def K1 (C_ BH:Fn):Lp:=AT PG (WP C_ BH) 64 4 (AU PG 129 4) Qsp Qvi
def Q9q (C_ BH:Fn) (N4:Lp):Cfg:=(WP C_ BH).loop 4 Qsp Qvi N4
def SB (C_ BH:Fn) (N4:Lp):Fn:=Am PG (Q9q C_ BH N4) 64 129 Qna Yh
theorem Y2 (C_ BH:Fn) (v0 v1 v2 v3 v4 v5:Int):K1 C_ BH [I v0,I v1,I v2,I v3,I v4,I v5]=
 bif decide (v1<v2)then
 (C_ [I v3,I v4,I v5,I (wrap .i64 (v2-wrap .i64 ((wrap .i64 (v2-v1)).tdiv 2)))]).bind fun o4=>
 bif decide (wrap .i64 (v0-wrap .i64 (v2-wrap .i64 ((wrap .i64 (v2-v1)).tdiv 2)))>=gA o4 0)then
 some (0,[I v0,I (wrap .i64 (v2-wrap .i64 ((wrap .i64 (v2-v1)).tdiv 2))),I v2,I v3,I v4,I v5])
 else
 some (0,[I v0,I v1,I (wrap .i64 (wrap .i64 (v2-wrap .i64 ((wrap .i64 (v2-v1)).tdiv 2))-1)),I v3,I v4,I v5])
 else
 some (1,[I v1]):=by kernel_rfl
theorem Q5c (C_ BH:Fn) (N4:Lp) (x0 x1 x2 x3 x4:Int):SB C_ BH N4 [I x0,I x1,I x2,I x3,I x4]=
 (BH [I x0,I x1,I x2]).bind fun o5=>
 bif !bA o5 0 then
 some [I 0]
 else
 bif decide (mx x4 x3>1099511627776)then
 some [I 0]
 else
 bif decide (mn x4 x3< -1099511627776)then
 some [I 0]
 else
 (N4 [I x3,I (wrap .i64 (wrap .i64 (0-x4)-x1)),I (mn (wrap .i64 (x1-x4)) x0),I x0,I x1,I x2]).bind fun o6=>
 bif o6.1.beq 1 then
 some [I (wrap .i64 (0-gA o6.2 0))]
 else
 none:=by kernel_rfl
def Qyr:=An (K1 GO EL)
def EY:=SB GO EL Qyr
theorem Qvg:Ai PG (WP GO EL):=Ao rfl ⟨Qt0,Qbe,trivial⟩
theorem Qlj:Aj PG (129,Ac Qna Yh EY):=rw2 (C:=(Q9q GO EL Qyr)) (fl fb Qvg) Qvg
def VO:Sk:=⟨[tf [CS.sl Aa],tf [ci]],[],[]⟩
def Qg3:Sk:=⟨[tf [CS.bool]],[],[]⟩
def Zp8 (M:Fn):Nat×Spec:=(121,Ac VO Qg3 M)
def C_limits_bounded_0:Cfg:=cf []
def Zaj:Sk:=⟨[td,tf [ci],td,td,td,td,td,tf [CS.sl Aa],tf [ci],tf [ci]]++dd 13,[],[]⟩
def Qta:List (Ex×Sk):=[(Ex.ret,⟨[td,td,td,td,tf [CS.bool]]++dd 18,[],[]⟩),(Ex.exit 0,⟨[td]++dd 22,[],[]⟩)]
def Qcr:Lp:=AT PG C_limits_bounded_0 64 2 (AU PG 121 2) Zaj Qta
def Qtf (N2:Lp):Cfg:=C_limits_bounded_0.loop 2 Zaj Qta N2
def Up (N2:Lp):Fn:=Am PG (Qtf N2) 64 121 VO Qg3
theorem Zdp (v0:Int) (v1:Rw) (v2 v3:Int):Qcr [I v0, .view Aa v1,I v2,I v3]=
 bif decide (v3<v2)then
 bif decide (0<=v3)&&decide (v3<(v1.length:Int))then
 bif decide (gA (nth [] v1 v3.toNat) 0>v0)then
 some (1,[B false])
 else
 bif decide (gA (nth [] v1 v3.toNat) 0<wrap .i64 (0-v0))then
 some (1,[B false])
 else
 some (0,[I v0, .view Aa v1,I v2,I (wrap .i64 (v3+1))])
 else
 none
 else
 some (2,[]):=by kernel_rfl
theorem Z7m (N2:Lp) (x0:Rw) (x1:Int):Up N2 [.view Aa x0,I x1]=
 (N2 [I x1, .view Aa x0,I (x0.length:Int),I 0]).bind fun o1=>
 bif o1.1.beq 1 then
 some [B (bA o1.2 0)]
 else
 bif o1.1.beq 2 then
 some [B true]
 else
 none:=by kernel_rfl
def Q1w:=An (Qcr)
def PX:=Up Q1w
theorem Q41:Ai PG (C_limits_bounded_0):=Ao rfl trivial
theorem Zft:Aj PG (121,Ac VO Qg3 PX):=rw2 (C:=(Qtf Q1w)) (fl fb Q41) Q41
def Qj3:Sk:=⟨[tf [CS.sl Aa]],[],[]⟩
def VX:Sk:=⟨[tf [CS.sl Aa]],[],[]⟩
def Zsh (M:Fn):Nat×Spec:=(120,Ac Qj3 VX M)
def C_limits_Differences_0:Cfg:={cf []with prom:=fun b=>bif Nat.beq b 3 then [(3,3)]else []}
def Qth:Sk:=⟨[tf [CS.sl Aa],td,td,tf [CS.own 3 1],tf [ci]]++dd 20,[],[(3,3,Aa)]⟩
def Q58:List (Ex×Sk):=[(Ex.exit 0,⟨[td,td,td,tf [CS.own 3 1]]++dd 21,[],[(3,3,Aa)]⟩)]
def Qhd:Lp:=AT PG C_limits_Differences_0 64 3 (AU PG 120 3) Qth Q58
def Qwi (N3:Lp):Cfg:=C_limits_Differences_0.loop 3 Qth Q58 N3
def WO (N3:Lp):Fn:=Am PG (Qwi N3) 64 120 Qj3 VX
theorem Zpp (v0 v1:Rw) (v2:Int):Qhd [.view Aa v0, .view Aa v1,I v2]=
 bif decide (v2<(v1.length:Int))then
 bif decide (0<=v2)&&decide (v2<(v1.length:Int))then
 bif decide (0<=wrap .i64 (v2-1))&&decide (wrap .i64 (v2-1)<(v1.length:Int))then
 bif((v0++[[I (wrap .i64 (gA (nth [] v1 v2.toNat) 0-gA (nth [] v1 (wrap .i64 (v2-1)).toNat) 0))]]).length*8).ble 140737488355328 then
 some (0,[.view Aa (v0++[[I (wrap .i64 (gA (nth [] v1 v2.toNat) 0-gA (nth [] v1 (wrap .i64 (v2-1)).toNat) 0))]]), .view Aa v1,I (wrap .i64 (v2+1))])
 else
 none
 else
 none
 else
 none
 else
 some (1,[.view Aa v0]):=by kernel_rfl
theorem Zf6 (N3:Lp) (x0:Rw):WO N3 [.view Aa x0]=
 (N3 [.view Aa [], .view Aa x0,I 1]).bind fun o1=>
 bif o1.1.beq 1 then
 some [.view Aa (wA o1.2 0)]
 else
 none:=by kernel_rfl
def Qyc:=An (Qhd)
def QD:=WO Qyc
theorem Qrw:Ai PG (C_limits_Differences_0):=Ao rfl trivial
theorem Zn8:Aj PG (120,Ac Qj3 VX QD):=rw2 (C:=(Qwi Qyc)) (fl fb Qrw) Qrw
def Y1:Sk:=⟨[TS.v true (cc 9++[CS.sl Aa]),tf [CS.sl Aa]],[],[]⟩
def Qng:Sk:=⟨[tf [CS.bool]],[],[]⟩
def Z7u (M:Fn):Nat×Spec:=(79,Ac Y1 Qng M)
def Zv (KB JP:Fn):Cfg:={cf [Zp8 KB,Zsh JP]with unroll:=[2]}
def Qoz (KB JP:Fn):Fn:=Am PG (Zv KB JP) 64 79 Y1 Qng
theorem Z55 (KB JP:Fn) (x0 x1 x2 x3 x4 x5 x6 x7 x8:Int) (x9 x10:Rw):Qoz KB JP [I x0,I x1,I x2,I x3,I x4,I x5,I x6,I x7,I x8, .view Aa x9, .view Aa x10]=
 (JP [.view Aa x10]).bind fun o6=>
 (KB [.view Aa (wA o6 0),I x1]).bind fun o7=>
 bif !bA o7 0 then
 some [B false]
 else
 (JP [.view Aa (wA o6 0)]).bind fun o8=>
 (KB [.view Aa (wA o8 0),I x2]).bind fun o9=>
 bif !bA o9 0 then
 some [B false]
 else
 (JP [.view Aa (wA o8 0)]).bind fun o10=>
 (KB [.view Aa (wA o10 0),I x3]).bind fun o11=>
 bif !bA o11 0 then
 some [B false]
 else
 some [B true]:=by kernel_rfl
def L2:=Qoz PX QD
theorem Zmo:Ai PG (Zv PX QD):=Ao rfl ⟨Zft,Zn8,trivial⟩
theorem Zl1:Aj PG (79,Ac Y1 Qng L2):=rw1 (C:=(Zv PX QD)) Zmo
def Qeq:Sk:=⟨[TS.v true (cc 9++[CS.sl Aa]++cc 9++[CS.sl Aa]++cc 9++[CS.sl Aa]),tf [CS.sl kPt]],[],[]⟩
def V1:Sk:=⟨[tf [CS.bool]],[],[]⟩
def Zwv (M:Fn):Nat×Spec:=(31,Ac Qeq V1 M)
def Zl (DI:Fn):Cfg:=cf [Z7u DI]
def Q3f:Sk:=⟨[td,tf [CS.sl kPt],tf [CS.ptr 2 0],td,td,tf [ci],tf [CS.own 13 1],td,tf [ci]]++dd 6++[tf [ci],tf [ci]]++dd 19,[(2,27,cc 9++[CS.sl Aa]++cc 9++[CS.sl Aa]++cc 9++[CS.sl Aa])],[(13,3,Aa)]⟩
def Quu:List (Ex×Sk):=[(Ex.exit 2,⟨[td,tf [CS.sl kPt],tf [CS.ptr 2 0],td,td,tf [ci],tf [CS.own 13 1],td,tf [ci]]++dd 27,[(2,27,cc 9++[CS.sl Aa]++cc 9++[CS.sl Aa]++cc 9++[CS.sl Aa])],[(13,3,Aa)]⟩)]
def Lg (DI:Fn):Lp:=AT PG (Zl DI) 64 6 (AU PG 31 6) Q3f Quu
def Qv6 (DI:Fn) (N6:Lp):Cfg:=(Zl DI).loop 6 Q3f Quu N6
def Q5q:Sk:=⟨[td,tf [CS.sl kPt],tf [CS.ptr 2 0],td,td,td,td,td,tf [ci]]++dd 27,[(2,27,cc 9++[CS.sl Aa]++cc 9++[CS.sl Aa]++cc 9++[CS.sl Aa])],[]⟩
def Qt3:List (Ex×Sk):=[(Ex.ret,⟨[td,td,td,td,tf [CS.bool]]++dd 31,[],[]⟩),(Ex.exit 0,⟨[td]++dd 35,[],[]⟩)]
def Sn (DI:Fn) (N6:Lp):Lp:=AT PG (Qv6 DI N6) 64 2 (AU PG 31 2) Q5q Qt3
def Q65 (DI:Fn) (N6 N2:Lp):Cfg:=(Qv6 DI N6).loop 2 Q5q Qt3 N2
def R2 (DI:Fn) (N6 N2:Lp):Fn:=Am PG (Q65 DI N6 N2) 64 31 Qeq V1
theorem Z0r (DI:Fn) (v0 v1:Rw) (v2 v3 v4 v5 v6 v7 v8 v9 v10 v11 v12 v13 v14:Int) (v15:Rw) (v16 v17 v18 v19 v20 v21 v22 v23 v24:Int) (v25:Rw) (v26 v27 v28 v29 v30 v31 v32 v33 v34:Int) (v35:Rw):Lg DI [.view Aa v0, .view kPt v1,I v2,I v3,I v4,I v5,I v6,I v7,I v8,I v9,I v10,I v11,I v12,I v13,I v14, .view Aa v15,I v16,I v17,I v18,I v19,I v20,I v21,I v22,I v23,I v24, .view Aa v25,I v26,I v27,I v28,I v29,I v30,I v31,I v32,I v33,I v34, .view Aa v35]=
 bif decide (v5<v4)then
 bif decide (0<=v5)&&decide (v5<(v1.length:Int))then
 bif decide (v2=(↑0:Int))then
 bif decide (0<=v5)&&decide (v5<(v0.length:Int))then
 some (0,[.view Aa (v0.set v5.toNat [jA (nth [] v1 v5.toNat) 0]), .view kPt v1,I v2,I v3,I v4,I (wrap .i64 (v5+1)),I v6,I v7,I v8,I v9,I v10,I v11,I v12,I v13,I v14, .view Aa v15,I v16,I v17,I v18,I v19,I v20,I v21,I v22,I v23,I v24, .view Aa v25,I v26,I v27,I v28,I v29,I v30,I v31,I v32,I v33,I v34, .view Aa v35])
 else
 none
 else
 bif decide (v2=(↑(0+1):Int))then
 bif decide (0<=v5)&&decide (v5<(v0.length:Int))then
 some (0,[.view Aa (v0.set v5.toNat [jA (nth [] v1 v5.toNat) 1]), .view kPt v1,I v2,I v3,I v4,I (wrap .i64 (v5+1)),I v6,I v7,I v8,I v9,I v10,I v11,I v12,I v13,I v14, .view Aa v15,I v16,I v17,I v18,I v19,I v20,I v21,I v22,I v23,I v24, .view Aa v25,I v26,I v27,I v28,I v29,I v30,I v31,I v32,I v33,I v34, .view Aa v35])
 else
 none
 else
 bif decide (v2=(↑(0+1+1):Int))then
 bif decide (0<=v5)&&decide (v5<(v0.length:Int))then
 some (0,[.view Aa (v0.set v5.toNat [jA (nth [] v1 v5.toNat) 2]), .view kPt v1,I v2,I v3,I v4,I (wrap .i64 (v5+1)),I v6,I v7,I v8,I v9,I v10,I v11,I v12,I v13,I v14, .view Aa v15,I v16,I v17,I v18,I v19,I v20,I v21,I v22,I v23,I v24, .view Aa v25,I v26,I v27,I v28,I v29,I v30,I v31,I v32,I v33,I v34, .view Aa v35])
 else
 none
 else
 none
 else
 none
 else
 some (1,[.view Aa v0, .view kPt v1,I v2,I v3,I v6,I v7,I v8,I v9,I v10,I v11,I v12,I v13,I v14, .view Aa v15,I v16,I v17,I v18,I v19,I v20,I v21,I v22,I v23,I v24, .view Aa v25,I v26,I v27,I v28,I v29,I v30,I v31,I v32,I v33,I v34, .view Aa v35]):=by kernel_rfl
abbrev S3 (o5:Nat×List AC) (h1_0:Bool):Option (Nat×List AC):=
 bif h1_0 then
 some (1,[B false])
 else
 some (0,[.view kPt (wA o5.2 1),I (wrap .i64 (gA o5.2 3+1)),jA o5.2 4,jA o5.2 5,jA o5.2 6,jA o5.2 7,jA o5.2 8,jA o5.2 9,jA o5.2 10,jA o5.2 11,jA o5.2 12, .view Aa (wA o5.2 13),jA o5.2 14,jA o5.2 15,jA o5.2 16,jA o5.2 17,jA o5.2 18,jA o5.2 19,jA o5.2 20,jA o5.2 21,jA o5.2 22, .view Aa (wA o5.2 23),jA o5.2 24,jA o5.2 25,jA o5.2 26,jA o5.2 27,jA o5.2 28,jA o5.2 29,jA o5.2 30,jA o5.2 31,jA o5.2 32, .view Aa (wA o5.2 33)])
attribute [go_sem] S3
theorem Zcg (DI:Fn) (N6:Lp) (v0:Rw) (v1 v2 v3 v4 v5 v6 v7 v8 v9 v10:Int) (v11:Rw) (v12 v13 v14 v15 v16 v17 v18 v19 v20:Int) (v21:Rw) (v22 v23 v24 v25 v26 v27 v28 v29 v30:Int) (v31:Rw):Sn DI N6 [.view kPt v0,I v1,I v2,I v3,I v4,I v5,I v6,I v7,I v8,I v9,I v10, .view Aa v11,I v12,I v13,I v14,I v15,I v16,I v17,I v18,I v19,I v20, .view Aa v21,I v22,I v23,I v24,I v25,I v26,I v27,I v28,I v29,I v30, .view Aa v31]=
 bif decide (v1<3)then
 bif decide ((v0.length:Int)=(v0.length:Int))then
 bif decide (0<=(v0.length:Int))&&decide ((v0.length:Int)*(↑8:Int)<=140737488355328)then
 (N6 [.view Aa (List.replicate (v0.length:Int).toNat [I 0]), .view kPt v0,I v1,I v1,I (v0.length:Int),I 0,I v2,I v3,I v4,I v5,I v6,I v7,I v8,I v9,I v10, .view Aa v11,I v12,I v13,I v14,I v15,I v16,I v17,I v18,I v19,I v20, .view Aa v21,I v22,I v23,I v24,I v25,I v26,I v27,I v28,I v29,I v30, .view Aa v31]).bind fun o5=>
 bif o5.1.beq 1 then
 bif decide (gA o5.2 2=(↑0:Int))then
 (DI [jA o5.2 4,jA o5.2 5,jA o5.2 6,jA o5.2 7,jA o5.2 8,jA o5.2 9,jA o5.2 10,jA o5.2 11,jA o5.2 12, .view Aa (wA o5.2 13), .view Aa (wA o5.2 0)]).bind fun o6=>
 S3 o5 (!bA o6 0)
 else
 bif decide (gA o5.2 2=(↑(0+1):Int))then
 (DI [jA o5.2 14,jA o5.2 15,jA o5.2 16,jA o5.2 17,jA o5.2 18,jA o5.2 19,jA o5.2 20,jA o5.2 21,jA o5.2 22, .view Aa (wA o5.2 23), .view Aa (wA o5.2 0)]).bind fun o7=>
 S3 o5 (!bA o7 0)
 else
 bif decide (gA o5.2 2=(↑(0+1+1):Int))then
 (DI [jA o5.2 24,jA o5.2 25,jA o5.2 26,jA o5.2 27,jA o5.2 28,jA o5.2 29,jA o5.2 30,jA o5.2 31,jA o5.2 32, .view Aa (wA o5.2 33), .view Aa (wA o5.2 0)]).bind fun o8=>
 S3 o5 (!bA o8 0)
 else
 none
 else
 none
 else
 none
 else
 none
 else
 some (2,[]):=by kernel_rfl
theorem Zsf (DI:Fn) (N6 N2:Lp) (x0 x1 x2 x3 x4 x5 x6 x7 x8:Int) (x9:Rw) (x10 x11 x12 x13 x14 x15 x16 x17 x18:Int) (x19:Rw) (x20 x21 x22 x23 x24 x25 x26 x27 x28:Int) (x29 x30:Rw):R2 DI N6 N2 [I x0,I x1,I x2,I x3,I x4,I x5,I x6,I x7,I x8, .view Aa x9,I x10,I x11,I x12,I x13,I x14,I x15,I x16,I x17,I x18, .view Aa x19,I x20,I x21,I x22,I x23,I x24,I x25,I x26,I x27,I x28, .view Aa x29, .view kPt x30]=
 (N2 [.view kPt x30,I 0,I x0,I x1,I x2,I x3,I x4,I x5,I x6,I x7,I x8, .view Aa x9,I x10,I x11,I x12,I x13,I x14,I x15,I x16,I x17,I x18, .view Aa x19,I x20,I x21,I x22,I x23,I x24,I x25,I x26,I x27,I x28, .view Aa x29]).bind fun o9=>
 bif o9.1.beq 1 then
 some [B (bA o9.2 0)]
 else
 bif o9.1.beq 2 then
 some [B true]
 else
 none:=by kernel_rfl
def Qch:=An (Lg L2)
def Q5w:=An (Sn L2 Qch)
def Nu:=R2 L2 Qch Q5w
theorem Zq:Ai PG (Zl L2):=Ao rfl ⟨Zl1,trivial⟩
theorem Zcn:Aj PG (31,Ac Qeq V1 Nu):=rw2 (C:=(Q65 L2 Qch Q5w)) (fl (fl fb Zq) Zq) Zq
def Vc:Sk:=⟨[tf [ci]],[],[]⟩
def Qo5:Sk:=⟨[tf [ci]],[],[]⟩
def Qwh (M:Fn):Nat×Spec:=(197,Ac Vc Qo5 M)
def Qce:Cfg:=cf []
def Xc:Fn:=Am PG Qce 64 197 Vc Qo5
theorem Zg0 (x0:Int):Xc [I x0]=
 bif decide (x0.tmod 256<0)then
 some [I (wrap .i64 (wrap .i64 (x0.tdiv 256)-1))]
 else
 some [I (wrap .i64 (x0.tdiv 256))]:=by kernel_rfl
def Jt:=Xc
theorem Zl4:Ai PG (Qce):=Ao rfl trivial
theorem Qt2:Aj PG (197,Ac Vc Qo5 Jt):=rw1 (C:=Qce) Zl4
def Qil:Sk:=⟨[TS.v true [ci,ci,ci,CS.sl Ag,CS.sl kPt],TS.v true (cc 9++[CS.sl Aa]++cc 9++[CS.sl Aa]++cc 9++[CS.sl Aa]),TS.v true ([CS.sl Ap]++cc 5),tf [CS.sl Aa]],[],[]⟩
def Qcm:Sk:=⟨[tf [CS.bool]],[],[]⟩
def Zv5 (M:Fn):Nat×Spec:=(179,Ac Qil Qcm M)
def Qor (FM Br DL:Fn):Cfg:={cf [Zwv FM,Qm0 Br,Qwh DL]with lend:=fun f=>AR [31] f,cuts:=[30],prom:=fun b=>bif Nat.beq b 3 then [(9,44)]else []}
def Q9g:Sk:=⟨[td,td,td,td,tf [CS.ptr 4 0],tf [CS.ptr 5 0],tf [CS.ptr 6 0],td,td,tf [CS.own 9 3],td,td,tf [CS.sl Aa],tf [ci],tf [ci]]++dd 22,[(4,58,[ci,ci,ci,CS.sl Ag,CS.sl kPt]),(5,27,cc 9++[CS.sl Aa]++cc 9++[CS.sl Aa]++cc 9++[CS.sl Aa]),(6,62,[CS.sl Ap]++cc 5)],[(9,44,kPt)]⟩
def Q21:List (Ex×Sk):=[(Ex.ret,⟨dd 8++[tf [CS.bool]]++dd 28,[],[]⟩),(Ex.exit 0,⟨[td]++dd 36,[],[]⟩)]
def Qlu (FM Br DL:Fn):Lp:=AT PG (Qor FM Br DL) 64 3 (AU PG 179 3) Q9g Q21
def Qrh (FM Br DL:Fn) (N3:Lp):Cfg:=(Qor FM Br DL).loop 3 Q9g Q21 N3
def Qnk (FM Br DL:Fn) (N3:Lp):Fn:=Am PG (Qrh FM Br DL N3) 64 179 Qil Qcm
theorem Zsr (FM Br DL:Fn) (v0 v1:Rw) (v2 v3:Int) (p:Pth) (x:Ax3) (t:Trk):Qlu FM Br DL (.view kPt v0:: .view Aa v1::I v2::I v3::pxt p x t [])=
 bif decide (v3<v2)then
 bif decide (0<=v3)&&decide (v3<(v1.length:Int))then
 (DL [jA (nth [] v1 v3.toNat) 0]).bind fun o8=>
 (Br (pxt p x t [jA o8 0])).bind fun o9=>
 bif((v0++[[jA o9 0,jA o9 1,jA o9 2]]).length*24).ble 140737488355328 then
 bif decide ((↑(v0++[[jA o9 0,jA o9 1,jA o9 2]]).length:Int)>4)then
 bif decide (0<=1)&&decide (1<=(↑(v0++[[jA o9 0,jA o9 1,jA o9 2]]).length:Int))then
 bif(Int.toNat 1).ble (v0++[[jA o9 0,jA o9 1,jA o9 2]]).length then
 (FM (AF x++[.view kPt (List.drop (Int.toNat 1) (v0++[[jA o9 0,jA o9 1,jA o9 2]]))])).bind fun o10=>
 bif !bA o10 0 then
 some (1,[B false])
 else
 some (0,(.view kPt (List.drop (Int.toNat 1) (v0++[[jA o9 0,jA o9 1,jA o9 2]])):: .view Aa v1::I v2::I (wrap .i64 (v3+1))::pxt p x t []))
 else
 none
 else
 none
 else
 (FM (AF x++[.view kPt (v0++[[jA o9 0,jA o9 1,jA o9 2]])])).bind fun o11=>
 bif !bA o11 0 then
 some (1,[B false])
 else
 some (0,(.view kPt (v0++[[jA o9 0,jA o9 1,jA o9 2]]):: .view Aa v1::I v2::I (wrap .i64 (v3+1))::pxt p x t []))
 else
 none
 else
 none
 else
 some (2,[]):=by kernel_rfl
theorem Zww (FM Br DL:Fn) (N3:Lp) (x41:Rw) (p:Pth) (x:Ax3) (t:Trk):Qnk FM Br DL N3 (pxt p x t [.view Aa x41])=
 (N3 (.view kPt []:: .view Aa x41::I (x41.length:Int)::I 0::pxt p x t [])).bind fun o12=>
 bif o12.1.beq 1 then
 some [B (bA o12.2 0)]
 else
 bif o12.1.beq 2 then
 some [B true]
 else
 none:=by kernel_rfl
def Q1h:=An (Qlu Nu Fe Jt)
def Po:=Qnk Nu Fe Jt Q1h
theorem Qyw:Ai PG (Qor Nu Fe Jt):=Ao rfl ⟨Zcn,Qhr,Qt2,trivial⟩
theorem Zg7:Aj PG (179,Ac Qil Qcm Po):=rw2 (C:=(Qrh Nu Fe Jt Q1h)) (fl fb Qyw) Qyw
def Wd:Sk:=⟨[TS.v true [ci,ci,ci],tf [ci],tf [ci]],[],[]⟩
def Qaz:Sk:=⟨[tf [CS.bool]],[],[]⟩
def Qsw (M:Fn):Nat×Spec:=(128,Ac Wd Qaz M)
def Qgp (C_:Fn):Cfg:=cf [Q1y C_]
def QP (C_:Fn):Fn:=Am PG (Qgp C_) 64 128 Wd Qaz
theorem Qjp (C_:Fn) (x0 x1 x2 x3 x4:Int):QP C_ [I x0,I x1,I x2,I x3,I x4]=
 bif decide (x4<wrap .i64 (0-x0))then
 some [B false]
 else
 bif decide (x4>x0)then
 some [B false]
 else
 bif x3==0 then
 bif decide (x4>x1)then
 some [B false]
 else
 (C_ [I x0,I x1,I x2,I (wrap .i64 (0-x4))]).bind fun o4=>
 bif decide (x3>=gA o4 0)then
 (C_ [I x0,I x1,I x2,I x4]).bind fun o5=>
 some [B (decide (x3<=wrap .i64 (16777216-gA o5 0)))]
 else
 some [B false]
 else
 (C_ [I x0,I x1,I x2,I (wrap .i64 (0-x4))]).bind fun o6=>
 bif decide (x3>=gA o6 0)then
 (C_ [I x0,I x1,I x2,I x4]).bind fun o7=>
 some [B (decide (x3<=wrap .i64 (16777216-gA o7 0)))]
 else
 some [B false]:=by kernel_rfl
def Gu:=QP GO
theorem Zhk:Ai PG (Qgp GO):=Ao rfl ⟨Qt0,trivial⟩
theorem Qzx:Aj PG (128,Ac Wd Qaz Gu):=rw1 (C:=(Qgp GO)) Zhk
def Qhm:Sk:=⟨[TS.v true [ci,ci,ci],tf [ci],tf [ci]],[],[]⟩
def Ql8:Sk:=⟨[TS.tup [(false,[CS.sl Aa]),(false,[CS.bool])]],[],[]⟩
def Zkj (M:Fn):Nat×Spec:=(82,Ac Qhm Ql8 M)
def Qc2 (Bs CD BH:Fn):Cfg:={cf [ZY Bs,Qsw CD,Qcd BH]with prom:=fun b=>bif Nat.beq b 4 then [(8,3)]else []}
def Q1i:Sk:=⟨[td,tf [ci],tf [ci],tf [CS.ptr 3 0],td,td,td,td,tf [CS.own 8 1]]++dd 27,[(3,29,[ci,ci,ci])],[(8,3,Aa)]⟩
def Q05:List (Ex×Sk):=[(Ex.ret,⟨dd 6++[tf [CS.nil],tf [CS.bool]]++dd 28,[],[]⟩),(Ex.exit 0,⟨dd 8++[tf [CS.own 8 1]]++dd 27,[],[(8,3,Aa)]⟩)]
def Is (Bs CD BH:Fn):Lp:=AT PG (Qc2 Bs CD BH) 64 4 (AU PG 82 4) Q1i Q05
def Qx4 (Bs CD BH:Fn) (N4:Lp):Cfg:=(Qc2 Bs CD BH).loop 4 Q1i Q05 N4
def Qu (Bs CD BH:Fn) (N4:Lp):Fn:=Am PG (Qx4 Bs CD BH N4) 64 82 Qhm Ql8
theorem Pz (Bs CD BH:Fn) (v0:Rw) (v1 v2 v3 v4 v5:Int):Is Bs CD BH [.view Aa v0,I v1,I v2,I v3,I v4,I v5]=
 bif decide (v1>0)then
 bif(v0.length:Int)==4096 then
 some (1,[B false])
 else
 (Bs [I v3,I v4,I v5,I v1,I v2]).bind fun o9=>
 bif((v0++[[I (wrap .i64 (v1+gA o9 0))]]).length*8).ble 140737488355328 then
 some (0,[.view Aa (v0++[[I (wrap .i64 (v1+gA o9 0))]]),I (wrap .i64 (v1+gA o9 0)),jA o9 0,I v3,I v4,I v5])
 else
 none
 else
 some (2,[.view Aa v0]):=by kernel_rfl
theorem Qnw (Bs CD BH:Fn) (N4:Lp) (x0 x1 x2 x3 x4:Int):Qu Bs CD BH N4 [I x0,I x1,I x2,I x3,I x4]=
 (BH [I x0,I x1,I x2]).bind fun o10=>
 bif !bA o10 0 then
 some [.view Aa [],B false]
 else
 (CD [I x0,I x1,I x2,I x3,I x4]).bind fun o11=>
 bif !bA o11 0 then
 some [.view Aa [],B false]
 else
 (N4 [.view Aa [],I x3,I x4,I x0,I x1,I x2]).bind fun o12=>
 bif o12.1.beq 1 then
 some [.view Aa [],B (bA o12.2 0)]
 else
 bif o12.1.beq 2 then
 some [.view Aa (wA o12.2 0),B true]
 else
 none:=by kernel_rfl
def Quf:=An (Is EY Gu EL)
def Kz:=Qu EY Gu EL Quf
theorem Qwt:Ai PG (Qc2 EY Gu EL):=Ao rfl ⟨Qlj,Qzx,Qbe,trivial⟩
theorem Zha:Aj PG (82,Ac Qhm Ql8 Kz):=rw2 (C:=(Qx4 EY Gu EL Quf)) (fl fb Qwt) Qwt
def WF:Sk:=⟨[TS.v true [ci,ci,ci],TS.v true (cc 6)],[],[]⟩
def Qf7:Sk:=⟨[TS.tup [(false,[CS.sl Aa]),(false,[CS.bool])]],[],[]⟩
def Qlb (M:Fn):Nat×Spec:=(39,Ac WF Qf7 M)
def Y6 (GL:Fn):Cfg:=cf [Zkj GL]
def Q9w:Sk:=⟨dd 8++[tf [CS.own 25 1],tf [ci]]++dd 18++[tf [CS.sl Aa],tf [ci],tf [ci]]++dd 13,[],[(25,3,Aa)]⟩
def Qtv:List (Ex×Sk):=[(Ex.exit 0,⟨dd 8++[tf [CS.own 25 1]]++dd 35,[],[(25,3,Aa)]⟩)]
def Mc (GL:Fn):Lp:=AT PG (Y6 GL) 64 7 (AU PG 39 7) Q9w Qtv
def Qsh (GL:Fn) (N7:Lp):Cfg:=(Y6 GL).loop 7 Q9w Qtv N7
def PV (GL:Fn) (N7:Lp):Fn:=Am PG (Qsh GL N7) 64 39 WF Qf7
theorem Qyk (GL:Fn) (v0:Rw) (v1:Int) (v2:Rw) (v3 v4:Int):Mc GL [.view Aa v0,I v1, .view Aa v2,I v3,I v4]=
 bif decide (v4<v3)then
 bif decide (0<=v4)&&decide (v4<(v2.length:Int))then
 bif decide (0<=v4)&&decide (v4<(v0.length:Int))then
 some (0,[.view Aa (v0.set v4.toNat [I (wrap .i64 (v1+gA (nth [] v2 v4.toNat) 0))]),I (wrap .i64 (v1+gA (nth [] v2 v4.toNat) 0)), .view Aa v2,I v3,I (wrap .i64 (v4+1))])
 else
 none
 else
 none
 else
 some (1,[.view Aa v0]):=by kernel_rfl
theorem Zx (GL:Fn) (N7:Lp) (x0 x1 x2 x3 x4 x5 x6 x7 x8:Int):PV GL N7 [I x0,I x1,I x2,I x3,I x4,I x5,I x6,I x7,I x8]=
 (GL [I x0,I x1,I x2,I x4,I x5]).bind fun o3=>
 bif !bA o3 1 then
 some [.view Aa [],B false]
 else
 bif decide ((↑(wA o3 0).length:Int)=(↑(wA o3 0).length:Int))then
 bif decide (0<=(↑(wA o3 0).length:Int))&&decide ((↑(wA o3 0).length:Int)*(↑8:Int)<=140737488355328)then
 (N7 [.view Aa (List.replicate (↑(wA o3 0).length:Int).toNat [I 0]),I x3, .view Aa (wA o3 0),I (↑(wA o3 0).length:Int),I 0]).bind fun o4=>
 bif o4.1.beq 1 then
 some [.view Aa (wA o4.2 0),B true]
 else
 none
 else
 none
 else
 none:=by kernel_rfl
def Qr1:=An (Mc Kz)
def E7:=PV Kz Qr1
theorem Qx0:Ai PG (Y6 Kz):=Ao rfl ⟨Zha,trivial⟩
theorem Qnf:Aj PG (39,Ac WF Qf7 E7):=rw2 (C:=(Qsh Kz Qr1)) (fl fb Qx0) Qx0
def Qls:Sk:=⟨[TS.v true [ci,ci,ci,CS.sl Ag,CS.sl kPt],TS.v true (cc 9++[CS.sl Aa]++cc 9++[CS.sl Aa]++cc 9++[CS.sl Aa]),TS.v true ([CS.sl Ap]++cc 5),TS.v true [ci,ci,ci],TS.v true (cc 6),tf [ci]],[],[]⟩
def Qmn:Sk:=⟨[tf [CS.bool]],[],[]⟩
def Quk (M:Fn):Nat×Spec:=(154,Ac Qls Qmn M)
def VE (KR Cj:Fn):Cfg:={cf [Zv5 KR,Qlb Cj]with rowDst:=[48]}
def Qnv (KR Cj:Fn):Fn:=Am PG (VE KR Cj) 64 154 Qls Qmn
theorem Z56 (KR Cj:Fn) (x41 x42 x43 x44 x45 x46 x47 x48 x49 x50:Int) (p:Pth) (x:Ax3) (t:Trk):Qnv KR Cj (pxt p x t [I x41,I x42,I x43,I x44,I x45,I x46,I x47,I x48,I x49,I x50])=
 (Cj [I x41,I x42,I x43,I x44,I x45,I x46,I x47,I x48,I x49]).bind fun o3=>
 bif !bA o3 1 then
 some [B false]
 else
 bif decide ((↑(wA o3 0).length:Int)>0)then
 bif decide (0<=wrap .i64 ((↑(wA o3 0).length:Int)-1))&&decide (wrap .i64 ((↑(wA o3 0).length:Int)-1)<(↑(wA o3 0).length:Int))then
 bif decide (Af (nth .dead (nth [] (wA o3 0) (wrap .i64 ((↑(wA o3 0).length:Int)-1)).toNat) 0)>wrap .i64 (x50*256))then
 some [B false]
 else
 bif(([[I x49],[I x48],[I x47],[I x44]]++wA o3 0).length*8).ble 140737488355328 then
 bif(([[I x49],[I x48],[I x47],[I x44]]++wA o3 0++[[I (Af (nth .dead (nth [] (wA o3 0) (wrap .i64 ((↑(wA o3 0).length:Int)-1)).toNat) 0))],[I (Af (nth .dead (nth [] (wA o3 0) (wrap .i64 ((↑(wA o3 0).length:Int)-1)).toNat) 0))]]).length*8).ble 140737488355328 then
 (KR (pxt p x t [.view Aa ([[I x49],[I x48],[I x47],[I x44]]++wA o3 0++[[I (Af (nth .dead (nth [] (wA o3 0) (wrap .i64 ((↑(wA o3 0).length:Int)-1)).toNat) 0))],[I (Af (nth .dead (nth [] (wA o3 0) (wrap .i64 ((↑(wA o3 0).length:Int)-1)).toNat) 0))]])])).bind fun o4=>
 some [B (bA o4 0)]
 else
 none
 else
 none
 else
 none
 else
 bif decide (x44>wrap .i64 (x50*256))then
 some [B false]
 else
 bif(([[I x49],[I x48],[I x47],[I x44]]++wA o3 0).length*8).ble 140737488355328 then
 bif(([[I x49],[I x48],[I x47],[I x44]]++wA o3 0++[[I x44],[I x44]]).length*8).ble 140737488355328 then
 (KR (pxt p x t [.view Aa ([[I x49],[I x48],[I x47],[I x44]]++wA o3 0++[[I x44],[I x44]])])).bind fun o5=>
 some [B (bA o5 0)]
 else
 none
 else
 none:=by kernel_rfl
def I4:=Qnv Po E7
theorem Z3a:Ai PG (VE Po E7):=Ao rfl ⟨Zg7,Qnf,trivial⟩
theorem Qsr:Aj PG (154,Ac Qls Qmn I4):=rw1 (C:=(VE Po E7)) Z3a
def XD:Sk:=⟨[TS.v true [ci,ci,CS.bool,CS.bool,CS.bool],TS.v true [ci,ci,ci],TS.v true (cc 7)],[],[]⟩
def Qac:Sk:=⟨[tf [ci]],[],[]⟩
def Zd2 (M:Fn):Nat×Spec:=(198,Ac XD Qac M)
def Zm:Cfg:=cf []
def UQ:Fn:=Am PG Zm 64 198 XD Qac
theorem Z2j (x0 x1:Int) (x2 x3 x4:Bool) (x5 x6 x7 x8 x9 x10 x11 x12 x13 x14:Int):UQ [I x0,I x1,B x2,B x3,B x4,I x5,I x6,I x7,I x8,I x9,I x10,I x11,I x12,I x13,I x14]=
 bif x2 then
 some [I 0]
 else
 bif x14 !=0 then
 some [I (mn (mx x13 1) 16777216)]
 else
 bif x13==0 then
 bif x1==0 then
 some [I 0]
 else
 some [I (mn (mx (wrap .i64 ((wrap .i64 (x7*x1)).tdiv 100)) 1) 16777216)]
 else
 bif x0==0 then
 some [I 0]
 else
 some [I (mn (mx (wrap .i64 ((wrap .i64 (x13*x0)).tdiv 100)) 1) 16777216)]:=by kernel_rfl
def Qn:=UQ
theorem Zt1:Ai PG (Zm):=Ao rfl trivial
theorem Z1z:Aj PG (198,Ac XD Qac Qn):=rw1 (C:=Zm) Zt1
def Qel:Sk:=⟨[TS.v true [ci,ci,ci,CS.sl Ag,CS.sl kPt],TS.v true ([CS.sl Ap]++cc 5),TS.v true [ci,ci,ci],TS.v true [ci,ci,CS.bool,CS.bool,CS.bool],tf [ci]],[],[]⟩
def Qhs:Sk:=⟨[tf [ci]],[],[]⟩
def Zbq (M:Fn):Nat×Spec:=(178,Ac Qel Qhs M)
def Qbf (NQ Dq BT DL:Fn):Cfg:=cf [Zd2 NQ,Qo3 Dq,RX BT,Qwh DL]
def ZG (NQ Dq BT DL:Fn):Fn:=Am PG (Qbf NQ Dq BT DL) 64 178 Qel Qhs
theorem Zby (NQ Dq BT DL:Fn) (x11 x12 x13 x14 x15:Int) (x16 x17 x18:Bool) (x19:Int) (p:Pth) (t:Trk):ZG NQ Dq BT DL (EF p t [I x11,I x12,I x13,I x14,I x15,B x16,B x17,B x18,I x19])=
 (DL [I x19]).bind fun o4=>
 (BT (AS t++[jA o4 0])).bind fun o5=>
 (Dq (AH p++[jA o5 0])).bind fun o6=>
 bif decide (0<=gA o6 0)&&decide (gA o6 0<((p.aF.map Au).length:Int))then
 (NQ (I x14::I x15::B x16::B x17::B x18::I x11::I x12::I x13::AO Ag (nth [] (p.aF.map Au) (gA o6 0).toNat))).bind fun o7=>
 some [jA o7 0]
 else
 none:=by kernel_rfl
def OA:=ZG Qn Es Ev Jt
theorem Znq:Ai PG (Qbf Qn Es Ev Jt):=Ao rfl ⟨Z1z,Qfz,T4,Qt2,trivial⟩
theorem Z0e:Aj PG (178,Ac Qel Qhs OA):=rw1 (C:=(Qbf Qn Es Ev Jt)) Znq
def V3:Sk:=⟨[TS.v true [ci,ci,ci,CS.sl Ag,CS.sl kPt],TS.v true ([CS.sl Ap]++cc 5),TS.v true [ci,ci,ci],TS.v true [ci,ci,CS.bool,CS.bool,CS.bool],TS.v true (cc 6)],[],[]⟩
def Qb6:Sk:=⟨[tf [CS.bool]],[],[]⟩
def Zs5 (M:Fn):Nat×Spec:=(153,Ac V3 Qb6 M)
def Qn4 (Ga Cj:Fn):Cfg:=cf [Zbq Ga,Qlb Cj]
def Q1c:Sk:=⟨[td,td,td,td,td,tf [CS.ptr 5 0],tf [CS.ptr 6 0],tf [CS.ptr 7 0],tf [CS.ptr 8 0],td,td,td,td,tf [ci]]++dd 30++[tf [CS.sl Aa],tf [ci],tf [ci]]++dd 15,[(5,58,[ci,ci,ci,CS.sl Ag,CS.sl kPt]),(6,62,[CS.sl Ap]++cc 5),(7,29,[ci,ci,ci]),(8,92,[ci,ci,CS.bool,CS.bool,CS.bool])],[]⟩
def Qz4:List (Ex×Sk):=[(Ex.ret,⟨dd 10++[tf [CS.bool]]++dd 51,[],[]⟩),(Ex.exit 0,⟨[td]++dd 61,[],[]⟩)]
def U6 (Ga Cj:Fn):Lp:=AT PG (Qn4 Ga Cj) 64 6 (AU PG 153 6) Q1c Qz4
def Q06 (Ga Cj:Fn) (N6:Lp):Cfg:=(Qn4 Ga Cj).loop 6 Q1c Qz4 N6
def Qfa (Ga Cj:Fn) (N6:Lp):Fn:=Am PG (Q06 Ga Cj N6) 64 153 V3 Qb6
theorem Zpy (Ga Cj:Fn) (v0:Int) (v1:Rw) (v2 v3:Int) (v15 v16 v17 v18 v19:Int) (v20 v21 v22:Bool) (p:Pth) (t:Trk):U6 Ga Cj (I v0:: .view Aa v1::I v2::I v3::EF p t [I v15,I v16,I v17,I v18,I v19,B v20,B v21,B v22])=
 bif decide (v3<v2)then
 bif decide (0<=v3)&&decide (v3<(v1.length:Int))then
 (Ga (EF p t [I v15,I v16,I v17,I v18,I v19,B v20,B v21,B v22,jA (nth [] v1 v3.toNat) 0])).bind fun o6=>
 bif decide (wrap .i64 (gA (nth [] v1 v3.toNat) 0-v0)>gA o6 0)then
 some (1,[B false])
 else
 some (0,(jA (nth [] v1 v3.toNat) 0:: .view Aa v1::I v2::I (wrap .i64 (v3+1))::EF p t [I v15,I v16,I v17,I v18,I v19,B v20,B v21,B v22]))
 else
 none
 else
 some (2,[]):=by kernel_rfl
theorem Z6o (Ga Cj:Fn) (N6:Lp) (x11 x12 x13 x14 x15:Int) (x16 x17 x18:Bool) (x19 x20 x21 x22 x23 x24:Int) (p:Pth) (t:Trk):Qfa Ga Cj N6 (EF p t [I x11,I x12,I x13,I x14,I x15,B x16,B x17,B x18,I x19,I x20,I x21,I x22,I x23,I x24])=
 (Cj [I x11,I x12,I x13,I x19,I x20,I x21,I x22,I x23,I x24]).bind fun o7=>
 bif !bA o7 1 then
 some [B false]
 else
 bif((p.aF.map Au).length:Int)==0 then
 some [B false]
 else
 (Ga (EF p t [I x11,I x12,I x13,I x14,I x15,B x16,B x17,B x18,I x19])).bind fun o8=>
 bif decide (x20>gA o8 0)then
 some [B false]
 else
 (N6 (I x19:: .view Aa (wA o7 0)::I (↑(wA o7 0).length:Int)::I 0::EF p t [I x11,I x12,I x13,I x14,I x15,B x16,B x17,B x18])).bind fun o9=>
 bif o9.1.beq 1 then
 some [B (bA o9.2 0)]
 else
 bif o9.1.beq 2 then
 some [B true]
 else
 none:=by kernel_rfl
def Quz:=An (U6 OA E7)
def LN:=Qfa OA E7 Quz
theorem Q3h:Ai PG (Qn4 OA E7):=Ao rfl ⟨Z0e,Qnf,trivial⟩
theorem Zrz:Aj PG (153,Ac V3 Qb6 LN):=rw2 (C:=(Q06 OA E7 Quz)) (fl fb Q3h) Q3h
def Y7:Sk:=⟨[TS.v true (cc 6),tf [ci]],[],[]⟩
def U1:Sk:=⟨[TS.v true (cc 6)],[],[]⟩
def Qut (M:Fn):Nat×Spec:=(152,Ac Y7 U1 M)
def Xf:Cfg:=cf []
def Qp2:Fn:=Am PG Xf 64 152 Y7 U1
theorem Zis (x0 x1 x2 x3 x4 x5 x6:Int):Qp2 [I x0,I x1,I x2,I x3,I x4,I x5,I x6]=
 some [I (wrap .i64 (x0+x6)),I x6,I (wrap .i64 (x6-x1)),I x0,I x3,I x4]:=by kernel_rfl
def Jm:=Qp2
theorem Zor:Ai PG (Xf):=Ao rfl trivial
theorem Q74:Aj PG (152,Ac Y7 U1 Jm):=rw1 (C:=Xf) Zor
def YU:Sk:=⟨[tf [ci]],[],[]⟩
def Qeg:Sk:=⟨[tf [CS.sl Aa]],[],[]⟩
def Zew (M:Fn):Nat×Spec:=(151,Ac YU Qeg M)
def C_planner_changes_0:Cfg:={cf []with prom:=fun b=>bif Nat.beq b 3 then [(3,3)]else []}
def Q23:Sk:=⟨[td,td,td,tf [CS.own 3 1],tf [ci]]++dd 32,[],[(3,3,Aa)]⟩
def Q45:List (Ex×Sk):=[(Ex.exit 0,⟨[td,td,td,tf [CS.own 3 1]]++dd 33,[],[(3,3,Aa)]⟩)]
def Qa:Lp:=AT PG C_planner_changes_0 64 3 (AU PG 151 3) Q23 Q45
def Q9k (N3:Lp):Cfg:=C_planner_changes_0.loop 3 Q23 Q45 N3
def Qt4:Sk:=⟨[td,td,td,tf [CS.own 3 1],td,tf [CS.own 16 1],tf [ci]]++dd 30,[],[(3,3,Aa),(16,3,Aa)]⟩
def Qyt:List (Ex×Sk):=[(Ex.exit 2,⟨[td,td,td,td,td,tf [CS.own 16 1]]++dd 31,[],[(16,3,Aa)]⟩)]
def Sc (N3:Lp):Lp:=AT PG (Q9k N3) 64 8 (AU PG 151 8) Qt4 Qyt
def Q5b (N3 N8:Lp):Cfg:=(Q9k N3).loop 8 Qt4 Qyt N8
def Xr (N3 N8:Lp):Fn:=Am PG (Q5b N3 N8) 64 151 YU Qeg
theorem Z36 (v0:Rw) (v1:Int):Qa [.view Aa v0,I v1]=
 bif decide (v1>0)then
 bif((v0++[[I v1]]).length*8).ble 140737488355328 then
 some (0,[.view Aa (v0++[[I v1]]),I (wrap .i64 (v1.tdiv 2))])
 else
 none
 else
 some (1,[.view Aa v0]):=by kernel_rfl
theorem Zp0 (N3:Lp) (v0 v1:Rw) (v2:Int):Sc N3 [.view Aa v0, .view Aa v1,I v2]=
 bif decide (v2>=0)then
 bif decide (0<=v2)&&decide (v2<(v0.length:Int))then
 bif((v1++[[I (wrap .i64 (0-gA (nth [] v0 v2.toNat) 0))]]).length*8).ble 140737488355328 then
 some (0,[.view Aa v0, .view Aa (v1++[[I (wrap .i64 (0-gA (nth [] v0 v2.toNat) 0))]]),I (wrap .i64 (v2-1))])
 else
 none
 else
 none
 else
 some (1,[.view Aa v1]):=by kernel_rfl
theorem Zt2 (N3 N8:Lp) (x0:Int):Xr N3 N8 [I x0]=
 (N3 [.view Aa [],I x0]).bind fun o3=>
 bif o3.1.beq 1 then
 bif(([]++wA o3.2 0).length*8).ble 140737488355328 then
 bif(([]++wA o3.2 0++[[I 0]]).length*8).ble 140737488355328 then
 (N8 [.view Aa (wA o3.2 0), .view Aa ([]++wA o3.2 0++[[I 0]]),I (wrap .i64 ((↑(wA o3.2 0).length:Int)-1))]).bind fun o4=>
 bif o4.1.beq 1 then
 some [.view Aa (wA o4.2 0)]
 else
 none
 else
 none
 else
 none
 else
 none:=by kernel_rfl
def Qou:=An (Qa)
def Qu6:=An (Sc Qou)
def Mr:=Xr Qou Qu6
theorem Qia:Ai PG (C_planner_changes_0):=Ao rfl trivial
theorem Zr4:Aj PG (151,Ac YU Qeg Mr):=rw2 (C:=(Q5b Qou Qu6)) (fl (fl fb Qia) Qia) Qia
def WS:Sk:=⟨[TS.v true [ci,ci,ci,CS.sl Ag,CS.sl kPt],TS.v true (cc 9++[CS.sl Aa]++cc 9++[CS.sl Aa]++cc 9++[CS.sl Aa]),TS.v true ([CS.sl Ap]++cc 5),TS.v true [ci,ci,ci],TS.v true [ci,ci,CS.bool,CS.bool,CS.bool],TS.v true (cc 6),tf [ci]],[],[]⟩
def Qft:Sk:=⟨[TS.v true (cc 6)],[],[]⟩
def Qhi (M:Fn):Nat×Spec:=(104,Ac WS Qft M)
def Qko (Bs Dv G9 Cc CD GT:Fn):Cfg:=cf [ZY Bs,Quk Dv,Zs5 G9,Qut Cc,Qsw CD,Zew GT]
def Q4f:Sk:=⟨dd 6++[tf [ci],tf [CS.ptr 7 0],tf [CS.ptr 8 0],tf [CS.ptr 9 0],tf [CS.ptr 10 0],tf [CS.ptr 11 0],tf [CS.ptr 12 0],td,tf [CS.ptr 14 0],tf [CS.ptr 15 0],tf [CS.bool]]++dd 6++[tf [CS.sl Aa],tf [ci],tf [ci]]++dd 57,[(7,58,[ci,ci,ci,CS.sl Ag,CS.sl kPt]),(8,27,cc 9++[CS.sl Aa]++cc 9++[CS.sl Aa]++cc 9++[CS.sl Aa]),(9,62,[CS.sl Ap]++cc 5),(10,29,[ci,ci,ci]),(11,92,[ci,ci,CS.bool,CS.bool,CS.bool]),(12,50,cc 6),(14,50,cc 6),(15,50,cc 6)],[]⟩
def Qxz:List (Ex×Sk):=[(Ex.exit 0,⟨dd 10++[tf [CS.ptr 10 0],td,tf [CS.ptr 12 0],td,tf [CS.ptr 14 0],tf [CS.ptr 15 0],tf [CS.bool]]++dd 66,[(10,29,[ci,ci,ci]),(12,50,cc 6),(14,50,cc 6),(15,50,cc 6)],[]⟩)]
def Qpx (Bs Dv G9 Cc CD GT:Fn):Lp:=AT PG (Qko Bs Dv G9 Cc CD GT) 64 4 (AU PG 104 4) Q4f Qxz
def Zao (Bs Dv G9 Cc CD GT:Fn) (N4:Lp):Cfg:=(Qko Bs Dv G9 Cc CD GT).loop 4 Q4f Qxz N4
def Qc8 (Bs Dv G9 Cc CD GT:Fn) (N4:Lp):Fn:=Am PG (Zao Bs Dv G9 Cc CD GT N4) 64 104 WS Qft
theorem Zlg (Bs Dv G9 Cc CD GT:Fn) (v0:Int) (v1:Bool) (v2:Rw) (v3 v4:Int) (v46 v47 v48 v49 v50:Int) (v51 v52 v53:Bool) (v54 v55 v56 v57 v58 v59 v60 v61 v62 v63 v64 v65 v66 v67 v68 v69 v70 v71:Int) (p:Pth) (x:Ax3) (t:Trk):Qpx Bs Dv G9 Cc CD GT (I v0::B v1:: .view Aa v2::I v3::I v4::pxt p x t [I v46,I v47,I v48,I v49,I v50,B v51,B v52,B v53,I v54,I v55,I v56,I v57,I v58,I v59,I v60,I v61,I v62,I v63,I v64,I v65,I v66,I v67,I v68,I v69,I v70,I v71])=
 bif decide (v4<v3)then
 bif decide (0<=v4)&&decide (v4<(v2.length:Int))then
 bif decide (wrap .i64 (v55+wrap .i64 (v56+gA (nth [] v2 v4.toNat) 0))<0)then
 some (0,(I v0::B v1:: .view Aa v2::I v3::I (wrap .i64 (v4+1))::pxt p x t [I v46,I v47,I v48,I v49,I v50,B v51,B v52,B v53,I v54,I v55,I v56,I v57,I v58,I v59,I v60,I v61,I v62,I v63,I v64,I v65,I v66,I v67,I v68,I v69,I v70,I v71]))
 else
 (CD [I v46,I v47,I v48,I (wrap .i64 (v55+wrap .i64 (v56+gA (nth [] v2 v4.toNat) 0))),I (wrap .i64 (v56+gA (nth [] v2 v4.toNat) 0))]).bind fun o9=>
 bif !bA o9 0 then
 some (0,(I v0::B v1:: .view Aa v2::I v3::I (wrap .i64 (v4+1))::pxt p x t [I v46,I v47,I v48,I v49,I v50,B v51,B v52,B v53,I v54,I v55,I v56,I v57,I v58,I v59,I v60,I v61,I v62,I v63,I v64,I v65,I v66,I v67,I v68,I v69,I v70,I v71]))
 else
 (Cc [I v54,I v55,I v56,I v57,I v58,I v59,I (wrap .i64 (v55+wrap .i64 (v56+gA (nth [] v2 v4.toNat) 0)))]).bind fun o10=>
 (G9 (EF p t [I v46,I v47,I v48,I v49,I v50,B v51,B v52,B v53,jA o10 0,jA o10 1,jA o10 2,jA o10 3,jA o10 4,jA o10 5])).bind fun o11=>
 bif bA o11 0 then
 (Dv (pxt p x t [I v46,I v47,I v48,jA o10 0,jA o10 1,jA o10 2,jA o10 3,jA o10 4,jA o10 5,I v0])).bind fun o12=>
 bif bA o12 0 then
 some (1,[B true,I v46,I v47,I v48,I v54,I v55,I v56,I v57,I v58,I v59,I v60,I v61,I v62,I v63,I v64,I v65,jA o10 0,jA o10 1,jA o10 2,jA o10 3,jA o10 4,jA o10 5])
 else
 some (0,(I v0::B v1:: .view Aa v2::I v3::I (wrap .i64 (v4+1))::pxt p x t [I v46,I v47,I v48,I v49,I v50,B v51,B v52,B v53,I v54,I v55,I v56,I v57,I v58,I v59,I v60,I v61,I v62,I v63,I v64,I v65,jA o10 0,jA o10 1,jA o10 2,jA o10 3,jA o10 4,jA o10 5]))
 else
 some (0,(I v0::B v1:: .view Aa v2::I v3::I (wrap .i64 (v4+1))::pxt p x t [I v46,I v47,I v48,I v49,I v50,B v51,B v52,B v53,I v54,I v55,I v56,I v57,I v58,I v59,I v60,I v61,I v62,I v63,I v64,I v65,jA o10 0,jA o10 1,jA o10 2,jA o10 3,jA o10 4,jA o10 5]))
 else
 none
 else
 some (1,[B v1,I v46,I v47,I v48,I v54,I v55,I v56,I v57,I v58,I v59,I v60,I v61,I v62,I v63,I v64,I v65,I v66,I v67,I v68,I v69,I v70,I v71]):=by kernel_rfl
theorem Zw1 (Bs Dv G9 Cc CD GT:Fn) (N4:Lp) (x41 x42 x43 x44 x45:Int) (x46 x47 x48:Bool) (x49 x50 x51 x52 x53 x54 x55:Int) (p:Pth) (x:Ax3) (t:Trk):Qc8 Bs Dv G9 Cc CD GT N4 (pxt p x t [I x41,I x42,I x43,I x44,I x45,B x46,B x47,B x48,I x49,I x50,I x51,I x52,I x53,I x54,I x55])=
 (GT [I x42]).bind fun o13=>
 (N4 (I x55::B false:: .view Aa (wA o13 0)::I (↑(wA o13 0).length:Int)::I 0::pxt p x t [I x41,I x42,I x43,I x44,I x45,B x46,B x47,B x48,I x49,I x50,I x51,I x52,I x53,I x54,I 0,I 0,I 0,I 0,I 0,I 0,I 0,I 0,I 0,I 0,I 0,I 0])).bind fun o14=>
 bif o14.1.beq 1 then
 bif bA o14.2 0 then
 some [jA o14.2 16,jA o14.2 17,jA o14.2 18,jA o14.2 19,jA o14.2 20,jA o14.2 21]
 else
 (Bs [jA o14.2 1,jA o14.2 2,jA o14.2 3,jA o14.2 5,jA o14.2 6]).bind fun o15=>
 (Cc [jA o14.2 4,jA o14.2 5,jA o14.2 6,jA o14.2 7,jA o14.2 8,jA o14.2 9,I (wrap .i64 (gA o14.2 5+gA o15 0))]).bind fun o16=>
 some [jA o16 0,jA o16 1,jA o16 2,jA o16 3,jA o16 4,jA o16 5]
 else
 none:=by kernel_rfl
def Q9l:=An (Qpx EY I4 LN Jm Gu Mr)
def Fa:=Qc8 EY I4 LN Jm Gu Mr Q9l
theorem Q50:Ai PG (Qko EY I4 LN Jm Gu Mr):=Ao rfl ⟨Qlj,Qsr,Zrz,Q74,Qzx,Zr4,trivial⟩
theorem Qgf:Aj PG (104,Ac WS Qft Fa):=rw2 (C:=(Zao EY I4 LN Jm Gu Mr Q9l)) (fl fb Q50) Q50
def Qec:Sk:=⟨[TS.v true [ci,ci,ci],TS.v true (cc 6)],[],[]⟩
def Qgu:Sk:=⟨[TS.tup [(false,[ci]),(false,[CS.bool])]],[],[]⟩
def Que (M:Fn):Nat×Spec:=(35,Ac Qec Qgu M)
def Vo (Cj:Fn):Cfg:=cf [Qlb Cj]
def On (Cj:Fn):Fn:=Am PG (Vo Cj) 64 35 Qec Qgu
theorem Vg (Cj:Fn) (x0 x1 x2 x3 x4 x5 x6 x7 x8:Int):On Cj [I x0,I x1,I x2,I x3,I x4,I x5,I x6,I x7,I x8]=
 (Cj [I x0,I x1,I x2,I x3,I x4,I x5,I x6,I x7,I x8]).bind fun o1=>
 bif !bA o1 1 then
 some [I 0,B false]
 else
 bif(↑(wA o1 0).length:Int)==0 then
 some [I x3,B true]
 else
 bif decide (0<=wrap .i64 ((↑(wA o1 0).length:Int)-1))&&decide (wrap .i64 ((↑(wA o1 0).length:Int)-1)<(↑(wA o1 0).length:Int))then
 some [I (Af (nth .dead (nth [] (wA o1 0) (wrap .i64 ((↑(wA o1 0).length:Int)-1)).toNat) 0)),B true]
 else
 none:=by kernel_rfl
def FB:=On E7
theorem Zdw:Ai PG (Vo E7):=Ao rfl ⟨Qnf,trivial⟩
theorem Qxl:Aj PG (35,Ac Qec Qgu FB):=rw1 (C:=(Vo E7)) Zdw
def Qgi:Sk:=⟨[tf [ci],tf [ci]],[],[]⟩
def Us:Sk:=⟨[tf [ci]],[],[]⟩
def Zyf (M:Fn):Nat×Spec:=(200,Ac Qgi Us M)
def Qp8 (AI:Fn):Cfg:=cf [L3 AI]
def Qjh (AI:Fn):Fn:=Am PG (Qp8 AI) 64 200 Qgi Us
theorem Z22 (AI:Fn) (x0 x1:Int):Qjh AI [I x0,I x1]=
 (AI [I x0,I x1,I 4096,I 0]).bind fun o1=>
 some [jA o1 0]:=by kernel_rfl
def Qe:=Qjh Bn
theorem Z4k:Ai PG (Qp8 Bn):=Ao rfl ⟨LT,trivial⟩
theorem Zje:Aj PG (200,Ac Qgi Us Qe):=rw1 (C:=(Qp8 Bn)) Z4k
def Qbx:Sk:=⟨[tf [ci],tf [ci]],[],[]⟩
def Qei:Sk:=⟨[tf [ci]],[],[]⟩
def Zbi (M:Fn):Nat×Spec:=(201,Ac Qbx Qei M)
def Qmy:Cfg:=cf []
def Qkz:Fn:=Am PG Qmy 64 201 Qbx Qei
theorem Ztd (x0 x1:Int):Qkz [I x0,I x1]=
 some [I (mx (wrap .i64 (x0-x1)) (wrap .i64 (x1-x0)))]:=by kernel_rfl
def Pw:=Qkz
theorem Zhj:Ai PG (Qmy):=Ao rfl trivial
theorem Zpm:Aj PG (201,Ac Qbx Qei Pw):=rw1 (C:=Qmy) Zhj
def U4:Sk:=⟨[TS.v true [ci,ci,ci,CS.sl Ag,CS.sl kPt],TS.v true (cc 9++[CS.sl Aa]++cc 9++[CS.sl Aa]++cc 9++[CS.sl Aa]),TS.v true ([CS.sl Ap]++cc 5),TS.v true [ci,ci,ci],TS.v true [ci,ci,CS.bool,CS.bool,CS.bool],TS.v true (cc 6),tf [ci],tf [ci],TS.v true [ci,ci,ci,ci],tf [ci],tf [ci]],[],[]⟩
def Qov:Sk:=⟨[TS.tup [(true,cc 6),(true,[ci,ci,ci,ci]),(false,[ci])]],[],[]⟩
def Ztx (M:Fn):Nat×Spec:=(181,Ac U4 Qov M)
def Qa7 (Cq Bs DQ Dv Cc L8 LG:Fn):Cfg:=cf [Qhi Cq,ZY Bs,Que DQ,Quk Dv,Qut Cc,Zyf L8,Zbi LG]
def Xj (Cq Bs DQ Dv Cc L8 LG:Fn):Fn:=Am PG (Qa7 Cq Bs DQ Dv Cc L8 LG) 64 181 U4 Qov
abbrev Z4 (DQ:Fn) (x41 x42 x43:Int) (o33:List AC) (x58:Int) (o26:List AC) (x60 x49 x55:Int) (Bs:Fn) (x50 x51:Int) (Cc:Fn) (x52 x53 x54 x59:Int):Option (List AC):=
 (DQ [I x41,I x42,I x43,jA o33 0,jA o33 1,jA o33 2,jA o33 3,jA o33 4,jA o33 5]).bind fun o35=>
 bif decide (wrap .i64 (wrap .i64 (wrap .i64 (x58+gA o26 0)-x60)-x49)>=0)then
 bif decide (gA o35 0>wrap .i64 (x55*256))then
 (Bs [I x41,I x42,I x43,I x50,I x51]).bind fun o36=>
 (Cc [I x49,I x50,I x51,I x52,I x53,I x54,I (wrap .i64 (x50+gA o36 0))]).bind fun o37=>
 some [jA o37 0,jA o37 1,jA o37 2,jA o37 3,jA o37 4,jA o37 5,I 3,I x58,I x59,I x60,I 0]
 else
 (Bs [I x41,I x42,I x43,I x50,I x51]).bind fun o38=>
 (Cc [I x49,I x50,I x51,I x52,I x53,I x54,I (wrap .i64 (x50+gA o38 0))]).bind fun o39=>
 some [jA o39 0,jA o39 1,jA o39 2,jA o39 3,jA o39 4,jA o39 5,I 3,I x58,I x59,I x60,I 18]
 else
 (Bs [I x41,I x42,I x43,I x50,I x51]).bind fun o40=>
 (Cc [I x49,I x50,I x51,I x52,I x53,I x54,I (wrap .i64 (x50+gA o40 0))]).bind fun o41=>
 some [jA o41 0,jA o41 1,jA o41 2,jA o41 3,jA o41 4,jA o41 5,I 3,I x58,I x59,I x60,I 18]
attribute [go_sem] Z4
theorem Zi1 (Cq Bs DQ Dv Cc L8 LG:Fn) (x41 x42 x43 x44 x45:Int) (x46 x47 x48:Bool) (x49 x50 x51 x52 x53 x54 x55 x56 x57 x58 x59 x60 x61 x62:Int) (p:Pth) (x:Ax3) (t:Trk):Xj Cq Bs DQ Dv Cc L8 LG (pxt p x t [I x41,I x42,I x43,I x44,I x45,B x46,B x47,B x48,I x49,I x50,I x51,I x52,I x53,I x54,I x55,I x56,I x57,I x58,I x59,I x60,I x61,I x62])=
 (LG [I x62,I x59]).bind fun o25=>
 (L8 [I x56,jA o25 0]).bind fun o26=>
 bif x57==1 then
 (LG [I x61,I x59]).bind fun o27=>
 (L8 [I x56,jA o27 0]).bind fun o28=>
 (Cc [I x49,I x50,I x51,I x52,I x53,I x54,I (wrap .i64 (gA o26 0-gA o28 0))]).bind fun o29=>
 bif wrap .i64 (gA o26 0-gA o28 0) !=0 then
 (Dv (pxt p x t [I x41,I x42,I x43,jA o29 0,jA o29 1,jA o29 2,jA o29 3,jA o29 4,jA o29 5,I x55])).bind fun o30=>
 bif bA o30 0 then
 some [jA o29 0,jA o29 1,jA o29 2,jA o29 3,jA o29 4,jA o29 5,I 2,I x58,I x59,I (wrap .i64 (gA o26 0-wrap .i64 (gA o29 0-x58))),I 0]
 else
 (Cq (pxt p x t [I x41,I x42,I x43,I x44,I x45,B false,B x47,B x48,I x49,I x50,I x51,I x52,I x53,I x54,I x55])).bind fun o31=>
 some [jA o31 0,jA o31 1,jA o31 2,jA o31 3,jA o31 4,jA o31 5,I x57,I x58,I x59,I x60,I 0]
 else
 (Cq (pxt p x t [I x41,I x42,I x43,I x44,I x45,B false,B x47,B x48,I x49,I x50,I x51,I x52,I x53,I x54,I x55])).bind fun o32=>
 some [jA o32 0,jA o32 1,jA o32 2,jA o32 3,jA o32 4,jA o32 5,I x57,I x58,I x59,I x60,I 0]
 else
 bif x57==2 then
 (Cc [I x49,I x50,I x51,I x52,I x53,I x54,I (wrap .i64 (wrap .i64 (wrap .i64 (x58+gA o26 0)-x60)-x49))]).bind fun o33=>
 bif decide (wrap .i64 (wrap .i64 (wrap .i64 (x58+gA o26 0)-x60)-x49)>=0)then
 (Dv (pxt p x t [I x41,I x42,I x43,jA o33 0,jA o33 1,jA o33 2,jA o33 3,jA o33 4,jA o33 5,I x55])).bind fun o34=>
 bif bA o34 0 then
 some [jA o33 0,jA o33 1,jA o33 2,jA o33 3,jA o33 4,jA o33 5,I x57,I x58,I x59,I x60,I 0]
 else
 Z4 DQ x41 x42 x43 o33 x58 o26 x60 x49 x55 Bs x50 x51 Cc x52 x53 x54 x59
 else
 Z4 DQ x41 x42 x43 o33 x58 o26 x60 x49 x55 Bs x50 x51 Cc x52 x53 x54 x59
 else
 (Cq (pxt p x t [I x41,I x42,I x43,I x44,I x45,B false,B x47,B x48,I x49,I x50,I x51,I x52,I x53,I x54,I x55])).bind fun o49=>
 some [jA o49 0,jA o49 1,jA o49 2,jA o49 3,jA o49 4,jA o49 5,I x57,I x58,I x59,I x60,I 0]:=by kernel_rfl
def JD:=Xj Fa EY FB I4 Jm Qe Pw
theorem Zpq:Ai PG (Qa7 Fa EY FB I4 Jm Qe Pw):=Ao rfl ⟨Qgf,Qlj,Qxl,Qsr,Q74,Zje,Zpm,trivial⟩
theorem Zk8:Aj PG (181,Ac U4 Qov JD):=rw1 (C:=(Qa7 Fa EY FB I4 Jm Qe Pw)) Zpq
def Xo:Sk:=⟨[tf [CS.ptr 20000 0],tf [ci]],[(20000,119,cS)],[]⟩
def Qn0:Sk:=⟨[TS.tup []],[(20000,119,cS)],[]⟩
def XY (M:Fn):Nat×Spec:=(159,Ac Xo Qn0 M)
def Xt (Cq:Fn):Cfg:=cf [Qhi Cq]
def Qi4 (Cq:Fn):Fn:=Am PG (Xt Cq) 64 159 Xo Qn0
theorem Zlt (Cq:Fn) (x0:Int) (K:Kf) (c:Cv):Qi4 Cq (I x0::Ad K c)=
 (Cq (pxt K.p K.x K.t [I K.pa,I K.pb,I K.pc,I c.o0,I c.o1,B c.o2,B c.o3,B c.o4,I c.m0,I c.m1,I c.m2,I c.m3,I c.m4,I c.m5,I x0])).bind fun o1=>
 some (Ad K {c with m0:=gA o1 0,m1:=gA o1 1,m2:=gA o1 2,m3:=gA o1 3,m4:=gA o1 4,m5:=gA o1 5}):=by kernel_rfl
def HM:=Qi4 Fa
theorem Za7:Ai PG (Xt Fa):=Ao rfl ⟨Qgf,trivial⟩
theorem Qqj:Aj PG (159,Ac Xo Qn0 HM):=rw1 (C:=(Xt Fa)) Za7
def XM:Sk:=⟨[tf [CS.ptr 20000 0],tf [ci],TS.v true (cc 7)],[(20000,119,cS)],[]⟩
def Qqc:Sk:=⟨[TS.tup []],[(20000,119,cS)],[]⟩
def Zx8 (M:Fn):Nat×Spec:=(162,Ac XM Qqc M)
def Qdc (C0 Oy Dk:Fn):Cfg:=cp [Qc9 C0,Ztx Oy,XY Dk] [108,159]
def XR (C0 Oy Dk:Fn):Fn:=Am PG (Qdc C0 Oy Dk) 64 162 XM Qqc
theorem Z0o (C0 Oy Dk:Fn) (x0 x1 x2 x3 x4 x5 x6 x7:Int) (K:Kf) (c:Cv):XR C0 Oy Dk (I x0::I x1::I x2::I x3::I x4::I x5::I x6::I x7::Ad K c)=
 bif c.g0 !=0 then
 (Dk (I x0::Ad K c)).bind fun o3=>
 some (DY (cR 0 o3) [(82,I 3)])
 else
 (Oy (pxt K.p K.x K.t [I K.pa,I K.pb,I K.pc,I c.o0,I c.o1,B c.o2,B c.o3,B c.o4,I c.m0,I c.m1,I c.m2,I c.m3,I c.m4,I c.m5,I x0,I x7,I c.e0,I c.e1,I c.e2,I c.e3,I c.before,I c.s3])).bind fun o4=>
 bif gA o4 10 !=0 then
 (C0 (Ad K {c with m0:=gA o4 0,m1:=gA o4 1,m2:=gA o4 2,m3:=gA o4 3,m4:=gA o4 4,m5:=gA o4 5,e0:=gA o4 6,e1:=gA o4 7,e2:=gA o4 8,e3:=gA o4 9})).bind fun o5=>
 some (cR 0 o5)
 else
 some (Ad K {c with m0:=gA o4 0,m1:=gA o4 1,m2:=gA o4 2,m3:=gA o4 3,m4:=gA o4 4,m5:=gA o4 5,e0:=gA o4 6,e1:=gA o4 7,e2:=gA o4 8,e3:=gA o4 9}):=by kernel_rfl
def Qx:=XR GN JD HM
theorem Z5x:Ai PG (Qdc GN JD HM):=Ao rfl ⟨Qhf,Zk8,Qqj,trivial⟩
theorem Zmd:Aj PG (162,Ac XM Qqc Qx):=rw1 (C:=(Qdc GN JD HM)) Z5x
def Qny:Sk:=⟨[tf [ci],tf [ci]],[],[]⟩
def W5:Sk:=⟨[tf [ci]],[],[]⟩
def Za4 (M:Fn):Nat×Spec:=(42,Ac Qny W5 M)
def Yp (AI:Fn):Cfg:=cf [L3 AI]
def YD (AI:Fn):Fn:=Am PG (Yp AI) 64 42 Qny W5
theorem Z35 (AI:Fn) (x0 x1:Int):YD AI [I x0,I x1]=
 (AI [I 4096,I x1,I x0,I 0]).bind fun o1=>
 some [jA o1 0]:=by kernel_rfl
def JX:=YD Bn
theorem Z45:Ai PG (Yp Bn):=Ao rfl ⟨LT,trivial⟩
theorem Z3r:Aj PG (42,Ac Qny W5 JX):=rw1 (C:=(Yp Bn)) Z45
def Za:Sk:=⟨[tf [CS.ptr 20000 0],tf [ci],TS.v true (cc 7)],[(20000,119,cS)],[]⟩
def Qf2:Sk:=⟨[TS.tup []],[(20000,119,cS)],[]⟩
def Z4j (M:Fn):Nat×Spec:=(161,Ac Za Qf2 M)
def Wl (LS B5 Dk:Fn):Cfg:=cr [Za4 LS,Tm B5,XY Dk] [110,159] [110]
def XI (LS B5 Dk:Fn):Fn:=Am PG (Wl LS B5 Dk) 64 161 Za Qf2
theorem Zza (LS B5 Dk:Fn) (x0 x1 x2 x3 x4 x5 x6 x7:Int) (K:Kf) (c:Cv):XI LS B5 Dk (I x0::I x1::I x2::I x3::I x4::I x5::I x6::I x7::Ad K c)=
 (Dk (I x0::Ad K c)).bind fun o5=>
 bif decide (0<=x5)&&decide (x5<(↑(wA o5 35).length:Int))then
 bif Af (nth .dead (nth [] (wA o5 35) x5.toNat) 19)==3 then
 (B5 (cR 0 o5)).bind fun o6=>
 (LS [I x7,I (wrap .i64 (gA o6 0-gA o5 80))]).bind fun o7=>
 some (DY (cR 0 o5) [(67,I (wrap .i64 (gA o5 81+wrap .i64 (wrap .i64 (1*gA o7 0)*256))))])
 else
 (B5 (cR 0 o5)).bind fun o8=>
 (LS [I x7,I (wrap .i64 (gA o8 0-gA o5 80))]).bind fun o9=>
 some (DY (cR 0 o5) [(67,I (wrap .i64 (gA o5 81+wrap .i64 (wrap .i64 (-1*gA o9 0)*256))))])
 else
 none:=by kernel_rfl
def Qm:=XI JX Ep HM
theorem Z6h:Ai PG (Wl JX Ep HM):=II (rs:=[110]) rfl ⟨Z3r,TL,Qqj,trivial⟩ rfl (CO rfl (Hp (CO rfl Jx)))
theorem Zq1:Aj PG (161,Ac Za Qf2 Qm):=rw1 (C:=(Wl JX Ep HM)) Z6h
def XN:Sk:=⟨[tf [ci],tf [ci]],[],[]⟩
def Qd4:Sk:=⟨[tf [ci]],[],[]⟩
def Zba (M:Fn):Nat×Spec:=(199,Ac XN Qd4 M)
def Qn8:Cfg:=cf []
def Wz:Fn:=Am PG Qn8 64 199 XN Qd4
theorem Ze5 (x0 x1:Int):Wz [I x0,I x1]=
 bif decide (x1=0)then
 none
 else
 bif decide (x1=0)then
 none
 else
 bif decide (x0.tmod x1<0)then
 some [I (wrap .i64 (wrap .i64 (x0.tdiv x1)-1))]
 else
 some [I (wrap .i64 (x0.tdiv x1))]:=by kernel_rfl
def Ka:=Wz
theorem Zss:Ai PG (Qn8):=Ao rfl trivial
theorem Zlo:Aj PG (199,Ac XN Qd4 Ka):=rw1 (C:=Qn8) Zss
def Qdh:Sk:=⟨[tf [ci],tf [ci]],[],[]⟩
def Qbw:Sk:=⟨[tf [ci]],[],[]⟩
def Zrr (M:Fn):Nat×Spec:=(180,Ac Qdh Qbw M)
def Qgl (K_:Fn):Cfg:=cf [Zba K_]
def Qpt (K_:Fn):Fn:=Am PG (Qgl K_) 64 180 Qdh Qbw
theorem Zya (K_:Fn) (x0 x1:Int):Qpt K_ [I x0,I x1]=
 bif x1== -1 then
 (K_ [I x0,I 1048576]).bind fun o2=>
 some [I (wrap .i64 (gA o2 0*1048576))]
 else
 (K_ [I (wrap .i64 (0-x0)),I 1048576]).bind fun o3=>
 some [I (wrap .i64 (wrap .i64 (0-gA o3 0)*1048576))]:=by kernel_rfl
def KA:=Qpt Ka
theorem Zri:Ai PG (Qgl Ka):=Ao rfl ⟨Zlo,trivial⟩
theorem Zea:Aj PG (180,Ac Qdh Qbw KA):=rw1 (C:=(Qgl Ka)) Zri
def Xd:Sk:=⟨[tf [CS.ptr 20000 0],TS.v true (cc 7)],[(20000,119,cS)],[]⟩
def WI:Sk:=⟨[tf [CS.bool]],[(20000,119,cS)],[]⟩
def Zn1 (M:Fn):Nat×Spec:=(160,Ac Xd WI M)
def Qai (B5 Ni:Fn):Cfg:=cr [Tm B5,Zrr Ni] [110] [110]
def Qa4 (B5 Ni:Fn):Fn:=Am PG (Qai B5 Ni) 64 160 Xd WI
theorem Zbm (B5 Ni:Fn) (x0 x1 x2 x3 x4 x5 x6:Int) (K:Kf) (c:Cv):Qa4 B5 Ni (I x0::I x1::I x2::I x3::I x4::I x5::I x6::Ad K c)=
 (Ni [I c.before,I c.s0]).bind fun o3=>
 bif decide (0<=x4)&&decide (x4<((K.aA.map Ah).length:Int))then
 bif gA (nth [] (K.aA.map Ah) x4.toNat) 0 !=6 then
 bif c.s1==0 then
 some (B false::Ad K c)
 else
 bif decide (wrap .i64 (wrap .i64 (c.s3-gA o3 0)*c.s0)<0)then
 some (B false::Ad K c)
 else
 (B5 (Ad K c)).bind fun o4=>
 some (B true::Ad K {c with y0:=x4,y1:=gA o4 0,y2:=c.s3,e0:=1,e1:=c.m0,e2:=gA o3 0,e3:=0})
 else
 (B5 (Ad K c)).bind fun o5=>
 some (B true::Ad K {c with y0:=x4,y1:=gA o5 0,y2:=c.s3,e0:=1,e1:=c.m0,e2:=gA o3 0,e3:=0})
 else
 none:=by kernel_rfl
def P0:=Qa4 Ep KA
theorem Zdi:Ai PG (Qai Ep KA):=II (rs:=[110]) rfl ⟨TL,Zea,trivial⟩ rfl (Hp (CO rfl Jx))
theorem Zvt:Aj PG (160,Ac Xd WI P0):=rw1 (C:=(Qai Ep KA)) Zdi
def ZE:Sk:=⟨[tf [CS.ptr 20000 0]],[(20000,119,cS)],[]⟩
def Qmw:Sk:=⟨[TS.tup [(true,cc 7),(false,[CS.bool])]],[],[]⟩
def Qt5 (M:Fn):Nat×Spec:=(102,EJ ZE Qmw M)
def P4 (Dq B5:Fn):Cfg:=cr [Qo3 Dq,Tm B5] [110] [110]
def Qkb (Dq B5:Fn):Fn:=Oj PG (P4 Dq B5) 64 102 ZE Qmw
theorem Zrs (Dq B5:Fn) (K:Kf) (c:Cv):Qkb Dq B5 (Ad K c)=
 (B5 (Ad K c)).bind fun o2=>
 (Dq (AH K.p++[jA o2 0])).bind fun o3=>
 bif decide (gA o3 0<0)then
 some [I 0,I 0,I 0,I 0,I 0,I 0,I 0,B false]
 else
 bif decide (0<=gA o3 0)&&decide (gA o3 0<((K.p.aF.map Au).length:Int))then
 some (AO Ag (nth [] (K.p.aF.map Au) (gA o3 0).toNat)++[B true])
 else
 none:=by kernel_rfl
def HA:=Qkb Es Ep
theorem Zeo:Ai PG (P4 Es Ep):=II (rs:=[110]) rfl ⟨Qfz,TL,trivial⟩ rfl (CO rfl (Hp Jx))
theorem Zv7 (vars : List AC) (R : Type) (K : TV -> Mem -> Option R) : EZ PG (P4 Es Ep) 64 102 [TV.v false [AC.ptr 20000 0]] ⟨[(20000, (⟨119, (cR 0 vars)⟩ : Box))], []⟩ K = EZ PG (P4 Es Ep) 64 102 [TV.v false [AC.ptr 20000 0]] ⟨[(20000, (⟨119, (cR 0 vars)⟩ : Box))], []⟩ (fun v _ => K v ⟨[(20000, (⟨119, (cR 0 vars)⟩ : Box))], []⟩) := Eq.trans (b := ((Ep (cR 0 vars)).bind fun o2 =>
 (Es [jA vars 37,jA vars 38,jA vars 39, .view Ag (wA vars 40), .view kPt (wA vars 41),jA o2 0]).bind fun o3=>
 bif decide (gA o3 0<0)then
 K (TV.tup [(true,[I 0,I 0,I 0,I 0,I 0,I 0,I 0]),(false,[B false])]) ⟨[(20000,(⟨119,(cR 0 vars)⟩:Box))],[]⟩
 else
 bif decide (0<=gA o3 0)&&decide (gA o3 0<(↑(wA vars 40).length:Int))then
 K (TV.tup [(true,[I (Af (nth .dead (nth [] (wA vars 40) (gA o3 0).toNat) 0)),I (Af (nth .dead (nth [] (wA vars 40) (gA o3 0).toNat) 1)),I (Af (nth .dead (nth [] (wA vars 40) (gA o3 0).toNat) 2)),I (Af (nth .dead (nth [] (wA vars 40) (gA o3 0).toNat) 3)),I (Af (nth .dead (nth [] (wA vars 40) (gA o3 0).toNat) 4)),I (Af (nth .dead (nth [] (wA vars 40) (gA o3 0).toNat) 5)),I (Af (nth .dead (nth [] (wA vars 40) (gA o3 0).toNat) 6))]),(false,[B true])]) ⟨[(20000,(⟨119,(cR 0 vars)⟩:Box))],[]⟩
 else
 none)) (by kernel_rfl) (Eq.symm (by kernel_rfl))
theorem Qtq:Aj PG (102,EJ ZE Qmw HA):=S4 (C:=(P4 Es Ep)) (L:=64) (by kernel_rfl) (FnOK.bare rfl rfl rfl) Zeo eqOk Ig (by kernel_rfl) (by kernel_rfl) (fun vars R K=>Zv7 vars R K)
def Yz:Sk:=⟨[tf [CS.ptr 20000 0],tf [ci]],[(20000,119,cS)],[]⟩
def Qfg:Sk:=⟨[TS.tup []],[(20000,119,cS)],[]⟩
def Zcv (M:Fn):Nat×Spec:=(109,Ac Yz Qfg M)
def UM (Ih H8 C0 IA Dk F5:Fn):Cfg:=cr [Zx8 Ih,Z4j H8,Qc9 C0,Zn1 IA,XY Dk,Qt5 F5] [162,161,108,160,159,102] [102]
def X4 (Ih H8 C0 IA Dk F5:Fn):Fn:=Am PG (UM Ih H8 C0 IA Dk F5) 64 109 Yz Qfg
abbrev SK (c:Cv) (o15:List AC) (IA:Fn) (K:Kf) (C0 H8:Fn) (x0:Int) (Ih:Fn):Option (List AC):=
 bif !c.y0==gA o15 4 then
 (IA (jA o15 0::jA o15 1::jA o15 2::jA o15 3::jA o15 4::jA o15 5::jA o15 6::Ad K c)).bind fun o18=>
 bif !bA o18 0 then
 bif gA o18 66==0 then
 (C0 (cR 1 o18)).bind fun o19=>
 some (cR 0 o19)
 else
 some (cR 1 o18)
 else
 bif decide (0<=gA o15 4)&&decide (gA o15 4<(↑(wA o18 36).length:Int))then
 bif Af (nth .dead (nth [] (wA o18 36) (gA o15 4).toNat) 0)==6 then
 (H8 (I x0::jA o15 0::jA o15 1::jA o15 2::jA o15 3::jA o15 4::jA o15 5::jA o15 6::cR 1 o18)).bind fun o20=>
 some (cR 0 o20)
 else
 (Ih (I x0::jA o15 0::jA o15 1::jA o15 2::jA o15 3::jA o15 4::jA o15 5::jA o15 6::cR 1 o18)).bind fun o21=>
 some (cR 0 o21)
 else
 none
 else
 bif decide (0<=gA o15 4)&&decide (gA o15 4<((K.aA.map Ah).length:Int))then
 bif gA (nth [] (K.aA.map Ah) (gA o15 4).toNat) 0==6 then
 (H8 (I x0::jA o15 0::jA o15 1::jA o15 2::jA o15 3::jA o15 4::jA o15 5::jA o15 6::Ad K c)).bind fun o22=>
 some (cR 0 o22)
 else
 (Ih (I x0::jA o15 0::jA o15 1::jA o15 2::jA o15 3::jA o15 4::jA o15 5::jA o15 6::Ad K c)).bind fun o23=>
 some (cR 0 o23)
 else
 none
attribute [go_sem] SK
theorem Zur (Ih H8 C0 IA Dk F5:Fn) (x0:Int) (K:Kf) (c:Cv):X4 Ih H8 C0 IA Dk F5 (I x0::Ad K c)=
 (F5 (Ad K c)).bind fun o15=>
 bif gA o15 6==0 then
 (Dk (I x0::Ad K c)).bind fun o16=>
 some (cR 0 o16)
 else
 bif c.o2 then
 bif !c.y0==gA o15 4 then
 (Dk (I x0::Ad K c)).bind fun o17=>
 some (cR 0 o17)
 else
 SK c o15 IA K C0 H8 x0 Ih
 else
 SK c o15 IA K C0 H8 x0 Ih:=by kernel_rfl
def PM:=X4 Qx Qm GN P0 HM HA
theorem Z12:Ai PG (UM Qx Qm GN P0 HM HA):=II (rs:=[102]) rfl ⟨Zmd,Zq1,Qhf,Zvt,Qqj,Qtq,trivial⟩ rfl (CO rfl (CO rfl (CO rfl (CO rfl (CO rfl (Hp Jx))))))
theorem Zpk:Aj PG (109,Ac Yz Qfg PM):=rw1 (C:=(UM Qx Qm GN P0 HM HA)) Z12
def Qo2:Sk:=⟨[tf [ci]],[],[]⟩
def Qj8:Sk:=⟨[tf [ci]],[],[]⟩
def UH (M:Fn):Nat×Spec:=(88,Ac Qo2 Qj8 M)
def Qpy (AI:Fn):Cfg:=cf [L3 AI]
def Rp (AI:Fn):Fn:=Am PG (Qpy AI) 64 88 Qo2 Qj8
theorem Za2 (AI:Fn) (x0:Int):Rp AI [I x0]=
 (AI [I x0,I 1048576,I 60000,I 2]).bind fun o1=>
 some [jA o1 0]:=by kernel_rfl
def EB:=Rp Bn
theorem Zh3:Ai PG (Qpy Bn):=Ao rfl ⟨LT,trivial⟩
theorem Qp1:Aj PG (88,Ac Qo2 Qj8 EB):=rw1 (C:=(Qpy Bn)) Zh3
def Vq:Sk:=⟨[tf [ci]],[],[]⟩
def UO:Sk:=⟨[tf [ci]],[],[]⟩
def Qz1 (M:Fn):Nat×Spec:=(177,Ac Vq UO M)
def Yf:Cfg:=cf []
def VF:Fn:=Am PG Yf 64 177 Vq UO
theorem Zvz (x0:Int):VF [I x0]=
 bif x0==3 then
 some [I 1]
 else
 bif x0==4 then
 some [I (-1)]
 else
 some [I 0]:=by kernel_rfl
def GR:=VF
theorem Zwb:Ai PG (Yf):=Ao rfl trivial
theorem Qrk:Aj PG (177,Ac Vq UO GR):=rw1 (C:=Yf) Zwb
def Yd:Sk:=⟨[TS.v true [ci,ci,ci,ci],tf [ci],tf [ci]],[],[]⟩
def Qog:Sk:=⟨[tf [CS.bool]],[],[]⟩
def Zj6 (M:Fn):Nat×Spec:=(150,Ac Yd Qog M)
def Qno (Dd F0:Fn):Cfg:=cf [UH Dd,Qz1 F0]
def Qk4 (Dd F0:Fn):Fn:=Am PG (Qno Dd F0) 64 150 Yd Qog
theorem Zlk (Dd F0:Fn) (x0 x1 x2 x3 x4 x5:Int):Qk4 Dd F0 [I x0,I x1,I x2,I x3,I x4,I x5]=
 (F0 [I x4]).bind fun o3=>
 bif gA o3 0==0 then
 bif x4==5 then
 bif x1==0 then
 some [B (x2==0)]
 else
 some [B false]
 else
 some [B false]
 else
 bif x0==gA o3 0 then
 (Dd [I x5]).bind fun o4=>
 bif x1==gA o4 0 then
 (Dd [I x5]).bind fun o5=>
 some [B (x2==gA o5 0)]
 else
 some [B false]
 else
 some [B false]:=by kernel_rfl
def Mw:=Qk4 EB GR
theorem Zmm:Ai PG (Qno EB GR):=Ao rfl ⟨Qp1,Qrk,trivial⟩
theorem Zyz:Aj PG (150,Ac Yd Qog Mw):=rw1 (C:=(Qno EB GR)) Zmm
def Qim:Sk:=⟨[TS.v true [ci,ci,ci,ci],tf [ci],tf [ci]],[],[]⟩
def Qf3:Sk:=⟨[TS.v true [ci,ci,ci,ci]],[],[]⟩
def Z20 (M:Fn):Nat×Spec:=(149,Ac Qim Qf3 M)
def VU (Dd F0:Fn):Cfg:=cf [UH Dd,Qz1 F0]
def W7 (Dd F0:Fn):Fn:=Am PG (VU Dd F0) 64 149 Qim Qf3
theorem Z6e (Dd F0:Fn) (x0 x1 x2 x3 x4 x5:Int):W7 Dd F0 [I x0,I x1,I x2,I x3,I x4,I x5]=
 (F0 [I x4]).bind fun o3=>
 bif x4==5 then
 some [I x0,I x1,I 0,I x3]
 else
 bif gA o3 0==0 then
 some [I x0,I x1,I x2,I x3]
 else
 bif x1==0 then
 (Dd [I x5]).bind fun o4=>
 some [jA o3 0,I x1,jA o4 0,I x3]
 else
 bif x0==gA o3 0 then
 (Dd [I x5]).bind fun o5=>
 some [jA o3 0,I x1,jA o5 0,I x3]
 else
 some [I x0,I x1,I 0,I x3]:=by kernel_rfl
def Ly:=W7 EB GR
theorem Zbd:Ai PG (VU EB GR):=Ao rfl ⟨Qp1,Qrk,trivial⟩
theorem Zkz:Aj PG (149,Ac Qim Qf3 Ly):=rw1 (C:=(VU EB GR)) Zbd
def Qm4:Sk:=⟨[tf [CS.ptr 20000 0]],[(20000,119,cS)],[]⟩
def XG:Sk:=⟨[tf [ci]],[(20000,119,cS)],[]⟩
def Z53 (M:Fn):Nat×Spec:=(148,Ac Qm4 XG M)
def Yv:Cfg:=cf []
def Ux:Fn:=Am PG Yv 64 148 Qm4 XG
theorem Znr (K:Kf) (c:Cv):Ux (Ad K c)=
 some (I 3::Ad K {c with next:=wrap .i64 (c.idx+1),on:=false,idx:=0,aN:=false,cnt:=0}):=by kernel_rfl
def Ob:=Ux
theorem Zng:Ai PG (Yv):=Ao rfl trivial
theorem Zlu:Aj PG (148,Ac Qm4 XG Ob):=rw1 (C:=Yv) Zng
def Yk:Sk:=⟨[tf [CS.ptr 20000 0]],[(20000,119,cS)],[]⟩
def Vj:Sk:=⟨[tf [ci]],[(20000,119,cS)],[]⟩
def Q6y (M:Fn):Nat×Spec:=(103,Ac Yk Vj M)
def Vt (OD OU Iv:Fn):Cfg:=cp [Zj6 OD,Z20 OU,Z53 Iv] [148]
def Qkf (OD OU Iv:Fn):Fn:=Am PG (Vt OD OU Iv) 64 103 Yk Vj
theorem Zi8 (OD OU Iv:Fn) (K:Kf) (c:Cv):Qkf OD OU Iv (Ad K c)=
 bif c.aN then
 bif decide (wrap .i64 (c.cnt+1)>1)then
 bif c.aJ then
 (Iv (Ad K {c with cnt:=wrap .i64 (c.cnt+1)})).bind fun o7=>
 some (jA o7 0::cR 1 o7)
 else
 some (I 2::Ad K {c with cnt:=wrap .i64 (c.cnt+1)})
 else
 some (I 2::Ad K {c with cnt:=wrap .i64 (c.cnt+1)})
 else
 bif decide (0<=c.idx)&&decide (c.idx<((K.p.aD.map At).length:Int))then
 bif gA (nth [] (K.p.aD.map At) c.idx.toNat) 1 !=3 then
 (Iv (Ad K {c with cnt:=wrap .i64 (c.cnt+1)})).bind fun o8=>
 some (jA o8 0::cR 1 o8)
 else
 bif decide (0<=gA (nth [] (K.p.aD.map At) c.idx.toNat) 2)&&decide (gA (nth [] (K.p.aD.map At) c.idx.toNat) 2<((K.aA.map Ah).length:Int))then
 bif gA (nth [] (K.aA.map Ah) (gA (nth [] (K.p.aD.map At) c.idx.toNat) 2).toNat) 0==7 then
 bif decide (wrap .i64 (c.cnt+1)<gA (nth [] (K.aA.map Ah) (gA (nth [] (K.p.aD.map At) c.idx.toNat) 2).toNat) 19)then
 some (I 3::Ad K {c with cnt:=wrap .i64 (c.cnt+1)})
 else
 (Iv (Ad K {c with cnt:=wrap .i64 (c.cnt+1)})).bind fun o9=>
 some (jA o9 0::cR 1 o9)
 else
 bif gA (nth [] (K.aA.map Ah) (gA (nth [] (K.p.aD.map At) c.idx.toNat) 2).toNat) 0==8 then
 (OU [I c.s0,I c.s1,I c.s2,I c.s3,jA (nth [] (K.aA.map Ah) (gA (nth [] (K.p.aD.map At) c.idx.toNat) 2).toNat) 19,jA (nth [] (K.aA.map Ah) (gA (nth [] (K.p.aD.map At) c.idx.toNat) 2).toNat) 20]).bind fun o10=>
 (OD [jA o10 0,jA o10 1,jA o10 2,jA o10 3,jA (nth [] (K.aA.map Ah) (gA (nth [] (K.p.aD.map At) c.idx.toNat) 2).toNat) 19,jA (nth [] (K.aA.map Ah) (gA (nth [] (K.p.aD.map At) c.idx.toNat) 2).toNat) 20]).bind fun o11=>
 bif !bA o11 0 then
 some (I 3::Ad K {c with s0:=gA o10 0,s1:=gA o10 1,s2:=gA o10 2,s3:=gA o10 3,cnt:=wrap .i64 (c.cnt+1)})
 else
 (Iv (Ad K {c with s0:=gA o10 0,s1:=gA o10 1,s2:=gA o10 2,s3:=gA o10 3,cnt:=wrap .i64 (c.cnt+1)})).bind fun o12=>
 some (jA o12 0::cR 1 o12)
 else
 bif gA (nth [] (K.aA.map Ah) (gA (nth [] (K.p.aD.map At) c.idx.toNat) 2).toNat) 0==14 then
 some (I 7::Ad K {c with cnt:=wrap .i64 (c.cnt+1),aI:=7})
 else
 (Iv (Ad K {c with cnt:=wrap .i64 (c.cnt+1)})).bind fun o13=>
 some (jA o13 0::cR 1 o13)
 else
 none
 else
 none:=by kernel_rfl
def Ke:=Qkf Mw Ly Ob
theorem Zni:Ai PG (Vt Mw Ly Ob):=Ao rfl ⟨Zyz,Zkz,Zlu,trivial⟩
theorem Qyp:Aj PG (103,Ac Yk Vj Ke):=rw1 (C:=(Vt Mw Ly Ob)) Zni
def Qqi:Sk:=⟨[tf [CS.ptr 20000 0],tf [ci]],[(20000,119,cS)],[]⟩
def Qi5:Sk:=⟨[tf [ci]],[(20000,119,cS)],[]⟩
def Z1v (M:Fn):Nat×Spec:=(107,Ac Qqi Qi5 M)
def Qb9 (DT:Fn):Cfg:=cp [Q6y DT] [103]
def Wm (DT:Fn):Fn:=Am PG (Qb9 DT) 64 107 Qqi Qi5
theorem Z59 (DT:Fn) (x0:Int) (K:Kf) (c:Cv):Wm DT (I x0::Ad K c)=
 bif decide (0<=x0)&&decide (x0<((K.p.aD.map At).length:Int))then
 bif gA (nth [] (K.p.aD.map At) x0.toNat) 1==1 then
 (DT (Ad K {c with on:=true,idx:=x0,aN:=c.o3,cnt:=0})).bind fun o7=>
 some (jA o7 0::cR 1 o7)
 else
 bif gA (nth [] (K.p.aD.map At) x0.toNat) 1==2 then
 (DT (Ad K {c with on:=true,idx:=x0,aN:=c.o3,cnt:=0})).bind fun o8=>
 some (jA o8 0::cR 1 o8)
 else
 bif gA (nth [] (K.p.aD.map At) x0.toNat) 1==6 then
 (DT (Ad K {c with on:=true,idx:=x0,aN:=c.o3,cnt:=0})).bind fun o9=>
 some (jA o9 0::cR 1 o9)
 else
 bif gA (nth [] (K.p.aD.map At) x0.toNat) 1==4 then
 (DT (Ad K {c with on:=true,idx:=x0,aN:=true,cnt:=0})).bind fun o10=>
 some (jA o10 0::cR 1 o10)
 else
 bif gA (nth [] (K.p.aD.map At) x0.toNat) 1==3 then
 bif decide (0<=gA (nth [] (K.p.aD.map At) x0.toNat) 2)&&decide (gA (nth [] (K.p.aD.map At) x0.toNat) 2<((K.aA.map Ah).length:Int))then
 bif gA (nth [] (K.aA.map Ah) (gA (nth [] (K.p.aD.map At) x0.toNat) 2).toNat) 0==11 then
 (DT (Ad K {c with on:=true,idx:=x0,aN:=true,cnt:=0})).bind fun o11=>
 some (jA o11 0::cR 1 o11)
 else
 (DT (Ad K {c with on:=true,idx:=x0,aN:=gA (nth [] (K.aA.map Ah) (gA (nth [] (K.p.aD.map At) x0.toNat) 2).toNat) 0==12,cnt:=0})).bind fun o12=>
 some (jA o12 0::cR 1 o12)
 else
 none
 else
 (DT (Ad K {c with on:=true,idx:=x0,aN:=false,cnt:=0})).bind fun o13=>
 some (jA o13 0::cR 1 o13)
 else
 none:=by kernel_rfl
def QK:=Wm Ke
theorem Z07:Ai PG (Qb9 Ke):=Ao rfl ⟨Qyp,trivial⟩
theorem Zdy:Aj PG (107,Ac Qqi Qi5 QK):=rw1 (C:=(Qb9 Ke)) Z07
def Qct:Sk:=⟨[tf [CS.sl kPt],tf [ci],TS.v true [ci,ci,CS.bool,CS.bool,CS.bool],tf [ci],tf [ci]],[],[]⟩
def Wt:Sk:=⟨[TS.tup [(false,[ci]),(false,[ci])]],[],[]⟩
def Zjk (M:Fn):Nat×Spec:=(158,Ac Qct Wt M)
def Qlq (CH:Fn):Cfg:=cf [Q3k CH]
def Q01:Sk:=⟨[tf [CS.sl kPt],td,td,tf [ci],tf [ci],td,td,tf [CS.ptr 7 0],td,td,td,td,tf [ci]]++dd 32,[(7,92,[ci,ci,CS.bool,CS.bool,CS.bool])],[]⟩
def Qvf:List (Ex×Sk):=[(Ex.ret,⟨dd 10++[tf [ci],tf [ci]]++dd 33,[],[]⟩),(Ex.exit 0,⟨[td,td,td,tf [ci]]++dd 41,[],[]⟩)]
def Sf (CH:Fn):Lp:=AT PG (Qlq CH) 64 2 (AU PG 158 2) Q01 Qvf
def Qtt (CH:Fn) (N2:Lp):Cfg:=(Qlq CH).loop 2 Q01 Qvf N2
def Qg6 (CH:Fn) (N2:Lp):Fn:=Am PG (Qtt CH N2) 64 158 Qct Wt
theorem Ze3 (CH:Fn) (v0:Rw) (v1 v2 v3 v4 v5:Int) (v6 v7 v8:Bool):Sf CH [.view kPt v0,I v1,I v2,I v3,I v4,I v5,B v6,B v7,B v8]=
 bif decide (v3<(v0.length:Int))then
 bif decide (0<=v3)&&decide (v3<(v0.length:Int))then
 (CH [jA (nth [] v0 v3.toNat) 0,jA (nth [] v0 v3.toNat) 1,jA (nth [] v0 v3.toNat) 2,I v4,I v5,B v6,B v7,B v8]).bind fun o2=>
 bif bA o2 0 then
 bif decide (v2<=gA (nth [] v0 v3.toNat) 0)then
 bif decide (gA (nth [] v0 v3.toNat) 0<=v1)then
 some (1,[jA (nth [] v0 v3.toNat) 0,I v3])
 else
 some (0,[.view kPt v0,I v1,I v2,I (wrap .i64 (v3+1)),I v4,I v5,B v6,B v7,B v8])
 else
 some (0,[.view kPt v0,I v1,I v2,I (wrap .i64 (v3+1)),I v4,I v5,B v6,B v7,B v8])
 else
 some (0,[.view kPt v0,I v1,I v2,I (wrap .i64 (v3+1)),I v4,I v5,B v6,B v7,B v8])
 else
 none
 else
 some (2,[I v1]):=by kernel_rfl
theorem Zr5 (CH:Fn) (N2:Lp) (x0:Rw) (x1 x2 x3:Int) (x4 x5 x6:Bool) (x7 x8:Int):Qg6 CH N2 [.view kPt x0,I x1,I x2,I x3,B x4,B x5,B x6,I x7,I x8]=
 (N2 [.view kPt x0,I x7,I x8,I (mx x1 0),I x2,I x3,B x4,B x5,B x6]).bind fun o3=>
 bif o3.1.beq 1 then
 some [jA o3.2 0,jA o3.2 1]
 else
 bif o3.1.beq 2 then
 some [jA o3.2 0,I (-1)]
 else
 none:=by kernel_rfl
def Qx6:=An (Sf Iq)
def QH:=Qg6 Iq Qx6
theorem Q5e:Ai PG (Qlq Iq):=Ao rfl ⟨Qsy,trivial⟩
theorem Zqt:Aj PG (158,Ac Qct Wt QH):=rw2 (C:=(Qtt Iq Qx6)) (fl fb Q5e) Q5e
def Xg:Sk:=⟨[TS.v true ([CS.sl Ap]++cc 5),tf [ci]],[],[]⟩
def Y4:Sk:=⟨[tf [ci]],[],[]⟩
def Zny (M:Fn):Nat×Spec:=(157,Ac Xg Y4 M)
def C_track_Where_0:Cfg:=cf []
def Q1z:Sk:=⟨[td,tf [ci]]++dd 11++[tf [CS.sl Ap],tf [ci],tf [ci]]++dd 28,[],[]⟩
def Q27:List (Ex×Sk):=[(Ex.ret,⟨[td,td,td,td,tf [ci]]++dd 39,[],[]⟩),(Ex.exit 0,⟨[td]++dd 43,[],[]⟩)]
def QZ:Lp:=AT PG C_track_Where_0 64 4 (AU PG 157 4) Q1z Q27
def Q3v (N4:Lp):Cfg:=C_track_Where_0.loop 4 Q1z Q27 N4
def Qy7 (N4:Lp):Fn:=Am PG (Q3v N4) 64 157 Xg Y4
theorem Q6w (v0:Int) (v1:Rw) (v2 v3:Int):QZ [I v0, .view Ap v1,I v2,I v3]=
 bif decide (v3<v2)then
 bif decide (0<=v3)&&decide (v3<(v1.length:Int))then
 bif gA (nth [] v1 v3.toNat) 3 !=0 then
 bif decide (0<=wrap .i64 (wrap .i64 (v0-gA (nth [] v1 v3.toNat) 2)*gA (nth [] v1 v3.toNat) 3))then
 bif decide (wrap .i64 (wrap .i64 (v0-gA (nth [] v1 v3.toNat) 2)*gA (nth [] v1 v3.toNat) 3)<=gA (nth [] v1 v3.toNat) 1)then
 some (1,[I (wrap .i64 (gA (nth [] v1 v3.toNat) 0+wrap .i64 (wrap .i64 (v0-gA (nth [] v1 v3.toNat) 2)*gA (nth [] v1 v3.toNat) 3)))])
 else
 some (0,[I v0, .view Ap v1,I v2,I (wrap .i64 (v3+1))])
 else
 some (0,[I v0, .view Ap v1,I v2,I (wrap .i64 (v3+1))])
 else
 some (0,[I v0, .view Ap v1,I v2,I (wrap .i64 (v3+1))])
 else
 none
 else
 some (2,[]):=by kernel_rfl
theorem Zs0 (N4:Lp) (x0:Rw) (x1 x2 x3 x4 x5 x6:Int):Qy7 N4 [.view Ap x0,I x1,I x2,I x3,I x4,I x5,I x6]=
 bif x6==x2 then
 some [I 0]
 else
 (N4 [I x6, .view Ap x0,I (x0.length:Int),I 0]).bind fun o1=>
 bif o1.1.beq 1 then
 some [jA o1.2 0]
 else
 bif o1.1.beq 2 then
 some [I (-1)]
 else
 none:=by kernel_rfl
def Me:=An (QZ)
def NT:=Qy7 Me
theorem Q2m:Ai PG (C_track_Where_0):=Ao rfl trivial
theorem Zbh:Aj PG (157,Ac Xg Y4 NT):=rw2 (C:=(Q3v Me)) (fl fb Q2m) Q2m
def Qo8:Sk:=⟨[tf [CS.ptr 20000 0]],[(20000,119,cS)],[]⟩
def Qjg:Sk:=⟨[TS.tup [(false,[ci]),(false,[ci])]],[(20000,119,cS)],[]⟩
def Zlm (M:Fn):Nat×Spec:=(106,Ac Qo8 Qjg M)
def Qbz (Ib HB BT DQ:Fn):Cfg:=cf [Zjk Ib,Zny HB,RX BT,Que DQ]
def Ye (Ib HB BT DQ:Fn):Fn:=Am PG (Qbz Ib HB BT DQ) 64 106 Qo8 Qjg
abbrev Uc (DQ:Fn) (K:Kf) (c:Cv) (BT HB Ib:Fn) (h1_0:AC):Option (List AC):=
 (DQ [I K.pa,I K.pb,I K.pc,I c.m0,I c.m1,I c.m2,I c.m3,I c.m4,I c.m5]).bind fun o14=>
 (BT (AS K.t++[I (wrap .i64 ((wrap .i64 (wrap .i64 (gA o14 0+256)-1)).tdiv 256))])).bind fun o15=>
 (HB (AS K.t++[jA o15 0])).bind fun o16=>
 bif gA o16 0 !=wrap .i64 ((wrap .i64 (wrap .i64 (gA o14 0+256)-1)).tdiv 256)then
 (Ib [.view kPt (K.p.aD.map At),I c.next,I c.o0,I c.o1,B c.o2,B c.o3,B c.o4,h1_0,I (wrap .i64 (gA o15 0+1))]).bind fun o17=>
 (HB (AS K.t++[jA o17 0])).bind fun o18=>
 some (jA o18 0::jA o17 1::Ad K c)
 else
 (Ib [.view kPt (K.p.aD.map At),I c.next,I c.o0,I c.o1,B c.o2,B c.o3,B c.o4,h1_0,jA o15 0]).bind fun o19=>
 (HB (AS K.t++[jA o19 0])).bind fun o20=>
 some (jA o20 0::jA o19 1::Ad K c)
attribute [go_sem] Uc
theorem Zu8 (Ib HB BT DQ:Fn) (K:Kf) (c:Cv):Ye Ib HB BT DQ (Ad K c)=
 bif K.closed then
 Uc DQ K c BT HB Ib (I K.len)
 else
 Uc DQ K c BT HB Ib (I K.set):=by kernel_rfl
def P1:=Ye QH NT Ev FB
theorem Zr6:Ai PG (Qbz QH NT Ev FB):=Ao rfl ⟨Zqt,Zbh,T4,Qxl,trivial⟩
theorem Z5r:Aj PG (106,Ac Qo8 Qjg P1):=rw1 (C:=(Qbz QH NT Ev FB)) Zr6
def Ve:Sk:=⟨[tf [CS.ptr 20000 0]],[(20000,119,cS)],[]⟩
def Qf6:Sk:=⟨[tf [ci]],[(20000,119,cS)],[]⟩
def Zki (M:Fn):Nat×Spec:=(70,Ac Ve Qf6 M)
def Qp9 (Jr C0 NW Oq:Fn):Cfg:=cp [Zcv Jr,Qc9 C0,Z1v NW,Zlm Oq] [109,108,107,106]
def Qi6 (Jr C0 NW Oq:Fn):Fn:=Am PG (Qp9 Jr C0 NW Oq) 64 70 Ve Qf6
theorem Zgp (Jr C0 NW Oq:Fn) (K:Kf) (c:Cv):Qi6 Jr C0 NW Oq (Ad K c)=
 (Oq (Ad K c)).bind fun o7=>
 bif bA o7 90 then
 bif gA o7 52==wrap .i64 (gA o7 0*256)then
 bif decide (gA o7 1>=0)then
 (NW (jA o7 1::cR 2 o7)).bind fun o8=>
 bif decide (0<=gA o7 1)&&decide (gA o7 1<(↑(wA o8 42).length:Int))then
 bif Af (nth .dead (nth [] (wA o8 42) (gA o7 1).toNat) 2)==gA o8 80 then
 bif decide (0<=Af (nth .dead (nth [] (wA o8 42) (gA o7 1).toNat) 2))&&decide (Af (nth .dead (nth [] (wA o8 42) (gA o7 1).toNat) 2)<(↑(wA o8 36).length:Int))then
 bif Af (nth .dead (nth [] (wA o8 36) (Af (nth .dead (nth [] (wA o8 42) (gA o7 1).toNat) 2)).toNat) 0)==5 then
 bif gA o8 83==1 then
 (C0 (cR 1 o8)).bind fun o9=>
 some (jA o8 0::cR 0 o9)
 else
 some (jA o8 0::cR 1 o8)
 else
 some (jA o8 0::cR 1 o8)
 else
 none
 else
 some (jA o8 0::cR 1 o8)
 else
 none
 else
 bif bA o7 38 then
 some (I 7::DY (cR 2 o7) [(78,I 7)])
 else
 some (I 1::cR 2 o7)
 else
 bif gA o7 63 !=0 then
 (Jr (jA o7 0::cR 2 o7)).bind fun o10=>
 bif bA o7 90 then
 some (I 6::cR 0 o10)
 else
 some (I 1::cR 0 o10)
 else
 (Jr (jA o7 0::cR 2 o7)).bind fun o11=>
 some (I 1::cR 0 o11)
 else
 bif gA o7 63 !=0 then
 (Jr (jA o7 0::cR 2 o7)).bind fun o12=>
 bif bA o7 90 then
 some (I 6::cR 0 o12)
 else
 some (I 1::cR 0 o12)
 else
 (Jr (jA o7 0::cR 2 o7)).bind fun o13=>
 some (I 1::cR 0 o13):=by kernel_rfl
def LU:=Qi6 PM GN QK P1
theorem Zek:Ai PG (Qp9 PM GN QK P1):=Ao rfl ⟨Zpk,Qhf,Zdy,Z5r,trivial⟩
theorem Z1a:Aj PG (70,Ac Ve Qf6 LU):=rw1 (C:=(Qp9 PM GN QK P1)) Zek
def Qky:Sk:=⟨[tf [ci]],[],[]⟩
def UY:Sk:=⟨[TS.v true (cc 6)],[],[]⟩
def Qwn (M:Fn):Nat×Spec:=(59,Ac Qky UY M)
def Qd6:Cfg:=cf []
def Qg8:Fn:=Am PG Qd6 64 59 Qky UY
theorem Zoc (x0:Int):Qg8 [I x0]=
 some [I (wrap .i64 (x0*256)),I 0,I 0,I (wrap .i64 (x0*256)),I (wrap .i64 (x0*256)),I (wrap .i64 (x0*256))]:=by kernel_rfl
def IZ:=Qg8
theorem Zti:Ai PG (Qd6):=Ao rfl trivial
theorem Qtl:Aj PG (59,Ac Qky UY IZ):=rw1 (C:=Qd6) Zti
def Qeh:Sk:=⟨[TS.v true (cc 9++[CS.sl Aa]++cc 9++[CS.sl Aa]++cc 9++[CS.sl Aa]),TS.v true [ci,ci,ci],TS.v true [ci,ci,ci]],[],[]⟩
def Qd0:Sk:=⟨[tf [ci]],[],[]⟩
def Z4x (M:Fn):Nat×Spec:=(95,Ac Qeh Qd0 M)
def Qea:Cfg:={cf []with unroll:=[3]}
def Q80:Fn:=Am PG Qea 64 95 Qeh Qd0
theorem Zmc (x0 x1 x2 x3 x4 x5 x6 x7 x8:Int) (x9:Rw) (x10 x11 x12 x13 x14 x15 x16 x17 x18:Int) (x19:Rw) (x20 x21 x22 x23 x24 x25 x26 x27 x28:Int) (x29:Rw) (x30 x31 x32 x33 x34 x35:Int):Q80 [I x0,I x1,I x2,I x3,I x4,I x5,I x6,I x7,I x8, .view Aa x9,I x10,I x11,I x12,I x13,I x14,I x15,I x16,I x17,I x18, .view Aa x19,I x20,I x21,I x22,I x23,I x24,I x25,I x26,I x27,I x28, .view Aa x29,I x30,I x31,I x32,I x33,I x34,I x35]=
 bif x30 !=x33 then
 bif x31 !=x34 then
 bif x32 !=x35 then
 some [I (mx (mx (mx 0 x6) x16) x26)]
 else
 some [I (mx (mx 0 x6) x16)]
 else
 bif x32 !=x35 then
 some [I (mx (mx 0 x6) x26)]
 else
 some [I (mx 0 x6)]
 else
 bif x31 !=x34 then
 bif x32 !=x35 then
 some [I (mx (mx 0 x16) x26)]
 else
 some [I (mx 0 x16)]
 else
 bif x32 !=x35 then
 some [I (mx 0 x26)]
 else
 some [I 0]:=by kernel_rfl
def Oz:=Q80
theorem Zim:Ai PG (Qea):=Ao rfl trivial
theorem Zno:Aj PG (95,Ac Qeh Qd0 Oz):=rw1 (C:=Qea) Zim
def XO:Sk:=⟨[TS.v true [ci,ci,ci],TS.v true [ci,ci,ci],TS.v true [ci,ci,ci],tf [ci]],[],[]⟩
def Qku:Sk:=⟨[TS.v true [ci,ci,ci]],[],[]⟩
def Zxs (M:Fn):Nat×Spec:=(94,Ac XO Qku M)
def YK:Cfg:={cf []with unroll:=[2]}
def Q4h:Fn:=Am PG YK 64 94 XO Qku
abbrev Rh (x8 x5:Int) (h1_0:AC) (x9 x2:Int) (h2_0:AC):Option (List AC):=
 bif decide (x8>x5)then
 some [h1_0,h2_0,I x9]
 else
 bif decide (x8<x5)then
 some [h1_0,h2_0,I (wrap .i64 (0-x9))]
 else
 some [h1_0,h2_0,I x2]
attribute [go_sem] Rh
abbrev TI (x7 x4 x8 x5 x9 x2 x1:Int) (h1_0:AC):Option (List AC):=
 bif decide (x7>x4)then
 Rh x8 x5 h1_0 x9 x2 (I x9)
 else
 bif decide (x7<x4)then
 Rh x8 x5 h1_0 x9 x2 (I (wrap .i64 (0-x9)))
 else
 Rh x8 x5 h1_0 x9 x2 (I x1)
attribute [go_sem] TI
theorem Zhn (x0 x1 x2 x3 x4 x5 x6 x7 x8 x9:Int):Q4h [I x0,I x1,I x2,I x3,I x4,I x5,I x6,I x7,I x8,I x9]=
 bif decide (x6>x3)then
 TI x7 x4 x8 x5 x9 x2 x1 (I x9)
 else
 bif decide (x6<x3)then
 TI x7 x4 x8 x5 x9 x2 x1 (I (wrap .i64 (0-x9)))
 else
 TI x7 x4 x8 x5 x9 x2 x1 (I x0):=by kernel_rfl
def OV:=Q4h
theorem Z4v:Ai PG (YK):=Ao rfl trivial
theorem Zbj:Aj PG (94,Ac XO Qku OV):=rw1 (C:=YK) Z4v
def Ur:Sk:=⟨[TS.v true (cc 10),tf [CS.ptr 20000 0]],[(20000,62,[CS.own 20000 10]++cc 5)],[(20000,135,Ap)]⟩
def Qc5:Sk:=⟨[TS.tup []],[(20000,62,[CS.own 20000 10]++cc 5)],[(20000,135,Ap)]⟩
def Qr8 (M:Fn):Nat×Spec:=(92,Ac Ur Qc5 M)
def Qfx:Cfg:=cf []
def ZO:Fn:=Am PG Qfx 64 92 Ur Qc5
theorem Q8h (x0:Rw) (x1 x2 x3 x4 x5 x6 x7 x8 x9 x10 x11 x12 x13 x14 x15:Int):ZO [.view Ap x0,I x1,I x2,I x3,I x4,I x5,I x6,I x7,I x8,I x9,I x10,I x11,I x12,I x13,I x14,I x15]=
 bif decide ((x0.length:Int)>0)then
 bif x4 !=0 then
 bif decide (0<=wrap .i64 ((x0.length:Int)-1))&&decide (wrap .i64 ((x0.length:Int)-1)<(x0.length:Int))then
 bif gA (nth [] x0 (wrap .i64 ((x0.length:Int)-1)).toNat) 3==x4 then
 bif decide (0<=wrap .i64 ((x0.length:Int)-1))&&decide (wrap .i64 ((x0.length:Int)-1)<(x0.length:Int))then
 bif gA (nth [] x0 (wrap .i64 ((x0.length:Int)-1)).toNat) 7==x8&&(gA (nth [] x0 (wrap .i64 ((x0.length:Int)-1)).toNat) 8==x9&&(gA (nth [] x0 (wrap .i64 ((x0.length:Int)-1)).toNat) 9==x10&&true))then
 bif decide (0<=wrap .i64 ((x0.length:Int)-1))&&decide (wrap .i64 ((x0.length:Int)-1)<(x0.length:Int))then
 bif decide (0<=wrap .i64 ((x0.length:Int)-1))&&decide (wrap .i64 ((x0.length:Int)-1)<(x0.length:Int))then
 some [.view Ap (x0.set (wrap .i64 ((x0.length:Int)-1)).toNat [jA (nth [] x0 (wrap .i64 ((x0.length:Int)-1)).toNat) 0,I (wrap .i64 (gA (nth [] x0 (wrap .i64 ((x0.length:Int)-1)).toNat) 1+x2)),jA (nth [] x0 (wrap .i64 ((x0.length:Int)-1)).toNat) 2,jA (nth [] x0 (wrap .i64 ((x0.length:Int)-1)).toNat) 3,jA (nth [] x0 (wrap .i64 ((x0.length:Int)-1)).toNat) 4,jA (nth [] x0 (wrap .i64 ((x0.length:Int)-1)).toNat) 5,jA (nth [] x0 (wrap .i64 ((x0.length:Int)-1)).toNat) 6,jA (nth [] x0 (wrap .i64 ((x0.length:Int)-1)).toNat) 7,jA (nth [] x0 (wrap .i64 ((x0.length:Int)-1)).toNat) 8,jA (nth [] x0 (wrap .i64 ((x0.length:Int)-1)).toNat) 9]),I (wrap .i64 (x11+x2)),I x12,I x13,I x14,I x15]
 else
 none
 else
 none
 else
 bif((x0++[[I x11,I x2,I x3,I x4,I x5,I x6,I x7,I x8,I x9,I x10]]).length*80).ble 140737488355328 then
 some [.view Ap (x0++[[I x11,I x2,I x3,I x4,I x5,I x6,I x7,I x8,I x9,I x10]]),I (wrap .i64 (x11+x2)),I x12,I x13,I x14,I x15]
 else
 none
 else
 none
 else
 bif((x0++[[I x11,I x2,I x3,I x4,I x5,I x6,I x7,I x8,I x9,I x10]]).length*80).ble 140737488355328 then
 some [.view Ap (x0++[[I x11,I x2,I x3,I x4,I x5,I x6,I x7,I x8,I x9,I x10]]),I (wrap .i64 (x11+x2)),I x12,I x13,I x14,I x15]
 else
 none
 else
 none
 else
 bif((x0++[[I x11,I x2,I x3,I x4,I x5,I x6,I x7,I x8,I x9,I x10]]).length*80).ble 140737488355328 then
 some [.view Ap (x0++[[I x11,I x2,I x3,I x4,I x5,I x6,I x7,I x8,I x9,I x10]]),I (wrap .i64 (x11+x2)),I x12,I x13,I x14,I x15]
 else
 none
 else
 bif((x0++[[I x11,I x2,I x3,I x4,I x5,I x6,I x7,I x8,I x9,I x10]]).length*80).ble 140737488355328 then
 some [.view Ap (x0++[[I x11,I x2,I x3,I x4,I x5,I x6,I x7,I x8,I x9,I x10]]),I (wrap .i64 (x11+x2)),I x12,I x13,I x14,I x15]
 else
 none:=by kernel_rfl
def Li:=ZO
theorem Zh7:Ai PG (Qfx):=Ao rfl trivial
theorem Q7e:Aj PG (92,Ac Ur Qc5 Li):=rw1 (C:=Qfx) Zh7
def Qm6:Sk:=⟨[TS.v true [ci,ci,ci],TS.v true [ci,ci,ci],tf [ci],tf [ci],tf [CS.ptr 20000 0],tf [CS.ptr 20001 0],tf [CS.ptr 20002 0],tf [CS.ptr 20003 0]],[(20000,44,[ci,ci,ci]),(20001,3,[ci]),(20002,27,cc 9++[CS.sl Aa]++cc 9++[CS.sl Aa]++cc 9++[CS.sl Aa]),(20003,153,[CS.clo 92 [] [(20004,0)]]),(20004,62,[CS.own 20000 10]++cc 5)],[(20000,135,Ap)]⟩
def Qfh:Sk:=⟨[TS.tup []],[(20000,44,[ci,ci,ci]),(20001,3,[ci]),(20002,27,cc 9++[CS.sl Aa]++cc 9++[CS.sl Aa]++cc 9++[CS.sl Aa]),(20003,153,[CS.clo 92 [] [(20004,0)]]),(20004,62,[CS.own 20000 10]++cc 5)],[(20000,135,Ap)]⟩
def Qy1 (M:Fn):Nat×Spec:=(93,Ac Qm6 Qfh M)
def Qmo (OL NG Fs:Fn):Cfg:=cp [Z4x OL,Zxs NG,Qr8 Fs] [92]
def Yn (OL NG Fs:Fn):Fn:=Am PG (Qmo OL NG Fs) 64 93 Qm6 Qfh
theorem Z4n (OL NG Fs:Fn) (x0:Rw) (x1 x2 x3 x4 x5 x6 x7 x8 x9 x10 x11 x12 x13 x14 x15 x16 x17 x18 x19 x20 x21:Int) (x22:Rw) (x23 x24 x25 x26 x27 x28 x29 x30 x31:Int) (x32:Rw) (x33 x34 x35 x36 x37 x38 x39 x40 x41:Int) (x42:Rw) (x43 x44 x45 x46 x47:Int):Yn OL NG Fs [.view Ap x0,I x1,I x2,I x3,I x4,I x5,I x6,I x7,I x8,I x9,I x10,I x11,I x12,I x13,I x14,I x15,I x16,I x17,I x18,I x19,I x20,I x21, .view Aa x22,I x23,I x24,I x25,I x26,I x27,I x28,I x29,I x30,I x31, .view Aa x32,I x33,I x34,I x35,I x36,I x37,I x38,I x39,I x40,I x41, .view Aa x42,I x43,I x44,I x45,I x46,I x47]=
 (NG [I x9,I x10,I x11,I x1,I x2,I x3,I x4,I x5,I x6,I x12]).bind fun o5=>
 (OL [I x13,I x14,I x15,I x16,I x17,I x18,I x19,I x20,I x21, .view Aa x22,I x23,I x24,I x25,I x26,I x27,I x28,I x29,I x30,I x31, .view Aa x32,I x33,I x34,I x35,I x36,I x37,I x38,I x39,I x40,I x41, .view Aa x42,I x9,I x10,I x11,jA o5 0,jA o5 1,jA o5 2]).bind fun o6=>
 bif decide (gA o6 0>0)then
 (Fs [.view Ap x0,I 0,jA o6 0,I x7,I 0,I x9,I x10,I x11,jA o5 0,jA o5 1,jA o5 2,I x43,I x44,I x45,I x46,I x47]).bind fun o7=>
 (Fs [.view Ap (wA o7 0),I 0,I x8,I x7,I x12,jA o5 0,jA o5 1,jA o5 2,jA o5 0,jA o5 1,jA o5 2,jA o7 1,jA o7 2,jA o7 3,jA o7 4,jA o7 5]).bind fun o8=>
 some [.view Ap (wA o8 0),jA o5 0,jA o5 1,jA o5 2,I x12,I x13,I x14,I x15,I x16,I x17,I x18,I x19,I x20,I x21, .view Aa x22,I x23,I x24,I x25,I x26,I x27,I x28,I x29,I x30,I x31, .view Aa x32,I x33,I x34,I x35,I x36,I x37,I x38,I x39,I x40,I x41, .view Aa x42,jA o8 1,jA o8 2,jA o8 3,jA o8 4,jA o8 5]
 else
 (Fs [.view Ap x0,I 0,I x8,I x7,I x12,jA o5 0,jA o5 1,jA o5 2,jA o5 0,jA o5 1,jA o5 2,I x43,I x44,I x45,I x46,I x47]).bind fun o9=>
 some [.view Ap (wA o9 0),jA o5 0,jA o5 1,jA o5 2,I x12,I x13,I x14,I x15,I x16,I x17,I x18,I x19,I x20,I x21, .view Aa x22,I x23,I x24,I x25,I x26,I x27,I x28,I x29,I x30,I x31, .view Aa x32,I x33,I x34,I x35,I x36,I x37,I x38,I x39,I x40,I x41, .view Aa x42,jA o9 1,jA o9 2,jA o9 3,jA o9 4,jA o9 5]:=by kernel_rfl
def Fm:=Yn Oz OV Li
theorem Zyw:Ai PG (Qmo Oz OV Li):=Ao rfl ⟨Zno,Zbj,Q7e,trivial⟩
theorem Qzr:Aj PG (93,Ac Qm6 Qfh Fm):=rw1 (C:=(Qmo Oz OV Li)) Zyw
def Qm2:Sk:=⟨[TS.v true [ci,ci,ci,CS.sl Ag,CS.sl kPt],tf [ci],tf [ci],tf [ci],tf [CS.clo 93 [] [(20000,0),(20001,0),(20002,0),(20003,0)]]],[(20000,44,[ci,ci,ci]),(20001,3,[ci]),(20002,27,cc 9++[CS.sl Aa]++cc 9++[CS.sl Aa]++cc 9++[CS.sl Aa]),(20003,153,[CS.clo 92 [] [(20004,0)]]),(20004,62,[CS.own 20000 10]++cc 5)],[(20000,135,Ap)]⟩
def Qdw:Sk:=⟨[TS.tup []],[(20000,44,[ci,ci,ci]),(20001,3,[ci]),(20002,27,cc 9++[CS.sl Aa]++cc 9++[CS.sl Aa]++cc 9++[CS.sl Aa]),(20003,153,[CS.clo 92 [] [(20004,0)]]),(20004,62,[CS.own 20000 10]++cc 5)],[(20000,135,Ap)]⟩
def Zzl (M:Fn):Nat×Spec:=(96,Ac Qm2 Qdw M)
def Qll (BF:Fn):Cfg:={cp [Qy1 BF] [93]with prom:=fun b=>bif Nat.beq b 4 then [(11,3)]else []}
def Q33:Sk:=⟨[td,tf [ci],tf [ci],tf [ci],tf [CS.clo 93 [] [(20000,0),(20001,0),(20002,0),(20003,0)]],tf [CS.ptr 5 0],td,td,td,td,tf [ci],tf [CS.own 11 1]]++dd 9++[tf [CS.sl Ag],tf [ci],tf [ci]]++dd 78,[(5,58,[ci,ci,ci,CS.sl Ag,CS.sl kPt]),(20000,44,[ci,ci,ci]),(20001,3,[ci]),(20002,27,cc 9++[CS.sl Aa]++cc 9++[CS.sl Aa]++cc 9++[CS.sl Aa]),(20003,153,[CS.clo 92 [] [(20004,0)]]),(20004,62,[CS.own 20000 10]++cc 5)],[(11,3,Aa),(20000,135,Ap)]⟩
def Qwc:List (Ex×Sk):=[(Ex.exit 0,⟨[td,tf [ci],tf [ci],tf [ci],tf [CS.clo 93 [] [(20000,0),(20001,0),(20002,0),(20003,0)]],tf [CS.ptr 5 0],td,td,td,td,td,tf [CS.own 11 1]]++dd 90,[(5,58,[ci,ci,ci,CS.sl Ag,CS.sl kPt]),(20000,44,[ci,ci,ci]),(20001,3,[ci]),(20002,27,cc 9++[CS.sl Aa]++cc 9++[CS.sl Aa]++cc 9++[CS.sl Aa]),(20003,153,[CS.clo 92 [] [(20004,0)]]),(20004,62,[CS.own 20000 10]++cc 5)],[(11,3,Aa),(20000,135,Ap)]⟩)]
def Ss (BF:Fn):Lp:=AT PG (Qll BF) 64 4 (AU PG 96 4) Q33 Qwc
def Zab (BF:Fn) (N4:Lp):Cfg:=(Qll BF).loop 4 Q33 Qwc N4
def Q9f:Sk:=⟨[td,tf [ci],tf [ci],tf [ci],tf [CS.clo 93 [] [(20000,0),(20001,0),(20002,0),(20003,0)]],tf [CS.ptr 5 0],td,td,td,td,td,tf [CS.own 11 1]]++dd 26++[tf [ci],tf [ci]]++dd 62,[(5,58,[ci,ci,ci,CS.sl Ag,CS.sl kPt]),(20000,44,[ci,ci,ci]),(20001,3,[ci]),(20002,27,cc 9++[CS.sl Aa]++cc 9++[CS.sl Aa]++cc 9++[CS.sl Aa]),(20003,153,[CS.clo 92 [] [(20004,0)]]),(20004,62,[CS.own 20000 10]++cc 5)],[(11,3,Aa),(20000,135,Ap)]⟩
def Zac:List (Ex×Sk):=[(Ex.exit 2,⟨[td]++dd 101,[(20000,44,[ci,ci,ci]),(20001,3,[ci]),(20002,27,cc 9++[CS.sl Aa]++cc 9++[CS.sl Aa]++cc 9++[CS.sl Aa]),(20003,153,[CS.clo 92 [] [(20004,0)]]),(20004,62,[CS.own 20000 10]++cc 5)],[(20000,135,Ap)]⟩)]
def Uk (BF:Fn) (N4:Lp):Lp:=AT PG (Zab BF N4) 64 10 (AU PG 96 10) Q9f Zac
def Q3w (BF:Fn) (N4 N10:Lp):Cfg:=(Zab BF N4).loop 10 Q9f Zac N10
def Qdj (BF:Fn) (N4 N10:Lp):Fn:=Am PG (Q3w BF N4 N10) 64 96 Qm2 Qdw
theorem Q1l (BF:Fn) (v0 v1:Rw) (v2 v3 v4 v5:Int) (v6:Rw) (v7 v8 v9 v10 v11:Int) (v12 v13:Rw) (v14 v15 v16 v17 v18 v19 v20 v21 v22 v23 v24 v25 v26:Int) (v27:Rw) (v28 v29 v30 v31 v32 v33 v34 v35 v36:Int) (v37:Rw) (v38 v39 v40 v41 v42 v43 v44 v45 v46:Int) (v47:Rw) (v48 v49 v50 v51 v52:Int):Ss BF [.view Aa v0, .view Ap v1,I v2,I v3,I v4,I v5, .view Ag v6,I v7,I v8,I v9,I v10,I v11, .view Ag v12, .view kPt v13,I v14,I v15,I v16,I v17,I v18,I v19,I v20,I v21,I v22,I v23,I v24,I v25,I v26, .view Aa v27,I v28,I v29,I v30,I v31,I v32,I v33,I v34,I v35,I v36, .view Aa v37,I v38,I v39,I v40,I v41,I v42,I v43,I v44,I v45,I v46, .view Aa v47,I v48,I v49,I v50,I v51,I v52]=
 bif decide (v8<v7)then
 bif decide (0<=v8)&&decide (v8<(v6.length:Int))then
 bif((v0++[[I v5]]).length*8).ble 140737488355328 then
 some (0,[.view Aa (v0++[[I v5]]), .view Ap v1,I v2,I v3,I v4,I (wrap .i64 (v5+gA (nth [] v6 v8.toNat) 3)), .view Ag v6,I v7,I (wrap .i64 (v8+1)),I v9,I v10,I v11, .view Ag v12, .view kPt v13,I v14,I v15,I v16,I v17,I v18,I v19,I v20,I v21,I v22,I v23,I v24,I v25,I v26, .view Aa v27,I v28,I v29,I v30,I v31,I v32,I v33,I v34,I v35,I v36, .view Aa v37,I v38,I v39,I v40,I v41,I v42,I v43,I v44,I v45,I v46, .view Aa v47,I v48,I v49,I v50,I v51,I v52])
 else
 none
 else
 none
 else
 some (1,[.view Aa v0, .view Ap v1,I v2,I v3,I v4,I v9,I v10,I v11, .view Ag v12, .view kPt v13,I v14,I v15,I v16,I v17,I v18,I v19,I v20,I v21,I v22,I v23,I v24,I v25,I v26, .view Aa v27,I v28,I v29,I v30,I v31,I v32,I v33,I v34,I v35,I v36, .view Aa v37,I v38,I v39,I v40,I v41,I v42,I v43,I v44,I v45,I v46, .view Aa v47,I v48,I v49,I v50,I v51,I v52]):=by kernel_rfl
abbrev PC (h1_1:Bool) (BF:Fn) (v1:Rw) (h1_8 h1_9 h1_10 h1_12:AC) (v12 v13 v14 v15 v16 v17 v18 v19 v20 v21 v22 v23 v24:Int) (v25:Rw) (v26 v27 v28 v29 v30 v31 v32 v33 v34:Int) (v35:Rw) (v36 v37 v38 v39 v40 v41 v42 v43 v44:Int) (v45:Rw) (v46 v47 v48 v49 v50:Int) (v0:Rw) (v2 v3 v4 v5 v6 v7 v8 v9:Int) (v10 v11:Rw) (h2_0 h2_1 h2_2 h2_3:AC):Option (Nat×List AC):=
 bif h1_1 then
 (BF [.view Ap v1,h2_0,h2_1,h2_2,h1_8,h1_9,h1_10,h2_3,h1_12,I v12,I v13,I v14,I v15,I v16,I v17,I v18,I v19,I v20,I v21,I v22,I v23,I v24, .view Aa v25,I v26,I v27,I v28,I v29,I v30,I v31,I v32,I v33,I v34, .view Aa v35,I v36,I v37,I v38,I v39,I v40,I v41,I v42,I v43,I v44, .view Aa v45,I v46,I v47,I v48,I v49,I v50]).bind fun o11=>
 some (0,[.view Aa v0, .view Ap (wA o11 0),I v2,I v3,I v4,I v5,I (wrap .i64 (v6+1)),I v7,I v8,I v9, .view Ag v10, .view kPt v11,jA o11 1,jA o11 2,jA o11 3,jA o11 4,jA o11 5,jA o11 6,jA o11 7,jA o11 8,jA o11 9,jA o11 10,jA o11 11,jA o11 12,jA o11 13, .view Aa (wA o11 14),jA o11 15,jA o11 16,jA o11 17,jA o11 18,jA o11 19,jA o11 20,jA o11 21,jA o11 22,jA o11 23, .view Aa (wA o11 24),jA o11 25,jA o11 26,jA o11 27,jA o11 28,jA o11 29,jA o11 30,jA o11 31,jA o11 32,jA o11 33, .view Aa (wA o11 34),jA o11 35,jA o11 36,jA o11 37,jA o11 38,jA o11 39])
 else
 none
attribute [go_sem] PC
abbrev Qca (v0 v1:Rw) (v2 v3 v4 v5 v6 v7 v8 v9:Int) (v10 v11:Rw) (v12 v13 v14 v15 v16 v17 v18 v19 v20 v21 v22 v23 v24:Int) (v25:Rw) (v26 v27 v28 v29 v30 v31 v32 v33 v34:Int) (v35:Rw) (v36 v37 v38 v39 v40 v41 v42 v43 v44:Int) (v45:Rw) (v46 v47 v48 v49 v50:Int) (BF:Fn) (h1_0 h1_1 h1_2 h1_3 h1_4:Bool) (h1_5 h1_6 h1_7 h1_8 h1_9 h1_10 h1_11 h1_12 h1_13:AC):Option (Nat×List AC):=
 bif h1_0 then
 bif h1_0 then
 bif h1_1 then
 bif h1_2 then
 some (0,[.view Aa v0, .view Ap v1,I v2,I v3,I v4,I v5,I (wrap .i64 (v6+1)),I v7,I v8,I v9, .view Ag v10, .view kPt v11,I v12,I v13,I v14,I v15,I v16,I v17,I v18,I v19,I v20,I v21,I v22,I v23,I v24, .view Aa v25,I v26,I v27,I v28,I v29,I v30,I v31,I v32,I v33,I v34, .view Aa v35,I v36,I v37,I v38,I v39,I v40,I v41,I v42,I v43,I v44, .view Aa v45,I v46,I v47,I v48,I v49,I v50])
 else
 bif h1_3 then
 bif h1_4 then
 bif decide (v4<0)then
 PC h1_1 BF v1 h1_8 h1_9 h1_10 h1_12 v12 v13 v14 v15 v16 v17 v18 v19 v20 v21 v22 v23 v24 v25 v26 v27 v28 v29 v30 v31 v32 v33 v34 v35 v36 v37 v38 v39 v40 v41 v42 v43 v44 v45 v46 v47 v48 v49 v50 v0 v2 v3 v4 v5 v6 v7 v8 v9 v10 v11 h1_5 h1_6 h1_7 h1_11
 else
 PC h1_1 BF v1 h1_8 h1_9 h1_10 h1_12 v12 v13 v14 v15 v16 v17 v18 v19 v20 v21 v22 v23 v24 v25 v26 v27 v28 v29 v30 v31 v32 v33 v34 v35 v36 v37 v38 v39 v40 v41 v42 v43 v44 v45 v46 v47 v48 v49 v50 v0 v2 v3 v4 v5 v6 v7 v8 v9 v10 v11 h1_5 h1_6 h1_7 h1_13
 else
 none
 else
 bif decide (v4<0)then
 PC h1_1 BF v1 h1_8 h1_9 h1_10 h1_12 v12 v13 v14 v15 v16 v17 v18 v19 v20 v21 v22 v23 v24 v25 v26 v27 v28 v29 v30 v31 v32 v33 v34 v35 v36 v37 v38 v39 v40 v41 v42 v43 v44 v45 v46 v47 v48 v49 v50 v0 v2 v3 v4 v5 v6 v7 v8 v9 v10 v11 (I v7) (I v8) (I v9) h1_11
 else
 PC h1_1 BF v1 h1_8 h1_9 h1_10 h1_12 v12 v13 v14 v15 v16 v17 v18 v19 v20 v21 v22 v23 v24 v25 v26 v27 v28 v29 v30 v31 v32 v33 v34 v35 v36 v37 v38 v39 v40 v41 v42 v43 v44 v45 v46 v47 v48 v49 v50 v0 v2 v3 v4 v5 v6 v7 v8 v9 v10 v11 (I v7) (I v8) (I v9) h1_13
 else
 none
 else
 none
 else
 none
attribute [go_sem] Qca
theorem Q1e (BF:Fn) (N4:Lp) (v0 v1:Rw) (v2 v3 v4 v5 v6 v7 v8 v9:Int) (v10 v11:Rw) (v12 v13 v14 v15 v16 v17 v18 v19 v20 v21 v22 v23 v24:Int) (v25:Rw) (v26 v27 v28 v29 v30 v31 v32 v33 v34:Int) (v35:Rw) (v36 v37 v38 v39 v40 v41 v42 v43 v44:Int) (v45:Rw) (v46 v47 v48 v49 v50:Int):Uk BF N4 [.view Aa v0, .view Ap v1,I v2,I v3,I v4,I v5,I v6,I v7,I v8,I v9, .view Ag v10, .view kPt v11,I v12,I v13,I v14,I v15,I v16,I v17,I v18,I v19,I v20,I v21,I v22,I v23,I v24, .view Aa v25,I v26,I v27,I v28,I v29,I v30,I v31,I v32,I v33,I v34, .view Aa v35,I v36,I v37,I v38,I v39,I v40,I v41,I v42,I v43,I v44, .view Aa v45,I v46,I v47,I v48,I v49,I v50]=
 bif decide (v6<v5)then
 bif decide (v4<0)then
 Qca v0 v1 v2 v3 v4 v5 v6 v7 v8 v9 v10 v11 v12 v13 v14 v15 v16 v17 v18 v19 v20 v21 v22 v23 v24 v25 v26 v27 v28 v29 v30 v31 v32 v33 v34 v35 v36 v37 v38 v39 v40 v41 v42 v43 v44 v45 v46 v47 v48 v49 v50 BF (decide (0<=wrap .i64 (wrap .i64 ((v10.length:Int)-1)-v6))&&decide (wrap .i64 (wrap .i64 ((v10.length:Int)-1)-v6)<(v0.length:Int))) (decide (0<=wrap .i64 (wrap .i64 ((v10.length:Int)-1)-v6))&&decide (wrap .i64 (wrap .i64 ((v10.length:Int)-1)-v6)<(v10.length:Int))) (decide (mx (Af (nth .dead (nth [] v0 (wrap .i64 (wrap .i64 ((v10.length:Int)-1)-v6)).toNat) 0)) v2>=mn (wrap .i64 (Af (nth .dead (nth [] v0 (wrap .i64 (wrap .i64 ((v10.length:Int)-1)-v6)).toNat) 0)+Af (nth .dead (nth [] v10 (wrap .i64 (wrap .i64 ((v10.length:Int)-1)-v6)).toNat) 3))) v3)) (decide (wrap .i64 (wrap .i64 ((v10.length:Int)-1)-v6)>0)) (decide (0<=wrap .i64 (wrap .i64 (wrap .i64 ((v10.length:Int)-1)-v6)-1))&&decide (wrap .i64 (wrap .i64 (wrap .i64 ((v10.length:Int)-1)-v6)-1)<(v10.length:Int))) (I (Af (nth .dead (nth [] v10 (wrap .i64 (wrap .i64 (wrap .i64 ((v10.length:Int)-1)-v6)-1)).toNat) 0))) (I (Af (nth .dead (nth [] v10 (wrap .i64 (wrap .i64 (wrap .i64 ((v10.length:Int)-1)-v6)-1)).toNat) 1))) (I (Af (nth .dead (nth [] v10 (wrap .i64 (wrap .i64 (wrap .i64 ((v10.length:Int)-1)-v6)-1)).toNat) 2))) (I (Af (nth .dead (nth [] v10 (wrap .i64 (wrap .i64 ((v10.length:Int)-1)-v6)).toNat) 0))) (I (Af (nth .dead (nth [] v10 (wrap .i64 (wrap .i64 ((v10.length:Int)-1)-v6)).toNat) 1))) (I (Af (nth .dead (nth [] v10 (wrap .i64 (wrap .i64 ((v10.length:Int)-1)-v6)).toNat) 2))) (I (mn (wrap .i64 (Af (nth .dead (nth [] v0 (wrap .i64 (wrap .i64 ((v10.length:Int)-1)-v6)).toNat) 0)+Af (nth .dead (nth [] v10 (wrap .i64 (wrap .i64 ((v10.length:Int)-1)-v6)).toNat) 3))) v3)) (I (wrap .i64 (mn (wrap .i64 (Af (nth .dead (nth [] v0 (wrap .i64 (wrap .i64 ((v10.length:Int)-1)-v6)).toNat) 0)+Af (nth .dead (nth [] v10 (wrap .i64 (wrap .i64 ((v10.length:Int)-1)-v6)).toNat) 3))) v3-mx (Af (nth .dead (nth [] v0 (wrap .i64 (wrap .i64 ((v10.length:Int)-1)-v6)).toNat) 0)) v2))) (I (mx (Af (nth .dead (nth [] v0 (wrap .i64 (wrap .i64 ((v10.length:Int)-1)-v6)).toNat) 0)) v2))
 else
 Qca v0 v1 v2 v3 v4 v5 v6 v7 v8 v9 v10 v11 v12 v13 v14 v15 v16 v17 v18 v19 v20 v21 v22 v23 v24 v25 v26 v27 v28 v29 v30 v31 v32 v33 v34 v35 v36 v37 v38 v39 v40 v41 v42 v43 v44 v45 v46 v47 v48 v49 v50 BF (decide (0<=v6)&&decide (v6<(v0.length:Int))) (decide (0<=v6)&&decide (v6<(v10.length:Int))) (decide (mx (gA (nth [] v0 v6.toNat) 0) v2>=mn (wrap .i64 (gA (nth [] v0 v6.toNat) 0+gA (nth [] v10 v6.toNat) 3)) v3)) (decide (v6>0)) (decide (0<=wrap .i64 (v6-1))&&decide (wrap .i64 (v6-1)<(v10.length:Int))) (jA (nth [] v10 (wrap .i64 (v6-1)).toNat) 0) (jA (nth [] v10 (wrap .i64 (v6-1)).toNat) 1) (jA (nth [] v10 (wrap .i64 (v6-1)).toNat) 2) (jA (nth [] v10 v6.toNat) 0) (jA (nth [] v10 v6.toNat) 1) (jA (nth [] v10 v6.toNat) 2) (I (mn (wrap .i64 (gA (nth [] v0 v6.toNat) 0+gA (nth [] v10 v6.toNat) 3)) v3)) (I (wrap .i64 (mn (wrap .i64 (gA (nth [] v0 v6.toNat) 0+gA (nth [] v10 v6.toNat) 3)) v3-mx (gA (nth [] v0 v6.toNat) 0) v2))) (I (mx (gA (nth [] v0 v6.toNat) 0) v2))
 else
 some (1,[.view Ap v1,I v12,I v13,I v14,I v15,I v16,I v17,I v18,I v19,I v20,I v21,I v22,I v23,I v24, .view Aa v25,I v26,I v27,I v28,I v29,I v30,I v31,I v32,I v33,I v34, .view Aa v35,I v36,I v37,I v38,I v39,I v40,I v41,I v42,I v43,I v44, .view Aa v45,I v46,I v47,I v48,I v49,I v50]):=by kernel_rfl
theorem Zn2 (BF:Fn) (N4 N10:Lp) (x0:Rw) (x1 x2 x3:Int) (x4 x5:Rw) (x6 x7 x8 x9 x10 x11 x12 x13 x14 x15 x16 x17 x18 x19 x20 x21:Int) (x22:Rw) (x23 x24 x25 x26 x27 x28 x29 x30 x31:Int) (x32:Rw) (x33 x34 x35 x36 x37 x38 x39 x40 x41:Int) (x42:Rw) (x43 x44 x45 x46 x47:Int):Qdj BF N4 N10 [.view Ap x0,I x1,I x2,I x3, .view Ag x4, .view kPt x5,I x6,I x7,I x8,I x9,I x10,I x11,I x12,I x13,I x14,I x15,I x16,I x17,I x18,I x19,I x20,I x21, .view Aa x22,I x23,I x24,I x25,I x26,I x27,I x28,I x29,I x30,I x31, .view Aa x32,I x33,I x34,I x35,I x36,I x37,I x38,I x39,I x40,I x41, .view Aa x42,I x43,I x44,I x45,I x46,I x47]=
 (N4 [.view Aa [], .view Ap x0,I x6,I x7,I x8,I 0, .view Ag x4,I (x4.length:Int),I 0,I x1,I x2,I x3, .view Ag x4, .view kPt x5,I x9,I x10,I x11,I x12,I x13,I x14,I x15,I x16,I x17,I x18,I x19,I x20,I x21, .view Aa x22,I x23,I x24,I x25,I x26,I x27,I x28,I x29,I x30,I x31, .view Aa x32,I x33,I x34,I x35,I x36,I x37,I x38,I x39,I x40,I x41, .view Aa x42,I x43,I x44,I x45,I x46,I x47]).bind fun o19=>
 bif o19.1.beq 1 then
 (N10 [.view Aa (wA o19.2 0), .view Ap (wA o19.2 1),jA o19.2 2,jA o19.2 3,jA o19.2 4,I (↑(wA o19.2 8).length:Int),I 0,jA o19.2 5,jA o19.2 6,jA o19.2 7, .view Ag (wA o19.2 8), .view kPt (wA o19.2 9),jA o19.2 10,jA o19.2 11,jA o19.2 12,jA o19.2 13,jA o19.2 14,jA o19.2 15,jA o19.2 16,jA o19.2 17,jA o19.2 18,jA o19.2 19,jA o19.2 20,jA o19.2 21,jA o19.2 22, .view Aa (wA o19.2 23),jA o19.2 24,jA o19.2 25,jA o19.2 26,jA o19.2 27,jA o19.2 28,jA o19.2 29,jA o19.2 30,jA o19.2 31,jA o19.2 32, .view Aa (wA o19.2 33),jA o19.2 34,jA o19.2 35,jA o19.2 36,jA o19.2 37,jA o19.2 38,jA o19.2 39,jA o19.2 40,jA o19.2 41,jA o19.2 42, .view Aa (wA o19.2 43),jA o19.2 44,jA o19.2 45,jA o19.2 46,jA o19.2 47,jA o19.2 48]).bind fun o20=>
 bif o20.1.beq 1 then
 some [.view Ap (wA o20.2 0),jA o20.2 1,jA o20.2 2,jA o20.2 3,jA o20.2 4,jA o20.2 5,jA o20.2 6,jA o20.2 7,jA o20.2 8,jA o20.2 9,jA o20.2 10,jA o20.2 11,jA o20.2 12,jA o20.2 13, .view Aa (wA o20.2 14),jA o20.2 15,jA o20.2 16,jA o20.2 17,jA o20.2 18,jA o20.2 19,jA o20.2 20,jA o20.2 21,jA o20.2 22,jA o20.2 23, .view Aa (wA o20.2 24),jA o20.2 25,jA o20.2 26,jA o20.2 27,jA o20.2 28,jA o20.2 29,jA o20.2 30,jA o20.2 31,jA o20.2 32,jA o20.2 33, .view Aa (wA o20.2 34),jA o20.2 35,jA o20.2 36,jA o20.2 37,jA o20.2 38,jA o20.2 39]
 else
 none
 else
 none:=by kernel_rfl
def Mi:=An (Ss Fm)
def Qbb:=An (Uk Fm Mi)
def QG:=Qdj Fm Mi Qbb
theorem Qgz:Ai PG (Qll Fm):=Ao rfl ⟨Qzr,trivial⟩
theorem Z62:Aj PG (96,Ac Qm2 Qdw QG):=rw2 (C:=(Q3w Fm Mi Qbb)) (fl (fl fb Qgz) Qgz) Qgz
def Qep:Sk:=⟨[TS.v true [ci,ci,ci,CS.sl Ag,CS.sl kPt]],[],[]⟩
def Qde:Sk:=⟨[tf [ci]],[],[]⟩
def Qvr (M:Fn):Nat×Spec:=(91,Ac Qep Qde M)
def C_path_Length_0:Cfg:=cf []
def Qtn:Sk:=⟨[td,td,td,tf [ci],td,td,td,tf [CS.sl Ag],tf [ci],tf [ci]]++dd 9,[],[]⟩
def Q9i:List (Ex×Sk):=[(Ex.exit 0,⟨[td,td,td,tf [ci]]++dd 15,[],[]⟩)]
def Rd:Lp:=AT PG C_path_Length_0 64 3 (AU PG 91 3) Qtn Q9i
def Qvv (N3:Lp):Cfg:=C_path_Length_0.loop 3 Qtn Q9i N3
def Q1t (N3:Lp):Fn:=Am PG (Qvv N3) 64 91 Qep Qde
theorem Q47 (v0:Int) (v1:Rw) (v2 v3:Int):Rd [I v0, .view Ag v1,I v2,I v3]=
 bif decide (v3<v2)then
 bif decide (0<=v3)&&decide (v3<(v1.length:Int))then
 some (0,[I (wrap .i64 (v0+gA (nth [] v1 v3.toNat) 3)), .view Ag v1,I v2,I (wrap .i64 (v3+1))])
 else
 none
 else
 some (1,[I v0]):=by kernel_rfl
theorem Zf5 (N3:Lp) (x0 x1 x2:Int) (x3 x4:Rw):Q1t N3 [I x0,I x1,I x2, .view Ag x3, .view kPt x4]=
 (N3 [I 0, .view Ag x3,I (x3.length:Int),I 0]).bind fun o1=>
 bif o1.1.beq 1 then
 some [jA o1.2 0]
 else
 none:=by kernel_rfl
def T1:=An (Rd)
def Ja:=Q1t T1
theorem Qwl:Ai PG (C_path_Length_0):=Ao rfl trivial
theorem Q3q:Aj PG (91,Ac Qep Qde Ja):=rw2 (C:=(Qvv T1)) (fl fb Qwl) Qwl
def Yg:Sk:=⟨[TS.v true [ci,ci,ci,CS.sl Ag,CS.sl kPt],TS.v true (cc 9++[CS.sl Aa]++cc 9++[CS.sl Aa]++cc 9++[CS.sl Aa]),TS.v true [ci,ci,ci],tf [ci],tf [ci]],[],[]⟩
def Qe9:Sk:=⟨[TS.v true ([CS.sl Ap]++cc 5)],[],[]⟩
def Zg1 (M:Fn):Nat×Spec:=(58,Ac Yg Qe9 M)
def XT (Le BF Fs Dn FU:Fn):Cfg:=cp [Zzl Le,Qy1 BF,Qr8 Fs,UK Dn,Qvr FU] [96,93,92]
def Qcy (Le BF Fs Dn FU:Fn):Fn:=Am PG (XT Le BF Fs Dn FU) 64 58 Yg Qe9
theorem Zee (Le BF Fs Dn FU:Fn) (x0 x1 x2:Int) (x3 x4:Rw) (x5 x6 x7 x8 x9 x10 x11 x12 x13:Int) (x14:Rw) (x15 x16 x17 x18 x19 x20 x21 x22 x23:Int) (x24:Rw) (x25 x26 x27 x28 x29 x30 x31 x32 x33:Int) (x34:Rw) (x35 x36 x37 x38 x39:Int):Qcy Le BF Fs Dn FU [I x0,I x1,I x2, .view Ag x3, .view kPt x4,I x5,I x6,I x7,I x8,I x9,I x10,I x11,I x12,I x13, .view Aa x14,I x15,I x16,I x17,I x18,I x19,I x20,I x21,I x22,I x23, .view Aa x24,I x25,I x26,I x27,I x28,I x29,I x30,I x31,I x32,I x33, .view Aa x34,I x35,I x36,I x37,I x38,I x39]=
 (FU [I x0,I x1,I x2, .view Ag x3, .view kPt x4]).bind fun o5=>
 (Dn [I x38,jA o5 0]).bind fun o6=>
 (Dn [I x39,jA o5 0]).bind fun o7=>
 bif decide (gA o6 0>gA o7 0)then
 (Le [.view Ap [],I x0,I x1,I x2, .view Ag x3, .view kPt x4,I (mn (gA o6 0) (gA o7 0)),I (mx (gA o6 0) (gA o7 0)),I (-1),I x35,I x36,I x37,I (-1),I x5,I x6,I x7,I x8,I x9,I x10,I x11,I x12,I x13, .view Aa x14,I x15,I x16,I x17,I x18,I x19,I x20,I x21,I x22,I x23, .view Aa x24,I x25,I x26,I x27,I x28,I x29,I x30,I x31,I x32,I x33, .view Aa x34,I 0,jA o6 0,I x35,I x36,I x37]).bind fun o8=>
 some [.view Ap (wA o8 0),jA o8 35,jA o8 36,jA o8 37,jA o8 38,jA o8 39]
 else
 (Le [.view Ap [],I x0,I x1,I x2, .view Ag x3, .view kPt x4,I (mn (gA o6 0) (gA o7 0)),I (mx (gA o6 0) (gA o7 0)),I 1,I x35,I x36,I x37,I 1,I x5,I x6,I x7,I x8,I x9,I x10,I x11,I x12,I x13, .view Aa x14,I x15,I x16,I x17,I x18,I x19,I x20,I x21,I x22,I x23, .view Aa x24,I x25,I x26,I x27,I x28,I x29,I x30,I x31,I x32,I x33, .view Aa x34,I 0,jA o6 0,I x35,I x36,I x37]).bind fun o9=>
 some [.view Ap (wA o9 0),jA o9 35,jA o9 36,jA o9 37,jA o9 38,jA o9 39]:=by kernel_rfl
def Pn:=Qcy QG Fm Li He Ja
theorem Zfp:Ai PG (XT QG Fm Li He Ja):=Ao rfl ⟨Z62,Qzr,Q7e,Qht,Q3q,trivial⟩
theorem Zf4:Aj PG (58,Ac Yg Qe9 Pn):=rw1 (C:=(XT QG Fm Li He Ja)) Zfp
end Go.Bm
