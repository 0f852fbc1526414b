/- functions of the program and of the references, as models -/
import Derived.Test.YtommijghjlikkaaGreatSeShelf
import Derived.Test.YtommijghjlikkaaGreatSeExt
import Derived.Test.YtommijghjlikkaaGreatSePre
import Derived.Test.YtommijghjlikkaaGreatSeKc
import Derived.Test.YtommijghjlikkaaGreatBmTy
set_option linter.unusedSimpArgs false
set_option linter.unusedVariables false
set_option maxRecDepth 100000
noncomputable section
namespace Go.Bm
open Go.Proofs
def Qcr:Sk:=⟨[tf [CS.ptr 20000 0]],[(20000,119,cS)],[]⟩
def Uh:Sk:=⟨[TS.v true [ci,ci,CS.bool,CS.bool,CS.bool]],[(20000,119,cS)],[]⟩
def Zwu (M:Fn):Nat×Spec:=(40,Ac Qcr Uh M)
def Qnd:Cfg:=cf []
def Qxx:Fn:=Am PG Qnd 64 40 Qcr Uh
theorem Zqk (K:Kf) (c:Cv):Qxx (Ad K c)=
 some (I c.o0::I c.o1::B c.o2::B c.o3::B c.o4::Ad K c):=by kernel_rfl
def KJ:=Qxx
theorem Zx4:Ai PG (Qnd):=Ao rfl trivial
theorem Q9k:Al PG (40,Ac Qcr Uh KJ):=rw1 (C:=Qnd) Zx4
def Xi:Sk:=⟨[TS.v true [ci,ci,ci],tf [ci]],[],[]⟩
def Qaa:Sk:=⟨[tf [ci]],[],[]⟩
def Qvo (M:Fn):Nat×Spec:=(174,Ac Xi Qaa M)
def X7:Cfg:=cf []
def Sy:Fn:=Am PG X7 64 174 Xi Qaa
theorem Ua (x0 x1 x2 x3:Int):Sy [I x0,I x1,I x2,I x3]=
 bif decide (x3<=0)then
 some [I 0]
 else
 bif decide (x1<=0)then
 some [I 0]
 else
 bif decide (x1=0)then
 none
 else
 some [I (IntKind.i64.wrap (IntKind.i64.wrap (IntKind.i64.wrap ((IntKind.i64.wrap (x3-1)).tdiv x1)*x3)-IntKind.i64.wrap (x1*IntKind.i64.wrap ((IntKind.i64.wrap (IntKind.i64.wrap ((IntKind.i64.wrap (x3-1)).tdiv x1)*IntKind.i64.wrap (IntKind.i64.wrap ((IntKind.i64.wrap (x3-1)).tdiv x1)+1))).tdiv 2))))]:=by kernel_rfl
def G3:=Sy
theorem Zf5:Ai PG (X7):=Ao rfl trivial
theorem Qq5:Al PG (174,Ac Xi Qaa G3):=rw1 (C:=X7) Zf5
def YW:Sk:=⟨[TS.v true [ci,ci,ci]],[],[]⟩
def Ql4:Sk:=⟨[tf [CS.bool]],[],[]⟩
def Qal (M:Fn):Nat×Spec:=(87,Ac YW Ql4 M)
def Qn3:Cfg:=cf []
def Q1c:Fn:=Am PG Qn3 64 87 YW Ql4
theorem Zwf (x0 x1 x2:Int):Q1c [I x0,I x1,I x2]=
 bif decide (1<=x0)then
 bif decide (x0<=65536)then
 bif decide (2<=x1)then
 bif decide (x1<=65536)then
 bif decide (1<=x2)then
 some [B (decide (x2<=16777216))]
 else
 some [B false]
 else
 some [B false]
 else
 some [B false]
 else
 some [B false]
 else
 some [B false]:=by kernel_rfl
def E2:=Q1c
theorem Zrc:Ai PG (Qn3):=Ao rfl trivial
theorem Qmj:Al PG (87,Ac YW Ql4 E2):=rw1 (C:=Qn3) Zrc
def Qaj:Sk:=⟨[TS.v true [ci,ci,ci],tf [ci],tf [ci]],[],[]⟩
def Qb0:Sk:=⟨[tf [ci]],[],[]⟩
def Qlq (M:Fn):Nat×Spec:=(129,Ac Qaj Qb0 M)
def ZF (Dc BN:Fn):Cfg:=cf [Qvo Dc,Qal BN]
def Qqc:Sk:=⟨[td,tf [ci],td,tf [CS.ptr 3 0],td,td,td,tf [ci],tf [ci]]++dd 49,[(3,29,[ci,ci,ci])],[]⟩
def Q1k:List (Ex×Sk):=[(Ex.exit 0,⟨[td,td,td,td,td,td,td,tf [ci]]++dd 50,[],[]⟩)]
def Lf (Dc BN:Fn):Lp:=AN PG (ZF Dc BN) 64 4 (AO PG 129 4) Qqc Q1k
def Qx5 (Dc BN:Fn) (N4:Lp):Cfg:=(ZF Dc BN).loop 4 Qqc Q1k N4
def Th (Dc BN:Fn) (N4:Lp):Fn:=Am PG (Qx5 Dc BN N4) 64 129 Qaj Qb0
theorem Qhn (Dc BN:Fn) (v0 v1 v2 v3 v4 v5:Int):Lf Dc BN [I v0,I v1,I v2,I v3,I v4,I v5]=
 bif decide (v1<v2)then
 (Dc [I v3,I v4,I v5,I (IntKind.i64.wrap (v2-IntKind.i64.wrap ((IntKind.i64.wrap (v2-v1)).tdiv 2)))]).bind fun o4=>
 bif decide (IntKind.i64.wrap (v0-IntKind.i64.wrap (v2-IntKind.i64.wrap ((IntKind.i64.wrap (v2-v1)).tdiv 2)))>=gA o4 0)then
 some (0,[I v0,I (IntKind.i64.wrap (v2-IntKind.i64.wrap ((IntKind.i64.wrap (v2-v1)).tdiv 2))),I v2,I v3,I v4,I v5])
 else
 some (0,[I v0,I v1,I (IntKind.i64.wrap (IntKind.i64.wrap (v2-IntKind.i64.wrap ((IntKind.i64.wrap (v2-v1)).tdiv 2))-1)),I v3,I v4,I v5])
 else
 some (1,[I v1]):=by kernel_rfl
theorem Qrz (Dc BN:Fn) (N4:Lp) (x0 x1 x2 x3 x4:Int):Th Dc BN N4 [I x0,I x1,I x2,I x3,I x4]=
 (BN [I x0,I x1,I x2]).bind fun o5=>
 bif !bA o5 0 then
 some [I 0]
 else
 bif decide (mx x4 x3>1099511627776)then
 some [I 0]
 else
 bif decide (mn x4 x3< -1099511627776)then
 some [I 0]
 else
 (N4 [I x3,I (IntKind.i64.wrap (IntKind.i64.wrap (0-x4)-x1)),I (mn (IntKind.i64.wrap (x1-x4)) x0),I x0,I x1,I x2]).bind fun o6=>
 bif o6.1.beq 1 then
 some [I (IntKind.i64.wrap (0-gA o6.2 0))]
 else
 none:=by kernel_rfl
def Q62:=An (Lf G3 E2)
def Fm:=Th G3 E2 Q62
theorem Q2q:Ai PG (ZF G3 E2):=Ao rfl ⟨Qq5,Qmj,trivial⟩
theorem Wi:Al PG (129,Ac Qaj Qb0 Fm):=rw2 (C:=(Qx5 G3 E2 Q62)) (fl fb Q2q) Q2q
def Qow:Sk:=⟨[TS.v true [ci,ci,ci],tf [ci],tf [ci]],[],[]⟩
def Qhc:Sk:=⟨[tf [CS.bool]],[],[]⟩
def Q2h (M:Fn):Nat×Spec:=(128,Ac Qow Qhc M)
def W2 (Dc:Fn):Cfg:=cf [Qvo Dc]
def Ph (Dc:Fn):Fn:=Am PG (W2 Dc) 64 128 Qow Qhc
theorem Ze (Dc:Fn) (x0 x1 x2 x3 x4:Int):Ph Dc [I x0,I x1,I x2,I x3,I x4]=
 bif decide (x4<IntKind.i64.wrap (0-x0))then
 some [B false]
 else
 bif decide (x4>x0)then
 some [B false]
 else
 bif x3==0 then
 bif decide (x4>x1)then
 some [B false]
 else
 (Dc [I x0,I x1,I x2,I (IntKind.i64.wrap (0-x4))]).bind fun o4=>
 bif decide (x3>=gA o4 0)then
 (Dc [I x0,I x1,I x2,I x4]).bind fun o5=>
 some [B (decide (x3<=IntKind.i64.wrap (16777216-gA o5 0)))]
 else
 some [B false]
 else
 (Dc [I x0,I x1,I x2,I (IntKind.i64.wrap (0-x4))]).bind fun o6=>
 bif decide (x3>=gA o6 0)then
 (Dc [I x0,I x1,I x2,I x4]).bind fun o7=>
 some [B (decide (x3<=IntKind.i64.wrap (16777216-gA o7 0)))]
 else
 some [B false]:=by kernel_rfl
def GJ:=Ph G3
theorem Zdu:Ai PG (W2 G3):=Ao rfl ⟨Qq5,trivial⟩
theorem Qvp:Al PG (128,Ac Qow Qhc GJ):=rw1 (C:=(W2 G3)) Zdu
def Vp:Sk:=⟨[TS.v true [ci,ci,ci],tf [ci],tf [ci]],[],[]⟩
def YT:Sk:=⟨[TS.tup [(false,[CS.sl Aa]),(false,[CS.bool])]],[],[]⟩
def Zrp (M:Fn):Nat×Spec:=(82,Ac Vp YT M)
def Qjl (Bw CE BN:Fn):Cfg:={cf [Qlq Bw,Q2h CE,Qal BN]with prom:=fun b=>bif Nat.beq b 4 then [(8,3)]else []}
def Q5y:Sk:=⟨[td,tf [ci],tf [ci],tf [CS.ptr 3 0],td,td,td,td,tf [CS.own 8 1]]++dd 27,[(3,29,[ci,ci,ci])],[(8,3,Aa)]⟩
def Qux:List (Ex×Sk):=[(Ex.ret,⟨[td,td,td,td,td,td,tf [CS.nil],tf [CS.bool]]++dd 28,[],[]⟩),(Ex.exit 0,⟨[td,td,td,td,td,td,td,td,tf [CS.own 8 1]]++dd 27,[],[(8,3,Aa)]⟩)]
def HM (Bw CE BN:Fn):Lp:=AN PG (Qjl Bw CE BN) 64 4 (AO PG 82 4) Q5y Qux
def Qxj (Bw CE BN:Fn) (N4:Lp):Cfg:=(Qjl Bw CE BN).loop 4 Q5y Qux N4
def Qh (Bw CE BN:Fn) (N4:Lp):Fn:=Am PG (Qxj Bw CE BN N4) 64 82 Vp YT
theorem P7 (Bw CE BN:Fn) (v0:Rw) (v1 v2 v3 v4 v5:Int):HM Bw CE BN [.view Aa v0,I v1,I v2,I v3,I v4,I v5]=
 bif decide (v1>0)then
 bif(v0.length:Int)==4096 then
 some (1,[B false])
 else
 (Bw [I v3,I v4,I v5,I v1,I v2]).bind fun o9=>
 bif((v0++[[I (IntKind.i64.wrap (v1+gA o9 0))]]).length*8).ble 140737488355328 then
 some (0,[.view Aa (v0++[[I (IntKind.i64.wrap (v1+gA o9 0))]]),I (IntKind.i64.wrap (v1+gA o9 0)),jA o9 0,I v3,I v4,I v5])
 else
 none
 else
 some (2,[.view Aa v0]):=by kernel_rfl
theorem Qn9 (Bw CE BN:Fn) (N4:Lp) (x0 x1 x2 x3 x4:Int):Qh Bw CE BN N4 [I x0,I x1,I x2,I x3,I x4]=
 (BN [I x0,I x1,I x2]).bind fun o10=>
 bif !bA o10 0 then
 some [.view Aa [],B false]
 else
 (CE [I x0,I x1,I x2,I x3,I x4]).bind fun o11=>
 bif !bA o11 0 then
 some [.view Aa [],B false]
 else
 (N4 [.view Aa [],I x3,I x4,I x0,I x1,I x2]).bind fun o12=>
 bif o12.1.beq 1 then
 some [.view Aa [],B (bA o12.2 0)]
 else
 bif o12.1.beq 2 then
 some [.view Aa (wA o12.2 0),B true]
 else
 none:=by kernel_rfl
def Qwc:=An (HM Fm GJ E2)
def J8:=Qh Fm GJ E2 Qwc
theorem Q6d:Ai PG (Qjl Fm GJ E2):=Ao rfl ⟨Wi,Qvp,Qmj,trivial⟩
theorem Zng:Al PG (82,Ac Vp YT J8):=rw2 (C:=(Qxj Fm GJ E2 Qwc)) (fl fb Q6d) Q6d
def Qfg:Sk:=⟨[TS.v true [ci,ci,ci],TS.v true [ci,ci,ci,ci,ci,ci]],[],[]⟩
def ZR:Sk:=⟨[TS.tup [(false,[CS.sl Aa]),(false,[CS.bool])]],[],[]⟩
def SC (M:Fn):Nat×Spec:=(39,Ac Qfg ZR M)
def Ur (Gh:Fn):Cfg:=cf [Zrp Gh]
def Q67:Sk:=⟨[td,td,td,td,td,td,td,td,tf [CS.own 25 1],tf [ci],td,td,td,td,td,td,td,td,td,td,td,td,td,td,td,td,td,td,tf [CS.sl Aa],tf [ci],tf [ci]]++dd 13,[],[(25,3,Aa)]⟩
def Q0n:List (Ex×Sk):=[(Ex.exit 0,⟨[td,td,td,td,td,td,td,td,tf [CS.own 25 1]]++dd 35,[],[(25,3,Aa)]⟩)]
def Ht (Gh:Fn):Lp:=AN PG (Ur Gh) 64 7 (AO PG 39 7) Q67 Q0n
def Q37 (Gh:Fn) (N7:Lp):Cfg:=(Ur Gh).loop 7 Q67 Q0n N7
def L2 (Gh:Fn) (N7:Lp):Fn:=Am PG (Q37 Gh N7) 64 39 Qfg ZR
theorem Qc0 (Gh:Fn) (v0:Rw) (v1:Int) (v2:Rw) (v3 v4:Int):Ht Gh [.view Aa v0,I v1, .view Aa v2,I v3,I v4]=
 bif decide (v4<v3)then
 bif decide (0<=v4)&&decide (v4<(v2.length:Int))then
 bif decide (0<=v4)&&decide (v4<(v0.length:Int))then
 some (0,[.view Aa (v0.set v4.toNat [I (IntKind.i64.wrap (v1+gA (nth [] v2 v4.toNat) 0))]),I (IntKind.i64.wrap (v1+gA (nth [] v2 v4.toNat) 0)), .view Aa v2,I v3,I (IntKind.i64.wrap (v4+1))])
 else
 none
 else
 none
 else
 some (1,[.view Aa v0]):=by kernel_rfl
theorem R8 (Gh:Fn) (N7:Lp) (x0 x1 x2 x3 x4 x5 x6 x7 x8:Int):L2 Gh N7 [I x0,I x1,I x2,I x3,I x4,I x5,I x6,I x7,I x8]=
 (Gh [I x0,I x1,I x2,I x4,I x5]).bind fun o3=>
 bif !bA o3 1 then
 some [.view Aa [],B false]
 else
 bif decide ((↑(wA o3 0).length:Int)=(↑(wA o3 0).length:Int))then
 bif decide (0<=(↑(wA o3 0).length:Int))&&decide ((↑(wA o3 0).length:Int)*(↑8:Int)<=140737488355328)then
 (N7 [.view Aa (List.replicate (↑(wA o3 0).length:Int).toNat [I 0]),I x3, .view Aa (wA o3 0),I (↑(wA o3 0).length:Int),I 0]).bind fun o4=>
 bif o4.1.beq 1 then
 some [.view Aa (wA o4.2 0),B true]
 else
 none
 else
 none
 else
 none:=by kernel_rfl
def Qq7:=An (Ht J8)
def Do:=L2 J8 Qq7
theorem Qrs:Ai PG (Ur J8):=Ao rfl ⟨Zng,trivial⟩
theorem QO:Al PG (39,Ac Qfg ZR Do):=rw2 (C:=(Q37 J8 Qq7)) (fl fb Qrs) Qrs
def T6:Sk:=⟨[TS.v true [ci,ci,ci],TS.v true [ci,ci,ci,ci,ci,ci]],[],[]⟩
def UT:Sk:=⟨[TS.tup [(false,[ci]),(false,[CS.bool])]],[],[]⟩
def Wg (M:Fn):Nat×Spec:=(35,Ac T6 UT M)
def Qdr (A6:Fn):Cfg:=cf [SC A6]
def LJ (A6:Fn):Fn:=Am PG (Qdr A6) 64 35 T6 UT
theorem Sl (A6:Fn) (x0 x1 x2 x3 x4 x5 x6 x7 x8:Int):LJ A6 [I x0,I x1,I x2,I x3,I x4,I x5,I x6,I x7,I x8]=
 (A6 [I x0,I x1,I x2,I x3,I x4,I x5,I x6,I x7,I x8]).bind fun o1=>
 bif !bA o1 1 then
 some [I 0,B false]
 else
 bif(↑(wA o1 0).length:Int)==0 then
 some [I x3,B true]
 else
 bif decide (0<=IntKind.i64.wrap ((↑(wA o1 0).length:Int)-1))&&decide (IntKind.i64.wrap ((↑(wA o1 0).length:Int)-1)<(↑(wA o1 0).length:Int))then
 some [I (Af (nth .dead (nth [] (wA o1 0) (IntKind.i64.wrap ((↑(wA o1 0).length:Int)-1)).toNat) 0)),B true]
 else
 none:=by kernel_rfl
def DY:=LJ Do
theorem Q8v:Ai PG (Qdr Do):=Ao rfl ⟨QO,trivial⟩
theorem Vn:Al PG (35,Ac T6 UT DY):=rw1 (C:=(Qdr Do)) Q8v
def Xd:Sk:=⟨[tf [CS.ptr 20000 0]],[(20000,119,cS)],[]⟩
def Qdv:Sk:=⟨[TS.v true [ci,ci,ci,ci,ci,ci]],[(20000,119,cS)],[]⟩
def Zus (M:Fn):Nat×Spec:=(23,Ac Xd Qdv M)
def Qly:Cfg:=cf []
def Qxh:Fn:=Am PG Qly 64 23 Xd Qdv
theorem Zyb (K:Kf) (c:Cv):Qxh (Ad K c)=
 some (I c.m0::I c.m1::I c.m2::I c.m3::I c.m4::I c.m5::Ad K c):=by kernel_rfl
def Kw:=Qxh
theorem Zz2:Ai PG (Qly):=Ao rfl trivial
theorem Zy0:Al PG (23,Ac Xd Qdv Kw):=rw1 (C:=Qly) Zz2
def Qer:Sk:=⟨[tf [CS.ptr 20000 0]],[(20000,119,cS)],[]⟩
def XX:Sk:=⟨[TS.v true [ci,ci,ci]],[(20000,119,cS)],[]⟩
def Zsm (M:Fn):Nat×Spec:=(38,Ac Qer XX M)
def WF:Cfg:=cf []
def Qz4:Fn:=Am PG WF 64 38 Qer XX
theorem Zcm (K:Kf) (c:Cv):Qz4 (Ad K c)=
 some (I c.g0::I c.g1::I c.g2::Ad K c):=by kernel_rfl
def LV:=Qz4
theorem Zjd:Ai PG (WF):=Ao rfl trivial
theorem Zbd:Al PG (38,Ac Qer XX LV):=rw1 (C:=WF) Zjd
def Qam:Sk:=⟨[TS.v true [ci,ci,ci,ci,ci,ci,ci,ci,ci,CS.sl Aa],tf [ci]],[],[]⟩
def Us:Sk:=⟨[tf [ci]],[],[]⟩
def Qqb (M:Fn):Nat×Spec:=(77,Ac Qam Us M)
def Yr:Cfg:=cf []
def Q0l:Fn:=Am PG Yr 64 77 Qam Us
theorem Zje (x0 x1 x2 x3 x4 x5 x6 x7 x8:Int) (x9:Rw) (x10:Int):Q0l [I x0,I x1,I x2,I x3,I x4,I x5,I x6,I x7,I x8, .view Aa x9,I x10]=
 bif x10== -1 then
 some [I (IntKind.i64.wrap (0-x6))]
 else
 some [I 0]:=by kernel_rfl
def I7:=Q0l
theorem Zdf:Ai PG (Yr):=Ao rfl trivial
theorem Q1r:Al PG (77,Ac Qam Us I7):=rw1 (C:=Yr) Zdf
def Qa6:Sk:=⟨[TS.v true [ci,ci,ci,ci,ci,ci,ci,ci,ci,CS.sl Aa],TS.v true [ci,ci,ci,ci,ci,ci,ci,ci,ci,ci],tf [ci],tf [ci]],[],[]⟩
def Qlv:Sk:=⟨[tf [ci]],[],[]⟩
def Zkj (M:Fn):Nat×Spec:=(78,Ac Qa6 Qlv M)
def YP (BE:Fn):Cfg:=cf [Qqb BE]
def PV (BE:Fn):Fn:=Am PG (YP BE) 64 78 Qa6 Qlv
abbrev Sx (x21 x10 x6:Int) (h4_0:Bool):Option (List AC):=
 bif h4_0 then
 some [I (IntKind.i64.wrap (0-mn (IntKind.i64.wrap (x21-x10)) x6))]
 else
 some [I (IntKind.i64.wrap (mn (IntKind.i64.wrap (x21-x10)) x6-x6))]
attribute [go_sem] Sx
abbrev T5 (x20:Int) (BE:Fn) (x0 x1 x2 x3 x4 x5 x6 x7 x8:Int) (x9:Rw) (x17 x18 x19:Int):Option (List AC):=
 bif decide (x20=(↑0:Int))then
 (BE [I x0,I x1,I x2,I x3,I x4,I x5,I x6,I x7,I x8, .view Aa x9,I x17]).bind fun o30=>
 some [jA o30 0]
 else
 bif decide (x20=(↑(0+1):Int))then
 (BE [I x0,I x1,I x2,I x3,I x4,I x5,I x6,I x7,I x8, .view Aa x9,I x18]).bind fun o31=>
 some [jA o31 0]
 else
 bif decide (x20=(↑(0+1+1):Int))then
 (BE [I x0,I x1,I x2,I x3,I x4,I x5,I x6,I x7,I x8, .view Aa x9,I x19]).bind fun o32=>
 some [jA o32 0]
 else
 none
attribute [go_sem] T5
abbrev S3 (x20:Int) (BE:Fn) (x0 x1 x2 x3 x4 x5 x6 x7 x8:Int) (x9:Rw) (x17 x18 x19 x21 x10:Int) (h1_0:Bool):Option (List AC):=
 bif h1_0 then
 T5 x20 BE x0 x1 x2 x3 x4 x5 x6 x7 x8 x9 x17 x18 x19
 else
 bif decide (x20=(↑0:Int))then
 Sx x21 x10 x6 (x17== -1)
 else
 bif decide (x20=(↑(0+1):Int))then
 Sx x21 x10 x6 (x18== -1)
 else
 bif decide (x20=(↑(0+1+1):Int))then
 Sx x21 x10 x6 (x19== -1)
 else
 none
attribute [go_sem] S3
abbrev SG (x20:Int) (BE:Fn) (x0 x1 x2 x3 x4 x5 x6 x7 x8:Int) (x9:Rw) (x17 x18 x19 x21 x10:Int) (h2_0 h2_1 h2_2:Bool):Option (List AC):=
 bif decide (x20=(↑0:Int))then
 S3 x20 BE x0 x1 x2 x3 x4 x5 x6 x7 x8 x9 x17 x18 x19 x21 x10 h2_0
 else
 bif decide (x20=(↑(0+1):Int))then
 S3 x20 BE x0 x1 x2 x3 x4 x5 x6 x7 x8 x9 x17 x18 x19 x21 x10 h2_1
 else
 bif decide (x20=(↑(0+1+1):Int))then
 S3 x20 BE x0 x1 x2 x3 x4 x5 x6 x7 x8 x9 x17 x18 x19 x21 x10 h2_2
 else
 none
attribute [go_sem] SG
theorem ZS (BE:Fn) (x0 x1 x2 x3 x4 x5 x6 x7 x8:Int) (x9:Rw) (x10 x11 x12 x13 x14 x15 x16 x17 x18 x19 x20 x21:Int):PV BE [I x0,I x1,I x2,I x3,I x4,I x5,I x6,I x7,I x8, .view Aa x9,I x10,I x11,I x12,I x13,I x14,I x15,I x16,I x17,I x18,I x19,I x20,I x21]=
 bif x13 !=0 then
 T5 x20 BE x0 x1 x2 x3 x4 x5 x6 x7 x8 x9 x17 x18 x19
 else
 bif decide (x20=(↑0:Int))then
 SG x20 BE x0 x1 x2 x3 x4 x5 x6 x7 x8 x9 x17 x18 x19 x21 x10 (x14==x17) (x14==x18) (x14==x19)
 else
 bif decide (x20=(↑(0+1):Int))then
 SG x20 BE x0 x1 x2 x3 x4 x5 x6 x7 x8 x9 x17 x18 x19 x21 x10 (x15==x17) (x15==x18) (x15==x19)
 else
 bif decide (x20=(↑(0+1+1):Int))then
 SG x20 BE x0 x1 x2 x3 x4 x5 x6 x7 x8 x9 x17 x18 x19 x21 x10 (x16==x17) (x16==x18) (x16==x19)
 else
 none:=by kernel_rfl
def QG:=PV I7
theorem Zed:Ai PG (YP I7):=Ao rfl ⟨Q1r,trivial⟩
theorem Zbl:Al PG (78,Ac Qa6 Qlv QG):=rw1 (C:=(YP I7)) Zed
def Qog:Sk:=⟨[TS.v true [ci,ci,ci,ci,ci,ci,ci,ci,ci,CS.sl Aa],tf [ci]],[],[]⟩
def Qky:Sk:=⟨[tf [ci]],[],[]⟩
def Zwl (M:Fn):Nat×Spec:=(118,Ac Qog Qky M)
def Qa7:Cfg:=cf []
def Q4z:Fn:=Am PG Qa7 64 118 Qog Qky
theorem Zmz (x0 x1 x2 x3 x4 x5 x6 x7 x8:Int) (x9:Rw) (x10:Int):Q4z [I x0,I x1,I x2,I x3,I x4,I x5,I x6,I x7,I x8, .view Aa x9,I x10]=
 bif decide (x0<=0)then
 some [I 0]
 else
 bif decide (IntKind.i64.wrap (2*x0)<=0)then
 some [I 0]
 else
 bif decide (IntKind.i64.wrap (2*x0)=0)then
 none
 else
 bif decide (IntKind.i64.wrap (2*x0)=0)then
 none
 else
 bif decide ((IntKind.i64.wrap (IntKind.i64.wrap (2*x10)+x0)).tmod (IntKind.i64.wrap (2*x0))<0)then
 some [I (IntKind.i64.wrap (IntKind.i64.wrap ((IntKind.i64.wrap (IntKind.i64.wrap (2*x10)+x0)).tdiv (IntKind.i64.wrap (2*x0)))-1))]
 else
 some [I (IntKind.i64.wrap ((IntKind.i64.wrap (IntKind.i64.wrap (2*x10)+x0)).tdiv (IntKind.i64.wrap (2*x0))))]:=by kernel_rfl
def JE:=Q4z
theorem Zh2:Ai PG (Qa7):=Ao rfl trivial
theorem Z0m:Al PG (118,Ac Qog Qky JE):=rw1 (C:=Qa7) Zh2
def Qfm:Sk:=⟨[tf [CS.int .u64],tf [CS.bool]],[],[]⟩
def XW:Sk:=⟨[TS.tup [(false,[ci]),(false,[CS.bool])]],[],[]⟩
def UO (M:Fn):Nat×Spec:=(136,Ac Qfm XW M)
def Zf:Cfg:=cf []
def Qo3:Fn:=Am PG Zf 64 136 Qfm XW
theorem Yf (x0:Int) (x1:Bool):Qo3 [U x0,B x1]=
 bif x1 then
 bif decide (x0<=9223372036854775808)then
 some [I (IntKind.i64.wrap (IntKind.u64.wrap (0-x0))),B true]
 else
 bif !x1 then
 bif decide (x0<9223372036854775808)then
 some [I (IntKind.i64.wrap x0),B true]
 else
 some [I 0,B false]
 else
 some [I 0,B false]
 else
 bif !x1 then
 bif decide (x0<9223372036854775808)then
 some [I (IntKind.i64.wrap x0),B true]
 else
 some [I 0,B false]
 else
 some [I 0,B false]:=by kernel_rfl
def EV:=Qo3
theorem Zgv:Ai PG (Zf):=Ao rfl trivial
theorem V8:Al PG (136,Ac Qfm XW EV):=rw1 (C:=Zf) Zgv
def XB:Sk:=⟨[tf [ci],tf [ci],tf [CS.bool],tf [CS.bool]],[],[]⟩
def Qid:Sk:=⟨[tf [CS.bool]],[],[]⟩
def Qvy (M:Fn):Nat×Spec:=(135,Ac XB Qid M)
def Qme:Cfg:=cf []
def Qlz:Fn:=Am PG Qme 64 135 XB Qid
theorem Qwo (x0 x1:Int) (x2 x3:Bool):Qlz [I x0,I x1,B x2,B x3]=
 bif x0==0 then
 bif x2 then
 some [B x3]
 else
 some [B false]
 else
 bif x0==1 then
 bif x2 then
 some [B !x3]
 else
 some [B false]
 else
 bif decide (x1>0)then
 some [B true]
 else
 bif x1==0 then
 some [B !x3]
 else
 some [B false]:=by kernel_rfl
def He:=Qlz
theorem Q9t:Ai PG (Qme):=Ao rfl trivial
theorem Qxn:Al PG (135,Ac XB Qid He):=rw1 (C:=Qme) Q9t
def Y9:Sk:=⟨[tf [ci],tf [ci]],[],[]⟩
def Zs:Sk:=⟨[tf [ci]],[],[]⟩
def Qno (M:Fn):Nat×Spec:=(134,Ac Y9 Zs M)
def Yi:Cfg:=cf []
def Qj7:Fn:=Am PG Yi 64 134 Y9 Zs
theorem Q5k (x0 x1:Int):Qj7 [I x0,I x1]=
 bif x0==0 then
 some [I 0]
 else
 bif x1==0 then
 some [I 0]
 else
 bif decide (x0<0)==decide (x1<0)then
 some [I 1]
 else
 some [I (-1)]:=by kernel_rfl
def Fz:=Qj7
theorem Zb7:Ai PG (Yi):=Ao rfl trivial
theorem YZ:Al PG (134,Ac Y9 Zs Fz):=rw1 (C:=Yi) Zb7
def WQ:Sk:=⟨[tf [CS.int .u64],tf [CS.int .u64],tf [CS.int .u64]],[],[]⟩
def Y3:Sk:=⟨[TS.tup [(false,[CS.int .u64]),(false,[CS.int .u64])]],[],[]⟩
def Q04 (M:Fn):Nat×Spec:=(133,Ac WQ Y3 M)
def Qch (DI:Fn):Cfg:=cf [(176,Ac Qpg Q5u DI)]
def Qs5:Sk:=⟨[td,td,tf [CS.int .u64],td,td,td,td,td,tf [CS.int .u64],tf [CS.int .u64],tf [CS.int .u64],tf [CS.int .u64],td,tf [CS.int .u64],tf [CS.int .u64],tf [CS.int .u64],tf [CS.int .u64]]++dd 118,[],[]⟩
def Qsm:List (Ex×Sk):=[(Ex.exit 0,⟨[td,td,tf [CS.int .u64],td,td,td,td,td,tf [CS.int .u64],tf [CS.int .u64],tf [CS.int .u64],tf [CS.int .u64],td,tf [CS.int .u64],tf [CS.int .u64],tf [CS.int .u64]]++dd 119,[],[]⟩)]
def Lv (DI:Fn):Lp:=AN PG (Qch DI) 64 17 (AO PG 133 17) Qs5 Qsm
def Qu2 (DI:Fn) (N17:Lp):Cfg:=(Qch DI).loop 17 Qs5 Qsm N17
def Q1l:Sk:=⟨[td,td,tf [CS.int .u64],td,td,td,td,td,tf [CS.int .u64],tf [CS.int .u64],tf [CS.int .u64],td,td,td,tf [CS.int .u64],tf [CS.int .u64],tf [CS.int .u64],tf [CS.int .u64],tf [CS.int .u64]]++dd 116,[],[]⟩
def Qpr:List (Ex×Sk):=[(Ex.exit 2,⟨[td,td,tf [CS.int .u64],td,td,td,td,td,tf [CS.int .u64],td,td,td,td,td,tf [CS.int .u64],tf [CS.int .u64],td,tf [CS.int .u64],tf [CS.int .u64]]++dd 116,[],[]⟩)]
def O1 (DI:Fn) (N17:Lp):Lp:=AN PG (Qu2 DI N17) 64 24 (AO PG 133 24) Q1l Qpr
def Qqg (DI:Fn) (N17 N24:Lp):Cfg:=(Qu2 DI N17).loop 24 Q1l Qpr N24
def Qjf (DI:Fn) (N17 N24:Lp):Fn:=Am PG (Qqg DI N17 N24) 64 133 WQ Y3
theorem Zna (DI:Fn) (v0 v1 v2 v3 v4 v5 v6 v7 v8:Int):Lv DI [U v0,U v1,U v2,U v3,U v4,U v5,U v6,U v7,U v8]=
 bif decide (v7>=4294967296)then
 bif decide (IntKind.u64.wrap (v8+v2)>=4294967296)then
 some (1,[U v0,U v1,U v2,U v3,U v4,U v5,U v6,U (IntKind.u64.wrap (v7-1))])
 else
 some (0,[U v0,U v1,U v2,U v3,U v4,U v5,U v6,U (IntKind.u64.wrap (v7-1)),U (IntKind.u64.wrap (v8+v2))])
 else
 bif decide (IntKind.u64.wrap (v7*v3)>IntKind.u64.wrap (IntKind.u64.wrap (4294967296*v8)+v5))then
 bif decide (IntKind.u64.wrap (v8+v2)>=4294967296)then
 some (1,[U v0,U v1,U v2,U v3,U v4,U v5,U v6,U (IntKind.u64.wrap (v7-1))])
 else
 some (0,[U v0,U v1,U v2,U v3,U v4,U v5,U v6,U (IntKind.u64.wrap (v7-1)),U (IntKind.u64.wrap (v8+v2))])
 else
 some (1,[U v0,U v1,U v2,U v3,U v4,U v5,U v6,U v7]):=by kernel_rfl
theorem Zef (DI:Fn) (N17:Lp) (v0 v1 v2 v3 v4 v5 v6 v7 v8:Int):O1 DI N17 [U v0,U v1,U v2,U v3,U v4,U v5,U v6,U v7,U v8]=
 bif decide (v8>=4294967296)then
 bif decide (IntKind.u64.wrap (v6+v2)>=4294967296)then
 some (1,[U v0,U v1,U v4,U v5,U v7,U (IntKind.u64.wrap (v8-1))])
 else
 some (0,[U v0,U v1,U v2,U v3,U v4,U v5,U (IntKind.u64.wrap (v6+v2)),U v7,U (IntKind.u64.wrap (v8-1))])
 else
 bif decide (IntKind.u64.wrap (v8*v3)>IntKind.u64.wrap (IntKind.u64.wrap (4294967296*v6)+v4))then
 bif decide (IntKind.u64.wrap (v6+v2)>=4294967296)then
 some (1,[U v0,U v1,U v4,U v5,U v7,U (IntKind.u64.wrap (v8-1))])
 else
 some (0,[U v0,U v1,U v2,U v3,U v4,U v5,U (IntKind.u64.wrap (v6+v2)),U v7,U (IntKind.u64.wrap (v8-1))])
 else
 some (1,[U v0,U v1,U v4,U v5,U v7,U v8]):=by kernel_rfl
theorem Qqi (DI:Fn) (N17 N24:Lp) (x0 x1 x2:Int):Qjf DI N17 N24 [U x0,U x1,U x2]=
 bif x2==0 then
 none
 else
 bif decide (x2<=x0)then
 none
 else
 bif x0==0 then
 bif decide (x2=0)then
 none
 else
 bif decide (x2=0)then
 none
 else
 some [U (IntKind.u64.wrap (x1.tdiv x2)),U (x1.tmod x2)]
 else
 (DI [U x2]).bind fun o6=>
 bif decide (IntKind.u64.wrap (gA o6 0)<0)then
 none
 else
 bif decide (IntKind.u64.wrap (gA o6 0)<0)then
 none
 else
 bif decide (IntKind.u64.wrap (64-IntKind.u64.wrap (gA o6 0))<0)then
 none
 else
 bif decide (IntKind.u64.wrap (gA o6 0)<0)then
 none
 else
 bif decide ((IntKind.u64.wrap (x2*2^min (IntKind.u64.wrap (gA o6 0)).toNat IntKind.u64.bits)).fdiv (2^min (Int.toNat 32) IntKind.u64.bits)=0)then
 none
 else
 (N17 [U (IntKind.u64.wrap (x2*2^min (IntKind.u64.wrap (gA o6 0)).toNat IntKind.u64.bits)),U (IntKind.u64.wrap (gA o6 0)),U ((IntKind.u64.wrap (x2*2^min (IntKind.u64.wrap (gA o6 0)).toNat IntKind.u64.bits)).fdiv (2^min (Int.toNat 32) IntKind.u64.bits)),U (IntKind.u64.wrap (↑(BitVec.ofInt IntKind.u64.bits (IntKind.u64.wrap (x2*2^min (IntKind.u64.wrap (gA o6 0)).toNat IntKind.u64.bits))&&&BitVec.ofInt IntKind.u64.bits 4294967295).toNat:Int)),U (IntKind.u64.wrap (↑(BitVec.ofInt IntKind.u64.bits (IntKind.u64.wrap (x0*2^min (IntKind.u64.wrap (gA o6 0)).toNat IntKind.u64.bits))|||BitVec.ofInt IntKind.u64.bits (x1.fdiv (2^min (IntKind.u64.wrap (64-IntKind.u64.wrap (gA o6 0))).toNat IntKind.u64.bits))).toNat:Int)),U ((IntKind.u64.wrap (x1*2^min (IntKind.u64.wrap (gA o6 0)).toNat IntKind.u64.bits)).fdiv (2^min (Int.toNat 32) IntKind.u64.bits)),U (IntKind.u64.wrap (↑(BitVec.ofInt IntKind.u64.bits (IntKind.u64.wrap (x1*2^min (IntKind.u64.wrap (gA o6 0)).toNat IntKind.u64.bits))&&&BitVec.ofInt IntKind.u64.bits 4294967295).toNat:Int)),U (IntKind.u64.wrap ((IntKind.u64.wrap (↑(BitVec.ofInt IntKind.u64.bits (IntKind.u64.wrap (x0*2^min (IntKind.u64.wrap (gA o6 0)).toNat IntKind.u64.bits))|||BitVec.ofInt IntKind.u64.bits (x1.fdiv (2^min (IntKind.u64.wrap (64-IntKind.u64.wrap (gA o6 0))).toNat IntKind.u64.bits))).toNat:Int)).tdiv ((IntKind.u64.wrap (x2*2^min (IntKind.u64.wrap (gA o6 0)).toNat IntKind.u64.bits)).fdiv (2^min (Int.toNat 32) IntKind.u64.bits)))),U (IntKind.u64.wrap (IntKind.u64.wrap (↑(BitVec.ofInt IntKind.u64.bits (IntKind.u64.wrap (x0*2^min (IntKind.u64.wrap (gA o6 0)).toNat IntKind.u64.bits))|||BitVec.ofInt IntKind.u64.bits (x1.fdiv (2^min (IntKind.u64.wrap (64-IntKind.u64.wrap (gA o6 0))).toNat IntKind.u64.bits))).toNat:Int)-IntKind.u64.wrap (IntKind.u64.wrap ((IntKind.u64.wrap (↑(BitVec.ofInt IntKind.u64.bits (IntKind.u64.wrap (x0*2^min (IntKind.u64.wrap (gA o6 0)).toNat IntKind.u64.bits))|||BitVec.ofInt IntKind.u64.bits (x1.fdiv (2^min (IntKind.u64.wrap (64-IntKind.u64.wrap (gA o6 0))).toNat IntKind.u64.bits))).toNat:Int)).tdiv ((IntKind.u64.wrap (x2*2^min (IntKind.u64.wrap (gA o6 0)).toNat IntKind.u64.bits)).fdiv (2^min (Int.toNat 32) IntKind.u64.bits)))*(IntKind.u64.wrap (x2*2^min (IntKind.u64.wrap (gA o6 0)).toNat IntKind.u64.bits)).fdiv (2^min (Int.toNat 32) IntKind.u64.bits))))]).bind fun o7=>
 bif o7.1.beq 1 then
 bif decide (gA o7.2 2=0)then
 none
 else
 (N24 [U (gA o7.2 0),U (gA o7.2 1),U (gA o7.2 2),U (gA o7.2 3),U (gA o7.2 6),U (gA o7.2 7),U (IntKind.u64.wrap (IntKind.u64.wrap (IntKind.u64.wrap (IntKind.u64.wrap (gA o7.2 4*4294967296)+gA o7.2 5)-IntKind.u64.wrap (gA o7.2 7*gA o7.2 0))-IntKind.u64.wrap (IntKind.u64.wrap ((IntKind.u64.wrap (IntKind.u64.wrap (IntKind.u64.wrap (gA o7.2 4*4294967296)+gA o7.2 5)-IntKind.u64.wrap (gA o7.2 7*gA o7.2 0))).tdiv (gA o7.2 2))*gA o7.2 2))),U (IntKind.u64.wrap (IntKind.u64.wrap (IntKind.u64.wrap (gA o7.2 4*4294967296)+gA o7.2 5)-IntKind.u64.wrap (gA o7.2 7*gA o7.2 0))),U (IntKind.u64.wrap ((IntKind.u64.wrap (IntKind.u64.wrap (IntKind.u64.wrap (gA o7.2 4*4294967296)+gA o7.2 5)-IntKind.u64.wrap (gA o7.2 7*gA o7.2 0))).tdiv (gA o7.2 2)))]).bind fun o8=>
 bif o8.1.beq 1 then
 bif decide (gA o8.2 1<0)then
 none
 else
 some [U (IntKind.u64.wrap (IntKind.u64.wrap (gA o8.2 3*4294967296)+gA o8.2 5)),U ((IntKind.u64.wrap (IntKind.u64.wrap (IntKind.u64.wrap (gA o8.2 4*4294967296)+gA o8.2 2)-IntKind.u64.wrap (gA o8.2 5*gA o8.2 0))).fdiv (2^min (gA o8.2 1).toNat IntKind.u64.bits))]
 else
 none
 else
 none:=by kernel_rfl
def RK:=An (Lv Ij)
def Qfa:=An (O1 Ij RK)
def Gv:=Qjf Ij RK Qfa
theorem Qlg:Ai PG (Qch Ij):=Ao rfl ⟨Zis,trivial⟩
theorem Qs1:Al PG (133,Ac WQ Y3 Gv):=rw2 (C:=(Qqg Ij RK Qfa)) (fl (fl fb Qlg) Qlg) Qlg
def XK:Sk:=⟨[tf [CS.int .u64],tf [CS.int .u64]],[],[]⟩
def Qa0:Sk:=⟨[TS.v true [CS.int .u64,CS.int .u64]],[],[]⟩
def QZ (M:Fn):Nat×Spec:=(131,Ac XK Qa0 M)
def Qh1 (FR:Fn):Cfg:=cf [(175,Ac Qd7 Qcw FR)]
def Qy6 (FR:Fn):Fn:=Am PG (Qh1 FR) 64 131 XK Qa0
theorem Zft (FR:Fn) (x0 x1:Int):Qy6 FR [U x0,U x1]=
 (FR [U x0,U x1]).bind fun o1=>
 some [U (gA o1 0),U (gA o1 1)]:=by kernel_rfl
def Ef:=Qy6 Ir
theorem Zdb:Ai PG (Qh1 Ir):=Ao rfl ⟨Q54,trivial⟩
theorem TD:Al PG (131,Ac XK Qa0 Ef):=rw1 (C:=(Qh1 Ir)) Zdb
def Ql2:Sk:=⟨[tf [ci]],[],[]⟩
def Qfs:Sk:=⟨[tf [CS.int .u64]],[],[]⟩
def Y0 (M:Fn):Nat×Spec:=(132,Ac Ql2 Qfs M)
def Va:Cfg:=cf []
def Qwr:Fn:=Am PG Va 64 132 Ql2 Qfs
theorem Zc9 (x0:Int):Qwr [I x0]=
 bif decide (x0<0)then
 some [U (IntKind.u64.wrap (IntKind.u64.wrap (IntKind.i64.wrap (0-IntKind.i64.wrap (x0+1)))+1))]
 else
 some [U (IntKind.u64.wrap x0)]:=by kernel_rfl
def Gb:=Qwr
theorem Zmc:Ai PG (Va):=Ao rfl trivial
theorem Qnn:Al PG (132,Ac Ql2 Qfs Gb):=rw1 (C:=Va) Zmc
def Qi5:Sk:=⟨[tf [ci]],[],[]⟩
def X4:Sk:=⟨[tf [CS.bool]],[],[]⟩
def Qjd (M:Fn):Nat×Spec:=(130,Ac Qi5 X4 M)
def VV:Cfg:=cf []
def Qo6:Fn:=Am PG VV 64 130 Qi5 X4
theorem Qrk (x0:Int):Qo6 [I x0]=
 bif x0==0 then
 some [B true]
 else
 bif x0==1 then
 some [B true]
 else
 some [B (x0==2)]:=by kernel_rfl
def Fv:=Qo6
theorem Zrd:Ai PG (VV):=Ao rfl trivial
theorem Qnb:Al PG (130,Ac Qi5 X4 Fv):=rw1 (C:=VV) Zrd
def Wp:Sk:=⟨[tf [ci],tf [ci],tf [ci],tf [ci]],[],[]⟩
def UL:Sk:=⟨[TS.tup [(false,[ci]),(false,[CS.bool])]],[],[]⟩
def Kx (M:Fn):Nat×Spec:=(83,Ac Wp UL M)
def Qoa (A8 CD C4 FH BB Cb DF:Fn):Cfg:=cf [UO A8,Qvy CD,Qno C4,Q04 FH,QZ BB,Y0 Cb,Qjd DF]
def Tu (A8 CD C4 FH BB Cb DF:Fn):Fn:=Am PG (Qoa A8 CD C4 FH BB Cb DF) 64 83 Wp UL
abbrev S0 (CD:Fn) (x3:Int) (o31:List AC) (A8:Fn) (h1_0 h1_1:AC):Option (List AC):=
 (CD [I x3,h1_0,B (decide (gA o31 1>0)),h1_1]).bind fun o34=>
 bif bA o34 0 then
 bif IntKind.u64.wrap (gA o31 0+1)==0 then
 some [I 0,B false]
 else
 (A8 [U (IntKind.u64.wrap (gA o31 0+1)),h1_1]).bind fun o35=>
 some [jA o35 0,B (bA o35 1)]
 else
 (A8 [U (gA o31 0),h1_1]).bind fun o36=>
 some [jA o36 0,B (bA o36 1)]
attribute [go_sem] S0
abbrev Qm1 (o31 o30:List AC) (CD:Fn) (x3:Int) (A8:Fn) (h2_0:AC):Option (List AC):=
 bif decide (gA o31 1>IntKind.u64.wrap (gA o30 0-gA o31 1))then
 S0 CD x3 o31 A8 (I 1) h2_0
 else
 bif decide (gA o31 1<IntKind.u64.wrap (gA o30 0-gA o31 1))then
 S0 CD x3 o31 A8 (I (-1)) h2_0
 else
 S0 CD x3 o31 A8 (I 0) h2_0
attribute [go_sem] Qm1
theorem Q1z (A8 CD C4 FH BB Cb DF:Fn) (x0 x1 x2 x3:Int):Tu A8 CD C4 FH BB Cb DF [I x0,I x1,I x2,I x3]=
 bif x2==0 then
 some [I 0,B false]
 else
 (DF [I x3]).bind fun o26=>
 bif !bA o26 0 then
 some [I 0,B false]
 else
 (Cb [I x0]).bind fun o27=>
 (Cb [I x1]).bind fun o28=>
 (BB [U (gA o27 0),U (gA o28 0)]).bind fun o29=>
 (Cb [I x2]).bind fun o30=>
 bif decide (gA o29 0>=gA o30 0)then
 some [I 0,B false]
 else
 (FH [U (gA o29 0),U (gA o29 1),U (gA o30 0)]).bind fun o31=>
 (C4 [I x0,I x1]).bind fun o32=>
 bif !decide (gA o32 0<0)==decide (x2<0)then
 (C4 [I x0,I x1]).bind fun o33=>
 Qm1 o31 o30 CD x3 A8 (B (gA o33 0 !=0))
 else
 Qm1 o31 o30 CD x3 A8 (B false):=by kernel_rfl
def Bq:=Tu EV He Fz Gv Ef Gb Fv
theorem Zjh:Ai PG (Qoa EV He Fz Gv Ef Gb Fv):=Ao rfl ⟨V8,Qxn,YZ,Qs1,TD,Qnn,Qnb,trivial⟩
theorem Lt:Al PG (83,Ac Wp UL Bq):=rw1 (C:=(Qoa EV He Fz Gv Ef Gb Fv)) Zjh
def Qbs:Sk:=⟨[TS.v true [ci,ci,ci,ci,ci,ci,ci,ci,ci,CS.sl Aa],tf [ci]],[],[]⟩
def Qag:Sk:=⟨[tf [ci]],[],[]⟩
def Zvt (M:Fn):Nat×Spec:=(119,Ac Qbs Qag M)
def Qm3 (AG:Fn):Cfg:=cf [Kx AG]
def Qpf (AG:Fn):Fn:=Am PG (Qm3 AG) 64 119 Qbs Qag
theorem Z24 (AG:Fn) (x0 x1 x2 x3 x4 x5 x6 x7 x8:Int) (x9:Rw) (x10:Int):Qpf AG [I x0,I x1,I x2,I x3,I x4,I x5,I x6,I x7,I x8, .view Aa x9,I x10]=
 bif decide (IntKind.i64.wrap ((x9.length:Int)-1)<0)then
 some [I 0]
 else
 bif decide (IntKind.i64.wrap (x10-x7)<=0)then
 bif decide (0<=0)&&decide (0<(x9.length:Int))then
 some [jA (nth [] x9 0) 0]
 else
 none
 else
 bif decide (x8<=0)then
 bif decide (0<=0)&&decide (0<(x9.length:Int))then
 some [jA (nth [] x9 0) 0]
 else
 none
 else
 bif decide (x8=0)then
 none
 else
 bif decide (IntKind.i64.wrap ((IntKind.i64.wrap (x10-x7)).tdiv x8)>=IntKind.i64.wrap ((x9.length:Int)-1))then
 bif decide (0<=IntKind.i64.wrap ((x9.length:Int)-1))&&decide (IntKind.i64.wrap ((x9.length:Int)-1)<(x9.length:Int))then
 some [jA (nth [] x9 (IntKind.i64.wrap ((x9.length:Int)-1)).toNat) 0]
 else
 none
 else
 bif decide (0<=IntKind.i64.wrap (IntKind.i64.wrap ((IntKind.i64.wrap (x10-x7)).tdiv x8)+1))&&decide (IntKind.i64.wrap (IntKind.i64.wrap ((IntKind.i64.wrap (x10-x7)).tdiv x8)+1)<(x9.length:Int))then
 bif decide (0<=IntKind.i64.wrap ((IntKind.i64.wrap (x10-x7)).tdiv x8))&&decide (IntKind.i64.wrap ((IntKind.i64.wrap (x10-x7)).tdiv x8)<(x9.length:Int))then
 (AG [I (IntKind.i64.wrap (Af (nth .dead (nth [] x9 (IntKind.i64.wrap (IntKind.i64.wrap ((IntKind.i64.wrap (x10-x7)).tdiv x8)+1)).toNat) 0)-Af (nth .dead (nth [] x9 (IntKind.i64.wrap ((IntKind.i64.wrap (x10-x7)).tdiv x8)).toNat) 0))),I (IntKind.i64.wrap (IntKind.i64.wrap (x10-x7)-IntKind.i64.wrap (IntKind.i64.wrap ((IntKind.i64.wrap (x10-x7)).tdiv x8)*x8))),I x8,I 2]).bind fun o1=>
 bif decide (0<=IntKind.i64.wrap ((IntKind.i64.wrap (x10-x7)).tdiv x8))&&decide (IntKind.i64.wrap ((IntKind.i64.wrap (x10-x7)).tdiv x8)<(x9.length:Int))then
 some [I (IntKind.i64.wrap (Af (nth .dead (nth [] x9 (IntKind.i64.wrap ((IntKind.i64.wrap (x10-x7)).tdiv x8)).toNat) 0)+gA o1 0))]
 else
 none
 else
 none
 else
 none:=by kernel_rfl
def Kl:=Qpf Bq
theorem Z2b:Ai PG (Qm3 Bq):=Ao rfl ⟨Lt,trivial⟩
theorem Zv8:Al PG (119,Ac Qbs Qag Kl):=rw1 (C:=(Qm3 Bq)) Z2b
def Vg:Sk:=⟨[TS.v true [ci,ci,ci,ci,ci,ci,ci,ci,ci,CS.sl Aa],tf [ci]],[],[]⟩
def WK:Sk:=⟨[tf [ci]],[],[]⟩
def Zca (M:Fn):Nat×Spec:=(76,Ac Vg WK M)
def Qi9 (Ox L5:Fn):Cfg:=cf [Zwl Ox,Zvt L5]
def Qup (Ox L5:Fn):Fn:=Am PG (Qi9 Ox L5) 64 76 Vg WK
theorem Zt0 (Ox L5:Fn) (x0 x1 x2 x3 x4 x5 x6 x7 x8:Int) (x9:Rw) (x10:Int):Qup Ox L5 [I x0,I x1,I x2,I x3,I x4,I x5,I x6,I x7,I x8, .view Aa x9,I x10]=
 (L5 [I x0,I x1,I x2,I x3,I x4,I x5,I x6,I x7,I x8, .view Aa x9,I x10]).bind fun o2=>
 (Ox [I x0,I x1,I x2,I x3,I x4,I x5,I x6,I x7,I x8, .view Aa x9,I (IntKind.i64.wrap (x10+gA o2 0))]).bind fun o3=>
 some [jA o3 0]:=by kernel_rfl
def Mc:=Qup JE Kl
theorem Zap:Ai PG (Qi9 JE Kl):=Ao rfl ⟨Z0m,Zv8,trivial⟩
theorem Zb1:Al PG (76,Ac Vg WK Mc):=rw1 (C:=(Qi9 JE Kl)) Zap
def UW:Sk:=⟨[TS.v true [CS.sl As,ci,ci,ci,ci,ci],tf [ci]],[],[]⟩
def Xp:Sk:=⟨[tf [ci]],[],[]⟩
def Qhr (M:Fn):Nat×Spec:=(75,Ac UW Xp M)
def C_track_find_0:Cfg:=cf []
def Qqa:Sk:=⟨[td,tf [ci],tf [CS.ptr 2 0],td,td,tf [ci],tf [ci]]++dd 29,[(2,62,[CS.sl As,ci,ci,ci,ci,ci])],[]⟩
def Qyj:List (Ex×Sk):=[(Ex.exit 0,⟨[td,td,td,td,td,td,tf [ci]]++dd 29,[],[]⟩)]
def Q_:Lp:=AN PG C_track_find_0 64 2 (AO PG 75 2) Qqa Qyj
def Qtw (N2:Lp):Cfg:=C_track_find_0.loop 2 Qqa Qyj N2
def Q6v (N2:Lp):Fn:=Am PG (Qtw N2) 64 75 UW Xp
theorem Qcg (v0 v1 v2:Int) (v3:Rw) (v4 v5 v6 v7 v8:Int):Q_ [I v0,I v1,I v2, .view As v3,I v4,I v5,I v6,I v7,I v8]=
 bif decide (v1<v2)then
 bif decide (0<=IntKind.i64.wrap ((IntKind.i64.wrap (v1+v2)).tdiv 2))&&decide (IntKind.i64.wrap ((IntKind.i64.wrap (v1+v2)).tdiv 2)<(v3.length:Int))then
 bif decide (v0<=IntKind.i64.wrap (Af (nth .dead (nth [] v3 (IntKind.i64.wrap ((IntKind.i64.wrap (v1+v2)).tdiv 2)).toNat) 0)+Af (nth .dead (nth [] v3 (IntKind.i64.wrap ((IntKind.i64.wrap (v1+v2)).tdiv 2)).toNat) 1)))then
 some (0,[I v0,I v1,I (IntKind.i64.wrap ((IntKind.i64.wrap (v1+v2)).tdiv 2)), .view As v3,I v4,I v5,I v6,I v7,I v8])
 else
 some (0,[I v0,I (IntKind.i64.wrap (IntKind.i64.wrap ((IntKind.i64.wrap (v1+v2)).tdiv 2)+1)),I v2, .view As v3,I v4,I v5,I v6,I v7,I v8])
 else
 none
 else
 some (1,[I v2]):=by kernel_rfl
theorem Zbq (N2:Lp) (x0:Rw) (x1 x2 x3 x4 x5 x6:Int):Q6v N2 [.view As x0,I x1,I x2,I x3,I x4,I x5,I x6]=
 (N2 [I x6,I 0,I (IntKind.i64.wrap ((x0.length:Int)-1)), .view As x0,I x1,I x2,I x3,I x4,I x5]).bind fun o1=>
 bif o1.1.beq 1 then
 some [jA o1.2 0]
 else
 none:=by kernel_rfl
def Li:=An (Q_)
def GT:=Q6v Li
theorem Qxq:Ai PG (C_track_find_0):=Ao rfl trivial
theorem Zi:Al PG (75,Ac UW Xp GT):=rw2 (C:=(Qtw Li)) (fl fb Qxq) Qxq
def Qk2:Sk:=⟨[TS.v true [ci,ci,ci,CS.sl Ah,CS.sl kPt],tf [ci]],[],[]⟩
def Vu:Sk:=⟨[TS.tup [(false,[ci]),(false,[ci])]],[],[]⟩
def T3 (M:Fn):Nat×Spec:=(117,Ac Qk2 Vu M)
def C_path_Find_0:Cfg:=cf []
def Qqr:Sk:=⟨[td,tf [ci],tf [CS.ptr 2 0],td,td,td,td,td,td,td,td,tf [CS.sl Ah],tf [ci],tf [ci]]++dd 24,[(2,58,[ci,ci,ci,CS.sl Ah,CS.sl kPt])],[]⟩
def Q0t:List (Ex×Sk):=[(Ex.ret,⟨[td,td,td,td,tf [ci],tf [ci]]++dd 32,[],[]⟩),(Ex.exit 0,⟨[td]++dd 37,[],[]⟩)]
def Ra:Lp:=AN PG C_path_Find_0 64 3 (AO PG 117 3) Qqr Q0t
def Q3o (N3:Lp):Cfg:=C_path_Find_0.loop 3 Qqr Q0t N3
def Qtx (N3:Lp):Fn:=Am PG (Q3o N3) 64 117 Qk2 Vu
theorem Q6z (v0:Int) (v1:Rw) (v2 v3 v4 v5 v6:Int) (v7 v8:Rw):Ra [I v0, .view Ah v1,I v2,I v3,I v4,I v5,I v6, .view Ah v7, .view kPt v8]=
 bif decide (v3<v2)then
 bif decide (0<=v3)&&decide (v3<(v1.length:Int))then
 bif decide (v0<gA (nth [] v1 v3.toNat) 3)then
 some (1,[I v3,I v0])
 else
 bif v3==IntKind.i64.wrap ((v7.length:Int)-1)then
 some (1,[I v3,jA (nth [] v1 v3.toNat) 3])
 else
 some (0,[I (IntKind.i64.wrap (v0-gA (nth [] v1 v3.toNat) 3)), .view Ah v1,I v2,I (IntKind.i64.wrap (v3+1)),I v4,I v5,I v6, .view Ah v7, .view kPt v8])
 else
 none
 else
 some (2,[]):=by kernel_rfl
theorem Qs6 (N3:Lp) (x0 x1 x2:Int) (x3 x4:Rw) (x5:Int):Qtx N3 [I x0,I x1,I x2, .view Ah x3, .view kPt x4,I x5]=
 (N3 [I (mx x5 0), .view Ah x3,I (x3.length:Int),I 0,I x0,I x1,I x2, .view Ah x3, .view kPt x4]).bind fun o1=>
 bif o1.1.beq 1 then
 some [jA o1.2 0,jA o1.2 1]
 else
 bif o1.1.beq 2 then
 some [I (-1),I 0]
 else
 none:=by kernel_rfl
def NE:=An (Ra)
def EI:=Qtx NE
theorem Qwm:Ai PG (C_path_Find_0):=Ao rfl trivial
theorem Qgi:Al PG (117,Ac Qk2 Vu EI):=rw2 (C:=(Q3o NE)) (fl fb Qwm) Qwm
def T1:Sk:=⟨[TS.v true [ci,ci,ci,CS.sl Ah,CS.sl kPt],tf [ci]],[],[]⟩
def XS:Sk:=⟨[TS.v true [ci,ci,ci]],[],[]⟩
def Zl1 (M:Fn):Nat×Spec:=(74,Ac T1 XS M)
def X_ (AG Dn:Fn):Cfg:={cf [Kx AG,T3 Dn]with unroll:=[9]}
def W7 (AG Dn:Fn):Fn:=Am PG (X_ AG Dn) 64 74 T1 XS
theorem Z2l (AG Dn:Fn) (x0 x1 x2:Int) (x3 x4:Rw) (x5:Int):W7 AG Dn [I x0,I x1,I x2, .view Ah x3, .view kPt x4,I x5]=
 (Dn [I x0,I x1,I x2, .view Ah x3, .view kPt x4,I x5]).bind fun o7=>
 bif decide (gA o7 0<0)then
 some [I x0,I x1,I x2]
 else
 bif decide (gA o7 0>0)then
 bif decide (0<=IntKind.i64.wrap (gA o7 0-1))&&decide (IntKind.i64.wrap (gA o7 0-1)<(x3.length:Int))then
 bif decide (0<=gA o7 0)&&decide (gA o7 0<(x3.length:Int))then
 (AG [I (IntKind.i64.wrap (gA (nth [] x3 (gA o7 0).toNat) 0-gA (nth [] x3 (IntKind.i64.wrap (gA o7 0-1)).toNat) 0)),jA o7 1,jA (nth [] x3 (gA o7 0).toNat) 3,I 2]).bind fun o8=>
 (AG [I (IntKind.i64.wrap (gA (nth [] x3 (gA o7 0).toNat) 1-gA (nth [] x3 (IntKind.i64.wrap (gA o7 0-1)).toNat) 1)),jA o7 1,jA (nth [] x3 (gA o7 0).toNat) 3,I 2]).bind fun o9=>
 (AG [I (IntKind.i64.wrap (gA (nth [] x3 (gA o7 0).toNat) 2-gA (nth [] x3 (IntKind.i64.wrap (gA o7 0-1)).toNat) 2)),jA o7 1,jA (nth [] x3 (gA o7 0).toNat) 3,I 2]).bind fun o10=>
 some [I (IntKind.i64.wrap (gA (nth [] x3 (IntKind.i64.wrap (gA o7 0-1)).toNat) 0+gA o8 0)),I (IntKind.i64.wrap (gA (nth [] x3 (IntKind.i64.wrap (gA o7 0-1)).toNat) 1+gA o9 0)),I (IntKind.i64.wrap (gA (nth [] x3 (IntKind.i64.wrap (gA o7 0-1)).toNat) 2+gA o10 0))]
 else
 none
 else
 none
 else
 bif decide (0<=gA o7 0)&&decide (gA o7 0<(x3.length:Int))then
 (AG [I (IntKind.i64.wrap (gA (nth [] x3 (gA o7 0).toNat) 0-x0)),jA o7 1,jA (nth [] x3 (gA o7 0).toNat) 3,I 2]).bind fun o11=>
 (AG [I (IntKind.i64.wrap (gA (nth [] x3 (gA o7 0).toNat) 1-x1)),jA o7 1,jA (nth [] x3 (gA o7 0).toNat) 3,I 2]).bind fun o12=>
 (AG [I (IntKind.i64.wrap (gA (nth [] x3 (gA o7 0).toNat) 2-x2)),jA o7 1,jA (nth [] x3 (gA o7 0).toNat) 3,I 2]).bind fun o13=>
 some [I (IntKind.i64.wrap (x0+gA o11 0)),I (IntKind.i64.wrap (x1+gA o12 0)),I (IntKind.i64.wrap (x2+gA o13 0))]
 else
 none:=by kernel_rfl
def Qs:=W7 Bq EI
theorem Z3p:Ai PG (X_ Bq EI):=Ao rfl ⟨Lt,Qgi,trivial⟩
theorem Zat:Al PG (74,Ac T1 XS Qs):=rw1 (C:=(X_ Bq EI)) Z3p
def Ue:Sk:=⟨[tf [ci],tf [ci]],[],[]⟩
def Qdd:Sk:=⟨[tf [ci]],[],[]⟩
def RV (M:Fn):Nat×Spec:=(73,Ac Ue Qdd M)
def Wf:Cfg:=cf []
def Qvk:Fn:=Am PG Wf 64 73 Ue Qdd
theorem Zyt (x0 x1:Int):Qvk [I x0,I x1]=
 some [I (mx 0 (mn x0 x1))]:=by kernel_rfl
def Fl:=Qvk
theorem Zlj:Ai PG (Wf):=Ao rfl trivial
theorem Tv:Al PG (73,Ac Ue Qdd Fl):=rw1 (C:=Wf) Zlj
def YM:Sk:=⟨[TS.v true [CS.sl As,ci,ci,ci,ci,ci],tf [ci]],[],[]⟩
def YS:Sk:=⟨[tf [ci]],[],[]⟩
def PD (M:Fn):Nat×Spec:=(36,Ac YM YS M)
def W4 (EJ CF:Fn):Cfg:=cf [Qhr EJ,RV CF]
def Qni (EJ CF:Fn):Fn:=Am PG (W4 EJ CF) 64 36 YM YS
theorem Zyx (EJ CF:Fn) (x0:Rw) (x1 x2 x3 x4 x5 x6:Int):Qni EJ CF [.view As x0,I x1,I x2,I x3,I x4,I x5,I x6]=
 (CF [I x6,I x1]).bind fun o2=>
 (EJ [.view As x0,I x1,I x2,I x3,I x4,I x5,jA o2 0]).bind fun o3=>
 bif decide (gA o3 0<0)then
 some [I x2]
 else
 bif decide (0<=gA o3 0)&&decide (gA o3 0<(x0.length:Int))then
 bif decide (0<=gA o3 0)&&decide (gA o3 0<(x0.length:Int))then
 bif decide (0<=gA o3 0)&&decide (gA o3 0<(x0.length:Int))then
 some [I (IntKind.i64.wrap (gA (nth [] x0 (gA o3 0).toNat) 2+IntKind.i64.wrap (gA (nth [] x0 (gA o3 0).toNat) 3*IntKind.i64.wrap (gA o2 0-gA (nth [] x0 (gA o3 0).toNat) 0))))]
 else
 none
 else
 none
 else
 none:=by kernel_rfl
def Dv:=Qni GT Fl
theorem Zlp:Ai PG (W4 GT Fl):=Ao rfl ⟨Zi,Tv,trivial⟩
theorem OU:Al PG (36,Ac YM YS Dv):=rw1 (C:=(W4 GT Fl)) Zlp
def Qkf:Sk:=⟨[TS.v true [ci,ci,ci,CS.sl Ah,CS.sl kPt],TS.v true [ci,ci,ci,ci,ci,ci,ci,ci,ci,CS.sl Aa,ci,ci,ci,ci,ci,ci,ci,ci,ci,CS.sl Aa,ci,ci,ci,ci,ci,ci,ci,ci,ci,CS.sl Aa],TS.v true [CS.sl As,ci,ci,ci,ci,ci],tf [ci]],[],[]⟩
def Qmg:Sk:=⟨[TS.v true [ci,ci,ci]],[],[]⟩
def Ti (M:Fn):Nat×Spec:=(29,Ac Qkf Qmg M)
def WZ (FE BE Fu EJ Oq BD CF:Fn):Cfg:={cf [Zkj FE,Qqb BE,Zca Fu,Qhr EJ,Zl1 Oq,PD BD,RV CF]with unroll:=[6]}
def Vk (FE BE Fu EJ Oq BD CF:Fn):Fn:=Am PG (WZ FE BE Fu EJ Oq BD CF) 64 29 Qkf Qmg
abbrev Uq (Fu:Fn) (x:Ax3) (o27 o28:List AC) (BE:Fn) (t:Trk) (h1_0:AC) (FE:Fn) (o25:List AC) (h2_0:AC):Option (List AC):=
 (Fu [I x.c.step,I x.c.speed,I x.c.accel,I x.c.jerk,I x.c.low,I x.c.high,I x.c.back,I x.c.origin,I x.c.spacing, .view Aa (x.c.pitch.map Ap),jA o27 2]).bind fun o33=>
 bif decide (gA o28 0<0)then
 (BE [I x.c.step,I x.c.speed,I x.c.accel,I x.c.jerk,I x.c.low,I x.c.high,I x.c.back,I x.c.origin,I x.c.spacing, .view Aa (x.c.pitch.map Ap),I t.dirs.z]).bind fun o34=>
 some [h1_0,h2_0,I (IntKind.i64.wrap (gA o33 0+gA o34 0))]
 else
 bif decide (0<=gA o28 0)&&decide (gA o28 0<((t.pieces.map AP).length:Int))then
 (FE (I x.c.step::I x.c.speed::I x.c.accel::I x.c.jerk::I x.c.low::I x.c.high::I x.c.back::I x.c.origin::I x.c.spacing:: .view Aa (x.c.pitch.map Ap)::(AJ As (nth [] (t.pieces.map AP) (gA o28 0).toNat)++[I (IntKind.i64.wrap (IntKind.i64.wrap (0+1)+1)),jA o25 0]))).bind fun o35=>
 some [h1_0,h2_0,I (IntKind.i64.wrap (gA o33 0+gA o35 0))]
 else
 none
attribute [go_sem] Uq
abbrev Qca (Fu:Fn) (x:Ax3) (o27 o28:List AC) (BE:Fn) (t:Trk) (FE:Fn) (o25:List AC) (h1_0:AC):Option (List AC):=
 (Fu [I x.b.step,I x.b.speed,I x.b.accel,I x.b.jerk,I x.b.low,I x.b.high,I x.b.back,I x.b.origin,I x.b.spacing, .view Aa (x.b.pitch.map Ap),jA o27 1]).bind fun o31=>
 bif decide (gA o28 0<0)then
 (BE [I x.b.step,I x.b.speed,I x.b.accel,I x.b.jerk,I x.b.low,I x.b.high,I x.b.back,I x.b.origin,I x.b.spacing, .view Aa (x.b.pitch.map Ap),I t.dirs.y]).bind fun o32=>
 Uq Fu x o27 o28 BE t h1_0 FE o25 (I (IntKind.i64.wrap (gA o31 0+gA o32 0)))
 else
 bif decide (0<=gA o28 0)&&decide (gA o28 0<((t.pieces.map AP).length:Int))then
 (FE (I x.b.step::I x.b.speed::I x.b.accel::I x.b.jerk::I x.b.low::I x.b.high::I x.b.back::I x.b.origin::I x.b.spacing:: .view Aa (x.b.pitch.map Ap)::(AJ As (nth [] (t.pieces.map AP) (gA o28 0).toNat)++[I (IntKind.i64.wrap (0+1)),jA o25 0]))).bind fun o36=>
 Uq Fu x o27 o28 BE t h1_0 FE o25 (I (IntKind.i64.wrap (gA o31 0+gA o36 0)))
 else
 none
attribute [go_sem] Qca
theorem Zpo (FE BE Fu EJ Oq BD CF:Fn) (x41:Int) (p:Pth) (x:Ax3) (t:Trk):Vk FE BE Fu EJ Oq BD CF (pxt p x t [I x41])=
 (CF [I x41,I t.length]).bind fun o25=>
 (BD [.view As (t.pieces.map AP),I t.length,I t.start,I t.dirs.x,I t.dirs.y,I t.dirs.z,jA o25 0]).bind fun o26=>
 (Oq [I p.start.x,I p.start.y,I p.start.z, .view Ah (p.segs.map Ay), .view kPt (p.marks.map At),jA o26 0]).bind fun o27=>
 (EJ [.view As (t.pieces.map AP),I t.length,I t.start,I t.dirs.x,I t.dirs.y,I t.dirs.z,jA o25 0]).bind fun o28=>
 (Fu [I x.a.step,I x.a.speed,I x.a.accel,I x.a.jerk,I x.a.low,I x.a.high,I x.a.back,I x.a.origin,I x.a.spacing, .view Aa (x.a.pitch.map Ap),jA o27 0]).bind fun o29=>
 bif decide (gA o28 0<0)then
 (BE [I x.a.step,I x.a.speed,I x.a.accel,I x.a.jerk,I x.a.low,I x.a.high,I x.a.back,I x.a.origin,I x.a.spacing, .view Aa (x.a.pitch.map Ap),I t.dirs.x]).bind fun o30=>
 Qca Fu x o27 o28 BE t FE o25 (I (IntKind.i64.wrap (gA o29 0+gA o30 0)))
 else
 bif decide (0<=gA o28 0)&&decide (gA o28 0<((t.pieces.map AP).length:Int))then
 (FE (I x.a.step::I x.a.speed::I x.a.accel::I x.a.jerk::I x.a.low::I x.a.high::I x.a.back::I x.a.origin::I x.a.spacing:: .view Aa (x.a.pitch.map Ap)::(AJ As (nth [] (t.pieces.map AP) (gA o28 0).toNat)++[I 0,jA o25 0]))).bind fun o40=>
 Qca Fu x o27 o28 BE t FE o25 (I (IntKind.i64.wrap (gA o29 0+gA o40 0)))
 else
 none:=by kernel_rfl
def Ez:=Vk QG I7 Mc GT Qs Dv Fl
theorem Zk7:Ai PG (WZ QG I7 Mc GT Qs Dv Fl):=Ao rfl ⟨Zbl,Q1r,Zb1,Zi,Zat,OU,Tv,trivial⟩
theorem SP:Al PG (29,Ac Qkf Qmg Ez):=rw1 (C:=(WZ QG I7 Mc GT Qs Dv Fl)) Zk7
def Qmc:Sk:=⟨[tf [ci],TS.v true [ci,ci,ci,ci,ci,ci,ci,ci,ci,ci,ci,ci,ci,CS.bool,ci,CS.bool,ci,ci,ci,ci,ci,CS.bool]],[],[]⟩
def XG:Sk:=⟨[tf [ci]],[],[]⟩
def Zc0 (M:Fn):Nat×Spec:=(164,Ac Qmc XG M)
def Qmq:Cfg:=cf []
def Yl:Fn:=Am PG Qmq 64 164 Qmc XG
theorem Zle (x0 x1 x2 x3 x4 x5 x6 x7 x8 x9 x10 x11 x12 x13:Int) (x14:Bool) (x15:Int) (x16:Bool) (x17 x18 x19 x20 x21:Int) (x22:Bool):Yl [I x0,I x1,I x2,I x3,I x4,I x5,I x6,I x7,I x8,I x9,I x10,I x11,I x12,I x13,B x14,I x15,B x16,I x17,I x18,I x19,I x20,I x21,B x22]=
 bif x1 !=10 then
 some [I x0]
 else
 bif decide (x20<0)then
 some [I x0]
 else
 bif decide (x20>=16)then
 some [I x0]
 else
 bif decide (IntKind.u64.wrap x20<0)then
 none
 else
 bif x22 then
 some [I (IntKind.i64.wrap (↑(BitVec.ofInt IntKind.i64.bits x0|||BitVec.ofInt IntKind.i64.bits (IntKind.i64.wrap (1*2^min (IntKind.u64.wrap x20).toNat IntKind.i64.bits))).toNat:Int))]
 else
 some [I (IntKind.i64.wrap (↑(BitVec.ofInt IntKind.i64.bits x0&&& ~~~BitVec.ofInt IntKind.i64.bits (IntKind.i64.wrap (1*2^min (IntKind.u64.wrap x20).toNat IntKind.i64.bits))).toNat:Int))]:=by kernel_rfl
def J0:=Yl
theorem Zzt:Ai PG (Qmq):=Ao rfl trivial
theorem Zgo:Al PG (164,Ac Qmc XG J0):=rw1 (C:=Qmq) Zzt
def ZL:Sk:=⟨[TS.v true [ci,ci,ci],TS.v true [ci,ci,CS.bool,CS.bool,CS.bool]],[],[]⟩
def Qc6:Sk:=⟨[tf [CS.bool]],[],[]⟩
def Qun (M:Fn):Nat×Spec:=(163,Ac ZL Qc6 M)
def Qem:Cfg:=cf []
def X5:Fn:=Am PG Qem 64 163 ZL Qc6
theorem Zdq (x0 x1 x2 x3 x4:Int) (x5 x6 x7:Bool):X5 [I x0,I x1,I x2,I x3,I x4,B x5,B x6,B x7]=
 bif x1==1 then
 some [B true]
 else
 bif x1==3 then
 some [B true]
 else
 bif x1==6 then
 some [B true]
 else
 bif x1==4 then
 bif x7 then
 some [B true]
 else
 some [B x6]
 else
 bif x1==2 then
 some [B x6]
 else
 some [B false]:=by kernel_rfl
def Iq:=X5
theorem Zmy:Ai PG (Qem):=Ao rfl trivial
theorem Qxk:Al PG (163,Ac ZL Qc6 Iq):=rw1 (C:=Qem) Zmy
def Qn0:Sk:=⟨[tf [CS.ptr 20000 0],tf [ci]],[(20000,119,cS)],[]⟩
def V9:Sk:=⟨[tf [CS.sl Aa]],[(20000,119,cS)],[]⟩
def Q94 (M:Fn):Nat×Spec:=(111,Ac Qn0 V9 M)
def Ws (E6 CK:Fn):Cfg:={cf [Zc0 E6,Qun CK]with prom:=fun b=>bif Nat.beq b 2 then [(5,3)]else []}
def Q2r:Sk:=⟨[tf [CS.ptr 20000 0],tf [ci],td,td,td,tf [CS.own 5 1]]++dd 84,[(20000,119,cS)],[(5,3,Aa)]⟩
def Qrg:List (Ex×Sk):=[(Ex.exit 0,⟨[td,td,td,td,td,tf [CS.own 5 1]]++dd 84,[(20000,119,cS)],[(5,3,Aa)]⟩)]
def QM (E6 CK:Fn):Lp:=AN PG (Ws E6 CK) 64 2 (AO PG 111 2) Q2r Qrg
def Qv8 (E6 CK:Fn) (N2:Lp):Cfg:=(Ws E6 CK).loop 2 Q2r Qrg N2
def Wq (E6 CK:Fn) (N2:Lp):Fn:=Am PG (Qv8 E6 CK N2) 64 111 Qn0 V9
abbrev Mk (K:Kf) (c:Cv) (v0:Rw) (E6:Fn) (v1:Int):Option (Nat×List AC):=
 bif gA (nth [] (K.p.marks.map At) c.passed.toNat) 1==5 then
 bif((v0++[[jA (nth [] (K.p.marks.map At) c.passed.toNat) 2]]).length*8).ble 140737488355328 then
 bif decide (0<=gA (nth [] (K.p.marks.map At) c.passed.toNat) 2)&&decide (gA (nth [] (K.p.marks.map At) c.passed.toNat) 2<((K.items.map Ag).length:Int))then
 (E6 (I c.outs::AJ Ak (nth [] (K.items.map Ag) (gA (nth [] (K.p.marks.map At) c.passed.toNat) 2).toNat))).bind fun o10=>
 some (0,(.view Aa (v0++[[jA (nth [] (K.p.marks.map At) c.passed.toNat) 2]])::I v1::Ad K {c with outs:=gA o10 0,passed:=IntKind.i64.wrap (c.passed+1)}))
 else
 none
 else
 none
 else
 some (0,(.view Aa v0::I v1::Ad K {c with passed:=IntKind.i64.wrap (c.passed+1)}))
attribute [go_sem] Mk
theorem Zo5 (E6 CK:Fn) (v0:Rw) (v1:Int) (K:Kf) (c:Cv):QM E6 CK (.view Aa v0::I v1::Ad K c)=
 bif decide (c.passed<((K.p.marks.map At).length:Int))then
 bif decide (0<=c.passed)&&decide (c.passed<((K.p.marks.map At).length:Int))then
 bif decide (gA (nth [] (K.p.marks.map At) c.passed.toNat) 0>v1)then
 some (1,(.view Aa v0::Ad K c))
 else
 bif gA (nth [] (K.p.marks.map At) c.passed.toNat) 0==v1 then
 bif decide (c.passed>=c.next)then
 (CK [jA (nth [] (K.p.marks.map At) c.passed.toNat) 0,jA (nth [] (K.p.marks.map At) c.passed.toNat) 1,jA (nth [] (K.p.marks.map At) c.passed.toNat) 2,I c.o0,I c.o1,B c.o2,B c.o3,B c.o4]).bind fun o9=>
 bif bA o9 0 then
 some (1,(.view Aa v0::Ad K c))
 else
 Mk K c v0 E6 v1
 else
 Mk K c v0 E6 v1
 else
 Mk K c v0 E6 v1
 else
 none
 else
 some (1,(.view Aa v0::Ad K c)):=by kernel_rfl
theorem Z28 (E6 CK:Fn) (N2:Lp) (x0:Int) (K:Kf) (c:Cv):Wq E6 CK N2 (I x0::Ad K c)=
 (N2 (.view Aa []::I x0::Ad K c)).bind fun o13=>
 bif o13.1.beq 1 then
 some (.view Aa (wA o13.2 0)::cR 1 o13.2)
 else
 none:=by kernel_rfl
def Qsr:=An (QM J0 Iq)
def O7:=Wq J0 Iq Qsr
theorem Qym:Ai PG (Ws J0 Iq):=Ao rfl ⟨Zgo,Qxk,trivial⟩
theorem Zv0:Al PG (111,Ac Qn0 V9 O7):=rw2 (C:=(Qv8 J0 Iq Qsr)) (fl fb Qym) Qym
def XD:Sk:=⟨[TS.v true [ci,ci,ci,CS.sl Ah,CS.sl kPt],TS.v true [ci,ci,ci,ci,ci,ci,ci,ci,ci,CS.sl Aa,ci,ci,ci,ci,ci,ci,ci,ci,ci,CS.sl Aa,ci,ci,ci,ci,ci,ci,ci,ci,ci,CS.sl Aa],TS.v true [CS.sl As,ci,ci,ci,ci,ci],tf [ci],tf [ci]],[],[]⟩
def Qef:Sk:=⟨[tf [CS.sl kPt]],[],[]⟩
def Q96 (M:Fn):Nat×Spec:=(25,Ac XD Qef M)
def Qmu (Be:Fn):Cfg:={cf [Ti Be]with prom:=fun b=>bif Nat.beq b 5 then [(11,130)]else [],unroll:=[9]}
def Qt6:Sk:=⟨[td,td,td,td,tf [ci],tf [CS.ptr 5 0],tf [CS.ptr 6 0],tf [CS.ptr 7 0],td,td,td,tf [CS.own 11 3],tf [CS.ptr 12 0],tf [ci]]++dd 54,[(5,58,[ci,ci,ci,CS.sl Ah,CS.sl kPt]),(6,27,[ci,ci,ci,ci,ci,ci,ci,ci,ci,CS.sl Aa,ci,ci,ci,ci,ci,ci,ci,ci,ci,CS.sl Aa,ci,ci,ci,ci,ci,ci,ci,ci,ci,CS.sl Aa]),(7,62,[CS.sl As,ci,ci,ci,ci,ci]),(12,44,[ci,ci,ci])],[(11,130,kPt)]⟩
def Q11:List (Ex×Sk):=[(Ex.exit 0,⟨[td,td,td,td,td,td,td,td,td,td,td,tf [CS.own 11 3]]++dd 56,[],[(11,130,kPt)]⟩)]
def Qkj (Be:Fn):Lp:=AN PG (Qmu Be) 64 5 (AO PG 25 5) Qt6 Q11
def Qzq (Be:Fn) (N5:Lp):Cfg:=(Qmu Be).loop 5 Qt6 Q11 N5
def Yc (Be:Fn) (N5:Lp):Fn:=Am PG (Qzq Be N5) 64 25 XD Qef
abbrev Om (o6:List AC) (v46 v1 v2:Int) (p:Pth) (x:Ax3) (t:Trk) (h1_0:Bool) (h1_1 h1_2:AC):Option (Nat×List AC):=
 bif gA o6 2 !=v46 then
 bif h1_0 then
 some (0,(h1_1::I v1::I (IntKind.i64.wrap (v2+1))::pxt p x t [jA o6 0,jA o6 1,jA o6 2]))
 else
 none
 else
 some (0,(h1_2::I v1::I (IntKind.i64.wrap (v2+1))::pxt p x t [jA o6 0,jA o6 1,jA o6 2]))
attribute [go_sem] Om
theorem Zw8 (Be:Fn) (v0:Rw) (v1 v2:Int) (v44 v45 v46:Int) (p:Pth) (x:Ax3) (t:Trk):Qkj Be (.view kPt v0::I v1::I v2::pxt p x t [I v44,I v45,I v46])=
 bif decide (v2<v1)then
 (Be (pxt p x t [I (IntKind.i64.wrap (v2+1))])).bind fun o6=>
 bif gA o6 0 !=v44 then
 bif((v0++[[I (IntKind.i64.wrap (v2+1)),I 0,I (IntKind.i64.wrap (gA o6 0-v44))]]).length*24).ble 140737488355328 then
 bif gA o6 1 !=v45 then
 bif((v0++[[I (IntKind.i64.wrap (v2+1)),I 0,I (IntKind.i64.wrap (gA o6 0-v44))]]++[[I (IntKind.i64.wrap (v2+1)),I (IntKind.i64.wrap (0+1)),I (IntKind.i64.wrap (gA o6 1-v45))]]).length*24).ble 140737488355328 then
 Om o6 v46 v1 v2 p x t (((v0++[[I (IntKind.i64.wrap (v2+1)),I 0,I (IntKind.i64.wrap (gA o6 0-v44))]]++[[I (IntKind.i64.wrap (v2+1)),I (IntKind.i64.wrap (0+1)),I (IntKind.i64.wrap (gA o6 1-v45))]]++[[I (IntKind.i64.wrap (v2+1)),I (IntKind.i64.wrap (IntKind.i64.wrap (0+1)+1)),I (IntKind.i64.wrap (gA o6 2-v46))]]).length*24).ble 140737488355328) (.view kPt (v0++[[I (IntKind.i64.wrap (v2+1)),I 0,I (IntKind.i64.wrap (gA o6 0-v44))]]++[[I (IntKind.i64.wrap (v2+1)),I (IntKind.i64.wrap (0+1)),I (IntKind.i64.wrap (gA o6 1-v45))]]++[[I (IntKind.i64.wrap (v2+1)),I (IntKind.i64.wrap (IntKind.i64.wrap (0+1)+1)),I (IntKind.i64.wrap (gA o6 2-v46))]])) (.view kPt (v0++[[I (IntKind.i64.wrap (v2+1)),I 0,I (IntKind.i64.wrap (gA o6 0-v44))]]++[[I (IntKind.i64.wrap (v2+1)),I (IntKind.i64.wrap (0+1)),I (IntKind.i64.wrap (gA o6 1-v45))]]))
 else
 none
 else
 Om o6 v46 v1 v2 p x t (((v0++[[I (IntKind.i64.wrap (v2+1)),I 0,I (IntKind.i64.wrap (gA o6 0-v44))]]++[[I (IntKind.i64.wrap (v2+1)),I (IntKind.i64.wrap (IntKind.i64.wrap (0+1)+1)),I (IntKind.i64.wrap (gA o6 2-v46))]]).length*24).ble 140737488355328) (.view kPt (v0++[[I (IntKind.i64.wrap (v2+1)),I 0,I (IntKind.i64.wrap (gA o6 0-v44))]]++[[I (IntKind.i64.wrap (v2+1)),I (IntKind.i64.wrap (IntKind.i64.wrap (0+1)+1)),I (IntKind.i64.wrap (gA o6 2-v46))]])) (.view kPt (v0++[[I (IntKind.i64.wrap (v2+1)),I 0,I (IntKind.i64.wrap (gA o6 0-v44))]]))
 else
 none
 else
 bif gA o6 1 !=v45 then
 bif((v0++[[I (IntKind.i64.wrap (v2+1)),I (IntKind.i64.wrap (0+1)),I (IntKind.i64.wrap (gA o6 1-v45))]]).length*24).ble 140737488355328 then
 Om o6 v46 v1 v2 p x t (((v0++[[I (IntKind.i64.wrap (v2+1)),I (IntKind.i64.wrap (0+1)),I (IntKind.i64.wrap (gA o6 1-v45))]]++[[I (IntKind.i64.wrap (v2+1)),I (IntKind.i64.wrap (IntKind.i64.wrap (0+1)+1)),I (IntKind.i64.wrap (gA o6 2-v46))]]).length*24).ble 140737488355328) (.view kPt (v0++[[I (IntKind.i64.wrap (v2+1)),I (IntKind.i64.wrap (0+1)),I (IntKind.i64.wrap (gA o6 1-v45))]]++[[I (IntKind.i64.wrap (v2+1)),I (IntKind.i64.wrap (IntKind.i64.wrap (0+1)+1)),I (IntKind.i64.wrap (gA o6 2-v46))]])) (.view kPt (v0++[[I (IntKind.i64.wrap (v2+1)),I (IntKind.i64.wrap (0+1)),I (IntKind.i64.wrap (gA o6 1-v45))]]))
 else
 none
 else
 Om o6 v46 v1 v2 p x t (((v0++[[I (IntKind.i64.wrap (v2+1)),I (IntKind.i64.wrap (IntKind.i64.wrap (0+1)+1)),I (IntKind.i64.wrap (gA o6 2-v46))]]).length*24).ble 140737488355328) (.view kPt (v0++[[I (IntKind.i64.wrap (v2+1)),I (IntKind.i64.wrap (IntKind.i64.wrap (0+1)+1)),I (IntKind.i64.wrap (gA o6 2-v46))]])) (.view kPt v0)
 else
 some (1,[.view kPt v0]):=by kernel_rfl
theorem Zr7 (Be:Fn) (N5:Lp) (x41 x42:Int) (p:Pth) (x:Ax3) (t:Trk):Yc Be N5 (pxt p x t [I x41,I x42])=
 (Be (pxt p x t [I (mx 0 (mn x41 t.length))])).bind fun o7=>
 (N5 (.view kPt []::I (mx 0 (mn x42 t.length))::I (mx 0 (mn x41 t.length))::pxt p x t [jA o7 0,jA o7 1,jA o7 2])).bind fun o8=>
 bif o8.1.beq 1 then
 some [.view kPt (wA o8.2 0)]
 else
 none:=by kernel_rfl
def Q4t:=An (Qkj Ez)
def K8:=Yc Ez Q4t
theorem Qrm:Ai PG (Qmu Ez):=Ao rfl ⟨SP,trivial⟩
theorem Z4b:Al PG (25,Ac XD Qef K8):=rw2 (C:=(Qzq Ez Q4t)) (fl fb Qrm) Qrm
def UJ:Sk:=⟨[tf [CS.ptr 20000 0]],[(20000,119,cS)],[]⟩
def Qcy:Sk:=⟨[tf [ci]],[],[]⟩
def P8 (M:Fn):Nat×Spec:=(63,E7 UJ Qcy M)
def Ql:Cfg:=cf []
def U6:Fn:=Ob PG Ql 64 63 UJ Qcy
theorem Zh1 (K:Kf) (c:Cv):U6 (Ad K c)=
 some [I (IntKind.i64.wrap (c.m0.tdiv 256))]:=by kernel_rfl
def Dg:=U6
theorem Z12:Ai PG (Ql):=Ao rfl trivial
theorem Z09 (vars:List AC) (R:Type) (K:TV->Mem->Option R):Fk PG Ql 64 63 [TV.v false [AC.ptr 20000 0]] ⟨[(20000,(⟨119,(cR 0 vars)⟩:Box))],[]⟩ K=Fk PG Ql 64 63 [TV.v false [AC.ptr 20000 0]] ⟨[(20000,(⟨119,(cR 0 vars)⟩:Box))],[]⟩ (fun v _=>K v ⟨[(20000,(⟨119,(cR 0 vars)⟩:Box))],[]⟩):=Eq.trans (b:=(K (TV.v false [I (IntKind.i64.wrap ((gA vars 50).tdiv 256))]) ⟨[(20000,(⟨119,(cR 0 vars)⟩:Box))],[]⟩)) (by kernel_rfl) (Eq.symm (by kernel_rfl))
theorem OI:Al PG (63,E7 UJ Qcy Dg):=TM (C:=Ql) (L:=64) (by kernel_rfl) (FnOK.bare rfl rfl rfl) Z12 eqOk Hh (by kernel_rfl) (by kernel_rfl) (fun vars R K=>Z09 vars R K)
def Qmz:Sk:=⟨[tf [CS.ptr 20000 0]],[(20000,119,cS)],[]⟩
def Qo7:Sk:=⟨[tf [ci]],[],[]⟩
def L_ (M:Fn):Nat×Spec:=(110,E7 Qmz Qo7 M)
def Qt (BD AZ:Fn):Cfg:=cr [PD BD,P8 AZ] [63] [63]
def Ud (BD AZ:Fn):Fn:=Ob PG (Qt BD AZ) 64 110 Qmz Qo7
theorem Zmr (BD AZ:Fn) (K:Kf) (c:Cv):Ud BD AZ (Ad K c)=
 (AZ (Ad K c)).bind fun o2=>
 (BD (Bj K.t++[jA o2 0])).bind fun o3=>
 some [jA o3 0]:=by kernel_rfl
def C5:=Ud Dv Dg
theorem Zcq:Ai PG (Qt Dv Dg):=GD (rs:=[63]) rfl ⟨OU,OI,trivial⟩ rfl (B7 rfl (EY GN))
theorem Zi5 (vars : List AC) (R : Type) (K : TV -> Mem -> Option R) : Fk PG (Qt Dv Dg) 64 110 [TV.v false [AC.ptr 20000 0]] ⟨[(20000, (⟨119, (cR 0 vars)⟩ : Box))], []⟩ K = Fk PG (Qt Dv Dg) 64 110 [TV.v false [AC.ptr 20000 0]] ⟨[(20000, (⟨119, (cR 0 vars)⟩ : Box))], []⟩ (fun v _ => K v ⟨[(20000, (⟨119, (cR 0 vars)⟩ : Box))], []⟩) := Eq.trans (b := ((Dg (cR 0 vars)).bind fun o2 =>
 (Dv [.view As (wA vars 44),jA vars 45,jA vars 46,jA vars 47,jA vars 48,jA vars 49,jA o2 0]).bind fun o3=>
 K (TV.v false [jA o3 0]) ⟨[(20000,(⟨119,(cR 0 vars)⟩:Box))],[]⟩)) (by kernel_rfl) (Eq.symm (by kernel_rfl))
theorem NQ:Al PG (110,E7 Qmz Qo7 C5):=TM (C:=(Qt Dv Dg)) (L:=64) (by kernel_rfl) (FnOK.bare rfl rfl rfl) Zcq eqOk Hh (by kernel_rfl) (by kernel_rfl) (fun vars R K=>Zi5 vars R K)
def ZA:Sk:=⟨[tf [CS.ptr 20000 0],tf [CS.ptr 20001 0],tf [ci]],[(20000,119,cS),(20001,46,[CS.sl kPt,CS.sl Aa,ci,ci,ci,ci,ci,ci,ci])],[]⟩
def YJ:Sk:=⟨[TS.tup []],[(20000,119,cS),(20001,46,[CS.sl kPt,CS.sl Aa,ci,ci,ci,ci,ci,ci,ci])],[]⟩
def Zhn (M:Fn):Nat×Spec:=(71,Ac ZA YJ M)
def Vo (Be IH Oi Bx AZ:Fn):Cfg:=cr [Ti Be,Q94 IH,Q96 Oi,L_ Bx,P8 AZ] [111,110,63] [110,63]
def Vq (Be IH Oi Bx AZ:Fn):Fn:=Am PG (Vo Be IH Oi Bx AZ) 64 71 ZA YJ
abbrev Qbz (c:Cv) (IH:Fn) (o10:List AC) (K:Kf) (Be:Fn) (o9:List AC) (x93:Int) (x92:Rw) (h1_0:AC):Option (List AC):=
 bif c.way==0 then
 (IH (jA o10 0::Ad K c)).bind fun o12=>
 (Be [jA o12 38,jA o12 39,jA o12 40, .view Ah (wA o12 41), .view kPt (wA o12 42),jA o12 1,jA o12 2,jA o12 3,jA o12 4,jA o12 5,jA o12 6,jA o12 7,jA o12 8,jA o12 9, .view Aa (wA o12 10),jA o12 11,jA o12 12,jA o12 13,jA o12 14,jA o12 15,jA o12 16,jA o12 17,jA o12 18,jA o12 19, .view Aa (wA o12 20),jA o12 21,jA o12 22,jA o12 23,jA o12 24,jA o12 25,jA o12 26,jA o12 27,jA o12 28,jA o12 29, .view Aa (wA o12 30), .view As (wA o12 45),jA o12 46,jA o12 47,jA o12 48,jA o12 49,jA o12 50,jA o9 0]).bind fun o13=>
 some (cR 1 o12++[h1_0, .view Aa (wA o12 0),I x93,jA o10 0,jA o13 0,jA o13 1,jA o13 2,jA o12 68,jA o12 63])
 else
 (Be (pxt K.p K.x K.t [jA o9 0])).bind fun o14=>
 some (Ad K c++[h1_0, .view Aa x92,I x93,jA o10 0,jA o14 0,jA o14 1,jA o14 2,I c.s3,I c.g1])
attribute [go_sem] Qbz
theorem Zfs (Be IH Oi Bx AZ:Fn) (x0:Int) (x91 x92:Rw) (x93 x94 x95 x96 x97 x98 x99:Int) (K:Kf) (c:Cv):Vq Be IH Oi Bx AZ (I x0::(Ad K c++[.view kPt x91, .view Aa x92,I x93,I x94,I x95,I x96,I x97,I x98,I x99]))=
 (AZ (Ad K c)).bind fun o9=>
 (Bx (Ad K c)).bind fun o10=>
 bif !c.changed then
 (Oi (pxt K.p K.x K.t [I x0,jA o9 0])).bind fun o11=>
 Qbz c IH o10 K Be o9 x93 x92 (.view kPt (wA o11 0))
 else
 Qbz c IH o10 K Be o9 x93 x92 (.view kPt x91):=by kernel_rfl
def LK:=Vq Ez O7 K8 C5 Dg
theorem Zc1:Ai PG (Vo Ez O7 K8 C5 Dg):=GD (rs:=[110,63]) rfl ⟨SP,Zv0,Z4b,NQ,OI,trivial⟩ rfl (B7 rfl (B7 rfl (B7 rfl (EY (EY GN)))))
theorem Zwz:Al PG (71,Ac ZA YJ LK):=rw1 (C:=(Vo Ez O7 K8 C5 Dg)) Zc1
def Yt:Sk:=⟨[tf [CS.ptr 20000 0]],[(20000,119,cS)],[]⟩
def Qaf:Sk:=⟨[TS.tup []],[(20000,119,cS)],[]⟩
def Vv (M:Fn):Nat×Spec:=(108,Ac Yt Qaf M)
def Yw:Cfg:=cf []
def Qjq:Fn:=Am PG Yw 64 108 Yt Qaf
theorem Zcp (K:Kf) (c:Cv):Qjq (Ad K c)=
 bif c.g0==0 then
 some (Ad K {c with o2:=true,g0:=1,g1:=18,g2:= -1})
 else
 some (Ad K c):=by kernel_rfl
def GC:=Qjq
theorem Znn:Ai PG (Yw):=Ao rfl trivial
theorem UY:Al PG (108,Ac Yt Qaf GC):=rw1 (C:=Yw) Znn
def Qlp:Sk:=⟨[tf [CS.sl Aa],tf [ci]],[],[]⟩
def Qop:Sk:=⟨[tf [CS.bool]],[],[]⟩
def Zvg (M:Fn):Nat×Spec:=(121,Ac Qlp Qop M)
def C_limits_bounded_0:Cfg:=cf []
def Q7j:Sk:=⟨[td,tf [ci],td,td,td,td,td,tf [CS.sl Aa],tf [ci],tf [ci]]++dd 13,[],[]⟩
def Qws:List (Ex×Sk):=[(Ex.ret,⟨[td,td,td,td,tf [CS.bool]]++dd 18,[],[]⟩),(Ex.exit 0,⟨[td]++dd 22,[],[]⟩)]
def T7:Lp:=AN PG C_limits_bounded_0 64 2 (AO PG 121 2) Q7j Qws
def Q64 (N2:Lp):Cfg:=C_limits_bounded_0.loop 2 Q7j Qws N2
def Z6 (N2:Lp):Fn:=Am PG (Q64 N2) 64 121 Qlp Qop
theorem Zgi (v0:Int) (v1:Rw) (v2 v3:Int):T7 [I v0, .view Aa v1,I v2,I v3]=
 bif decide (v3<v2)then
 bif decide (0<=v3)&&decide (v3<(v1.length:Int))then
 bif decide (gA (nth [] v1 v3.toNat) 0>v0)then
 some (1,[B false])
 else
 bif decide (gA (nth [] v1 v3.toNat) 0<IntKind.i64.wrap (0-v0))then
 some (1,[B false])
 else
 some (0,[I v0, .view Aa v1,I v2,I (IntKind.i64.wrap (v3+1))])
 else
 none
 else
 some (2,[]):=by kernel_rfl
theorem Z3l (N2:Lp) (x0:Rw) (x1:Int):Z6 N2 [.view Aa x0,I x1]=
 (N2 [I x1, .view Aa x0,I (x0.length:Int),I 0]).bind fun o1=>
 bif o1.1.beq 1 then
 some [B (bA o1.2 0)]
 else
 bif o1.1.beq 2 then
 some [B true]
 else
 none:=by kernel_rfl
def Qsp:=An (T7)
def PJ:=Z6 Qsp
theorem Q4d:Ai PG (C_limits_bounded_0):=Ao rfl trivial
theorem Zyv:Al PG (121,Ac Qlp Qop PJ):=rw2 (C:=(Q64 Qsp)) (fl fb Q4d) Q4d
def ZZ:Sk:=⟨[tf [CS.sl Aa]],[],[]⟩
def XI:Sk:=⟨[tf [CS.sl Aa]],[],[]⟩
def Zi8 (M:Fn):Nat×Spec:=(120,Ac ZZ XI M)
def C_limits_Differences_0:Cfg:={cf []with prom:=fun b=>bif Nat.beq b 3 then [(3,3)]else []}
def Qry:Sk:=⟨[tf [CS.sl Aa],td,td,tf [CS.own 3 1],tf [ci]]++dd 20,[],[(3,3,Aa)]⟩
def Qyy:List (Ex×Sk):=[(Ex.exit 0,⟨[td,td,td,tf [CS.own 3 1]]++dd 21,[],[(3,3,Aa)]⟩)]
def Qka:Lp:=AN PG C_limits_Differences_0 64 3 (AO PG 120 3) Qry Qyy
def Q6q (N3:Lp):Cfg:=C_limits_Differences_0.loop 3 Qry Qyy N3
def Qbf (N3:Lp):Fn:=Am PG (Q6q N3) 64 120 ZZ XI
theorem Zfg (v0 v1:Rw) (v2:Int):Qka [.view Aa v0, .view Aa v1,I v2]=
 bif decide (v2<(v1.length:Int))then
 bif decide (0<=v2)&&decide (v2<(v1.length:Int))then
 bif decide (0<=IntKind.i64.wrap (v2-1))&&decide (IntKind.i64.wrap (v2-1)<(v1.length:Int))then
 bif((v0++[[I (IntKind.i64.wrap (gA (nth [] v1 v2.toNat) 0-gA (nth [] v1 (IntKind.i64.wrap (v2-1)).toNat) 0))]]).length*8).ble 140737488355328 then
 some (0,[.view Aa (v0++[[I (IntKind.i64.wrap (gA (nth [] v1 v2.toNat) 0-gA (nth [] v1 (IntKind.i64.wrap (v2-1)).toNat) 0))]]), .view Aa v1,I (IntKind.i64.wrap (v2+1))])
 else
 none
 else
 none
 else
 none
 else
 some (1,[.view Aa v0]):=by kernel_rfl
theorem Zcv (N3:Lp) (x0:Rw):Qbf N3 [.view Aa x0]=
 (N3 [.view Aa [], .view Aa x0,I 1]).bind fun o1=>
 bif o1.1.beq 1 then
 some [.view Aa (wA o1.2 0)]
 else
 none:=by kernel_rfl
def Qua:=An (Qka)
def Pb:=Qbf Qua
theorem Q42:Ai PG (C_limits_Differences_0):=Ao rfl trivial
theorem Zxf:Al PG (120,Ac ZZ XI Pb):=rw2 (C:=(Q6q Qua)) (fl fb Q42) Q42
def Ui:Sk:=⟨[TS.v true [ci,ci,ci,ci,ci,ci,ci,ci,ci,CS.sl Aa],tf [CS.sl Aa]],[],[]⟩
def Xf:Sk:=⟨[tf [CS.bool]],[],[]⟩
def Zrj (M:Fn):Nat×Spec:=(79,Ac Ui Xf M)
def Xr (J9 JN:Fn):Cfg:={cf [Zvg J9,Zi8 JN]with unroll:=[2]}
def Qhu (J9 JN:Fn):Fn:=Am PG (Xr J9 JN) 64 79 Ui Xf
theorem Zjf (J9 JN:Fn) (x0 x1 x2 x3 x4 x5 x6 x7 x8:Int) (x9 x10:Rw):Qhu J9 JN [I x0,I x1,I x2,I x3,I x4,I x5,I x6,I x7,I x8, .view Aa x9, .view Aa x10]=
 (JN [.view Aa x10]).bind fun o6=>
 (J9 [.view Aa (wA o6 0),I x1]).bind fun o7=>
 bif !bA o7 0 then
 some [B false]
 else
 (JN [.view Aa (wA o6 0)]).bind fun o8=>
 (J9 [.view Aa (wA o8 0),I x2]).bind fun o9=>
 bif !bA o9 0 then
 some [B false]
 else
 (JN [.view Aa (wA o8 0)]).bind fun o10=>
 (J9 [.view Aa (wA o10 0),I x3]).bind fun o11=>
 bif !bA o11 0 then
 some [B false]
 else
 some [B true]:=by kernel_rfl
def Lw:=Qhu PJ Pb
theorem Zz8:Ai PG (Xr PJ Pb):=Ao rfl ⟨Zyv,Zxf,trivial⟩
theorem Zgz:Al PG (79,Ac Ui Xf Lw):=rw1 (C:=(Xr PJ Pb)) Zz8
def WM:Sk:=⟨[TS.v true [ci,ci,ci,ci,ci,ci,ci,ci,ci,CS.sl Aa,ci,ci,ci,ci,ci,ci,ci,ci,ci,CS.sl Aa,ci,ci,ci,ci,ci,ci,ci,ci,ci,CS.sl Aa],tf [CS.sl kPt]],[],[]⟩
def Qnz:Sk:=⟨[tf [CS.bool]],[],[]⟩
def Zlc (M:Fn):Nat×Spec:=(31,Ac WM Qnz M)
def Qn7 (DP:Fn):Cfg:=cf [Zrj DP]
def Quy:Sk:=⟨[td,tf [CS.sl kPt],tf [CS.ptr 2 0],td,td,tf [ci],tf [CS.own 13 1],td,tf [ci],td,td,td,td,td,td,tf [ci],tf [ci]]++dd 19,[(2,27,[ci,ci,ci,ci,ci,ci,ci,ci,ci,CS.sl Aa,ci,ci,ci,ci,ci,ci,ci,ci,ci,CS.sl Aa,ci,ci,ci,ci,ci,ci,ci,ci,ci,CS.sl Aa])],[(13,3,Aa)]⟩
def Qqq:List (Ex×Sk):=[(Ex.exit 2,⟨[td,tf [CS.sl kPt],tf [CS.ptr 2 0],td,td,tf [ci],tf [CS.own 13 1],td,tf [ci]]++dd 27,[(2,27,[ci,ci,ci,ci,ci,ci,ci,ci,ci,CS.sl Aa,ci,ci,ci,ci,ci,ci,ci,ci,ci,CS.sl Aa,ci,ci,ci,ci,ci,ci,ci,ci,ci,CS.sl Aa])],[(13,3,Aa)]⟩)]
def Ks (DP:Fn):Lp:=AN PG (Qn7 DP) 64 6 (AO PG 31 6) Quy Qqq
def Q8g (DP:Fn) (N6:Lp):Cfg:=(Qn7 DP).loop 6 Quy Qqq N6
def Q8d:Sk:=⟨[td,tf [CS.sl kPt],tf [CS.ptr 2 0],td,td,td,td,td,tf [ci]]++dd 27,[(2,27,[ci,ci,ci,ci,ci,ci,ci,ci,ci,CS.sl Aa,ci,ci,ci,ci,ci,ci,ci,ci,ci,CS.sl Aa,ci,ci,ci,ci,ci,ci,ci,ci,ci,CS.sl Aa])],[]⟩
def Q3q:List (Ex×Sk):=[(Ex.ret,⟨[td,td,td,td,tf [CS.bool]]++dd 31,[],[]⟩),(Ex.exit 0,⟨[td]++dd 35,[],[]⟩)]
def QN (DP:Fn) (N6:Lp):Lp:=AN PG (Q8g DP N6) 64 2 (AO PG 31 2) Q8d Q3q
def Qw9 (DP:Fn) (N6 N2:Lp):Cfg:=(Q8g DP N6).loop 2 Q8d Q3q N2
def QL (DP:Fn) (N6 N2:Lp):Fn:=Am PG (Qw9 DP N6 N2) 64 31 WM Qnz
theorem Z16 (DP:Fn) (v0 v1:Rw) (v2 v3 v4 v5 v6 v7 v8 v9 v10 v11 v12 v13 v14:Int) (v15:Rw) (v16 v17 v18 v19 v20 v21 v22 v23 v24:Int) (v25:Rw) (v26 v27 v28 v29 v30 v31 v32 v33 v34:Int) (v35:Rw):Ks DP [.view Aa v0, .view kPt v1,I v2,I v3,I v4,I v5,I v6,I v7,I v8,I v9,I v10,I v11,I v12,I v13,I v14, .view Aa v15,I v16,I v17,I v18,I v19,I v20,I v21,I v22,I v23,I v24, .view Aa v25,I v26,I v27,I v28,I v29,I v30,I v31,I v32,I v33,I v34, .view Aa v35]=
 bif decide (v5<v4)then
 bif decide (0<=v5)&&decide (v5<(v1.length:Int))then
 bif decide (v2=(↑0:Int))then
 bif decide (0<=v5)&&decide (v5<(v0.length:Int))then
 some (0,[.view Aa (v0.set v5.toNat [jA (nth [] v1 v5.toNat) 0]), .view kPt v1,I v2,I v3,I v4,I (IntKind.i64.wrap (v5+1)),I v6,I v7,I v8,I v9,I v10,I v11,I v12,I v13,I v14, .view Aa v15,I v16,I v17,I v18,I v19,I v20,I v21,I v22,I v23,I v24, .view Aa v25,I v26,I v27,I v28,I v29,I v30,I v31,I v32,I v33,I v34, .view Aa v35])
 else
 none
 else
 bif decide (v2=(↑(0+1):Int))then
 bif decide (0<=v5)&&decide (v5<(v0.length:Int))then
 some (0,[.view Aa (v0.set v5.toNat [jA (nth [] v1 v5.toNat) 1]), .view kPt v1,I v2,I v3,I v4,I (IntKind.i64.wrap (v5+1)),I v6,I v7,I v8,I v9,I v10,I v11,I v12,I v13,I v14, .view Aa v15,I v16,I v17,I v18,I v19,I v20,I v21,I v22,I v23,I v24, .view Aa v25,I v26,I v27,I v28,I v29,I v30,I v31,I v32,I v33,I v34, .view Aa v35])
 else
 none
 else
 bif decide (v2=(↑(0+1+1):Int))then
 bif decide (0<=v5)&&decide (v5<(v0.length:Int))then
 some (0,[.view Aa (v0.set v5.toNat [jA (nth [] v1 v5.toNat) 2]), .view kPt v1,I v2,I v3,I v4,I (IntKind.i64.wrap (v5+1)),I v6,I v7,I v8,I v9,I v10,I v11,I v12,I v13,I v14, .view Aa v15,I v16,I v17,I v18,I v19,I v20,I v21,I v22,I v23,I v24, .view Aa v25,I v26,I v27,I v28,I v29,I v30,I v31,I v32,I v33,I v34, .view Aa v35])
 else
 none
 else
 none
 else
 none
 else
 some (1,[.view Aa v0, .view kPt v1,I v2,I v3,I v6,I v7,I v8,I v9,I v10,I v11,I v12,I v13,I v14, .view Aa v15,I v16,I v17,I v18,I v19,I v20,I v21,I v22,I v23,I v24, .view Aa v25,I v26,I v27,I v28,I v29,I v30,I v31,I v32,I v33,I v34, .view Aa v35]):=by kernel_rfl
abbrev TL (o5:Nat×List AC) (h1_0:Bool):Option (Nat×List AC):=
 bif h1_0 then
 some (1,[B false])
 else
 some (0,[.view kPt (wA o5.2 1),I (IntKind.i64.wrap (gA o5.2 3+1)),jA o5.2 4,jA o5.2 5,jA o5.2 6,jA o5.2 7,jA o5.2 8,jA o5.2 9,jA o5.2 10,jA o5.2 11,jA o5.2 12, .view Aa (wA o5.2 13),jA o5.2 14,jA o5.2 15,jA o5.2 16,jA o5.2 17,jA o5.2 18,jA o5.2 19,jA o5.2 20,jA o5.2 21,jA o5.2 22, .view Aa (wA o5.2 23),jA o5.2 24,jA o5.2 25,jA o5.2 26,jA o5.2 27,jA o5.2 28,jA o5.2 29,jA o5.2 30,jA o5.2 31,jA o5.2 32, .view Aa (wA o5.2 33)])
attribute [go_sem] TL
theorem Q8z (DP:Fn) (N6:Lp) (v0:Rw) (v1 v2 v3 v4 v5 v6 v7 v8 v9 v10:Int) (v11:Rw) (v12 v13 v14 v15 v16 v17 v18 v19 v20:Int) (v21:Rw) (v22 v23 v24 v25 v26 v27 v28 v29 v30:Int) (v31:Rw):QN DP N6 [.view kPt v0,I v1,I v2,I v3,I v4,I v5,I v6,I v7,I v8,I v9,I v10, .view Aa v11,I v12,I v13,I v14,I v15,I v16,I v17,I v18,I v19,I v20, .view Aa v21,I v22,I v23,I v24,I v25,I v26,I v27,I v28,I v29,I v30, .view Aa v31]=
 bif decide (v1<3)then
 bif decide ((v0.length:Int)=(v0.length:Int))then
 bif decide (0<=(v0.length:Int))&&decide ((v0.length:Int)*(↑8:Int)<=140737488355328)then
 (N6 [.view Aa (List.replicate (v0.length:Int).toNat [I 0]), .view kPt v0,I v1,I v1,I (v0.length:Int),I 0,I v2,I v3,I v4,I v5,I v6,I v7,I v8,I v9,I v10, .view Aa v11,I v12,I v13,I v14,I v15,I v16,I v17,I v18,I v19,I v20, .view Aa v21,I v22,I v23,I v24,I v25,I v26,I v27,I v28,I v29,I v30, .view Aa v31]).bind fun o5=>
 bif o5.1.beq 1 then
 bif decide (gA o5.2 2=(↑0:Int))then
 (DP [jA o5.2 4,jA o5.2 5,jA o5.2 6,jA o5.2 7,jA o5.2 8,jA o5.2 9,jA o5.2 10,jA o5.2 11,jA o5.2 12, .view Aa (wA o5.2 13), .view Aa (wA o5.2 0)]).bind fun o6=>
 TL o5 (!bA o6 0)
 else
 bif decide (gA o5.2 2=(↑(0+1):Int))then
 (DP [jA o5.2 14,jA o5.2 15,jA o5.2 16,jA o5.2 17,jA o5.2 18,jA o5.2 19,jA o5.2 20,jA o5.2 21,jA o5.2 22, .view Aa (wA o5.2 23), .view Aa (wA o5.2 0)]).bind fun o7=>
 TL o5 (!bA o7 0)
 else
 bif decide (gA o5.2 2=(↑(0+1+1):Int))then
 (DP [jA o5.2 24,jA o5.2 25,jA o5.2 26,jA o5.2 27,jA o5.2 28,jA o5.2 29,jA o5.2 30,jA o5.2 31,jA o5.2 32, .view Aa (wA o5.2 33), .view Aa (wA o5.2 0)]).bind fun o8=>
 TL o5 (!bA o8 0)
 else
 none
 else
 none
 else
 none
 else
 none
 else
 some (2,[]):=by kernel_rfl
theorem Ze9 (DP:Fn) (N6 N2:Lp) (x0 x1 x2 x3 x4 x5 x6 x7 x8:Int) (x9:Rw) (x10 x11 x12 x13 x14 x15 x16 x17 x18:Int) (x19:Rw) (x20 x21 x22 x23 x24 x25 x26 x27 x28:Int) (x29 x30:Rw):QL DP N6 N2 [I x0,I x1,I x2,I x3,I x4,I x5,I x6,I x7,I x8, .view Aa x9,I x10,I x11,I x12,I x13,I x14,I x15,I x16,I x17,I x18, .view Aa x19,I x20,I x21,I x22,I x23,I x24,I x25,I x26,I x27,I x28, .view Aa x29, .view kPt x30]=
 (N2 [.view kPt x30,I 0,I x0,I x1,I x2,I x3,I x4,I x5,I x6,I x7,I x8, .view Aa x9,I x10,I x11,I x12,I x13,I x14,I x15,I x16,I x17,I x18, .view Aa x19,I x20,I x21,I x22,I x23,I x24,I x25,I x26,I x27,I x28, .view Aa x29]).bind fun o9=>
 bif o9.1.beq 1 then
 some [B (bA o9.2 0)]
 else
 bif o9.1.beq 2 then
 some [B true]
 else
 none:=by kernel_rfl
def Qj5:=An (Ks Lw)
def Qq6:=An (QN Lw Qj5)
def NJ:=QL Lw Qj5 Qq6
theorem Qna:Ai PG (Qn7 Lw):=Ao rfl ⟨Zgz,trivial⟩
theorem Zvn:Al PG (31,Ac WM Qnz NJ):=rw2 (C:=(Qw9 Lw Qj5 Qq6)) (fl (fl fb Qna) Qna) Qna
def Qoe:Sk:=⟨[tf [ci]],[],[]⟩
def Qje:Sk:=⟨[tf [ci]],[],[]⟩
def Qw0 (M:Fn):Nat×Spec:=(197,Ac Qoe Qje M)
def Vt:Cfg:=cf []
def Qgc:Fn:=Am PG Vt 64 197 Qoe Qje
theorem Zby (x0:Int):Qgc [I x0]=
 bif decide (x0.tmod 256<0)then
 some [I (IntKind.i64.wrap (IntKind.i64.wrap (x0.tdiv 256)-1))]
 else
 some [I (IntKind.i64.wrap (x0.tdiv 256))]:=by kernel_rfl
def I4:=Qgc
theorem Zxp:Ai PG (Vt):=Ao rfl trivial
theorem Q6n:Al PG (197,Ac Qoe Qje I4):=rw1 (C:=Vt) Zxp
def Qea:Sk:=⟨[TS.v true [ci,ci,ci,CS.sl Ah,CS.sl kPt],TS.v true [ci,ci,ci,ci,ci,ci,ci,ci,ci,CS.sl Aa,ci,ci,ci,ci,ci,ci,ci,ci,ci,CS.sl Aa,ci,ci,ci,ci,ci,ci,ci,ci,ci,CS.sl Aa],TS.v true [CS.sl As,ci,ci,ci,ci,ci],tf [CS.sl Aa]],[],[]⟩
def Qh4:Sk:=⟨[tf [CS.bool]],[],[]⟩
def Zoe (M:Fn):Nat×Spec:=(179,Ac Qea Qh4 M)
def YB (F2 Be D5:Fn):Cfg:={cf [Zlc F2,Ti Be,Qw0 D5]with lend:=fun f=>AK [31] f,cuts:=[30],prom:=fun b=>bif Nat.beq b 3 then [(9,44)]else []}
def Qqd:Sk:=⟨[td,td,td,td,tf [CS.ptr 4 0],tf [CS.ptr 5 0],tf [CS.ptr 6 0],td,td,tf [CS.own 9 3],td,td,tf [CS.sl Aa],tf [ci],tf [ci]]++dd 22,[(4,58,[ci,ci,ci,CS.sl Ah,CS.sl kPt]),(5,27,[ci,ci,ci,ci,ci,ci,ci,ci,ci,CS.sl Aa,ci,ci,ci,ci,ci,ci,ci,ci,ci,CS.sl Aa,ci,ci,ci,ci,ci,ci,ci,ci,ci,CS.sl Aa]),(6,62,[CS.sl As,ci,ci,ci,ci,ci])],[(9,44,kPt)]⟩
def Q46:List (Ex×Sk):=[(Ex.ret,⟨[td,td,td,td,td,td,td,td,tf [CS.bool]]++dd 28,[],[]⟩),(Ex.exit 0,⟨[td]++dd 36,[],[]⟩)]
def Qn4 (F2 Be D5:Fn):Lp:=AN PG (YB F2 Be D5) 64 3 (AO PG 179 3) Qqd Q46
def Q08 (F2 Be D5:Fn) (N3:Lp):Cfg:=(YB F2 Be D5).loop 3 Qqd Q46 N3
def Uy (F2 Be D5:Fn) (N3:Lp):Fn:=Am PG (Q08 F2 Be D5 N3) 64 179 Qea Qh4
theorem Zmt (F2 Be D5:Fn) (v0 v1:Rw) (v2 v3:Int) (p:Pth) (x:Ax3) (t:Trk):Qn4 F2 Be D5 (.view kPt v0:: .view Aa v1::I v2::I v3::pxt p x t [])=
 bif decide (v3<v2)then
 bif decide (0<=v3)&&decide (v3<(v1.length:Int))then
 (D5 [jA (nth [] v1 v3.toNat) 0]).bind fun o8=>
 (Be (pxt p x t [jA o8 0])).bind fun o9=>
 bif((v0++[[jA o9 0,jA o9 1,jA o9 2]]).length*24).ble 140737488355328 then
 bif decide ((↑(v0++[[jA o9 0,jA o9 1,jA o9 2]]).length:Int)>4)then
 bif decide (0<=1)&&decide (1<=(↑(v0++[[jA o9 0,jA o9 1,jA o9 2]]).length:Int))then
 bif(Int.toNat 1).ble (v0++[[jA o9 0,jA o9 1,jA o9 2]]).length then
 (F2 (AI x++[.view kPt (List.drop (Int.toNat 1) (v0++[[jA o9 0,jA o9 1,jA o9 2]]))])).bind fun o10=>
 bif !bA o10 0 then
 some (1,[B false])
 else
 some (0,(.view kPt (List.drop (Int.toNat 1) (v0++[[jA o9 0,jA o9 1,jA o9 2]])):: .view Aa v1::I v2::I (IntKind.i64.wrap (v3+1))::pxt p x t []))
 else
 none
 else
 none
 else
 (F2 (AI x++[.view kPt (v0++[[jA o9 0,jA o9 1,jA o9 2]])])).bind fun o11=>
 bif !bA o11 0 then
 some (1,[B false])
 else
 some (0,(.view kPt (v0++[[jA o9 0,jA o9 1,jA o9 2]]):: .view Aa v1::I v2::I (IntKind.i64.wrap (v3+1))::pxt p x t []))
 else
 none
 else
 none
 else
 some (2,[]):=by kernel_rfl
theorem Zjx (F2 Be D5:Fn) (N3:Lp) (x41:Rw) (p:Pth) (x:Ax3) (t:Trk):Uy F2 Be D5 N3 (pxt p x t [.view Aa x41])=
 (N3 (.view kPt []:: .view Aa x41::I (x41.length:Int)::I 0::pxt p x t [])).bind fun o12=>
 bif o12.1.beq 1 then
 some [B (bA o12.2 0)]
 else
 bif o12.1.beq 2 then
 some [B true]
 else
 none:=by kernel_rfl
def Qrp:=An (Qn4 NJ Ez I4)
def OJ:=Uy NJ Ez I4 Qrp
theorem Qvl:Ai PG (YB NJ Ez I4):=Ao rfl ⟨Zvn,SP,Q6n,trivial⟩
theorem Zu6:Al PG (179,Ac Qea Qh4 OJ):=rw2 (C:=(Q08 NJ Ez I4 Qrp)) (fl fb Qvl) Qvl
def U2:Sk:=⟨[TS.v true [ci,ci,ci,CS.sl Ah,CS.sl kPt],TS.v true [ci,ci,ci,ci,ci,ci,ci,ci,ci,CS.sl Aa,ci,ci,ci,ci,ci,ci,ci,ci,ci,CS.sl Aa,ci,ci,ci,ci,ci,ci,ci,ci,ci,CS.sl Aa],TS.v true [CS.sl As,ci,ci,ci,ci,ci],TS.v true [ci,ci,ci],TS.v true [ci,ci,ci,ci,ci,ci],tf [ci]],[],[]⟩
def Qht:Sk:=⟨[tf [CS.bool]],[],[]⟩
def Qy0 (M:Fn):Nat×Spec:=(154,Ac U2 Qht M)
def Qc7 (KC A6:Fn):Cfg:={cf [Zoe KC,SC A6]with rowDst:=[48]}
def XE (KC A6:Fn):Fn:=Am PG (Qc7 KC A6) 64 154 U2 Qht
theorem Za7 (KC A6:Fn) (x41 x42 x43 x44 x45 x46 x47 x48 x49 x50:Int) (p:Pth) (x:Ax3) (t:Trk):XE KC A6 (pxt p x t [I x41,I x42,I x43,I x44,I x45,I x46,I x47,I x48,I x49,I x50])=
 (A6 [I x41,I x42,I x43,I x44,I x45,I x46,I x47,I x48,I x49]).bind fun o3=>
 bif !bA o3 1 then
 some [B false]
 else
 bif decide ((↑(wA o3 0).length:Int)>0)then
 bif decide (0<=IntKind.i64.wrap ((↑(wA o3 0).length:Int)-1))&&decide (IntKind.i64.wrap ((↑(wA o3 0).length:Int)-1)<(↑(wA o3 0).length:Int))then
 bif decide (Af (nth .dead (nth [] (wA o3 0) (IntKind.i64.wrap ((↑(wA o3 0).length:Int)-1)).toNat) 0)>IntKind.i64.wrap (x50*256))then
 some [B false]
 else
 bif(([[I x49],[I x48],[I x47],[I x44]]++wA o3 0).length*8).ble 140737488355328 then
 bif(([[I x49],[I x48],[I x47],[I x44]]++wA o3 0++[[I (Af (nth .dead (nth [] (wA o3 0) (IntKind.i64.wrap ((↑(wA o3 0).length:Int)-1)).toNat) 0))],[I (Af (nth .dead (nth [] (wA o3 0) (IntKind.i64.wrap ((↑(wA o3 0).length:Int)-1)).toNat) 0))]]).length*8).ble 140737488355328 then
 (KC (pxt p x t [.view Aa ([[I x49],[I x48],[I x47],[I x44]]++wA o3 0++[[I (Af (nth .dead (nth [] (wA o3 0) (IntKind.i64.wrap ((↑(wA o3 0).length:Int)-1)).toNat) 0))],[I (Af (nth .dead (nth [] (wA o3 0) (IntKind.i64.wrap ((↑(wA o3 0).length:Int)-1)).toNat) 0))]])])).bind fun o4=>
 some [B (bA o4 0)]
 else
 none
 else
 none
 else
 none
 else
 bif decide (x44>IntKind.i64.wrap (x50*256))then
 some [B false]
 else
 bif(([[I x49],[I x48],[I x47],[I x44]]++wA o3 0).length*8).ble 140737488355328 then
 bif(([[I x49],[I x48],[I x47],[I x44]]++wA o3 0++[[I x44],[I x44]]).length*8).ble 140737488355328 then
 (KC (pxt p x t [.view Aa ([[I x49],[I x48],[I x47],[I x44]]++wA o3 0++[[I x44],[I x44]])])).bind fun o5=>
 some [B (bA o5 0)]
 else
 none
 else
 none:=by kernel_rfl
def IP:=XE OJ Do
theorem Z3b:Ai PG (Qc7 OJ Do):=Ao rfl ⟨Zu6,QO,trivial⟩
theorem Qp2:Al PG (154,Ac U2 Qht IP):=rw1 (C:=(Qc7 OJ Do)) Z3b
def Qo9:Sk:=⟨[TS.v true [ci,ci,CS.bool,CS.bool,CS.bool],TS.v true [ci,ci,ci],TS.v true [ci,ci,ci,ci,ci,ci,ci]],[],[]⟩
def Qbh:Sk:=⟨[tf [ci]],[],[]⟩
def Za4 (M:Fn):Nat×Spec:=(198,Ac Qo9 Qbh M)
def Qar:Cfg:=cf []
def QT:Fn:=Am PG Qar 64 198 Qo9 Qbh
theorem Q2x (x0 x1:Int) (x2 x3 x4:Bool) (x5 x6 x7 x8 x9 x10 x11 x12 x13 x14:Int):QT [I x0,I x1,B x2,B x3,B x4,I x5,I x6,I x7,I x8,I x9,I x10,I x11,I x12,I x13,I x14]=
 bif x2 then
 some [I 0]
 else
 bif x14 !=0 then
 some [I (mn (mx x13 1) 16777216)]
 else
 bif x13==0 then
 bif x1==0 then
 some [I 0]
 else
 some [I (mn (mx (IntKind.i64.wrap ((IntKind.i64.wrap (x7*x1)).tdiv 100)) 1) 16777216)]
 else
 bif x0==0 then
 some [I 0]
 else
 some [I (mn (mx (IntKind.i64.wrap ((IntKind.i64.wrap (x13*x0)).tdiv 100)) 1) 16777216)]:=by kernel_rfl
def M_:=QT
theorem Z0j:Ai PG (Qar):=Ao rfl trivial
theorem Zzj:Al PG (198,Ac Qo9 Qbh M_):=rw1 (C:=Qar) Z0j
def Qgg:Sk:=⟨[TS.v true [ci,ci,ci,CS.sl Ah,CS.sl kPt],TS.v true [CS.sl As,ci,ci,ci,ci,ci],TS.v true [ci,ci,ci],TS.v true [ci,ci,CS.bool,CS.bool,CS.bool],tf [ci]],[],[]⟩
def Qor:Sk:=⟨[tf [ci]],[],[]⟩
def Z1v (M:Fn):Nat×Spec:=(178,Ac Qgg Qor M)
def Qac (NI Dn BD D5:Fn):Cfg:=cf [Za4 NI,T3 Dn,PD BD,Qw0 D5]
def RS (NI Dn BD D5:Fn):Fn:=Am PG (Qac NI Dn BD D5) 64 178 Qgg Qor
theorem Qxf (NI Dn BD D5:Fn) (x11 x12 x13 x14 x15:Int) (x16 x17 x18:Bool) (x19:Int) (p:Pth) (t:Trk):RS NI Dn BD D5 (Df p t [I x11,I x12,I x13,I x14,I x15,B x16,B x17,B x18,I x19])=
 (D5 [I x19]).bind fun o4=>
 (BD (Bj t++[jA o4 0])).bind fun o5=>
 (Dn (By p++[jA o5 0])).bind fun o6=>
 bif decide (0<=gA o6 0)&&decide (gA o6 0<((p.segs.map Ay).length:Int))then
 (NI (I x14::I x15::B x16::B x17::B x18::I x11::I x12::I x13::AJ Ah (nth [] (p.segs.map Ay) (gA o6 0).toNat))).bind fun o7=>
 some [jA o7 0]
 else
 none:=by kernel_rfl
def Kt:=RS M_ EI Dv I4
theorem Zqy:Ai PG (Qac M_ EI Dv I4):=Ao rfl ⟨Zzj,Qgi,OU,Q6n,trivial⟩
theorem Ztd:Al PG (178,Ac Qgg Qor Kt):=rw1 (C:=(Qac M_ EI Dv I4)) Zqy
def Qkd:Sk:=⟨[TS.v true [ci,ci,ci,CS.sl Ah,CS.sl kPt],TS.v true [CS.sl As,ci,ci,ci,ci,ci],TS.v true [ci,ci,ci],TS.v true [ci,ci,CS.bool,CS.bool,CS.bool],TS.v true [ci,ci,ci,ci,ci,ci]],[],[]⟩
def Qmf:Sk:=⟨[tf [CS.bool]],[],[]⟩
def Zg0 (M:Fn):Nat×Spec:=(153,Ac Qkd Qmf M)
def Uw (F3 A6:Fn):Cfg:=cf [Z1v F3,SC A6]
def Q07:Sk:=⟨[td,td,td,td,td,tf [CS.ptr 5 0],tf [CS.ptr 6 0],tf [CS.ptr 7 0],tf [CS.ptr 8 0],td,td,td,td,tf [ci],td,td,td,td,td,td,td,td,td,td,td,td,td,td,td,td,td,td,td,td,td,td,td,td,td,td,td,td,td,td,tf [CS.sl Aa],tf [ci],tf [ci]]++dd 15,[(5,58,[ci,ci,ci,CS.sl Ah,CS.sl kPt]),(6,62,[CS.sl As,ci,ci,ci,ci,ci]),(7,29,[ci,ci,ci]),(8,92,[ci,ci,CS.bool,CS.bool,CS.bool])],[]⟩
def Q1a:List (Ex×Sk):=[(Ex.ret,⟨[td,td,td,td,td,td,td,td,td,td,tf [CS.bool]]++dd 51,[],[]⟩),(Ex.exit 0,⟨[td]++dd 61,[],[]⟩)]
def QF (F3 A6:Fn):Lp:=AN PG (Uw F3 A6) 64 6 (AO PG 153 6) Q07 Q1a
def Qvn (F3 A6:Fn) (N6:Lp):Cfg:=(Uw F3 A6).loop 6 Q07 Q1a N6
def TN (F3 A6:Fn) (N6:Lp):Fn:=Am PG (Qvn F3 A6 N6) 64 153 Qkd Qmf
theorem Qrt (F3 A6:Fn) (v0:Int) (v1:Rw) (v2 v3:Int) (v15 v16 v17 v18 v19:Int) (v20 v21 v22:Bool) (p:Pth) (t:Trk):QF F3 A6 (I v0:: .view Aa v1::I v2::I v3::Df p t [I v15,I v16,I v17,I v18,I v19,B v20,B v21,B v22])=
 bif decide (v3<v2)then
 bif decide (0<=v3)&&decide (v3<(v1.length:Int))then
 (F3 (Df p t [I v15,I v16,I v17,I v18,I v19,B v20,B v21,B v22,jA (nth [] v1 v3.toNat) 0])).bind fun o6=>
 bif decide (IntKind.i64.wrap (gA (nth [] v1 v3.toNat) 0-v0)>gA o6 0)then
 some (1,[B false])
 else
 some (0,(jA (nth [] v1 v3.toNat) 0:: .view Aa v1::I v2::I (IntKind.i64.wrap (v3+1))::Df p t [I v15,I v16,I v17,I v18,I v19,B v20,B v21,B v22]))
 else
 none
 else
 some (2,[]):=by kernel_rfl
theorem Qvf (F3 A6:Fn) (N6:Lp) (x11 x12 x13 x14 x15:Int) (x16 x17 x18:Bool) (x19 x20 x21 x22 x23 x24:Int) (p:Pth) (t:Trk):TN F3 A6 N6 (Df p t [I x11,I x12,I x13,I x14,I x15,B x16,B x17,B x18,I x19,I x20,I x21,I x22,I x23,I x24])=
 (A6 [I x11,I x12,I x13,I x19,I x20,I x21,I x22,I x23,I x24]).bind fun o7=>
 bif !bA o7 1 then
 some [B false]
 else
 bif((p.segs.map Ay).length:Int)==0 then
 some [B false]
 else
 (F3 (Df p t [I x11,I x12,I x13,I x14,I x15,B x16,B x17,B x18,I x19])).bind fun o8=>
 bif decide (x20>gA o8 0)then
 some [B false]
 else
 (N6 (I x19:: .view Aa (wA o7 0)::I (↑(wA o7 0).length:Int)::I 0::Df p t [I x11,I x12,I x13,I x14,I x15,B x16,B x17,B x18])).bind fun o9=>
 bif o9.1.beq 1 then
 some [B (bA o9.2 0)]
 else
 bif o9.1.beq 2 then
 some [B true]
 else
 none:=by kernel_rfl
def Q8a:=An (QF Kt Do)
def JR:=TN Kt Do Q8a
theorem Qvm:Ai PG (Uw Kt Do):=Ao rfl ⟨Ztd,QO,trivial⟩
theorem Z1p:Al PG (153,Ac Qkd Qmf JR):=rw2 (C:=(Qvn Kt Do Q8a)) (fl fb Qvm) Qvm
def Qij:Sk:=⟨[TS.v true [ci,ci,ci,ci,ci,ci],tf [ci]],[],[]⟩
def Qdj:Sk:=⟨[TS.v true [ci,ci,ci,ci,ci,ci]],[],[]⟩
def Qra (M:Fn):Nat×Spec:=(152,Ac Qij Qdj M)
def Qds:Cfg:=cf []
def Qoo:Fn:=Am PG Qds 64 152 Qij Qdj
theorem Q8x (x0 x1 x2 x3 x4 x5 x6:Int):Qoo [I x0,I x1,I x2,I x3,I x4,I x5,I x6]=
 some [I (IntKind.i64.wrap (x0+x6)),I x6,I (IntKind.i64.wrap (x6-x1)),I x0,I x3,I x4]:=by kernel_rfl
def IJ:=Qoo
theorem Zci:Ai PG (Qds):=Ao rfl trivial
theorem Q8k:Al PG (152,Ac Qij Qdj IJ):=rw1 (C:=Qds) Zci
def VW:Sk:=⟨[tf [ci]],[],[]⟩
def Ux:Sk:=⟨[tf [CS.sl Aa]],[],[]⟩
def Zoj (M:Fn):Nat×Spec:=(151,Ac VW Ux M)
def C_planner_changes_0:Cfg:={cf []with prom:=fun b=>bif Nat.beq b 3 then [(3,3)]else []}
def Qx3:Sk:=⟨[td,td,td,tf [CS.own 3 1],tf [ci]]++dd 32,[],[(3,3,Aa)]⟩
def Qw6:List (Ex×Sk):=[(Ex.exit 0,⟨[td,td,td,tf [CS.own 3 1]]++dd 33,[],[(3,3,Aa)]⟩)]
def PK:Lp:=AN PG C_planner_changes_0 64 3 (AO PG 151 3) Qx3 Qw6
def Q8f (N3:Lp):Cfg:=C_planner_changes_0.loop 3 Qx3 Qw6 N3
def Qtf:Sk:=⟨[td,td,td,tf [CS.own 3 1],td,tf [CS.own 16 1],tf [ci]]++dd 30,[],[(3,3,Aa),(16,3,Aa)]⟩
def Q6x:List (Ex×Sk):=[(Ex.exit 2,⟨[td,td,td,td,td,tf [CS.own 16 1]]++dd 31,[],[(16,3,Aa)]⟩)]
def SX (N3:Lp):Lp:=AN PG (Q8f N3) 64 8 (AO PG 151 8) Qtf Q6x
def Qsa (N3 N8:Lp):Cfg:=(Q8f N3).loop 8 Qtf Q6x N8
def Z0 (N3 N8:Lp):Fn:=Am PG (Qsa N3 N8) 64 151 VW Ux
theorem Ztt (v0:Rw) (v1:Int):PK [.view Aa v0,I v1]=
 bif decide (v1>0)then
 bif((v0++[[I v1]]).length*8).ble 140737488355328 then
 some (0,[.view Aa (v0++[[I v1]]),I (IntKind.i64.wrap (v1.tdiv 2))])
 else
 none
 else
 some (1,[.view Aa v0]):=by kernel_rfl
theorem Zh6 (N3:Lp) (v0 v1:Rw) (v2:Int):SX N3 [.view Aa v0, .view Aa v1,I v2]=
 bif decide (v2>=0)then
 bif decide (0<=v2)&&decide (v2<(v0.length:Int))then
 bif((v1++[[I (IntKind.i64.wrap (0-gA (nth [] v0 v2.toNat) 0))]]).length*8).ble 140737488355328 then
 some (0,[.view Aa v0, .view Aa (v1++[[I (IntKind.i64.wrap (0-gA (nth [] v0 v2.toNat) 0))]]),I (IntKind.i64.wrap (v2-1))])
 else
 none
 else
 none
 else
 some (1,[.view Aa v1]):=by kernel_rfl
theorem Zu7 (N3 N8:Lp) (x0:Int):Z0 N3 N8 [I x0]=
 (N3 [.view Aa [],I x0]).bind fun o3=>
 bif o3.1.beq 1 then
 bif(([]++wA o3.2 0).length*8).ble 140737488355328 then
 bif(([]++wA o3.2 0++[[I 0]]).length*8).ble 140737488355328 then
 (N8 [.view Aa (wA o3.2 0), .view Aa ([]++wA o3.2 0++[[I 0]]),I (IntKind.i64.wrap ((↑(wA o3.2 0).length:Int)-1))]).bind fun o4=>
 bif o4.1.beq 1 then
 some [.view Aa (wA o4.2 0)]
 else
 none
 else
 none
 else
 none
 else
 none:=by kernel_rfl
def Qdx:=An (PK)
def Q4p:=An (SX Qdx)
def Nt:=Z0 Qdx Q4p
theorem Zq:Ai PG (C_planner_changes_0):=Ao rfl trivial
theorem Zzo:Al PG (151,Ac VW Ux Nt):=rw2 (C:=(Qsa Qdx Q4p)) (fl (fl fb Zq) Zq) Zq
def Qkr:Sk:=⟨[TS.v true [ci,ci,ci,CS.sl Ah,CS.sl kPt],TS.v true [ci,ci,ci,ci,ci,ci,ci,ci,ci,CS.sl Aa,ci,ci,ci,ci,ci,ci,ci,ci,ci,CS.sl Aa,ci,ci,ci,ci,ci,ci,ci,ci,ci,CS.sl Aa],TS.v true [CS.sl As,ci,ci,ci,ci,ci],TS.v true [ci,ci,ci],TS.v true [ci,ci,CS.bool,CS.bool,CS.bool],TS.v true [ci,ci,ci,ci,ci,ci],tf [ci]],[],[]⟩
def Qku:Sk:=⟨[TS.v true [ci,ci,ci,ci,ci,ci]],[],[]⟩
def XM (M:Fn):Nat×Spec:=(104,Ac Qkr Qku M)
def VJ (Bw DC Gt Cg CE GV:Fn):Cfg:=cf [Qlq Bw,Qy0 DC,Zg0 Gt,Qra Cg,Q2h CE,Zoj GV]
def Qu0:Sk:=⟨[td,td,td,td,td,td,tf [ci],tf [CS.ptr 7 0],tf [CS.ptr 8 0],tf [CS.ptr 9 0],tf [CS.ptr 10 0],tf [CS.ptr 11 0],tf [CS.ptr 12 0],td,tf [CS.ptr 14 0],tf [CS.ptr 15 0],tf [CS.bool],td,td,td,td,td,td,tf [CS.sl Aa],tf [ci],tf [ci]]++dd 57,[(7,58,[ci,ci,ci,CS.sl Ah,CS.sl kPt]),(8,27,[ci,ci,ci,ci,ci,ci,ci,ci,ci,CS.sl Aa,ci,ci,ci,ci,ci,ci,ci,ci,ci,CS.sl Aa,ci,ci,ci,ci,ci,ci,ci,ci,ci,CS.sl Aa]),(9,62,[CS.sl As,ci,ci,ci,ci,ci]),(10,29,[ci,ci,ci]),(11,92,[ci,ci,CS.bool,CS.bool,CS.bool]),(12,50,[ci,ci,ci,ci,ci,ci]),(14,50,[ci,ci,ci,ci,ci,ci]),(15,50,[ci,ci,ci,ci,ci,ci])],[]⟩
def Q7o:List (Ex×Sk):=[(Ex.exit 0,⟨[td,td,td,td,td,td,td,td,td,td,tf [CS.ptr 10 0],td,tf [CS.ptr 12 0],td,tf [CS.ptr 14 0],tf [CS.ptr 15 0],tf [CS.bool]]++dd 66,[(10,29,[ci,ci,ci]),(12,50,[ci,ci,ci,ci,ci,ci]),(14,50,[ci,ci,ci,ci,ci,ci]),(15,50,[ci,ci,ci,ci,ci,ci])],[]⟩)]
def Qd1 (Bw DC Gt Cg CE GV:Fn):Lp:=AN PG (VJ Bw DC Gt Cg CE GV) 64 4 (AO PG 104 4) Qu0 Q7o
def Qrd (Bw DC Gt Cg CE GV:Fn) (N4:Lp):Cfg:=(VJ Bw DC Gt Cg CE GV).loop 4 Qu0 Q7o N4
def Qlx (Bw DC Gt Cg CE GV:Fn) (N4:Lp):Fn:=Am PG (Qrd Bw DC Gt Cg CE GV N4) 64 104 Qkr Qku
theorem Zgs (Bw DC Gt Cg CE GV:Fn) (v0:Int) (v1:Bool) (v2:Rw) (v3 v4:Int) (v46 v47 v48 v49 v50:Int) (v51 v52 v53:Bool) (v54 v55 v56 v57 v58 v59 v60 v61 v62 v63 v64 v65 v66 v67 v68 v69 v70 v71:Int) (p:Pth) (x:Ax3) (t:Trk):Qd1 Bw DC Gt Cg CE GV (I v0::B v1:: .view Aa v2::I v3::I v4::pxt p x t [I v46,I v47,I v48,I v49,I v50,B v51,B v52,B v53,I v54,I v55,I v56,I v57,I v58,I v59,I v60,I v61,I v62,I v63,I v64,I v65,I v66,I v67,I v68,I v69,I v70,I v71])=
 bif decide (v4<v3)then
 bif decide (0<=v4)&&decide (v4<(v2.length:Int))then
 bif decide (IntKind.i64.wrap (v55+IntKind.i64.wrap (v56+gA (nth [] v2 v4.toNat) 0))<0)then
 some (0,(I v0::B v1:: .view Aa v2::I v3::I (IntKind.i64.wrap (v4+1))::pxt p x t [I v46,I v47,I v48,I v49,I v50,B v51,B v52,B v53,I v54,I v55,I v56,I v57,I v58,I v59,I v60,I v61,I v62,I v63,I v64,I v65,I v66,I v67,I v68,I v69,I v70,I v71]))
 else
 (CE [I v46,I v47,I v48,I (IntKind.i64.wrap (v55+IntKind.i64.wrap (v56+gA (nth [] v2 v4.toNat) 0))),I (IntKind.i64.wrap (v56+gA (nth [] v2 v4.toNat) 0))]).bind fun o9=>
 bif !bA o9 0 then
 some (0,(I v0::B v1:: .view Aa v2::I v3::I (IntKind.i64.wrap (v4+1))::pxt p x t [I v46,I v47,I v48,I v49,I v50,B v51,B v52,B v53,I v54,I v55,I v56,I v57,I v58,I v59,I v60,I v61,I v62,I v63,I v64,I v65,I v66,I v67,I v68,I v69,I v70,I v71]))
 else
 (Cg [I v54,I v55,I v56,I v57,I v58,I v59,I (IntKind.i64.wrap (v55+IntKind.i64.wrap (v56+gA (nth [] v2 v4.toNat) 0)))]).bind fun o10=>
 (Gt (Df p t [I v46,I v47,I v48,I v49,I v50,B v51,B v52,B v53,jA o10 0,jA o10 1,jA o10 2,jA o10 3,jA o10 4,jA o10 5])).bind fun o11=>
 bif bA o11 0 then
 (DC (pxt p x t [I v46,I v47,I v48,jA o10 0,jA o10 1,jA o10 2,jA o10 3,jA o10 4,jA o10 5,I v0])).bind fun o12=>
 bif bA o12 0 then
 some (1,[B true,I v46,I v47,I v48,I v54,I v55,I v56,I v57,I v58,I v59,I v60,I v61,I v62,I v63,I v64,I v65,jA o10 0,jA o10 1,jA o10 2,jA o10 3,jA o10 4,jA o10 5])
 else
 some (0,(I v0::B v1:: .view Aa v2::I v3::I (IntKind.i64.wrap (v4+1))::pxt p x t [I v46,I v47,I v48,I v49,I v50,B v51,B v52,B v53,I v54,I v55,I v56,I v57,I v58,I v59,I v60,I v61,I v62,I v63,I v64,I v65,jA o10 0,jA o10 1,jA o10 2,jA o10 3,jA o10 4,jA o10 5]))
 else
 some (0,(I v0::B v1:: .view Aa v2::I v3::I (IntKind.i64.wrap (v4+1))::pxt p x t [I v46,I v47,I v48,I v49,I v50,B v51,B v52,B v53,I v54,I v55,I v56,I v57,I v58,I v59,I v60,I v61,I v62,I v63,I v64,I v65,jA o10 0,jA o10 1,jA o10 2,jA o10 3,jA o10 4,jA o10 5]))
 else
 none
 else
 some (1,[B v1,I v46,I v47,I v48,I v54,I v55,I v56,I v57,I v58,I v59,I v60,I v61,I v62,I v63,I v64,I v65,I v66,I v67,I v68,I v69,I v70,I v71]):=by kernel_rfl
theorem Zbt (Bw DC Gt Cg CE GV:Fn) (N4:Lp) (x41 x42 x43 x44 x45:Int) (x46 x47 x48:Bool) (x49 x50 x51 x52 x53 x54 x55:Int) (p:Pth) (x:Ax3) (t:Trk):Qlx Bw DC Gt Cg CE GV N4 (pxt p x t [I x41,I x42,I x43,I x44,I x45,B x46,B x47,B x48,I x49,I x50,I x51,I x52,I x53,I x54,I x55])=
 (GV [I x42]).bind fun o13=>
 (N4 (I x55::B false:: .view Aa (wA o13 0)::I (↑(wA o13 0).length:Int)::I 0::pxt p x t [I x41,I x42,I x43,I x44,I x45,B x46,B x47,B x48,I x49,I x50,I x51,I x52,I x53,I x54,I 0,I 0,I 0,I 0,I 0,I 0,I 0,I 0,I 0,I 0,I 0,I 0])).bind fun o14=>
 bif o14.1.beq 1 then
 bif bA o14.2 0 then
 some [jA o14.2 16,jA o14.2 17,jA o14.2 18,jA o14.2 19,jA o14.2 20,jA o14.2 21]
 else
 (Bw [jA o14.2 1,jA o14.2 2,jA o14.2 3,jA o14.2 5,jA o14.2 6]).bind fun o15=>
 (Cg [jA o14.2 4,jA o14.2 5,jA o14.2 6,jA o14.2 7,jA o14.2 8,jA o14.2 9,I (IntKind.i64.wrap (gA o14.2 5+gA o15 0))]).bind fun o16=>
 some [jA o16 0,jA o16 1,jA o16 2,jA o16 3,jA o16 4,jA o16 5]
 else
 none:=by kernel_rfl
def Qsb:=An (Qd1 Fm IP JR IJ GJ Nt)
def ET:=Qlx Fm IP JR IJ GJ Nt Qsb
theorem Qvq:Ai PG (VJ Fm IP JR IJ GJ Nt):=Ao rfl ⟨Wi,Qp2,Z1p,Q8k,Qvp,Zzo,trivial⟩
theorem Qh2:Al PG (104,Ac Qkr Qku ET):=rw2 (C:=(Qrd Fm IP JR IJ GJ Nt Qsb)) (fl fb Qvq) Qvq
def Ql8:Sk:=⟨[tf [ci],tf [ci]],[],[]⟩
def Qho:Sk:=⟨[tf [ci]],[],[]⟩
def Zpp (M:Fn):Nat×Spec:=(200,Ac Ql8 Qho M)
def Qby (AG:Fn):Cfg:=cf [Kx AG]
def Qce (AG:Fn):Fn:=Am PG (Qby AG) 64 200 Ql8 Qho
theorem Zt3 (AG:Fn) (x0 x1:Int):Qce AG [I x0,I x1]=
 (AG [I x0,I x1,I 4096,I 0]).bind fun o1=>
 some [jA o1 0]:=by kernel_rfl
def PE:=Qce Bq
theorem Ztx:Ai PG (Qby Bq):=Ao rfl ⟨Lt,trivial⟩
theorem Zhh:Al PG (200,Ac Ql8 Qho PE):=rw1 (C:=(Qby Bq)) Ztx
def UQ:Sk:=⟨[tf [ci],tf [ci]],[],[]⟩
def Qma:Sk:=⟨[tf [ci]],[],[]⟩
def Zbm (M:Fn):Nat×Spec:=(201,Ac UQ Qma M)
def Qlm:Cfg:=cf []
def Qdi:Fn:=Am PG Qlm 64 201 UQ Qma
theorem Zzg (x0 x1:Int):Qdi [I x0,I x1]=
 some [I (mx (IntKind.i64.wrap (x0-x1)) (IntKind.i64.wrap (x1-x0)))]:=by kernel_rfl
def Px:=Qdi
theorem Z0h:Ai PG (Qlm):=Ao rfl trivial
theorem Znq:Al PG (201,Ac UQ Qma Px):=rw1 (C:=Qlm) Z0h
def Yk:Sk:=⟨[TS.v true [ci,ci,ci,CS.sl Ah,CS.sl kPt],TS.v true [ci,ci,ci,ci,ci,ci,ci,ci,ci,CS.sl Aa,ci,ci,ci,ci,ci,ci,ci,ci,ci,CS.sl Aa,ci,ci,ci,ci,ci,ci,ci,ci,ci,CS.sl Aa],TS.v true [CS.sl As,ci,ci,ci,ci,ci],TS.v true [ci,ci,ci],TS.v true [ci,ci,CS.bool,CS.bool,CS.bool],TS.v true [ci,ci,ci,ci,ci,ci],tf [ci],tf [ci],TS.v true [ci,ci,ci,ci],tf [ci],tf [ci]],[],[]⟩
def UZ:Sk:=⟨[TS.tup [(true,[ci,ci,ci,ci,ci,ci]),(true,[ci,ci,ci,ci]),(false,[ci])]],[],[]⟩
def Zpe (M:Fn):Nat×Spec:=(181,Ac Yk UZ M)
def X1 (CA Bw Bs DC Cg KX LZ:Fn):Cfg:=cf [XM CA,Qlq Bw,Wg Bs,Qy0 DC,Qra Cg,Zpp KX,Zbm LZ]
def Qbx (CA Bw Bs DC Cg KX LZ:Fn):Fn:=Am PG (X1 CA Bw Bs DC Cg KX LZ) 64 181 Yk UZ
abbrev TW (Bs:Fn) (x41 x42 x43:Int) (o33:List AC) (x58:Int) (o26:List AC) (x60 x49 x55:Int) (Bw:Fn) (x50 x51:Int) (Cg:Fn) (x52 x53 x54 x59:Int):Option (List AC):=
 (Bs [I x41,I x42,I x43,jA o33 0,jA o33 1,jA o33 2,jA o33 3,jA o33 4,jA o33 5]).bind fun o35=>
 bif decide (IntKind.i64.wrap (IntKind.i64.wrap (IntKind.i64.wrap (x58+gA o26 0)-x60)-x49)>=0)then
 bif decide (gA o35 0>IntKind.i64.wrap (x55*256))then
 (Bw [I x41,I x42,I x43,I x50,I x51]).bind fun o36=>
 (Cg [I x49,I x50,I x51,I x52,I x53,I x54,I (IntKind.i64.wrap (x50+gA o36 0))]).bind fun o37=>
 some [jA o37 0,jA o37 1,jA o37 2,jA o37 3,jA o37 4,jA o37 5,I 3,I x58,I x59,I x60,I 0]
 else
 (Bw [I x41,I x42,I x43,I x50,I x51]).bind fun o38=>
 (Cg [I x49,I x50,I x51,I x52,I x53,I x54,I (IntKind.i64.wrap (x50+gA o38 0))]).bind fun o39=>
 some [jA o39 0,jA o39 1,jA o39 2,jA o39 3,jA o39 4,jA o39 5,I 3,I x58,I x59,I x60,I 18]
 else
 (Bw [I x41,I x42,I x43,I x50,I x51]).bind fun o40=>
 (Cg [I x49,I x50,I x51,I x52,I x53,I x54,I (IntKind.i64.wrap (x50+gA o40 0))]).bind fun o41=>
 some [jA o41 0,jA o41 1,jA o41 2,jA o41 3,jA o41 4,jA o41 5,I 3,I x58,I x59,I x60,I 18]
attribute [go_sem] TW
theorem Zaq (CA Bw Bs DC Cg KX LZ:Fn) (x41 x42 x43 x44 x45:Int) (x46 x47 x48:Bool) (x49 x50 x51 x52 x53 x54 x55 x56 x57 x58 x59 x60 x61 x62:Int) (p:Pth) (x:Ax3) (t:Trk):Qbx CA Bw Bs DC Cg KX LZ (pxt p x t [I x41,I x42,I x43,I x44,I x45,B x46,B x47,B x48,I x49,I x50,I x51,I x52,I x53,I x54,I x55,I x56,I x57,I x58,I x59,I x60,I x61,I x62])=
 (LZ [I x62,I x59]).bind fun o25=>
 (KX [I x56,jA o25 0]).bind fun o26=>
 bif x57==1 then
 (LZ [I x61,I x59]).bind fun o27=>
 (KX [I x56,jA o27 0]).bind fun o28=>
 (Cg [I x49,I x50,I x51,I x52,I x53,I x54,I (IntKind.i64.wrap (gA o26 0-gA o28 0))]).bind fun o29=>
 bif IntKind.i64.wrap (gA o26 0-gA o28 0) !=0 then
 (DC (pxt p x t [I x41,I x42,I x43,jA o29 0,jA o29 1,jA o29 2,jA o29 3,jA o29 4,jA o29 5,I x55])).bind fun o30=>
 bif bA o30 0 then
 some [jA o29 0,jA o29 1,jA o29 2,jA o29 3,jA o29 4,jA o29 5,I 2,I x58,I x59,I (IntKind.i64.wrap (gA o26 0-IntKind.i64.wrap (gA o29 0-x58))),I 0]
 else
 (CA (pxt p x t [I x41,I x42,I x43,I x44,I x45,B false,B x47,B x48,I x49,I x50,I x51,I x52,I x53,I x54,I x55])).bind fun o31=>
 some [jA o31 0,jA o31 1,jA o31 2,jA o31 3,jA o31 4,jA o31 5,I x57,I x58,I x59,I x60,I 0]
 else
 (CA (pxt p x t [I x41,I x42,I x43,I x44,I x45,B false,B x47,B x48,I x49,I x50,I x51,I x52,I x53,I x54,I x55])).bind fun o32=>
 some [jA o32 0,jA o32 1,jA o32 2,jA o32 3,jA o32 4,jA o32 5,I x57,I x58,I x59,I x60,I 0]
 else
 bif x57==2 then
 (Cg [I x49,I x50,I x51,I x52,I x53,I x54,I (IntKind.i64.wrap (IntKind.i64.wrap (IntKind.i64.wrap (x58+gA o26 0)-x60)-x49))]).bind fun o33=>
 bif decide (IntKind.i64.wrap (IntKind.i64.wrap (IntKind.i64.wrap (x58+gA o26 0)-x60)-x49)>=0)then
 (DC (pxt p x t [I x41,I x42,I x43,jA o33 0,jA o33 1,jA o33 2,jA o33 3,jA o33 4,jA o33 5,I x55])).bind fun o34=>
 bif bA o34 0 then
 some [jA o33 0,jA o33 1,jA o33 2,jA o33 3,jA o33 4,jA o33 5,I x57,I x58,I x59,I x60,I 0]
 else
 TW Bs x41 x42 x43 o33 x58 o26 x60 x49 x55 Bw x50 x51 Cg x52 x53 x54 x59
 else
 TW Bs x41 x42 x43 o33 x58 o26 x60 x49 x55 Bw x50 x51 Cg x52 x53 x54 x59
 else
 (CA (pxt p x t [I x41,I x42,I x43,I x44,I x45,B false,B x47,B x48,I x49,I x50,I x51,I x52,I x53,I x54,I x55])).bind fun o49=>
 some [jA o49 0,jA o49 1,jA o49 2,jA o49 3,jA o49 4,jA o49 5,I x57,I x58,I x59,I x60,I 0]:=by kernel_rfl
def Jp:=Qbx ET Fm DY IP IJ PE Px
theorem Q9h:Ai PG (X1 ET Fm DY IP IJ PE Px):=Ao rfl ⟨Qh2,Wi,Vn,Qp2,Q8k,Zhh,Znq,trivial⟩
theorem Zrn:Al PG (181,Ac Yk UZ Jp):=rw1 (C:=(X1 ET Fm DY IP IJ PE Px)) Q9h
def XJ:Sk:=⟨[tf [CS.ptr 20000 0],tf [ci]],[(20000,119,cS)],[]⟩
def Ql5:Sk:=⟨[TS.tup []],[(20000,119,cS)],[]⟩
def XQ (M:Fn):Nat×Spec:=(159,Ac XJ Ql5 M)
def Qjx (CA:Fn):Cfg:=cf [XM CA]
def UA (CA:Fn):Fn:=Am PG (Qjx CA) 64 159 XJ Ql5
theorem Z11 (CA:Fn) (x0:Int) (K:Kf) (c:Cv):UA CA (I x0::Ad K c)=
 (CA (pxt K.p K.x K.t [I K.pa,I K.pb,I K.pc,I c.o0,I c.o1,B c.o2,B c.o3,B c.o4,I c.m0,I c.m1,I c.m2,I c.m3,I c.m4,I c.m5,I x0])).bind fun o1=>
 some (Ad K {c with m0:=gA o1 0,m1:=gA o1 1,m2:=gA o1 2,m3:=gA o1 3,m4:=gA o1 4,m5:=gA o1 5}):=by kernel_rfl
def Hb:=UA ET
theorem Zt1:Ai PG (Qjx ET):=Ao rfl ⟨Qh2,trivial⟩
theorem Qg7:Al PG (159,Ac XJ Ql5 Hb):=rw1 (C:=(Qjx ET)) Zt1
def Qoi:Sk:=⟨[tf [CS.ptr 20000 0],tf [ci],TS.v true [ci,ci,ci,ci,ci,ci,ci]],[(20000,119,cS)],[]⟩
def ZO:Sk:=⟨[TS.tup []],[(20000,119,cS)],[]⟩
def Zf8 (M:Fn):Nat×Spec:=(162,Ac Qoi ZO M)
def Qnj (C6 Mf Ds:Fn):Cfg:=cp [Vv C6,Zpe Mf,XQ Ds] [108,159]
def Qb1 (C6 Mf Ds:Fn):Fn:=Am PG (Qnj C6 Mf Ds) 64 162 Qoi ZO
theorem Z2v (C6 Mf Ds:Fn) (x0 x1 x2 x3 x4 x5 x6 x7:Int) (K:Kf) (c:Cv):Qb1 C6 Mf Ds (I x0::I x1::I x2::I x3::I x4::I x5::I x6::I x7::Ad K c)=
 bif c.g0 !=0 then
 (Ds (I x0::Ad K c)).bind fun o3=>
 some (DW (cR 0 o3) [(82,I 3)])
 else
 (Mf (pxt K.p K.x K.t [I K.pa,I K.pb,I K.pc,I c.o0,I c.o1,B c.o2,B c.o3,B c.o4,I c.m0,I c.m1,I c.m2,I c.m3,I c.m4,I c.m5,I x0,I x7,I c.e0,I c.e1,I c.e2,I c.e3,I c.before,I c.s3])).bind fun o4=>
 bif gA o4 10 !=0 then
 (C6 (Ad K {c with m0:=gA o4 0,m1:=gA o4 1,m2:=gA o4 2,m3:=gA o4 3,m4:=gA o4 4,m5:=gA o4 5,e0:=gA o4 6,e1:=gA o4 7,e2:=gA o4 8,e3:=gA o4 9})).bind fun o5=>
 some (cR 0 o5)
 else
 some (Ad K {c with m0:=gA o4 0,m1:=gA o4 1,m2:=gA o4 2,m3:=gA o4 3,m4:=gA o4 4,m5:=gA o4 5,e0:=gA o4 6,e1:=gA o4 7,e2:=gA o4 8,e3:=gA o4 9}):=by kernel_rfl
def Qu:=Qb1 GC Jp Hb
theorem Zq3:Ai PG (Qnj GC Jp Hb):=Ao rfl ⟨UY,Zrn,Qg7,trivial⟩
theorem Zj4:Al PG (162,Ac Qoi ZO Qu):=rw1 (C:=(Qnj GC Jp Hb)) Zq3
def Qkp:Sk:=⟨[tf [ci],tf [ci]],[],[]⟩
def Qge:Sk:=⟨[tf [ci]],[],[]⟩
def Zkq (M:Fn):Nat×Spec:=(42,Ac Qkp Qge M)
def XN (AG:Fn):Cfg:=cf [Kx AG]
def Qfj (AG:Fn):Fn:=Am PG (XN AG) 64 42 Qkp Qge
theorem Q9f (AG:Fn) (x0 x1:Int):Qfj AG [I x0,I x1]=
 (AG [I 4096,I x1,I x0,I 0]).bind fun o1=>
 some [jA o1 0]:=by kernel_rfl
def JM:=Qfj Bq
theorem Zy4:Ai PG (XN Bq):=Ao rfl ⟨Lt,trivial⟩
theorem Zqv:Al PG (42,Ac Qkp Qge JM):=rw1 (C:=(XN Bq)) Zy4
def Qbd:Sk:=⟨[tf [CS.ptr 20000 0],tf [ci],TS.v true [ci,ci,ci,ci,ci,ci,ci]],[(20000,119,cS)],[]⟩
def ZC:Sk:=⟨[TS.tup []],[(20000,119,cS)],[]⟩
def Zmo (M:Fn):Nat×Spec:=(161,Ac Qbd ZC M)
def ZP (K3 Bx Ds:Fn):Cfg:=cr [Zkq K3,L_ Bx,XQ Ds] [110,159] [110]
def Ya (K3 Bx Ds:Fn):Fn:=Am PG (ZP K3 Bx Ds) 64 161 Qbd ZC
theorem Q91 (K3 Bx Ds:Fn) (x0 x1 x2 x3 x4 x5 x6 x7:Int) (K:Kf) (c:Cv):Ya K3 Bx Ds (I x0::I x1::I x2::I x3::I x4::I x5::I x6::I x7::Ad K c)=
 (Ds (I x0::Ad K c)).bind fun o5=>
 bif decide (0<=x5)&&decide (x5<(↑(wA o5 35).length:Int))then
 bif Af (nth .dead (nth [] (wA o5 35) x5.toNat) 19)==3 then
 (Bx (cR 0 o5)).bind fun o6=>
 (K3 [I x7,I (IntKind.i64.wrap (gA o6 0-gA o5 80))]).bind fun o7=>
 some (DW (cR 0 o5) [(67,I (IntKind.i64.wrap (gA o5 81+IntKind.i64.wrap (IntKind.i64.wrap (1*gA o7 0)*256))))])
 else
 (Bx (cR 0 o5)).bind fun o8=>
 (K3 [I x7,I (IntKind.i64.wrap (gA o8 0-gA o5 80))]).bind fun o9=>
 some (DW (cR 0 o5) [(67,I (IntKind.i64.wrap (gA o5 81+IntKind.i64.wrap (IntKind.i64.wrap (-1*gA o9 0)*256))))])
 else
 none:=by kernel_rfl
def Pr:=Ya JM C5 Hb
theorem Zax:Ai PG (ZP JM C5 Hb):=GD (rs:=[110]) rfl ⟨Zqv,NQ,Qg7,trivial⟩ rfl (B7 rfl (EY (B7 rfl GN)))
theorem Zf1:Al PG (161,Ac Qbd ZC Pr):=rw1 (C:=(ZP JM C5 Hb)) Zax
def ZJ:Sk:=⟨[tf [ci],tf [ci]],[],[]⟩
def Qcf:Sk:=⟨[tf [ci]],[],[]⟩
def Zii (M:Fn):Nat×Spec:=(199,Ac ZJ Qcf M)
def Qih:Cfg:=cf []
def Qgz:Fn:=Am PG Qih 64 199 ZJ Qcf
theorem Zp3 (x0 x1:Int):Qgz [I x0,I x1]=
 bif decide (x1=0)then
 none
 else
 bif decide (x1=0)then
 none
 else
 bif decide (x0.tmod x1<0)then
 some [I (IntKind.i64.wrap (IntKind.i64.wrap (x0.tdiv x1)-1))]
 else
 some [I (IntKind.i64.wrap (x0.tdiv x1))]:=by kernel_rfl
def Km:=Qgz
theorem Zbu:Ai PG (Qih):=Ao rfl trivial
theorem Zce:Al PG (199,Ac ZJ Qcf Km):=rw1 (C:=Qih) Zbu
def Qoh:Sk:=⟨[tf [ci],tf [ci]],[],[]⟩
def Qdu:Sk:=⟨[tf [ci]],[],[]⟩
def Zyl (M:Fn):Nat×Spec:=(180,Ac Qoh Qdu M)
def Xm (LI:Fn):Cfg:=cf [Zii LI]
def Ul (LI:Fn):Fn:=Am PG (Xm LI) 64 180 Qoh Qdu
theorem Za8 (LI:Fn) (x0 x1:Int):Ul LI [I x0,I x1]=
 bif x1== -1 then
 (LI [I x0,I 1048576]).bind fun o2=>
 some [I (IntKind.i64.wrap (gA o2 0*1048576))]
 else
 (LI [I (IntKind.i64.wrap (0-x0)),I 1048576]).bind fun o3=>
 some [I (IntKind.i64.wrap (IntKind.i64.wrap (0-gA o3 0)*1048576))]:=by kernel_rfl
def Jt:=Ul Km
theorem Q93:Ai PG (Xm Km):=Ao rfl ⟨Zce,trivial⟩
theorem Zki:Al PG (180,Ac Qoh Qdu Jt):=rw1 (C:=(Xm Km)) Q93
def Qg8:Sk:=⟨[tf [CS.ptr 20000 0],TS.v true [ci,ci,ci,ci,ci,ci,ci]],[(20000,119,cS)],[]⟩
def Ql7:Sk:=⟨[tf [CS.bool]],[(20000,119,cS)],[]⟩
def Zds (M:Fn):Nat×Spec:=(160,Ac Qg8 Ql7 M)
def Qgs (Bx Ng:Fn):Cfg:=cr [L_ Bx,Zyl Ng] [110] [110]
def Xw (Bx Ng:Fn):Fn:=Am PG (Qgs Bx Ng) 64 160 Qg8 Ql7
theorem Q95 (Bx Ng:Fn) (x0 x1 x2 x3 x4 x5 x6:Int) (K:Kf) (c:Cv):Xw Bx Ng (I x0::I x1::I x2::I x3::I x4::I x5::I x6::Ad K c)=
 (Ng [I c.before,I c.s0]).bind fun o3=>
 bif decide (0<=x4)&&decide (x4<((K.items.map Ag).length:Int))then
 bif gA (nth [] (K.items.map Ag) x4.toNat) 0 !=6 then
 bif c.s1==0 then
 some (B false::Ad K c)
 else
 bif decide (IntKind.i64.wrap (IntKind.i64.wrap (c.s3-gA o3 0)*c.s0)<0)then
 some (B false::Ad K c)
 else
 (Bx (Ad K c)).bind fun o4=>
 some (B true::Ad K {c with y0:=x4,y1:=gA o4 0,y2:=c.s3,e0:=1,e1:=c.m0,e2:=gA o3 0,e3:=0})
 else
 (Bx (Ad K c)).bind fun o5=>
 some (B true::Ad K {c with y0:=x4,y1:=gA o5 0,y2:=c.s3,e0:=1,e1:=c.m0,e2:=gA o3 0,e3:=0})
 else
 none:=by kernel_rfl
def PZ:=Xw C5 Jt
theorem Zs4:Ai PG (Qgs C5 Jt):=GD (rs:=[110]) rfl ⟨NQ,Zki,trivial⟩ rfl (EY (B7 rfl GN))
theorem Zpf:Al PG (160,Ac Qg8 Ql7 PZ):=rw1 (C:=(Qgs C5 Jt)) Zs4
def Qi4:Sk:=⟨[tf [CS.ptr 20000 0]],[(20000,119,cS)],[]⟩
def XL:Sk:=⟨[TS.tup [(true,[ci,ci,ci,ci,ci,ci,ci]),(false,[CS.bool])]],[],[]⟩
def S2 (M:Fn):Nat×Spec:=(102,E7 Qi4 XL M)
def Qp (Dn Bx:Fn):Cfg:=cr [T3 Dn,L_ Bx] [110] [110]
def UG (Dn Bx:Fn):Fn:=Ob PG (Qp Dn Bx) 64 102 Qi4 XL
theorem Zk0 (Dn Bx:Fn) (K:Kf) (c:Cv):UG Dn Bx (Ad K c)=
 (Bx (Ad K c)).bind fun o2=>
 (Dn (By K.p++[jA o2 0])).bind fun o3=>
 bif decide (gA o3 0<0)then
 some [I 0,I 0,I 0,I 0,I 0,I 0,I 0,B false]
 else
 bif decide (0<=gA o3 0)&&decide (gA o3 0<((K.p.segs.map Ay).length:Int))then
 some (AJ Ah (nth [] (K.p.segs.map Ay) (gA o3 0).toNat)++[B true])
 else
 none:=by kernel_rfl
def EF:=UG EI C5
theorem Zzl:Ai PG (Qp EI C5):=GD (rs:=[110]) rfl ⟨Qgi,NQ,trivial⟩ rfl (B7 rfl (EY GN))
theorem Za6 (vars : List AC) (R : Type) (K : TV -> Mem -> Option R) : Fk PG (Qp EI C5) 64 102 [TV.v false [AC.ptr 20000 0]] ⟨[(20000, (⟨119, (cR 0 vars)⟩ : Box))], []⟩ K = Fk PG (Qp EI C5) 64 102 [TV.v false [AC.ptr 20000 0]] ⟨[(20000, (⟨119, (cR 0 vars)⟩ : Box))], []⟩ (fun v _ => K v ⟨[(20000, (⟨119, (cR 0 vars)⟩ : Box))], []⟩) := Eq.trans (b := ((C5 (cR 0 vars)).bind fun o2 =>
 (EI [jA vars 37,jA vars 38,jA vars 39, .view Ah (wA vars 40), .view kPt (wA vars 41),jA o2 0]).bind fun o3=>
 bif decide (gA o3 0<0)then
 K (TV.tup [(true,[I 0,I 0,I 0,I 0,I 0,I 0,I 0]),(false,[B false])]) ⟨[(20000,(⟨119,(cR 0 vars)⟩:Box))],[]⟩
 else
 bif decide (0<=gA o3 0)&&decide (gA o3 0<(↑(wA vars 40).length:Int))then
 K (TV.tup [(true,[I (Af (nth .dead (nth [] (wA vars 40) (gA o3 0).toNat) 0)),I (Af (nth .dead (nth [] (wA vars 40) (gA o3 0).toNat) 1)),I (Af (nth .dead (nth [] (wA vars 40) (gA o3 0).toNat) 2)),I (Af (nth .dead (nth [] (wA vars 40) (gA o3 0).toNat) 3)),I (Af (nth .dead (nth [] (wA vars 40) (gA o3 0).toNat) 4)),I (Af (nth .dead (nth [] (wA vars 40) (gA o3 0).toNat) 5)),I (Af (nth .dead (nth [] (wA vars 40) (gA o3 0).toNat) 6))]),(false,[B true])]) ⟨[(20000,(⟨119,(cR 0 vars)⟩:Box))],[]⟩
 else
 none)) (by kernel_rfl) (Eq.symm (by kernel_rfl))
theorem Rn:Al PG (102,E7 Qi4 XL EF):=TM (C:=(Qp EI C5)) (L:=64) (by kernel_rfl) (FnOK.bare rfl rfl rfl) Zzl eqOk Hh (by kernel_rfl) (by kernel_rfl) (fun vars R K=>Za6 vars R K)
def ZT:Sk:=⟨[tf [CS.ptr 20000 0],tf [ci]],[(20000,119,cS)],[]⟩
def Qo0:Sk:=⟨[TS.tup []],[(20000,119,cS)],[]⟩
def Zrx (M:Fn):Nat×Spec:=(109,Ac ZT Qo0 M)
def UE (H3 HZ C6 It Ds Du:Fn):Cfg:=cr [Zf8 H3,Zmo HZ,Vv C6,Zds It,XQ Ds,S2 Du] [162,161,108,160,159,102] [102]
def Qet (H3 HZ C6 It Ds Du:Fn):Fn:=Am PG (UE H3 HZ C6 It Ds Du) 64 109 ZT Qo0
abbrev Tg (c:Cv) (o15:List AC) (It:Fn) (K:Kf) (C6 HZ:Fn) (x0:Int) (H3:Fn):Option (List AC):=
 bif !c.y0==gA o15 4 then
 (It (jA o15 0::jA o15 1::jA o15 2::jA o15 3::jA o15 4::jA o15 5::jA o15 6::Ad K c)).bind fun o18=>
 bif !bA o18 0 then
 bif gA o18 66==0 then
 (C6 (cR 1 o18)).bind fun o19=>
 some (cR 0 o19)
 else
 some (cR 1 o18)
 else
 bif decide (0<=gA o15 4)&&decide (gA o15 4<(↑(wA o18 36).length:Int))then
 bif Af (nth .dead (nth [] (wA o18 36) (gA o15 4).toNat) 0)==6 then
 (HZ (I x0::jA o15 0::jA o15 1::jA o15 2::jA o15 3::jA o15 4::jA o15 5::jA o15 6::cR 1 o18)).bind fun o20=>
 some (cR 0 o20)
 else
 (H3 (I x0::jA o15 0::jA o15 1::jA o15 2::jA o15 3::jA o15 4::jA o15 5::jA o15 6::cR 1 o18)).bind fun o21=>
 some (cR 0 o21)
 else
 none
 else
 bif decide (0<=gA o15 4)&&decide (gA o15 4<((K.items.map Ag).length:Int))then
 bif gA (nth [] (K.items.map Ag) (gA o15 4).toNat) 0==6 then
 (HZ (I x0::jA o15 0::jA o15 1::jA o15 2::jA o15 3::jA o15 4::jA o15 5::jA o15 6::Ad K c)).bind fun o22=>
 some (cR 0 o22)
 else
 (H3 (I x0::jA o15 0::jA o15 1::jA o15 2::jA o15 3::jA o15 4::jA o15 5::jA o15 6::Ad K c)).bind fun o23=>
 some (cR 0 o23)
 else
 none
attribute [go_sem] Tg
theorem Zva (H3 HZ C6 It Ds Du:Fn) (x0:Int) (K:Kf) (c:Cv):Qet H3 HZ C6 It Ds Du (I x0::Ad K c)=
 (Du (Ad K c)).bind fun o15=>
 bif gA o15 6==0 then
 (Ds (I x0::Ad K c)).bind fun o16=>
 some (cR 0 o16)
 else
 bif c.o2 then
 bif !c.y0==gA o15 4 then
 (Ds (I x0::Ad K c)).bind fun o17=>
 some (cR 0 o17)
 else
 Tg c o15 It K C6 HZ x0 H3
 else
 Tg c o15 It K C6 HZ x0 H3:=by kernel_rfl
def Po:=Qet Qu Pr GC PZ Hb EF
theorem Zel:Ai PG (UE Qu Pr GC PZ Hb EF):=GD (rs:=[102]) rfl ⟨Zj4,Zf1,UY,Zpf,Qg7,Rn,trivial⟩ rfl (B7 rfl (B7 rfl (B7 rfl (B7 rfl (B7 rfl (EY GN))))))
theorem Zy3:Al PG (109,Ac ZT Qo0 Po):=rw1 (C:=(UE Qu Pr GC PZ Hb EF)) Zel
def ZQ:Sk:=⟨[tf [ci]],[],[]⟩
def YO:Sk:=⟨[tf [ci]],[],[]⟩
def Za (M:Fn):Nat×Spec:=(88,Ac ZQ YO M)
def Z7 (AG:Fn):Cfg:=cf [Kx AG]
def RL (AG:Fn):Fn:=Am PG (Z7 AG) 64 88 ZQ YO
theorem Qu8 (AG:Fn) (x0:Int):RL AG [I x0]=
 (AG [I x0,I 1048576,I 60000,I 2]).bind fun o1=>
 some [jA o1 0]:=by kernel_rfl
def E4:=RL Bq
theorem Zuf:Ai PG (Z7 Bq):=Ao rfl ⟨Lt,trivial⟩
theorem U0:Al PG (88,Ac ZQ YO E4):=rw1 (C:=(Z7 Bq)) Zuf
def Wc:Sk:=⟨[tf [ci]],[],[]⟩
def Qab:Sk:=⟨[tf [ci]],[],[]⟩
def Qxb (M:Fn):Nat×Spec:=(177,Ac Wc Qab M)
def Qk1:Cfg:=cf []
def Qf0:Fn:=Am PG Qk1 64 177 Wc Qab
theorem Zx0 (x0:Int):Qf0 [I x0]=
 bif x0==3 then
 some [I 1]
 else
 bif x0==4 then
 some [I (-1)]
 else
 some [I 0]:=by kernel_rfl
def Gm:=Qf0
theorem Zfu:Ai PG (Qk1):=Ao rfl trivial
theorem Qx0:Al PG (177,Ac Wc Qab Gm):=rw1 (C:=Qk1) Zfu
def V0:Sk:=⟨[TS.v true [ci,ci,ci,ci],tf [ci],tf [ci]],[],[]⟩
def Qa4:Sk:=⟨[tf [CS.bool]],[],[]⟩
def Zzf (M:Fn):Nat×Spec:=(150,Ac V0 Qa4 M)
def Qnu (De FT:Fn):Cfg:=cf [Za De,Qxb FT]
def Qgl (De FT:Fn):Fn:=Am PG (Qnu De FT) 64 150 V0 Qa4
theorem Zv6 (De FT:Fn) (x0 x1 x2 x3 x4 x5:Int):Qgl De FT [I x0,I x1,I x2,I x3,I x4,I x5]=
 (FT [I x4]).bind fun o3=>
 bif gA o3 0==0 then
 bif x4==5 then
 bif x1==0 then
 some [B (x2==0)]
 else
 some [B false]
 else
 some [B false]
 else
 bif x0==gA o3 0 then
 (De [I x5]).bind fun o4=>
 bif x1==gA o4 0 then
 (De [I x5]).bind fun o5=>
 some [B (x2==gA o5 0)]
 else
 some [B false]
 else
 some [B false]:=by kernel_rfl
def L7:=Qgl E4 Gm
theorem Znf:Ai PG (Qnu E4 Gm):=Ao rfl ⟨U0,Qx0,trivial⟩
theorem Zbn:Al PG (150,Ac V0 Qa4 L7):=rw1 (C:=(Qnu E4 Gm)) Znf
def Qg2:Sk:=⟨[TS.v true [ci,ci,ci,ci],tf [ci],tf [ci]],[],[]⟩
def UP:Sk:=⟨[TS.v true [ci,ci,ci,ci]],[],[]⟩
def Zw6 (M:Fn):Nat×Spec:=(149,Ac Qg2 UP M)
def Qbr (De FT:Fn):Cfg:=cf [Za De,Qxb FT]
def Qiy (De FT:Fn):Fn:=Am PG (Qbr De FT) 64 149 Qg2 UP
theorem Zkk (De FT:Fn) (x0 x1 x2 x3 x4 x5:Int):Qiy De FT [I x0,I x1,I x2,I x3,I x4,I x5]=
 (FT [I x4]).bind fun o3=>
 bif x4==5 then
 some [I x0,I x1,I 0,I x3]
 else
 bif gA o3 0==0 then
 some [I x0,I x1,I x2,I x3]
 else
 bif x1==0 then
 (De [I x5]).bind fun o4=>
 some [jA o3 0,I x1,jA o4 0,I x3]
 else
 bif x0==gA o3 0 then
 (De [I x5]).bind fun o5=>
 some [jA o3 0,I x1,jA o5 0,I x3]
 else
 some [I x0,I x1,I 0,I x3]:=by kernel_rfl
def LT:=Qiy E4 Gm
theorem Zpk:Ai PG (Qbr E4 Gm):=Ao rfl ⟨U0,Qx0,trivial⟩
theorem Zm3:Al PG (149,Ac Qg2 UP LT):=rw1 (C:=(Qbr E4 Gm)) Zpk
def VT:Sk:=⟨[tf [CS.ptr 20000 0]],[(20000,119,cS)],[]⟩
def Qf8:Sk:=⟨[tf [ci]],[(20000,119,cS)],[]⟩
def Zt4 (M:Fn):Nat×Spec:=(148,Ac VT Qf8 M)
def Wm:Cfg:=cf []
def Yo:Fn:=Am PG Wm 64 148 VT Qf8
theorem Z26 (K:Kf) (c:Cv):Yo (Ad K c)=
 some (I 3::Ad K {c with next:=IntKind.i64.wrap (c.idx+1),on:=false,idx:=0,waits:=false,cnt:=0}):=by kernel_rfl
def ND:=Yo
theorem Z1n:Ai PG (Wm):=Ao rfl trivial
theorem Zck:Al PG (148,Ac VT Qf8 ND):=rw1 (C:=Wm) Z1n
def Qnv:Sk:=⟨[tf [CS.ptr 20000 0]],[(20000,119,cS)],[]⟩
def Qav:Sk:=⟨[tf [ci]],[(20000,119,cS)],[]⟩
def Qzp (M:Fn):Nat×Spec:=(103,Ac Qnv Qav M)
def UX (NF Nh HU:Fn):Cfg:=cp [Zzf NF,Zw6 Nh,Zt4 HU] [148]
def Qfc (NF Nh HU:Fn):Fn:=Am PG (UX NF Nh HU) 64 103 Qnv Qav
theorem Zvj (NF Nh HU:Fn) (K:Kf) (c:Cv):Qfc NF Nh HU (Ad K c)=
 bif c.waits then
 bif decide (IntKind.i64.wrap (c.cnt+1)>1)then
 bif c.resumed then
 (HU (Ad K {c with cnt:=IntKind.i64.wrap (c.cnt+1)})).bind fun o7=>
 some (jA o7 0::cR 1 o7)
 else
 some (I 2::Ad K {c with cnt:=IntKind.i64.wrap (c.cnt+1)})
 else
 some (I 2::Ad K {c with cnt:=IntKind.i64.wrap (c.cnt+1)})
 else
 bif decide (0<=c.idx)&&decide (c.idx<((K.p.marks.map At).length:Int))then
 bif gA (nth [] (K.p.marks.map At) c.idx.toNat) 1 !=3 then
 (HU (Ad K {c with cnt:=IntKind.i64.wrap (c.cnt+1)})).bind fun o8=>
 some (jA o8 0::cR 1 o8)
 else
 bif decide (0<=gA (nth [] (K.p.marks.map At) c.idx.toNat) 2)&&decide (gA (nth [] (K.p.marks.map At) c.idx.toNat) 2<((K.items.map Ag).length:Int))then
 bif gA (nth [] (K.items.map Ag) (gA (nth [] (K.p.marks.map At) c.idx.toNat) 2).toNat) 0==7 then
 bif decide (IntKind.i64.wrap (c.cnt+1)<gA (nth [] (K.items.map Ag) (gA (nth [] (K.p.marks.map At) c.idx.toNat) 2).toNat) 19)then
 some (I 3::Ad K {c with cnt:=IntKind.i64.wrap (c.cnt+1)})
 else
 (HU (Ad K {c with cnt:=IntKind.i64.wrap (c.cnt+1)})).bind fun o9=>
 some (jA o9 0::cR 1 o9)
 else
 bif gA (nth [] (K.items.map Ag) (gA (nth [] (K.p.marks.map At) c.idx.toNat) 2).toNat) 0==8 then
 (Nh [I c.s0,I c.s1,I c.s2,I c.s3,jA (nth [] (K.items.map Ag) (gA (nth [] (K.p.marks.map At) c.idx.toNat) 2).toNat) 19,jA (nth [] (K.items.map Ag) (gA (nth [] (K.p.marks.map At) c.idx.toNat) 2).toNat) 20]).bind fun o10=>
 (NF [jA o10 0,jA o10 1,jA o10 2,jA o10 3,jA (nth [] (K.items.map Ag) (gA (nth [] (K.p.marks.map At) c.idx.toNat) 2).toNat) 19,jA (nth [] (K.items.map Ag) (gA (nth [] (K.p.marks.map At) c.idx.toNat) 2).toNat) 20]).bind fun o11=>
 bif !bA o11 0 then
 some (I 3::Ad K {c with s0:=gA o10 0,s1:=gA o10 1,s2:=gA o10 2,s3:=gA o10 3,cnt:=IntKind.i64.wrap (c.cnt+1)})
 else
 (HU (Ad K {c with s0:=gA o10 0,s1:=gA o10 1,s2:=gA o10 2,s3:=gA o10 3,cnt:=IntKind.i64.wrap (c.cnt+1)})).bind fun o12=>
 some (jA o12 0::cR 1 o12)
 else
 bif gA (nth [] (K.items.map Ag) (gA (nth [] (K.p.marks.map At) c.idx.toNat) 2).toNat) 0==14 then
 some (I 7::Ad K {c with cnt:=IntKind.i64.wrap (c.cnt+1),ended:=7})
 else
 (HU (Ad K {c with cnt:=IntKind.i64.wrap (c.cnt+1)})).bind fun o13=>
 some (jA o13 0::cR 1 o13)
 else
 none
 else
 none:=by kernel_rfl
def JD:=Qfc L7 LT ND
theorem Zkm:Ai PG (UX L7 LT ND):=Ao rfl ⟨Zbn,Zm3,Zck,trivial⟩
theorem Q0m:Al PG (103,Ac Qnv Qav JD):=rw1 (C:=(UX L7 LT ND)) Zkm
def WC:Sk:=⟨[tf [CS.ptr 20000 0],tf [ci]],[(20000,119,cS)],[]⟩
def ZY:Sk:=⟨[tf [ci]],[(20000,119,cS)],[]⟩
def Zox (M:Fn):Nat×Spec:=(107,Ac WC ZY M)
def Vy (DZ:Fn):Cfg:=cp [Qzp DZ] [103]
def Qi6 (DZ:Fn):Fn:=Am PG (Vy DZ) 64 107 WC ZY
theorem Zzk (DZ:Fn) (x0:Int) (K:Kf) (c:Cv):Qi6 DZ (I x0::Ad K c)=
 bif decide (0<=x0)&&decide (x0<((K.p.marks.map At).length:Int))then
 bif gA (nth [] (K.p.marks.map At) x0.toNat) 1==1 then
 (DZ (Ad K {c with on:=true,idx:=x0,waits:=c.o3,cnt:=0})).bind fun o7=>
 some (jA o7 0::cR 1 o7)
 else
 bif gA (nth [] (K.p.marks.map At) x0.toNat) 1==2 then
 (DZ (Ad K {c with on:=true,idx:=x0,waits:=c.o3,cnt:=0})).bind fun o8=>
 some (jA o8 0::cR 1 o8)
 else
 bif gA (nth [] (K.p.marks.map At) x0.toNat) 1==6 then
 (DZ (Ad K {c with on:=true,idx:=x0,waits:=c.o3,cnt:=0})).bind fun o9=>
 some (jA o9 0::cR 1 o9)
 else
 bif gA (nth [] (K.p.marks.map At) x0.toNat) 1==4 then
 (DZ (Ad K {c with on:=true,idx:=x0,waits:=true,cnt:=0})).bind fun o10=>
 some (jA o10 0::cR 1 o10)
 else
 bif gA (nth [] (K.p.marks.map At) x0.toNat) 1==3 then
 bif decide (0<=gA (nth [] (K.p.marks.map At) x0.toNat) 2)&&decide (gA (nth [] (K.p.marks.map At) x0.toNat) 2<((K.items.map Ag).length:Int))then
 bif gA (nth [] (K.items.map Ag) (gA (nth [] (K.p.marks.map At) x0.toNat) 2).toNat) 0==11 then
 (DZ (Ad K {c with on:=true,idx:=x0,waits:=true,cnt:=0})).bind fun o11=>
 some (jA o11 0::cR 1 o11)
 else
 (DZ (Ad K {c with on:=true,idx:=x0,waits:=gA (nth [] (K.items.map Ag) (gA (nth [] (K.p.marks.map At) x0.toNat) 2).toNat) 0==12,cnt:=0})).bind fun o12=>
 some (jA o12 0::cR 1 o12)
 else
 none
 else
 (DZ (Ad K {c with on:=true,idx:=x0,waits:=false,cnt:=0})).bind fun o13=>
 some (jA o13 0::cR 1 o13)
 else
 none:=by kernel_rfl
def P3:=Qi6 JD
theorem Q9u:Ai PG (Vy JD):=Ao rfl ⟨Q0m,trivial⟩
theorem Zbc:Al PG (107,Ac WC ZY P3):=rw1 (C:=(Vy JD)) Q9u
def Qg3:Sk:=⟨[tf [CS.sl kPt],tf [ci],TS.v true [ci,ci,CS.bool,CS.bool,CS.bool],tf [ci],tf [ci]],[],[]⟩
def Qf5:Sk:=⟨[TS.tup [(false,[ci]),(false,[ci])]],[],[]⟩
def Zmm (M:Fn):Nat×Spec:=(158,Ac Qg3 Qf5 M)
def Qck (CK:Fn):Cfg:=cf [Qun CK]
def Qtb:Sk:=⟨[tf [CS.sl kPt],td,td,tf [ci],tf [ci],td,td,tf [CS.ptr 7 0],td,td,td,td,tf [ci]]++dd 32,[(7,92,[ci,ci,CS.bool,CS.bool,CS.bool])],[]⟩
def Q6m:List (Ex×Sk):=[(Ex.ret,⟨[td,td,td,td,td,td,td,td,td,td,tf [ci],tf [ci]]++dd 33,[],[]⟩),(Ex.exit 0,⟨[td,td,td,tf [ci]]++dd 41,[],[]⟩)]
def Te (CK:Fn):Lp:=AN PG (Qck CK) 64 2 (AO PG 158 2) Qtb Q6m
def Q0s (CK:Fn) (N2:Lp):Cfg:=(Qck CK).loop 2 Qtb Q6m N2
def Qdf (CK:Fn) (N2:Lp):Fn:=Am PG (Q0s CK N2) 64 158 Qg3 Qf5
theorem Zh3 (CK:Fn) (v0:Rw) (v1 v2 v3 v4 v5:Int) (v6 v7 v8:Bool):Te CK [.view kPt v0,I v1,I v2,I v3,I v4,I v5,B v6,B v7,B v8]=
 bif decide (v3<(v0.length:Int))then
 bif decide (0<=v3)&&decide (v3<(v0.length:Int))then
 (CK [jA (nth [] v0 v3.toNat) 0,jA (nth [] v0 v3.toNat) 1,jA (nth [] v0 v3.toNat) 2,I v4,I v5,B v6,B v7,B v8]).bind fun o2=>
 bif bA o2 0 then
 bif decide (v2<=gA (nth [] v0 v3.toNat) 0)then
 bif decide (gA (nth [] v0 v3.toNat) 0<=v1)then
 some (1,[jA (nth [] v0 v3.toNat) 0,I v3])
 else
 some (0,[.view kPt v0,I v1,I v2,I (IntKind.i64.wrap (v3+1)),I v4,I v5,B v6,B v7,B v8])
 else
 some (0,[.view kPt v0,I v1,I v2,I (IntKind.i64.wrap (v3+1)),I v4,I v5,B v6,B v7,B v8])
 else
 some (0,[.view kPt v0,I v1,I v2,I (IntKind.i64.wrap (v3+1)),I v4,I v5,B v6,B v7,B v8])
 else
 none
 else
 some (2,[I v1]):=by kernel_rfl
theorem Zqf (CK:Fn) (N2:Lp) (x0:Rw) (x1 x2 x3:Int) (x4 x5 x6:Bool) (x7 x8:Int):Qdf CK N2 [.view kPt x0,I x1,I x2,I x3,B x4,B x5,B x6,I x7,I x8]=
 (N2 [.view kPt x0,I x7,I x8,I (mx x1 0),I x2,I x3,B x4,B x5,B x6]).bind fun o3=>
 bif o3.1.beq 1 then
 some [jA o3.2 0,jA o3.2 1]
 else
 bif o3.1.beq 2 then
 some [jA o3.2 0,I (-1)]
 else
 none:=by kernel_rfl
def Q0q:=An (Te Iq)
def PP:=Qdf Iq Q0q
theorem Q4i:Ai PG (Qck Iq):=Ao rfl ⟨Qxk,trivial⟩
theorem Z27:Al PG (158,Ac Qg3 Qf5 PP):=rw2 (C:=(Q0s Iq Q0q)) (fl fb Q4i) Q4i
def Qlb:Sk:=⟨[TS.v true [CS.sl As,ci,ci,ci,ci,ci],tf [ci]],[],[]⟩
def Qc2:Sk:=⟨[tf [ci]],[],[]⟩
def Z1l (M:Fn):Nat×Spec:=(157,Ac Qlb Qc2 M)
def C_track_Where_0:Cfg:=cf []
def Qto:Sk:=⟨[td,tf [ci],td,td,td,td,td,td,td,td,td,td,td,tf [CS.sl As],tf [ci],tf [ci]]++dd 28,[],[]⟩
def Qxp:List (Ex×Sk):=[(Ex.ret,⟨[td,td,td,td,tf [ci]]++dd 39,[],[]⟩),(Ex.exit 0,⟨[td]++dd 43,[],[]⟩)]
def Qb:Lp:=AN PG C_track_Where_0 64 4 (AO PG 157 4) Qto Qxp
def Qsj (N4:Lp):Cfg:=C_track_Where_0.loop 4 Qto Qxp N4
def Qzc (N4:Lp):Fn:=Am PG (Qsj N4) 64 157 Qlb Qc2
theorem Qzx (v0:Int) (v1:Rw) (v2 v3:Int):Qb [I v0, .view As v1,I v2,I v3]=
 bif decide (v3<v2)then
 bif decide (0<=v3)&&decide (v3<(v1.length:Int))then
 bif gA (nth [] v1 v3.toNat) 3 !=0 then
 bif decide (0<=IntKind.i64.wrap (IntKind.i64.wrap (v0-gA (nth [] v1 v3.toNat) 2)*gA (nth [] v1 v3.toNat) 3))then
 bif decide (IntKind.i64.wrap (IntKind.i64.wrap (v0-gA (nth [] v1 v3.toNat) 2)*gA (nth [] v1 v3.toNat) 3)<=gA (nth [] v1 v3.toNat) 1)then
 some (1,[I (IntKind.i64.wrap (gA (nth [] v1 v3.toNat) 0+IntKind.i64.wrap (IntKind.i64.wrap (v0-gA (nth [] v1 v3.toNat) 2)*gA (nth [] v1 v3.toNat) 3)))])
 else
 some (0,[I v0, .view As v1,I v2,I (IntKind.i64.wrap (v3+1))])
 else
 some (0,[I v0, .view As v1,I v2,I (IntKind.i64.wrap (v3+1))])
 else
 some (0,[I v0, .view As v1,I v2,I (IntKind.i64.wrap (v3+1))])
 else
 none
 else
 some (2,[]):=by kernel_rfl
theorem Zek (N4:Lp) (x0:Rw) (x1 x2 x3 x4 x5 x6:Int):Qzc N4 [.view As x0,I x1,I x2,I x3,I x4,I x5,I x6]=
 bif x6==x2 then
 some [I 0]
 else
 (N4 [I x6, .view As x0,I (x0.length:Int),I 0]).bind fun o1=>
 bif o1.1.beq 1 then
 some [jA o1.2 0]
 else
 bif o1.1.beq 2 then
 some [I (-1)]
 else
 none:=by kernel_rfl
def KI:=An (Qb)
def Mw:=Qzc KI
theorem Q0u:Ai PG (C_track_Where_0):=Ao rfl trivial
theorem Z00:Al PG (157,Ac Qlb Qc2 Mw):=rw2 (C:=(Qsj KI)) (fl fb Q0u) Q0u
def U8:Sk:=⟨[tf [CS.ptr 20000 0]],[(20000,119,cS)],[]⟩
def Qga:Sk:=⟨[TS.tup [(false,[ci]),(false,[ci])]],[(20000,119,cS)],[]⟩
def Zp5 (M:Fn):Nat×Spec:=(106,Ac U8 Qga M)
def Qad (Ia Hy BD Bs:Fn):Cfg:=cf [Zmm Ia,Z1l Hy,PD BD,Wg Bs]
def Qjz (Ia Hy BD Bs:Fn):Fn:=Am PG (Qad Ia Hy BD Bs) 64 106 U8 Qga
abbrev Q2 (Bs:Fn) (K:Kf) (c:Cv) (BD Hy Ia:Fn) (h1_0:AC):Option (List AC):=
 (Bs [I K.pa,I K.pb,I K.pc,I c.m0,I c.m1,I c.m2,I c.m3,I c.m4,I c.m5]).bind fun o14=>
 (BD (Bj K.t++[I (IntKind.i64.wrap ((IntKind.i64.wrap (IntKind.i64.wrap (gA o14 0+256)-1)).tdiv 256))])).bind fun o15=>
 (Hy (Bj K.t++[jA o15 0])).bind fun o16=>
 bif gA o16 0 !=IntKind.i64.wrap ((IntKind.i64.wrap (IntKind.i64.wrap (gA o14 0+256)-1)).tdiv 256)then
 (Ia [.view kPt (K.p.marks.map At),I c.next,I c.o0,I c.o1,B c.o2,B c.o3,B c.o4,h1_0,I (IntKind.i64.wrap (gA o15 0+1))]).bind fun o17=>
 (Hy (Bj K.t++[jA o17 0])).bind fun o18=>
 some (jA o18 0::jA o17 1::Ad K c)
 else
 (Ia [.view kPt (K.p.marks.map At),I c.next,I c.o0,I c.o1,B c.o2,B c.o3,B c.o4,h1_0,jA o15 0]).bind fun o19=>
 (Hy (Bj K.t++[jA o19 0])).bind fun o20=>
 some (jA o20 0::jA o19 1::Ad K c)
attribute [go_sem] Q2
theorem Zq0 (Ia Hy BD Bs:Fn) (K:Kf) (c:Cv):Qjz Ia Hy BD Bs (Ad K c)=
 bif K.closed then
 Q2 Bs K c BD Hy Ia (I K.len)
 else
 Q2 Bs K c BD Hy Ia (I K.set):=by kernel_rfl
def O9:=Qjz PP Mw Dv DY
theorem Zqg:Ai PG (Qad PP Mw Dv DY):=Ao rfl ⟨Z27,Z00,OU,Vn,trivial⟩
theorem Z39:Al PG (106,Ac U8 Qga O9):=rw1 (C:=(Qad PP Mw Dv DY)) Zqg
def ZX:Sk:=⟨[tf [CS.ptr 20000 0]],[(20000,119,cS)],[]⟩
def ZG:Sk:=⟨[tf [ci]],[(20000,119,cS)],[]⟩
def Zt9 (M:Fn):Nat×Spec:=(70,Ac ZX ZG M)
def Qlo (Ja C6 L0 Mz:Fn):Cfg:=cp [Zrx Ja,Vv C6,Zox L0,Zp5 Mz] [109,108,107,106]
def Um (Ja C6 L0 Mz:Fn):Fn:=Am PG (Qlo Ja C6 L0 Mz) 64 70 ZX ZG
theorem Zid (Ja C6 L0 Mz:Fn) (K:Kf) (c:Cv):Um Ja C6 L0 Mz (Ad K c)=
 (Mz (Ad K c)).bind fun o7=>
 bif bA o7 90 then
 bif gA o7 52==IntKind.i64.wrap (gA o7 0*256)then
 bif decide (gA o7 1>=0)then
 (L0 (jA o7 1::cR 2 o7)).bind fun o8=>
 bif decide (0<=gA o7 1)&&decide (gA o7 1<(↑(wA o8 42).length:Int))then
 bif Af (nth .dead (nth [] (wA o8 42) (gA o7 1).toNat) 2)==gA o8 80 then
 bif decide (0<=Af (nth .dead (nth [] (wA o8 42) (gA o7 1).toNat) 2))&&decide (Af (nth .dead (nth [] (wA o8 42) (gA o7 1).toNat) 2)<(↑(wA o8 36).length:Int))then
 bif Af (nth .dead (nth [] (wA o8 36) (Af (nth .dead (nth [] (wA o8 42) (gA o7 1).toNat) 2)).toNat) 0)==5 then
 bif gA o8 83==1 then
 (C6 (cR 1 o8)).bind fun o9=>
 some (jA o8 0::cR 0 o9)
 else
 some (jA o8 0::cR 1 o8)
 else
 some (jA o8 0::cR 1 o8)
 else
 none
 else
 some (jA o8 0::cR 1 o8)
 else
 none
 else
 bif bA o7 38 then
 some (I 7::DW (cR 2 o7) [(78,I 7)])
 else
 some (I 1::cR 2 o7)
 else
 bif gA o7 63 !=0 then
 (Ja (jA o7 0::cR 2 o7)).bind fun o10=>
 bif bA o7 90 then
 some (I 6::cR 0 o10)
 else
 some (I 1::cR 0 o10)
 else
 (Ja (jA o7 0::cR 2 o7)).bind fun o11=>
 some (I 1::cR 0 o11)
 else
 bif gA o7 63 !=0 then
 (Ja (jA o7 0::cR 2 o7)).bind fun o12=>
 bif bA o7 90 then
 some (I 6::cR 0 o12)
 else
 some (I 1::cR 0 o12)
 else
 (Ja (jA o7 0::cR 2 o7)).bind fun o13=>
 some (I 1::cR 0 o13):=by kernel_rfl
def LP:=Um Po GC P3 O9
theorem Ztw:Ai PG (Qlo Po GC P3 O9):=Ao rfl ⟨Zy3,UY,Zbc,Z39,trivial⟩
theorem Zu2:Al PG (70,Ac ZX ZG LP):=rw1 (C:=(Qlo Po GC P3 O9)) Ztw
def ZM:Sk:=⟨[tf [ci]],[],[]⟩
def Qbu:Sk:=⟨[TS.v true [ci,ci,ci,ci,ci,ci]],[],[]⟩
def XR (M:Fn):Nat×Spec:=(59,Ac ZM Qbu M)
def WW:Cfg:=cf []
def XA:Fn:=Am PG WW 64 59 ZM Qbu
theorem Zuw (x0:Int):XA [I x0]=
 some [I (IntKind.i64.wrap (x0*256)),I 0,I 0,I (IntKind.i64.wrap (x0*256)),I (IntKind.i64.wrap (x0*256)),I (IntKind.i64.wrap (x0*256))]:=by kernel_rfl
def Gk:=XA
theorem Zbg:Ai PG (WW):=Ao rfl trivial
theorem U5:Al PG (59,Ac ZM Qbu Gk):=rw1 (C:=WW) Zbg
def WN:Sk:=⟨[TS.v true [ci,ci,ci,ci,ci,ci,ci,ci,ci,CS.sl Aa,ci,ci,ci,ci,ci,ci,ci,ci,ci,CS.sl Aa,ci,ci,ci,ci,ci,ci,ci,ci,ci,CS.sl Aa],TS.v true [ci,ci,ci],TS.v true [ci,ci,ci]],[],[]⟩
def Qhk:Sk:=⟨[tf [ci]],[],[]⟩
def Zdj (M:Fn):Nat×Spec:=(95,Ac WN Qhk M)
def Qoj:Cfg:={cf []with unroll:=[3]}
def Q2j:Fn:=Am PG Qoj 64 95 WN Qhk
theorem Zjj (x0 x1 x2 x3 x4 x5 x6 x7 x8:Int) (x9:Rw) (x10 x11 x12 x13 x14 x15 x16 x17 x18:Int) (x19:Rw) (x20 x21 x22 x23 x24 x25 x26 x27 x28:Int) (x29:Rw) (x30 x31 x32 x33 x34 x35:Int):Q2j [I x0,I x1,I x2,I x3,I x4,I x5,I x6,I x7,I x8, .view Aa x9,I x10,I x11,I x12,I x13,I x14,I x15,I x16,I x17,I x18, .view Aa x19,I x20,I x21,I x22,I x23,I x24,I x25,I x26,I x27,I x28, .view Aa x29,I x30,I x31,I x32,I x33,I x34,I x35]=
 bif x30 !=x33 then
 bif x31 !=x34 then
 bif x32 !=x35 then
 some [I (mx (mx (mx 0 x6) x16) x26)]
 else
 some [I (mx (mx 0 x6) x16)]
 else
 bif x32 !=x35 then
 some [I (mx (mx 0 x6) x26)]
 else
 some [I (mx 0 x6)]
 else
 bif x31 !=x34 then
 bif x32 !=x35 then
 some [I (mx (mx 0 x16) x26)]
 else
 some [I (mx 0 x16)]
 else
 bif x32 !=x35 then
 some [I (mx 0 x26)]
 else
 some [I 0]:=by kernel_rfl
def MJ:=Q2j
theorem Z1f:Ai PG (Qoj):=Ao rfl trivial
theorem Zy2:Al PG (95,Ac WN Qhk MJ):=rw1 (C:=Qoj) Z1f
def Wb:Sk:=⟨[TS.v true [ci,ci,ci],TS.v true [ci,ci,ci],TS.v true [ci,ci,ci],tf [ci]],[],[]⟩
def Qnh:Sk:=⟨[TS.v true [ci,ci,ci]],[],[]⟩
def Zc2 (M:Fn):Nat×Spec:=(94,Ac Wb Qnh M)
def Zw:Cfg:={cf []with unroll:=[2]}
def Qsq:Fn:=Am PG Zw 64 94 Wb Qnh
abbrev Rd (x8 x5:Int) (h1_0:AC) (x9 x2:Int) (h2_0:AC):Option (List AC):=
 bif decide (x8>x5)then
 some [h1_0,h2_0,I x9]
 else
 bif decide (x8<x5)then
 some [h1_0,h2_0,I (IntKind.i64.wrap (0-x9))]
 else
 some [h1_0,h2_0,I x2]
attribute [go_sem] Rd
abbrev Ty (x7 x4 x8 x5 x9 x2 x1:Int) (h1_0:AC):Option (List AC):=
 bif decide (x7>x4)then
 Rd x8 x5 h1_0 x9 x2 (I x9)
 else
 bif decide (x7<x4)then
 Rd x8 x5 h1_0 x9 x2 (I (IntKind.i64.wrap (0-x9)))
 else
 Rd x8 x5 h1_0 x9 x2 (I x1)
attribute [go_sem] Ty
theorem Zf6 (x0 x1 x2 x3 x4 x5 x6 x7 x8 x9:Int):Qsq [I x0,I x1,I x2,I x3,I x4,I x5,I x6,I x7,I x8,I x9]=
 bif decide (x6>x3)then
 Ty x7 x4 x8 x5 x9 x2 x1 (I x9)
 else
 bif decide (x6<x3)then
 Ty x7 x4 x8 x5 x9 x2 x1 (I (IntKind.i64.wrap (0-x9)))
 else
 Ty x7 x4 x8 x5 x9 x2 x1 (I x0):=by kernel_rfl
def Ml:=Qsq
theorem Zrh:Ai PG (Zw):=Ao rfl trivial
theorem Z3j:Al PG (94,Ac Wb Qnh Ml):=rw1 (C:=Zw) Zrh
def Qo4:Sk:=⟨[TS.v true [ci,ci,ci,ci,ci,ci,ci,ci,ci,ci],tf [CS.ptr 20000 0]],[(20000,62,[CS.own 20000 10,ci,ci,ci,ci,ci])],[(20000,135,As)]⟩
def Vl:Sk:=⟨[TS.tup []],[(20000,62,[CS.own 20000 10,ci,ci,ci,ci,ci])],[(20000,135,As)]⟩
def Qrh (M:Fn):Nat×Spec:=(92,Ac Qo4 Vl M)
def Vz:Cfg:=cf []
def Qft:Fn:=Am PG Vz 64 92 Qo4 Vl
theorem Q3v (x0:Rw) (x1 x2 x3 x4 x5 x6 x7 x8 x9 x10 x11 x12 x13 x14 x15:Int):Qft [.view As x0,I x1,I x2,I x3,I x4,I x5,I x6,I x7,I x8,I x9,I x10,I x11,I x12,I x13,I x14,I x15]=
 bif decide ((x0.length:Int)>0)then
 bif x4 !=0 then
 bif decide (0<=IntKind.i64.wrap ((x0.length:Int)-1))&&decide (IntKind.i64.wrap ((x0.length:Int)-1)<(x0.length:Int))then
 bif gA (nth [] x0 (IntKind.i64.wrap ((x0.length:Int)-1)).toNat) 3==x4 then
 bif decide (0<=IntKind.i64.wrap ((x0.length:Int)-1))&&decide (IntKind.i64.wrap ((x0.length:Int)-1)<(x0.length:Int))then
 bif gA (nth [] x0 (IntKind.i64.wrap ((x0.length:Int)-1)).toNat) 7==x8&&(gA (nth [] x0 (IntKind.i64.wrap ((x0.length:Int)-1)).toNat) 8==x9&&(gA (nth [] x0 (IntKind.i64.wrap ((x0.length:Int)-1)).toNat) 9==x10&&true))then
 bif decide (0<=IntKind.i64.wrap ((x0.length:Int)-1))&&decide (IntKind.i64.wrap ((x0.length:Int)-1)<(x0.length:Int))then
 bif decide (0<=IntKind.i64.wrap ((x0.length:Int)-1))&&decide (IntKind.i64.wrap ((x0.length:Int)-1)<(x0.length:Int))then
 some [.view As (x0.set (IntKind.i64.wrap ((x0.length:Int)-1)).toNat [jA (nth [] x0 (IntKind.i64.wrap ((x0.length:Int)-1)).toNat) 0,I (IntKind.i64.wrap (gA (nth [] x0 (IntKind.i64.wrap ((x0.length:Int)-1)).toNat) 1+x2)),jA (nth [] x0 (IntKind.i64.wrap ((x0.length:Int)-1)).toNat) 2,jA (nth [] x0 (IntKind.i64.wrap ((x0.length:Int)-1)).toNat) 3,jA (nth [] x0 (IntKind.i64.wrap ((x0.length:Int)-1)).toNat) 4,jA (nth [] x0 (IntKind.i64.wrap ((x0.length:Int)-1)).toNat) 5,jA (nth [] x0 (IntKind.i64.wrap ((x0.length:Int)-1)).toNat) 6,jA (nth [] x0 (IntKind.i64.wrap ((x0.length:Int)-1)).toNat) 7,jA (nth [] x0 (IntKind.i64.wrap ((x0.length:Int)-1)).toNat) 8,jA (nth [] x0 (IntKind.i64.wrap ((x0.length:Int)-1)).toNat) 9]),I (IntKind.i64.wrap (x11+x2)),I x12,I x13,I x14,I x15]
 else
 none
 else
 none
 else
 bif((x0++[[I x11,I x2,I x3,I x4,I x5,I x6,I x7,I x8,I x9,I x10]]).length*80).ble 140737488355328 then
 some [.view As (x0++[[I x11,I x2,I x3,I x4,I x5,I x6,I x7,I x8,I x9,I x10]]),I (IntKind.i64.wrap (x11+x2)),I x12,I x13,I x14,I x15]
 else
 none
 else
 none
 else
 bif((x0++[[I x11,I x2,I x3,I x4,I x5,I x6,I x7,I x8,I x9,I x10]]).length*80).ble 140737488355328 then
 some [.view As (x0++[[I x11,I x2,I x3,I x4,I x5,I x6,I x7,I x8,I x9,I x10]]),I (IntKind.i64.wrap (x11+x2)),I x12,I x13,I x14,I x15]
 else
 none
 else
 none
 else
 bif((x0++[[I x11,I x2,I x3,I x4,I x5,I x6,I x7,I x8,I x9,I x10]]).length*80).ble 140737488355328 then
 some [.view As (x0++[[I x11,I x2,I x3,I x4,I x5,I x6,I x7,I x8,I x9,I x10]]),I (IntKind.i64.wrap (x11+x2)),I x12,I x13,I x14,I x15]
 else
 none
 else
 bif((x0++[[I x11,I x2,I x3,I x4,I x5,I x6,I x7,I x8,I x9,I x10]]).length*80).ble 140737488355328 then
 some [.view As (x0++[[I x11,I x2,I x3,I x4,I x5,I x6,I x7,I x8,I x9,I x10]]),I (IntKind.i64.wrap (x11+x2)),I x12,I x13,I x14,I x15]
 else
 none:=by kernel_rfl
def K5:=Qft
theorem Zm9:Ai PG (Vz):=Ao rfl trivial
theorem Qyb:Al PG (92,Ac Qo4 Vl K5):=rw1 (C:=Vz) Zm9
def Qls:Sk:=⟨[TS.v true [ci,ci,ci],TS.v true [ci,ci,ci],tf [ci],tf [ci],tf [CS.ptr 20000 0],tf [CS.ptr 20001 0],tf [CS.ptr 20002 0],tf [CS.ptr 20003 0]],[(20000,44,[ci,ci,ci]),(20001,3,[ci]),(20002,27,[ci,ci,ci,ci,ci,ci,ci,ci,ci,CS.sl Aa,ci,ci,ci,ci,ci,ci,ci,ci,ci,CS.sl Aa,ci,ci,ci,ci,ci,ci,ci,ci,ci,CS.sl Aa]),(20003,153,[CS.clo 92 [] [(20004,0)]]),(20004,62,[CS.own 20000 10,ci,ci,ci,ci,ci])],[(20000,135,As)]⟩
def Qc3:Sk:=⟨[TS.tup []],[(20000,44,[ci,ci,ci]),(20001,3,[ci]),(20002,27,[ci,ci,ci,ci,ci,ci,ci,ci,ci,CS.sl Aa,ci,ci,ci,ci,ci,ci,ci,ci,ci,CS.sl Aa,ci,ci,ci,ci,ci,ci,ci,ci,ci,CS.sl Aa]),(20003,153,[CS.clo 92 [] [(20004,0)]]),(20004,62,[CS.own 20000 10,ci,ci,ci,ci,ci])],[(20000,135,As)]⟩
def Qz5 (M:Fn):Nat×Spec:=(93,Ac Qls Qc3 M)
def UD (Od M8 Fy:Fn):Cfg:=cp [Zdj Od,Zc2 M8,Qrh Fy] [92]
def Qax (Od M8 Fy:Fn):Fn:=Am PG (UD Od M8 Fy) 64 93 Qls Qc3
theorem Zfr (Od M8 Fy:Fn) (x0:Rw) (x1 x2 x3 x4 x5 x6 x7 x8 x9 x10 x11 x12 x13 x14 x15 x16 x17 x18 x19 x20 x21:Int) (x22:Rw) (x23 x24 x25 x26 x27 x28 x29 x30 x31:Int) (x32:Rw) (x33 x34 x35 x36 x37 x38 x39 x40 x41:Int) (x42:Rw) (x43 x44 x45 x46 x47:Int):Qax Od M8 Fy [.view As x0,I x1,I x2,I x3,I x4,I x5,I x6,I x7,I x8,I x9,I x10,I x11,I x12,I x13,I x14,I x15,I x16,I x17,I x18,I x19,I x20,I x21, .view Aa x22,I x23,I x24,I x25,I x26,I x27,I x28,I x29,I x30,I x31, .view Aa x32,I x33,I x34,I x35,I x36,I x37,I x38,I x39,I x40,I x41, .view Aa x42,I x43,I x44,I x45,I x46,I x47]=
 (M8 [I x9,I x10,I x11,I x1,I x2,I x3,I x4,I x5,I x6,I x12]).bind fun o5=>
 (Od [I x13,I x14,I x15,I x16,I x17,I x18,I x19,I x20,I x21, .view Aa x22,I x23,I x24,I x25,I x26,I x27,I x28,I x29,I x30,I x31, .view Aa x32,I x33,I x34,I x35,I x36,I x37,I x38,I x39,I x40,I x41, .view Aa x42,I x9,I x10,I x11,jA o5 0,jA o5 1,jA o5 2]).bind fun o6=>
 bif decide (gA o6 0>0)then
 (Fy [.view As x0,I 0,jA o6 0,I x7,I 0,I x9,I x10,I x11,jA o5 0,jA o5 1,jA o5 2,I x43,I x44,I x45,I x46,I x47]).bind fun o7=>
 (Fy [.view As (wA o7 0),I 0,I x8,I x7,I x12,jA o5 0,jA o5 1,jA o5 2,jA o5 0,jA o5 1,jA o5 2,jA o7 1,jA o7 2,jA o7 3,jA o7 4,jA o7 5]).bind fun o8=>
 some [.view As (wA o8 0),jA o5 0,jA o5 1,jA o5 2,I x12,I x13,I x14,I x15,I x16,I x17,I x18,I x19,I x20,I x21, .view Aa x22,I x23,I x24,I x25,I x26,I x27,I x28,I x29,I x30,I x31, .view Aa x32,I x33,I x34,I x35,I x36,I x37,I x38,I x39,I x40,I x41, .view Aa x42,jA o8 1,jA o8 2,jA o8 3,jA o8 4,jA o8 5]
 else
 (Fy [.view As x0,I 0,I x8,I x7,I x12,jA o5 0,jA o5 1,jA o5 2,jA o5 0,jA o5 1,jA o5 2,I x43,I x44,I x45,I x46,I x47]).bind fun o9=>
 some [.view As (wA o9 0),jA o5 0,jA o5 1,jA o5 2,I x12,I x13,I x14,I x15,I x16,I x17,I x18,I x19,I x20,I x21, .view Aa x22,I x23,I x24,I x25,I x26,I x27,I x28,I x29,I x30,I x31, .view Aa x32,I x33,I x34,I x35,I x36,I x37,I x38,I x39,I x40,I x41, .view Aa x42,jA o9 1,jA o9 2,jA o9 3,jA o9 4,jA o9 5]:=by kernel_rfl
def FJ:=Qax MJ Ml K5
theorem Zhv:Ai PG (UD MJ Ml K5):=Ao rfl ⟨Zy2,Z3j,Qyb,trivial⟩
theorem Q1o:Al PG (93,Ac Qls Qc3 FJ):=rw1 (C:=(UD MJ Ml K5)) Zhv
def Qhe:Sk:=⟨[TS.v true [ci,ci,ci,CS.sl Ah,CS.sl kPt],tf [ci],tf [ci],tf [ci],tf [CS.clo 93 [] [(20000,0),(20001,0),(20002,0),(20003,0)]]],[(20000,44,[ci,ci,ci]),(20001,3,[ci]),(20002,27,[ci,ci,ci,ci,ci,ci,ci,ci,ci,CS.sl Aa,ci,ci,ci,ci,ci,ci,ci,ci,ci,CS.sl Aa,ci,ci,ci,ci,ci,ci,ci,ci,ci,CS.sl Aa]),(20003,153,[CS.clo 92 [] [(20004,0)]]),(20004,62,[CS.own 20000 10,ci,ci,ci,ci,ci])],[(20000,135,As)]⟩
def VO:Sk:=⟨[TS.tup []],[(20000,44,[ci,ci,ci]),(20001,3,[ci]),(20002,27,[ci,ci,ci,ci,ci,ci,ci,ci,ci,CS.sl Aa,ci,ci,ci,ci,ci,ci,ci,ci,ci,CS.sl Aa,ci,ci,ci,ci,ci,ci,ci,ci,ci,CS.sl Aa]),(20003,153,[CS.clo 92 [] [(20004,0)]]),(20004,62,[CS.own 20000 10,ci,ci,ci,ci,ci])],[(20000,135,As)]⟩
def Ztg (M:Fn):Nat×Spec:=(96,Ac Qhe VO M)
def Qcm (BO:Fn):Cfg:={cp [Qz5 BO] [93]with prom:=fun b=>bif Nat.beq b 4 then [(11,3)]else []}
def Q71:Sk:=⟨[td,tf [ci],tf [ci],tf [ci],tf [CS.clo 93 [] [(20000,0),(20001,0),(20002,0),(20003,0)]],tf [CS.ptr 5 0],td,td,td,td,tf [ci],tf [CS.own 11 1],td,td,td,td,td,td,td,td,td,tf [CS.sl Ah],tf [ci],tf [ci]]++dd 78,[(5,58,[ci,ci,ci,CS.sl Ah,CS.sl kPt]),(20000,44,[ci,ci,ci]),(20001,3,[ci]),(20002,27,[ci,ci,ci,ci,ci,ci,ci,ci,ci,CS.sl Aa,ci,ci,ci,ci,ci,ci,ci,ci,ci,CS.sl Aa,ci,ci,ci,ci,ci,ci,ci,ci,ci,CS.sl Aa]),(20003,153,[CS.clo 92 [] [(20004,0)]]),(20004,62,[CS.own 20000 10,ci,ci,ci,ci,ci])],[(11,3,Aa),(20000,135,As)]⟩
def Qxy:List (Ex×Sk):=[(Ex.exit 0,⟨[td,tf [ci],tf [ci],tf [ci],tf [CS.clo 93 [] [(20000,0),(20001,0),(20002,0),(20003,0)]],tf [CS.ptr 5 0],td,td,td,td,td,tf [CS.own 11 1]]++dd 90,[(5,58,[ci,ci,ci,CS.sl Ah,CS.sl kPt]),(20000,44,[ci,ci,ci]),(20001,3,[ci]),(20002,27,[ci,ci,ci,ci,ci,ci,ci,ci,ci,CS.sl Aa,ci,ci,ci,ci,ci,ci,ci,ci,ci,CS.sl Aa,ci,ci,ci,ci,ci,ci,ci,ci,ci,CS.sl Aa]),(20003,153,[CS.clo 92 [] [(20004,0)]]),(20004,62,[CS.own 20000 10,ci,ci,ci,ci,ci])],[(11,3,Aa),(20000,135,As)]⟩)]
def SL (BO:Fn):Lp:=AN PG (Qcm BO) 64 4 (AO PG 96 4) Q71 Qxy
def Quz (BO:Fn) (N4:Lp):Cfg:=(Qcm BO).loop 4 Q71 Qxy N4
def Qs4:Sk:=⟨[td,tf [ci],tf [ci],tf [ci],tf [CS.clo 93 [] [(20000,0),(20001,0),(20002,0),(20003,0)]],tf [CS.ptr 5 0],td,td,td,td,td,tf [CS.own 11 1],td,td,td,td,td,td,td,td,td,td,td,td,td,td,td,td,td,td,td,td,td,td,td,td,td,td,tf [ci],tf [ci]]++dd 62,[(5,58,[ci,ci,ci,CS.sl Ah,CS.sl kPt]),(20000,44,[ci,ci,ci]),(20001,3,[ci]),(20002,27,[ci,ci,ci,ci,ci,ci,ci,ci,ci,CS.sl Aa,ci,ci,ci,ci,ci,ci,ci,ci,ci,CS.sl Aa,ci,ci,ci,ci,ci,ci,ci,ci,ci,CS.sl Aa]),(20003,153,[CS.clo 92 [] [(20004,0)]]),(20004,62,[CS.own 20000 10,ci,ci,ci,ci,ci])],[(11,3,Aa),(20000,135,As)]⟩
def Q4m:List (Ex×Sk):=[(Ex.exit 2,⟨[td]++dd 101,[(20000,44,[ci,ci,ci]),(20001,3,[ci]),(20002,27,[ci,ci,ci,ci,ci,ci,ci,ci,ci,CS.sl Aa,ci,ci,ci,ci,ci,ci,ci,ci,ci,CS.sl Aa,ci,ci,ci,ci,ci,ci,ci,ci,ci,CS.sl Aa]),(20003,153,[CS.clo 92 [] [(20004,0)]]),(20004,62,[CS.own 20000 10,ci,ci,ci,ci,ci])],[(20000,135,As)]⟩)]
def S7 (BO:Fn) (N4:Lp):Lp:=AN PG (Quz BO N4) 64 10 (AO PG 96 10) Qs4 Q4m
def Q24 (BO:Fn) (N4 N10:Lp):Cfg:=(Quz BO N4).loop 10 Qs4 Q4m N10
def Qhz (BO:Fn) (N4 N10:Lp):Fn:=Am PG (Q24 BO N4 N10) 64 96 Qhe VO
theorem Q4e (BO:Fn) (v0 v1:Rw) (v2 v3 v4 v5:Int) (v6:Rw) (v7 v8 v9 v10 v11:Int) (v12 v13:Rw) (v14 v15 v16 v17 v18 v19 v20 v21 v22 v23 v24 v25 v26:Int) (v27:Rw) (v28 v29 v30 v31 v32 v33 v34 v35 v36:Int) (v37:Rw) (v38 v39 v40 v41 v42 v43 v44 v45 v46:Int) (v47:Rw) (v48 v49 v50 v51 v52:Int):SL BO [.view Aa v0, .view As v1,I v2,I v3,I v4,I v5, .view Ah v6,I v7,I v8,I v9,I v10,I v11, .view Ah v12, .view kPt v13,I v14,I v15,I v16,I v17,I v18,I v19,I v20,I v21,I v22,I v23,I v24,I v25,I v26, .view Aa v27,I v28,I v29,I v30,I v31,I v32,I v33,I v34,I v35,I v36, .view Aa v37,I v38,I v39,I v40,I v41,I v42,I v43,I v44,I v45,I v46, .view Aa v47,I v48,I v49,I v50,I v51,I v52]=
 bif decide (v8<v7)then
 bif decide (0<=v8)&&decide (v8<(v6.length:Int))then
 bif((v0++[[I v5]]).length*8).ble 140737488355328 then
 some (0,[.view Aa (v0++[[I v5]]), .view As v1,I v2,I v3,I v4,I (IntKind.i64.wrap (v5+gA (nth [] v6 v8.toNat) 3)), .view Ah v6,I v7,I (IntKind.i64.wrap (v8+1)),I v9,I v10,I v11, .view Ah v12, .view kPt v13,I v14,I v15,I v16,I v17,I v18,I v19,I v20,I v21,I v22,I v23,I v24,I v25,I v26, .view Aa v27,I v28,I v29,I v30,I v31,I v32,I v33,I v34,I v35,I v36, .view Aa v37,I v38,I v39,I v40,I v41,I v42,I v43,I v44,I v45,I v46, .view Aa v47,I v48,I v49,I v50,I v51,I v52])
 else
 none
 else
 none
 else
 some (1,[.view Aa v0, .view As v1,I v2,I v3,I v4,I v9,I v10,I v11, .view Ah v12, .view kPt v13,I v14,I v15,I v16,I v17,I v18,I v19,I v20,I v21,I v22,I v23,I v24,I v25,I v26, .view Aa v27,I v28,I v29,I v30,I v31,I v32,I v33,I v34,I v35,I v36, .view Aa v37,I v38,I v39,I v40,I v41,I v42,I v43,I v44,I v45,I v46, .view Aa v47,I v48,I v49,I v50,I v51,I v52]):=by kernel_rfl
abbrev PY (h1_1:Bool) (BO:Fn) (v1:Rw) (h1_8 h1_9 h1_10 h1_12:AC) (v12 v13 v14 v15 v16 v17 v18 v19 v20 v21 v22 v23 v24:Int) (v25:Rw) (v26 v27 v28 v29 v30 v31 v32 v33 v34:Int) (v35:Rw) (v36 v37 v38 v39 v40 v41 v42 v43 v44:Int) (v45:Rw) (v46 v47 v48 v49 v50:Int) (v0:Rw) (v2 v3 v4 v5 v6 v7 v8 v9:Int) (v10 v11:Rw) (h2_0 h2_1 h2_2 h2_3:AC):Option (Nat×List AC):=
 bif h1_1 then
 (BO [.view As v1,h2_0,h2_1,h2_2,h1_8,h1_9,h1_10,h2_3,h1_12,I v12,I v13,I v14,I v15,I v16,I v17,I v18,I v19,I v20,I v21,I v22,I v23,I v24, .view Aa v25,I v26,I v27,I v28,I v29,I v30,I v31,I v32,I v33,I v34, .view Aa v35,I v36,I v37,I v38,I v39,I v40,I v41,I v42,I v43,I v44, .view Aa v45,I v46,I v47,I v48,I v49,I v50]).bind fun o11=>
 some (0,[.view Aa v0, .view As (wA o11 0),I v2,I v3,I v4,I v5,I (IntKind.i64.wrap (v6+1)),I v7,I v8,I v9, .view Ah v10, .view kPt v11,jA o11 1,jA o11 2,jA o11 3,jA o11 4,jA o11 5,jA o11 6,jA o11 7,jA o11 8,jA o11 9,jA o11 10,jA o11 11,jA o11 12,jA o11 13, .view Aa (wA o11 14),jA o11 15,jA o11 16,jA o11 17,jA o11 18,jA o11 19,jA o11 20,jA o11 21,jA o11 22,jA o11 23, .view Aa (wA o11 24),jA o11 25,jA o11 26,jA o11 27,jA o11 28,jA o11 29,jA o11 30,jA o11 31,jA o11 32,jA o11 33, .view Aa (wA o11 34),jA o11 35,jA o11 36,jA o11 37,jA o11 38,jA o11 39])
 else
 none
attribute [go_sem] PY
abbrev WD (v0 v1:Rw) (v2 v3 v4 v5 v6 v7 v8 v9:Int) (v10 v11:Rw) (v12 v13 v14 v15 v16 v17 v18 v19 v20 v21 v22 v23 v24:Int) (v25:Rw) (v26 v27 v28 v29 v30 v31 v32 v33 v34:Int) (v35:Rw) (v36 v37 v38 v39 v40 v41 v42 v43 v44:Int) (v45:Rw) (v46 v47 v48 v49 v50:Int) (BO:Fn) (h1_0 h1_1 h1_2 h1_3 h1_4:Bool) (h1_5 h1_6 h1_7 h1_8 h1_9 h1_10 h1_11 h1_12 h1_13:AC):Option (Nat×List AC):=
 bif h1_0 then
 bif h1_0 then
 bif h1_1 then
 bif h1_2 then
 some (0,[.view Aa v0, .view As v1,I v2,I v3,I v4,I v5,I (IntKind.i64.wrap (v6+1)),I v7,I v8,I v9, .view Ah v10, .view kPt v11,I v12,I v13,I v14,I v15,I v16,I v17,I v18,I v19,I v20,I v21,I v22,I v23,I v24, .view Aa v25,I v26,I v27,I v28,I v29,I v30,I v31,I v32,I v33,I v34, .view Aa v35,I v36,I v37,I v38,I v39,I v40,I v41,I v42,I v43,I v44, .view Aa v45,I v46,I v47,I v48,I v49,I v50])
 else
 bif h1_3 then
 bif h1_4 then
 bif decide (v4<0)then
 PY h1_1 BO v1 h1_8 h1_9 h1_10 h1_12 v12 v13 v14 v15 v16 v17 v18 v19 v20 v21 v22 v23 v24 v25 v26 v27 v28 v29 v30 v31 v32 v33 v34 v35 v36 v37 v38 v39 v40 v41 v42 v43 v44 v45 v46 v47 v48 v49 v50 v0 v2 v3 v4 v5 v6 v7 v8 v9 v10 v11 h1_5 h1_6 h1_7 h1_11
 else
 PY h1_1 BO v1 h1_8 h1_9 h1_10 h1_12 v12 v13 v14 v15 v16 v17 v18 v19 v20 v21 v22 v23 v24 v25 v26 v27 v28 v29 v30 v31 v32 v33 v34 v35 v36 v37 v38 v39 v40 v41 v42 v43 v44 v45 v46 v47 v48 v49 v50 v0 v2 v3 v4 v5 v6 v7 v8 v9 v10 v11 h1_5 h1_6 h1_7 h1_13
 else
 none
 else
 bif decide (v4<0)then
 PY h1_1 BO v1 h1_8 h1_9 h1_10 h1_12 v12 v13 v14 v15 v16 v17 v18 v19 v20 v21 v22 v23 v24 v25 v26 v27 v28 v29 v30 v31 v32 v33 v34 v35 v36 v37 v38 v39 v40 v41 v42 v43 v44 v45 v46 v47 v48 v49 v50 v0 v2 v3 v4 v5 v6 v7 v8 v9 v10 v11 (I v7) (I v8) (I v9) h1_11
 else
 PY h1_1 BO v1 h1_8 h1_9 h1_10 h1_12 v12 v13 v14 v15 v16 v17 v18 v19 v20 v21 v22 v23 v24 v25 v26 v27 v28 v29 v30 v31 v32 v33 v34 v35 v36 v37 v38 v39 v40 v41 v42 v43 v44 v45 v46 v47 v48 v49 v50 v0 v2 v3 v4 v5 v6 v7 v8 v9 v10 v11 (I v7) (I v8) (I v9) h1_13
 else
 none
 else
 none
 else
 none
attribute [go_sem] WD
theorem Qtp (BO:Fn) (N4:Lp) (v0 v1:Rw) (v2 v3 v4 v5 v6 v7 v8 v9:Int) (v10 v11:Rw) (v12 v13 v14 v15 v16 v17 v18 v19 v20 v21 v22 v23 v24:Int) (v25:Rw) (v26 v27 v28 v29 v30 v31 v32 v33 v34:Int) (v35:Rw) (v36 v37 v38 v39 v40 v41 v42 v43 v44:Int) (v45:Rw) (v46 v47 v48 v49 v50:Int):S7 BO N4 [.view Aa v0, .view As v1,I v2,I v3,I v4,I v5,I v6,I v7,I v8,I v9, .view Ah v10, .view kPt v11,I v12,I v13,I v14,I v15,I v16,I v17,I v18,I v19,I v20,I v21,I v22,I v23,I v24, .view Aa v25,I v26,I v27,I v28,I v29,I v30,I v31,I v32,I v33,I v34, .view Aa v35,I v36,I v37,I v38,I v39,I v40,I v41,I v42,I v43,I v44, .view Aa v45,I v46,I v47,I v48,I v49,I v50]=
 bif decide (v6<v5)then
 bif decide (v4<0)then
 WD v0 v1 v2 v3 v4 v5 v6 v7 v8 v9 v10 v11 v12 v13 v14 v15 v16 v17 v18 v19 v20 v21 v22 v23 v24 v25 v26 v27 v28 v29 v30 v31 v32 v33 v34 v35 v36 v37 v38 v39 v40 v41 v42 v43 v44 v45 v46 v47 v48 v49 v50 BO (decide (0<=IntKind.i64.wrap (IntKind.i64.wrap ((v10.length:Int)-1)-v6))&&decide (IntKind.i64.wrap (IntKind.i64.wrap ((v10.length:Int)-1)-v6)<(v0.length:Int))) (decide (0<=IntKind.i64.wrap (IntKind.i64.wrap ((v10.length:Int)-1)-v6))&&decide (IntKind.i64.wrap (IntKind.i64.wrap ((v10.length:Int)-1)-v6)<(v10.length:Int))) (decide (mx (Af (nth .dead (nth [] v0 (IntKind.i64.wrap (IntKind.i64.wrap ((v10.length:Int)-1)-v6)).toNat) 0)) v2>=mn (IntKind.i64.wrap (Af (nth .dead (nth [] v0 (IntKind.i64.wrap (IntKind.i64.wrap ((v10.length:Int)-1)-v6)).toNat) 0)+Af (nth .dead (nth [] v10 (IntKind.i64.wrap (IntKind.i64.wrap ((v10.length:Int)-1)-v6)).toNat) 3))) v3)) (decide (IntKind.i64.wrap (IntKind.i64.wrap ((v10.length:Int)-1)-v6)>0)) (decide (0<=IntKind.i64.wrap (IntKind.i64.wrap (IntKind.i64.wrap ((v10.length:Int)-1)-v6)-1))&&decide (IntKind.i64.wrap (IntKind.i64.wrap (IntKind.i64.wrap ((v10.length:Int)-1)-v6)-1)<(v10.length:Int))) (I (Af (nth .dead (nth [] v10 (IntKind.i64.wrap (IntKind.i64.wrap (IntKind.i64.wrap ((v10.length:Int)-1)-v6)-1)).toNat) 0))) (I (Af (nth .dead (nth [] v10 (IntKind.i64.wrap (IntKind.i64.wrap (IntKind.i64.wrap ((v10.length:Int)-1)-v6)-1)).toNat) 1))) (I (Af (nth .dead (nth [] v10 (IntKind.i64.wrap (IntKind.i64.wrap (IntKind.i64.wrap ((v10.length:Int)-1)-v6)-1)).toNat) 2))) (I (Af (nth .dead (nth [] v10 (IntKind.i64.wrap (IntKind.i64.wrap ((v10.length:Int)-1)-v6)).toNat) 0))) (I (Af (nth .dead (nth [] v10 (IntKind.i64.wrap (IntKind.i64.wrap ((v10.length:Int)-1)-v6)).toNat) 1))) (I (Af (nth .dead (nth [] v10 (IntKind.i64.wrap (IntKind.i64.wrap ((v10.length:Int)-1)-v6)).toNat) 2))) (I (mn (IntKind.i64.wrap (Af (nth .dead (nth [] v0 (IntKind.i64.wrap (IntKind.i64.wrap ((v10.length:Int)-1)-v6)).toNat) 0)+Af (nth .dead (nth [] v10 (IntKind.i64.wrap (IntKind.i64.wrap ((v10.length:Int)-1)-v6)).toNat) 3))) v3)) (I (IntKind.i64.wrap (mn (IntKind.i64.wrap (Af (nth .dead (nth [] v0 (IntKind.i64.wrap (IntKind.i64.wrap ((v10.length:Int)-1)-v6)).toNat) 0)+Af (nth .dead (nth [] v10 (IntKind.i64.wrap (IntKind.i64.wrap ((v10.length:Int)-1)-v6)).toNat) 3))) v3-mx (Af (nth .dead (nth [] v0 (IntKind.i64.wrap (IntKind.i64.wrap ((v10.length:Int)-1)-v6)).toNat) 0)) v2))) (I (mx (Af (nth .dead (nth [] v0 (IntKind.i64.wrap (IntKind.i64.wrap ((v10.length:Int)-1)-v6)).toNat) 0)) v2))
 else
 WD v0 v1 v2 v3 v4 v5 v6 v7 v8 v9 v10 v11 v12 v13 v14 v15 v16 v17 v18 v19 v20 v21 v22 v23 v24 v25 v26 v27 v28 v29 v30 v31 v32 v33 v34 v35 v36 v37 v38 v39 v40 v41 v42 v43 v44 v45 v46 v47 v48 v49 v50 BO (decide (0<=v6)&&decide (v6<(v0.length:Int))) (decide (0<=v6)&&decide (v6<(v10.length:Int))) (decide (mx (gA (nth [] v0 v6.toNat) 0) v2>=mn (IntKind.i64.wrap (gA (nth [] v0 v6.toNat) 0+gA (nth [] v10 v6.toNat) 3)) v3)) (decide (v6>0)) (decide (0<=IntKind.i64.wrap (v6-1))&&decide (IntKind.i64.wrap (v6-1)<(v10.length:Int))) (jA (nth [] v10 (IntKind.i64.wrap (v6-1)).toNat) 0) (jA (nth [] v10 (IntKind.i64.wrap (v6-1)).toNat) 1) (jA (nth [] v10 (IntKind.i64.wrap (v6-1)).toNat) 2) (jA (nth [] v10 v6.toNat) 0) (jA (nth [] v10 v6.toNat) 1) (jA (nth [] v10 v6.toNat) 2) (I (mn (IntKind.i64.wrap (gA (nth [] v0 v6.toNat) 0+gA (nth [] v10 v6.toNat) 3)) v3)) (I (IntKind.i64.wrap (mn (IntKind.i64.wrap (gA (nth [] v0 v6.toNat) 0+gA (nth [] v10 v6.toNat) 3)) v3-mx (gA (nth [] v0 v6.toNat) 0) v2))) (I (mx (gA (nth [] v0 v6.toNat) 0) v2))
 else
 some (1,[.view As v1,I v12,I v13,I v14,I v15,I v16,I v17,I v18,I v19,I v20,I v21,I v22,I v23,I v24, .view Aa v25,I v26,I v27,I v28,I v29,I v30,I v31,I v32,I v33,I v34, .view Aa v35,I v36,I v37,I v38,I v39,I v40,I v41,I v42,I v43,I v44, .view Aa v45,I v46,I v47,I v48,I v49,I v50]):=by kernel_rfl
theorem Z2j (BO:Fn) (N4 N10:Lp) (x0:Rw) (x1 x2 x3:Int) (x4 x5:Rw) (x6 x7 x8 x9 x10 x11 x12 x13 x14 x15 x16 x17 x18 x19 x20 x21:Int) (x22:Rw) (x23 x24 x25 x26 x27 x28 x29 x30 x31:Int) (x32:Rw) (x33 x34 x35 x36 x37 x38 x39 x40 x41:Int) (x42:Rw) (x43 x44 x45 x46 x47:Int):Qhz BO N4 N10 [.view As x0,I x1,I x2,I x3, .view Ah x4, .view kPt x5,I x6,I x7,I x8,I x9,I x10,I x11,I x12,I x13,I x14,I x15,I x16,I x17,I x18,I x19,I x20,I x21, .view Aa x22,I x23,I x24,I x25,I x26,I x27,I x28,I x29,I x30,I x31, .view Aa x32,I x33,I x34,I x35,I x36,I x37,I x38,I x39,I x40,I x41, .view Aa x42,I x43,I x44,I x45,I x46,I x47]=
 (N4 [.view Aa [], .view As x0,I x6,I x7,I x8,I 0, .view Ah x4,I (x4.length:Int),I 0,I x1,I x2,I x3, .view Ah x4, .view kPt x5,I x9,I x10,I x11,I x12,I x13,I x14,I x15,I x16,I x17,I x18,I x19,I x20,I x21, .view Aa x22,I x23,I x24,I x25,I x26,I x27,I x28,I x29,I x30,I x31, .view Aa x32,I x33,I x34,I x35,I x36,I x37,I x38,I x39,I x40,I x41, .view Aa x42,I x43,I x44,I x45,I x46,I x47]).bind fun o19=>
 bif o19.1.beq 1 then
 (N10 [.view Aa (wA o19.2 0), .view As (wA o19.2 1),jA o19.2 2,jA o19.2 3,jA o19.2 4,I (↑(wA o19.2 8).length:Int),I 0,jA o19.2 5,jA o19.2 6,jA o19.2 7, .view Ah (wA o19.2 8), .view kPt (wA o19.2 9),jA o19.2 10,jA o19.2 11,jA o19.2 12,jA o19.2 13,jA o19.2 14,jA o19.2 15,jA o19.2 16,jA o19.2 17,jA o19.2 18,jA o19.2 19,jA o19.2 20,jA o19.2 21,jA o19.2 22, .view Aa (wA o19.2 23),jA o19.2 24,jA o19.2 25,jA o19.2 26,jA o19.2 27,jA o19.2 28,jA o19.2 29,jA o19.2 30,jA o19.2 31,jA o19.2 32, .view Aa (wA o19.2 33),jA o19.2 34,jA o19.2 35,jA o19.2 36,jA o19.2 37,jA o19.2 38,jA o19.2 39,jA o19.2 40,jA o19.2 41,jA o19.2 42, .view Aa (wA o19.2 43),jA o19.2 44,jA o19.2 45,jA o19.2 46,jA o19.2 47,jA o19.2 48]).bind fun o20=>
 bif o20.1.beq 1 then
 some [.view As (wA o20.2 0),jA o20.2 1,jA o20.2 2,jA o20.2 3,jA o20.2 4,jA o20.2 5,jA o20.2 6,jA o20.2 7,jA o20.2 8,jA o20.2 9,jA o20.2 10,jA o20.2 11,jA o20.2 12,jA o20.2 13, .view Aa (wA o20.2 14),jA o20.2 15,jA o20.2 16,jA o20.2 17,jA o20.2 18,jA o20.2 19,jA o20.2 20,jA o20.2 21,jA o20.2 22,jA o20.2 23, .view Aa (wA o20.2 24),jA o20.2 25,jA o20.2 26,jA o20.2 27,jA o20.2 28,jA o20.2 29,jA o20.2 30,jA o20.2 31,jA o20.2 32,jA o20.2 33, .view Aa (wA o20.2 34),jA o20.2 35,jA o20.2 36,jA o20.2 37,jA o20.2 38,jA o20.2 39]
 else
 none
 else
 none:=by kernel_rfl
def L8:=An (SL FJ)
def Qlf:=An (S7 FJ L8)
def PA:=Qhz FJ L8 Qlf
theorem Qdq:Ai PG (Qcm FJ):=Ao rfl ⟨Q1o,trivial⟩
theorem Zkf:Al PG (96,Ac Qhe VO PA):=rw2 (C:=(Q24 FJ L8 Qlf)) (fl (fl fb Qdq) Qdq) Qdq
def Qld:Sk:=⟨[TS.v true [ci,ci,ci,CS.sl Ah,CS.sl kPt]],[],[]⟩
def T9:Sk:=⟨[tf [ci]],[],[]⟩
def Qsd (M:Fn):Nat×Spec:=(91,Ac Qld T9 M)
def C_path_Length_0:Cfg:=cf []
def Q0h:Sk:=⟨[td,td,td,tf [ci],td,td,td,tf [CS.sl Ah],tf [ci],tf [ci]]++dd 9,[],[]⟩
def Q7u:List (Ex×Sk):=[(Ex.exit 0,⟨[td,td,td,tf [ci]]++dd 15,[],[]⟩)]
def RQ:Lp:=AN PG C_path_Length_0 64 3 (AO PG 91 3) Q0h Q7u
def Q4l (N3:Lp):Cfg:=C_path_Length_0.loop 3 Q0h Q7u N3
def Q69 (N3:Lp):Fn:=Am PG (Q4l N3) 64 91 Qld T9
theorem Q6e (v0:Int) (v1:Rw) (v2 v3:Int):RQ [I v0, .view Ah v1,I v2,I v3]=
 bif decide (v3<v2)then
 bif decide (0<=v3)&&decide (v3<(v1.length:Int))then
 some (0,[I (IntKind.i64.wrap (v0+gA (nth [] v1 v3.toNat) 3)), .view Ah v1,I v2,I (IntKind.i64.wrap (v3+1))])
 else
 none
 else
 some (1,[I v0]):=by kernel_rfl
theorem Znb (N3:Lp) (x0 x1 x2:Int) (x3 x4:Rw):Q69 N3 [I x0,I x1,I x2, .view Ah x3, .view kPt x4]=
 (N3 [I 0, .view Ah x3,I (x3.length:Int),I 0]).bind fun o1=>
 bif o1.1.beq 1 then
 some [jA o1.2 0]
 else
 none:=by kernel_rfl
def Ro:=An (RQ)
def IM:=Q69 Ro
theorem Q6o:Ai PG (C_path_Length_0):=Ao rfl trivial
theorem Q16:Al PG (91,Ac Qld T9 IM):=rw2 (C:=(Q4l Ro)) (fl fb Q6o) Q6o
def Qe7:Sk:=⟨[TS.v true [ci,ci,ci,CS.sl Ah,CS.sl kPt],TS.v true [ci,ci,ci,ci,ci,ci,ci,ci,ci,CS.sl Aa,ci,ci,ci,ci,ci,ci,ci,ci,ci,CS.sl Aa,ci,ci,ci,ci,ci,ci,ci,ci,ci,CS.sl Aa],TS.v true [ci,ci,ci],tf [ci],tf [ci]],[],[]⟩
def Wx:Sk:=⟨[TS.v true [CS.sl As,ci,ci,ci,ci,ci]],[],[]⟩
def Qwv (M:Fn):Nat×Spec:=(58,Ac Qe7 Wx M)
def Qe6 (LQ BO Fy CF F1:Fn):Cfg:=cp [Ztg LQ,Qz5 BO,Qrh Fy,RV CF,Qsd F1] [96,93,92]
def Xl (LQ BO Fy CF F1:Fn):Fn:=Am PG (Qe6 LQ BO Fy CF F1) 64 58 Qe7 Wx
theorem Q97 (LQ BO Fy CF F1:Fn) (x0 x1 x2:Int) (x3 x4:Rw) (x5 x6 x7 x8 x9 x10 x11 x12 x13:Int) (x14:Rw) (x15 x16 x17 x18 x19 x20 x21 x22 x23:Int) (x24:Rw) (x25 x26 x27 x28 x29 x30 x31 x32 x33:Int) (x34:Rw) (x35 x36 x37 x38 x39:Int):Xl LQ BO Fy CF F1 [I x0,I x1,I x2, .view Ah x3, .view kPt x4,I x5,I x6,I x7,I x8,I x9,I x10,I x11,I x12,I x13, .view Aa x14,I x15,I x16,I x17,I x18,I x19,I x20,I x21,I x22,I x23, .view Aa x24,I x25,I x26,I x27,I x28,I x29,I x30,I x31,I x32,I x33, .view Aa x34,I x35,I x36,I x37,I x38,I x39]=
 (F1 [I x0,I x1,I x2, .view Ah x3, .view kPt x4]).bind fun o5=>
 (CF [I x38,jA o5 0]).bind fun o6=>
 (CF [I x39,jA o5 0]).bind fun o7=>
 bif decide (gA o6 0>gA o7 0)then
 (LQ [.view As [],I x0,I x1,I x2, .view Ah x3, .view kPt x4,I (mn (gA o6 0) (gA o7 0)),I (mx (gA o6 0) (gA o7 0)),I (-1),I x35,I x36,I x37,I (-1),I x5,I x6,I x7,I x8,I x9,I x10,I x11,I x12,I x13, .view Aa x14,I x15,I x16,I x17,I x18,I x19,I x20,I x21,I x22,I x23, .view Aa x24,I x25,I x26,I x27,I x28,I x29,I x30,I x31,I x32,I x33, .view Aa x34,I 0,jA o6 0,I x35,I x36,I x37]).bind fun o8=>
 some [.view As (wA o8 0),jA o8 35,jA o8 36,jA o8 37,jA o8 38,jA o8 39]
 else
 (LQ [.view As [],I x0,I x1,I x2, .view Ah x3, .view kPt x4,I (mn (gA o6 0) (gA o7 0)),I (mx (gA o6 0) (gA o7 0)),I 1,I x35,I x36,I x37,I 1,I x5,I x6,I x7,I x8,I x9,I x10,I x11,I x12,I x13, .view Aa x14,I x15,I x16,I x17,I x18,I x19,I x20,I x21,I x22,I x23, .view Aa x24,I x25,I x26,I x27,I x28,I x29,I x30,I x31,I x32,I x33, .view Aa x34,I 0,jA o6 0,I x35,I x36,I x37]).bind fun o9=>
 some [.view As (wA o9 0),jA o9 35,jA o9 36,jA o9 37,jA o9 38,jA o9 39]:=by kernel_rfl
def Jw:=Xl PA FJ K5 Fl IM
theorem Znz:Ai PG (Qe6 PA FJ K5 Fl IM):=Ao rfl ⟨Zkf,Q1o,Qyb,Tv,Q16,trivial⟩
theorem Qr6:Al PG (58,Ac Qe7 Wx Jw):=rw1 (C:=(Qe6 PA FJ K5 Fl IM)) Znz
def Qdh:Sk:=⟨[TS.v true [CS.sl As,ci,ci,ci,ci,ci],tf [ci]],[],[]⟩
def Qgy:Sk:=⟨[TS.v true [ci,ci,ci]],[],[]⟩
def Zda (M:Fn):Nat×Spec:=(156,Ac Qdh Qgy M)
def C_retrace_Facing_0:Cfg:=cf []
def Qtg:Sk:=⟨[td,tf [ci],tf [CS.ptr 2 0],td,tf [CS.ptr 4 0],td,td,td,td,td,td,td,td,tf [CS.sl As],tf [ci],tf [ci]]++dd 29,[(2,62,[CS.sl As,ci,ci,ci,ci,ci]),(4,44,[ci,ci,ci])],[]⟩
def Q3s:List (Ex×Sk):=[(Ex.ret,⟨[td,td,td,td,tf [CS.ptr 4 0]]++dd 40,[(4,44,[ci,ci,ci])],[]⟩),(Ex.exit 0,⟨[td,td,tf [CS.ptr 2 0],td,tf [CS.ptr 4 0]]++dd 40,[(2,62,[CS.sl As,ci,ci,ci,ci,ci]),(4,44,[ci,ci,ci])],[]⟩)]
def Zk8:Lp:=AN PG C_retrace_Facing_0 64 3 (AO PG 156 3) Qtg Q3s
def Qqn (N3:Lp):Cfg:=C_retrace_Facing_0.loop 3 Qtg Q3s N3
def Q8s (N3:Lp):Fn:=Am PG (Qqn N3) 64 156 Qdh Qgy
def Q52:=An (Zk8)
def Tn:=Q8s Q52
theorem Qvs:Ai PG (C_retrace_Facing_0):=Ao rfl trivial
theorem Zpb:Al PG (156,Ac Qdh Qgy Tn):=rw2 (C:=(Qqn Q52)) (fl fb Qvs) Qvs
def Qmd:Sk:=⟨[TS.v true [CS.sl As,ci,ci,ci,ci,ci],tf [ci]],[],[]⟩
def Vx:Sk:=⟨[tf [CS.bool]],[],[]⟩
def Zes (M:Fn):Nat×Spec:=(155,Ac Qmd Vx M)
def Yv (EJ CF:Fn):Cfg:=cf [Qhr EJ,RV CF]
def Z2h (EJ CF:Fn):Fn:=Am PG (Yv EJ CF) 64 155 Qmd Vx
def Ry:=Z2h GT Fl
theorem Znc:Ai PG (Yv GT Fl):=Ao rfl ⟨Zi,Tv,trivial⟩
theorem Zp2:Al PG (155,Ac Qmd Vx Ry):=rw1 (C:=(Yv GT Fl)) Znc
def Qk8:Sk:=⟨[TS.v true [ci,ci,ci,ci,ci,ci]],[],[]⟩
def YY:Sk:=⟨[tf [CS.bool]],[],[]⟩
def Q3y (M:Fn):Nat×Spec:=(64,Ac Qk8 YY M)
def WV:Cfg:=cf []
def Qcp:Fn:=Am PG WV 64 64 Qk8 YY
theorem Zzs (x0 x1 x2 x3 x4 x5:Int):Qcp [I x0,I x1,I x2,I x3,I x4,I x5]=
 bif x1==0 then
 bif x2==0 then
 bif x3==x0 then
 some [B (x4==x0)]
 else
 some [B false]
 else
 some [B false]
 else
 some [B false]:=by kernel_rfl
def H_:=Qcp
theorem Zmb:Ai PG (WV):=Ao rfl trivial
theorem Qp4:Al PG (64,Ac Qk8 YY H_):=rw1 (C:=WV) Zmb
def Qic:Sk:=⟨[TS.v true [ci,ci,ci,CS.sl Ah,CS.sl kPt],TS.v true [ci,ci,ci,ci,ci,ci,ci,ci,ci,CS.sl Aa,ci,ci,ci,ci,ci,ci,ci,ci,ci,CS.sl Aa,ci,ci,ci,ci,ci,ci,ci,ci,ci,CS.sl Aa],TS.v true [CS.sl As,ci,ci,ci,ci,ci],TS.v true [ci,ci,ci,ci,ci,ci],tf [ci]],[],[]⟩
def Qg4:Sk:=⟨[TS.tup [(true,[CS.sl As,ci,ci,ci,ci,ci]),(true,[ci,ci,ci,ci,ci,ci]),(false,[CS.bool])]],[],[]⟩
def Q43 (M:Fn):Nat×Spec:=(105,Ac Qic Qg4 M)
def Qhf (Ey Id BD VA Qhp B_:Fn):Cfg:={cf [XR Ey,Qwv Id,PD BD,Zda VA,Zes Qhp,Q3y B_]with ownBut:=[10]}
def Zlx (Ey Id BD VA Qhp B_:Fn):Fn:=Am PG (Qhf Ey Id BD VA Qhp B_) 64 105 Qic Qg4
def LH:=Zlx Gk Jw Dv Tn Ry H_
theorem Zk4:Ai PG (Qhf Gk Jw Dv Tn Ry H_):=Ao rfl ⟨U5,Qr6,OU,Zpb,Zp2,Qp4,trivial⟩
theorem Q6f:Al PG (105,Ac Qic Qg4 LH):=rw1 (C:=(Qhf Gk Jw Dv Tn Ry H_)) Zk4
def Qir:Sk:=⟨[tf [CS.ptr 20000 0]],[(20000,119,cS)],[]⟩
def Qai:Sk:=⟨[TS.tup [(false,[ci]),(false,[CS.bool])]],[(20000,119,cS)],[]⟩
def Zfi (M:Fn):Nat×Spec:=(69,Ac Qir Qai M)
def Qlj (E1 CA:Fn):Cfg:=cf [Q43 E1,XM CA]
def YG (E1 CA:Fn):Fn:=Am PG (Qlj E1 CA) 64 69 Qir Qai
abbrev Qj8 (E1:Fn) (K:Kf) (c:Cv) (h1_0 h2_0:AC):Option (List AC):=
 (E1 (pxt K.p K.x K.t [I c.m0,I c.m1,I c.m2,I c.m3,I c.m4,I c.m5,h2_0])).bind fun o10=>
 bif !bA o10 12 then
 some (h1_0::B true::Ad K c)
 else
 bif c.way==1 then
 some (h1_0::B true::DW (Ad K c) [(44, .view As (wA o10 0)),(45,jA o10 1),(46,jA o10 2),(47,jA o10 3),(48,jA o10 4),(49,jA o10 5),(50,jA o10 6),(51,jA o10 7),(52,jA o10 8),(53,jA o10 9),(54,jA o10 10),(55,jA o10 11),(71,I 2),(89,B true)])
 else
 some (h1_0::B true::DW (Ad K c) [(44, .view As (wA o10 0)),(45,jA o10 1),(46,jA o10 2),(47,jA o10 3),(48,jA o10 4),(49,jA o10 5),(50,jA o10 6),(51,jA o10 7),(52,jA o10 8),(53,jA o10 9),(54,jA o10 10),(55,jA o10 11),(58,B true),(71,I 0),(89,B true)])
attribute [go_sem] Qj8
abbrev YE (c:Cv) (CA:Fn) (K:Kf) (E1:Fn) (h1_0:AC):Option (List AC):=
 bif !c.stood then
 (CA (pxt K.p K.x K.t [I K.pa,I K.pb,I K.pc,I c.o0,I c.o1,B c.o2,B c.o3,B c.o4,I c.m0,I c.m1,I c.m2,I c.m3,I c.m4,I c.m5,I K.t.length])).bind fun o8=>
 some (h1_0::B true::Ad K {c with m0:=gA o8 0,m1:=gA o8 1,m2:=gA o8 2,m3:=gA o8 3,m4:=gA o8 4,m5:=gA o8 5})
 else
 bif c.m0 !=IntKind.i64.wrap (K.t.length*256)then
 (CA (pxt K.p K.x K.t [I K.pa,I K.pb,I K.pc,I c.o0,I c.o1,B c.o2,B c.o3,B c.o4,I c.m0,I c.m1,I c.m2,I c.m3,I c.m4,I c.m5,I K.t.length])).bind fun o9=>
 some (h1_0::B true::Ad K {c with m0:=gA o9 0,m1:=gA o9 1,m2:=gA o9 2,m3:=gA o9 3,m4:=gA o9 4,m5:=gA o9 5})
 else
 bif c.way==2 then
 Qj8 E1 K c h1_0 (I K.len)
 else
 Qj8 E1 K c h1_0 (I c.home)
attribute [go_sem] YE
theorem Q9g (E1 CA:Fn) (K:Kf) (c:Cv):YG E1 CA (Ad K c)=
 bif c.way==0 then
 some (I 0::B false::Ad K c)
 else
 bif c.way==2 then
 YE c CA K E1 (I 5)
 else
 YE c CA K E1 (I 4):=by kernel_rfl
def Ls:=YG LH ET
theorem Zms:Ai PG (Qlj LH ET):=Ao rfl ⟨Q6f,Qh2,trivial⟩
theorem Znd:Al PG (69,Ac Qir Qai Ls):=rw1 (C:=(Qlj LH ET)) Zms
def WR:Sk:=⟨[tf [CS.ptr 20000 0]],[(20000,119,cS)],[]⟩
def Qg6:Sk:=⟨[TS.tup [(false,[ci]),(false,[CS.bool])]],[(20000,119,cS)],[]⟩
def Zhx (M:Fn):Nat×Spec:=(68,Ac WR Qg6 M)
def WP (DZ:Fn):Cfg:=cp [Qzp DZ] [103]
def Qj1 (DZ:Fn):Fn:=Am PG (WP DZ) 64 68 WR Qg6
theorem Zpq (DZ:Fn) (K:Kf) (c:Cv):Qj1 DZ (Ad K c)=
 bif !c.on then
 some (I 0::B false::Ad K c)
 else
 (DZ (Ad K c)).bind fun o1=>
 some (jA o1 0::B true::cR 1 o1):=by kernel_rfl
def La:=Qj1 JD
theorem Zc7:Ai PG (WP JD):=Ao rfl ⟨Q0m,trivial⟩
theorem Zq9:Al PG (68,Ac WR Qg6 La):=rw1 (C:=(WP JD)) Zc7
def Qbo:Sk:=⟨[tf [CS.ptr 20000 0]],[(20000,119,cS)],[]⟩
def XV:Sk:=⟨[TS.tup [(false,[ci]),(false,[CS.bool])]],[(20000,119,cS)],[]⟩
def Z0l (M:Fn):Nat×Spec:=(67,Ac Qbo XV M)
def Qoy:Cfg:=cf []
def Qcl:Fn:=Am PG Qoy 64 67 Qbo XV
theorem Ztc (K:Kf) (c:Cv):Qcl (Ad K c)=
 bif !c.touched then
 some (I 0::B false::Ad K c)
 else
 bif !c.stood then
 some (I 0::B false::Ad K c)
 else
 some (I 8::B true::Ad K {c with ended:=8}):=by kernel_rfl
def Kv:=Qcl
theorem Zb9:Ai PG (Qoy):=Ao rfl trivial
theorem Z05:Al PG (67,Ac Qbo XV Kv):=rw1 (C:=Qoy) Zb9
def Wk:Sk:=⟨[tf [CS.ptr 20000 0]],[(20000,119,cS)],[]⟩
def Qdb:Sk:=⟨[TS.tup [(false,[ci]),(false,[CS.bool])]],[(20000,119,cS)],[]⟩
def Zr6 (M:Fn):Nat×Spec:=(66,Ac Wk Qdb M)
def Qfd:Cfg:=cf []
def Qah:Fn:=Am PG Qfd 64 66 Wk Qdb
theorem Zho (K:Kf) (c:Cv):Qah (Ad K c)=
 some (I c.ended::B (c.ended !=0)::Ad K c):=by kernel_rfl
def KZ:=Qah
theorem Zgc:Ai PG (Qfd):=Ao rfl trivial
theorem Zec:Al PG (66,Ac Wk Qdb KZ):=rw1 (C:=Qfd) Zgc
def Qeg:Sk:=⟨[tf [CS.ptr 20000 0]],[(20000,119,cS)],[]⟩
def Vf:Sk:=⟨[TS.tup [(false,[ci]),(false,[CS.bool])]],[(20000,119,cS)],[]⟩
def Zdr (M:Fn):Nat×Spec:=(65,Ac Qeg Vf M)
def Xt (Ey AZ:Fn):Cfg:=cr [XR Ey,P8 AZ] [63] [63]
def Qi0 (Ey AZ:Fn):Fn:=Am PG (Xt Ey AZ) 64 65 Qeg Vf
theorem Zh0 (Ey AZ:Fn) (K:Kf) (c:Cv):Qi0 Ey AZ (Ad K c)=
 bif c.g0 !=2 then
 some (I 0::B false::Ad K c)
 else
 (AZ (Ad K c)).bind fun o2=>
 (Ey [jA o2 0]).bind fun o3=>
 some (I 6::B true::Ad K {c with m0:=gA o3 0,m1:=gA o3 1,m2:=gA o3 2,m3:=gA o3 3,m4:=gA o3 4,m5:=gA o3 5}):=by kernel_rfl
def Ll:=Qi0 Gk Dg
theorem Zbb:Ai PG (Xt Gk Dg):=GD (rs:=[63]) rfl ⟨U5,OI,trivial⟩ rfl (B7 rfl (EY GN))
theorem Ztr:Al PG (65,Ac Qeg Vf Ll):=rw1 (C:=(Xt Gk Dg)) Zbb
def Qhl:Sk:=⟨[TS.v true [ci,ci,ci,ci],tf [ci]],[],[]⟩
def Qfy:Sk:=⟨[TS.v true [ci,ci,ci,ci]],[],[]⟩
def Z3h (M:Fn):Nat×Spec:=(62,Ac Qhl Qfy M)
def Qkm:Cfg:=cf []
def U9:Fn:=Am PG Qkm 64 62 Qhl Qfy
theorem Zu1 (x0 x1 x2 x3 x4:Int):U9 [I x0,I x1,I x2,I x3,I x4]=
 bif decide (x1<x2)then
 some [I x0,I (mn (IntKind.i64.wrap (x1+x4)) x2),I x2,I (IntKind.i64.wrap (x3+IntKind.i64.wrap (x0*mn (IntKind.i64.wrap (x1+x4)) x2)))]
 else
 some [I x0,I (mx (IntKind.i64.wrap (x1-x4)) x2),I x2,I (IntKind.i64.wrap (x3+IntKind.i64.wrap (x0*mx (IntKind.i64.wrap (x1-x4)) x2)))]:=by kernel_rfl
def LE:=U9
theorem Zy5:Ai PG (Qkm):=Ao rfl trivial
theorem Zwd:Al PG (62,Ac Qhl Qfy LE):=rw1 (C:=Qkm) Zy5
def Qh8:Sk:=⟨[tf [CS.ptr 20000 0]],[(20000,119,cS)],[]⟩
def XT:Sk:=⟨[tf [CS.bool]],[],[]⟩
def Zr9 (M:Fn):Nat×Spec:=(61,E7 Qh8 XT M)
def O3 (Du:Fn):Cfg:=cr [S2 Du] [102] [102]
def YN (Du:Fn):Fn:=Ob PG (O3 Du) 64 61 Qh8 XT
theorem Zk2 (Du:Fn) (K:Kf) (c:Cv):YN Du (Ad K c)=
 (Du (Ad K c)).bind fun o1=>
 bif bA o1 7 then
 bif decide (0<=gA o1 4)&&decide (gA o1 4<((K.items.map Ag).length:Int))then
 bif gA (nth [] (K.items.map Ag) (gA o1 4).toNat) 0==6 then
 some [B (c.y0==gA o1 4)]
 else
 some [B false]
 else
 none
 else
 some [B false]:=by kernel_rfl
def LY:=YN EF
theorem Zaw:Ai PG (O3 EF):=GD (rs:=[102]) rfl ⟨Rn,trivial⟩ rfl (EY GN)
theorem Zs7 (vars : List AC) (R : Type) (K : TV -> Mem -> Option R) : Fk PG (O3 EF) 64 61 [TV.v false [AC.ptr 20000 0]] ⟨[(20000, (⟨119, (cR 0 vars)⟩ : Box))], []⟩ K = Fk PG (O3 EF) 64 61 [TV.v false [AC.ptr 20000 0]] ⟨[(20000, (⟨119, (cR 0 vars)⟩ : Box))], []⟩ (fun v _ => K v ⟨[(20000, (⟨119, (cR 0 vars)⟩ : Box))], []⟩) := Eq.trans (b := ((EF (cR 0 vars)).bind fun o1 =>
 bif bA o1 7 then
 bif decide (0<=gA o1 4)&&decide (gA o1 4<(↑(wA vars 35).length:Int))then
 bif Af (nth .dead (nth [] (wA vars 35) (gA o1 4).toNat) 0)==6 then
 K (TV.v false [B ((gA vars 79)==gA o1 4)]) ⟨[(20000,(⟨119,(cR 0 vars)⟩:Box))],[]⟩
 else
 K (TV.v false [B false]) ⟨[(20000,(⟨119,(cR 0 vars)⟩:Box))],[]⟩
 else
 none
 else
 K (TV.v false [B false]) ⟨[(20000,(⟨119,(cR 0 vars)⟩:Box))],[]⟩)) (by kernel_rfl) (Eq.symm (by kernel_rfl))
theorem Zxg:Al PG (61,E7 Qh8 XT LY):=TM (C:=(O3 EF)) (L:=64) (by kernel_rfl) (FnOK.bare rfl rfl rfl) Zaw eqOk Hh (by kernel_rfl) (by kernel_rfl) (fun vars R K=>Zs7 vars R K)
def WI:Sk:=⟨[tf [CS.ptr 20000 0],tf [ci]],[(20000,119,cS)],[]⟩
def Qcv:Sk:=⟨[tf [ci]],[(20000,119,cS)],[]⟩
def Zvx (M:Fn):Nat×Spec:=(147,Ac WI Qcv M)
def C_controller_Controller_synced_0:Cfg:=cf []
def Q6k:Sk:=⟨[td,tf [ci],td,td,td,tf [ci],tf [ci],td,td,td,td,td,td,tf [CS.sl Ah],tf [ci],tf [ci]]++dd 18,[(20000,119,cS)],[]⟩
def Q1n:List (Ex×Sk):=[(Ex.exit 0,⟨[td,td,td,td,td,td,tf [ci]]++dd 27,[(20000,119,cS)],[]⟩)]
def Zzu:Lp:=AN PG C_controller_Controller_synced_0 64 3 (AO PG 147 3) Q6k Q1n
def Q1i (N3:Lp):Cfg:=C_controller_Controller_synced_0.loop 3 Q6k Q1n N3
def Zpy (N3:Lp):Fn:=Am PG (Q1i N3) 64 147 WI Qcv
def Qtn:=An (Zzu)
def SF:=Zpy Qtn
theorem Qpy:Ai PG (C_controller_Controller_synced_0):=Ao rfl trivial
theorem Q84:Al PG (147,Ac WI Qcv SF):=rw2 (C:=(Q1i Qtn)) (fl fb Qpy) Qpy
def Qh6:Sk:=⟨[tf [CS.ptr 20000 0],tf [ci]],[(20000,119,cS)],[]⟩
def Vs:Sk:=⟨[TS.tup []],[(20000,119,cS)],[]⟩
def Z04 (M:Fn):Nat×Spec:=(101,Ac Qh6 Vs M)
def WY (E1 Qnp Bx Du:Fn):Cfg:=cr [Q43 E1,Zvx Qnp,L_ Bx,S2 Du] [147,110,102] [110,102]
def Zl9 (E1 Qnp Bx Du:Fn):Fn:=Am PG (WY E1 Qnp Bx Du) 64 101 Qh6 Vs
def R_:=Zl9 LH SF C5 EF
theorem Zu0:Ai PG (WY LH SF C5 EF):=GD (rs:=[110,102]) rfl ⟨Q6f,Q84,NQ,Rn,trivial⟩ rfl (B7 rfl (B7 rfl (EY (EY GN))))
theorem Z0z:Al PG (101,Ac Qh6 Vs R_):=rw1 (C:=(WY LH SF C5 EF)) Zu0
def Z8:Sk:=⟨[tf [CS.ptr 20000 0],tf [ci]],[(20000,119,cS)],[]⟩
def Qfz:Sk:=⟨[tf [ci]],[(20000,119,cS)],[]⟩
def Zko (M:Fn):Nat×Spec:=(146,Ac Z8 Qfz M)
def C_controller_Controller_beginning_0:Cfg:=cf []
def Q7y:Sk:=⟨[td,tf [ci],td,td,td,tf [ci],td,td,td,td,td,td,tf [CS.sl Ah],tf [ci],tf [ci]]++dd 13,[(20000,119,cS)],[]⟩
def Qwk:List (Ex×Sk):=[(Ex.exit 0,⟨[td,td,td,td,td,tf [ci]]++dd 22,[(20000,119,cS)],[]⟩)]
def Zym:Lp:=AN PG C_controller_Controller_beginning_0 64 3 (AO PG 146 3) Q7y Qwk
def Q0o (N3:Lp):Cfg:=C_controller_Controller_beginning_0.loop 3 Q7y Qwk N3
def Q80 (N3:Lp):Fn:=Am PG (Q0o N3) 64 146 Z8 Qfz
def Qt0:=An (Zym)
def Rq:=Q80 Qt0
theorem Q3p:Ai PG (C_controller_Controller_beginning_0):=Ao rfl trivial
theorem Zdp:Al PG (146,Ac Z8 Qfz Rq):=rw2 (C:=(Q0o Qt0)) (fl fb Q3p) Q3p
def Qas:Sk:=⟨[tf [CS.ptr 20000 0]],[(20000,119,cS)],[]⟩
def Qa8:Sk:=⟨[TS.tup []],[(20000,119,cS)],[]⟩
def Zav (M:Fn):Nat×Spec:=(100,Ac Qas Qa8 M)
def T2 (Yz Bx Du:Fn):Cfg:=cr [Zko Yz,L_ Bx,S2 Du] [146,110,102] [110,102]
def Ze8 (Yz Bx Du:Fn):Fn:=Am PG (T2 Yz Bx Du) 64 100 Qas Qa8
def QY:=Ze8 Rq C5 EF
theorem Zp4:Ai PG (T2 Rq C5 EF):=GD (rs:=[110,102]) rfl ⟨Zdp,NQ,Rn,trivial⟩ rfl (B7 rfl (EY (EY GN)))
theorem Zey:Al PG (100,Ac Qas Qa8 QY):=rw1 (C:=(T2 Rq C5 EF)) Zp4
def Ww:Sk:=⟨[TS.v true [ci,ci,ci],tf [ci],TS.v true [ci,ci,ci],TS.v true [ci,ci,ci]],[],[]⟩
def Qa9:Sk:=⟨[TS.v true [ci,ci,ci]],[],[]⟩
def Z4d (M:Fn):Nat×Spec:=(145,Ac Ww Qa9 M)
def Qd2:Cfg:={cf []with unroll:=[4]}
def Z0i:Fn:=Am PG Qd2 64 145 Ww Qa9
def RI:=Z0i
theorem Zgj:Ai PG (Qd2):=Ao rfl trivial
theorem Zsd:Al PG (145,Ac Ww Qa9 RI):=rw1 (C:=Qd2) Zgj
def Qj9:Sk:=⟨[tf [CS.ptr 20000 0],tf [ci]],[(20000,119,cS)],[]⟩
def Qj3:Sk:=⟨[TS.tup []],[(20000,119,cS)],[]⟩
def Zl0 (M:Fn):Nat×Spec:=(99,Ac Qj9 Qj3 M)
def Xz (K4 Be AZ:Fn):Cfg:=cr [Z4d K4,Ti Be,P8 AZ] [63] [63]
def Znj (K4 Be AZ:Fn):Fn:=Am PG (Xz K4 Be AZ) 64 99 Qj9 Qj3
abbrev Zrz (x0:Int) (K4:Fn) (c:Cv) (K:Kf) (o12:List AC) (h1_0:AC):Option (List AC):=
 bif decide (IntKind.i64.wrap (x0.tdiv 1048576)=(↑0:Int))then
 (K4 [I c.g0,I c.g1,I c.g2,I K.lag,jA o12 0,jA o12 1,jA o12 2,h1_0,jA o12 1,jA o12 2]).bind fun o13=>
 some (Ad K {c with g0:=gA o13 0,g1:=gA o13 1,g2:=gA o13 2})
 else
 bif decide (IntKind.i64.wrap (x0.tdiv 1048576)=(↑(0+1):Int))then
 (K4 [I c.g0,I c.g1,I c.g2,I K.lag,jA o12 0,jA o12 1,jA o12 2,jA o12 0,h1_0,jA o12 2]).bind fun o14=>
 some (Ad K {c with g0:=gA o14 0,g1:=gA o14 1,g2:=gA o14 2})
 else
 bif decide (IntKind.i64.wrap (x0.tdiv 1048576)=(↑(0+1+1):Int))then
 (K4 [I c.g0,I c.g1,I c.g2,I K.lag,jA o12 0,jA o12 1,jA o12 2,jA o12 0,jA o12 1,h1_0]).bind fun o15=>
 some (Ad K {c with g0:=gA o15 0,g1:=gA o15 1,g2:=gA o15 2})
 else
 none
attribute [go_sem] Zrz
def QP:=Znj RI Ez Dg
theorem Z17:Ai PG (Xz RI Ez Dg):=GD (rs:=[63]) rfl ⟨Zsd,SP,OI,trivial⟩ rfl (B7 rfl (B7 rfl (EY GN)))
theorem Z2q:Al PG (99,Ac Qj9 Qj3 QP):=rw1 (C:=(Xz RI Ez Dg)) Z17
def Yp:Sk:=⟨[],[],[]⟩
def Qio:Sk:=⟨[TS.v true [ci,ci,ci]],[],[]⟩
def Qzg (M:Fn):Nat×Spec:=(56,Ac Yp Qio M)
def Y8:Cfg:=cf []
def Sh:Fn:=Am PG Y8 64 56 Yp Qio
theorem Q4u:Sh []=
 some [I 0,I 0,I (-1)]:=by kernel_rfl
def Ka:=Sh
theorem Zue:Ai PG (Y8):=Ao rfl trivial
theorem Qwj:Al PG (56,Ac Yp Qio Ka):=rw1 (C:=Y8) Zue
def W8:Sk:=⟨[TS.v true [ci,ci,ci],tf [ci],tf [ci]],[],[]⟩
def Uk:Sk:=⟨[TS.v true [ci,ci,ci]],[],[]⟩
def Zkl (M:Fn):Nat×Spec:=(144,Ac W8 Uk M)
def WH:Cfg:=cf []
def Uc:Fn:=Am PG WH 64 144 W8 Uk
theorem Zj7 (x0 x1 x2 x3 x4:Int):Uc [I x0,I x1,I x2,I x3,I x4]=
 bif x0==2 then
 some [I x0,I x1,I x2]
 else
 bif x1==0 then
 some [I 1,I x3,I x4]
 else
 some [I 1,I x1,I x2]:=by kernel_rfl
def Qg:=Uc
theorem Z0n:Ai PG (WH):=Ao rfl trivial
theorem Zmg:Al PG (144,Ac W8 Uk Qg):=rw1 (C:=WH) Z0n
end Go.Bm
