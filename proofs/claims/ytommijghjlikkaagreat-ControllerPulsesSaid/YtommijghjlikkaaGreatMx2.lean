/- functions of the program and of the references, as models -/
import Derived.Test.YtommijghjlikkaaGreatMx1
set_option linter.unusedSimpArgs false
set_option linter.unusedVariables false
set_option maxRecDepth 100000
noncomputable section
open Go.IntKind (wrap)
namespace Go.Bm
open Go.Proofs
def Uv:Sk:=⟨[TS.v true (cc 6)],[],[]⟩
def Qgq:Sk:=⟨[tf [CS.bool]],[],[]⟩
def Z0f (M:Fn):Nat×Spec:=(64,Ac Uv Qgq M)
def U0:Cfg:=cf []
def Qk5:Fn:=Am PG U0 64 64 Uv Qgq
theorem Z4g (x0 x1 x2 x3 x4 x5:Int):Qk5 [I x0,I x1,I x2,I x3,I x4,I x5]=
 bif x1==0 then
 bif x2==0 then
 bif x3==x0 then
 some [B (x4==x0)]
 else
 some [B false]
 else
 some [B false]
 else
 some [B false]:=by kernel_rfl
def K7:=Qk5
theorem Zpg:Ai PG (U0):=Ao rfl trivial
theorem Zwc:Aj PG (64,Ac Uv Qgq K7):=rw1 (C:=U0) Zpg
def Qtd:Sk:=⟨[TS.v true [ci,ci,ci,CS.sl Ag,CS.sl kPt],TS.v true (cc 9++[CS.sl Aa]++cc 9++[CS.sl Aa]++cc 9++[CS.sl Aa]),TS.v true ([CS.sl Ap]++cc 5),TS.v true (cc 6),tf [ci]],[],[]⟩
def Q5l:Sk:=⟨[TS.tup [(true,[CS.sl Ap]++cc 5),(true,cc 6),(false,[CS.bool])]],[],[]⟩
def Zd3 (M:Fn):Nat×Spec:=(105,Ac Qtd Q5l M)
def TA:Fn:=fun _=>none
theorem Z0b:Aj PG (105,Ac Qtd Q5l TA):=QO
def Qjd:Sk:=⟨[tf [CS.ptr 20000 0]],[(20000,119,cS)],[]⟩
def ZF:Sk:=⟨[TS.tup [(false,[ci]),(false,[CS.bool])]],[(20000,119,cS)],[]⟩
def Zmj (M:Fn):Nat×Spec:=(69,Ac Qjd ZF M)
def YJ (GH Cq:Fn):Cfg:=cf [Zd3 GH,Qhi Cq]
def V4 (GH Cq:Fn):Fn:=Am PG (YJ GH Cq) 64 69 Qjd ZF
abbrev VR (GH:Fn) (K:Kf) (c:Cv) (h1_0 h2_0:AC):Option (List AC):=
 (GH (pxt K.p K.x K.t [I c.m0,I c.m1,I c.m2,I c.m3,I c.m4,I c.m5,h2_0])).bind fun o10=>
 bif !bA o10 12 then
 some (h1_0::B true::Ad K c)
 else
 bif c.way==1 then
 some (h1_0::B true::DY (Ad K c) [(44, .view Ap (wA o10 0)),(45,jA o10 1),(46,jA o10 2),(47,jA o10 3),(48,jA o10 4),(49,jA o10 5),(50,jA o10 6),(51,jA o10 7),(52,jA o10 8),(53,jA o10 9),(54,jA o10 10),(55,jA o10 11),(71,I 2),(89,B true)])
 else
 some (h1_0::B true::DY (Ad K c) [(44, .view Ap (wA o10 0)),(45,jA o10 1),(46,jA o10 2),(47,jA o10 3),(48,jA o10 4),(49,jA o10 5),(50,jA o10 6),(51,jA o10 7),(52,jA o10 8),(53,jA o10 9),(54,jA o10 10),(55,jA o10 11),(58,B true),(71,I 0),(89,B true)])
attribute [go_sem] VR
abbrev X5 (c:Cv) (Cq:Fn) (K:Kf) (GH:Fn) (h1_0:AC):Option (List AC):=
 bif !c.aM then
 (Cq (pxt K.p K.x K.t [I K.pa,I K.pb,I K.pc,I c.o0,I c.o1,B c.o2,B c.o3,B c.o4,I c.m0,I c.m1,I c.m2,I c.m3,I c.m4,I c.m5,I K.t.length])).bind fun o8=>
 some (h1_0::B true::Ad K {c with m0:=gA o8 0,m1:=gA o8 1,m2:=gA o8 2,m3:=gA o8 3,m4:=gA o8 4,m5:=gA o8 5})
 else
 bif c.m0 !=wrap .i64 (K.t.length*256)then
 (Cq (pxt K.p K.x K.t [I K.pa,I K.pb,I K.pc,I c.o0,I c.o1,B c.o2,B c.o3,B c.o4,I c.m0,I c.m1,I c.m2,I c.m3,I c.m4,I c.m5,I K.t.length])).bind fun o9=>
 some (h1_0::B true::Ad K {c with m0:=gA o9 0,m1:=gA o9 1,m2:=gA o9 2,m3:=gA o9 3,m4:=gA o9 4,m5:=gA o9 5})
 else
 bif c.way==2 then
 VR GH K c h1_0 (I K.len)
 else
 VR GH K c h1_0 (I c.home)
attribute [go_sem] X5
theorem Zcz (GH Cq:Fn) (K:Kf) (c:Cv):V4 GH Cq (Ad K c)=
 bif c.way==0 then
 some (I 0::B false::Ad K c)
 else
 bif c.way==2 then
 X5 c Cq K GH (I 5)
 else
 X5 c Cq K GH (I 4):=by kernel_rfl
def LC:=V4 TA Fa
theorem Zxt:Ai PG (YJ TA Fa):=Ao rfl ⟨Z0b,Qgf,trivial⟩
theorem Zwi:Aj PG (69,Ac Qjd ZF LC):=rw1 (C:=(YJ TA Fa)) Zxt
def V7:Sk:=⟨[tf [CS.ptr 20000 0]],[(20000,119,cS)],[]⟩
def Wx:Sk:=⟨[TS.tup [(false,[ci]),(false,[CS.bool])]],[(20000,119,cS)],[]⟩
def Zy2 (M:Fn):Nat×Spec:=(68,Ac V7 Wx M)
def Qos (DT:Fn):Cfg:=cp [Q6y DT] [103]
def Qjz (DT:Fn):Fn:=Am PG (Qos DT) 64 68 V7 Wx
theorem Ztl (DT:Fn) (K:Kf) (c:Cv):Qjz DT (Ad K c)=
 bif !c.on then
 some (I 0::B false::Ad K c)
 else
 (DT (Ad K c)).bind fun o1=>
 some (jA o1 0::B true::cR 1 o1):=by kernel_rfl
def LH:=Qjz Ke
theorem Zgx:Ai PG (Qos Ke):=Ao rfl ⟨Qyp,trivial⟩
theorem Zyc:Aj PG (68,Ac V7 Wx LH):=rw1 (C:=(Qos Ke)) Zgx
def ZW:Sk:=⟨[tf [CS.ptr 20000 0]],[(20000,119,cS)],[]⟩
def Qmu:Sk:=⟨[TS.tup [(false,[ci]),(false,[CS.bool])]],[(20000,119,cS)],[]⟩
def Zjv (M:Fn):Nat×Spec:=(67,Ac ZW Qmu M)
def Qhl:Cfg:=cf []
def ZV:Fn:=Am PG Qhl 64 67 ZW Qmu
theorem Zjb (K:Kf) (c:Cv):ZV (Ad K c)=
 bif !c.aH then
 some (I 0::B false::Ad K c)
 else
 bif !c.aM then
 some (I 0::B false::Ad K c)
 else
 some (I 8::B true::Ad K {c with aI:=8}):=by kernel_rfl
def LZ:=ZV
theorem Zui:Ai PG (Qhl):=Ao rfl trivial
theorem Zt8:Aj PG (67,Ac ZW Qmu LZ):=rw1 (C:=Qhl) Zui
def Qqt:Sk:=⟨[tf [CS.ptr 20000 0]],[(20000,119,cS)],[]⟩
def Wc:Sk:=⟨[TS.tup [(false,[ci]),(false,[CS.bool])]],[(20000,119,cS)],[]⟩
def Zpa (M:Fn):Nat×Spec:=(66,Ac Qqt Wc M)
def V2:Cfg:=cf []
def WL:Fn:=Am PG V2 64 66 Qqt Wc
theorem Zhx (K:Kf) (c:Cv):WL (Ad K c)=
 some (I c.aI::B (c.aI !=0)::Ad K c):=by kernel_rfl
def LI:=WL
theorem Zgu:Ai PG (V2):=Ao rfl trivial
theorem Zc5:Aj PG (66,Ac Qqt Wc LI):=rw1 (C:=V2) Zgu
def Qnr:Sk:=⟨[tf [CS.ptr 20000 0]],[(20000,119,cS)],[]⟩
def Qb2:Sk:=⟨[TS.tup [(false,[ci]),(false,[CS.bool])]],[(20000,119,cS)],[]⟩
def Zeq (M:Fn):Nat×Spec:=(65,Ac Qnr Qb2 M)
def Qhq (FY A9:Fn):Cfg:=cr [Qwn FY,RW A9] [63] [63]
def Qof (FY A9:Fn):Fn:=Am PG (Qhq FY A9) 64 65 Qnr Qb2
theorem Zj9 (FY A9:Fn) (K:Kf) (c:Cv):Qof FY A9 (Ad K c)=
 bif c.g0 !=2 then
 some (I 0::B false::Ad K c)
 else
 (A9 (Ad K c)).bind fun o2=>
 (FY [jA o2 0]).bind fun o3=>
 some (I 6::B true::Ad K {c with m0:=gA o3 0,m1:=gA o3 1,m2:=gA o3 2,m3:=gA o3 3,m4:=gA o3 4,m5:=gA o3 5}):=by kernel_rfl
def L4:=Qof IZ DX
theorem Zxo:Ai PG (Qhq IZ DX):=II (rs:=[63]) rfl ⟨Qtl,T8,trivial⟩ rfl (CO rfl (Hp Jx))
theorem Zsq:Aj PG (65,Ac Qnr Qb2 L4):=rw1 (C:=(Qhq IZ DX)) Zxo
def Qp0:Sk:=⟨[TS.v true [ci,ci,ci,ci],tf [ci]],[],[]⟩
def Qod:Sk:=⟨[TS.v true [ci,ci,ci,ci]],[],[]⟩
def Zo5 (M:Fn):Nat×Spec:=(62,Ac Qp0 Qod M)
def V0:Cfg:=cf []
def Qk6:Fn:=Am PG V0 64 62 Qp0 Qod
theorem Zu4 (x0 x1 x2 x3 x4:Int):Qk6 [I x0,I x1,I x2,I x3,I x4]=
 bif decide (x1<x2)then
 some [I x0,I (mn (wrap .i64 (x1+x4)) x2),I x2,I (wrap .i64 (x3+wrap .i64 (x0*mn (wrap .i64 (x1+x4)) x2)))]
 else
 some [I x0,I (mx (wrap .i64 (x1-x4)) x2),I x2,I (wrap .i64 (x3+wrap .i64 (x0*mx (wrap .i64 (x1-x4)) x2)))]:=by kernel_rfl
def Mb:=Qk6
theorem Z63:Ai PG (V0):=Ao rfl trivial
theorem Z1l:Aj PG (62,Ac Qp0 Qod Mb):=rw1 (C:=V0) Z63
def Qjo:Sk:=⟨[tf [CS.ptr 20000 0]],[(20000,119,cS)],[]⟩
def Qj1:Sk:=⟨[tf [CS.bool]],[],[]⟩
def Zjz (M:Fn):Nat×Spec:=(61,EJ Qjo Qj1 M)
def Pk (F5:Fn):Cfg:=cr [Qt5 F5] [102] [102]
def Qfl (F5:Fn):Fn:=Oj PG (Pk F5) 64 61 Qjo Qj1
theorem Zu2 (F5:Fn) (K:Kf) (c:Cv):Qfl F5 (Ad K c)=
 (F5 (Ad K c)).bind fun o1=>
 bif bA o1 7 then
 bif decide (0<=gA o1 4)&&decide (gA o1 4<((K.aA.map Ah).length:Int))then
 bif gA (nth [] (K.aA.map Ah) (gA o1 4).toNat) 0==6 then
 some [B (c.y0==gA o1 4)]
 else
 some [B false]
 else
 none
 else
 some [B false]:=by kernel_rfl
def LP:=Qfl HA
theorem Zwq:Ai PG (Pk HA):=II (rs:=[102]) rfl ⟨Qtq,trivial⟩ rfl (Hp Jx)
theorem Z4z (vars : List AC) (R : Type) (K : TV -> Mem -> Option R) : EZ PG (Pk HA) 64 61 [TV.v false [AC.ptr 20000 0]] ⟨[(20000, (⟨119, (cR 0 vars)⟩ : Box))], []⟩ K = EZ PG (Pk HA) 64 61 [TV.v false [AC.ptr 20000 0]] ⟨[(20000, (⟨119, (cR 0 vars)⟩ : Box))], []⟩ (fun v _ => K v ⟨[(20000, (⟨119, (cR 0 vars)⟩ : Box))], []⟩) := Eq.trans (b := ((HA (cR 0 vars)).bind fun o1 =>
 bif bA o1 7 then
 bif decide (0<=gA o1 4)&&decide (gA o1 4<(↑(wA vars 35).length:Int))then
 bif Af (nth .dead (nth [] (wA vars 35) (gA o1 4).toNat) 0)==6 then
 K (TV.v false [B ((gA vars 79)==gA o1 4)]) ⟨[(20000,(⟨119,(cR 0 vars)⟩:Box))],[]⟩
 else
 K (TV.v false [B false]) ⟨[(20000,(⟨119,(cR 0 vars)⟩:Box))],[]⟩
 else
 none
 else
 K (TV.v false [B false]) ⟨[(20000,(⟨119,(cR 0 vars)⟩:Box))],[]⟩)) (by kernel_rfl) (Eq.symm (by kernel_rfl))
theorem Zh4:Aj PG (61,EJ Qjo Qj1 LP):=S4 (C:=(Pk HA)) (L:=64) (by kernel_rfl) (FnOK.bare rfl rfl rfl) Zwq eqOk Ig (by kernel_rfl) (by kernel_rfl) (fun vars R K=>Z4z vars R K)
def Q75:Sk:=⟨[tf [CS.ptr 20000 0],tf [ci]],[(20000,119,cS)],[]⟩
def Qva:Sk:=⟨[TS.tup []],[(20000,119,cS)],[]⟩
def Zla (M:Fn):Nat×Spec:=(101,Ac Q75 Qva M)
def Rj:Fn:=fun _=>none
theorem Zpe:Aj PG (101,Ac Q75 Qva Rj):=QO
def Qr9:Sk:=⟨[tf [CS.ptr 20000 0]],[(20000,119,cS)],[]⟩
def Q1o:Sk:=⟨[TS.tup []],[(20000,119,cS)],[]⟩
def Zwj (M:Fn):Nat×Spec:=(100,Ac Qr9 Q1o M)
def R7:Fn:=fun _=>none
theorem Zwn:Aj PG (100,Ac Qr9 Q1o R7):=QO
def Qyh:Sk:=⟨[tf [CS.ptr 20000 0],tf [ci]],[(20000,119,cS)],[]⟩
def Qyl:Sk:=⟨[TS.tup []],[(20000,119,cS)],[]⟩
def Z7l (M:Fn):Nat×Spec:=(99,Ac Qyh Qyl M)
def SA:Fn:=fun _=>none
theorem Zdz:Aj PG (99,Ac Qyh Qyl SA):=QO
def Qdf:Sk:=⟨[],[],[]⟩
def Qfe:Sk:=⟨[TS.v true [ci,ci,ci]],[],[]⟩
def Zaz (M:Fn):Nat×Spec:=(56,Ac Qdf Qfe M)
def WV:Cfg:=cf []
def Uh:Fn:=Am PG WV 64 56 Qdf Qfe
theorem Q78:Uh []=
 some [I 0,I 0,I (-1)]:=by kernel_rfl
def JN:=Uh
theorem Zs6:Ai PG (WV):=Ao rfl trivial
theorem Qul:Aj PG (56,Ac Qdf Qfe JN):=rw1 (C:=WV) Zs6
def Qlp:Sk:=⟨[TS.v true [ci,ci,ci],tf [ci],tf [ci]],[],[]⟩
def Qah:Sk:=⟨[TS.v true [ci,ci,ci]],[],[]⟩
def Z7y (M:Fn):Nat×Spec:=(144,Ac Qlp Qah M)
def WR:Cfg:=cf []
def Qh6:Fn:=Am PG WR 64 144 Qlp Qah
theorem Zy1 (x0 x1 x2 x3 x4:Int):Qh6 [I x0,I x1,I x2,I x3,I x4]=
 bif x0==2 then
 some [I x0,I x1,I x2]
 else
 bif x1==0 then
 some [I 1,I x3,I x4]
 else
 some [I 1,I x1,I x2]:=by kernel_rfl
def Qp:=Qh6
theorem Z3n:Ai PG (WR):=Ao rfl trivial
theorem Zwx:Aj PG (144,Ac Qlp Qah Qp):=rw1 (C:=WR) Z3n
def Qjf:Sk:=⟨[TS.v true [ci,ci,ci],TS.v true [ci,ci,ci]],[],[]⟩
def Qd1:Sk:=⟨[TS.v true [ci,ci,ci]],[],[]⟩
def Zuf (M:Fn):Nat×Spec:=(98,Ac Qjf Qd1 M)
def Qql (FZ Lf:Fn):Cfg:=cf [Zaz FZ,Z7y Lf]
def V_ (FZ Lf:Fn):Fn:=Am PG (Qql FZ Lf) 64 98 Qjf Qd1
theorem Zm9 (FZ Lf:Fn) (x0 x1 x2 x3 x4 x5:Int):V_ FZ Lf [I x0,I x1,I x2,I x3,I x4,I x5]=
 bif x4==10 then
 some [I 2,I 22,I (-1)]
 else
 bif x4==9 then
 (Lf [I x0,I x1,I x2,I 21,I (-1)]).bind fun o3=>
 some [jA o3 0,jA o3 1,jA o3 2]
 else
 bif x4==8 then
 bif decide (x5>=0)then
 bif decide (x5<=2)then
 (Lf [I x0,I x1,I x2,I 20,I x5]).bind fun o4=>
 some [jA o4 0,jA o4 1,jA o4 2]
 else
 some [I x0,I x1,I x2]
 else
 some [I x0,I x1,I x2]
 else
 bif x4==11 then
 (FZ []).bind fun o5=>
 some [jA o5 0,jA o5 1,jA o5 2]
 else
 some [I x0,I x1,I x2]:=by kernel_rfl
def RK:=V_ JN Qp
theorem Zmr:Ai PG (Qql JN Qp):=Ao rfl ⟨Qul,Zwx,trivial⟩
theorem Zwm:Aj PG (98,Ac Qjf Qd1 RK):=rw1 (C:=(Qql JN Qp)) Zmr
def Qn2:Sk:=⟨[tf [CS.bool],tf [ci]],[],[]⟩
def Qh1:Sk:=⟨[tf [CS.bool]],[],[]⟩
def Zb5 (M:Fn):Nat×Spec:=(143,Ac Qn2 Qh1 M)
def Qhy:Cfg:=cf []
def Yw:Fn:=Am PG Qhy 64 143 Qn2 Qh1
theorem Z6z (x0:Bool) (x1:Int):Yw [B x0,I x1]=
 bif x1==0 then
 some [B false]
 else
 bif x1==1 then
 some [B true]
 else
 some [B x0]:=by kernel_rfl
def PK:=Yw
theorem Zv9:Ai PG (Qhy):=Ao rfl trivial
theorem Z14:Aj PG (143,Ac Qn2 Qh1 PK):=rw1 (C:=Qhy) Zv9
def Qcn:Sk:=⟨[TS.v true [ci,ci,CS.bool,CS.bool,CS.bool],TS.v true [ci,ci,ci]],[],[]⟩
def Qow:Sk:=⟨[TS.v true [ci,ci,CS.bool,CS.bool,CS.bool]],[],[]⟩
def Zb1 (M:Fn):Nat×Spec:=(97,Ac Qcn Qow M)
def Wb (Lq:Fn):Cfg:=cf [Zb5 Lq]
def RE (Lq:Fn):Fn:=Am PG (Wb Lq) 64 97 Qcn Qow
theorem Q29 (Lq:Fn) (x0 x1:Int) (x2 x3 x4:Bool) (x5 x6 x7:Int):RE Lq [I x0,I x1,B x2,B x3,B x4,I x5,I x6,I x7]=
 bif x6==1 then
 bif decide (0<=x7)then
 bif decide (x7<=200)then
 some [I x7,I x1,B x2,B x3,B x4]
 else
 some [I x0,I x1,B x2,B x3,B x4]
 else
 some [I x0,I x1,B x2,B x3,B x4]
 else
 bif x6==2 then
 bif decide (0<=x7)then
 bif decide (x7<=100)then
 some [I x0,I x7,B x2,B x3,B x4]
 else
 some [I x0,I x1,B x2,B x3,B x4]
 else
 some [I x0,I x1,B x2,B x3,B x4]
 else
 bif x6==3 then
 some [I x0,I x1,B true,B x3,B x4]
 else
 bif x6==4 then
 some [I x0,I x1,B false,B x3,B x4]
 else
 bif x6==5 then
 (Lq [B x3,I x7]).bind fun o2=>
 some [I x0,I x1,B x2,B (bA o2 0),B x4]
 else
 bif x6==6 then
 (Lq [B x4,I x7]).bind fun o3=>
 some [I x0,I x1,B x2,B x3,B (bA o3 0)]
 else
 some [I x0,I x1,B x2,B x3,B x4]:=by kernel_rfl
def SJ:=RE PK
theorem Zru:Ai PG (Wb PK):=Ao rfl ⟨Z14,trivial⟩
theorem Z44:Aj PG (97,Ac Qcn Qow SJ):=rw1 (C:=(Wb PK)) Zru
def Qjv:Sk:=⟨[tf [CS.ptr 20000 0],TS.v true [ci,ci,ci]],[(20000,119,cS)],[]⟩
def Qn7:Sk:=⟨[TS.tup []],[(20000,119,cS)],[]⟩
def Zvl (M:Fn):Nat×Spec:=(60,Ac Qjv Qn7 M)
def Z2 (Ol Oi Ns Ow Ot:Fn):Cfg:=cp [Zla Ol,Zwj Oi,Z7l Ns,Zuf Ow,Zb1 Ot] [101,100,99]
def Qml (Ol Oi Ns Ow Ot:Fn):Fn:=Am PG (Z2 Ol Oi Ns Ow Ot) 64 60 Qjv Qn7
theorem Zf2 (Ol Oi Ns Ow Ot:Fn) (x0 x1 x2:Int) (K:Kf) (c:Cv):Qml Ol Oi Ns Ow Ot (I x0::I x1::I x2::Ad K c)=
 (Ot [I c.o0,I c.o1,B c.o2,B c.o3,B c.o4,I x0,I x1,I x2]).bind fun o5=>
 (Ow [I c.g0,I c.g1,I c.g2,I x0,I x1,I x2]).bind fun o6=>
 bif x1==13 then
 (Ns (I x2::Ad K {c with o0:=gA o5 0,o1:=gA o5 1,o2:=bA o5 2,o3:=bA o5 3,o4:=bA o5 4,g0:=gA o6 0,g1:=gA o6 1,g2:=gA o6 2})).bind fun o7=>
 some (cR 0 o7)
 else
 bif x1==11 then
 some (Ad K {c with o0:=gA o5 0,o1:=gA o5 1,o2:=true,o3:=bA o5 3,o4:=bA o5 4,g0:=gA o6 0,g1:=gA o6 1,g2:=gA o6 2})
 else
 bif x1==12 then
 (Oi (Ad K {c with o0:=gA o5 0,o1:=gA o5 1,o2:=bA o5 2,o3:=bA o5 3,o4:=bA o5 4,g0:=gA o6 0,g1:=gA o6 1,g2:=gA o6 2})).bind fun o8=>
 some (cR 0 o8)
 else
 bif x1==7 then
 (Ol (I x2::Ad K {c with o0:=gA o5 0,o1:=gA o5 1,o2:=bA o5 2,o3:=bA o5 3,o4:=bA o5 4,g0:=gA o6 0,g1:=gA o6 1,g2:=gA o6 2})).bind fun o9=>
 some (cR 0 o9)
 else
 bif x1==4 then
 some (Ad K {c with o0:=gA o5 0,o1:=gA o5 1,o2:=bA o5 2,o3:=bA o5 3,o4:=bA o5 4,g0:=gA o6 0,g1:=gA o6 1,g2:=gA o6 2,aJ:=true})
 else
 some (Ad K {c with o0:=gA o5 0,o1:=gA o5 1,o2:=bA o5 2,o3:=bA o5 3,o4:=bA o5 4,g0:=gA o6 0,g1:=gA o6 1,g2:=gA o6 2}):=by kernel_rfl
def LK:=Qml Rj R7 SA RK SJ
theorem Z7d:Ai PG (Z2 Rj R7 SA RK SJ):=Ao rfl ⟨Zpe,Zwn,Zdz,Zwm,Z44,trivial⟩
theorem Z02:Aj PG (60,Ac Qjv Qn7 LK):=rw1 (C:=(Z2 Rj R7 SA RK SJ)) Z7d
def Qjq:Sk:=⟨[tf [CS.ptr 20000 0],tf [CS.sl kPt]],[(20000,119,cS)],[]⟩
def Qo1:Sk:=⟨[TS.v true ([CS.sl kPt,CS.sl Aa]++cc 7)],[(20000,119,cS)],[]⟩
def Q6o (M:Fn):Nat×Spec:=(21,Ac Qjq Qo1 M)
def Qo9 (Ca Cl D6 Ec Eg DZ Ee CR A9 Dc Da D5:Fn):Cfg:=cr [Zcq Ca,Zki Cl,Zmj D6,Zy2 Ec,Zjv Eg,Zpa DZ,Zeq Ee,Z0f CR,RW A9,Zo5 Dc,Zjz Da,Zvl D5] [71,70,69,68,67,66,65,63,61,60] [63,61]
def Qq4:Sk:=⟨[tf [CS.ptr 20000 0],td,td,td,tf [CS.ptr 4 0]]++dd 14++[tf [CS.sl kPt],tf [ci],tf [ci]]++dd 93,[(4,46,[CS.sl kPt,CS.sl Aa]++cc 7),(20000,119,cS)],[]⟩
def Q8w:List (Ex×Sk):=[(Ex.exit 0,⟨[tf [CS.ptr 20000 0],td,td,td,tf [CS.ptr 4 0]]++dd 110,[(4,46,[CS.sl kPt,CS.sl Aa]++cc 7),(20000,119,cS)],[]⟩)]
def Si (Ca Cl D6 Ec Eg DZ Ee CR A9 Dc Da D5:Fn):Lp:=AT PG (Qo9 Ca Cl D6 Ec Eg DZ Ee CR A9 Dc Da D5) 64 3 (AU PG 21 3) Qq4 Q8w
def Q8n (Ca Cl D6 Ec Eg DZ Ee CR A9 Dc Da D5:Fn) (N3:Lp):Cfg:=(Qo9 Ca Cl D6 Ec Eg DZ Ee CR A9 Dc Da D5).loop 3 Qq4 Q8w N3
def Q7x:Sk:=⟨[tf [CS.ptr 20000 0],td,td,td,tf [CS.ptr 4 0],td,td,tf [ci],tf [CS.ptr 8 0]]++dd 81++[tf [CS.bsl 90 5],tf [ci],tf [ci]]++dd 22,[(4,46,[CS.sl kPt,CS.sl Aa]++cc 7),(8,46,[CS.sl kPt,CS.sl Aa]++cc 7),(90,125,[CS.clo 65 [(20000,0)] [],CS.clo 66 [(20000,0)] [],CS.clo 67 [(20000,0)] [],CS.clo 68 [(20000,0)] [],CS.clo 69 [(20000,0)] []]),(20000,119,cS)],[]⟩
def Qrg:List (Ex×Sk):=[(Ex.exit 2,⟨[tf [CS.ptr 20000 0],td,td,td,tf [CS.ptr 4 0],td,td,tf [ci],tf [CS.ptr 8 0]]++dd 106,[(4,46,[CS.sl kPt,CS.sl Aa]++cc 7),(8,46,[CS.sl kPt,CS.sl Aa]++cc 7),(20000,119,cS)],[]⟩)]
def I_ (Ca Cl D6 Ec Eg DZ Ee CR A9 Dc Da D5:Fn) (N3:Lp):Lp:=AT PG (Q8n Ca Cl D6 Ec Eg DZ Ee CR A9 Dc Da D5 N3) 64 16 (AU PG 21 16) Q7x Qrg
def Qq5 (Ca Cl D6 Ec Eg DZ Ee CR A9 Dc Da D5:Fn) (N3 N16:Lp):Cfg:=(Q8n Ca Cl D6 Ec Eg DZ Ee CR A9 Dc Da D5 N3).loop 16 Q7x Qrg N16
def ZL (Ca Cl D6 Ec Eg DZ Ee CR A9 Dc Da D5:Fn) (N3 N16:Lp):Fn:=Am PG (Qq5 Ca Cl D6 Ec Eg DZ Ee CR A9 Dc Da D5 N3 N16) 64 21 Qjq Qo1
theorem Z00 (Ca Cl D6 Ec Eg DZ Ee CR A9 Dc Da D5:Fn) (v0:Rw) (v1 v2:Int) (v3 v4:Rw) (v5 v6 v7 v8 v9 v10 v11:Int) (K:Kf) (c:Cv):Si Ca Cl D6 Ec Eg DZ Ee CR A9 Dc Da D5 (.view kPt v0::I v1::I v2:: .view kPt v3:: .view Aa v4::I v5::I v6::I v7::I v8::I v9::I v10::I v11::Ad K c)=
 bif decide (v2<v1)then
 bif decide (0<=v2)&&decide (v2<(v0.length:Int))then
 (D5 (jA (nth [] v0 v2.toNat) 0::jA (nth [] v0 v2.toNat) 1::jA (nth [] v0 v2.toNat) 2::Ad K c)).bind fun o54=>
 some (0,(.view kPt v0::I v1::I (wrap .i64 (v2+1)):: .view kPt v3:: .view Aa v4::I v5::I v6::I v7::I v8::I v9::I v10::I v11::cR 0 o54))
 else
 none
 else
 some (1,(.view kPt v3:: .view Aa v4::I v5::I v6::I v7::I v8::I v9::I v10::I v11::Ad K c)):=by kernel_rfl
abbrev Mh (v0:Int) (v3 v4:Rw) (v5 v6 v7 v8 v9 v10 v11:Int) (v12 v13:Rw) (v15 v16 v17 v18 v19 v20 v1 v2 v14:Int) (h1_0:Bool) (h1_1:AC) (h1_2:List AC):Option (Nat×List AC):=
 bif h1_0 then
 some (1,(I v0:: .view kPt v3:: .view Aa v4::I v5::I v6::I v7::I v8::I v9::I v10::I v11:: .view kPt v12:: .view Aa v13::h1_1::I v15::I v16::I v17::I v18::I v19::I v20::h1_2))
 else
 some (0,(I v0::I v1::I (wrap .i64 (v2+1)):: .view kPt v3:: .view Aa v4::I v5::I v6::I v7::I v8::I v9::I v10::I v11:: .view kPt v12:: .view Aa v13::I v14::I v15::I v16::I v17::I v18::I v19::I v20::h1_2))
attribute [go_sem] Mh
theorem Zre (Ca Cl D6 Ec Eg DZ Ee CR A9 Dc Da D5:Fn) (N3:Lp) (v0 v1 v2:Int) (v3 v4:Rw) (v5 v6 v7 v8 v9 v10 v11:Int) (v12 v13:Rw) (v14 v15 v16 v17 v18 v19 v20:Int) (K:Kf) (c:Cv):I_ Ca Cl D6 Ec Eg DZ Ee CR A9 Dc Da D5 N3 (I v0::I v1::I v2:: .view kPt v3:: .view Aa v4::I v5::I v6::I v7::I v8::I v9::I v10::I v11:: .view kPt v12:: .view Aa v13::I v14::I v15::I v16::I v17::I v18::I v19::I v20::Ad K c)=
 bif decide (v2<v1)then
 bif decide (v2=(↑0:Int))then
 (Ee (Ad K c)).bind fun o55=>
 Mh v0 v3 v4 v5 v6 v7 v8 v9 v10 v11 v12 v13 v15 v16 v17 v18 v19 v20 v1 v2 v14 (bA o55 1) (jA o55 0) (cR 2 o55)
 else
 bif decide (v2=(↑(0+1):Int))then
 (DZ (Ad K c)).bind fun o56=>
 Mh v0 v3 v4 v5 v6 v7 v8 v9 v10 v11 v12 v13 v15 v16 v17 v18 v19 v20 v1 v2 v14 (bA o56 1) (jA o56 0) (cR 2 o56)
 else
 bif decide (v2=(↑(0+1+1):Int))then
 (Eg (Ad K c)).bind fun o57=>
 Mh v0 v3 v4 v5 v6 v7 v8 v9 v10 v11 v12 v13 v15 v16 v17 v18 v19 v20 v1 v2 v14 (bA o57 1) (jA o57 0) (cR 2 o57)
 else
 bif decide (v2=(↑(0+1+1+1):Int))then
 (Ec (Ad K c)).bind fun o58=>
 Mh v0 v3 v4 v5 v6 v7 v8 v9 v10 v11 v12 v13 v15 v16 v17 v18 v19 v20 v1 v2 v14 (bA o58 1) (jA o58 0) (cR 2 o58)
 else
 bif decide (v2=(↑(0+1+1+1+1):Int))then
 (D6 (Ad K c)).bind fun o59=>
 Mh v0 v3 v4 v5 v6 v7 v8 v9 v10 v11 v12 v13 v15 v16 v17 v18 v19 v20 v1 v2 v14 (bA o59 1) (jA o59 0) (cR 2 o59)
 else
 none
 else
 some (1,(I v0:: .view kPt v3:: .view Aa v4::I v5::I v6::I v7::I v8::I v9::I v10::I v11:: .view kPt v12:: .view Aa v13::I v14::I v15::I v16::I v17::I v18::I v19::I v20::Ad K c)):=by kernel_rfl
abbrev ID (N16:Lp) (o60:Nat×List AC) (Cl Ca:Fn) (h1_0:AC) (h1_1:List AC):Option (List AC):=
 (N16 (h1_0::I (↑5:Int)::I 0:: .view kPt (wA o60.2 0):: .view Aa (wA o60.2 1)::jA o60.2 2::jA o60.2 3::jA o60.2 4::jA o60.2 5::jA o60.2 6::jA o60.2 7::jA o60.2 8:: .view kPt []:: .view Aa []::I 0::I 0::I 0::I 0::I 0::I 0::I 0::h1_1)).bind fun o65=>
 bif o65.1.beq 1 then
 bif gA o65.2 12==0 then
 (Cl (cR 19 o65.2)).bind fun o66=>
 (Ca (jA o65.2 0::(cR 1 o66++[.view kPt (wA o65.2 10), .view Aa (wA o65.2 11),jA o66 0,jA o65.2 13,jA o65.2 14,jA o65.2 15,jA o65.2 16,jA o65.2 17,jA o65.2 18]))).bind fun o67=>
 some (.view kPt (wA o67 90):: .view Aa (wA o67 91)::jA o67 92::jA o67 93::jA o67 94::jA o67 95::jA o67 96::jA o67 97::jA o67 98::cR 0 o67)
 else
 (Ca (jA o65.2 0::(cR 19 o65.2++[.view kPt (wA o65.2 10), .view Aa (wA o65.2 11),jA o65.2 12,jA o65.2 13,jA o65.2 14,jA o65.2 15,jA o65.2 16,jA o65.2 17,jA o65.2 18]))).bind fun o68=>
 some (.view kPt (wA o68 90):: .view Aa (wA o68 91)::jA o68 92::jA o68 93::jA o68 94::jA o68 95::jA o68 96::jA o68 97::jA o68 98::cR 0 o68)
 else
 none
attribute [go_sem] ID
abbrev Qif (Da:Fn) (o60:Nat×List AC) (Dc A9 CR:Fn) (N16:Lp) (Cl Ca:Fn):Option (List AC):=
 (Da (DY (cR 9 o60.2) [(58,B true),(86,jA o60.2 76)])).bind fun o61=>
 bif !bA o61 0 then
 (Dc [jA o60.2 73,jA o60.2 74,jA o60.2 75,jA o60.2 76,jA o60.2 42]).bind fun o62=>
 (A9 (DY (cR 9 o60.2) [(58,B true),(64,jA o62 0),(65,jA o62 1),(66,jA o62 2),(67,jA o62 3),(86,jA o60.2 76)])).bind fun o63=>
 (CR [jA o60.2 59,jA o60.2 60,jA o60.2 61,jA o60.2 62,jA o60.2 63,jA o60.2 64]).bind fun o64=>
 ID N16 o60 Cl Ca (jA o63 0) (DY (cR 9 o60.2) [(58,B true),(64,jA o62 0),(65,jA o62 1),(66,jA o62 2),(67,jA o62 3),(86,jA o60.2 76),(88,B (bA o64 0))])
 else
 (A9 (DY (cR 9 o60.2) [(58,B true),(86,jA o60.2 76)])).bind fun o69=>
 (CR [jA o60.2 59,jA o60.2 60,jA o60.2 61,jA o60.2 62,jA o60.2 63,jA o60.2 64]).bind fun o70=>
 ID N16 o60 Cl Ca (jA o69 0) (DY (cR 9 o60.2) [(58,B true),(86,jA o60.2 76),(88,B (bA o70 0))])
attribute [go_sem] Qif
theorem Zeh (Ca Cl D6 Ec Eg DZ Ee CR A9 Dc Da D5:Fn) (N3 N16:Lp) (x0:Rw) (K:Kf) (c:Cv):ZL Ca Cl D6 Ec Eg DZ Ee CR A9 Dc Da D5 N3 N16 (.view kPt x0::Ad K c)=
 (N3 (.view kPt x0::I (x0.length:Int)::I 0:: .view kPt []:: .view Aa []::I 0::I 0::I 0::I 0::I 0::I 0::I 0::Ad K {c with aJ:=false,aL:=false})).bind fun o60=>
 bif o60.1.beq 1 then
 bif bA o60.2 86 then
 Qif Da o60 Dc A9 CR N16 Cl Ca
 else
 bif gA o60.2 70 !=0 then
 Qif Da o60 Dc A9 CR N16 Cl Ca
 else
 (Da (DY (cR 9 o60.2) [(86,jA o60.2 76)])).bind fun o89=>
 bif !bA o89 0 then
 (Dc [jA o60.2 73,jA o60.2 74,jA o60.2 75,jA o60.2 76,jA o60.2 42]).bind fun o90=>
 (A9 (DY (cR 9 o60.2) [(64,jA o90 0),(65,jA o90 1),(66,jA o90 2),(67,jA o90 3),(86,jA o60.2 76)])).bind fun o91=>
 (CR [jA o60.2 59,jA o60.2 60,jA o60.2 61,jA o60.2 62,jA o60.2 63,jA o60.2 64]).bind fun o92=>
 ID N16 o60 Cl Ca (jA o91 0) (DY (cR 9 o60.2) [(64,jA o90 0),(65,jA o90 1),(66,jA o90 2),(67,jA o90 3),(86,jA o60.2 76),(88,B (bA o92 0))])
 else
 (A9 (DY (cR 9 o60.2) [(86,jA o60.2 76)])).bind fun o97=>
 (CR [jA o60.2 59,jA o60.2 60,jA o60.2 61,jA o60.2 62,jA o60.2 63,jA o60.2 64]).bind fun o98=>
 ID N16 o60 Cl Ca (jA o97 0) (DY (cR 9 o60.2) [(86,jA o60.2 76),(88,B (bA o98 0))])
 else
 none:=by kernel_rfl
def ZX:=An (Si KM LU LC LH LZ LI L4 K7 DX Mb LP LK)
def Q31:=An (I_ KM LU LC LH LZ LI L4 K7 DX Mb LP LK ZX)
def HY:=ZL KM LU LC LH LZ LI L4 K7 DX Mb LP LK ZX Q31
theorem Qao:Ai PG (Qo9 KM LU LC LH LZ LI L4 K7 DX Mb LP LK):=II (rs:=[63,61]) rfl ⟨Zc0,Z1a,Zwi,Zyc,Zt8,Zc5,Zsq,Zwc,T8,Z1l,Zh4,Z02,trivial⟩ rfl (CO rfl (CO rfl (CO rfl (CO rfl (CO rfl (CO rfl (CO rfl (CO rfl (Hp (CO rfl (Hp (CO rfl Jx))))))))))))
theorem Qxi:Aj PG (21,Ac Qjq Qo1 HY):=rw2 (C:=(Qq5 KM LU LC LH LZ LI L4 K7 DX Mb LP LK ZX Q31)) (fl (fl fb Qao) Qao) Qao
def Qgr:Sk:=⟨[TS.v true (cc 13++[CS.bool,ci,CS.bool]++cc 5++[CS.bool])],[],[]⟩
def Qdn:Sk:=⟨[tf [CS.bool]],[],[]⟩
def Tz (M:Fn):Nat×Spec:=(81,Ac Qgr Qdn M)
def Qlv:Cfg:=cf []
def Q15:Fn:=Am PG Qlv 64 81 Qgr Qdn
theorem Zox (x0 x1 x2 x3 x4 x5 x6 x7 x8 x9 x10 x11 x12:Int) (x13:Bool) (x14:Int) (x15:Bool) (x16 x17 x18 x19 x20:Int) (x21:Bool):Q15 [I x0,I x1,I x2,I x3,I x4,I x5,I x6,I x7,I x8,I x9,I x10,I x11,I x12,B x13,I x14,B x15,I x16,I x17,I x18,I x19,I x20,B x21]=
 bif x0==2 then
 some [B !(x2==x5&&(x3==x6&&(x4==x7&&true)))]
 else
 some [B false]:=by kernel_rfl
def Ez:=Q15
theorem Z2g:Ai PG (Qlv):=Ao rfl trivial
theorem Sd:Aj PG (81,Ac Qgr Qdn Ez):=rw1 (C:=Qlv) Z2g
def Qcp:Sk:=⟨[tf [ci]],[],[]⟩
def Qc7:Sk:=⟨[tf [CS.bool]],[],[]⟩
def RO (M:Fn):Nat×Spec:=(123,Ac Qcp Qc7 M)
def Qh8:Cfg:=cf []
def Q6k:Fn:=Am PG Qh8 64 123 Qcp Qc7
theorem Zdq (x0:Int):Q6k [I x0]=
 bif decide (x0>=1)then
 some [B (decide (x0<=6))]
 else
 some [B false]:=by kernel_rfl
def Du:=Q6k
theorem Zmi:Ai PG (Qh8):=Ao rfl trivial
theorem SS:Aj PG (123,Ac Qcp Qc7 Du):=rw1 (C:=Qh8) Zmi
def Uu:Sk:=⟨[TS.v true (cc 13++[CS.bool,ci,CS.bool]++cc 5++[CS.bool])],[],[]⟩
def Ql4:Sk:=⟨[tf [CS.bool]],[],[]⟩
def Q2b (M:Fn):Nat×Spec:=(169,Ac Uu Ql4 M)
def Zn:Cfg:=cf []
def Qvl:Fn:=Am PG Zn 64 169 Uu Ql4
theorem Zh8 (x0 x1 x2 x3 x4 x5 x6 x7 x8 x9 x10 x11 x12:Int) (x13:Bool) (x14:Int) (x15:Bool) (x16 x17 x18 x19 x20:Int) (x21:Bool):Qvl [I x0,I x1,I x2,I x3,I x4,I x5,I x6,I x7,I x8,I x9,I x10,I x11,I x12,B x13,I x14,B x15,I x16,I x17,I x18,I x19,I x20,B x21]=
 bif x0==5 then
 some [B true]
 else
 some [B (x0==6)]:=by kernel_rfl
def Hy:=Qvl
theorem Zuy:Ai PG (Zn):=Ao rfl trivial
theorem Q04:Aj PG (169,Ac Uu Ql4 Hy):=rw1 (C:=Zn) Zuy
def Qqa:Sk:=⟨[tf [CS.sl Al],tf [ci]],[],[]⟩
def Qp5:Sk:=⟨[tf [CS.bool]],[],[]⟩
def Zm7 (M:Fn):Nat×Spec:=(173,Ac Qqa Qp5 M)
def Yc (AP Cw:Fn):Cfg:=cf [RO AP,Q2b Cw]
def Q30:Sk:=⟨dd 23++[tf [CS.sl Al],tf [ci],tf [ci]]++dd 9,[],[]⟩
def Q2j:List (Ex×Sk):=[(Ex.ret,⟨[td,td,td,td,tf [CS.bool]]++dd 30,[],[]⟩),(Ex.exit 0,⟨[td]++dd 34,[],[]⟩)]
def Lj (AP Cw:Fn):Lp:=AT PG (Yc AP Cw) 64 4 (AU PG 173 4) Q30 Q2j
def Qus (AP Cw:Fn) (N4:Lp):Cfg:=(Yc AP Cw).loop 4 Q30 Q2j N4
def Y9 (AP Cw:Fn) (N4:Lp):Fn:=Am PG (Qus AP Cw N4) 64 173 Qqa Qp5
theorem Qsj (AP Cw:Fn) (v0:Rw) (v1 v2:Int):Lj AP Cw [.view Al v0,I v1,I v2]=
 bif decide (v2<v1)then
 bif decide (0<=v2)&&decide (v2<(v0.length:Int))then
 (AP [jA (nth [] v0 v2.toNat) 0]).bind fun o5=>
 bif bA o5 0 then
 (Cw (AO Al (nth [] v0 v2.toNat))).bind fun o6=>
 some (1,[B (bA o6 0)])
 else
 some (0,[.view Al v0,I v1,I (wrap .i64 (v2+1))])
 else
 none
 else
 some (2,[]):=by kernel_rfl
theorem Zes (AP Cw:Fn) (N4:Lp) (x0:Rw) (x1:Int):Y9 AP Cw N4 [.view Al x0,I x1]=
 bif decide (0<=x1)&&decide (x1<(x0.length:Int))then
 bif gA (nth [] x0 x1.toNat) 18==0 then
 some [B true]
 else
 bif decide (0<=x1)&&decide (x1<(x0.length:Int))then
 (Cw (AO Al (nth [] x0 x1.toNat))).bind fun o7=>
 bif bA o7 0 then
 some [B true]
 else
 bif decide (0<=wrap .i64 (x1+1))&&decide (wrap .i64 (x1+1)<=(x0.length:Int))then
 (N4 [.view Al (List.drop (wrap .i64 (x1+1)).toNat x0),I (↑(List.drop (wrap .i64 (x1+1)).toNat x0).length:Int),I 0]).bind fun o8=>
 bif o8.1.beq 1 then
 some [B (bA o8.2 0)]
 else
 bif o8.1.beq 2 then
 some [B false]
 else
 none
 else
 none
 else
 none
 else
 none:=by kernel_rfl
def Qxa:=An (Lj Du Hy)
def P_:=Y9 Du Hy Qxa
theorem Qzn:Ai PG (Yc Du Hy):=Ao rfl ⟨SS,Q04,trivial⟩
theorem Zh5:Aj PG (173,Ac Qqa Qp5 P_):=rw2 (C:=(Qus Du Hy Qxa)) (fl fb Qzn) Qzn
def Qau:Sk:=⟨[tf [CS.ptr 20000 0],tf [CS.sl Al],tf [ci]],[(20000,142,[ci,ci,ci,CS.own 20000 7,CS.own 20001 3,CS.bool,ci,ci,ci])],[(20000,162,Ag),(20001,76,kPt)]⟩
def Qic:Sk:=⟨[TS.tup []],[(20000,142,[ci,ci,ci,CS.own 20000 7,CS.own 20001 3,CS.bool,ci,ci,ci])],[(20000,162,Ag),(20001,76,kPt)]⟩
def Z4q (M:Fn):Nat×Spec:=(127,Ac Qau Qic M)
def XF (M_ AP:Fn):Cfg:=cf [Zm7 M_,RO AP]
def Qd7 (M_ AP:Fn):Fn:=Am PG (XF M_ AP) 64 127 Qau Qic
abbrev ZZ (AP:Fn) (x2:Rw) (x3:Int) (x1:Rw) (x8:Int) (x0:Rw) (x4 x5 x6:Int) (x7:Bool) (x9 x10:Int):Option (List AC):=
 (AP [jA (nth [] x2 x3.toNat) 0]).bind fun o6=>
 bif bA o6 0 then
 bif((x1++[[I x8,I 2,I x3]]).length*24).ble 140737488355328 then
 some [.view Ag x0, .view kPt (x1++[[I x8,I 2,I x3]]),I x4,I x5,I x6,B x7,I x8,I x9,I x10]
 else
 none
 else
 bif gA (nth [] x2 x3.toNat) 0==10 then
 bif((x1++[[I x8,I 5,I x3]]).length*24).ble 140737488355328 then
 some [.view Ag x0, .view kPt (x1++[[I x8,I 5,I x3]]),I x4,I x5,I x6,B x7,I x8,I x9,I x10]
 else
 none
 else
 bif gA (nth [] x2 x3.toNat) 0==13 then
 bif((x1++[[I x8,I 4,I x3]]).length*24).ble 140737488355328 then
 some [.view Ag x0, .view kPt (x1++[[I x8,I 4,I x3]]),I x4,I x5,I x6,B x7,I x8,I x9,I x10]
 else
 none
 else
 bif((x1++[[I x8,I 3,I x3]]).length*24).ble 140737488355328 then
 some [.view Ag x0, .view kPt (x1++[[I x8,I 3,I x3]]),I x4,I x5,I x6,B x7,I x8,I x9,I x10]
 else
 none
attribute [go_sem] ZZ
theorem Zxb (M_ AP:Fn) (x0 x1 x2:Rw) (x3 x4 x5 x6:Int) (x7:Bool) (x8 x9 x10:Int):Qd7 M_ AP [.view Ag x0, .view kPt x1, .view Al x2,I x3,I x4,I x5,I x6,B x7,I x8,I x9,I x10]=
 bif decide (0<=x3)&&decide (x3<(x2.length:Int))then
 bif gA (nth [] x2 x3.toNat) 0==4 then
 bif((x1++[[I x8,I 6,I x3]]).length*24).ble 140737488355328 then
 some [.view Ag x0, .view kPt (x1++[[I x8,I 6,I x3]]),I x4,I x5,I x6,B x7,I x8,I x9,I x10]
 else
 none
 else
 (AP [jA (nth [] x2 x3.toNat) 0]).bind fun o4=>
 bif bA o4 0 then
 (M_ [.view Al x2,I x3]).bind fun o5=>
 bif bA o5 0 then
 bif((x1++[[I x8,I 1,I x3]]).length*24).ble 140737488355328 then
 some [.view Ag x0, .view kPt (x1++[[I x8,I 1,I x3]]),I x4,I x5,I x6,B x7,I x8,I x9,I x10]
 else
 none
 else
 ZZ AP x2 x3 x1 x8 x0 x4 x5 x6 x7 x9 x10
 else
 ZZ AP x2 x3 x1 x8 x0 x4 x5 x6 x7 x9 x10
 else
 none:=by kernel_rfl
def Jd:=Qd7 P_ Du
theorem Z5j:Ai PG (XF P_ Du):=Ao rfl ⟨Zh5,SS,trivial⟩
theorem Zo9:Aj PG (127,Ac Qau Qic Jd):=rw1 (C:=(XF P_ Du)) Z5j
def VQ:Sk:=⟨[TS.v true (cc 13++[CS.bool,ci,CS.bool]++cc 5++[CS.bool])],[],[]⟩
def Vp:Sk:=⟨[TS.v true [ci,ci,ci]],[],[]⟩
def Qpp (M:Fn):Nat×Spec:=(172,Ac VQ Vp M)
def Qgw:Cfg:=cf []
def Q8b:Fn:=Am PG Qgw 64 172 VQ Vp
theorem Znt (x0 x1 x2 x3 x4 x5 x6 x7 x8 x9 x10 x11 x12:Int) (x13:Bool) (x14:Int) (x15:Bool) (x16 x17 x18 x19 x20:Int) (x21:Bool):Q8b [I x0,I x1,I x2,I x3,I x4,I x5,I x6,I x7,I x8,I x9,I x10,I x11,I x12,B x13,I x14,B x15,I x16,I x17,I x18,I x19,I x20,B x21]=
 some [I (wrap .i64 (wrap .i64 (x2+x5)*8)),I (wrap .i64 (wrap .i64 (x3+x6)*8)),I (wrap .i64 (wrap .i64 (x4+x7)*8))]:=by kernel_rfl
def FN:=Q8b
theorem Zji:Ai PG (Qgw):=Ao rfl trivial
theorem Qju:Aj PG (172,Ac VQ Vp FN):=rw1 (C:=Qgw) Zji
def Qp6:Sk:=⟨[TS.v true [CS.int .u64,CS.int .u64],TS.v true [CS.int .u64,CS.int .u64]],[],[]⟩
def YW:Sk:=⟨[tf [ci]],[],[]⟩
def Qs8 (M:Fn):Nat×Spec:=(211,Ac Qp6 YW M)
def V5:Cfg:=cf []
def Q0c:Fn:=Am PG V5 64 211 Qp6 YW
theorem Zbc (x0 x1 x2 x3:Int):Q0c [U x0,U x1,U x2,U x3]=
 bif decide (x0<x2)then
 some [I (-1)]
 else
 bif x0==x2 then
 bif decide (x1<x3)then
 some [I (-1)]
 else
 bif x0==x2&&(x1==x3&&true)then
 some [I 0]
 else
 some [I 1]
 else
 bif x0==x2&&(x1==x3&&true)then
 some [I 0]
 else
 some [I 1]:=by kernel_rfl
def In:=Q0c
theorem Zdm:Ai PG (V5):=Ao rfl trivial
theorem Q7m:Aj PG (211,Ac Qp6 YW In):=rw1 (C:=V5) Zdm
def X1:Sk:=⟨[TS.v true [CS.int .u64,CS.int .u64]],[],[]⟩
def Qef:Sk:=⟨[tf [CS.int .u64]],[],[]⟩
def Q4k (M:Fn):Nat×Spec:=(221,Ac X1 Qef M)
def Qjt (DU Bw:Fn):Cfg:=cf [Qs8 DU,Rn Bw]
def Qzz:Sk:=⟨[td,tf [CS.ptr 1 0],td,tf [CS.int .u64],tf [CS.int .u64]]++dd 16,[(1,185,[CS.int .u64,CS.int .u64])],[]⟩
def Q7k:List (Ex×Sk):=[(Ex.exit 0,⟨[td,td,td,tf [CS.int .u64]]++dd 17,[],[]⟩)]
def Lk (DU Bw:Fn):Lp:=AT PG (Qjt DU Bw) 64 3 (AU PG 221 3) Qzz Q7k
def Qwx (DU Bw:Fn) (N3:Lp):Cfg:=(Qjt DU Bw).loop 3 Qzz Q7k N3
def Qi9 (DU Bw:Fn) (N3:Lp):Fn:=Am PG (Qwx DU Bw N3) 64 221 X1 Qef
theorem Q0o (DU Bw:Fn) (v0 v1 v2 v3:Int):Lk DU Bw [U v0,U v1,U v2,U v3]=
 bif decide (v1>0)then
 (Bw [U (wrap .u64 (↑(BitVec.ofInt IntKind.u64.bits v0|||BitVec.ofInt IntKind.u64.bits v1).toNat:Int)),U (wrap .u64 (↑(BitVec.ofInt IntKind.u64.bits v0|||BitVec.ofInt IntKind.u64.bits v1).toNat:Int))]).bind fun o3=>
 (DU [U (gA o3 0),U (gA o3 1),U v2,U v3]).bind fun o4=>
 bif decide (gA o4 0<=0)then
 some (0,[U (wrap .u64 (↑(BitVec.ofInt IntKind.u64.bits v0|||BitVec.ofInt IntKind.u64.bits v1).toNat:Int)),U (v1.fdiv (2^min (Int.toNat 1) IntKind.u64.bits)),U v2,U v3])
 else
 some (0,[U v0,U (v1.fdiv (2^min (Int.toNat 1) IntKind.u64.bits)),U v2,U v3])
 else
 some (1,[U v0]):=by kernel_rfl
theorem Zfd (DU Bw:Fn) (N3:Lp) (x0 x1:Int):Qi9 DU Bw N3 [U x0,U x1]=
 (N3 [U 0,U 9223372036854775808,U x0,U x1]).bind fun o5=>
 bif o5.1.beq 1 then
 some [U (gA o5.2 0)]
 else
 none:=by kernel_rfl
def Qs7:=An (Lk In Ea)
def JZ:=Qi9 In Ea Qs7
theorem Qrj:Ai PG (Qjt In Ea):=Ao rfl ⟨Q7m,Sl,trivial⟩
theorem Q2e:Aj PG (221,Ac X1 Qef JZ):=rw2 (C:=(Qwx In Ea Qs7)) (fl fb Qrj) Qrj
def UU:Sk:=⟨[TS.v true [CS.int .u64,CS.int .u64],tf [ci]],[],[]⟩
def Qcb:Sk:=⟨[TS.tup [(false,[ci]),(false,[CS.bool])]],[],[]⟩
def Zow (M:Fn):Nat×Spec:=(216,Ac UU Qcb M)
def Vi (Bc K5 F_ F6:Fn):Cfg:=cf [Zw Bc,(222,Ac Q9c Qzb K5),(175,Ac Zp UE F_),Q4k F6]
def UL (Bc K5 F_ F6:Fn):Fn:=Am PG (Vi Bc K5 F_ F6) 64 216 UU Qcb
abbrev Wf (x2:Int) (o17:List AC) (Bc:Fn) (o14 o16:List AC):Option (List AC):=
 bif x2==2 then
 bif decide (gA o17 0>0)then
 (Bc [U (wrap .u64 (gA o14 0+1)),B false]).bind fun o20=>
 some [jA o20 0,B (bA o20 1)]
 else
 bif decide (gA o16 0>gA o14 0)then
 (Bc [U (wrap .u64 (gA o14 0+1)),B false]).bind fun o21=>
 some [jA o21 0,B (bA o21 1)]
 else
 (Bc [U (gA o14 0),B false]).bind fun o22=>
 some [jA o22 0,B (bA o22 1)]
 else
 (Bc [U (gA o14 0),B false]).bind fun o23=>
 some [jA o23 0,B (bA o23 1)]
attribute [go_sem] Wf
theorem Zmk (Bc K5 F_ F6:Fn) (x0 x1 x2:Int):UL Bc K5 F_ F6 [U x0,U x1,I x2]=
 (F6 [U x0,U x1]).bind fun o14=>
 (F_ [U (gA o14 0),U (gA o14 0)]).bind fun o15=>
 (K5 [U x1,U (gA o15 1),U 0]).bind fun o16=>
 (K5 [U x0,U (gA o15 0),U (gA o16 1)]).bind fun o17=>
 bif x2==1 then
 bif decide (gA o17 0>0)then
 (Bc [U (wrap .u64 (gA o14 0+1)),B false]).bind fun o18=>
 some [jA o18 0,B (bA o18 1)]
 else
 bif decide (gA o16 0>0)then
 (Bc [U (wrap .u64 (gA o14 0+1)),B false]).bind fun o19=>
 some [jA o19 0,B (bA o19 1)]
 else
 Wf x2 o17 Bc o14 o16
 else
 Wf x2 o17 Bc o14 o16:=by kernel_rfl
def SN:=UL EQ JB H6 JZ
theorem Zgy:Ai PG (Vi EQ JB H6 JZ):=Ao rfl ⟨Qdt,Zt9,Qvd,Q2e,trivial⟩
theorem Zqm:Aj PG (216,Ac UU Qcb SN):=rw1 (C:=(Vi EQ JB H6 JZ)) Zgy
def Qdz:Sk:=⟨[tf [ci],tf [ci]],[],[]⟩
def WJ:Sk:=⟨[TS.tup [(false,[ci]),(false,[CS.bool])]],[],[]⟩
def Q86 (M:Fn):Nat×Spec:=(210,Ac Qdz WJ M)
def Qer (Oc Dz:Fn):Cfg:=cf [Zow Oc,Qiq Dz]
def Zc (Oc Dz:Fn):Fn:=Am PG (Qer Oc Dz) 64 210 Qdz WJ
theorem Z5y (Oc Dz:Fn) (x0 x1:Int):Zc Oc Dz [I x0,I x1]=
 bif decide (x0<0)then
 some [I 0,B false]
 else
 (Dz [I x1]).bind fun o2=>
 bif !bA o2 0 then
 some [I 0,B false]
 else
 (Oc [U 0,U (wrap .u64 x0),I x1]).bind fun o3=>
 some [jA o3 0,B (bA o3 1)]:=by kernel_rfl
def IX:=Zc SN Fi
theorem Zv2:Ai PG (Qer SN Fi):=Ao rfl ⟨Zqm,Qom,trivial⟩
theorem Q5p:Aj PG (210,Ac Qdz WJ IX):=rw1 (C:=(Qer SN Fi)) Zv2
def Qke:Sk:=⟨[TS.v true [ci,ci,ci],TS.v true [ci,ci,ci]],[],[]⟩
def Qld:Sk:=⟨[tf [ci]],[],[]⟩
def Qvs (M:Fn):Nat×Spec:=(195,Ac Qke Qld M)
def X_ (Fj:Fn):Cfg:={cf [Q86 Fj]with unroll:=[3]}
def Xk (Fj:Fn):Fn:=Am PG (X_ Fj) 64 195 Qke Qld
theorem Zo0 (Fj:Fn) (x0 x1 x2 x3 x4 x5:Int):Xk Fj [I x0,I x1,I x2,I x3,I x4,I x5]=
 (Fj [I (wrap .i64 (wrap .i64 (wrap .i64 (0+wrap .i64 (wrap .i64 (x0-x3)*wrap .i64 (x0-x3)))+wrap .i64 (wrap .i64 (x1-x4)*wrap .i64 (x1-x4)))+wrap .i64 (wrap .i64 (x2-x5)*wrap .i64 (x2-x5)))),I 1]).bind fun o1=>
 some [jA o1 0]:=by kernel_rfl
def Ix:=Xk IX
theorem Zkn:Ai PG (X_ IX):=Ao rfl ⟨Q5p,trivial⟩
theorem Qym:Aj PG (195,Ac Qke Qld Ix):=rw1 (C:=(X_ IX)) Zkn
def Qph:Sk:=⟨[tf [CS.ptr 20000 0],TS.v true [ci,ci,ci],TS.v true (cc 7)],[(20000,142,[ci,ci,ci,CS.own 20000 7,CS.own 20001 3,CS.bool,ci,ci,ci])],[(20000,162,Ag),(20001,76,kPt)]⟩
def VV:Sk:=⟨[TS.tup []],[(20000,142,[ci,ci,ci,CS.own 20000 7,CS.own 20001 3,CS.bool,ci,ci,ci])],[(20000,162,Ag),(20001,76,kPt)]⟩
def Zfg (M:Fn):Nat×Spec:=(171,Ac Qph VV M)
def Ql3 (C5:Fn):Cfg:=cf [Qvs C5]
def S_ (C5:Fn):Fn:=Am PG (Ql3 C5) 64 171 Qph VV
abbrev Qpg (x15:Bool) (x0 x1:Rw) (x2 x3 x4 x16 x17 x18 x12 x13 x14:Int) (C5:Fn) (x9 x10 x11:Int) (h1_0:Bool) (h1_1 h1_2 h1_3:AC):Option (List AC):=
 bif !x15 then
 some [.view Ag x0, .view kPt x1,I x2,I x3,I x4,B true,I x16,I x17,I x18]
 else
 bif h1_0 then
 some [.view Ag x0, .view kPt x1,I x12,I x13,I x14,B x15,I x16,I x17,I x18]
 else
 (C5 [h1_1,h1_2,h1_3,I x2,I x3,I x4]).bind fun o2=>
 bif((x0++[[I x2,I x3,I x4,jA o2 0,I x9,I x10,I x11]]).length*56).ble 140737488355328 then
 some [.view Ag (x0++[[I x2,I x3,I x4,jA o2 0,I x9,I x10,I x11]]), .view kPt x1,I x12,I x13,I x14,B x15,I (wrap .i64 (x16+gA o2 0)),I x17,I x18]
 else
 none
attribute [go_sem] Qpg
theorem Q2x (C5:Fn) (x0 x1:Rw) (x2 x3 x4 x5 x6 x7 x8 x9 x10 x11 x12 x13 x14:Int) (x15:Bool) (x16 x17 x18:Int):S_ C5 [.view Ag x0, .view kPt x1,I x2,I x3,I x4,I x5,I x6,I x7,I x8,I x9,I x10,I x11,I x12,I x13,I x14,B x15,I x16,I x17,I x18]=
 bif decide ((x0.length:Int)>0)then
 bif decide (0<=wrap .i64 ((x0.length:Int)-1))&&decide (wrap .i64 ((x0.length:Int)-1)<(x0.length:Int))then
 Qpg x15 x0 x1 x2 x3 x4 x16 x17 x18 x12 x13 x14 C5 x9 x10 x11 (x2==gA (nth [] x0 (wrap .i64 ((x0.length:Int)-1)).toNat) 0&&(x3==gA (nth [] x0 (wrap .i64 ((x0.length:Int)-1)).toNat) 1&&(x4==gA (nth [] x0 (wrap .i64 ((x0.length:Int)-1)).toNat) 2&&true))) (jA (nth [] x0 (wrap .i64 ((x0.length:Int)-1)).toNat) 0) (jA (nth [] x0 (wrap .i64 ((x0.length:Int)-1)).toNat) 1) (jA (nth [] x0 (wrap .i64 ((x0.length:Int)-1)).toNat) 2)
 else
 none
 else
 Qpg x15 x0 x1 x2 x3 x4 x16 x17 x18 x12 x13 x14 C5 x9 x10 x11 (x2==x12&&(x3==x13&&(x4==x14&&true))) (I x12) (I x13) (I x14):=by kernel_rfl
def OW:=S_ Ix
theorem Z6d:Ai PG (Ql3 Ix):=Ao rfl ⟨Qym,trivial⟩
theorem Zyk:Aj PG (171,Ac Qph VV OW):=rw1 (C:=(Ql3 Ix)) Z6d
def YE:Sk:=⟨[tf [CS.sl Al],tf [ci]],[],[]⟩
def YP:Sk:=⟨[tf [ci]],[],[]⟩
def V6 (M:Fn):Nat×Spec:=(125,Ac YE YP M)
def C_path_next_0:Cfg:=cf []
def Qxj:Sk:=⟨[tf [CS.sl Al],tf [ci]]++dd 20,[],[]⟩
def Qsa:List (Ex×Sk):=[(Ex.exit 0,⟨[td,tf [ci]]++dd 20,[],[]⟩)]
def Qb:Lp:=AT PG C_path_next_0 64 2 (AU PG 125 2) Qxj Qsa
def Q5v (N2:Lp):Cfg:=C_path_next_0.loop 2 Qxj Qsa N2
def Qew (N2:Lp):Fn:=Am PG (Q5v N2) 64 125 YE YP
theorem Qve (v0:Rw) (v1:Int):Qb [.view Al v0,I v1]=
 bif decide (v1<(v0.length:Int))then
 bif decide (0<=v1)&&decide (v1<(v0.length:Int))then
 bif gA (nth [] v0 v1.toNat) 0==10 then
 some (0,[.view Al v0,I (wrap .i64 (v1+1))])
 else
 some (1,[I v1])
 else
 none
 else
 some (1,[I v1]):=by kernel_rfl
theorem Zom (N2:Lp) (x0:Rw) (x1:Int):Qew N2 [.view Al x0,I x1]=
 (N2 [.view Al x0,I (wrap .i64 (x1+1))]).bind fun o1=>
 bif o1.1.beq 1 then
 some [jA o1.2 0]
 else
 none:=by kernel_rfl
def Qxy:=An (Qb)
def E1:=Qew Qxy
theorem Q17:Ai PG (C_path_next_0):=Ao rfl trivial
theorem Qji:Aj PG (125,Ac YE YP E1):=rw2 (C:=(Q5v Qxy)) (fl fb Q17) Q17
def Qae:Sk:=⟨[tf [CS.sl Al],tf [ci]],[],[]⟩
def UV:Sk:=⟨[tf [CS.bool]],[],[]⟩
def Qxv (M:Fn):Nat×Spec:=(124,Ac Qae UV M)
def Qho (Bk Bo:Fn):Cfg:=cf [Tz Bk,V6 Bo]
def Qag (Bk Bo:Fn):Fn:=Am PG (Qho Bk Bo) 64 124 Qae UV
theorem Zgk (Bk Bo:Fn) (x0:Rw) (x1:Int):Qag Bk Bo [.view Al x0,I x1]=
 (Bo [.view Al x0,I x1]).bind fun o3=>
 bif decide (0<=x1)&&decide (x1<(x0.length:Int))then
 (Bk (AO Al (nth [] x0 x1.toNat))).bind fun o4=>
 bif bA o4 0 then
 bif decide (0<=x1)&&decide (x1<(x0.length:Int))then
 bif gA (nth [] x0 x1.toNat) 18 !=0 then
 bif decide (gA o3 0<(x0.length:Int))then
 bif decide (0<=gA o3 0)&&decide (gA o3 0<(x0.length:Int))then
 (Bk (AO Al (nth [] x0 (gA o3 0).toNat))).bind fun o5=>
 some [B (bA o5 0)]
 else
 none
 else
 some [B false]
 else
 some [B false]
 else
 none
 else
 some [B false]
 else
 none:=by kernel_rfl
def GY:=Qag Ez E1
theorem Z5g:Ai PG (Qho Ez E1):=Ao rfl ⟨Sd,Qji,trivial⟩
theorem Qw5:Aj PG (124,Ac Qae UV GY):=rw1 (C:=(Qho Ez E1)) Z5g
def Qbr:Sk:=⟨[TS.v true [ci,ci,ci],TS.v true [ci,ci,ci],TS.v true [ci,ci,ci]],[],[]⟩
def Qbn:Sk:=⟨[tf [ci]],[],[]⟩
def Q88 (M:Fn):Nat×Spec:=(219,Ac Qbr Qbn M)
def Wo:Cfg:={cf []with unroll:=[3]}
def Q90:Fn:=Am PG Wo 64 219 Qbr Qbn
theorem Zoz (x0 x1 x2 x3 x4 x5 x6 x7 x8:Int):Q90 [I x0,I x1,I x2,I x3,I x4,I x5,I x6,I x7,I x8]=
 some [I (wrap .i64 (wrap .i64 (wrap .i64 (0+wrap .i64 (wrap .i64 (wrap .i64 (x0+x6)-wrap .i64 (2*x3))*wrap .i64 (wrap .i64 (x0+x6)-wrap .i64 (2*x3))))+wrap .i64 (wrap .i64 (wrap .i64 (x1+x7)-wrap .i64 (2*x4))*wrap .i64 (wrap .i64 (x1+x7)-wrap .i64 (2*x4))))+wrap .i64 (wrap .i64 (wrap .i64 (x2+x8)-wrap .i64 (2*x5))*wrap .i64 (wrap .i64 (x2+x8)-wrap .i64 (2*x5)))))]:=by kernel_rfl
def Gr:=Q90
theorem Zll:Ai PG (Wo):=Ao rfl trivial
theorem Q0u:Aj PG (219,Ac Qbr Qbn Gr):=rw1 (C:=Wo) Zll
def Qck:Sk:=⟨[TS.v true [ci,ci,ci],TS.v true [ci,ci,ci],TS.v true [ci,ci,ci]],[],[]⟩
def W8:Sk:=⟨[tf [ci]],[],[]⟩
def Z6a (M:Fn):Nat×Spec:=(215,Ac Qck W8 M)
def Qey (CM:Fn):Cfg:=cf [Q88 CM]
def Q7o:Sk:=⟨[td,td,td,tf [CS.ptr 3 0],tf [CS.ptr 4 0],tf [CS.ptr 5 0],td,tf [ci]]++dd 22,[(3,54,[ci,ci,ci]),(4,54,[ci,ci,ci]),(5,54,[ci,ci,ci])],[]⟩
def Q0v:List (Ex×Sk):=[(Ex.exit 0,⟨dd 7++[tf [ci]]++dd 22,[],[]⟩)]
def Pe (CM:Fn):Lp:=AT PG (Qey CM) 64 2 (AU PG 215 2) Q7o Q0v
def Q93 (CM:Fn) (N2:Lp):Cfg:=(Qey CM).loop 2 Q7o Q0v N2
def Zg (CM:Fn) (N2:Lp):Fn:=Am PG (Q93 CM N2) 64 215 Qck W8
theorem Zca (CM:Fn) (v0 v1 v2 v3 v4 v5 v6 v7 v8 v9:Int):Pe CM [I v0,I v1,I v2,I v3,I v4,I v5,I v6,I v7,I v8,I v9]=
 bif decide (v0<64)then
 (CM [I v1,I v2,I v3,I v4,I v5,I v6,I v7,I v8,I v9]).bind fun o2=>
 bif decide (gA o2 0>wrap .i64 (wrap .i64 (wrap .i64 (wrap .i64 (wrap .i64 (wrap .i64 (16*v0)*v0)*v0)*v0)*4)*4))then
 some (0,[I (wrap .i64 (v0*2)),I v1,I v2,I v3,I v4,I v5,I v6,I v7,I v8,I v9])
 else
 some (1,[I v0])
 else
 some (1,[I v0]):=by kernel_rfl
theorem Zut (CM:Fn) (N2:Lp) (x0 x1 x2 x3 x4 x5 x6 x7 x8:Int):Zg CM N2 [I x0,I x1,I x2,I x3,I x4,I x5,I x6,I x7,I x8]=
 (N2 [I 2,I x0,I x1,I x2,I x3,I x4,I x5,I x6,I x7,I x8]).bind fun o3=>
 bif o3.1.beq 1 then
 some [jA o3.2 0]
 else
 none:=by kernel_rfl
def Q5i:=An (Pe Gr)
def Ky:=Zg Gr Q5i
theorem Zat:Ai PG (Qey Gr):=Ao rfl ⟨Q0u,trivial⟩
theorem Z49:Aj PG (215,Ac Qck W8 Ky):=rw2 (C:=(Q93 Gr Q5i)) (fl fb Zat) Zat
def Qh7:Sk:=⟨[TS.v true [CS.int .u64,CS.int .u64],tf [CS.int .u64]],[],[]⟩
def Xz:Sk:=⟨[TS.tup [(true,[CS.int .u64,CS.int .u64]),(false,[CS.bool])]],[],[]⟩
def Zz8 (M:Fn):Nat×Spec:=(224,Ac Qh7 Xz M)
def Qkm (Fb:Fn):Cfg:=cf [Q8j Fb]
def Qfj (Fb:Fn):Fn:=Am PG (Qkm Fb) 64 224 Qh7 Xz
theorem Zw6 (Fb:Fn) (x0 x1 x2:Int):Qfj Fb [U x0,U x1,U x2]=
 (Fb [U 0,U x0,U x2]).bind fun o2=>
 (Fb [U (gA o2 1),U x1,U x2]).bind fun o3=>
 some [U (gA o2 0),U (gA o3 0),B (decide (gA o3 1>0))]:=by kernel_rfl
def Uf:=Qfj G8
theorem Zuh:Ai PG (Qkm G8):=Ao rfl ⟨Qw3,trivial⟩
theorem Zh9:Aj PG (224,Ac Qh7 Xz Uf):=rw1 (C:=(Qkm G8)) Zuh
def Qd8:Sk:=⟨[tf [ci],tf [ci],tf [ci],tf [ci]],[],[]⟩
def Qgx:Sk:=⟨[TS.tup [(false,[ci]),(false,[CS.bool])]],[],[]⟩
def Qsn (M:Fn):Nat×Spec:=(220,Ac Qd8 Qgx M)
def Ql2 (Bc Cz CY F6 Nw Bw Dz B_:Fn):Cfg:=cf [Zw Bc,Qs3 Cz,ZB CY,Q4k F6,Zz8 Nw,Rn Bw,Qiq Dz,WB B_]
def Qhp (Bc Cz CY F6 Nw Bw Dz B_:Fn):Fn:=Am PG (Ql2 Bc Cz CY F6 Nw Bw Dz B_) 64 220 Qd8 Qgx
abbrev PJ (Cz:Fn) (x3:Int) (Bc:Fn) (o42:List AC) (h1_0:Bool) (h1_1 h1_2 h1_3 h1_4:AC):Option (List AC):=
 bif h1_0 then
 (Cz [I x3,h1_1,B true,h1_2]).bind fun o44=>
 bif bA o44 0 then
 (Bc [U (wrap .u64 (wrap .u64 ((gA o42 0).tdiv 2)+1)),h1_2]).bind fun o45=>
 some [jA o45 0,B (bA o45 1)]
 else
 (Bc [U (wrap .u64 ((gA o42 0).tdiv 2)),h1_2]).bind fun o46=>
 some [jA o46 0,B (bA o46 1)]
 else
 (Cz [I x3,h1_3,h1_4,h1_2]).bind fun o47=>
 bif bA o47 0 then
 (Bc [U (wrap .u64 (wrap .u64 ((gA o42 0).tdiv 2)+1)),h1_2]).bind fun o48=>
 some [jA o48 0,B (bA o48 1)]
 else
 (Bc [U (wrap .u64 ((gA o42 0).tdiv 2)),h1_2]).bind fun o49=>
 some [jA o49 0,B (bA o49 1)]
attribute [go_sem] PJ
theorem Zfv (Bc Cz CY F6 Nw Bw Dz B_:Fn) (x0 x1 x2 x3:Int):Qhp Bc Cz CY F6 Nw Bw Dz B_ [I x0,I x1,I x2,I x3]=
 (B_ [I x0]).bind fun o35=>
 bif decide (gA o35 0>2147483648)then
 some [I 0,B false]
 else
 (B_ [I x1]).bind fun o36=>
 bif decide (gA o36 0>2147483648)then
 some [I 0,B false]
 else
 bif decide (x2<1)then
 some [I 0,B false]
 else
 bif decide (x2>4611686018427387904)then
 some [I 0,B false]
 else
 (Dz [I x3]).bind fun o37=>
 bif !bA o37 0 then
 some [I 0,B false]
 else
 (B_ [I x0]).bind fun o38=>
 (B_ [I x1]).bind fun o39=>
 (Bw [U (wrap .u64 (2*wrap .u64 (gA o38 0*gA o39 0))),U (wrap .u64 (2*wrap .u64 (gA o38 0*gA o39 0)))]).bind fun o40=>
 (Nw [U (gA o40 0),U (gA o40 1),U (wrap .u64 x2)]).bind fun o41=>
 (F6 [U (gA o41 0),U (gA o41 1)]).bind fun o42=>
 bif bA o41 2 then
 (CY [I x0,I x1]).bind fun o43=>
 PJ Cz x3 Bc o42 ((gA o42 0).tmod 2==1) (I 1) (B (decide (gA o43 0<0))) (I (-1)) (B true)
 else
 (Bw [U (gA o42 0),U (gA o42 0)]).bind fun o50=>
 (CY [I x0,I x1]).bind fun o51=>
 bif(gA o42 0).tmod 2==1 then
 bif !(gA o50 0==gA o41 0&&(gA o50 1==gA o41 1&&true))then
 PJ Cz x3 Bc o42 (!(gA o50 0==gA o41 0&&(gA o50 1==gA o41 1&&true))) (I 1) (B (decide (gA o51 0<0))) (I 1) (B ((gA o42 0).tmod 2==1))
 else
 PJ Cz x3 Bc o42 (!(gA o50 0==gA o41 0&&(gA o50 1==gA o41 1&&true))) (I 0) (B (decide (gA o51 0<0))) (I 0) (B ((gA o42 0).tmod 2==1))
 else
 PJ Cz x3 Bc o42 (!(gA o50 0==gA o41 0&&(gA o50 1==gA o41 1&&true))) (I (-1)) (B (decide (gA o51 0<0))) (I (-1)) (B ((gA o42 0).tmod 2==1)):=by kernel_rfl
def If:=Qhp EQ Hg Ft JZ Uf Ea Fi FT
theorem Zio:Ai PG (Ql2 EQ Hg Ft JZ Uf Ea Fi FT):=Ao rfl ⟨Qdt,Qt7,Qo4,Q2e,Zh9,Sl,Qom,VL,trivial⟩
theorem Q83:Aj PG (220,Ac Qd8 Qgx If):=rw1 (C:=(Ql2 EQ Hg Ft JZ Uf Ea Fi FT)) Zio
def Vv:Sk:=⟨[TS.v true [ci,ci,ci],TS.v true [ci,ci,ci],tf [ci]],[],[]⟩
def Qlk:Sk:=⟨[TS.tup [(true,[ci,ci,ci]),(false,[CS.bool])]],[],[]⟩
def Qx1 (M:Fn):Nat×Spec:=(214,Ac Vv Qlk M)
def YT (Cb:Fn):Cfg:={cf [Qsn Cb]with unroll:=[5,10]}
def Qhu (Cb:Fn):Fn:=Am PG (YT Cb) 64 214 Vv Qlk
theorem Zot (Cb:Fn) (x0 x1 x2 x3 x4 x5 x6:Int):Qhu Cb [I x0,I x1,I x2,I x3,I x4,I x5,I x6]=
 bif x3==x0&&(x4==x1&&(x5==x2&&true))then
 some [I 0,I 0,I 0,B false]
 else
 bif decide (x6<0)then
 some [I 0,I 0,I 0,B false]
 else
 bif decide (x6>33554432)then
 some [I 0,I 0,I 0,B false]
 else
 (Cb [I (wrap .i64 (x3-x0)),I x6,I (wrap .i64 (wrap .i64 (wrap .i64 (0+wrap .i64 (wrap .i64 (x3-x0)*wrap .i64 (x3-x0)))+wrap .i64 (wrap .i64 (x4-x1)*wrap .i64 (x4-x1)))+wrap .i64 (wrap .i64 (x5-x2)*wrap .i64 (x5-x2)))),I 2]).bind fun o3=>
 (Cb [I (wrap .i64 (x4-x1)),I x6,I (wrap .i64 (wrap .i64 (wrap .i64 (0+wrap .i64 (wrap .i64 (x3-x0)*wrap .i64 (x3-x0)))+wrap .i64 (wrap .i64 (x4-x1)*wrap .i64 (x4-x1)))+wrap .i64 (wrap .i64 (x5-x2)*wrap .i64 (x5-x2)))),I 2]).bind fun o4=>
 (Cb [I (wrap .i64 (x5-x2)),I x6,I (wrap .i64 (wrap .i64 (wrap .i64 (0+wrap .i64 (wrap .i64 (x3-x0)*wrap .i64 (x3-x0)))+wrap .i64 (wrap .i64 (x4-x1)*wrap .i64 (x4-x1)))+wrap .i64 (wrap .i64 (x5-x2)*wrap .i64 (x5-x2)))),I 2]).bind fun o5=>
 some [I (wrap .i64 (x0+gA o3 0)),I (wrap .i64 (x1+gA o4 0)),I (wrap .i64 (x2+gA o5 0)),B true]:=by kernel_rfl
def GA:=Qhu If
theorem Zkb:Ai PG (YT If):=Ao rfl ⟨Q83,trivial⟩
theorem Q2i:Aj PG (214,Ac Vv Qlk GA):=rw1 (C:=(YT If)) Zkb
def Qqd:Sk:=⟨[TS.v true [ci,ci,ci],TS.v true [ci,ci,ci],TS.v true [ci,ci,ci],tf [ci]],[],[]⟩
def Qa2:Sk:=⟨[tf [ci]],[],[]⟩
def Zsx (M:Fn):Nat×Spec:=(213,Ac Qqd Qa2 M)
def Qb1 (CM Cd C5:Fn):Cfg:=cf [Q88 CM,Qx1 Cd,Qvs C5]
def Qrd:Sk:=⟨[td,td,td,tf [ci],tf [CS.ptr 4 0],tf [CS.ptr 5 0],tf [CS.ptr 6 0],td,td,tf [ci],tf [ci],tf [ci]]++dd 62,[(4,54,[ci,ci,ci]),(5,54,[ci,ci,ci]),(6,54,[ci,ci,ci])],[]⟩
def Q1r:List (Ex×Sk):=[(Ex.exit 0,⟨dd 10++[tf [ci]]++dd 63,[],[]⟩)]
def NU (CM Cd C5:Fn):Lp:=AT PG (Qb1 CM Cd C5) 64 6 (AU PG 213 6) Qrd Q1r
def Qre (CM Cd C5:Fn) (N6:Lp):Cfg:=(Qb1 CM Cd C5).loop 6 Qrd Q1r N6
def XS (CM Cd C5:Fn) (N6:Lp):Fn:=Am PG (Qre CM Cd C5 N6) 64 213 Qqd Qa2
theorem Qri (CM Cd C5:Fn) (v0 v1 v2 v3 v4 v5 v6 v7 v8 v9 v10 v11 v12:Int):NU CM Cd C5 [I v0,I v1,I v2,I v3,I v4,I v5,I v6,I v7,I v8,I v9,I v10,I v11,I v12]=
 bif decide (v3>0)then
 bif decide (wrap .i64 (v2+v3)>v1)then
 some (0,[I v0,I v1,I v2,I (v3.fdiv (2^min (Int.toNat 1) IntKind.i64.bits)),I v4,I v5,I v6,I v7,I v8,I v9,I v10,I v11,I v12])
 else
 (Cd [I v7,I v8,I v9,I v4,I v5,I v6,I (wrap .i64 (v2+v3))]).bind fun o8=>
 (Cd [I v7,I v8,I v9,I v10,I v11,I v12,I (wrap .i64 (v2+v3))]).bind fun o9=>
 (CM [jA o8 0,jA o8 1,jA o8 2,I v7,I v8,I v9,jA o9 0,jA o9 1,jA o9 2]).bind fun o10=>
 bif decide (gA o10 0<=wrap .i64 (wrap .i64 (16*v0)*v0))then
 some (0,[I v0,I v1,I (wrap .i64 (v2+v3)),I (v3.fdiv (2^min (Int.toNat 1) IntKind.i64.bits)),I v4,I v5,I v6,I v7,I v8,I v9,I v10,I v11,I v12])
 else
 some (0,[I v0,I v1,I v2,I (v3.fdiv (2^min (Int.toNat 1) IntKind.i64.bits)),I v4,I v5,I v6,I v7,I v8,I v9,I v10,I v11,I v12])
 else
 some (1,[I v2]):=by kernel_rfl
theorem Zhf (CM Cd C5:Fn) (N6:Lp) (x0 x1 x2 x3 x4 x5 x6 x7 x8 x9:Int):XS CM Cd C5 N6 [I x0,I x1,I x2,I x3,I x4,I x5,I x6,I x7,I x8,I x9]=
 bif x0==x3&&(x1==x4&&(x2==x5&&true))then
 some [I 0]
 else
 bif x6==x3&&(x7==x4&&(x8==x5&&true))then
 some [I 0]
 else
 (C5 [I x0,I x1,I x2,I x3,I x4,I x5]).bind fun o11=>
 (C5 [I x3,I x4,I x5,I x6,I x7,I x8]).bind fun o12=>
 (N6 [I x9,I (wrap .i64 (mn (gA o11 0) (gA o12 0)-2)),I 0,I 16777216,I x0,I x1,I x2,I x3,I x4,I x5,I x6,I x7,I x8]).bind fun o13=>
 bif o13.1.beq 1 then
 bif decide (gA o13.2 0<16)then
 some [I 0]
 else
 some [jA o13.2 0]
 else
 none:=by kernel_rfl
def Q66:=An (NU Gr GA Ix)
def Lm:=XS Gr GA Ix Q66
theorem Q5j:Ai PG (Qb1 Gr GA Ix):=Ao rfl ⟨Q0u,Q2i,Qym,trivial⟩
theorem Zik:Aj PG (213,Ac Qqd Qa2 Lm):=rw2 (C:=(Qre Gr GA Ix Q66)) (fl fb Q5j) Q5j
def Qpi:Sk:=⟨[TS.v true [ci,ci,ci],TS.v true [ci,ci,ci],TS.v true [ci,ci,ci],tf [ci]],[],[]⟩
def Qkx:Sk:=⟨[tf [CS.sl kPt]],[],[]⟩
def Zzj (M:Fn):Nat×Spec:=(208,Ac Qpi Qkx M)
def Qaq (AI Gp Cd Gl:Fn):Cfg:={cf [L3 AI,Z6a Gp,Qx1 Cd,Zsx Gl]with unroll:=[13]}
def Q0b:Sk:=⟨[td,td,td,td,td,tf [CS.ptr 5 0],td,td,td,td,tf [CS.ptr 10 0],td,tf [CS.ptr 12 0],td,tf [ci],tf [CS.own 50 3]]++dd 36++[tf [ci],tf [ci]]++dd 57,[(5,54,[ci,ci,ci]),(10,54,[ci,ci,ci]),(12,54,[ci,ci,ci])],[(50,54,kPt)]⟩
def Q8a:List (Ex×Sk):=[(Ex.exit 0,⟨dd 15++[tf [CS.own 50 3]]++dd 95,[],[(50,54,kPt)]⟩)]
def Ng (AI Gp Cd Gl:Fn):Lp:=AT PG (Qaq AI Gp Cd Gl) 64 9 (AU PG 208 9) Q0b Q8a
def Q3z (AI Gp Cd Gl:Fn) (N9:Lp):Cfg:=(Qaq AI Gp Cd Gl).loop 9 Q0b Q8a N9
def Qok (AI Gp Cd Gl:Fn) (N9:Lp):Fn:=Am PG (Q3z AI Gp Cd Gl N9) 64 208 Qpi Qkx
theorem Quv (AI Gp Cd Gl:Fn) (v0:Rw) (v1 v2 v3 v4 v5 v6 v7 v8 v9 v10 v11 v12:Int):Ng AI Gp Cd Gl [.view kPt v0,I v1,I v2,I v3,I v4,I v5,I v6,I v7,I v8,I v9,I v10,I v11,I v12]=
 bif decide (v3<v2)then
 bif decide (0<=v3)&&decide (v3<(v0.length:Int))then
 (AI [I (wrap .i64 (wrap .i64 (wrap .i64 (wrap .i64 (v1-v3)*wrap .i64 (v1-v3))*wrap .i64 (v7-v4))+wrap .i64 (wrap .i64 (v3*v3)*wrap .i64 (v10-v4)))),I 1,I (wrap .i64 (v1*v1)),I 2]).bind fun o12=>
 bif decide (0<=v3)&&decide (v3<(v0.length:Int))then
 bif decide (0<=v3)&&decide (v3<(v0.length:Int))then
 (AI [I (wrap .i64 (wrap .i64 (wrap .i64 (wrap .i64 (v1-v3)*wrap .i64 (v1-v3))*wrap .i64 (v8-v5))+wrap .i64 (wrap .i64 (v3*v3)*wrap .i64 (v11-v5)))),I 1,I (wrap .i64 (v1*v1)),I 2]).bind fun o13=>
 bif decide (0<=v3)&&decide (v3<(v0.length:Int))then
 bif decide (0<=v3)&&decide (v3<(v0.length:Int))then
 (AI [I (wrap .i64 (wrap .i64 (wrap .i64 (wrap .i64 (v1-v3)*wrap .i64 (v1-v3))*wrap .i64 (v9-v6))+wrap .i64 (wrap .i64 (v3*v3)*wrap .i64 (v12-v6)))),I 1,I (wrap .i64 (v1*v1)),I 2]).bind fun o14=>
 bif decide (0<=v3)&&decide (v3<(v0.length:Int))then
 bif decide (0<=v3)&&decide (v3<(v0.length:Int))then
 some (0,[.view kPt ((((v0.set v3.toNat [I v4,I v5,I v6]).set v3.toNat [I (wrap .i64 (Af (nth .dead (nth [] (v0.set v3.toNat [I v4,I v5,I v6]) v3.toNat) 0)+gA o12 0)),I (Af (nth .dead (nth [] (v0.set v3.toNat [I v4,I v5,I v6]) v3.toNat) 1)),I (Af (nth .dead (nth [] (v0.set v3.toNat [I v4,I v5,I v6]) v3.toNat) 2))]).set v3.toNat [I (Af (nth .dead (nth [] ((v0.set v3.toNat [I v4,I v5,I v6]).set v3.toNat [I (wrap .i64 (Af (nth .dead (nth [] (v0.set v3.toNat [I v4,I v5,I v6]) v3.toNat) 0)+gA o12 0)),I (Af (nth .dead (nth [] (v0.set v3.toNat [I v4,I v5,I v6]) v3.toNat) 1)),I (Af (nth .dead (nth [] (v0.set v3.toNat [I v4,I v5,I v6]) v3.toNat) 2))]) v3.toNat) 0)),I (wrap .i64 (Af (nth .dead (nth [] ((v0.set v3.toNat [I v4,I v5,I v6]).set v3.toNat [I (wrap .i64 (Af (nth .dead (nth [] (v0.set v3.toNat [I v4,I v5,I v6]) v3.toNat) 0)+gA o12 0)),I (Af (nth .dead (nth [] (v0.set v3.toNat [I v4,I v5,I v6]) v3.toNat) 1)),I (Af (nth .dead (nth [] (v0.set v3.toNat [I v4,I v5,I v6]) v3.toNat) 2))]) v3.toNat) 1)+gA o13 0)),I (Af (nth .dead (nth [] ((v0.set v3.toNat [I v4,I v5,I v6]).set v3.toNat [I (wrap .i64 (Af (nth .dead (nth [] (v0.set v3.toNat [I v4,I v5,I v6]) v3.toNat) 0)+gA o12 0)),I (Af (nth .dead (nth [] (v0.set v3.toNat [I v4,I v5,I v6]) v3.toNat) 1)),I (Af (nth .dead (nth [] (v0.set v3.toNat [I v4,I v5,I v6]) v3.toNat) 2))]) v3.toNat) 2))]).set v3.toNat [I (Af (nth .dead (nth [] (((v0.set v3.toNat [I v4,I v5,I v6]).set v3.toNat [I (wrap .i64 (Af (nth .dead (nth [] (v0.set v3.toNat [I v4,I v5,I v6]) v3.toNat) 0)+gA o12 0)),I (Af (nth .dead (nth [] (v0.set v3.toNat [I v4,I v5,I v6]) v3.toNat) 1)),I (Af (nth .dead (nth [] (v0.set v3.toNat [I v4,I v5,I v6]) v3.toNat) 2))]).set v3.toNat [I (Af (nth .dead (nth [] ((v0.set v3.toNat [I v4,I v5,I v6]).set v3.toNat [I (wrap .i64 (Af (nth .dead (nth [] (v0.set v3.toNat [I v4,I v5,I v6]) v3.toNat) 0)+gA o12 0)),I (Af (nth .dead (nth [] (v0.set v3.toNat [I v4,I v5,I v6]) v3.toNat) 1)),I (Af (nth .dead (nth [] (v0.set v3.toNat [I v4,I v5,I v6]) v3.toNat) 2))]) v3.toNat) 0)),I (wrap .i64 (Af (nth .dead (nth [] ((v0.set v3.toNat [I v4,I v5,I v6]).set v3.toNat [I (wrap .i64 (Af (nth .dead (nth [] (v0.set v3.toNat [I v4,I v5,I v6]) v3.toNat) 0)+gA o12 0)),I (Af (nth .dead (nth [] (v0.set v3.toNat [I v4,I v5,I v6]) v3.toNat) 1)),I (Af (nth .dead (nth [] (v0.set v3.toNat [I v4,I v5,I v6]) v3.toNat) 2))]) v3.toNat) 1)+gA o13 0)),I (Af (nth .dead (nth [] ((v0.set v3.toNat [I v4,I v5,I v6]).set v3.toNat [I (wrap .i64 (Af (nth .dead (nth [] (v0.set v3.toNat [I v4,I v5,I v6]) v3.toNat) 0)+gA o12 0)),I (Af (nth .dead (nth [] (v0.set v3.toNat [I v4,I v5,I v6]) v3.toNat) 1)),I (Af (nth .dead (nth [] (v0.set v3.toNat [I v4,I v5,I v6]) v3.toNat) 2))]) v3.toNat) 2))]) v3.toNat) 0)),I (Af (nth .dead (nth [] (((v0.set v3.toNat [I v4,I v5,I v6]).set v3.toNat [I (wrap .i64 (Af (nth .dead (nth [] (v0.set v3.toNat [I v4,I v5,I v6]) v3.toNat) 0)+gA o12 0)),I (Af (nth .dead (nth [] (v0.set v3.toNat [I v4,I v5,I v6]) v3.toNat) 1)),I (Af (nth .dead (nth [] (v0.set v3.toNat [I v4,I v5,I v6]) v3.toNat) 2))]).set v3.toNat [I (Af (nth .dead (nth [] ((v0.set v3.toNat [I v4,I v5,I v6]).set v3.toNat [I (wrap .i64 (Af (nth .dead (nth [] (v0.set v3.toNat [I v4,I v5,I v6]) v3.toNat) 0)+gA o12 0)),I (Af (nth .dead (nth [] (v0.set v3.toNat [I v4,I v5,I v6]) v3.toNat) 1)),I (Af (nth .dead (nth [] (v0.set v3.toNat [I v4,I v5,I v6]) v3.toNat) 2))]) v3.toNat) 0)),I (wrap .i64 (Af (nth .dead (nth [] ((v0.set v3.toNat [I v4,I v5,I v6]).set v3.toNat [I (wrap .i64 (Af (nth .dead (nth [] (v0.set v3.toNat [I v4,I v5,I v6]) v3.toNat) 0)+gA o12 0)),I (Af (nth .dead (nth [] (v0.set v3.toNat [I v4,I v5,I v6]) v3.toNat) 1)),I (Af (nth .dead (nth [] (v0.set v3.toNat [I v4,I v5,I v6]) v3.toNat) 2))]) v3.toNat) 1)+gA o13 0)),I (Af (nth .dead (nth [] ((v0.set v3.toNat [I v4,I v5,I v6]).set v3.toNat [I (wrap .i64 (Af (nth .dead (nth [] (v0.set v3.toNat [I v4,I v5,I v6]) v3.toNat) 0)+gA o12 0)),I (Af (nth .dead (nth [] (v0.set v3.toNat [I v4,I v5,I v6]) v3.toNat) 1)),I (Af (nth .dead (nth [] (v0.set v3.toNat [I v4,I v5,I v6]) v3.toNat) 2))]) v3.toNat) 2))]) v3.toNat) 1)),I (wrap .i64 (Af (nth .dead (nth [] (((v0.set v3.toNat [I v4,I v5,I v6]).set v3.toNat [I (wrap .i64 (Af (nth .dead (nth [] (v0.set v3.toNat [I v4,I v5,I v6]) v3.toNat) 0)+gA o12 0)),I (Af (nth .dead (nth [] (v0.set v3.toNat [I v4,I v5,I v6]) v3.toNat) 1)),I (Af (nth .dead (nth [] (v0.set v3.toNat [I v4,I v5,I v6]) v3.toNat) 2))]).set v3.toNat [I (Af (nth .dead (nth [] ((v0.set v3.toNat [I v4,I v5,I v6]).set v3.toNat [I (wrap .i64 (Af (nth .dead (nth [] (v0.set v3.toNat [I v4,I v5,I v6]) v3.toNat) 0)+gA o12 0)),I (Af (nth .dead (nth [] (v0.set v3.toNat [I v4,I v5,I v6]) v3.toNat) 1)),I (Af (nth .dead (nth [] (v0.set v3.toNat [I v4,I v5,I v6]) v3.toNat) 2))]) v3.toNat) 0)),I (wrap .i64 (Af (nth .dead (nth [] ((v0.set v3.toNat [I v4,I v5,I v6]).set v3.toNat [I (wrap .i64 (Af (nth .dead (nth [] (v0.set v3.toNat [I v4,I v5,I v6]) v3.toNat) 0)+gA o12 0)),I (Af (nth .dead (nth [] (v0.set v3.toNat [I v4,I v5,I v6]) v3.toNat) 1)),I (Af (nth .dead (nth [] (v0.set v3.toNat [I v4,I v5,I v6]) v3.toNat) 2))]) v3.toNat) 1)+gA o13 0)),I (Af (nth .dead (nth [] ((v0.set v3.toNat [I v4,I v5,I v6]).set v3.toNat [I (wrap .i64 (Af (nth .dead (nth [] (v0.set v3.toNat [I v4,I v5,I v6]) v3.toNat) 0)+gA o12 0)),I (Af (nth .dead (nth [] (v0.set v3.toNat [I v4,I v5,I v6]) v3.toNat) 1)),I (Af (nth .dead (nth [] (v0.set v3.toNat [I v4,I v5,I v6]) v3.toNat) 2))]) v3.toNat) 2))]) v3.toNat) 2)+gA o14 0))]),I v1,I v2,I (wrap .i64 (v3+1)),I v4,I v5,I v6,I v7,I v8,I v9,I v10,I v11,I v12])
 else
 none
 else
 none
 else
 none
 else
 none
 else
 none
 else
 none
 else
 none
 else
 some (1,[.view kPt v0]):=by kernel_rfl
theorem Q44 (AI Gp Cd Gl:Fn) (N9:Lp) (x0 x1 x2 x3 x4 x5 x6 x7 x8 x9:Int):Qok AI Gp Cd Gl N9 [I x0,I x1,I x2,I x3,I x4,I x5,I x6,I x7,I x8,I x9]=
 (Gl [I x0,I x1,I x2,I x3,I x4,I x5,I x6,I x7,I x8,I x9]).bind fun o15=>
 bif gA o15 0==0 then
 some [.view kPt [[I x3,I x4,I x5]]]
 else
 (Cd [I x3,I x4,I x5,I x0,I x1,I x2,jA o15 0]).bind fun o16=>
 (Cd [I x3,I x4,I x5,I x6,I x7,I x8,jA o15 0]).bind fun o17=>
 (Gp [jA o16 0,jA o16 1,jA o16 2,I x3,I x4,I x5,jA o17 0,jA o17 1,jA o17 2]).bind fun o18=>
 bif decide (wrap .i64 (gA o18 0+1)=wrap .i64 (gA o18 0+1))then
 bif decide (0<=wrap .i64 (gA o18 0+1))&&decide (wrap .i64 (gA o18 0+1)*(↑24:Int)<=140737488355328)then
 (N9 [.view kPt (List.replicate (wrap .i64 (gA o18 0+1)).toNat [I 0,I 0,I 0]),jA o18 0,I (↑(List.replicate (wrap .i64 (gA o18 0+1)).toNat [I 0,I 0,I 0]).length:Int),I 0,I x3,I x4,I x5,jA o16 0,jA o16 1,jA o16 2,jA o17 0,jA o17 1,jA o17 2]).bind fun o19=>
 bif o19.1.beq 1 then
 some [.view kPt (wA o19.2 0)]
 else
 none
 else
 none
 else
 none:=by kernel_rfl
def Qxm:=An (Ng Bn Ky GA Lm)
def P7:=Qok Bn Ky GA Lm Qxm
theorem Q51:Ai PG (Qaq Bn Ky GA Lm):=Ao rfl ⟨LT,Z49,Q2i,Zik,trivial⟩
theorem Zyh:Aj PG (208,Ac Qpi Qkx P7):=rw2 (C:=(Q3z Bn Ky GA Lm Qxm)) (fl fb Q51) Q51
def Qlx:Sk:=⟨[TS.v true [ci,ci,ci]],[],[]⟩
def Qg4:Sk:=⟨[TS.v true [ci,ci,ci]],[],[]⟩
def Zua (M:Fn):Nat×Spec:=(209,Ac Qlx Qg4 M)
def Qjr:Cfg:=cf []
def Qyg:Fn:=Am PG Qjr 64 209 Qlx Qg4
theorem Z67 (x0 x1 x2:Int):Qyg [I x0,I x1,I x2]=
 some [I (wrap .i64 (x0*16)),I (wrap .i64 (x1*16)),I (wrap .i64 (x2*16))]:=by kernel_rfl
def O2:=Qyg
theorem Zku:Ai PG (Qjr):=Ao rfl trivial
theorem Za8:Aj PG (209,Ac Qlx Qg4 O2):=rw1 (C:=Qjr) Zku
def XP:Sk:=⟨[TS.v true (cc 13++[CS.bool,ci,CS.bool]++cc 5++[CS.bool]),TS.v true (cc 13++[CS.bool,ci,CS.bool]++cc 5++[CS.bool])],[],[]⟩
def Qfm:Sk:=⟨[TS.tup [(false,[CS.sl kPt]),(false,[CS.sl kPt])]],[],[]⟩
def Zpd (M:Fn):Nat×Spec:=(194,Ac XP Qfm M)
def YG (OI Nh BW:Fn):Cfg:=cf [Zzj OI,Zua Nh,Qpp BW]
def Qf0 (OI Nh BW:Fn):Fn:=Am PG (YG OI Nh BW) 64 194 XP Qfm
theorem Zql (OI Nh BW:Fn) (x0 x1 x2 x3 x4 x5 x6 x7 x8 x9 x10 x11 x12:Int) (x13:Bool) (x14:Int) (x15:Bool) (x16 x17 x18 x19 x20:Int) (x21:Bool) (x22 x23 x24 x25 x26 x27 x28 x29 x30 x31 x32 x33 x34:Int) (x35:Bool) (x36:Int) (x37:Bool) (x38 x39 x40 x41 x42:Int) (x43:Bool):Qf0 OI Nh BW [I x0,I x1,I x2,I x3,I x4,I x5,I x6,I x7,I x8,I x9,I x10,I x11,I x12,B x13,I x14,B x15,I x16,I x17,I x18,I x19,I x20,B x21,I x22,I x23,I x24,I x25,I x26,I x27,I x28,I x29,I x30,I x31,I x32,I x33,I x34,B x35,I x36,B x37,I x38,I x39,I x40,I x41,I x42,B x43]=
 (BW [I x0,I x1,I x2,I x3,I x4,I x5,I x6,I x7,I x8,I x9,I x10,I x11,I x12,B x13,I x14,B x15,I x16,I x17,I x18,I x19,I x20,B x21]).bind fun o4=>
 (Nh [I x5,I x6,I x7]).bind fun o5=>
 (BW [I x22,I x23,I x24,I x25,I x26,I x27,I x28,I x29,I x30,I x31,I x32,I x33,I x34,B x35,I x36,B x37,I x38,I x39,I x40,I x41,I x42,B x43]).bind fun o6=>
 (OI [jA o4 0,jA o4 1,jA o4 2,jA o5 0,jA o5 1,jA o5 2,jA o6 0,jA o6 1,jA o6 2,I (wrap .i64 (x18*16))]).bind fun o7=>
 bif decide (0<=wrap .i64 (wrap .i64 ((wrap .i64 ((↑(wA o7 0).length:Int)-1)).tdiv 2)+1))&&decide (wrap .i64 (wrap .i64 ((wrap .i64 ((↑(wA o7 0).length:Int)-1)).tdiv 2)+1)<=(↑(wA o7 0).length:Int))then
 bif decide (0<=wrap .i64 ((wrap .i64 ((↑(wA o7 0).length:Int)-1)).tdiv 2))&&decide (wrap .i64 ((wrap .i64 ((↑(wA o7 0).length:Int)-1)).tdiv 2)<=(↑(wA o7 0).length:Int))then
 some [.view kPt (List.take (wrap .i64 (wrap .i64 ((wrap .i64 ((↑(wA o7 0).length:Int)-1)).tdiv 2)+1)).toNat (wA o7 0)), .view kPt (List.drop (wrap .i64 ((wrap .i64 ((↑(wA o7 0).length:Int)-1)).tdiv 2)).toNat (wA o7 0))]
 else
 none
 else
 none:=by kernel_rfl
def Q7:=Qf0 P7 O2 FN
theorem Z3s:Ai PG (YG P7 O2 FN):=Ao rfl ⟨Zyh,Za8,Qju,trivial⟩
theorem Zoj:Aj PG (194,Ac XP Qfm Q7):=rw1 (C:=(YG P7 O2 FN)) Z3s
def Qhb:Sk:=⟨[tf [ci]],[],[]⟩
def Qa0:Sk:=⟨[TS.tup [(false,[ci]),(false,[ci]),(false,[ci]),(false,[CS.bool])]],[],[]⟩
def Wr (M:Fn):Nat×Spec:=(188,Ac Qhb Qa0 M)
def Vx:Cfg:=cf []
def Q5r:Fn:=Am PG Vx 64 188 Qhb Qa0
theorem Zcs (x0:Int):Q5r [I x0]=
 bif x0==17 then
 some [I 0,I 1,I 2,B true]
 else
 bif x0==18 then
 some [I 2,I 0,I 1,B true]
 else
 bif x0==19 then
 some [I 1,I 2,I 0,B true]
 else
 some [I 0,I 0,I 0,B false]:=by kernel_rfl
def Ff:=Q5r
theorem Zkx:Ai PG (Vx):=Ao rfl trivial
theorem Qon:Aj PG (188,Ac Qhb Qa0 Ff):=rw1 (C:=Vx) Zkx
def Uq:Sk:=⟨[tf [ci],tf [ci],tf [ci],tf [ci]],[],[]⟩
def Qpk:Sk:=⟨[TS.v true [ci,ci,ci]],[],[]⟩
def Z2a (M:Fn):Nat×Spec:=(207,Ac Uq Qpk M)
def Qnx (DC:Fn):Cfg:=cf [Wr DC]
def Qo6 (DC:Fn):Fn:=Am PG (Qnx DC) 64 207 Uq Qpk
abbrev SO (o1:List AC) (x2:Int) (h2_0 h2_1 h2_2:AC):Option (List AC):=
 bif decide (gA o1 2=(↑0:Int))then
 some [I x2,h2_0,h2_1]
 else
 bif decide (gA o1 2=(↑(0+1):Int))then
 some [h2_2,I x2,h2_1]
 else
 bif decide (gA o1 2=(↑(0+1+1):Int))then
 some [h2_2,h2_0,I x2]
 else
 none
attribute [go_sem] SO
abbrev T5 (o1:List AC) (x2 x1:Int) (h1_0 h1_1 h1_2:AC):Option (List AC):=
 bif decide (gA o1 1=(↑0:Int))then
 SO o1 x2 h1_0 h1_1 (I x1)
 else
 bif decide (gA o1 1=(↑(0+1):Int))then
 SO o1 x2 (I x1) h1_1 h1_2
 else
 bif decide (gA o1 1=(↑(0+1+1):Int))then
 SO o1 x2 h1_0 (I x1) h1_2
 else
 none
attribute [go_sem] T5
theorem Z3l (DC:Fn) (x0 x1 x2 x3:Int):Qo6 DC [I x0,I x1,I x2,I x3]=
 (DC [I x3]).bind fun o1=>
 bif bA o1 3 then
 bif decide (gA o1 0=(↑0:Int))then
 T5 o1 x2 x1 (I 0) (I 0) (I x0)
 else
 bif decide (gA o1 0=(↑(0+1):Int))then
 T5 o1 x2 x1 (I x0) (I 0) (I 0)
 else
 bif decide (gA o1 0=(↑(0+1+1):Int))then
 T5 o1 x2 x1 (I 0) (I x0) (I 0)
 else
 none
 else
 some [I 0,I 0,I 0]:=by kernel_rfl
def Ov:=Qo6 Ff
theorem Zhh:Ai PG (Qnx Ff):=Ao rfl ⟨Qon,trivial⟩
theorem Zia:Aj PG (207,Ac Uq Qpk Ov):=rw1 (C:=(Qnx Ff)) Zhh
def Qaf:Sk:=⟨[TS.v true [ci,ci,ci],tf [ci]],[],[]⟩
def Qpw:Sk:=⟨[TS.tup [(false,[ci]),(false,[ci]),(false,[ci])]],[],[]⟩
def Qtr (M:Fn):Nat×Spec:=(203,Ac Qaf Qpw M)
def Qij (DC:Fn):Cfg:=cf [Wr DC]
def Qda (DC:Fn):Fn:=Am PG (Qij DC) 64 203 Qaf Qpw
abbrev Um (o1:List AC) (h1_0:AC) (x0 x1 x2:Int) (h2_0:AC):Option (List AC):=
 bif decide (gA o1 2=(↑0:Int))then
 some [h1_0,h2_0,I x0]
 else
 bif decide (gA o1 2=(↑(0+1):Int))then
 some [h1_0,h2_0,I x1]
 else
 bif decide (gA o1 2=(↑(0+1+1):Int))then
 some [h1_0,h2_0,I x2]
 else
 none
attribute [go_sem] Um
abbrev SE (o1:List AC) (x0 x1 x2:Int) (h1_0:AC):Option (List AC):=
 bif decide (gA o1 1=(↑0:Int))then
 Um o1 h1_0 x0 x1 x2 (I x0)
 else
 bif decide (gA o1 1=(↑(0+1):Int))then
 Um o1 h1_0 x0 x1 x2 (I x1)
 else
 bif decide (gA o1 1=(↑(0+1+1):Int))then
 Um o1 h1_0 x0 x1 x2 (I x2)
 else
 none
attribute [go_sem] SE
theorem Zwk (DC:Fn) (x0 x1 x2 x3:Int):Qda DC [I x0,I x1,I x2,I x3]=
 (DC [I x3]).bind fun o1=>
 bif !bA o1 3 then
 some [I 0,I 0,I 0]
 else
 bif decide (gA o1 0=(↑0:Int))then
 SE o1 x0 x1 x2 (I x0)
 else
 bif decide (gA o1 0=(↑(0+1):Int))then
 SE o1 x0 x1 x2 (I x1)
 else
 bif decide (gA o1 0=(↑(0+1+1):Int))then
 SE o1 x0 x1 x2 (I x2)
 else
 none:=by kernel_rfl
def Im:=Qda Ff
theorem Zgg:Ai PG (Qij Ff):=Ao rfl ⟨Qon,trivial⟩
theorem Qx2:Aj PG (203,Ac Qaf Qpw Im):=rw1 (C:=(Qij Ff)) Zgg
def Qmi:Sk:=⟨[TS.v true [ci,ci,ci]],[],[]⟩
def Qej:Sk:=⟨[TS.v true [ci,ci,ci]],[],[]⟩
def Qto (M:Fn):Nat×Spec:=(204,Ac Qmi Qej M)
def Qdl:Cfg:=cf []
def Q3n:Fn:=Am PG Qdl 64 204 Qmi Qej
theorem Zdc (x0 x1 x2:Int):Q3n [I x0,I x1,I x2]=
 some [I (wrap .i64 (x0*16)),I (wrap .i64 (x1*16)),I (wrap .i64 (x2*16))]:=by kernel_rfl
def Hs:=Q3n
theorem Zn3:Ai PG (Qdl):=Ao rfl trivial
theorem Q6n:Aj PG (204,Ac Qmi Qej Hs):=rw1 (C:=Qdl) Zn3
def X8:Sk:=⟨[TS.v true [ci,ci,ci,ci],TS.v true [ci,ci,ci,ci]],[],[]⟩
def Qal:Sk:=⟨[tf [ci]],[],[]⟩
def XX (M:Fn):Nat×Spec:=(192,Ac X8 Qal M)
def Qjm:Cfg:=cf []
def Qzu:Fn:=Am PG Qjm 64 192 X8 Qal
theorem Zj7 (x0 x1 x2 x3 x4 x5 x6 x7:Int):Qzu [I x0,I x1,I x2,I x3,I x4,I x5,I x6,I x7]=
 some [I (wrap .i64 (wrap .i64 (x0*x5)-wrap .i64 (x1*x4)))]:=by kernel_rfl
def GI:=Qzu
theorem Z68:Ai PG (Qjm):=Ao rfl trivial
theorem Qqm:Aj PG (192,Ac X8 Qal GI):=rw1 (C:=Qjm) Z68
def Qj5:Sk:=⟨[TS.v true [ci,ci,ci,ci],TS.v true [ci,ci,ci,ci]],[],[]⟩
def Qc6:Sk:=⟨[tf [ci]],[],[]⟩
def Qqr (M:Fn):Nat×Spec:=(190,Ac Qj5 Qc6 M)
def WY:Cfg:=cf []
def Q2z:Fn:=Am PG WY 64 190 Qj5 Qc6
theorem Zvi (x0 x1 x2 x3 x4 x5 x6 x7:Int):Q2z [I x0,I x1,I x2,I x3,I x4,I x5,I x6,I x7]=
 some [I (wrap .i64 (wrap .i64 (x0*x4)+wrap .i64 (x1*x5)))]:=by kernel_rfl
def GS:=Q2z
theorem Zez:Ai PG (WY):=Ao rfl trivial
theorem Qfb:Aj PG (190,Ac Qj5 Qc6 GS):=rw1 (C:=WY) Zez
def XW:Sk:=⟨[TS.v true [ci,ci,ci,ci],TS.v true [ci,ci,ci,ci],tf [ci],tf [CS.bool]],[],[]⟩
def Qib:Sk:=⟨[TS.tup [(true,[ci,ci,ci,ci]),(false,[CS.bool])]],[],[]⟩
def Zo6 (M:Fn):Nat×Spec:=(218,Ac XW Qib M)
def Qma (Cb Cr B2:Fn):Cfg:=cf [Qsn Cb,XX Cr,Qqr B2]
def VP (Cb Cr B2:Fn):Fn:=Am PG (Qma Cb Cr B2) 64 218 XW Qib
abbrev Qdo (Cb:Fn) (h1_2:AC) (x2 x6:Int) (h1_3 h1_4:AC) (x3 x7:Int):Option (List AC):=
 (Cb [h1_2,I ((wrap .i64 (wrap .i64 (x2+x6)+1)).fdiv (2^min (Int.toNat 1) IntKind.i64.bits)),h1_3,I 2]).bind fun o36=>
 (Cb [h1_4,I ((wrap .i64 (wrap .i64 (x2+x6)+1)).fdiv (2^min (Int.toNat 1) IntKind.i64.bits)),h1_3,I 2]).bind fun o37=>
 some [jA o36 0,jA o37 0,I ((wrap .i64 (wrap .i64 (x2+x6)+1)).fdiv (2^min (Int.toNat 1) IntKind.i64.bits)),I ((wrap .i64 (wrap .i64 (x3+x7)+1)).fdiv (2^min (Int.toNat 1) IntKind.i64.bits)),B true]
attribute [go_sem] Qdo
abbrev Ps (Cb:Fn) (x2 x6 x3 x7:Int) (h1_0 h1_1:Bool) (h1_2 h1_3 h1_4:AC):Option (List AC):=
 bif h1_0 then
 bif h1_1 then
 some [I 0,I 0,I 0,I 0,B false]
 else
 Qdo Cb h1_2 x2 x6 h1_3 h1_4 x3 x7
 else
 Qdo Cb h1_2 x2 x6 h1_3 h1_4 x3 x7
attribute [go_sem] Ps
abbrev Qlc (x9:Bool) (Cb:Fn) (x2 x6 x3 x7 x0 x1:Int) (B2:Fn) (x4 x5 x8:Int) (Cr:Fn):Option (List AC):=
 bif x9 then
 Ps Cb x2 x6 x3 x7 (wrap .i64 (0-x0)==0) (wrap .i64 (0-x1)==0) (I (wrap .i64 (0-x0))) (I (wrap .i64 (wrap .i64 (wrap .i64 (0-x0)*wrap .i64 (0-x0))+wrap .i64 (wrap .i64 (0-x1)*wrap .i64 (0-x1))))) (I (wrap .i64 (0-x1)))
 else
 (B2 [I x0,I x1,I x2,I x3,I x4,I x5,I x6,I x7]).bind fun o40=>
 bif decide (gA o40 0<=0)then
 Ps Cb x2 x6 x3 x7 (wrap .i64 (x8*wrap .i64 (x5-x1))==0) (wrap .i64 (x8*wrap .i64 (x0-x4))==0) (I (wrap .i64 (x8*wrap .i64 (x5-x1)))) (I (wrap .i64 (wrap .i64 (wrap .i64 (x8*wrap .i64 (x5-x1))*wrap .i64 (x8*wrap .i64 (x5-x1)))+wrap .i64 (wrap .i64 (x8*wrap .i64 (x0-x4))*wrap .i64 (x8*wrap .i64 (x0-x4)))))) (I (wrap .i64 (x8*wrap .i64 (x0-x4))))
 else
 (Cr [I x0,I x1,I x2,I x3,I x4,I x5,I x6,I x7]).bind fun o45=>
 bif decide (wrap .i64 (gA o45 0*x8)<=0)then
 Ps Cb x2 x6 x3 x7 (wrap .i64 (0-wrap .i64 (x0+x4))==0) (wrap .i64 (0-wrap .i64 (x1+x5))==0) (I (wrap .i64 (0-wrap .i64 (x0+x4)))) (I (wrap .i64 (wrap .i64 (wrap .i64 (0-wrap .i64 (x0+x4))*wrap .i64 (0-wrap .i64 (x0+x4)))+wrap .i64 (wrap .i64 (0-wrap .i64 (x1+x5))*wrap .i64 (0-wrap .i64 (x1+x5)))))) (I (wrap .i64 (0-wrap .i64 (x1+x5))))
 else
 Ps Cb x2 x6 x3 x7 (wrap .i64 (x0+x4)==0) (wrap .i64 (x1+x5)==0) (I (wrap .i64 (x0+x4))) (I (wrap .i64 (wrap .i64 (wrap .i64 (x0+x4)*wrap .i64 (x0+x4))+wrap .i64 (wrap .i64 (x1+x5)*wrap .i64 (x1+x5))))) (I (wrap .i64 (x1+x5)))
attribute [go_sem] Qlc
theorem Z4l (Cb Cr B2:Fn) (x0 x1 x2 x3 x4 x5 x6 x7 x8:Int) (x9:Bool):VP Cb Cr B2 [I x0,I x1,I x2,I x3,I x4,I x5,I x6,I x7,I x8,B x9]=
 bif x8 !=1 then
 bif x8 != -1 then
 some [I 0,I 0,I 0,I 0,B false]
 else
 Qlc x9 Cb x2 x6 x3 x7 x0 x1 B2 x4 x5 x8 Cr
 else
 Qlc x9 Cb x2 x6 x3 x7 x0 x1 B2 x4 x5 x8 Cr:=by kernel_rfl
def KI:=VP If GI GS
theorem Z40:Ai PG (Qma If GI GS):=Ao rfl ⟨Q83,Qqm,Qfb,trivial⟩
theorem Zbg:Aj PG (218,Ac XW Qib KI):=rw1 (C:=(Qma If GI GS)) Z40
def Qf5:Sk:=⟨[tf [ci],tf [ci]],[],[]⟩
def Qkj:Sk:=⟨[tf [CS.bool]],[],[]⟩
def Zi2 (M:Fn):Nat×Spec:=(223,Ac Qf5 Qkj M)
def Vw:Cfg:=cf []
def Qrc:Fn:=Am PG Vw 64 223 Qf5 Qkj
theorem Zid (x0 x1:Int):Qrc [I x0,I x1]=
 some [B (decide (x1<=wrap .i64 (wrap .i64 (wrap .i64 (8*x0)*4)-64)))]:=by kernel_rfl
def Ml:=Qrc
theorem Ztt:Ai PG (Vw):=Ao rfl trivial
theorem Zcx:Aj PG (223,Ac Qf5 Qkj Ml):=rw1 (C:=Vw) Ztt
def Qmq:Sk:=⟨[tf [CS.ptr 20000 0],TS.v true [ci,ci,ci,ci],TS.v true [ci,ci,ci,ci],tf [CS.bool]],[(20000,254,[ci,CS.own 20000 4])],[(20000,231,[kI,kI,kI,kI])]⟩
def Qdu:Sk:=⟨[tf [CS.bool]],[(20000,254,[ci,CS.own 20000 4])],[(20000,231,[kI,kI,kI,kI])]⟩
def Ztm (M:Fn):Nat×Spec:=(217,Ac Qmq Qdu M)
def Xh (OZ Cr:Fn):Cfg:=cf [Zi2 OZ,XX Cr]
def Qet (OZ Cr:Fn):Fn:=Am PG (Xh OZ Cr) 64 217 Qmq Qdu
theorem Zg4 (OZ Cr:Fn) (x0:Rw) (x1 x2 x3 x4 x5 x6 x7 x8:Int) (x9:Bool) (x10:Int):Qet OZ Cr [.view [kI,kI,kI,kI] x0,I x1,I x2,I x3,I x4,I x5,I x6,I x7,I x8,B x9,I x10]=
 bif !x9 then
 (Cr [I x1,I x2,I x3,I x4,I x5,I x6,I x7,I x8]).bind fun o2=>
 bif decide (wrap .i64 (gA o2 0*x10)>0)then
 (OZ [I (mn x3 x7),I (wrap .i64 (wrap .i64 (wrap .i64 (x1-x5)*wrap .i64 (x1-x5))+wrap .i64 (wrap .i64 (x2-x6)*wrap .i64 (x2-x6))))]).bind fun o3=>
 some [.view [kI,kI,kI,kI] x0,B (bA o3 0),I x10]
 else
 some [.view [kI,kI,kI,kI] x0,B false,I x10]
 else
 some [.view [kI,kI,kI,kI] x0,B false,I x10]:=by kernel_rfl
def Lo:=Qet Ml GI
theorem Zgf:Ai PG (Xh Ml GI):=Ao rfl ⟨Zcx,Qqm,trivial⟩
theorem Znx:Aj PG (217,Ac Qmq Qdu Lo):=rw1 (C:=(Xh Ml GI)) Zgf
def Q70:Nat:=20
def LJ:Sk:=⟨[tf [CS.ptr 20000 0],TS.v true [ci,ci,ci,ci],TS.v true [ci,ci,ci,ci],tf [CS.bool],tf [ci]],[(20000,254,[ci,CS.own 20000 4])],[(20000,231,[kI,kI,kI,kI])]⟩
def KJ:Sk:=⟨[TS.tup []],[(20000,254,[ci,CS.own 20000 4])],[(20000,231,[kI,kI,kI,kI])]⟩
def Q6x (M:Fn):Nat×Spec:=(212,Ac LJ KJ M)
def VH (Fh NM Nb:Fn):Cfg:=cp [Q6x Fh,Zo6 NM,Ztm Nb] [212,217]
def Rk (Fh NM Nb:Fn):Fn:=Am PG (VH Fh NM Nb) 64 212 LJ KJ
theorem Zar (Fh NM Nb:Fn) (x0:Rw) (x1 x2 x3 x4 x5 x6 x7 x8:Int) (x9:Bool) (x10 x11:Int):Rk Fh NM Nb [.view [kI,kI,kI,kI] x0,I x1,I x2,I x3,I x4,I x5,I x6,I x7,I x8,B x9,I x10,I x11]=
 bif decide (x10<16)then
 (Nb [.view [kI,kI,kI,kI] x0,I x1,I x2,I x3,I x4,I x5,I x6,I x7,I x8,B x9,I x11]).bind fun o4=>
 bif !bA o4 1 then
 (NM [I x1,I x2,I x3,I x4,I x5,I x6,I x7,I x8,jA o4 2,B x9]).bind fun o5=>
 bif bA o5 4 then
 (Fh [.view [kI,kI,kI,kI] (wA o4 0),I x1,I x2,I x3,I x4,jA o5 0,jA o5 1,jA o5 2,jA o5 3,B false,I (wrap .i64 (x10+1)),jA o4 2]).bind fun o6=>
 (Fh [.view [kI,kI,kI,kI] (wA o6 0),jA o5 0,jA o5 1,jA o5 2,jA o5 3,I x5,I x6,I x7,I x8,B false,I (wrap .i64 (x10+1)),jA o6 1]).bind fun o7=>
 some [.view [kI,kI,kI,kI] (wA o7 0),jA o7 1]
 else
 bif((wA o4 0++[[I x5,I x6,I x7,I x8]]).length*32).ble 140737488355328 then
 some [.view [kI,kI,kI,kI] (wA o4 0++[[I x5,I x6,I x7,I x8]]),jA o4 2]
 else
 none
 else
 bif((wA o4 0++[[I x5,I x6,I x7,I x8]]).length*32).ble 140737488355328 then
 some [.view [kI,kI,kI,kI] (wA o4 0++[[I x5,I x6,I x7,I x8]]),jA o4 2]
 else
 none
 else
 bif((x0++[[I x5,I x6,I x7,I x8]]).length*32).ble 140737488355328 then
 some [.view [kI,kI,kI,kI] (x0++[[I x5,I x6,I x7,I x8]]),I x11]
 else
 none:=by kernel_rfl
def Q9y (M:Fn):Fn:=Rk M KI Lo
def O1:Nat->Fn
 |0=>fun _=>none
 |n+1=>Q9y (O1 n)
theorem Zlf {M:Fn} (h:Aj PG (212,Ac LJ KJ M)):Ai PG (VH M KI Lo):=Ao rfl ⟨h,Zbg,Znx,trivial⟩
theorem Zof {M:Fn} (h:Aj PG (212,Ac LJ KJ M)):Aj PG (212,Ac LJ KJ (Q9y M)):=Qff (C:=(VH M KI Lo)) (L:=64) (by kernel_rfl) (FnOK.bare rfl rfl rfl) (Zlf h) eqOk Ig (by kernel_rfl) (by kernel_rfl)
theorem Qsu:∀n,Aj PG (212,Ac LJ KJ (O1 n))
 |0=>QO
 |n+1=>Zof (Qsu n)
def T2:=O1 Q70
theorem Zxn:Aj PG (212,Ac LJ KJ T2):=Qsu Q70
def Qf9:Sk:=⟨[TS.v true (cc 13++[CS.bool,ci,CS.bool]++cc 5++[CS.bool])],[],[]⟩
def Qka:Sk:=⟨[TS.tup [(true,[ci,ci,ci,ci]),(true,[ci,ci,ci,ci])]],[],[]⟩
def Qww (M:Fn):Nat×Spec:=(189,Ac Qf9 Qka M)
def Qd2 (BZ BN:Fn):Cfg:=cf [Qtr BZ,Qto BN]
def Qtx:Sk:=⟨[td,tf [CS.ptr 1 0],tf [CS.ptr 2 0],tf [CS.ptr 3 0],tf [CS.ptr 4 0],tf [ci],tf [ci]]++dd 20++[TS.v true (cc 6),tf [ci]]++dd 27,[(1,74,cc 13++[CS.bool,ci,CS.bool]++cc 5++[CS.bool]),(2,231,[ci,ci,ci,ci]),(3,231,[ci,ci,ci,ci]),(4,242,cc 8)],[]⟩
def Qyb:List (Ex×Sk):=[(Ex.exit 0,⟨[td,td,tf [CS.ptr 2 0],tf [CS.ptr 3 0],tf [CS.ptr 4 0]]++dd 51,[(2,231,[ci,ci,ci,ci]),(3,231,[ci,ci,ci,ci]),(4,242,cc 8)],[]⟩)]
def Xw (BZ BN:Fn):Lp:=AT PG (Qd2 BZ BN) 64 4 (AU PG 189 4) Qtx Qyb
def Qvb (BZ BN:Fn) (N4:Lp):Cfg:=(Qd2 BZ BN).loop 4 Qtx Qyb N4
def Qob (BZ BN:Fn) (N4:Lp):Fn:=Am PG (Qvb BZ BN N4) 64 189 Qf9 Qka
abbrev WD (BN BZ:Fn) (v17 v8 v0 v1 v2 v3 v4 v5 v6 v7 v9 v10 v11 v12 v13 v14 v15 v16 v18 v19 v20 v21:Int) (v22:Bool) (v23:Int) (v24:Bool) (v25 v26 v27 v28 v29:Int) (v30:Bool) (v31 v32 v33 v34 v35 v36 v37 v38 v43 v44 v45 v46 v39 v40 v41 v42:Int) (h1_0 h1_1 h1_2:AC):Option (Nat×List AC):=
 (BN [h1_0,h1_1,h1_2]).bind fun o9=>
 (BZ [jA o9 0,jA o9 1,jA o9 2,I v17]).bind fun o10=>
 bif decide (v8=(↑0:Int))then
 some (0,[I v0,I v1,I v2,I v3,I v4,I v5,I v6,I v7,I (wrap .i64 (v8+1)),I v9,I v10,I v11,I v12,I v13,I v14,I v15,I v16,I v17,I v18,I v19,I v20,I v21,B v22,I v23,B v24,I v25,I v26,I v27,I v28,I v29,B v30,I v31,I v32,I v33,I v34,I v35,I v36,I v37,I v38,I (wrap .i64 (gA o10 0-v0)),I (wrap .i64 (gA o10 1-v1)),I 0,jA o10 2,I v43,I v44,I v45,I v46])
 else
 bif decide (v8=(↑(0+1):Int))then
 some (0,[I v0,I v1,I v2,I v3,I v4,I v5,I v6,I v7,I (wrap .i64 (v8+1)),I v9,I v10,I v11,I v12,I v13,I v14,I v15,I v16,I v17,I v18,I v19,I v20,I v21,B v22,I v23,B v24,I v25,I v26,I v27,I v28,I v29,B v30,I v31,I v32,I v33,I v34,I v35,I v36,I v37,I v38,I v39,I v40,I v41,I v42,I (wrap .i64 (gA o10 0-v0)),I (wrap .i64 (gA o10 1-v1)),I 0,jA o10 2])
 else
 none
attribute [go_sem] WD
theorem Qhn (BZ BN:Fn) (v0 v1 v2 v3 v4 v5 v6 v7 v8 v9 v10 v11 v12 v13 v14 v15 v16 v17 v18 v19 v20 v21:Int) (v22:Bool) (v23:Int) (v24:Bool) (v25 v26 v27 v28 v29:Int) (v30:Bool) (v31 v32 v33 v34 v35 v36 v37 v38 v39 v40 v41 v42 v43 v44 v45 v46:Int):Xw BZ BN [I v0,I v1,I v2,I v3,I v4,I v5,I v6,I v7,I v8,I v9,I v10,I v11,I v12,I v13,I v14,I v15,I v16,I v17,I v18,I v19,I v20,I v21,B v22,I v23,B v24,I v25,I v26,I v27,I v28,I v29,B v30,I v31,I v32,I v33,I v34,I v35,I v36,I v37,I v38,I v39,I v40,I v41,I v42,I v43,I v44,I v45,I v46]=
 bif decide (v8<2)then
 bif decide (v8=(↑0:Int))then
 WD BN BZ v17 v8 v0 v1 v2 v3 v4 v5 v6 v7 v9 v10 v11 v12 v13 v14 v15 v16 v18 v19 v20 v21 v22 v23 v24 v25 v26 v27 v28 v29 v30 v31 v32 v33 v34 v35 v36 v37 v38 v43 v44 v45 v46 v39 v40 v41 v42 (I v2) (I v3) (I v4)
 else
 bif decide (v8=(↑(0+1):Int))then
 WD BN BZ v17 v8 v0 v1 v2 v3 v4 v5 v6 v7 v9 v10 v11 v12 v13 v14 v15 v16 v18 v19 v20 v21 v22 v23 v24 v25 v26 v27 v28 v29 v30 v31 v32 v33 v34 v35 v36 v37 v38 v43 v44 v45 v46 v39 v40 v41 v42 (I v5) (I v6) (I v7)
 else
 none
 else
 some (1,[I v31,I v32,I v33,I v34,I v35,I v36,I v37,I v38,I v39,I v40,I v41,I v42,I v43,I v44,I v45,I v46]):=by kernel_rfl
theorem Z42 (BZ BN:Fn) (N4:Lp) (x0 x1 x2 x3 x4 x5 x6 x7 x8 x9 x10 x11 x12:Int) (x13:Bool) (x14:Int) (x15:Bool) (x16 x17 x18 x19 x20:Int) (x21:Bool):Qob BZ BN N4 [I x0,I x1,I x2,I x3,I x4,I x5,I x6,I x7,I x8,I x9,I x10,I x11,I x12,B x13,I x14,B x15,I x16,I x17,I x18,I x19,I x20,B x21]=
 (BN [I x9,I x10,I x11]).bind fun o13=>
 (BZ [jA o13 0,jA o13 1,jA o13 2,I x8]).bind fun o14=>
 (N4 [jA o14 0,jA o14 1,I x2,I x3,I x4,I x5,I x6,I x7,I 0,I x0,I x1,I x2,I x3,I x4,I x5,I x6,I x7,I x8,I x9,I x10,I x11,I x12,B x13,I x14,B x15,I x16,I x17,I x18,I x19,I x20,B x21,I 0,I 0,I 0,I 0,I 0,I 0,I 0,I 0,I 0,I 0,I 0,I 0,I 0,I 0,I 0,I 0]).bind fun o15=>
 bif o15.1.beq 1 then
 some [jA o15.2 8,jA o15.2 9,jA o15.2 10,jA o15.2 11,jA o15.2 12,jA o15.2 13,jA o15.2 14,jA o15.2 15]
 else
 none:=by kernel_rfl
def Q2d:=An (Xw Im Hs)
def J7:=Qob Im Hs Q2d
theorem Q0g:Ai PG (Qd2 Im Hs):=Ao rfl ⟨Qx2,Q6n,trivial⟩
theorem Q5f:Aj PG (189,Ac Qf9 Qka J7):=rw2 (C:=(Qvb Im Hs Q2d)) (fl fb Q0g) Q0g
def Qpj:Sk:=⟨[tf [ci],tf [ci],tf [ci],tf [ci]],[],[]⟩
def Qbu:Sk:=⟨[tf [ci]],[],[]⟩
def Zgv (M:Fn):Nat×Spec:=(205,Ac Qpj Qbu M)
def Ql5 (DU Bw B_ CY:Fn):Cfg:=cf [Qs8 DU,Rn Bw,WB B_,ZB CY]
def Qg9 (DU Bw B_ CY:Fn):Fn:=Am PG (Ql5 DU Bw B_ CY) 64 205 Qpj Qbu
theorem Z6i (DU Bw B_ CY:Fn) (x0 x1 x2 x3:Int):Qg9 DU Bw B_ CY [I x0,I x1,I x2,I x3]=
 (CY [I x0,I x1]).bind fun o9=>
 (CY [I x2,I x3]).bind fun o10=>
 bif gA o9 0 !=gA o10 0 then
 bif decide (gA o9 0<gA o10 0)then
 some [I (-1)]
 else
 some [I 1]
 else
 (B_ [I x0]).bind fun o11=>
 (B_ [I x1]).bind fun o12=>
 (Bw [U (gA o11 0),U (gA o12 0)]).bind fun o13=>
 (B_ [I x2]).bind fun o14=>
 (B_ [I x3]).bind fun o15=>
 (Bw [U (gA o14 0),U (gA o15 0)]).bind fun o16=>
 (DU [U (gA o13 0),U (gA o13 1),U (gA o16 0),U (gA o16 1)]).bind fun o17=>
 some [I (wrap .i64 (gA o9 0*gA o17 0))]:=by kernel_rfl
def OF:=Qg9 In Ea FT Ft
theorem Zqo:Ai PG (Ql5 In Ea FT Ft):=Ao rfl ⟨Q7m,Sl,VL,Qo4,trivial⟩
theorem Zy3:Aj PG (205,Ac Qpj Qbu OF):=rw1 (C:=(Ql5 In Ea FT Ft)) Zqo
def Wu:Sk:=⟨[tf [ci],tf [ci]],[],[]⟩
def Qgh:Sk:=⟨[tf [CS.bool]],[],[]⟩
def Zzz (M:Fn):Nat×Spec:=(191,Ac Wu Qgh M)
def Qn9 (NY:Fn):Cfg:=cf [Zgv NY]
def Qfc (NY:Fn):Fn:=Am PG (Qn9 NY) 64 191 Wu Qgh
theorem Z7f (NY:Fn) (x0 x1:Int):Qfc NY [I x0,I x1]=
 bif decide (wrap .i64 (wrap .i64 (mx x0 x1-mn x0 x1)-16)<=0)then
 some [B true]
 else
 (NY [I (wrap .i64 (wrap .i64 (mx x0 x1-mn x0 x1)-16)),I (wrap .i64 (wrap .i64 (mx x0 x1-mn x0 x1)-16)),I 64,I (mn x0 x1)]).bind fun o1=>
 some [B (decide (gA o1 0<=0))]:=by kernel_rfl
def Pq:=Qfc OF
theorem Zfw:Ai PG (Qn9 OF):=Ao rfl ⟨Zy3,trivial⟩
theorem Z1h:Aj PG (191,Ac Wu Qgh Pq):=rw1 (C:=(Qn9 OF)) Zfw
def Qmv:Sk:=⟨[TS.v true [ci,ci,ci]],[],[]⟩
def Qh5:Sk:=⟨[tf [CS.bool]],[],[]⟩
def Z0z (M:Fn):Nat×Spec:=(187,Ac Qmv Qh5 M)
def Qad:Cfg:={cf []with unroll:=[2]}
def Qyd:Fn:=Am PG Qad 64 187 Qmv Qh5
theorem Z05 (x0 x1 x2:Int):Qyd [I x0,I x1,I x2]=
 bif decide (x0< -1048576)then
 some [B false]
 else
 bif decide (x0>1048576)then
 some [B false]
 else
 bif decide (x1< -1048576)then
 some [B false]
 else
 bif decide (x1>1048576)then
 some [B false]
 else
 bif decide (x2< -1048576)then
 some [B false]
 else
 bif decide (x2>1048576)then
 some [B false]
 else
 some [B true]:=by kernel_rfl
def O_:=Qyd
theorem Zvr:Ai PG (Qad):=Ao rfl trivial
theorem Ze8:Aj PG (187,Ac Qmv Qh5 O_):=rw1 (C:=Qad) Zvr
def Qh4:Sk:=⟨[TS.v true (cc 13++[CS.bool,ci,CS.bool]++cc 5++[CS.bool])],[],[]⟩
def Qkd:Sk:=⟨[tf [CS.bool]],[],[]⟩
def Qoi (M:Fn):Nat×Spec:=(167,Ac Qh4 Qkd M)
def Qci (Cr IR B2 EK DC Ht:Fn):Cfg:=cf [XX Cr,Zzz IR,Qqr B2,Qww EK,Wr DC,Z0z Ht]
def ZN (Cr IR B2 EK DC Ht:Fn):Fn:=Am PG (Qci Cr IR B2 EK DC Ht) 64 167 Qh4 Qkd
abbrev Qax (Ht:Fn) (x9 x10 x11:Int) (EK:Fn) (x0 x1 x2 x3 x4 x5 x6 x7 x8 x12:Int) (x13:Bool) (x14:Int) (x15:Bool) (x16 x17 x18 x19 x20:Int) (x21:Bool) (B2 IR Cr:Fn):Option (List AC):=
 (Ht [I x9,I x10,I x11]).bind fun o20=>
 bif !bA o20 0 then
 some [B false]
 else
 (EK [I x0,I x1,I x2,I x3,I x4,I x5,I x6,I x7,I x8,I x9,I x10,I x11,I x12,B x13,I x14,B x15,I x16,I x17,I x18,I x19,I x20,B x21]).bind fun o21=>
 (B2 [jA o21 0,jA o21 1,jA o21 2,jA o21 3,jA o21 0,jA o21 1,jA o21 2,jA o21 3]).bind fun o22=>
 (B2 [jA o21 4,jA o21 5,jA o21 6,jA o21 7,jA o21 4,jA o21 5,jA o21 6,jA o21 7]).bind fun o23=>
 bif decide (gA o22 0<wrap .i64 (128*128))then
 some [B false]
 else
 bif decide (gA o23 0<wrap .i64 (128*128))then
 some [B false]
 else
 (IR [I (wrap .i64 ((gA o22 0).tdiv 256)),I (wrap .i64 ((gA o23 0).tdiv 256))]).bind fun o24=>
 bif !bA o24 0 then
 some [B false]
 else
 bif x13 then
 bif gA o21 0==gA o21 4 then
 some [B (gA o21 1==gA o21 5)]
 else
 some [B false]
 else
 (Cr [jA o21 0,jA o21 1,jA o21 2,jA o21 3,jA o21 4,jA o21 5,jA o21 6,jA o21 7]).bind fun o25=>
 bif gA o25 0 !=0 then
 some [B true]
 else
 (B2 [jA o21 0,jA o21 1,jA o21 2,jA o21 3,jA o21 4,jA o21 5,jA o21 6,jA o21 7]).bind fun o26=>
 some [B (decide (gA o26 0<0))]
attribute [go_sem] Qax
theorem Zhz (Cr IR B2 EK DC Ht:Fn) (x0 x1 x2 x3 x4 x5 x6 x7 x8 x9 x10 x11 x12:Int) (x13:Bool) (x14:Int) (x15:Bool) (x16 x17 x18 x19 x20:Int) (x21:Bool):ZN Cr IR B2 EK DC Ht [I x0,I x1,I x2,I x3,I x4,I x5,I x6,I x7,I x8,I x9,I x10,I x11,I x12,B x13,I x14,B x15,I x16,I x17,I x18,I x19,I x20,B x21]=
 bif decide (x0<1)then
 some [B false]
 else
 bif decide (x0>6)then
 some [B false]
 else
 (Ht [I x2,I x3,I x4]).bind fun o17=>
 bif !bA o17 0 then
 some [B false]
 else
 (Ht [I x5,I x6,I x7]).bind fun o18=>
 bif !bA o18 0 then
 some [B false]
 else
 bif x0 !=3 then
 some [B true]
 else
 (DC [I x8]).bind fun o19=>
 bif !bA o19 3 then
 some [B false]
 else
 bif x12 !=1 then
 bif x12 != -1 then
 some [B false]
 else
 Qax Ht x9 x10 x11 EK x0 x1 x2 x3 x4 x5 x6 x7 x8 x12 x13 x14 x15 x16 x17 x18 x19 x20 x21 B2 IR Cr
 else
 Qax Ht x9 x10 x11 EK x0 x1 x2 x3 x4 x5 x6 x7 x8 x12 x13 x14 x15 x16 x17 x18 x19 x20 x21 B2 IR Cr:=by kernel_rfl
def GE:=ZN GI Pq GS J7 Ff O_
theorem Zga:Ai PG (Qci GI Pq GS J7 Ff O_):=Ao rfl ⟨Qqm,Z1h,Qfb,Q5f,Qon,Ze8,trivial⟩
theorem Qq0:Aj PG (167,Ac Qh4 Qkd GE):=rw1 (C:=(Qci GI Pq GS J7 Ff O_)) Zga
def Qn3:Sk:=⟨[TS.v true (cc 13++[CS.bool,ci,CS.bool]++cc 5++[CS.bool])],[],[]⟩
def Qb5:Sk:=⟨[TS.tup [(false,[CS.sl [kI,kI,kI,kI]]),(false,[CS.bool])]],[],[]⟩
def Zch (M:Fn):Nat×Spec:=(206,Ac Qn3 Qb5 M)
def Qeo (Fh Fj B2 EK Ct:Fn):Cfg:={cp [Q6x Fh,Q86 Fj,Qqr B2,Qww EK,Qoi Ct] [212]with rowDst:=[39]}
def UD (Fh Fj B2 EK Ct:Fn):Fn:=Am PG (Qeo Fh Fj B2 EK Ct) 64 206 Qn3 Qb5
theorem Zvw (Fh Fj B2 EK Ct:Fn) (x0 x1 x2 x3 x4 x5 x6 x7 x8 x9 x10 x11 x12:Int) (x13:Bool) (x14:Int) (x15:Bool) (x16 x17 x18 x19 x20:Int) (x21:Bool):UD Fh Fj B2 EK Ct [I x0,I x1,I x2,I x3,I x4,I x5,I x6,I x7,I x8,I x9,I x10,I x11,I x12,B x13,I x14,B x15,I x16,I x17,I x18,I x19,I x20,B x21]=
 bif x0 !=3 then
 some [.view [kI,kI,kI,kI] [],B false]
 else
 (Ct [I x0,I x1,I x2,I x3,I x4,I x5,I x6,I x7,I x8,I x9,I x10,I x11,I x12,B x13,I x14,B x15,I x16,I x17,I x18,I x19,I x20,B x21]).bind fun o7=>
 bif !bA o7 0 then
 some [.view [kI,kI,kI,kI] [],B false]
 else
 (EK [I x0,I x1,I x2,I x3,I x4,I x5,I x6,I x7,I x8,I x9,I x10,I x11,I x12,B x13,I x14,B x15,I x16,I x17,I x18,I x19,I x20,B x21]).bind fun o8=>
 (B2 [jA o8 0,jA o8 1,jA o8 2,jA o8 3,jA o8 0,jA o8 1,jA o8 2,jA o8 3]).bind fun o9=>
 (Fj [jA o9 0,I 2]).bind fun o10=>
 (B2 [jA o8 4,jA o8 5,jA o8 6,jA o8 7,jA o8 4,jA o8 5,jA o8 6,jA o8 7]).bind fun o11=>
 (Fj [jA o11 0,I 2]).bind fun o12=>
 (Fh [.view [kI,kI,kI,kI] [[jA o8 0,jA o8 1,jA o10 0,jA o8 3]],jA o8 0,jA o8 1,jA o10 0,jA o8 3,jA o8 4,jA o8 5,jA o12 0,jA o8 7,B x13,I 0,I x12]).bind fun o13=>
 some [.view [kI,kI,kI,kI] (wA o13 0),B true]:=by kernel_rfl
def Pa:=UD T2 IX GS J7 GE
theorem Z1d:Ai PG (Qeo T2 IX GS J7 GE):=Ao rfl ⟨Zxn,Q5p,Qfb,Q5f,Qq0,trivial⟩
theorem Zgz:Aj PG (206,Ac Qn3 Qb5 Pa):=rw1 (C:=(Qeo T2 IX GS J7 GE)) Z1d
def Qk0:Sk:=⟨[TS.v true (cc 13++[CS.bool,ci,CS.bool]++cc 5++[CS.bool])],[],[]⟩
def Qam:Sk:=⟨[TS.tup [(false,[CS.sl kPt]),(false,[CS.bool])]],[],[]⟩
def Zz1 (M:Fn):Nat×Spec:=(193,Ac Qk0 Qam M)
def Qjx (GB BZ BN G2 Ct:Fn):Cfg:=cf [Z2a GB,Qtr BZ,Qto BN,Zch G2,Qoi Ct]
def Q7d:Sk:=⟨[td,tf [CS.ptr 1 0],td,td,td,td,tf [ci],tf [ci],td,tf [CS.own 41 3]]++dd 32++[tf [CS.sl [kI,kI,kI,kI]],tf [ci],tf [ci]]++dd 22,[(1,74,cc 13++[CS.bool,ci,CS.bool]++cc 5++[CS.bool])],[(41,54,kPt)]⟩
def Q3t:List (Ex×Sk):=[(Ex.exit 0,⟨dd 9++[tf [CS.own 41 3]]++dd 57,[],[(41,54,kPt)]⟩)]
def NZ (GB BZ BN G2 Ct:Fn):Lp:=AT PG (Qjx GB BZ BN G2 Ct) 64 9 (AU PG 193 9) Q7d Q3t
def Q99 (GB BZ BN G2 Ct:Fn) (N9:Lp):Cfg:=(Qjx GB BZ BN G2 Ct).loop 9 Q7d Q3t N9
def Rf (GB BZ BN G2 Ct:Fn) (N9:Lp):Fn:=Am PG (Q99 GB BZ BN G2 Ct N9) 64 193 Qk0 Qam
theorem Qyo (GB BZ BN G2 Ct:Fn) (v0:Rw) (v1 v2:Int) (v3:Rw) (v4 v5 v6 v7 v8 v9 v10 v11 v12 v13 v14 v15 v16 v17 v18:Int) (v19:Bool) (v20:Int) (v21:Bool) (v22 v23 v24 v25 v26:Int) (v27:Bool):NZ GB BZ BN G2 Ct [.view kPt v0,I v1,I v2, .view [kI,kI,kI,kI] v3,I v4,I v5,I v6,I v7,I v8,I v9,I v10,I v11,I v12,I v13,I v14,I v15,I v16,I v17,I v18,B v19,I v20,B v21,I v22,I v23,I v24,I v25,I v26,B v27]=
 bif decide (v5<v4)then
 bif decide (0<=v5)&&decide (v5<(v3.length:Int))then
 (GB [I (wrap .i64 (v1+gA (nth [] v3 v5.toNat) 0)),I (wrap .i64 (v2+gA (nth [] v3 v5.toNat) 1)),jA (nth [] v3 v5.toNat) 3,I v14]).bind fun o14=>
 bif decide (0<=v5)&&decide (v5<(v0.length:Int))then
 some (0,[.view kPt (v0.set v5.toNat [jA o14 0,jA o14 1,jA o14 2]),I v1,I v2, .view [kI,kI,kI,kI] v3,I v4,I (wrap .i64 (v5+1)),I v6,I v7,I v8,I v9,I v10,I v11,I v12,I v13,I v14,I v15,I v16,I v17,I v18,B v19,I v20,B v21,I v22,I v23,I v24,I v25,I v26,B v27])
 else
 none
 else
 none
 else
 some (1,[.view kPt v0]):=by kernel_rfl
theorem Qgm (GB BZ BN G2 Ct:Fn) (N9:Lp) (x0 x1 x2 x3 x4 x5 x6 x7 x8 x9 x10 x11 x12:Int) (x13:Bool) (x14:Int) (x15:Bool) (x16 x17 x18 x19 x20:Int) (x21:Bool):Rf GB BZ BN G2 Ct N9 [I x0,I x1,I x2,I x3,I x4,I x5,I x6,I x7,I x8,I x9,I x10,I x11,I x12,B x13,I x14,B x15,I x16,I x17,I x18,I x19,I x20,B x21]=
 (Ct [I x0,I x1,I x2,I x3,I x4,I x5,I x6,I x7,I x8,I x9,I x10,I x11,I x12,B x13,I x14,B x15,I x16,I x17,I x18,I x19,I x20,B x21]).bind fun o15=>
 bif !bA o15 0 then
 some [.view kPt [],B false]
 else
 (G2 [I x0,I x1,I x2,I x3,I x4,I x5,I x6,I x7,I x8,I x9,I x10,I x11,I x12,B x13,I x14,B x15,I x16,I x17,I x18,I x19,I x20,B x21]).bind fun o16=>
 bif !bA o16 1 then
 (BN [I x2,I x3,I x4]).bind fun o17=>
 (BN [I x5,I x6,I x7]).bind fun o18=>
 some [.view kPt [[jA o17 0,jA o17 1,jA o17 2],[jA o18 0,jA o18 1,jA o18 2]],B true]
 else
 (BN [I x9,I x10,I x11]).bind fun o19=>
 (BZ [jA o19 0,jA o19 1,jA o19 2,I x8]).bind fun o20=>
 bif decide ((↑(wA o16 0).length:Int)=(↑(wA o16 0).length:Int))then
 bif decide (0<=(↑(wA o16 0).length:Int))&&decide ((↑(wA o16 0).length:Int)*(↑24:Int)<=140737488355328)then
 (N9 [.view kPt (List.replicate (↑(wA o16 0).length:Int).toNat [I 0,I 0,I 0]),jA o20 0,jA o20 1, .view [kI,kI,kI,kI] (wA o16 0),I (↑(wA o16 0).length:Int),I 0,I x0,I x1,I x2,I x3,I x4,I x5,I x6,I x7,I x8,I x9,I x10,I x11,I x12,B x13,I x14,B x15,I x16,I x17,I x18,I x19,I x20,B x21]).bind fun o21=>
 bif o21.1.beq 1 then
 some [.view kPt (wA o21.2 0),B true]
 else
 none
 else
 none
 else
 none:=by kernel_rfl
def Q8o:=An (NZ Ov Im Hs Pa GE)
def Qw:=Rf Ov Im Hs Pa GE Q8o
theorem Qrv:Ai PG (Qjx Ov Im Hs Pa GE):=Ao rfl ⟨Zia,Qx2,Q6n,Zgz,Qq0,trivial⟩
theorem Z3w:Aj PG (193,Ac Qk0 Qam Qw):=rw2 (C:=(Q99 Ov Im Hs Pa GE Q8o)) (fl fb Qrv) Qrv
def Qbv:Sk:=⟨[tf [CS.sl Al],tf [ci],tf [ci]],[],[]⟩
def Qgj:Sk:=⟨[tf [CS.sl kPt]],[],[]⟩
def Z04 (M:Fn):Nat×Spec:=(170,Ac Qbv Qgj M)
def X6 (BW Bo BK JL Bk NJ:Fn):Cfg:=cf [Qpp BW,V6 Bo,Qxv BK,Zpd JL,Tz Bk,Zz1 NJ]
def Qlg (BW Bo BK JL Bk NJ:Fn):Fn:=Am PG (X6 BW Bo BK JL Bk NJ) 64 170 Qbv Qgj
theorem Znp (BW Bo BK JL Bk NJ:Fn) (x0:Rw) (x1 x2:Int):Qlg BW Bo BK JL Bk NJ [.view Al x0,I x1,I x2]=
 bif decide (0<=x1)&&decide (x1<(x0.length:Int))then
 (NJ (AO Al (nth [] x0 x1.toNat))).bind fun o13=>
 (Bk (AO Al (nth [] x0 x1.toNat))).bind fun o14=>
 bif !bA o14 0 then
 some [.view kPt (wA o13 0)]
 else
 bif decide (0<=1)&&decide (1<=(↑(wA o13 0).length:Int))then
 bif decide (0<=wrap .i64 ((↑(wA o13 0).length:Int)-1))&&decide (wrap .i64 ((↑(wA o13 0).length:Int)-1)<=(↑(wA o13 0).length:Int))then
 bif decide (x2>=0)then
 bif decide (0<=x2)&&decide (x2<(x0.length:Int))then
 (JL (AO Al (nth [] x0 x2.toNat)++AO Al (nth [] x0 x1.toNat))).bind fun o15=>
 (BK [.view Al x0,I x1]).bind fun o16=>
 bif bA o16 0 then
 (Bo [.view Al x0,I x1]).bind fun o17=>
 bif decide (0<=gA o17 0)&&decide (gA o17 0<(x0.length:Int))then
 (JL (AO Al (nth [] x0 x1.toNat)++AO Al (nth [] x0 (gA o17 0).toNat))).bind fun o18=>
 bif(([]++wA o15 1).length*24).ble 140737488355328 then
 (BW (AO Al (nth [] x0 x1.toNat))).bind fun o19=>
 bif(([]++wA o15 1++[[jA o19 0,jA o19 1,jA o19 2]]).length*24).ble 140737488355328 then
 bif(([]++wA o15 1++[[jA o19 0,jA o19 1,jA o19 2]]++wA o18 0).length*24).ble 140737488355328 then
 some [.view kPt ([]++wA o15 1++[[jA o19 0,jA o19 1,jA o19 2]]++wA o18 0)]
 else
 none
 else
 none
 else
 none
 else
 none
 else
 bif(([]++wA o15 1).length*24).ble 140737488355328 then
 (BW (AO Al (nth [] x0 x1.toNat))).bind fun o20=>
 bif(([]++wA o15 1++[[jA o20 0,jA o20 1,jA o20 2]]).length*24).ble 140737488355328 then
 bif(([]++wA o15 1++[[jA o20 0,jA o20 1,jA o20 2]]++List.drop (wrap .i64 ((↑(wA o13 0).length:Int)-1)).toNat (wA o13 0)).length*24).ble 140737488355328 then
 some [.view kPt ([]++wA o15 1++[[jA o20 0,jA o20 1,jA o20 2]]++List.drop (wrap .i64 ((↑(wA o13 0).length:Int)-1)).toNat (wA o13 0))]
 else
 none
 else
 none
 else
 none
 else
 none
 else
 (BK [.view Al x0,I x1]).bind fun o21=>
 bif bA o21 0 then
 (Bo [.view Al x0,I x1]).bind fun o22=>
 bif decide (0<=gA o22 0)&&decide (gA o22 0<(x0.length:Int))then
 (JL (AO Al (nth [] x0 x1.toNat)++AO Al (nth [] x0 (gA o22 0).toNat))).bind fun o23=>
 bif(([]++List.take (Int.toNat 1) (wA o13 0)).length*24).ble 140737488355328 then
 (BW (AO Al (nth [] x0 x1.toNat))).bind fun o24=>
 bif(([]++List.take (Int.toNat 1) (wA o13 0)++[[jA o24 0,jA o24 1,jA o24 2]]).length*24).ble 140737488355328 then
 bif(([]++List.take (Int.toNat 1) (wA o13 0)++[[jA o24 0,jA o24 1,jA o24 2]]++wA o23 0).length*24).ble 140737488355328 then
 some [.view kPt ([]++List.take (Int.toNat 1) (wA o13 0)++[[jA o24 0,jA o24 1,jA o24 2]]++wA o23 0)]
 else
 none
 else
 none
 else
 none
 else
 none
 else
 bif(([]++List.take (Int.toNat 1) (wA o13 0)).length*24).ble 140737488355328 then
 (BW (AO Al (nth [] x0 x1.toNat))).bind fun o25=>
 bif(([]++List.take (Int.toNat 1) (wA o13 0)++[[jA o25 0,jA o25 1,jA o25 2]]).length*24).ble 140737488355328 then
 bif(([]++List.take (Int.toNat 1) (wA o13 0)++[[jA o25 0,jA o25 1,jA o25 2]]++List.drop (wrap .i64 ((↑(wA o13 0).length:Int)-1)).toNat (wA o13 0)).length*24).ble 140737488355328 then
 some [.view kPt ([]++List.take (Int.toNat 1) (wA o13 0)++[[jA o25 0,jA o25 1,jA o25 2]]++List.drop (wrap .i64 ((↑(wA o13 0).length:Int)-1)).toNat (wA o13 0))]
 else
 none
 else
 none
 else
 none
 else
 none
 else
 none
 else
 none:=by kernel_rfl
def Mv:=Qlg FN E1 GY Q7 Ez Qw
theorem Zvm:Ai PG (X6 FN E1 GY Q7 Ez Qw):=Ao rfl ⟨Qju,Qji,Qw5,Zoj,Sd,Z3w,trivial⟩
theorem Zne:Aj PG (170,Ac Qbv Qgj Mv):=rw1 (C:=(X6 FN E1 GY Q7 Ez Qw)) Zvm
def Qdm:Sk:=⟨[TS.v true (cc 13++[CS.bool,ci,CS.bool]++cc 5++[CS.bool]),tf [ci]],[],[]⟩
def Qoe:Sk:=⟨[tf [ci]],[],[]⟩
def Zkd (M:Fn):Nat×Spec:=(168,Ac Qdm Qoe M)
def Qpm (AI:Fn):Cfg:=cf [L3 AI]
def Wp (AI:Fn):Fn:=Am PG (Qpm AI) 64 168 Qdm Qoe
theorem Q9b (AI:Fn) (x0 x1 x2 x3 x4 x5 x6 x7 x8 x9 x10 x11 x12:Int) (x13:Bool) (x14:Int) (x15:Bool) (x16 x17 x18 x19 x20:Int) (x21:Bool) (x22:Int):Wp AI [I x0,I x1,I x2,I x3,I x4,I x5,I x6,I x7,I x8,I x9,I x10,I x11,I x12,B x13,I x14,B x15,I x16,I x17,I x18,I x19,I x20,B x21,I x22]=
 bif x0==1 then
 some [I 0]
 else
 bif x15 then
 (AI [I (mn (wrap .i64 (x14*mx x22 1)) 60000000),I 4096,I 60000,I 2]).bind fun o2=>
 some [I (mx (gA o2 0) 1)]
 else
 (AI [I (mn x14 60000000),I 4096,I 60000,I 2]).bind fun o3=>
 some [I (mx (gA o3 0) 1)]:=by kernel_rfl
def JK:=Wp Bn
theorem Zgs:Ai PG (Qpm Bn):=Ao rfl ⟨LT,trivial⟩
theorem Zii:Aj PG (168,Ac Qdm Qoe JK):=rw1 (C:=(Qpm Bn)) Zgs
def Qgs:Sk:=⟨[tf [CS.ptr 20000 0],tf [CS.sl Al],tf [ci],tf [ci]],[(20000,142,[ci,ci,ci,CS.own 20000 7,CS.own 20001 3,CS.bool,ci,ci,ci])],[(20000,162,Ag),(20001,76,kPt)]⟩
def UN:Sk:=⟨[tf [CS.bool]],[(20000,142,[ci,ci,ci,CS.own 20000 7,CS.own 20001 3,CS.bool,ci,ci,ci])],[(20000,162,Ag),(20001,76,kPt)]⟩
def Z03 (M:Fn):Nat×Spec:=(126,Ac Qgs UN M)
def Qbo (BW Bk Gx E3 Cw GG:Fn):Cfg:=cp [Qpp BW,Tz Bk,Zfg Gx,Z04 E3,Q2b Cw,Zkd GG] [171]
def Q1f:Sk:=⟨[tf [CS.ptr 20000 0]]++dd 8++[tf [CS.ptr 9 0],tf [CS.ptr 10 0]]++dd 24++[tf [CS.sl kPt],tf [ci],tf [ci]]++dd 30,[(9,74,cc 13++[CS.bool,ci,CS.bool]++cc 5++[CS.bool]),(10,162,cc 7),(20000,142,[ci,ci,ci,CS.own 20000 7,CS.own 20001 3,CS.bool,ci,ci,ci])],[(20000,162,Ag),(20001,76,kPt)]⟩
def Q42:List (Ex×Sk):=[(Ex.exit 0,⟨[tf [CS.ptr 20000 0]]++dd 67,[(20000,142,[ci,ci,ci,CS.own 20000 7,CS.own 20001 3,CS.bool,ci,ci,ci])],[(20000,162,Ag),(20001,76,kPt)]⟩)]
def Mf (BW Bk Gx E3 Cw GG:Fn):Lp:=AT PG (Qbo BW Bk Gx E3 Cw GG) 64 6 (AU PG 126 6) Q1f Q42
def Zaf (BW Bk Gx E3 Cw GG:Fn) (N6:Lp):Cfg:=(Qbo BW Bk Gx E3 Cw GG).loop 6 Q1f Q42 N6
def W6 (BW Bk Gx E3 Cw GG:Fn) (N6:Lp):Fn:=Am PG (Zaf BW Bk Gx E3 Cw GG N6) 64 126 Qgs UN
theorem Qub (BW Bk Gx E3 Cw GG:Fn) (v0 v1 v2:Rw) (v3 v4 v5 v6 v7 v8 v9 v10 v11 v12 v13 v14 v15 v16 v17:Int) (v18:Bool) (v19:Int) (v20:Bool) (v21 v22 v23 v24 v25:Int) (v26:Bool) (v27 v28 v29 v30 v31 v32 v33 v34 v35 v36:Int) (v37:Bool) (v38 v39 v40:Int):Mf BW Bk Gx E3 Cw GG [.view Ag v0, .view kPt v1, .view kPt v2,I v3,I v4,I v5,I v6,I v7,I v8,I v9,I v10,I v11,I v12,I v13,I v14,I v15,I v16,I v17,B v18,I v19,B v20,I v21,I v22,I v23,I v24,I v25,B v26,I v27,I v28,I v29,I v30,I v31,I v32,I v33,I v34,I v35,I v36,B v37,I v38,I v39,I v40]=
 bif decide (v4<v3)then
 bif decide (0<=v4)&&decide (v4<(v2.length:Int))then
 (Gx [.view Ag v0, .view kPt v1,jA (nth [] v2 v4.toNat) 0,jA (nth [] v2 v4.toNat) 1,jA (nth [] v2 v4.toNat) 2,I v27,I v28,I v29,I v30,I v31,I v32,I v33,I v34,I v35,I v36,B v37,I v38,I v39,I v40]).bind fun o12=>
 (Bk [I v5,I v6,I v7,I v8,I v9,I v10,I v11,I v12,I v13,I v14,I v15,I v16,I v17,B v18,I v19,B v20,I v21,I v22,I v23,I v24,I v25,B v26]).bind fun o13=>
 bif bA o13 0 then
 (BW [I v5,I v6,I v7,I v8,I v9,I v10,I v11,I v12,I v13,I v14,I v15,I v16,I v17,B v18,I v19,B v20,I v21,I v22,I v23,I v24,I v25,B v26]).bind fun o14=>
 bif gA (nth [] v2 v4.toNat) 0==gA o14 0&&(gA (nth [] v2 v4.toNat) 1==gA o14 1&&(gA (nth [] v2 v4.toNat) 2==gA o14 2&&true))then
 some (0,[.view Ag (wA o12 0), .view kPt (wA o12 1), .view kPt v2,I v3,I (wrap .i64 (v4+1)),I v5,I v6,I v7,I v8,I v9,I v10,I v11,I v12,I v13,I v14,I v15,I v16,I v17,B v18,I v19,B v20,I v21,I v22,I v23,I v24,I v25,B v26,I v27,I v28,I v29,I v30,I v31,I v32,I v33,jA o12 2,jA o12 3,jA o12 4,B (bA o12 5),jA o12 6,jA o12 7,jA o12 6])
 else
 some (0,[.view Ag (wA o12 0), .view kPt (wA o12 1), .view kPt v2,I v3,I (wrap .i64 (v4+1)),I v5,I v6,I v7,I v8,I v9,I v10,I v11,I v12,I v13,I v14,I v15,I v16,I v17,B v18,I v19,B v20,I v21,I v22,I v23,I v24,I v25,B v26,I v27,I v28,I v29,I v30,I v31,I v32,I v33,jA o12 2,jA o12 3,jA o12 4,B (bA o12 5),jA o12 6,jA o12 7,jA o12 8])
 else
 some (0,[.view Ag (wA o12 0), .view kPt (wA o12 1), .view kPt v2,I v3,I (wrap .i64 (v4+1)),I v5,I v6,I v7,I v8,I v9,I v10,I v11,I v12,I v13,I v14,I v15,I v16,I v17,B v18,I v19,B v20,I v21,I v22,I v23,I v24,I v25,B v26,I v27,I v28,I v29,I v30,I v31,I v32,I v33,jA o12 2,jA o12 3,jA o12 4,B (bA o12 5),jA o12 6,jA o12 7,jA o12 8])
 else
 none
 else
 some (1,[.view Ag v0, .view kPt v1,I v34,I v35,I v36,B v37,I v38,I v39,I v40]):=by kernel_rfl
abbrev Qga (E3:Fn) (x2:Rw) (x3 x4:Int) (N6:Lp) (x0 x1:Rw) (o15:List AC) (x5 x6 x7:Int) (x8:Bool) (x9 x10 x11:Int) (h1_0:AC):Option (List AC):=
 (E3 [.view Al x2,I x3,I x4]).bind fun o17=>
 (N6 (.view Ag x0:: .view kPt x1:: .view kPt (wA o17 0)::I (↑(wA o17 0).length:Int)::I 0::(AO Al (nth [] x2 x3.toNat)++[I 0,I 0,I 0,I 0,I x3,jA o15 0,h1_0,I x5,I x6,I x7,B x8,I x9,I x10,I x11]))).bind fun o18=>
 bif o18.1.beq 1 then
 some [.view Ag (wA o18.2 0), .view kPt (wA o18.2 1),B (decide ((↑(wA o18.2 0).length:Int)<=1048576)),jA o18.2 2,jA o18.2 3,jA o18.2 4,B (bA o18.2 5),jA o18.2 6,jA o18.2 7,jA o18.2 8]
 else
 none
attribute [go_sem] Qga
theorem Zel (BW Bk Gx E3 Cw GG:Fn) (N6:Lp) (x0 x1 x2:Rw) (x3 x4 x5 x6 x7:Int) (x8:Bool) (x9 x10 x11:Int):W6 BW Bk Gx E3 Cw GG N6 [.view Ag x0, .view kPt x1, .view Al x2,I x3,I x4,I x5,I x6,I x7,B x8,I x9,I x10,I x11]=
 bif decide (0<=x3)&&decide (x3<(x2.length:Int))then
 (GG (AO Al (nth [] x2 x3.toNat)++[I x10])).bind fun o15=>
 (Cw (AO Al (nth [] x2 x3.toNat))).bind fun o16=>
 bif bA o16 0 then
 Qga E3 x2 x3 x4 N6 x0 x1 o15 x5 x6 x7 x8 x9 x10 x11 (I (mn (wrap .i64 (gA (nth [] x2 x3.toNat) 14*16)) 16777216))
 else
 Qga E3 x2 x3 x4 N6 x0 x1 o15 x5 x6 x7 x8 x9 x10 x11 (I 0)
 else
 none:=by kernel_rfl
def Q53:=An (Mf FN Ez OW Mv Hy JK)
def JQ:=W6 FN Ez OW Mv Hy JK Q53
theorem Qs0:Ai PG (Qbo FN Ez OW Mv Hy JK):=Ao rfl ⟨Qju,Sd,Zyk,Zne,Q04,Zii,trivial⟩
theorem Zfk:Aj PG (126,Ac Qgs UN JQ):=rw2 (C:=(Zaf FN Ez OW Mv Hy JK Q53)) (fl fb Qs0) Qs0
def US:Sk:=⟨[TS.v true (cc 13++[CS.bool,ci,CS.bool]++cc 5++[CS.bool])],[],[]⟩
def Qk3:Sk:=⟨[tf [ci]],[],[]⟩
def Zfu (M:Fn):Nat×Spec:=(122,Ac US Qk3 M)
def Qgk (Ct AP:Fn):Cfg:=cf [Qoi Ct,RO AP]
def Qgy (Ct AP:Fn):Fn:=Am PG (Qgk Ct AP) 64 122 US Qk3
abbrev LQ (x0 x19 x20:Int):Option (List AC):=
 bif x0==8 then
 bif decide (x19<3)then
 some [I 1]
 else
 bif decide (x19>5)then
 some [I 1]
 else
 bif decide (x20<0)then
 some [I 1]
 else
 bif decide (x20>30000)then
 some [I 1]
 else
 some [I 0]
 else
 some [I 0]
attribute [go_sem] LQ
theorem Zsm (Ct AP:Fn) (x0 x1 x2 x3 x4 x5 x6 x7 x8 x9 x10 x11 x12:Int) (x13:Bool) (x14:Int) (x15:Bool) (x16 x17 x18 x19 x20:Int) (x21:Bool):Qgy Ct AP [I x0,I x1,I x2,I x3,I x4,I x5,I x6,I x7,I x8,I x9,I x10,I x11,I x12,B x13,I x14,B x15,I x16,I x17,I x18,I x19,I x20,B x21]=
 bif decide (x0<1)then
 some [I 1]
 else
 bif decide (x0>14)then
 some [I 1]
 else
 (AP [I x0]).bind fun o4=>
 bif bA o4 0 then
 (Ct [I x0,I x1,I x2,I x3,I x4,I x5,I x6,I x7,I x8,I x9,I x10,I x11,I x12,B x13,I x14,B x15,I x16,I x17,I x18,I x19,I x20,B x21]).bind fun o5=>
 bif !bA o5 0 then
 some [I 1]
 else
 bif decide (x18<0)then
 some [I 1]
 else
 bif decide (x18>1000)then
 some [I 1]
 else
 (AP [I x0]).bind fun o6=>
 bif bA o6 0 then
 bif x0 !=1 then
 bif decide (x14<1)then
 some [I 1]
 else
 bif decide (x14>60000000)then
 some [I 1]
 else
 LQ x0 x19 x20
 else
 LQ x0 x19 x20
 else
 LQ x0 x19 x20
 else
 (AP [I x0]).bind fun o7=>
 bif bA o7 0 then
 bif x0 !=1 then
 bif decide (x14<1)then
 some [I 1]
 else
 bif decide (x14>60000000)then
 some [I 1]
 else
 LQ x0 x19 x20
 else
 LQ x0 x19 x20
 else
 LQ x0 x19 x20:=by kernel_rfl
def Jw:=Qgy GE Du
theorem Zv3:Ai PG (Qgk GE Du):=Ao rfl ⟨Qq0,SS,trivial⟩
theorem Zmf:Aj PG (122,Ac US Qk3 Jw):=rw1 (C:=(Qgk GE Du)) Zv3
def Qqp:Sk:=⟨[tf [CS.sl Al]],[],[]⟩
def Qbj:Sk:=⟨[TS.tup [(false,[CS.ptr 13 0]),(false,[ci])]],[(13,142,[ci,ci,ci,CS.own 1013003 7,CS.own 1013004 3,CS.bool,ci,ci,ci])],[(1013003,162,Ag),(1013004,76,kPt)]⟩
def Qxt (M:Fn):Nat×Spec:=(80,Ac Qqp Qbj M)
def Qot (B3 B9 Bo BK AP D_:Fn):Cfg:=cp [Z4q B3,Z03 B9,V6 Bo,Qxv BK,RO AP,Zfu D_] [127,126]
def Q13:Sk:=⟨[tf [CS.sl Al],td,td,td,tf [CS.ptr 13 0],tf [ci]]++dd 12++[tf [CS.sl Al],tf [ci],tf [ci]]++dd 87,[(13,142,[ci,ci,ci,CS.own 1013003 7,CS.own 1013004 3,CS.bool,ci,ci,ci])],[(1013003,162,Ag),(1013004,76,kPt)]⟩
def Q6j:List (Ex×Sk):=[(Ex.ret,⟨[td,td,tf [CS.ptr 13 0],tf [ci]]++dd 104,[(13,142,[ci,ci,ci,CS.own 1013003 7,CS.own 1013004 3,CS.bool,ci,ci,ci])],[(1013003,162,Ag),(1013004,76,kPt)]⟩),(Ex.exit 0,⟨[tf [CS.sl Al],td,td,td,tf [CS.ptr 13 0]]++dd 103,[(13,142,[ci,ci,ci,CS.own 1013003 7,CS.own 1013004 3,CS.bool,ci,ci,ci])],[(1013003,162,Ag),(1013004,76,kPt)]⟩)]
def Qq (B3 B9 Bo BK AP D_:Fn):Lp:=AT PG (Qot B3 B9 Bo BK AP D_) 64 6 (AU PG 80 6) Q13 Q6j
def Qy3 (B3 B9 Bo BK AP D_:Fn) (N6:Lp):Cfg:=(Qot B3 B9 Bo BK AP D_).loop 6 Q13 Q6j N6
def Q1k:Sk:=⟨[tf [CS.sl Al],td,td,td,tf [CS.ptr 13 0],tf [ci]]++dd 44++[tf [CS.sl Al],tf [ci],tf [ci]]++dd 55,[(13,142,[ci,ci,ci,CS.own 1013003 7,CS.own 1013004 3,CS.bool,ci,ci,ci])],[(1013003,162,Ag),(1013004,76,kPt)]⟩
def Q11:List (Ex×Sk):=[(Ex.ret,⟨[td,td,tf [CS.ptr 13 0],tf [ci]]++dd 104,[(13,142,[ci,ci,ci,CS.own 1013003 7,CS.own 1013004 3,CS.bool,ci,ci,ci])],[(1013003,162,Ag),(1013004,76,kPt)]⟩),(Ex.exit 2,⟨[td,td,td,td,tf [CS.ptr 13 0]]++dd 103,[(13,142,[ci,ci,ci,CS.own 1013003 7,CS.own 1013004 3,CS.bool,ci,ci,ci])],[(1013003,162,Ag),(1013004,76,kPt)]⟩)]
def Ph (B3 B9 Bo BK AP D_:Fn) (N6:Lp):Lp:=AT PG (Qy3 B3 B9 Bo BK AP D_ N6) 64 18 (AU PG 80 18) Q1k Q11
def Qz6 (B3 B9 Bo BK AP D_:Fn) (N6 N18:Lp):Cfg:=(Qy3 B3 B9 Bo BK AP D_ N6).loop 18 Q1k Q11 N18
def Qa6 (B3 B9 Bo BK AP D_:Fn) (N6 N18:Lp):Fn:=Am PG (Qz6 B3 B9 Bo BK AP D_ N6 N18) 64 80 Qqp Qbj
theorem Qv5 (B3 B9 Bo BK AP D_:Fn) (v0 v1 v2:Rw) (v3:Int) (v4:Rw) (v5 v6 v7 v8 v9:Int) (v10:Bool) (v11 v12 v13:Int):Qq B3 B9 Bo BK AP D_ [.view Ag v0, .view kPt v1, .view Al v2,I v3, .view Al v4,I v5,I v6,I v7,I v8,I v9,B v10,I v11,I v12,I v13]=
 bif decide (v6<v5)then
 bif decide (0<=v6)&&decide (v6<(v4.length:Int))then
 (D_ (AO Al (nth [] v4 v6.toNat))).bind fun o53=>
 bif gA o53 0 !=0 then
 some (1,[.view Ag v0, .view kPt v1,jA o53 0,I v7,I v8,I v9,B v10,I v11,I v12,I v13])
 else
 (AP [jA (nth [] v4 v6.toNat) 0]).bind fun o54=>
 bif !bA o54 0 then
 some (0,[.view Ag v0, .view kPt v1, .view Al v2,I v3, .view Al v4,I v5,I (wrap .i64 (v6+1)),I v7,I v8,I v9,B v10,I v11,I v12,I v13])
 else
 bif decide (v3>=0)then
 bif decide (0<=v3)&&decide (v3<(v2.length:Int))then
 bif !(gA (nth [] v2 v3.toNat) 5==gA (nth [] v4 v6.toNat) 2&&(gA (nth [] v2 v3.toNat) 6==gA (nth [] v4 v6.toNat) 3&&(gA (nth [] v2 v3.toNat) 7==gA (nth [] v4 v6.toNat) 4&&true)))then
 some (1,[.view Ag v0, .view kPt v1,I 13,I v7,I v8,I v9,B v10,I v11,I v12,I v13])
 else
 some (0,[.view Ag v0, .view kPt v1, .view Al v2,I v6, .view Al v4,I v5,I (wrap .i64 (v6+1)),I v7,I v8,I v9,B v10,I v11,I v12,I v13])
 else
 none
 else
 some (0,[.view Ag v0, .view kPt v1, .view Al v2,I v6, .view Al v4,I v5,I (wrap .i64 (v6+1)),I v7,I v8,I v9,B v10,I v11,I v12,I v13])
 else
 none
 else
 some (2,[.view Ag v0, .view kPt v1, .view Al v2,I v7,I v8,I v9,B v10,I v11,I v12,I v13]):=by kernel_rfl
abbrev Qi (B9:Fn) (v0 v1 v2:Rw) (v6 v7 v8 v9:Int) (v10:Bool) (v11:Int) (h1_0:AC) (v13:Int) (B3:Fn) (v4:Rw) (v5:Int) (h2_0:AC):Option (Nat×List AC):=
 (B9 [.view Ag v0, .view kPt v1, .view Al v2,I v6,h2_0,I v7,I v8,I v9,B v10,I v11,h1_0,I v13]).bind fun o57=>
 bif !bA o57 2 then
 some (1,[.view Ag (wA o57 0), .view kPt (wA o57 1),I 10,jA o57 3,jA o57 4,jA o57 5,B (bA o57 6),jA o57 7,jA o57 8,jA o57 9])
 else
 (B3 [.view Ag (wA o57 0), .view kPt (wA o57 1), .view Al v2,I v6,jA o57 3,jA o57 4,jA o57 5,B (bA o57 6),jA o57 7,jA o57 8,jA o57 9]).bind fun o58=>
 some (0,[.view Ag (wA o58 0), .view kPt (wA o58 1), .view Al v2,I v6, .view Al v4,I v5,I (wrap .i64 (v6+1)),jA o58 2,jA o58 3,jA o58 4,B (bA o58 5),jA o58 6,jA o58 7,jA o58 8])
attribute [go_sem] Qi
abbrev QU (AP:Fn) (v4:Rw) (v6 v3:Int) (BK:Fn) (v2:Rw) (B9:Fn) (v0 v1:Rw) (v7 v8 v9:Int) (v10:Bool) (v11 v13:Int) (B3:Fn) (v5:Int) (Bo:Fn) (h1_0:AC):Option (Nat×List AC):=
 (AP [jA (nth [] v4 v6.toNat) 0]).bind fun o55=>
 bif bA o55 0 then
 bif decide (v3>=0)then
 (BK [.view Al v2,I v3]).bind fun o56=>
 bif !bA o56 0 then
 Qi B9 v0 v1 v2 v6 v7 v8 v9 v10 v11 h1_0 v13 B3 v4 v5 (I (-1))
 else
 (Bo [.view Al v2,I v3]).bind fun o59=>
 bif gA o59 0 !=v6 then
 Qi B9 v0 v1 v2 v6 v7 v8 v9 v10 v11 h1_0 v13 B3 v4 v5 (I (-1))
 else
 Qi B9 v0 v1 v2 v6 v7 v8 v9 v10 v11 h1_0 v13 B3 v4 v5 (I v3)
 else
 Qi B9 v0 v1 v2 v6 v7 v8 v9 v10 v11 h1_0 v13 B3 v4 v5 (I v3)
 else
 (B3 [.view Ag v0, .view kPt v1, .view Al v2,I v6,I v7,I v8,I v9,B v10,I v11,h1_0,I v13]).bind fun o66=>
 some (0,[.view Ag (wA o66 0), .view kPt (wA o66 1), .view Al v2,I v3, .view Al v4,I v5,I (wrap .i64 (v6+1)),jA o66 2,jA o66 3,jA o66 4,B (bA o66 5),jA o66 6,jA o66 7,jA o66 8])
attribute [go_sem] QU
theorem Q9r (B3 B9 Bo BK AP D_:Fn) (N6:Lp) (v0 v1 v2:Rw) (v3:Int) (v4:Rw) (v5 v6 v7 v8 v9:Int) (v10:Bool) (v11 v12 v13:Int):Ph B3 B9 Bo BK AP D_ N6 [.view Ag v0, .view kPt v1, .view Al v2,I v3, .view Al v4,I v5,I v6,I v7,I v8,I v9,B v10,I v11,I v12,I v13]=
 bif decide (v6<v5)then
 bif decide (0<=v6)&&decide (v6<(v4.length:Int))then
 bif gA (nth [] v4 v6.toNat) 0==8 then
 bif gA (nth [] v4 v6.toNat) 19==3 then
 QU AP v4 v6 v3 BK v2 B9 v0 v1 v7 v8 v9 v10 v11 v13 B3 v5 Bo (jA (nth [] v4 v6.toNat) 20)
 else
 bif gA (nth [] v4 v6.toNat) 19==4 then
 QU AP v4 v6 v3 BK v2 B9 v0 v1 v7 v8 v9 v10 v11 v13 B3 v5 Bo (jA (nth [] v4 v6.toNat) 20)
 else
 QU AP v4 v6 v3 BK v2 B9 v0 v1 v7 v8 v9 v10 v11 v13 B3 v5 Bo (I v12)
 else
 QU AP v4 v6 v3 BK v2 B9 v0 v1 v7 v8 v9 v10 v11 v13 B3 v5 Bo (I v12)
 else
 none
 else
 some (2,[.view Ag v0, .view kPt v1,I v7,I v8,I v9,B v10,I v11,I v12,I v13]):=by kernel_rfl
theorem Zns (B3 B9 Bo BK AP D_:Fn) (N6 N18:Lp) (x0:Rw):Qa6 B3 B9 Bo BK AP D_ N6 N18 [.view Al x0]=
 bif decide ((x0.length:Int)>20000)then
 some [.view Ag [], .view kPt [],I 10,I 0,I 0,I 0,B false,I 0,I 0,I 0]
 else
 (N6 [.view Ag [], .view kPt [], .view Al x0,I (-1), .view Al x0,I (x0.length:Int),I 0,I 0,I 0,I 0,B false,I 0,I 0,I 0]).bind fun o103=>
 bif o103.1.beq 1 then
 some [.view Ag (wA o103.2 0), .view kPt (wA o103.2 1),jA o103.2 2,jA o103.2 3,jA o103.2 4,jA o103.2 5,B (bA o103.2 6),jA o103.2 7,jA o103.2 8,jA o103.2 9]
 else
 bif o103.1.beq 2 then
 (N18 [.view Ag (wA o103.2 0), .view kPt (wA o103.2 1), .view Al (wA o103.2 2),I (-1), .view Al (wA o103.2 2),I (↑(wA o103.2 2).length:Int),I 0,jA o103.2 3,jA o103.2 4,jA o103.2 5,B (bA o103.2 6),jA o103.2 7,jA o103.2 8,jA o103.2 9]).bind fun o104=>
 bif o104.1.beq 1 then
 some [.view Ag (wA o104.2 0), .view kPt (wA o104.2 1),jA o104.2 2,jA o104.2 3,jA o104.2 4,jA o104.2 5,B (bA o104.2 6),jA o104.2 7,jA o104.2 8,jA o104.2 9]
 else
 bif o104.1.beq 2 then
 some [.view Ag (wA o104.2 0), .view kPt (wA o104.2 1),I 0,jA o104.2 2,jA o104.2 3,jA o104.2 4,B (bA o104.2 5),jA o104.2 6,jA o104.2 7,jA o104.2 8]
 else
 none
 else
 none:=by kernel_rfl
def QS:=An (Qq Jd JQ E1 GY Du Jw)
def Q4i:=An (Ph Jd JQ E1 GY Du Jw QS)
def I8:=Qa6 Jd JQ E1 GY Du Jw QS Q4i
theorem Qjw:Ai PG (Qot Jd JQ E1 GY Du Jw):=Ao rfl ⟨Zo9,Zfk,Qji,Qw5,SS,Zmf,trivial⟩
theorem Q7n:Aj PG (80,Ac Qqp Qbj I8):=rw2 (C:=(Qz6 Jd JQ E1 GY Du Jw QS Q4i)) (fl (fl fb Qjw) Qjw) Qjw
def Ut:Sk:=⟨[tf [CS.sl Al]],[],[]⟩
def Qn1:Sk:=⟨[tf [ci]],[],[]⟩
def Znv (M:Fn):Nat×Spec:=(37,Ac Ut Qn1 M)
def Qek (Bk DW:Fn):Cfg:=cp [Tz Bk,Qxt DW] [80]
def Q5g:Sk:=⟨[tf [CS.sl Al],td,td,tf [CS.ptr 100800 0],td,tf [ci]]++dd 47,[(100800,142,[ci,ci,ci,CS.own 100800 7,CS.own 100801 3,CS.bool,ci,ci,ci])],[(100800,162,Ag),(100801,76,kPt)]⟩
def Q3s:List (Ex×Sk):=[(Ex.ret,⟨[td,td,tf [ci]]++dd 50,[],[]⟩),(Ex.exit 0,⟨[td,td,td,tf [CS.ptr 100800 0]]++dd 49,[(100800,142,[ci,ci,ci,CS.own 100800 7,CS.own 100801 3,CS.bool,ci,ci,ci])],[(100800,162,Ag),(100801,76,kPt)]⟩)]
def Ny (Bk DW:Fn):Lp:=AT PG (Qek Bk DW) 64 5 (AU PG 37 5) Q5g Q3s
def Q03 (Bk DW:Fn) (N5:Lp):Cfg:=(Qek Bk DW).loop 5 Q5g Q3s N5
def Qoq (Bk DW:Fn) (N5:Lp):Fn:=Am PG (Q03 Bk DW N5) 64 37 Ut Qn1
theorem Qyf (Bk DW:Fn) (v0 v1 v2:Rw) (v3 v4 v5 v6:Int) (v7:Bool) (v8 v9 v10:Int):Ny Bk DW [.view Ag v0, .view kPt v1, .view Al v2,I v3,I v4,I v5,I v6,B v7,I v8,I v9,I v10]=
 bif decide (v3>=0)then
 bif decide (0<=v3)&&decide (v3<(v2.length:Int))then
 bif gA (nth [] v2 v3.toNat) 0==10 then
 some (0,[.view Ag v0, .view kPt v1, .view Al v2,I (wrap .i64 (v3-1)),I v4,I v5,I v6,B v7,I v8,I v9,I v10])
 else
 bif decide (0<=v3)&&decide (v3<(v2.length:Int))then
 (Bk (AO Al (nth [] v2 v3.toNat))).bind fun o4=>
 bif bA o4 0 then
 bif decide (0<=v3)&&decide (v3<(v2.length:Int))then
 bif gA (nth [] v2 v3.toNat) 18 !=0 then
 some (1,[I v10])
 else
 some (1,[I v8])
 else
 none
 else
 some (1,[I v8])
 else
 none
 else
 none
 else
 some (2,[.view Ag v0, .view kPt v1,I v4,I v5,I v6,B v7,I v8,I v9,I v10]):=by kernel_rfl
theorem Qsd (Bk DW:Fn) (N5:Lp) (x0:Rw):Qoq Bk DW N5 [.view Al x0]=
 (DW [.view Al x0]).bind fun o5=>
 bif gA o5 2 !=0 then
 some [I 0]
 else
 (N5 [.view Ag (wA o5 0), .view kPt (wA o5 1), .view Al x0,I (wrap .i64 ((x0.length:Int)-1)),jA o5 3,jA o5 4,jA o5 5,B (bA o5 6),jA o5 7,jA o5 8,jA o5 9]).bind fun o6=>
 bif o6.1.beq 1 then
 some [jA o6.2 0]
 else
 bif o6.1.beq 2 then
 some [jA o6.2 6]
 else
 none:=by kernel_rfl
def Q2n:=An (Ny Ez I8)
def N0:=Qoq Ez I8 Q2n
theorem Qxf:Ai PG (Qek Ez I8):=Ao rfl ⟨Sd,Q7n,trivial⟩
theorem Zuv:Aj PG (37,Ac Ut Qn1 N0):=rw2 (C:=(Q03 Ez I8 Q2n)) (fl fb Qxf) Qxf
def Qpu:Sk:=⟨[tf [ci],tf [ci],tf [ci]],[],[]⟩
def Qap:Sk:=⟨[tf [CS.bool]],[],[]⟩
def Zd (M:Fn):Nat×Spec:=(140,Ac Qpu Qap M)
def Qge:Cfg:=cf []
def Qhe:Fn:=Am PG Qge 64 140 Qpu Qap
theorem Zod (x0 x1 x2:Int):Qhe [I x0,I x1,I x2]=
 bif decide (x1<=x0)then
 some [B (decide (x0<=x2))]
 else
 some [B false]:=by kernel_rfl
def G_:=Qhe
theorem Z0w:Ai PG (Qge):=Ao rfl trivial
theorem Qd9:Aj PG (140,Ac Qpu Qap G_):=rw1 (C:=Qge) Z0w
def UJ:Sk:=⟨[TS.v true (cc 9++[CS.sl Aa]),tf [ci]],[],[]⟩
def UI:Sk:=⟨[tf [CS.bool]],[],[]⟩
def Zcw (M:Fn):Nat×Spec:=(142,Ac UJ UI M)
def Qbi (BD:Fn):Cfg:=cf [Zd BD]
def Qqw (BD:Fn):Fn:=Am PG (Qbi BD) 64 142 UJ UI
theorem Znz (BD:Fn) (x0 x1 x2 x3 x4 x5 x6 x7 x8:Int) (x9:Rw) (x10:Int):Qqw BD [I x0,I x1,I x2,I x3,I x4,I x5,I x6,I x7,I x8, .view Aa x9,I x10]=
 (BD [I x10,I x4,I x5]).bind fun o1=>
 some [B (bA o1 0)]:=by kernel_rfl
def Hr:=Qqw G_
theorem Zkl:Ai PG (Qbi G_):=Ao rfl ⟨Qd9,trivial⟩
theorem Zi9:Aj PG (142,Ac UJ UI Hr):=rw1 (C:=(Qbi G_)) Zkl
def Qni:Sk:=⟨[TS.v true (cc 9++[CS.sl Aa]++cc 9++[CS.sl Aa]++cc 9++[CS.sl Aa]),TS.v true [ci,ci,ci,CS.sl Ag,CS.sl kPt]],[],[]⟩
def Qi3:Sk:=⟨[tf [CS.bool]],[],[]⟩
def Z58 (M:Fn):Nat×Spec:=(90,Ac Qni Qi3 M)
def Qaj (Dr:Fn):Cfg:={cf [Zcw Dr]with rowDst:=[13],unroll:=[11]}
def Qzt:Sk:=⟨[td,td,tf [CS.ptr 2 0],td,td,tf [CS.own 13 3]]++dd 9++[tf [CS.sl Ag],tf [ci],tf [ci]]++dd 28,[(2,27,cc 9++[CS.sl Aa]++cc 9++[CS.sl Aa]++cc 9++[CS.sl Aa])],[(13,54,kPt)]⟩
def Q84:List (Ex×Sk):=[(Ex.exit 0,⟨[td,td,tf [CS.ptr 2 0],td,td,tf [CS.own 13 3]]++dd 40,[(2,27,cc 9++[CS.sl Aa]++cc 9++[CS.sl Aa]++cc 9++[CS.sl Aa])],[(13,54,kPt)]⟩)]
def QY (Dr:Fn):Lp:=AT PG (Qaj Dr) 64 3 (AU PG 90 3) Qzt Q84
def Q0t (Dr:Fn) (N3:Lp):Cfg:=(Qaj Dr).loop 3 Qzt Q84 N3
def Q77:Sk:=⟨[td,td,tf [CS.ptr 2 0]]++dd 24++[tf [CS.own 13 3],tf [ci],tf [ci]]++dd 16,[(2,27,cc 9++[CS.sl Aa]++cc 9++[CS.sl Aa]++cc 9++[CS.sl Aa])],[(13,54,kPt)]⟩
def Q10:List (Ex×Sk):=[(Ex.ret,⟨[td,td,td,td,tf [CS.bool]]++dd 41,[],[]⟩),(Ex.exit 2,⟨[td]++dd 45,[],[]⟩)]
def SU (Dr:Fn) (N3:Lp):Lp:=AT PG (Q0t Dr N3) 64 8 (AU PG 90 8) Q77 Q10
def Q2r (Dr:Fn) (N3 N8:Lp):Cfg:=(Q0t Dr N3).loop 8 Q77 Q10 N8
def WE (Dr:Fn) (N3 N8:Lp):Fn:=Am PG (Q2r Dr N3 N8) 64 90 Qni Qi3
theorem Zk2 (Dr:Fn) (v0 v1:Rw) (v2 v3 v4 v5 v6 v7 v8 v9 v10 v11 v12:Int) (v13:Rw) (v14 v15 v16 v17 v18 v19 v20 v21 v22:Int) (v23:Rw) (v24 v25 v26 v27 v28 v29 v30 v31 v32:Int) (v33:Rw):QY Dr [.view kPt v0, .view Ag v1,I v2,I v3,I v4,I v5,I v6,I v7,I v8,I v9,I v10,I v11,I v12, .view Aa v13,I v14,I v15,I v16,I v17,I v18,I v19,I v20,I v21,I v22, .view Aa v23,I v24,I v25,I v26,I v27,I v28,I v29,I v30,I v31,I v32, .view Aa v33]=
 bif decide (v3<v2)then
 bif decide (0<=v3)&&decide (v3<(v1.length:Int))then
 bif((v0++[[jA (nth [] v1 v3.toNat) 0,jA (nth [] v1 v3.toNat) 1,jA (nth [] v1 v3.toNat) 2]]).length*24).ble 140737488355328 then
 some (0,[.view kPt (v0++[[jA (nth [] v1 v3.toNat) 0,jA (nth [] v1 v3.toNat) 1,jA (nth [] v1 v3.toNat) 2]]), .view Ag v1,I v2,I (wrap .i64 (v3+1)),I v4,I v5,I v6,I v7,I v8,I v9,I v10,I v11,I v12, .view Aa v13,I v14,I v15,I v16,I v17,I v18,I v19,I v20,I v21,I v22, .view Aa v23,I v24,I v25,I v26,I v27,I v28,I v29,I v30,I v31,I v32, .view Aa v33])
 else
 none
 else
 none
 else
 some (1,[.view kPt v0,I v4,I v5,I v6,I v7,I v8,I v9,I v10,I v11,I v12, .view Aa v13,I v14,I v15,I v16,I v17,I v18,I v19,I v20,I v21,I v22, .view Aa v23,I v24,I v25,I v26,I v27,I v28,I v29,I v30,I v31,I v32, .view Aa v33]):=by kernel_rfl
theorem Zrn (Dr:Fn) (N3:Lp) (v0:Rw) (v1 v2 v3 v4 v5 v6 v7 v8 v9 v10 v11:Int) (v12:Rw) (v13 v14 v15 v16 v17 v18 v19 v20 v21:Int) (v22:Rw) (v23 v24 v25 v26 v27 v28 v29 v30 v31:Int) (v32:Rw):SU Dr N3 [.view kPt v0,I v1,I v2,I v3,I v4,I v5,I v6,I v7,I v8,I v9,I v10,I v11, .view Aa v12,I v13,I v14,I v15,I v16,I v17,I v18,I v19,I v20,I v21, .view Aa v22,I v23,I v24,I v25,I v26,I v27,I v28,I v29,I v30,I v31, .view Aa v32]=
 bif decide (v2<v1)then
 bif decide (0<=v2)&&decide (v2<(v0.length:Int))then
 (Dr [I v3,I v4,I v5,I v6,I v7,I v8,I v9,I v10,I v11, .view Aa v12,jA (nth [] v0 v2.toNat) 0]).bind fun o6=>
 bif !bA o6 0 then
 some (1,[B false])
 else
 (Dr [I v13,I v14,I v15,I v16,I v17,I v18,I v19,I v20,I v21, .view Aa v22,jA (nth [] v0 v2.toNat) 1]).bind fun o7=>
 bif !bA o7 0 then
 some (1,[B false])
 else
 (Dr [I v23,I v24,I v25,I v26,I v27,I v28,I v29,I v30,I v31, .view Aa v32,jA (nth [] v0 v2.toNat) 2]).bind fun o8=>
 bif !bA o8 0 then
 some (1,[B false])
 else
 some (0,[.view kPt v0,I v1,I (wrap .i64 (v2+1)),I v3,I v4,I v5,I v6,I v7,I v8,I v9,I v10,I v11, .view Aa v12,I v13,I v14,I v15,I v16,I v17,I v18,I v19,I v20,I v21, .view Aa v22,I v23,I v24,I v25,I v26,I v27,I v28,I v29,I v30,I v31, .view Aa v32])
 else
 none
 else
 some (2,[]):=by kernel_rfl
theorem Zem (Dr:Fn) (N3 N8:Lp) (x0 x1 x2 x3 x4 x5 x6 x7 x8:Int) (x9:Rw) (x10 x11 x12 x13 x14 x15 x16 x17 x18:Int) (x19:Rw) (x20 x21 x22 x23 x24 x25 x26 x27 x28:Int) (x29:Rw) (x30 x31 x32:Int) (x33 x34:Rw):WE Dr N3 N8 [I x0,I x1,I x2,I x3,I x4,I x5,I x6,I x7,I x8, .view Aa x9,I x10,I x11,I x12,I x13,I x14,I x15,I x16,I x17,I x18, .view Aa x19,I x20,I x21,I x22,I x23,I x24,I x25,I x26,I x27,I x28, .view Aa x29,I x30,I x31,I x32, .view Ag x33, .view kPt x34]=
 (N3 [.view kPt [[I x30,I x31,I x32]], .view Ag x33,I (x33.length:Int),I 0,I x0,I x1,I x2,I x3,I x4,I x5,I x6,I x7,I x8, .view Aa x9,I x10,I x11,I x12,I x13,I x14,I x15,I x16,I x17,I x18, .view Aa x19,I x20,I x21,I x22,I x23,I x24,I x25,I x26,I x27,I x28, .view Aa x29]).bind fun o9=>
 bif o9.1.beq 1 then
 (N8 [.view kPt (wA o9.2 0),I (↑(wA o9.2 0).length:Int),I 0,jA o9.2 1,jA o9.2 2,jA o9.2 3,jA o9.2 4,jA o9.2 5,jA o9.2 6,jA o9.2 7,jA o9.2 8,jA o9.2 9, .view Aa (wA o9.2 10),jA o9.2 11,jA o9.2 12,jA o9.2 13,jA o9.2 14,jA o9.2 15,jA o9.2 16,jA o9.2 17,jA o9.2 18,jA o9.2 19, .view Aa (wA o9.2 20),jA o9.2 21,jA o9.2 22,jA o9.2 23,jA o9.2 24,jA o9.2 25,jA o9.2 26,jA o9.2 27,jA o9.2 28,jA o9.2 29, .view Aa (wA o9.2 30)]).bind fun o10=>
 bif o10.1.beq 1 then
 some [B (bA o10.2 0)]
 else
 bif o10.1.beq 2 then
 some [B true]
 else
 none
 else
 none:=by kernel_rfl
def Qbm:=An (QY Hr)
def Qv0:=An (SU Hr Qbm)
def Qf:=WE Hr Qbm Qv0
theorem Xe:Ai PG (Qaj Hr):=Ao rfl ⟨Zi9,trivial⟩
theorem Zbw:Aj PG (90,Ac Qni Qi3 Qf):=rw2 (C:=(Q2r Hr Qbm Qv0)) (fl (fl fb Xe) Xe) Xe
def Qfq:Sk:=⟨[tf [CS.sl Al]],[],[]⟩
def Qed:Sk:=⟨[TS.tup [(true,[ci,ci,ci,CS.sl Ag,CS.sl kPt]),(false,[ci])]],[],[]⟩
def Znw (M:Fn):Nat×Spec:=(89,Ac Qfq Qed M)
def VS (DW:Fn):Cfg:=cp [Qxt DW] [80]
def Xm (DW:Fn):Fn:=Am PG (VS DW) 64 89 Qfq Qed
theorem Zyu (DW:Fn) (x0:Rw):Xm DW [.view Al x0]=
 (DW [.view Al x0]).bind fun o1=>
 bif gA o1 2 !=0 then
 some [I 0,I 0,I 0, .view Ag [], .view kPt [],jA o1 2]
 else
 some [jA o1 3,jA o1 4,jA o1 5, .view Ag (wA o1 0), .view kPt (wA o1 1),I 0]:=by kernel_rfl
def Nd:=Xm I8
theorem Znj:Ai PG (VS I8):=Ao rfl ⟨Q7n,trivial⟩
theorem Zzi:Aj PG (89,Ac Qfq Qed Nd):=rw1 (C:=(VS I8)) Znj
def Yo:Sk:=⟨[tf [CS.ptr 20000 0],tf [CS.sl Al],tf [CS.bool]],[(20000,119,cS)],[]⟩
def Qgg:Sk:=⟨[tf [ci]],[(20000,119,cS)],[]⟩
def Z2x (M:Fn):Nat×Spec:=(57,Ac Yo Qgg M)
def Yr (Nj FU O6 NO:Fn):Cfg:={cf [Znv Nj,Qvr FU,Z58 O6,Znw NO]with fstore:=true}
def Sb (Nj FU O6 NO:Fn):Fn:=Am PG (Yr Nj FU O6 NO) 64 57 Yo Qgg
theorem Z5v (Nj FU O6 NO:Fn) (x0:Rw) (x1:Bool) (K:Kf) (c:Cv):Sb Nj FU O6 NO (.view Al x0::B x1::Ad K c)=
 (NO [.view Al x0]).bind fun o4=>
 bif gA o4 5 !=0 then
 some (jA o4 5::Ad K c)
 else
 (O6 (AF K.x++[jA o4 0,jA o4 1,jA o4 2, .view Ag (wA o4 3), .view kPt (wA o4 4)])).bind fun o5=>
 bif !bA o5 0 then
 some (I 17::Ad K c)
 else
 bif(x0.length*176).ble 140737488355328 then
 (FU [jA o4 0,jA o4 1,jA o4 2, .view Ag (wA o4 3), .view kPt (wA o4 4)]).bind fun o6=>
 (Nj [.view Al x0]).bind fun o7=>
 some (I 0::DY (Ad K c) [(35, .view Al x0),(36,B x1),(37,jA o4 0),(38,jA o4 1),(39,jA o4 2),(40, .view Ag (wA o4 3)),(41, .view kPt (wA o4 4)),(42,jA o6 0),(43,jA o7 0)])
 else
 none:=by kernel_rfl
def TR:=Sb N0 Ja Qf Nd
theorem Zr7:Ai PG (Yr N0 Ja Qf Nd):=Ao rfl ⟨Zuv,Q3q,Zbw,Zzi,trivial⟩
theorem Znn:Aj PG (57,Ac Yo Qgg TR):=rw1 (C:=(Yr N0 Ja Qf Nd)) Zr7
def Y8:Sk:=⟨[],[],[]⟩
def YF:Sk:=⟨[TS.v true [ci,ci,CS.bool,CS.bool,CS.bool]],[],[]⟩
def Zbn (M:Fn):Nat×Spec:=(55,Ac Y8 YF M)
def VN:Cfg:=cf []
def UC:Fn:=Am PG VN 64 55 Y8 YF
theorem Zlx:UC []=
 some [I 100,I 100,B false,B false,B false]:=by kernel_rfl
def PY:=UC
theorem Z11:Ai PG (VN):=Ao rfl trivial
theorem Zwl:Aj PG (55,Ac Y8 YF PY):=rw1 (C:=VN) Z11
def VJ:Sk:=⟨[TS.v true (cc 9++[CS.sl Aa]++cc 9++[CS.sl Aa]++cc 9++[CS.sl Aa]++cc 5)],[],[]⟩
def Vu:Sk:=⟨[TS.v true (cc 9++[CS.sl Aa]++cc 9++[CS.sl Aa]++cc 9++[CS.sl Aa]++cc 5)],[],[]⟩
def Z7k (M:Fn):Nat×Spec:=(54,Ac VJ Vu M)
def XQ:Cfg:={cf []with fstore:=true,unroll:=[2]}
def Qoc:Fn:=Am PG XQ 64 54 VJ Vu
theorem Zxc (x0 x1 x2 x3 x4 x5 x6 x7 x8:Int) (x9:Rw) (x10 x11 x12 x13 x14 x15 x16 x17 x18:Int) (x19:Rw) (x20 x21 x22 x23 x24 x25 x26 x27 x28:Int) (x29:Rw) (x30 x31 x32 x33 x34:Int):Qoc [I x0,I x1,I x2,I x3,I x4,I x5,I x6,I x7,I x8, .view Aa x9,I x10,I x11,I x12,I x13,I x14,I x15,I x16,I x17,I x18, .view Aa x19,I x20,I x21,I x22,I x23,I x24,I x25,I x26,I x27,I x28, .view Aa x29,I x30,I x31,I x32,I x33,I x34]=
 bif(x9.length*8).ble 140737488355328 then
 bif(x19.length*8).ble 140737488355328 then
 bif(x29.length*8).ble 140737488355328 then
 some [I x0,I x1,I x2,I x3,I x4,I x5,I x6,I x7,I x8, .view Aa x9,I x10,I x11,I x12,I x13,I x14,I x15,I x16,I x17,I x18, .view Aa x19,I x20,I x21,I x22,I x23,I x24,I x25,I x26,I x27,I x28, .view Aa x29,I x30,I x31,I x32,I x33,I x34]
 else
 none
 else
 none
 else
 none:=by kernel_rfl
def PO:=Qoc
theorem Z51:Ai PG (XQ):=Ao rfl trivial
theorem Zhl:Aj PG (54,Ac VJ Vu PO):=rw1 (C:=XQ) Z51
def Qfs:Sk:=⟨[TS.v true (cc 9++[CS.sl Aa])],[],[]⟩
def Qmd:Sk:=⟨[tf [CS.bool]],[],[]⟩
def Zqe (M:Fn):Nat×Spec:=(141,Ac Qfs Qmd M)
def Qqv (BD:Fn):Cfg:=cf [Zd BD]
def Q8r:Sk:=⟨[td,tf [CS.ptr 1 0]]++dd 24++[tf [CS.sl Aa],tf [ci],tf [ci]]++dd 29,[(1,26,cc 9++[CS.sl Aa])],[]⟩
def Q48:List (Ex×Sk):=[(Ex.ret,⟨[td,td,tf [CS.bool]]++dd 55,[],[]⟩),(Ex.exit 0,⟨[td]++dd 57,[],[]⟩)]
def Qf8 (BD:Fn):Lp:=AT PG (Qqv BD) 64 6 (AU PG 141 6) Q8r Q48
def Qs2 (BD:Fn) (N6:Lp):Cfg:=(Qqv BD).loop 6 Q8r Q48 N6
def Qlh (BD:Fn) (N6:Lp):Fn:=Am PG (Qs2 BD N6) 64 141 Qfs Qmd
theorem Z6t (BD:Fn) (v0:Rw) (v1 v2 v3 v4 v5 v6 v7 v8 v9 v10 v11:Int) (v12:Rw):Qf8 BD [.view Aa v0,I v1,I v2,I v3,I v4,I v5,I v6,I v7,I v8,I v9,I v10,I v11, .view Aa v12]=
 bif decide (v2<v1)then
 bif decide (0<=v2)&&decide (v2<(v0.length:Int))then
 (BD [jA (nth [] v0 v2.toNat) 0,I (-4096),I 4096]).bind fun o7=>
 bif !bA o7 0 then
 some (1,[B false])
 else
 bif decide (v2>0)then
 bif decide (0<=wrap .i64 (v2-1))&&decide (wrap .i64 (v2-1)<(v12.length:Int))then
 (BD [I (wrap .i64 (gA (nth [] v0 v2.toNat) 0-gA (nth [] v12 (wrap .i64 (v2-1)).toNat) 0)),I (wrap .i64 (0-wrap .i64 (v11.tdiv 4))),I (wrap .i64 (v11.tdiv 4))]).bind fun o8=>
 bif !bA o8 0 then
 some (1,[B false])
 else
 some (0,[.view Aa v0,I v1,I (wrap .i64 (v2+1)),I v3,I v4,I v5,I v6,I v7,I v8,I v9,I v10,I v11, .view Aa v12])
 else
 none
 else
 some (0,[.view Aa v0,I v1,I (wrap .i64 (v2+1)),I v3,I v4,I v5,I v6,I v7,I v8,I v9,I v10,I v11, .view Aa v12])
 else
 none
 else
 some (2,[]):=by kernel_rfl
theorem Z65 (BD:Fn) (N6:Lp) (x0 x1 x2 x3 x4 x5 x6 x7 x8:Int) (x9:Rw):Qlh BD N6 [I x0,I x1,I x2,I x3,I x4,I x5,I x6,I x7,I x8, .view Aa x9]=
 bif(x9.length:Int)==0 then
 some [B true]
 else
 bif decide ((x9.length:Int)>64)then
 some [B false]
 else
 (BD [I x7,I (-16777216),I 16777216]).bind fun o9=>
 bif !bA o9 0 then
 some [B false]
 else
 (BD [I x8,I 4,I 16777216]).bind fun o10=>
 bif !bA o10 0 then
 some [B false]
 else
 (N6 [.view Aa x9,I (x9.length:Int),I 0,I x0,I x1,I x2,I x3,I x4,I x5,I x6,I x7,I x8, .view Aa x9]).bind fun o11=>
 bif o11.1.beq 1 then
 some [B (bA o11.2 0)]
 else
 bif o11.1.beq 2 then
 some [B true]
 else
 none:=by kernel_rfl
def Q81:=An (Qf8 G_)
def Pm:=Qlh G_ Q81
theorem Qtj:Ai PG (Qqv G_):=Ao rfl ⟨Qd9,trivial⟩
theorem Z6g:Aj PG (141,Ac Qfs Qmd Pm):=rw2 (C:=(Qs2 G_ Q81)) (fl fb Qtj) Qtj
def Qat:Sk:=⟨[TS.v true (cc 9++[CS.sl Aa])],[],[]⟩
def Qnc:Sk:=⟨[tf [CS.bool]],[],[]⟩
def Zgd (M:Fn):Nat×Spec:=(86,Ac Qat Qnc M)
def Qbg (Oh BD:Fn):Cfg:=cf [Zqe Oh,Zd BD]
def ZH (Oh BD:Fn):Fn:=Am PG (Qbg Oh BD) 64 86 Qat Qnc
theorem Zpj (Oh BD:Fn) (x0 x1 x2 x3 x4 x5 x6 x7 x8:Int) (x9:Rw):ZH Oh BD [I x0,I x1,I x2,I x3,I x4,I x5,I x6,I x7,I x8, .view Aa x9]=
 (BD [I x0,I 4,I 4096]).bind fun o6=>
 bif bA o6 0 then
 (BD [I x1,I 1,I 1048576]).bind fun o7=>
 bif bA o7 0 then
 (BD [I x2,I 2,I 1048576]).bind fun o8=>
 bif bA o8 0 then
 (BD [I x3,I 4,I 1048576]).bind fun o9=>
 bif decide (x4>= -16777216)then
 bif decide (x5<=16777216)then
 bif bA o9 0 then
 bif decide (x4<=x5)then
 (BD [I x6,I 0,I 64]).bind fun o10=>
 bif bA o10 0 then
 (Oh [I x0,I x1,I x2,I x3,I x4,I x5,I x6,I x7,I x8, .view Aa x9]).bind fun o11=>
 some [B (bA o11 0)]
 else
 some [B false]
 else
 some [B false]
 else
 some [B false]
 else
 bif bA o9 0 then
 some [B false]
 else
 some [B false]
 else
 bif bA o9 0 then
 some [B false]
 else
 some [B false]
 else
 bif decide (x4>= -16777216)then
 bif decide (x5<=16777216)then
 some [B false]
 else
 some [B false]
 else
 some [B false]
 else
 bif decide (x4>= -16777216)then
 bif decide (x5<=16777216)then
 some [B false]
 else
 some [B false]
 else
 some [B false]
 else
 bif decide (x4>= -16777216)then
 bif decide (x5<=16777216)then
 some [B false]
 else
 some [B false]
 else
 some [B false]:=by kernel_rfl
def P2:=ZH Pm G_
theorem Zkw:Ai PG (Qbg Pm G_):=Ao rfl ⟨Z6g,Qd9,trivial⟩
theorem Zxm:Aj PG (86,Ac Qat Qnc P2):=rw1 (C:=(Qbg Pm G_)) Zkw
def X0:Sk:=⟨[TS.v true (cc 9++[CS.sl Aa]++cc 9++[CS.sl Aa]++cc 9++[CS.sl Aa]++cc 5)],[],[]⟩
def W3:Sk:=⟨[tf [CS.bool]],[],[]⟩
def Zey (M:Fn):Nat×Spec:=(53,Ac X0 W3 M)
def Xv (Dd BH Km:Fn):Cfg:={cf [UH Dd,Qcd BH,Zgd Km]with unroll:=[2]}
def Qee (Dd BH Km:Fn):Fn:=Am PG (Xv Dd BH Km) 64 53 X0 W3
theorem Zvx (Dd BH Km:Fn) (x0 x1 x2 x3 x4 x5 x6 x7 x8:Int) (x9:Rw) (x10 x11 x12 x13 x14 x15 x16 x17 x18:Int) (x19:Rw) (x20 x21 x22 x23 x24 x25 x26 x27 x28:Int) (x29:Rw) (x30 x31 x32 x33 x34:Int):Qee Dd BH Km [I x0,I x1,I x2,I x3,I x4,I x5,I x6,I x7,I x8, .view Aa x9,I x10,I x11,I x12,I x13,I x14,I x15,I x16,I x17,I x18, .view Aa x19,I x20,I x21,I x22,I x23,I x24,I x25,I x26,I x27,I x28, .view Aa x29,I x30,I x31,I x32,I x33,I x34]=
 (Km [I x0,I x1,I x2,I x3,I x4,I x5,I x6,I x7,I x8, .view Aa x9]).bind fun o5=>
 bif !bA o5 0 then
 some [B false]
 else
 (Km [I x10,I x11,I x12,I x13,I x14,I x15,I x16,I x17,I x18, .view Aa x19]).bind fun o6=>
 bif !bA o6 0 then
 some [B false]
 else
 (Km [I x20,I x21,I x22,I x23,I x24,I x25,I x26,I x27,I x28, .view Aa x29]).bind fun o7=>
 bif !bA o7 0 then
 some [B false]
 else
 (BH [I x30,I x31,I x32]).bind fun o8=>
 bif bA o8 0 then
 bif decide (x33>=1)then
 (Dd [I 30000]).bind fun o9=>
 bif decide (x33<=gA o9 0)then
 bif decide (x34>=0)then
 some [B (decide (x34<=1048576))]
 else
 some [B false]
 else
 some [B false]
 else
 some [B false]
 else
 some [B false]:=by kernel_rfl
def PQ:=Qee EB EL P2
theorem Z46:Ai PG (Xv EB EL P2):=Ao rfl ⟨Qp1,Qbe,Zxm,trivial⟩
theorem Zk9:Aj PG (53,Ac X0 W3 PQ):=rw1 (C:=(Xv EB EL P2)) Z46
def Qby:Sk:=⟨[TS.v true (cc 9++[CS.sl Aa]++cc 9++[CS.sl Aa]++cc 9++[CS.sl Aa]++cc 5),tf [CS.sl Al],tf [CS.bool]],[],[]⟩
def Qje:Sk:=⟨[TS.tup [(false,[CS.ptr 19 0]),(false,[ci])]],[(19,119,cS)],[]⟩
def Qts (M:Fn):Nat×Spec:=(20,Ac Qby Qje M)
def X2 (FY Oe Np FZ OO NX MJ:Fn):Cfg:={cp [Qwn FY,Zg1 Oe,Z2x Np,Zaz FZ,Zbn OO,Z7k NX,Zey MJ] [57]with fstore:=true}
def Sw (FY Oe Np FZ OO NX MJ:Fn):Fn:=Am PG (X2 FY Oe Np FZ OO NX MJ) 64 20 Qby Qje
theorem Zvp (FY Oe Np FZ OO NX MJ:Fn) (x0 x1 x2 x3 x4 x5 x6 x7 x8:Int) (x9:Rw) (x10 x11 x12 x13 x14 x15 x16 x17 x18:Int) (x19:Rw) (x20 x21 x22 x23 x24 x25 x26 x27 x28:Int) (x29:Rw) (x30 x31 x32 x33 x34:Int) (x35:Rw) (x36:Bool):Sw FY Oe Np FZ OO NX MJ [I x0,I x1,I x2,I x3,I x4,I x5,I x6,I x7,I x8, .view Aa x9,I x10,I x11,I x12,I x13,I x14,I x15,I x16,I x17,I x18, .view Aa x19,I x20,I x21,I x22,I x23,I x24,I x25,I x26,I x27,I x28, .view Aa x29,I x30,I x31,I x32,I x33,I x34, .view Al x35,B x36]=
 (MJ [I x0,I x1,I x2,I x3,I x4,I x5,I x6,I x7,I x8, .view Aa x9,I x10,I x11,I x12,I x13,I x14,I x15,I x16,I x17,I x18, .view Aa x19,I x20,I x21,I x22,I x23,I x24,I x25,I x26,I x27,I x28, .view Aa x29,I x30,I x31,I x32,I x33,I x34]).bind fun o7=>
 bif !bA o7 0 then
 none
 else
 (NX [I x0,I x1,I x2,I x3,I x4,I x5,I x6,I x7,I x8, .view Aa x9,I x10,I x11,I x12,I x13,I x14,I x15,I x16,I x17,I x18, .view Aa x19,I x20,I x21,I x22,I x23,I x24,I x25,I x26,I x27,I x28, .view Aa x29,I x30,I x31,I x32,I x33,I x34]).bind fun o8=>
 (OO []).bind fun o9=>
 (FZ []).bind fun o10=>
 (Np [.view Al x35,B x36,jA o8 0,jA o8 1,jA o8 2,jA o8 3,jA o8 4,jA o8 5,jA o8 6,jA o8 7,jA o8 8, .view Aa (wA o8 9),jA o8 10,jA o8 11,jA o8 12,jA o8 13,jA o8 14,jA o8 15,jA o8 16,jA o8 17,jA o8 18, .view Aa (wA o8 19),jA o8 20,jA o8 21,jA o8 22,jA o8 23,jA o8 24,jA o8 25,jA o8 26,jA o8 27,jA o8 28, .view Aa (wA o8 29),jA o8 30,jA o8 31,jA o8 32,jA o8 33,jA o8 34, .view Al [],B false,I 0,I 0,I 0, .view Ag [], .view kPt [],I 0,I 0, .view Ap [],I 0,I 0,I 0,I 0,I 0,I 0,I 0,I 0,I 0,I 0,I 0,jA o9 0,jA o9 1,B (bA o9 2),B (bA o9 3),B (bA o9 4),jA o10 0,jA o10 1,jA o10 2,I 1,I 0,I 0,I 0,I 0,I 0,I 0,I 0,I 0,B false,I 0,B false,I 0,B false,I 0,I (-1),I 0,I 0,I 0,I 0,I 0,I 0,I 0,B false,B false,B false]).bind fun o11=>
 bif gA o11 0 !=0 then
 none
 else
 (Oe [jA o11 38,jA o11 39,jA o11 40, .view Ag (wA o11 41), .view kPt (wA o11 42),jA o11 1,jA o11 2,jA o11 3,jA o11 4,jA o11 5,jA o11 6,jA o11 7,jA o11 8,jA o11 9, .view Aa (wA o11 10),jA o11 11,jA o11 12,jA o11 13,jA o11 14,jA o11 15,jA o11 16,jA o11 17,jA o11 18,jA o11 19, .view Aa (wA o11 20),jA o11 21,jA o11 22,jA o11 23,jA o11 24,jA o11 25,jA o11 26,jA o11 27,jA o11 28,jA o11 29, .view Aa (wA o11 30),I 1,I 1,I 1,I 0,jA o11 43]).bind fun o12=>
 (FY [I 0]).bind fun o13=>
 some (I 0::DY (cR 1 o11) [(44, .view Ap (wA o12 0)),(45,jA o12 1),(46,jA o12 2),(47,jA o12 3),(48,jA o12 4),(49,jA o12 5),(50,jA o13 0),(51,jA o13 1),(52,jA o13 2),(53,jA o13 3),(54,jA o13 4),(55,jA o13 5)]):=by kernel_rfl
def Ie:=Sw IZ Pn TR JN PY PO PQ
theorem Z3c:Ai PG (X2 IZ Pn TR JN PY PO PQ):=Ao rfl ⟨Qtl,Zf4,Znn,Qul,Zwl,Zhl,Zk9,trivial⟩
theorem Qq3:Aj PG (20,Ac Qby Qje Ie):=rw1 (C:=(X2 IZ Pn TR JN PY PO PQ)) Z3c
def Qqx:Sk:=⟨[tf [CS.sl kPt]],[],[]⟩
def Qmt:Sk:=⟨[tf [CS.sl kPt]],[],[]⟩
def Zuk (M:Fn):Nat×Spec:=(18,Ac Qqx Qmt M)
def C_cncmill_Calm_0:Cfg:={cf []with prom:=fun b=>bif Nat.beq b 3 then [(3,69)]else []}
def Qu5:Sk:=⟨[td,td,td,tf [CS.own 3 3],td,td,tf [CS.sl kPt],tf [ci],tf [ci]]++dd 12,[],[(3,69,kPt)]⟩
def Q0m:List (Ex×Sk):=[(Ex.exit 0,⟨[td,td,td,tf [CS.own 3 3]]++dd 17,[],[(3,69,kPt)]⟩)]
def Rl:Lp:=AT PG C_cncmill_Calm_0 64 3 (AU PG 18 3) Qu5 Q0m
def Q7y (N3:Lp):Cfg:=C_cncmill_Calm_0.loop 3 Qu5 Q0m N3
def Qqz (N3:Lp):Fn:=Am PG (Q7y N3) 64 18 Qqx Qmt
theorem Z4a (v0 v1:Rw) (v2 v3:Int):Rl [.view kPt v0, .view kPt v1,I v2,I v3]=
 bif decide (v3<v2)then
 bif decide (0<=v3)&&decide (v3<(v1.length:Int))then
 bif decide (gA (nth [] v1 v3.toNat) 1<=6)then
 bif((v0++[[jA (nth [] v1 v3.toNat) 0,jA (nth [] v1 v3.toNat) 1,jA (nth [] v1 v3.toNat) 2]]).length*24).ble 140737488355328 then
 some (0,[.view kPt (v0++[[jA (nth [] v1 v3.toNat) 0,jA (nth [] v1 v3.toNat) 1,jA (nth [] v1 v3.toNat) 2]]), .view kPt v1,I v2,I (wrap .i64 (v3+1))])
 else
 none
 else
 some (0,[.view kPt v0, .view kPt v1,I v2,I (wrap .i64 (v3+1))])
 else
 none
 else
 some (1,[.view kPt v0]):=by kernel_rfl
theorem Zhu (N3:Lp) (x0:Rw):Qqz N3 [.view kPt x0]=
 (N3 [.view kPt [], .view kPt x0,I (x0.length:Int),I 0]).bind fun o1=>
 bif o1.1.beq 1 then
 some [.view kPt (wA o1.2 0)]
 else
 none:=by kernel_rfl
def Q24:=An (Rl)
def Mn:=Qqz Q24
theorem Qy4:Ai PG (C_cncmill_Calm_0):=Ao rfl trivial
theorem Zn6:Aj PG (18,Ac Qqx Qmt Mn):=rw2 (C:=(Q7y Q24)) (fl fb Qy4) Qy4
def Qln:Sk:=⟨[tf [ci],tf [ci]],[],[]⟩
def Qc3:Sk:=⟨[tf [ci]],[],[]⟩
def Q3o (M:Fn):Nat×Spec:=(17,Ac Qln Qc3 M)
def Qh2:Cfg:=cf []
def Qyv:Fn:=Am PG Qh2 64 17 Qln Qc3
theorem Zbo (x0 x1:Int):Qyv [I x0,I x1]=
 bif decide (x1=0)then
 none
 else
 bif decide (x1=0)then
 none
 else
 some [I ((wrap .i64 (x0.tmod x1+x1)).tmod x1)]:=by kernel_rfl
def HV:=Qyv
theorem Zlr:Ai PG (Qh2):=Ao rfl trivial
theorem Qr7:Aj PG (17,Ac Qln Qc3 HV):=rw1 (C:=Qh2) Zlr
def WQ:Sk:=⟨[tf [CS.ptr 20000 0],tf [ci]],[(20000,103,[CS.sl Aa,ci])],[]⟩
def Vl:Sk:=⟨[tf [ci]],[(20000,103,[CS.sl Aa,ci])],[]⟩
def Ji (M:Fn):Nat×Spec:=(48,Ac WQ Vl M)
def Qnu (DM:Fn):Cfg:=cf [Q3o DM]
def Qfk (DM:Fn):Fn:=Am PG (Qnu DM) 64 48 WQ Vl
theorem Zgr (DM:Fn) (x0:Int) (x1:Rw) (x2:Int):Qfk DM [I x0, .view Aa x1,I x2]=
 bif decide (x2>=(x1.length:Int))then
 some [I 0, .view Aa x1,I x2]
 else
 bif decide (0<=x2)&&decide (x2<(x1.length:Int))then
 (DM [jA (nth [] x1 x2.toNat) 0,I x0]).bind fun o1=>
 some [jA o1 0, .view Aa x1,I (wrap .i64 (x2+1))]
 else
 none:=by kernel_rfl
def Bv:=Qfk HV
theorem Zxw:Ai PG (Qnu HV):=Ao rfl ⟨Qr7,trivial⟩
theorem Js:Aj PG (48,Ac WQ Vl Bv):=rw1 (C:=(Qnu HV)) Zxw
def Qkr:Sk:=⟨[tf [CS.ptr 20000 0],tf [ci]],[(20000,103,[CS.sl Aa,ci])],[]⟩
def W1:Sk:=⟨[TS.v true [ci,ci,ci]],[(20000,103,[CS.sl Aa,ci])],[]⟩
def Z7g (M:Fn):Nat×Spec:=(52,Ac Qkr W1 M)
def Qjn (Aq:Fn):Cfg:=cp [Ji Aq] [48]
def Qha (Aq:Fn):Fn:=Am PG (Qjn Aq) 64 52 Qkr W1
abbrev Q5 (Aq:Fn) (o9:List AC) (x0:Int) (h1_0:AC):Option (List AC):=
 (Aq [h1_0, .view Aa (wA o9 1),jA o9 2]).bind fun o10=>
 some [I x0,I (Af (nth .dead (nth [] [[I 4],[I 1],[I 2],[I 3],[I 4],[I 5],[I 6],[I 7],[I 4],[I 8],[I 9],[I 11],[I 12],[I 13],[I 10]] (gA o9 0).toNat) 0)),I (wrap .i64 (gA o10 0-5)), .view Aa (wA o10 1),jA o10 2]
attribute [go_sem] Q5
theorem Z09 (Aq:Fn) (x0:Int) (x1:Rw) (x2:Int):Qha Aq [I x0, .view Aa x1,I x2]=
 (Aq [I 15, .view Aa x1,I x2]).bind fun o9=>
 bif decide (0<=gA o9 0)&&decide (gA o9 0<(↑[[I 4],[I 1],[I 2],[I 3],[I 4],[I 5],[I 6],[I 7],[I 4],[I 8],[I 9],[I 11],[I 12],[I 13],[I 10]].length:Int))then
 bif Af (nth .dead (nth [] [[I 4],[I 1],[I 2],[I 3],[I 4],[I 5],[I 6],[I 7],[I 4],[I 8],[I 9],[I 11],[I 12],[I 13],[I 10]] (gA o9 0).toNat) 0)==1 then
 Q5 Aq o9 x0 (I 220)
 else
 bif Af (nth .dead (nth [] [[I 4],[I 1],[I 2],[I 3],[I 4],[I 5],[I 6],[I 7],[I 4],[I 8],[I 9],[I 11],[I 12],[I 13],[I 10]] (gA o9 0).toNat) 0)==2 then
 Q5 Aq o9 x0 (I 220)
 else
 bif Af (nth .dead (nth [] [[I 4],[I 1],[I 2],[I 3],[I 4],[I 5],[I 6],[I 7],[I 4],[I 8],[I 9],[I 11],[I 12],[I 13],[I 10]] (gA o9 0).toNat) 0)==5 then
 (Aq [I 3, .view Aa (wA o9 1),jA o9 2]).bind fun o12=>
 some [I x0,I (Af (nth .dead (nth [] [[I 4],[I 1],[I 2],[I 3],[I 4],[I 5],[I 6],[I 7],[I 4],[I 8],[I 9],[I 11],[I 12],[I 13],[I 10]] (gA o9 0).toNat) 0)),jA o12 0, .view Aa (wA o12 1),jA o12 2]
 else
 bif Af (nth .dead (nth [] [[I 4],[I 1],[I 2],[I 3],[I 4],[I 5],[I 6],[I 7],[I 4],[I 8],[I 9],[I 11],[I 12],[I 13],[I 10]] (gA o9 0).toNat) 0)==6 then
 (Aq [I 3, .view Aa (wA o9 1),jA o9 2]).bind fun o13=>
 some [I x0,I (Af (nth .dead (nth [] [[I 4],[I 1],[I 2],[I 3],[I 4],[I 5],[I 6],[I 7],[I 4],[I 8],[I 9],[I 11],[I 12],[I 13],[I 10]] (gA o9 0).toNat) 0)),jA o13 0, .view Aa (wA o13 1),jA o13 2]
 else
 bif Af (nth .dead (nth [] [[I 4],[I 1],[I 2],[I 3],[I 4],[I 5],[I 6],[I 7],[I 4],[I 8],[I 9],[I 11],[I 12],[I 13],[I 10]] (gA o9 0).toNat) 0)==7 then
 Q5 Aq o9 x0 (I 300)
 else
 bif Af (nth .dead (nth [] [[I 4],[I 1],[I 2],[I 3],[I 4],[I 5],[I 6],[I 7],[I 4],[I 8],[I 9],[I 11],[I 12],[I 13],[I 10]] (gA o9 0).toNat) 0)==8 then
 (Aq [I 5, .view Aa (wA o9 1),jA o9 2]).bind fun o15=>
 some [I x0,I (Af (nth .dead (nth [] [[I 4],[I 1],[I 2],[I 3],[I 4],[I 5],[I 6],[I 7],[I 4],[I 8],[I 9],[I 11],[I 12],[I 13],[I 10]] (gA o9 0).toNat) 0)),I (wrap .i64 (gA o15 0-1)), .view Aa (wA o15 1),jA o15 2]
 else
 bif Af (nth .dead (nth [] [[I 4],[I 1],[I 2],[I 3],[I 4],[I 5],[I 6],[I 7],[I 4],[I 8],[I 9],[I 11],[I 12],[I 13],[I 10]] (gA o9 0).toNat) 0)==13 then
 (Aq [I 4, .view Aa (wA o9 1),jA o9 2]).bind fun o16=>
 (Aq [I 60, .view Aa (wA o16 1),jA o16 2]).bind fun o17=>
 some [I x0,I (Af (nth .dead (nth [] [[I 4],[I 1],[I 2],[I 3],[I 4],[I 5],[I 6],[I 7],[I 4],[I 8],[I 9],[I 11],[I 12],[I 13],[I 10]] (gA o9 0).toNat) 0)),I (wrap .i64 (wrap .i64 (gA o16 0*1048576)+gA o17 0)), .view Aa (wA o17 1),jA o17 2]
 else
 some [I x0,I (Af (nth .dead (nth [] [[I 4],[I 1],[I 2],[I 3],[I 4],[I 5],[I 6],[I 7],[I 4],[I 8],[I 9],[I 11],[I 12],[I 13],[I 10]] (gA o9 0).toNat) 0)),I 0, .view Aa (wA o9 1),jA o9 2]
 else
 none:=by kernel_rfl
def Lw:=Qha Bv
theorem Zyi:Ai PG (Qjn Bv):=Ao rfl ⟨Js,trivial⟩
theorem Z60:Aj PG (52,Ac Qkr W1 Lw):=rw1 (C:=(Qjn Bv)) Zyi
def W0:Sk:=⟨[tf [CS.ptr 20000 0]],[(20000,103,[CS.sl Aa,ci])],[]⟩
def Qmb:Sk:=⟨[tf [CS.bool]],[(20000,103,[CS.sl Aa,ci])],[]⟩
def Q0p (M:Fn):Nat×Spec:=(49,Ac W0 Qmb M)
def Qe5:Cfg:=cf []
def Q5u:Fn:=Am PG Qe5 64 49 W0 Qmb
theorem Zde (x0:Rw) (x1:Int):Q5u [.view Aa x0,I x1]=
 some [B (decide (x1<(x0.length:Int))), .view Aa x0,I x1]:=by kernel_rfl
def FV:=Q5u
theorem Zlq:Ai PG (Qe5):=Ao rfl trivial
theorem Qwo:Aj PG (49,Ac W0 Qmb FV):=rw1 (C:=Qe5) Zlq
def WZ:Sk:=⟨[tf [CS.sl Aa]],[],[]⟩
def Vn:Sk:=⟨[tf [CS.ptr 5 0]],[(5,103,[CS.sl Aa,ci])],[]⟩
def QE (M:Fn):Nat×Spec:=(45,Ac WZ Vn M)
def XK:Cfg:=cf []
def Qs6:Fn:=Am PG XK 64 45 WZ Vn
theorem Zgn (x0:Rw):Qs6 [.view Aa x0]=
 some [.view Aa x0,I 0]:=by kernel_rfl
def Co:=Qs6
theorem Z0p:Ai PG (XK):=Ao rfl trivial
theorem Pi:Aj PG (45,Ac WZ Vn Co):=rw1 (C:=XK) Z0p
def Qav:Sk:=⟨[tf [CS.sl Aa]],[],[]⟩
def Qi2:Sk:=⟨[tf [CS.sl kPt]],[],[]⟩
def Zqa (M:Fn):Nat×Spec:=(19,Ac Qav Qi2 M)
def U_ (GV Aq CG A8:Fn):Cfg:={cp [Z7g GV,Ji Aq,Q0p CG,QE A8] [52,48,49,45]with prom:=fun b=>bif Nat.beq b 4 then [(4,69)]else []}
def Q8y:Sk:=⟨[td,td,td,tf [CS.ptr 100700 0],tf [CS.own 4 3],tf [ci]]++dd 15,[(100700,103,[CS.sl Aa,ci])],[(4,69,kPt)]⟩
def Qwz:List (Ex×Sk):=[(Ex.exit 0,⟨[td,td,td,td,tf [CS.own 4 3]]++dd 16,[],[(4,69,kPt)]⟩)]
def Qiy (GV Aq CG A8:Fn):Lp:=AT PG (U_ GV Aq CG A8) 64 4 (AU PG 19 4) Q8y Qwz
def Zal (GV Aq CG A8:Fn) (N4:Lp):Cfg:=(U_ GV Aq CG A8).loop 4 Q8y Qwz N4
def Qmz (GV Aq CG A8:Fn) (N4:Lp):Fn:=Am PG (Zal GV Aq CG A8 N4) 64 19 Qav Qi2
theorem Ze0 (GV Aq CG A8:Fn) (v0:Rw) (v1:Int) (v2:Rw) (v3:Int):Qiy GV Aq CG A8 [.view kPt v0,I v1, .view Aa v2,I v3]=
 (CG [.view Aa v2,I v3]).bind fun o10=>
 bif bA o10 0 then
 (Aq [I 40, .view Aa (wA o10 1),jA o10 2]).bind fun o11=>
 (GV [I (wrap .i64 (v1+gA o11 0)), .view Aa (wA o11 1),jA o11 2]).bind fun o12=>
 bif((v0++[[jA o12 0,jA o12 1,jA o12 2]]).length*24).ble 140737488355328 then
 some (0,[.view kPt (v0++[[jA o12 0,jA o12 1,jA o12 2]]),I (wrap .i64 (v1+gA o11 0)), .view Aa (wA o12 3),jA o12 4])
 else
 none
 else
 some (1,[.view kPt v0]):=by kernel_rfl
theorem Zjs (GV Aq CG A8:Fn) (N4:Lp) (x0:Rw):Qmz GV Aq CG A8 N4 [.view Aa x0]=
 (A8 [.view Aa x0]).bind fun o13=>
 (N4 [.view kPt [],I 0, .view Aa (wA o13 0),jA o13 1]).bind fun o14=>
 bif o14.1.beq 1 then
 some [.view kPt (wA o14.2 0)]
 else
 none:=by kernel_rfl
def Qra:=An (Qiy Lw Bv FV Co)
def O8:=Qmz Lw Bv FV Co Qra
theorem Qyy:Ai PG (U_ Lw Bv FV Co):=Ao rfl ⟨Z60,Js,Qwo,Pi,trivial⟩
theorem Zyq:Aj PG (19,Ac Qav Qi2 O8):=rw2 (C:=(Zal Lw Bv FV Co Qra)) (fl fb Qyy) Qyy
def Qpf:Sk:=⟨[tf [ci],tf [ci],tf [ci],tf [ci]],[],[]⟩
def WN:Sk:=⟨[TS.v true [ci,ci,ci]],[],[]⟩
def Z5l (M:Fn):Nat×Spec:=(139,Ac Qpf WN M)
def Qfp:Cfg:=cf []
def Qrf:Fn:=Am PG Qfp 64 139 Qpf WN
theorem Zks (x0 x1 x2 x3:Int):Qrf [I x0,I x1,I x2,I x3]=
 bif x3==17 then
 some [I x0,I x1,I x2]
 else
 bif x3==18 then
 some [I x1,I x2,I x0]
 else
 bif x3==19 then
 some [I x2,I x0,I x1]
 else
 some [I 0,I 0,I 0]:=by kernel_rfl
def Mm:=Qrf
theorem Znk:Ai PG (Qfp):=Ao rfl trivial
theorem Zst:Aj PG (139,Ac Qpf WN Mm):=rw1 (C:=Qfp) Znk
def Qe3:Sk:=⟨[tf [ci],tf [ci]],[],[]⟩
def Qbc:Sk:=⟨[TS.tup [(false,[ci]),(false,[ci])]],[],[]⟩
def Zqv (M:Fn):Nat×Spec:=(138,Ac Qe3 Qbc M)
def Z1:Cfg:=cf []
def Qvk:Fn:=Am PG Z1 64 138 Qe3 Qbc
theorem Zu5 (x0 x1:Int):Qvk [I x0,I x1]=
 bif decide (0<=x1.tmod 4)&&decide (x1.tmod 4<(↑[[I x0],[I 0],[I (wrap .i64 (0-x0))],[I 0]].length:Int))then
 bif decide (0<=x1.tmod 4)&&decide (x1.tmod 4<(↑[[I 0],[I x0],[I 0],[I (wrap .i64 (0-x0))]].length:Int))then
 some [I (Af (nth .dead (nth [] [[I x0],[I 0],[I (wrap .i64 (0-x0))],[I 0]] (x1.tmod 4).toNat) 0)),I (Af (nth .dead (nth [] [[I 0],[I x0],[I 0],[I (wrap .i64 (0-x0))]] (x1.tmod 4).toNat) 0))]
 else
 none
 else
 none:=by kernel_rfl
def Nv:=Qvk
theorem Z7i:Ai PG (Z1):=Ao rfl trivial
theorem Zdg:Aj PG (138,Ac Qe3 Qbc Nv):=rw1 (C:=Z1) Z7i
def Qco:Sk:=⟨[TS.v true [ci,ci,ci],tf [ci]],[],[]⟩
def Qqk:Sk:=⟨[TS.tup [(false,[ci]),(false,[ci]),(false,[ci])]],[],[]⟩
def Zvv (M:Fn):Nat×Spec:=(137,Ac Qco Qqk M)
def Qbk:Cfg:=cf []
def Q6f:Fn:=Am PG Qbk 64 137 Qco Qqk
theorem Zhy (x0 x1 x2 x3:Int):Q6f [I x0,I x1,I x2,I x3]=
 bif x3==17 then
 some [I x0,I x1,I x2]
 else
 bif x3==18 then
 some [I x2,I x0,I x1]
 else
 bif x3==19 then
 some [I x1,I x2,I x0]
 else
 some [I 0,I 0,I 0]:=by kernel_rfl
def Nf:=Q6f
theorem Z1p:Ai PG (Qbk):=Ao rfl trivial
theorem Zqf:Aj PG (137,Ac Qco Qqk Nf):=rw1 (C:=Qbk) Z1p
def Xp:Sk:=⟨[tf [CS.ptr 20000 0],TS.v true [ci,ci,ci],tf [ci]],[(20000,103,[CS.sl Aa,ci])],[]⟩
def Qdx:Sk:=⟨[TS.v true (cc 13++[CS.bool,ci,CS.bool]++cc 5++[CS.bool])],[(20000,103,[CS.sl Aa,ci])],[]⟩
def Zbx (M:Fn):Nat×Spec:=(85,Ac Xp Qdx M)
def Zr (Hl Lr Oo Aq:Fn):Cfg:=cp [Z5l Hl,Zqv Lr,Zvv Oo,Ji Aq] [48]
def XA (Hl Lr Oo Aq:Fn):Fn:=Am PG (Zr Hl Lr Oo Aq) 64 85 Xp Qdx
abbrev TF (Aq Hl:Fn) (o23 o18:List AC) (x0 x1 x2:Int) (o26 o19 o22:List AC) (h1_0 h1_1 h1_2 h1_3:AC):Option (List AC):=
 (Aq [I 4,h1_0,h1_1]).bind fun o30=>
 bif decide (0<=gA o30 0)&&decide (gA o30 0<(↑[[I 0],[I 0],[I 7],[I (-12)]].length:Int))then
 (Hl [h1_2,h1_3,I (wrap .i64 (gA o23 2+Af (nth .dead (nth [] [[I 0],[I 0],[I 7],[I (-12)]] (gA o30 0).toNat) 0))),I (Af (nth .dead (nth [] [[I 17],[I 18],[I 19]] (gA o18 0).toNat) 0))]).bind fun o31=>
 some [I 3,I 0,I x0,I x1,I x2,jA o31 0,jA o31 1,jA o31 2,I (Af (nth .dead (nth [] [[I 17],[I 18],[I 19]] (gA o18 0).toNat) 0)),jA o26 0,jA o26 1,jA o26 2,I (wrap .i64 (1-wrap .i64 (gA o19 0*2))),B (gA o22 0==0),I 0,B false,I 0,I 0,I 0,I 0,I 0,B false, .view Aa (wA o30 1),jA o30 2]
 else
 none
attribute [go_sem] TF
theorem Zjo (Hl Lr Oo Aq:Fn) (x0 x1 x2 x3:Int) (x4:Rw) (x5:Int):XA Hl Lr Oo Aq [I x0,I x1,I x2,I x3, .view Aa x4,I x5]=
 (Aq [I 3, .view Aa x4,I x5]).bind fun o18=>
 bif decide (0<=gA o18 0)&&decide (gA o18 0<(↑[[I 17],[I 18],[I 19]].length:Int))then
 (Aq [I 2, .view Aa (wA o18 1),jA o18 2]).bind fun o19=>
 (Aq [I x3, .view Aa (wA o19 1),jA o19 2]).bind fun o20=>
 (Aq [I 4, .view Aa (wA o20 1),jA o20 2]).bind fun o21=>
 (Aq [I 4, .view Aa (wA o21 1),jA o21 2]).bind fun o22=>
 (Oo [I x0,I x1,I x2,I (Af (nth .dead (nth [] [[I 17],[I 18],[I 19]] (gA o18 0).toNat) 0))]).bind fun o23=>
 (Lr [I (wrap .i64 (8+gA o20 0)),jA o21 0]).bind fun o24=>
 (Lr [I (wrap .i64 (8+gA o20 0)),I (wrap .i64 (gA o21 0+gA o22 0))]).bind fun o25=>
 (Hl [I (wrap .i64 (gA o23 0-gA o24 0)),I (wrap .i64 (gA o23 1-gA o24 1)),jA o23 2,I (Af (nth .dead (nth [] [[I 17],[I 18],[I 19]] (gA o18 0).toNat) 0))]).bind fun o26=>
 bif decide (gA o22 0>0)then
 (Aq [I 3, .view Aa (wA o22 1),jA o22 2]).bind fun o27=>
 bif gA o27 0==0 then
 bif decide (wrap .i64 (8+gA o20 0)=0)then
 none
 else
 (Aq [I 5, .view Aa (wA o27 1),jA o27 2]).bind fun o28=>
 bif decide (wrap .i64 (8+gA o20 0)=0)then
 none
 else
 (Aq [I 5, .view Aa (wA o28 1),jA o28 2]).bind fun o29=>
 TF Aq Hl o23 o18 x0 x1 x2 o26 o19 o22 (.view Aa (wA o29 1)) (jA o29 2) (I (wrap .i64 (wrap .i64 (gA o23 0-gA o24 0)+wrap .i64 (gA o25 0+wrap .i64 (wrap .i64 ((gA o25 0).tdiv (wrap .i64 (8+gA o20 0)))*gA o28 0))))) (I (wrap .i64 (wrap .i64 (gA o23 1-gA o24 1)+wrap .i64 (gA o25 1+wrap .i64 (wrap .i64 ((gA o25 1).tdiv (wrap .i64 (8+gA o20 0)))*gA o29 0)))))
 else
 TF Aq Hl o23 o18 x0 x1 x2 o26 o19 o22 (.view Aa (wA o27 1)) (jA o27 2) (I (wrap .i64 (wrap .i64 (gA o23 0-gA o24 0)+gA o25 0))) (I (wrap .i64 (wrap .i64 (gA o23 1-gA o24 1)+gA o25 1)))
 else
 TF Aq Hl o23 o18 x0 x1 x2 o26 o19 o22 (.view Aa (wA o22 1)) (jA o22 2) (I (wrap .i64 (wrap .i64 (gA o23 0-gA o24 0)+gA o25 0))) (I (wrap .i64 (wrap .i64 (gA o23 1-gA o24 1)+gA o25 1)))
 else
 none:=by kernel_rfl
def Qy:=XA Mm Nv Nf Bv
theorem Zv1:Ai PG (Zr Mm Nv Nf Bv):=Ao rfl ⟨Zst,Zdg,Zqf,Js,trivial⟩
theorem Zu7:Aj PG (85,Ac Xp Qdx Qy):=rw1 (C:=(Zr Mm Nv Nf Bv)) Zv1
def Qgb:Sk:=⟨[tf [CS.ptr 20000 0],TS.v true [ci,ci,ci],tf [ci]],[(20000,103,[CS.sl Aa,ci])],[]⟩
def Vk:Sk:=⟨[TS.v true (cc 13++[CS.bool,ci,CS.bool]++cc 5++[CS.bool])],[(20000,103,[CS.sl Aa,ci])],[]⟩
def Zln (M:Fn):Nat×Spec:=(51,Ac Qgb Vk M)
def Qqh (Aq Og:Fn):Cfg:=cp [Ji Aq,Zbx Og] [48,85]
def Ww (Aq Og:Fn):Fn:=Am PG (Qqh Aq Og) 64 51 Qgb Vk
abbrev Qjy (Aq:Fn) (o20:List AC) (x3:Int) (h1_0 h1_1 h1_2 h1_3 h1_4 h1_5 h1_6 h1_7 h1_8 h1_9 h1_10 h1_11 h1_12 h1_13 h1_16 h1_17 h1_20 h1_21:AC):Option (List AC):=
 (Aq [I 60, .view Aa (wA o20 1),jA o20 2]).bind fun o21=>
 bif x3==6 then
 (Aq [I 2, .view Aa (wA o21 1),jA o21 2]).bind fun o22=>
 some [h1_0,h1_1,h1_2,h1_3,h1_4,h1_5,h1_6,h1_7,h1_8,h1_9,h1_10,h1_11,h1_12,h1_13,I (wrap .i64 (1+gA o21 0)),B true,h1_16,h1_17,I 0,I (wrap .i64 (3+gA o22 0)),h1_20,h1_21, .view Aa (wA o22 1),jA o22 2]
 else
 some [h1_0,h1_1,h1_2,h1_3,h1_4,h1_5,h1_6,h1_7,h1_8,h1_9,h1_10,h1_11,h1_12,h1_13,I (wrap .i64 (1+gA o21 0)),B true,h1_16,h1_17,I 0,I 0,h1_20,h1_21, .view Aa (wA o21 1),jA o21 2]
attribute [go_sem] Qjy
abbrev Qay (x3:Int) (Aq:Fn) (h1_0 h1_1 h1_2 h1_3 h1_4 h1_5 h1_6 h1_7 h1_8 h1_9 h1_10 h1_11 h1_12 h1_13 h1_14 h1_15 h1_16 h1_17 h1_18 h1_19 h1_20 h1_21 h1_22 h1_23:AC):Option (List AC):=
 bif x3==1 then
 some [h1_0,h1_1,h1_2,h1_3,h1_4,h1_5,h1_6,h1_7,h1_8,h1_9,h1_10,h1_11,h1_12,h1_13,h1_14,h1_15,h1_16,h1_17,h1_18,h1_19,h1_20,h1_21,h1_22,h1_23]
 else
 (Aq [I 5,h1_22,h1_23]).bind fun o19=>
 bif decide (0<=gA o19 0)&&decide (gA o19 0<(↑[[I 300000],[I 1],[I 60000],[I 2000000],[I 60000000]].length:Int))then
 (Aq [I 5, .view Aa (wA o19 1),jA o19 2]).bind fun o20=>
 bif decide (0<=gA o20 0)&&decide (gA o20 0<(↑[[I 0],[I 1],[I 2],[I 4],[I 9]].length:Int))then
 bif x3==5 then
 Qjy Aq o20 x3 h1_0 h1_1 h1_2 h1_3 h1_4 h1_5 h1_6 h1_7 h1_8 h1_9 h1_10 h1_11 h1_12 h1_13 h1_16 h1_17 h1_20 h1_21
 else
 bif x3==6 then
 Qjy Aq o20 x3 h1_0 h1_1 h1_2 h1_3 h1_4 h1_5 h1_6 h1_7 h1_8 h1_9 h1_10 h1_11 h1_12 h1_13 h1_16 h1_17 h1_20 h1_21
 else
 bif x3==4 then
 some [h1_0,h1_1,h1_2,h1_3,h1_4,h1_5,h1_6,h1_7,h1_8,h1_9,h1_10,h1_11,h1_12,h1_13,I (Af (nth .dead (nth [] [[I 300000],[I 1],[I 60000],[I 2000000],[I 60000000]] (gA o19 0).toNat) 0)),h1_15,h1_16,h1_17,I 0,h1_19,h1_20,h1_21, .view Aa (wA o20 1),jA o20 2]
 else
 some [h1_0,h1_1,h1_2,h1_3,h1_4,h1_5,h1_6,h1_7,h1_8,h1_9,h1_10,h1_11,h1_12,h1_13,I (Af (nth .dead (nth [] [[I 300000],[I 1],[I 60000],[I 2000000],[I 60000000]] (gA o19 0).toNat) 0)),h1_15,h1_16,h1_17,I (Af (nth .dead (nth [] [[I 0],[I 1],[I 2],[I 4],[I 9]] (gA o20 0).toNat) 0)),h1_19,h1_20,h1_21, .view Aa (wA o20 1),jA o20 2]
 else
 none
 else
 none
attribute [go_sem] Qay
theorem Zy5 (Aq Og:Fn) (x0 x1 x2 x3:Int) (x4:Rw) (x5:Int):Ww Aq Og [I x0,I x1,I x2,I x3, .view Aa x4,I x5]=
 bif x3==3 then
 (Og [I x0,I x1,I x2,I 8, .view Aa x4,I x5]).bind fun o18=>
 Qay x3 Aq (jA o18 0) (jA o18 1) (jA o18 2) (jA o18 3) (jA o18 4) (jA o18 5) (jA o18 6) (jA o18 7) (jA o18 8) (jA o18 9) (jA o18 10) (jA o18 11) (jA o18 12) (B (bA o18 13)) (jA o18 14) (B (bA o18 15)) (jA o18 16) (jA o18 17) (jA o18 18) (jA o18 19) (jA o18 20) (B (bA o18 21)) (.view Aa (wA o18 22)) (jA o18 23)
 else
 (Aq [I 25, .view Aa x4,I x5]).bind fun o25=>
 (Aq [I 25, .view Aa (wA o25 1),jA o25 2]).bind fun o26=>
 (Aq [I 3, .view Aa (wA o26 1),jA o26 2]).bind fun o27=>
 (Aq [I 9, .view Aa (wA o27 1),jA o27 2]).bind fun o28=>
 (Aq [I 2, .view Aa (wA o28 1),jA o28 2]).bind fun o29=>
 Qay x3 Aq (I x3) (I 0) (I x0) (I x1) (I x2) (I (wrap .i64 (wrap .i64 (x0+gA o25 0)-12))) (I (wrap .i64 (wrap .i64 (x1+gA o26 0)-12))) (I (wrap .i64 (wrap .i64 (x2+wrap .i64 (gA o27 0*gA o28 0))-wrap .i64 (8*gA o29 0)))) (I 0) (I 0) (I 0) (I 0) (I 0) (B false) (I 0) (B false) (I 0) (I 0) (I 0) (I 0) (I 0) (B false) (.view Aa (wA o29 1)) (jA o29 2):=by kernel_rfl
def L0:=Ww Bv Qy
theorem Ziu:Ai PG (Qqh Bv Qy):=Ao rfl ⟨Js,Zu7,trivial⟩
theorem Z1u:Aj PG (51,Ac Qgb Vk L0):=rw1 (C:=(Qqh Bv Qy)) Ziu
def Qc0:Sk:=⟨[tf [CS.ptr 20000 0]],[(20000,103,[CS.sl Aa,ci])],[]⟩
def Qnl:Sk:=⟨[TS.v true (cc 13++[CS.bool,ci,CS.bool]++cc 5++[CS.bool])],[(20000,103,[CS.sl Aa,ci])],[]⟩
def Zy9 (M:Fn):Nat×Spec:=(50,Ac Qc0 Qnl M)
def Qgc (Aq:Fn):Cfg:=cp [Ji Aq] [48]
def Qd5 (Aq:Fn):Fn:=Am PG (Qgc Aq) 64 50 Qc0 Qnl
abbrev Qdi (Aq:Fn) (o8:List AC):Option (List AC):=
 (Aq [I 16, .view Aa (wA o8 1),jA o8 2]).bind fun o9=>
 (Aq [I 2, .view Aa (wA o9 1),jA o9 2]).bind fun o10=>
 some [I 10,I 0,I 0,I 0,I 0,I 0,I 0,I 0,I 0,I 0,I 0,I 0,I 0,B false,I 0,B false,I 0,I 0,I 0,jA o9 0,I 0,B (gA o10 0==0), .view Aa (wA o10 1),jA o10 2]
attribute [go_sem] Qdi
theorem Zp9 (Aq:Fn) (x0:Rw) (x1:Int):Qd5 Aq [.view Aa x0,I x1]=
 (Aq [I 8, .view Aa x0,I x1]).bind fun o8=>
 bif gA o8 0==0 then
 Qdi Aq o8
 else
 bif gA o8 0==1 then
 Qdi Aq o8
 else
 bif gA o8 0==2 then
 (Aq [I 5, .view Aa (wA o8 1),jA o8 2]).bind fun o13=>
 some [I 7,I 0,I 0,I 0,I 0,I 0,I 0,I 0,I 0,I 0,I 0,I 0,I 0,B false,I 0,B false,I 0,I 0,I 0,jA o13 0,I 0,B false, .view Aa (wA o13 1),jA o13 2]
 else
 bif gA o8 0==3 then
 (Aq [I 3, .view Aa (wA o8 1),jA o8 2]).bind fun o14=>
 (Aq [I 4000, .view Aa (wA o14 1),jA o14 2]).bind fun o15=>
 some [I 8,I 0,I 0,I 0,I 0,I 0,I 0,I 0,I 0,I 0,I 0,I 0,I 0,B false,I 0,B false,I 0,I 0,I 0,I (wrap .i64 (3+gA o14 0)),jA o15 0,B false, .view Aa (wA o15 1),jA o15 2]
 else
 bif gA o8 0==4 then
 some [I 9,I 0,I 0,I 0,I 0,I 0,I 0,I 0,I 0,I 0,I 0,I 0,I 0,B false,I 0,B false,I 0,I 0,I 0,I 8,I 0,B true, .view Aa (wA o8 1),jA o8 2]
 else
 bif gA o8 0==5 then
 some [I 13,I 0,I 0,I 0,I 0,I 0,I 0,I 0,I 0,I 0,I 0,I 0,I 0,B false,I 0,B false,I 0,I 0,I 0,I 0,I 0,B false, .view Aa (wA o8 1),jA o8 2]
 else
 bif gA o8 0==6 then
 some [I 12,I 0,I 0,I 0,I 0,I 0,I 0,I 0,I 0,I 0,I 0,I 0,I 0,B false,I 0,B false,I 0,I 0,I 0,I 0,I 0,B false, .view Aa (wA o8 1),jA o8 2]
 else
 some [I 11,I 0,I 0,I 0,I 0,I 0,I 0,I 0,I 0,I 0,I 0,I 0,I 0,B false,I 0,B false,I 0,I 0,I 0,I 1,I 0,B false, .view Aa (wA o8 1),jA o8 2]:=by kernel_rfl
def KT:=Qd5 Bv
theorem Z3g:Ai PG (Qgc Bv):=Ao rfl ⟨Js,trivial⟩
theorem Zs9:Aj PG (50,Ac Qc0 Qnl KT):=rw1 (C:=(Qgc Bv)) Z3g
def Zh:Sk:=⟨[tf [CS.sl Aa],tf [ci],tf [CS.bool]],[],[]⟩
def Qgo:Sk:=⟨[tf [CS.sl Al]],[],[]⟩
def Zjm (M:Fn):Nat×Spec:=(16,Ac Zh Qgo M)
def Yi (Hd Gz CG Aq A8:Fn):Cfg:={cp [Zln Hd,Zy9 Gz,Q0p CG,Ji Aq,QE A8] [51,50,49,48,45]with prom:=fun b=>bif Nat.beq b 4 then [(8,74)]else []}
def Qu7:Sk:=⟨[td,tf [ci],tf [CS.bool],td,td,td,td,tf [CS.ptr 101300 0],tf [CS.own 8 22],tf [CS.ptr 9 0]]++dd 64,[(9,72,[ci,ci,ci]),(101300,103,[CS.sl Aa,ci])],[(8,74,Al)]⟩
def Q0k:List (Ex×Sk):=[(Ex.exit 0,⟨[td,td,tf [CS.bool],td,td,td,td,td,tf [CS.own 8 22]]++dd 65,[],[(8,74,Al)]⟩)]
def Qaw (Hd Gz CG Aq A8:Fn):Lp:=AT PG (Yi Hd Gz CG Aq A8) 64 4 (AU PG 16 4) Qu7 Q0k
def Q4j (Hd Gz CG Aq A8:Fn) (N4:Lp):Cfg:=(Yi Hd Gz CG Aq A8).loop 4 Qu7 Q0k N4
def Qb0 (Hd Gz CG Aq A8:Fn) (N4:Lp):Fn:=Am PG (Q4j Hd Gz CG Aq A8 N4) 64 16 Zh Qgo
theorem Zzq (Hd Gz CG Aq A8:Fn) (v0:Rw) (v1:Int) (v2:Bool) (v3 v4 v5:Int) (v6:Rw) (v7:Int):Qaw Hd Gz CG Aq A8 [.view Al v0,I v1,B v2,I v3,I v4,I v5, .view Aa v6,I v7]=
 bif decide ((v0.length:Int)<v1)then
 (CG [.view Aa v6,I v7]).bind fun o25=>
 bif bA o25 0 then
 (Aq [I 12, .view Aa (wA o25 1),jA o25 2]).bind fun o26=>
 bif decide (gA o26 0<4)then
 (Gz [.view Aa (wA o26 1),jA o26 2]).bind fun o27=>
 bif((v0++[[jA o27 0,jA o27 1,jA o27 2,jA o27 3,jA o27 4,jA o27 5,jA o27 6,jA o27 7,jA o27 8,jA o27 9,jA o27 10,jA o27 11,jA o27 12,B (bA o27 13),jA o27 14,B (bA o27 15),jA o27 16,jA o27 17,jA o27 18,jA o27 19,jA o27 20,B (bA o27 21)]]).length*176).ble 140737488355328 then
 some (0,[.view Al (v0++[[jA o27 0,jA o27 1,jA o27 2,jA o27 3,jA o27 4,jA o27 5,jA o27 6,jA o27 7,jA o27 8,jA o27 9,jA o27 10,jA o27 11,jA o27 12,B (bA o27 13),jA o27 14,B (bA o27 15),jA o27 16,jA o27 17,jA o27 18,jA o27 19,jA o27 20,B (bA o27 21)]]),I v1,B v2,I v3,I v4,I v5, .view Aa (wA o27 22),jA o27 23])
 else
 none
 else
 bif decide (0<=wrap .i64 (gA o26 0-4))&&decide (wrap .i64 (gA o26 0-4)<(↑[[I 2],[I 2],[I 2],[I 3],[I 1],[I 6],[I 5],[I 4]].length:Int))then
 (Hd [I v3,I v4,I v5,I (Af (nth .dead (nth [] [[I 2],[I 2],[I 2],[I 3],[I 1],[I 6],[I 5],[I 4]] (wrap .i64 (gA o26 0-4)).toNat) 0)), .view Aa (wA o26 1),jA o26 2]).bind fun o28=>
 bif gA o28 0==5 then
 (Aq [I 2, .view Aa (wA o28 22),jA o28 23]).bind fun o29=>
 (Aq [I 3000, .view Aa (wA o29 1),jA o29 2]).bind fun o30=>
 bif((v0++[[I 8,I 0,I 0,I 0,I 0,I 0,I 0,I 0,I 0,I 0,I 0,I 0,I 0,B false,I 0,B false,I 0,I 0,I 0,I (wrap .i64 (3+gA o29 0)),I (wrap .i64 (200+gA o30 0)),B false]]).length*176).ble 140737488355328 then
 bif((v0++[[I 8,I 0,I 0,I 0,I 0,I 0,I 0,I 0,I 0,I 0,I 0,I 0,I 0,B false,I 0,B false,I 0,I 0,I 0,I (wrap .i64 (3+gA o29 0)),I (wrap .i64 (200+gA o30 0)),B false]]++[[jA o28 0,jA o28 1,jA o28 2,jA o28 3,jA o28 4,jA o28 5,jA o28 6,jA o28 7,jA o28 8,jA o28 9,jA o28 10,jA o28 11,jA o28 12,B (bA o28 13),jA o28 14,B (bA o28 15),jA o28 16,jA o28 17,jA o28 18,jA o28 19,jA o28 20,B (bA o28 21)]]).length*176).ble 140737488355328 then
 some (0,[.view Al (v0++[[I 8,I 0,I 0,I 0,I 0,I 0,I 0,I 0,I 0,I 0,I 0,I 0,I 0,B false,I 0,B false,I 0,I 0,I 0,I (wrap .i64 (3+gA o29 0)),I (wrap .i64 (200+gA o30 0)),B false]]++[[jA o28 0,jA o28 1,jA o28 2,jA o28 3,jA o28 4,jA o28 5,jA o28 6,jA o28 7,jA o28 8,jA o28 9,jA o28 10,jA o28 11,jA o28 12,B (bA o28 13),jA o28 14,B (bA o28 15),jA o28 16,jA o28 17,jA o28 18,jA o28 19,jA o28 20,B (bA o28 21)]]),I v1,B v2,jA o28 5,jA o28 6,jA o28 7, .view Aa (wA o30 1),jA o30 2])
 else
 none
 else
 none
 else
 bif((v0++[[jA o28 0,jA o28 1,jA o28 2,jA o28 3,jA o28 4,jA o28 5,jA o28 6,jA o28 7,jA o28 8,jA o28 9,jA o28 10,jA o28 11,jA o28 12,B (bA o28 13),jA o28 14,B (bA o28 15),jA o28 16,jA o28 17,jA o28 18,jA o28 19,jA o28 20,B (bA o28 21)]]).length*176).ble 140737488355328 then
 some (0,[.view Al (v0++[[jA o28 0,jA o28 1,jA o28 2,jA o28 3,jA o28 4,jA o28 5,jA o28 6,jA o28 7,jA o28 8,jA o28 9,jA o28 10,jA o28 11,jA o28 12,B (bA o28 13),jA o28 14,B (bA o28 15),jA o28 16,jA o28 17,jA o28 18,jA o28 19,jA o28 20,B (bA o28 21)]]),I v1,B v2,jA o28 5,jA o28 6,jA o28 7, .view Aa (wA o28 22),jA o28 23])
 else
 none
 else
 none
 else
 some (1,[.view Al v0,B v2])
 else
 some (1,[.view Al v0,B v2]):=by kernel_rfl
theorem Z3u (Hd Gz CG Aq A8:Fn) (N4:Lp) (x0:Rw) (x1:Int) (x2:Bool):Qb0 Hd Gz CG Aq A8 N4 [.view Aa x0,I x1,B x2]=
 (A8 [.view Aa x0]).bind fun o31=>
 (Aq [I 9, .view Aa (wA o31 0),jA o31 1]).bind fun o32=>
 (Aq [I 9, .view Aa (wA o32 1),jA o32 2]).bind fun o33=>
 (Aq [I 9, .view Aa (wA o33 1),jA o33 2]).bind fun o34=>
 (N4 [.view Al [],I x1,B x2,I (wrap .i64 (gA o32 0-4)),I (wrap .i64 (gA o33 0-4)),I (wrap .i64 (gA o34 0-4)), .view Aa (wA o34 1),jA o34 2]).bind fun o35=>
 bif o35.1.beq 1 then
 bif bA o35.2 1 then
 bif((wA o35.2 0++[[I 14,I 0,I 0,I 0,I 0,I 0,I 0,I 0,I 0,I 0,I 0,I 0,I 0,B false,I 0,B false,I 0,I 0,I 0,I 0,I 0,B false]]).length*176).ble 140737488355328 then
 some [.view Al (wA o35.2 0++[[I 14,I 0,I 0,I 0,I 0,I 0,I 0,I 0,I 0,I 0,I 0,I 0,I 0,B false,I 0,B false,I 0,I 0,I 0,I 0,I 0,B false]])]
 else
 none
 else
 some [.view Al (wA o35.2 0)]
 else
 none:=by kernel_rfl
def Qbp:=An (Qaw L0 KT FV Bv Co)
def La:=Qb0 L0 KT FV Bv Co Qbp
theorem Q6u:Ai PG (Yi L0 KT FV Bv Co):=Ao rfl ⟨Z1u,Zs9,Qwo,Js,Pi,trivial⟩
theorem Zdl:Aj PG (16,Ac Zh Qgo La):=rw2 (C:=(Q4j L0 KT FV Bv Co Qbp)) (fl fb Q6u) Q6u
def Qe1:Sk:=⟨[tf [CS.sl Aa]],[],[]⟩
def VM:Sk:=⟨[TS.v true [ci,ci,ci]],[],[]⟩
def Zyy (M:Fn):Nat×Spec:=(47,Ac Qe1 VM M)
def We (Aq A8:Fn):Cfg:=cp [Ji Aq,QE A8] [48,45]
def ZC (Aq A8:Fn):Fn:=Am PG (We Aq A8) 64 47 Qe1 VM
theorem Z4m (Aq A8:Fn) (x0:Rw):ZC Aq A8 [.view Aa x0]=
 (A8 [.view Aa x0]).bind fun o4=>
 (Aq [I 900, .view Aa (wA o4 0),jA o4 1]).bind fun o5=>
 (Aq [I 200, .view Aa (wA o5 1),jA o5 2]).bind fun o6=>
 (Aq [I 16000, .view Aa (wA o6 1),jA o6 2]).bind fun o7=>
 some [I (wrap .i64 (1+gA o5 0)),I (wrap .i64 (2+gA o6 0)),I (wrap .i64 (1+gA o7 0))]:=by kernel_rfl
def PI:=ZC Bv Co
theorem Zhb:Ai PG (We Bv Co):=Ao rfl ⟨Js,Pi,trivial⟩
theorem Zun:Aj PG (47,Ac Qe1 VM PI):=rw1 (C:=(We Bv Co)) Zhb
end Go.Bm
