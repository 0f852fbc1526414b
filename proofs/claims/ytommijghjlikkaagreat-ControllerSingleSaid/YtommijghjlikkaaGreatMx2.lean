/- functions of the program and of the references, as models -/
import Derived.Test.YtommijghjlikkaaGreatMx1
set_option linter.unusedSimpArgs false
set_option linter.unusedVariables false
set_option maxRecDepth 100000
noncomputable section
open Go.IntKind (wrap)
namespace Go.Bm
open Go.Proofs
def ZH:Sk:=⟨[TS.v true (cc 6)],[],[]⟩
def Qcn:Sk:=⟨[tf [CS.bool]],[],[]⟩
def Zcq (M:Fn):Nat×Spec:=(64,Ac ZH Qcn M)
def Qhg:Cfg:=cf []
def Qll:Fn:=Am PG Qhg 64 64 ZH Qcn
theorem Znq (x0 x1 x2 x3 x4 x5:Int):Qll [I x0,I x1,I x2,I x3,I x4,I x5]=
 bif x1==0 then
 bif x2==0 then
 bif x3==x0 then
 some [B (x4==x0)]
 else
 some [B false]
 else
 some [B false]
 else
 some [B false]:=by kernel_rfl
def LF:=Qll
theorem Q8l:Aj PG (Qhg):=Ao rfl trivial
theorem Zg2:Al PG (64,Ac ZH Qcn LF):=rw1 (C:=Qhg) Q8l
def Qul:Sk:=⟨[TS.v true [ci,ci,ci,CS.sl Ah,CS.sl kPt],TS.v true (cc 9++[CS.sl Aa]++cc 9++[CS.sl Aa]++cc 9++[CS.sl Aa]),TS.v true ([CS.sl As]++cc 5),TS.v true (cc 6),tf [ci]],[],[]⟩
def Qxp:Sk:=⟨[TS.tup [(true,[CS.sl As]++cc 5),(true,cc 6),(false,[CS.bool])]],[],[]⟩
def Zi1 (M:Fn):Nat×Spec:=(105,Ac Qul Qxp M)
def TE:Fn:=fun _=>none
theorem Zgc:Al PG (105,Ac Qul Qxp TE):=Pp
def Qi9:Sk:=⟨[tf [CS.ptr 20000 0]],[(20000,119,cS)],[]⟩
def Qjs:Sk:=⟨[TS.tup [(false,[ci]),(false,[CS.bool])]],[(20000,119,cS)],[]⟩
def Zez (M:Fn):Nat×Spec:=(69,Ac Qi9 Qjs M)
def Qmo (GN CB:Fn):Cfg:=cf [Zi1 GN,Qh2 CB]
def Zz (GN CB:Fn):Fn:=Am PG (Qmo GN CB) 64 69 Qi9 Qjs
abbrev Qge (GN:Fn) (K:Kf) (c:Cv) (h1_0 h2_0:AC):Option (List AC):=
 (GN (pxt K.p K.x K.t [I c.m0,I c.m1,I c.m2,I c.m3,I c.m4,I c.m5,h2_0])).bind fun o10=>
 bif !bA o10 12 then
 some (h1_0::B true::Ad K c)
 else
 bif c.way==1 then
 some (h1_0::B true::DV (Ad K c) [(44, .view As (wA o10 0)),(45,jA o10 1),(46,jA o10 2),(47,jA o10 3),(48,jA o10 4),(49,jA o10 5),(50,jA o10 6),(51,jA o10 7),(52,jA o10 8),(53,jA o10 9),(54,jA o10 10),(55,jA o10 11),(71,I 2),(89,B true)])
 else
 some (h1_0::B true::DV (Ad K c) [(44, .view As (wA o10 0)),(45,jA o10 1),(46,jA o10 2),(47,jA o10 3),(48,jA o10 4),(49,jA o10 5),(50,jA o10 6),(51,jA o10 7),(52,jA o10 8),(53,jA o10 9),(54,jA o10 10),(55,jA o10 11),(58,B true),(71,I 0),(89,B true)])
attribute [go_sem] Qge
abbrev T7 (c:Cv) (CB:Fn) (K:Kf) (GN:Fn) (h1_0:AC):Option (List AC):=
 bif !c.aM then
 (CB (pxt K.p K.x K.t [I K.pa,I K.pb,I K.pc,I c.o0,I c.o1,B c.o2,B c.o3,B c.o4,I c.m0,I c.m1,I c.m2,I c.m3,I c.m4,I c.m5,I K.t.length])).bind fun o8=>
 some (h1_0::B true::Ad K {c with m0:=gA o8 0,m1:=gA o8 1,m2:=gA o8 2,m3:=gA o8 3,m4:=gA o8 4,m5:=gA o8 5})
 else
 bif c.m0 !=wrap .i64 (K.t.length*256)then
 (CB (pxt K.p K.x K.t [I K.pa,I K.pb,I K.pc,I c.o0,I c.o1,B c.o2,B c.o3,B c.o4,I c.m0,I c.m1,I c.m2,I c.m3,I c.m4,I c.m5,I K.t.length])).bind fun o9=>
 some (h1_0::B true::Ad K {c with m0:=gA o9 0,m1:=gA o9 1,m2:=gA o9 2,m3:=gA o9 3,m4:=gA o9 4,m5:=gA o9 5})
 else
 bif c.way==2 then
 Qge GN K c h1_0 (I K.len)
 else
 Qge GN K c h1_0 (I c.home)
attribute [go_sem] T7
theorem Ze4 (GN CB:Fn) (K:Kf) (c:Cv):Zz GN CB (Ad K c)=
 bif c.way==0 then
 some (I 0::B false::Ad K c)
 else
 bif c.way==2 then
 T7 c CB K GN (I 5)
 else
 T7 c CB K GN (I 4):=by kernel_rfl
def Lc:=Zz TE EV
theorem Ztx:Aj PG (Qmo TE EV):=Ao rfl ⟨Zgc,Zx,trivial⟩
theorem Zi3:Al PG (69,Ac Qi9 Qjs Lc):=rw1 (C:=(Qmo TE EV)) Ztx
def YG:Sk:=⟨[tf [CS.ptr 20000 0]],[(20000,119,cS)],[]⟩
def Qdh:Sk:=⟨[TS.tup [(false,[ci]),(false,[CS.bool])]],[(20000,119,cS)],[]⟩
def Z06 (M:Fn):Nat×Spec:=(68,Ac YG Qdh M)
def UN (D6:Fn):Cfg:=cp [Qsc D6] [103]
def Qdb (D6:Fn):Fn:=Am PG (UN D6) 64 68 YG Qdh
theorem Zv7 (D6:Fn) (K:Kf) (c:Cv):Qdb D6 (Ad K c)=
 bif !c.on then
 some (I 0::B false::Ad K c)
 else
 (D6 (Ad K c)).bind fun o1=>
 some (jA o1 0::B true::cR 1 o1):=by kernel_rfl
def Lh:=Qdb J9
theorem Q81:Aj PG (UN J9):=Ao rfl ⟨Q7d,trivial⟩
theorem Za2:Al PG (68,Ac YG Qdh Lh):=rw1 (C:=(UN J9)) Q81
def Qmp:Sk:=⟨[tf [CS.ptr 20000 0]],[(20000,119,cS)],[]⟩
def Ql9:Sk:=⟨[TS.tup [(false,[ci]),(false,[CS.bool])]],[(20000,119,cS)],[]⟩
def Zic (M:Fn):Nat×Spec:=(67,Ac Qmp Ql9 M)
def Qja:Cfg:=cf []
def Vy:Fn:=Am PG Qja 64 67 Qmp Ql9
theorem Zhm (K:Kf) (c:Cv):Vy (Ad K c)=
 bif !c.aH then
 some (I 0::B false::Ad K c)
 else
 bif !c.aM then
 some (I 0::B false::Ad K c)
 else
 some (I 8::B true::Ad K {c with aI:=8}):=by kernel_rfl
def Ld:=Vy
theorem Z1l:Aj PG (Qja):=Ao rfl trivial
theorem Q73:Al PG (67,Ac Qmp Ql9 Ld):=rw1 (C:=Qja) Z1l
def V9:Sk:=⟨[tf [CS.ptr 20000 0]],[(20000,119,cS)],[]⟩
def Qcs:Sk:=⟨[TS.tup [(false,[ci]),(false,[CS.bool])]],[(20000,119,cS)],[]⟩
def Q9j (M:Fn):Nat×Spec:=(66,Ac V9 Qcs M)
def Qky:Cfg:=cf []
def Qal:Fn:=Am PG Qky 64 66 V9 Qcs
theorem Zh9 (K:Kf) (c:Cv):Qal (Ad K c)=
 some (I c.aI::B (c.aI !=0)::Ad K c):=by kernel_rfl
def KS:=Qal
theorem Q7r:Aj PG (Qky):=Ao rfl trivial
theorem Zuq:Al PG (66,Ac V9 Qcs KS):=rw1 (C:=Qky) Q7r
def W0:Sk:=⟨[tf [CS.ptr 20000 0]],[(20000,119,cS)],[]⟩
def Qf6:Sk:=⟨[TS.tup [(false,[ci]),(false,[CS.bool])]],[(20000,119,cS)],[]⟩
def Zy0 (M:Fn):Nat×Spec:=(65,Ac W0 Qf6 M)
def WX (FU A9:Fn):Cfg:=cr [Qoe FU,Tl A9] [63] [63]
def Xw (FU A9:Fn):Fn:=Am PG (WX FU A9) 64 65 W0 Qf6
theorem Zj2 (FU A9:Fn) (K:Kf) (c:Cv):Xw FU A9 (Ad K c)=
 bif c.g0 !=2 then
 some (I 0::B false::Ad K c)
 else
 (A9 (Ad K c)).bind fun o2=>
 (FU [jA o2 0]).bind fun o3=>
 some (I 6::B true::Ad K {c with m0:=gA o3 0,m1:=gA o3 1,m2:=gA o3 2,m3:=gA o3 3,m4:=gA o3 4,m5:=gA o3 5}):=by kernel_rfl
def K_:=Xw Jd DO
theorem Zrx:Aj PG (WX Jd DO):=IB (rs:=[63]) rfl ⟨Qwz,Re,trivial⟩ rfl (CX rfl (G3 IH))
theorem Z1o:Al PG (65,Ac W0 Qf6 K_):=rw1 (C:=(WX Jd DO)) Zrx
def Qgm:Sk:=⟨[TS.v true [ci,ci,ci,ci],tf [ci]],[],[]⟩
def Qnt:Sk:=⟨[TS.v true [ci,ci,ci,ci]],[],[]⟩
def Z0d (M:Fn):Nat×Spec:=(62,Ac Qgm Qnt M)
def YQ:Cfg:=cf []
def Qgz:Fn:=Am PG YQ 64 62 Qgm Qnt
theorem Zar (x0 x1 x2 x3 x4:Int):Qgz [I x0,I x1,I x2,I x3,I x4]=
 bif decide (x1<x2)then
 some [I x0,I (mn (wrap .i64 (x1+x4)) x2),I x2,I (wrap .i64 (x3+wrap .i64 (x0*mn (wrap .i64 (x1+x4)) x2)))]
 else
 some [I x0,I (mx (wrap .i64 (x1-x4)) x2),I x2,I (wrap .i64 (x3+wrap .i64 (x0*mx (wrap .i64 (x1-x4)) x2)))]:=by kernel_rfl
def K5:=Qgz
theorem Zg1:Aj PG (YQ):=Ao rfl trivial
theorem Zx9:Al PG (62,Ac Qgm Qnt K5):=rw1 (C:=YQ) Zg1
def XB:Sk:=⟨[tf [CS.ptr 20000 0]],[(20000,119,cS)],[]⟩
def Qi0:Sk:=⟨[tf [CS.bool]],[],[]⟩
def Zie (M:Fn):Nat×Spec:=(61,EX XB Qi0 M)
def Pb (Ga:Fn):Cfg:=cr [Q49 Ga] [102] [102]
def T9 (Ga:Fn):Fn:=Oo PG (Pb Ga) 64 61 XB Qi0
theorem Zze (Ga:Fn) (K:Kf) (c:Cv):T9 Ga (Ad K c)=
 (Ga (Ad K c)).bind fun o1=>
 bif bA o1 7 then
 bif decide (0<=gA o1 4)&&decide (gA o1 4<((K.aA.map Ag).length:Int))then
 bif gA (nth [] (K.aA.map Ag) (gA o1 4).toNat) 0==6 then
 some [B (c.y0==gA o1 4)]
 else
 some [B false]
 else
 none
 else
 some [B false]:=by kernel_rfl
def LC:=T9 Hj
theorem Z0y:Aj PG (Pb Hj):=IB (rs:=[102]) rfl ⟨Qyv,trivial⟩ rfl (G3 IH)
theorem Zls (vars : List AC) (R : Type) (K : TV -> Mem -> Option R) : Fe PG (Pb Hj) 64 61 [TV.v false [AC.ptr 20000 0]] ⟨[(20000, (⟨119, (cR 0 vars)⟩ : Box))], []⟩ K = Fe PG (Pb Hj) 64 61 [TV.v false [AC.ptr 20000 0]] ⟨[(20000, (⟨119, (cR 0 vars)⟩ : Box))], []⟩ (fun v _ => K v ⟨[(20000, (⟨119, (cR 0 vars)⟩ : Box))], []⟩) := Eq.trans (b := ((Hj (cR 0 vars)).bind fun o1 =>
 bif bA o1 7 then
 bif decide (0<=gA o1 4)&&decide (gA o1 4<(↑(wA vars 35).length:Int))then
 bif Af (nth .dead (nth [] (wA vars 35) (gA o1 4).toNat) 0)==6 then
 K (TV.v false [B ((gA vars 79)==gA o1 4)]) ⟨[(20000,(⟨119,(cR 0 vars)⟩:Box))],[]⟩
 else
 K (TV.v false [B false]) ⟨[(20000,(⟨119,(cR 0 vars)⟩:Box))],[]⟩
 else
 none
 else
 K (TV.v false [B false]) ⟨[(20000,(⟨119,(cR 0 vars)⟩:Box))],[]⟩)) (by kernel_rfl) (Eq.symm (by kernel_rfl))
theorem Zh4:Al PG (61,EX XB Qi0 LC):=SM (C:=(Pb Hj)) (L:=64) (by kernel_rfl) (FnOK.bare rfl rfl rfl) Z0y eqOk Hr (by kernel_rfl) (by kernel_rfl) (fun vars R K=>Zls vars R K)
def Qwl:Sk:=⟨[tf [CS.ptr 20000 0],tf [ci]],[(20000,119,cS)],[]⟩
def Q1t:Sk:=⟨[TS.tup []],[(20000,119,cS)],[]⟩
def Zt2 (M:Fn):Nat×Spec:=(101,Ac Qwl Q1t M)
def SP:Fn:=fun _=>none
theorem Z12:Al PG (101,Ac Qwl Q1t SP):=Pp
def Qqp:Sk:=⟨[tf [CS.ptr 20000 0]],[(20000,119,cS)],[]⟩
def Q5t:Sk:=⟨[TS.tup []],[(20000,119,cS)],[]⟩
def Za4 (M:Fn):Nat×Spec:=(100,Ac Qqp Q5t M)
def RV:Fn:=fun _=>none
theorem Q8r:Al PG (100,Ac Qqp Q5t RV):=Pp
def Q03:Sk:=⟨[tf [CS.ptr 20000 0],tf [ci]],[(20000,119,cS)],[]⟩
def Qon:Sk:=⟨[TS.tup []],[(20000,119,cS)],[]⟩
def Zjq (M:Fn):Nat×Spec:=(99,Ac Q03 Qon M)
def Rd:Fn:=fun _=>none
theorem Zz8:Al PG (99,Ac Q03 Qon Rd):=Pp
def Vt:Sk:=⟨[],[],[]⟩
def Qfd:Sk:=⟨[TS.v true [ci,ci,ci]],[],[]⟩
def Qs9 (M:Fn):Nat×Spec:=(56,Ac Vt Qfd M)
def Qfk:Cfg:=cf []
def R6:Fn:=Am PG Qfk 64 56 Vt Qfd
theorem Q6x:R6 []=
 some [I 0,I 0,I (-1)]:=by kernel_rfl
def Kg:=R6
theorem Zyg:Aj PG (Qfk):=Ao rfl trivial
theorem Q5e:Al PG (56,Ac Vt Qfd Kg):=rw1 (C:=Qfk) Zyg
def Qk4:Sk:=⟨[TS.v true [ci,ci,ci],tf [ci],tf [ci]],[],[]⟩
def YU:Sk:=⟨[TS.v true [ci,ci,ci]],[],[]⟩
def Zzq (M:Fn):Nat×Spec:=(144,Ac Qk4 YU M)
def W7:Cfg:=cf []
def Qbj:Fn:=Am PG W7 64 144 Qk4 YU
theorem Zof (x0 x1 x2 x3 x4:Int):Qbj [I x0,I x1,I x2,I x3,I x4]=
 bif x0==2 then
 some [I x0,I x1,I x2]
 else
 bif x1==0 then
 some [I 1,I x3,I x4]
 else
 some [I 1,I x1,I x2]:=by kernel_rfl
def P9:=Qbj
theorem Z2f:Aj PG (W7):=Ao rfl trivial
theorem Zv9:Al PG (144,Ac Qk4 YU P9):=rw1 (C:=W7) Z2f
def Yl:Sk:=⟨[TS.v true [ci,ci,ci],TS.v true [ci,ci,ci]],[],[]⟩
def Wg:Sk:=⟨[TS.v true [ci,ci,ci]],[],[]⟩
def Zfx (M:Fn):Nat×Spec:=(98,Ac Yl Wg M)
def Qiy (FV Lf:Fn):Cfg:=cf [Qs9 FV,Zzq Lf]
def Qkd (FV Lf:Fn):Fn:=Am PG (Qiy FV Lf) 64 98 Yl Wg
theorem Zsg (FV Lf:Fn) (x0 x1 x2 x3 x4 x5:Int):Qkd FV Lf [I x0,I x1,I x2,I x3,I x4,I x5]=
 bif x4==10 then
 some [I 2,I 22,I (-1)]
 else
 bif x4==9 then
 (Lf [I x0,I x1,I x2,I 21,I (-1)]).bind fun o3=>
 some [jA o3 0,jA o3 1,jA o3 2]
 else
 bif x4==8 then
 bif decide (x5>=0)then
 bif decide (x5<=2)then
 (Lf [I x0,I x1,I x2,I 20,I x5]).bind fun o4=>
 some [jA o4 0,jA o4 1,jA o4 2]
 else
 some [I x0,I x1,I x2]
 else
 some [I x0,I x1,I x2]
 else
 bif x4==11 then
 (FV []).bind fun o5=>
 some [jA o5 0,jA o5 1,jA o5 2]
 else
 some [I x0,I x1,I x2]:=by kernel_rfl
def RS:=Qkd Kg P9
theorem Zfm:Aj PG (Qiy Kg P9):=Ao rfl ⟨Q5e,Zv9,trivial⟩
theorem Q9g:Al PG (98,Ac Yl Wg RS):=rw1 (C:=(Qiy Kg P9)) Zfm
def Qjz:Sk:=⟨[tf [CS.bool],tf [ci]],[],[]⟩
def Qbv:Sk:=⟨[tf [CS.bool]],[],[]⟩
def Zun (M:Fn):Nat×Spec:=(143,Ac Qjz Qbv M)
def Ql7:Cfg:=cf []
def TY:Fn:=Am PG Ql7 64 143 Qjz Qbv
theorem Zgn (x0:Bool) (x1:Int):TY [B x0,I x1]=
 bif x1==0 then
 some [B false]
 else
 bif x1==1 then
 some [B true]
 else
 some [B x0]:=by kernel_rfl
def Qw:=TY
theorem Q9w:Aj PG (Ql7):=Ao rfl trivial
theorem Zik:Al PG (143,Ac Qjz Qbv Qw):=rw1 (C:=Ql7) Q9w
def Ql5:Sk:=⟨[TS.v true [ci,ci,CS.bool,CS.bool,CS.bool],TS.v true [ci,ci,ci]],[],[]⟩
def XQ:Sk:=⟨[TS.v true [ci,ci,CS.bool,CS.bool,CS.bool]],[],[]⟩
def Zxw (M:Fn):Nat×Spec:=(97,Ac Ql5 XQ M)
def Qgb (K9:Fn):Cfg:=cf [Zun K9]
def RP (K9:Fn):Fn:=Am PG (Qgb K9) 64 97 Ql5 XQ
theorem Qwv (K9:Fn) (x0 x1:Int) (x2 x3 x4:Bool) (x5 x6 x7:Int):RP K9 [I x0,I x1,B x2,B x3,B x4,I x5,I x6,I x7]=
 bif x6==1 then
 bif decide (0<=x7)then
 bif decide (x7<=200)then
 some [I x7,I x1,B x2,B x3,B x4]
 else
 some [I x0,I x1,B x2,B x3,B x4]
 else
 some [I x0,I x1,B x2,B x3,B x4]
 else
 bif x6==2 then
 bif decide (0<=x7)then
 bif decide (x7<=100)then
 some [I x0,I x7,B x2,B x3,B x4]
 else
 some [I x0,I x1,B x2,B x3,B x4]
 else
 some [I x0,I x1,B x2,B x3,B x4]
 else
 bif x6==3 then
 some [I x0,I x1,B true,B x3,B x4]
 else
 bif x6==4 then
 some [I x0,I x1,B false,B x3,B x4]
 else
 bif x6==5 then
 (K9 [B x3,I x7]).bind fun o2=>
 some [I x0,I x1,B x2,B (bA o2 0),B x4]
 else
 bif x6==6 then
 (K9 [B x4,I x7]).bind fun o3=>
 some [I x0,I x1,B x2,B x3,B (bA o3 0)]
 else
 some [I x0,I x1,B x2,B x3,B x4]:=by kernel_rfl
def RR:=RP Qw
theorem Zlk:Aj PG (Qgb Qw):=Ao rfl ⟨Zik,trivial⟩
theorem Zyz:Al PG (97,Ac Ql5 XQ RR):=rw1 (C:=(Qgb Qw)) Zlk
def VG:Sk:=⟨[tf [CS.ptr 20000 0],TS.v true [ci,ci,ci]],[(20000,119,cS)],[]⟩
def Qls:Sk:=⟨[TS.tup []],[(20000,119,cS)],[]⟩
def Zac (M:Fn):Nat×Spec:=(60,Ac VG Qls M)
def Yn (Nm N0 OI Mg Ny:Fn):Cfg:=cp [Zt2 Nm,Za4 N0,Zjq OI,Zfx Mg,Zxw Ny] [101,100,99]
def Qhh (Nm N0 OI Mg Ny:Fn):Fn:=Am PG (Yn Nm N0 OI Mg Ny) 64 60 VG Qls
theorem Zk8 (Nm N0 OI Mg Ny:Fn) (x0 x1 x2:Int) (K:Kf) (c:Cv):Qhh Nm N0 OI Mg Ny (I x0::I x1::I x2::Ad K c)=
 (Ny [I c.o0,I c.o1,B c.o2,B c.o3,B c.o4,I x0,I x1,I x2]).bind fun o5=>
 (Mg [I c.g0,I c.g1,I c.g2,I x0,I x1,I x2]).bind fun o6=>
 bif x1==13 then
 (OI (I x2::Ad K {c with o0:=gA o5 0,o1:=gA o5 1,o2:=bA o5 2,o3:=bA o5 3,o4:=bA o5 4,g0:=gA o6 0,g1:=gA o6 1,g2:=gA o6 2})).bind fun o7=>
 some (cR 0 o7)
 else
 bif x1==11 then
 some (Ad K {c with o0:=gA o5 0,o1:=gA o5 1,o2:=true,o3:=bA o5 3,o4:=bA o5 4,g0:=gA o6 0,g1:=gA o6 1,g2:=gA o6 2})
 else
 bif x1==12 then
 (N0 (Ad K {c with o0:=gA o5 0,o1:=gA o5 1,o2:=bA o5 2,o3:=bA o5 3,o4:=bA o5 4,g0:=gA o6 0,g1:=gA o6 1,g2:=gA o6 2})).bind fun o8=>
 some (cR 0 o8)
 else
 bif x1==7 then
 (Nm (I x2::Ad K {c with o0:=gA o5 0,o1:=gA o5 1,o2:=bA o5 2,o3:=bA o5 3,o4:=bA o5 4,g0:=gA o6 0,g1:=gA o6 1,g2:=gA o6 2})).bind fun o9=>
 some (cR 0 o9)
 else
 bif x1==4 then
 some (Ad K {c with o0:=gA o5 0,o1:=gA o5 1,o2:=bA o5 2,o3:=bA o5 3,o4:=bA o5 4,g0:=gA o6 0,g1:=gA o6 1,g2:=gA o6 2,aJ:=true})
 else
 some (Ad K {c with o0:=gA o5 0,o1:=gA o5 1,o2:=bA o5 2,o3:=bA o5 3,o4:=bA o5 4,g0:=gA o6 0,g1:=gA o6 1,g2:=gA o6 2}):=by kernel_rfl
def LM:=Qhh SP RV Rd RS RR
theorem Zhk:Aj PG (Yn SP RV Rd RS RR):=Ao rfl ⟨Z12,Q8r,Zz8,Q9g,Zyz,trivial⟩
theorem Zxn:Al PG (60,Ac VG Qls LM):=rw1 (C:=(Yn SP RV Rd RS RR)) Zhk
def Qd5:Sk:=⟨[tf [CS.ptr 20000 0],tf [CS.sl kPt]],[(20000,119,cS)],[]⟩
def Qnp:Sk:=⟨[TS.v true ([CS.sl kPt,CS.sl Aa]++cc 7)],[(20000,119,cS)],[]⟩
def Qq8 (M:Fn):Nat×Spec:=(21,Ac Qd5 Qnp M)
def Qa9 (Cp CF Eh Ed Ee Eb Ei C2 A9 Dk Dh D_:Fn):Cfg:=cr [Zy5 Cp,Zoh CF,Zez Eh,Z06 Ed,Zic Ee,Q9j Eb,Zy0 Ei,Zcq C2,Tl A9,Z0d Dk,Zie Dh,Zac D_] [71,70,69,68,67,66,65,63,61,60] [63,61]
def Q3t:Sk:=⟨[tf [CS.ptr 20000 0],td,td,td,tf [CS.ptr 4 0]]++dd 14++[tf [CS.sl kPt],tf [ci],tf [ci]]++dd 93,[(4,46,[CS.sl kPt,CS.sl Aa]++cc 7),(20000,119,cS)],[]⟩
def Qzu:List (Ex×Sk):=[(Ex.exit 0,⟨[tf [CS.ptr 20000 0],td,td,td,tf [CS.ptr 4 0]]++dd 110,[(4,46,[CS.sl kPt,CS.sl Aa]++cc 7),(20000,119,cS)],[]⟩)]
def QV (Cp CF Eh Ed Ee Eb Ei C2 A9 Dk Dh D_:Fn):Lp:=A4 PG (Qa9 Cp CF Eh Ed Ee Eb Ei C2 A9 Dk Dh D_) 64 3 (A0 PG 21 3) Q3t Qzu
def Qp3 (Cp CF Eh Ed Ee Eb Ei C2 A9 Dk Dh D_:Fn) (N3:Lp):Cfg:=(Qa9 Cp CF Eh Ed Ee Eb Ei C2 A9 Dk Dh D_).loop 3 Q3t Qzu N3
def Q2a:Sk:=⟨[tf [CS.ptr 20000 0],td,td,td,tf [CS.ptr 4 0],td,td,tf [ci],tf [CS.ptr 8 0]]++dd 81++[tf [CS.bsl 90 5],tf [ci],tf [ci]]++dd 22,[(4,46,[CS.sl kPt,CS.sl Aa]++cc 7),(8,46,[CS.sl kPt,CS.sl Aa]++cc 7),(90,125,[CS.clo 65 [(20000,0)] [],CS.clo 66 [(20000,0)] [],CS.clo 67 [(20000,0)] [],CS.clo 68 [(20000,0)] [],CS.clo 69 [(20000,0)] []]),(20000,119,cS)],[]⟩
def Q2z:List (Ex×Sk):=[(Ex.exit 2,⟨[tf [CS.ptr 20000 0],td,td,td,tf [CS.ptr 4 0],td,td,tf [ci],tf [CS.ptr 8 0]]++dd 106,[(4,46,[CS.sl kPt,CS.sl Aa]++cc 7),(8,46,[CS.sl kPt,CS.sl Aa]++cc 7),(20000,119,cS)],[]⟩)]
def Iz (Cp CF Eh Ed Ee Eb Ei C2 A9 Dk Dh D_:Fn) (N3:Lp):Lp:=A4 PG (Qp3 Cp CF Eh Ed Ee Eb Ei C2 A9 Dk Dh D_ N3) 64 16 (A0 PG 21 16) Q2a Q2z
def Q6f (Cp CF Eh Ed Ee Eb Ei C2 A9 Dk Dh D_:Fn) (N3 N16:Lp):Cfg:=(Qp3 Cp CF Eh Ed Ee Eb Ei C2 A9 Dk Dh D_ N3).loop 16 Q2a Q2z N16
def Qen (Cp CF Eh Ed Ee Eb Ei C2 A9 Dk Dh D_:Fn) (N3 N16:Lp):Fn:=Am PG (Q6f Cp CF Eh Ed Ee Eb Ei C2 A9 Dk Dh D_ N3 N16) 64 21 Qd5 Qnp
theorem Zj5 (Cp CF Eh Ed Ee Eb Ei C2 A9 Dk Dh D_:Fn) (v0:Rw) (v1 v2:Int) (v3 v4:Rw) (v5 v6 v7 v8 v9 v10 v11:Int) (K:Kf) (c:Cv):QV Cp CF Eh Ed Ee Eb Ei C2 A9 Dk Dh D_ (.view kPt v0::I v1::I v2:: .view kPt v3:: .view Aa v4::I v5::I v6::I v7::I v8::I v9::I v10::I v11::Ad K c)=
 bif decide (v2<v1)then
 bif decide (0<=v2)&&decide (v2<(v0.length:Int))then
 (D_ (jA (nth [] v0 v2.toNat) 0::jA (nth [] v0 v2.toNat) 1::jA (nth [] v0 v2.toNat) 2::Ad K c)).bind fun o54=>
 some (0,(.view kPt v0::I v1::I (wrap .i64 (v2+1)):: .view kPt v3:: .view Aa v4::I v5::I v6::I v7::I v8::I v9::I v10::I v11::cR 0 o54))
 else
 none
 else
 some (1,(.view kPt v3:: .view Aa v4::I v5::I v6::I v7::I v8::I v9::I v10::I v11::Ad K c)):=by kernel_rfl
abbrev L0 (v0:Int) (v3 v4:Rw) (v5 v6 v7 v8 v9 v10 v11:Int) (v12 v13:Rw) (v15 v16 v17 v18 v19 v20 v1 v2 v14:Int) (h1_0:Bool) (h1_1:AC) (h1_2:List AC):Option (Nat×List AC):=
 bif h1_0 then
 some (1,(I v0:: .view kPt v3:: .view Aa v4::I v5::I v6::I v7::I v8::I v9::I v10::I v11:: .view kPt v12:: .view Aa v13::h1_1::I v15::I v16::I v17::I v18::I v19::I v20::h1_2))
 else
 some (0,(I v0::I v1::I (wrap .i64 (v2+1)):: .view kPt v3:: .view Aa v4::I v5::I v6::I v7::I v8::I v9::I v10::I v11:: .view kPt v12:: .view Aa v13::I v14::I v15::I v16::I v17::I v18::I v19::I v20::h1_2))
attribute [go_sem] L0
theorem Q9k (Cp CF Eh Ed Ee Eb Ei C2 A9 Dk Dh D_:Fn) (N3:Lp) (v0 v1 v2:Int) (v3 v4:Rw) (v5 v6 v7 v8 v9 v10 v11:Int) (v12 v13:Rw) (v14 v15 v16 v17 v18 v19 v20:Int) (K:Kf) (c:Cv):Iz Cp CF Eh Ed Ee Eb Ei C2 A9 Dk Dh D_ N3 (I v0::I v1::I v2:: .view kPt v3:: .view Aa v4::I v5::I v6::I v7::I v8::I v9::I v10::I v11:: .view kPt v12:: .view Aa v13::I v14::I v15::I v16::I v17::I v18::I v19::I v20::Ad K c)=
 bif decide (v2<v1)then
 bif decide (v2=(↑0:Int))then
 (Ei (Ad K c)).bind fun o55=>
 L0 v0 v3 v4 v5 v6 v7 v8 v9 v10 v11 v12 v13 v15 v16 v17 v18 v19 v20 v1 v2 v14 (bA o55 1) (jA o55 0) (cR 2 o55)
 else
 bif decide (v2=(↑(0+1):Int))then
 (Eb (Ad K c)).bind fun o56=>
 L0 v0 v3 v4 v5 v6 v7 v8 v9 v10 v11 v12 v13 v15 v16 v17 v18 v19 v20 v1 v2 v14 (bA o56 1) (jA o56 0) (cR 2 o56)
 else
 bif decide (v2=(↑(0+1+1):Int))then
 (Ee (Ad K c)).bind fun o57=>
 L0 v0 v3 v4 v5 v6 v7 v8 v9 v10 v11 v12 v13 v15 v16 v17 v18 v19 v20 v1 v2 v14 (bA o57 1) (jA o57 0) (cR 2 o57)
 else
 bif decide (v2=(↑(0+1+1+1):Int))then
 (Ed (Ad K c)).bind fun o58=>
 L0 v0 v3 v4 v5 v6 v7 v8 v9 v10 v11 v12 v13 v15 v16 v17 v18 v19 v20 v1 v2 v14 (bA o58 1) (jA o58 0) (cR 2 o58)
 else
 bif decide (v2=(↑(0+1+1+1+1):Int))then
 (Eh (Ad K c)).bind fun o59=>
 L0 v0 v3 v4 v5 v6 v7 v8 v9 v10 v11 v12 v13 v15 v16 v17 v18 v19 v20 v1 v2 v14 (bA o59 1) (jA o59 0) (cR 2 o59)
 else
 none
 else
 some (1,(I v0:: .view kPt v3:: .view Aa v4::I v5::I v6::I v7::I v8::I v9::I v10::I v11:: .view kPt v12:: .view Aa v13::I v14::I v15::I v16::I v17::I v18::I v19::I v20::Ad K c)):=by kernel_rfl
abbrev I3 (N16:Lp) (o60:Nat×List AC) (CF Cp:Fn) (h1_0:AC) (h1_1:List AC):Option (List AC):=
 (N16 (h1_0::I (↑5:Int)::I 0:: .view kPt (wA o60.2 0):: .view Aa (wA o60.2 1)::jA o60.2 2::jA o60.2 3::jA o60.2 4::jA o60.2 5::jA o60.2 6::jA o60.2 7::jA o60.2 8:: .view kPt []:: .view Aa []::I 0::I 0::I 0::I 0::I 0::I 0::I 0::h1_1)).bind fun o65=>
 bif o65.1.beq 1 then
 bif gA o65.2 12==0 then
 (CF (cR 19 o65.2)).bind fun o66=>
 (Cp (jA o65.2 0::(cR 1 o66++[.view kPt (wA o65.2 10), .view Aa (wA o65.2 11),jA o66 0,jA o65.2 13,jA o65.2 14,jA o65.2 15,jA o65.2 16,jA o65.2 17,jA o65.2 18]))).bind fun o67=>
 some (.view kPt (wA o67 90):: .view Aa (wA o67 91)::jA o67 92::jA o67 93::jA o67 94::jA o67 95::jA o67 96::jA o67 97::jA o67 98::cR 0 o67)
 else
 (Cp (jA o65.2 0::(cR 19 o65.2++[.view kPt (wA o65.2 10), .view Aa (wA o65.2 11),jA o65.2 12,jA o65.2 13,jA o65.2 14,jA o65.2 15,jA o65.2 16,jA o65.2 17,jA o65.2 18]))).bind fun o68=>
 some (.view kPt (wA o68 90):: .view Aa (wA o68 91)::jA o68 92::jA o68 93::jA o68 94::jA o68 95::jA o68 96::jA o68 97::jA o68 98::cR 0 o68)
 else
 none
attribute [go_sem] I3
abbrev Uz (Dh:Fn) (o60:Nat×List AC) (Dk A9 C2:Fn) (N16:Lp) (CF Cp:Fn):Option (List AC):=
 (Dh (DV (cR 9 o60.2) [(58,B true),(86,jA o60.2 76)])).bind fun o61=>
 bif !bA o61 0 then
 (Dk [jA o60.2 73,jA o60.2 74,jA o60.2 75,jA o60.2 76,jA o60.2 42]).bind fun o62=>
 (A9 (DV (cR 9 o60.2) [(58,B true),(64,jA o62 0),(65,jA o62 1),(66,jA o62 2),(67,jA o62 3),(86,jA o60.2 76)])).bind fun o63=>
 (C2 [jA o60.2 59,jA o60.2 60,jA o60.2 61,jA o60.2 62,jA o60.2 63,jA o60.2 64]).bind fun o64=>
 I3 N16 o60 CF Cp (jA o63 0) (DV (cR 9 o60.2) [(58,B true),(64,jA o62 0),(65,jA o62 1),(66,jA o62 2),(67,jA o62 3),(86,jA o60.2 76),(88,B (bA o64 0))])
 else
 (A9 (DV (cR 9 o60.2) [(58,B true),(86,jA o60.2 76)])).bind fun o69=>
 (C2 [jA o60.2 59,jA o60.2 60,jA o60.2 61,jA o60.2 62,jA o60.2 63,jA o60.2 64]).bind fun o70=>
 I3 N16 o60 CF Cp (jA o69 0) (DV (cR 9 o60.2) [(58,B true),(86,jA o60.2 76),(88,B (bA o70 0))])
attribute [go_sem] Uz
theorem Zlt (Cp CF Eh Ed Ee Eb Ei C2 A9 Dk Dh D_:Fn) (N3 N16:Lp) (x0:Rw) (K:Kf) (c:Cv):Qen Cp CF Eh Ed Ee Eb Ei C2 A9 Dk Dh D_ N3 N16 (.view kPt x0::Ad K c)=
 (N3 (.view kPt x0::I (x0.length:Int)::I 0:: .view kPt []:: .view Aa []::I 0::I 0::I 0::I 0::I 0::I 0::I 0::Ad K {c with aJ:=false,aL:=false})).bind fun o60=>
 bif o60.1.beq 1 then
 bif bA o60.2 86 then
 Uz Dh o60 Dk A9 C2 N16 CF Cp
 else
 bif gA o60.2 70 !=0 then
 Uz Dh o60 Dk A9 C2 N16 CF Cp
 else
 (Dh (DV (cR 9 o60.2) [(86,jA o60.2 76)])).bind fun o89=>
 bif !bA o89 0 then
 (Dk [jA o60.2 73,jA o60.2 74,jA o60.2 75,jA o60.2 76,jA o60.2 42]).bind fun o90=>
 (A9 (DV (cR 9 o60.2) [(64,jA o90 0),(65,jA o90 1),(66,jA o90 2),(67,jA o90 3),(86,jA o60.2 76)])).bind fun o91=>
 (C2 [jA o60.2 59,jA o60.2 60,jA o60.2 61,jA o60.2 62,jA o60.2 63,jA o60.2 64]).bind fun o92=>
 I3 N16 o60 CF Cp (jA o91 0) (DV (cR 9 o60.2) [(64,jA o90 0),(65,jA o90 1),(66,jA o90 2),(67,jA o90 3),(86,jA o60.2 76),(88,B (bA o92 0))])
 else
 (A9 (DV (cR 9 o60.2) [(86,jA o60.2 76)])).bind fun o97=>
 (C2 [jA o60.2 59,jA o60.2 60,jA o60.2 61,jA o60.2 62,jA o60.2 63,jA o60.2 64]).bind fun o98=>
 I3 N16 o60 CF Cp (jA o97 0) (DV (cR 9 o60.2) [(86,jA o60.2 76),(88,B (bA o98 0))])
 else
 none:=by kernel_rfl
def WR:=An (QV Lu KM Lc Lh Ld KS K_ LF DO K5 LC LM)
def Qob:=An (Iz Lu KM Lc Lh Ld KS K_ LF DO K5 LC LM WR)
def Hm:=Qen Lu KM Lc Lh Ld KS K_ LF DO K5 LC LM WR Qob
theorem Qnj:Aj PG (Qa9 Lu KM Lc Lh Ld KS K_ LF DO K5 LC LM):=IB (rs:=[63,61]) rfl ⟨Zay,Q97,Zi3,Za2,Q73,Zuq,Z1o,Zg2,Re,Zx9,Zh4,Zxn,trivial⟩ rfl (CX rfl (CX rfl (CX rfl (CX rfl (CX rfl (CX rfl (CX rfl (CX rfl (G3 (CX rfl (G3 (CX rfl IH))))))))))))
theorem Qx8:Al PG (21,Ac Qd5 Qnp Hm):=rw2 (C:=(Q6f Lu KM Lc Lh Ld KS K_ LF DO K5 LC LM WR Qob)) (fl (fl fb Qnj) Qnj) Qnj
def Qg1:Sk:=⟨[TS.v true (cc 13++[CS.bool,ci,CS.bool]++cc 5++[CS.bool])],[],[]⟩
def Qcj:Sk:=⟨[tf [CS.bool]],[],[]⟩
def QQ (M:Fn):Nat×Spec:=(81,Ac Qg1 Qcj M)
def Zt:Cfg:=cf []
def Q5m:Fn:=Am PG Zt 64 81 Qg1 Qcj
theorem Zgm (x0 x1 x2 x3 x4 x5 x6 x7 x8 x9 x10 x11 x12:Int) (x13:Bool) (x14:Int) (x15:Bool) (x16 x17 x18 x19 x20:Int) (x21:Bool):Q5m [I x0,I x1,I x2,I x3,I x4,I x5,I x6,I x7,I x8,I x9,I x10,I x11,I x12,B x13,I x14,B x15,I x16,I x17,I x18,I x19,I x20,B x21]=
 bif x0==2 then
 some [B !(x2==x5&&(x3==x6&&(x4==x7&&true)))]
 else
 some [B false]:=by kernel_rfl
def EF:=Q5m
theorem Zsr:Aj PG (Zt):=Ao rfl trivial
theorem R_:Al PG (81,Ac Qg1 Qcj EF):=rw1 (C:=Zt) Zsr
def Qba:Sk:=⟨[tf [ci]],[],[]⟩
def Qkh:Sk:=⟨[tf [CS.bool]],[],[]⟩
def SU (M:Fn):Nat×Spec:=(123,Ac Qba Qkh M)
def Qni:Cfg:=cf []
def Qqj:Fn:=Am PG Qni 64 123 Qba Qkh
theorem Z07 (x0:Int):Qqj [I x0]=
 bif decide (x0>=1)then
 some [B (decide (x0<=6))]
 else
 some [B false]:=by kernel_rfl
def DG:=Qqj
theorem Zhh:Aj PG (Qni):=Ao rfl trivial
theorem Ra:Al PG (123,Ac Qba Qkh DG):=rw1 (C:=Qni) Zhh
def Qny:Sk:=⟨[TS.v true (cc 13++[CS.bool,ci,CS.bool]++cc 5++[CS.bool])],[],[]⟩
def Xl:Sk:=⟨[tf [CS.bool]],[],[]⟩
def Q1c (M:Fn):Nat×Spec:=(169,Ac Qny Xl M)
def Qn2:Cfg:=cf []
def Q0h:Fn:=Am PG Qn2 64 169 Qny Xl
theorem Zxd (x0 x1 x2 x3 x4 x5 x6 x7 x8 x9 x10 x11 x12:Int) (x13:Bool) (x14:Int) (x15:Bool) (x16 x17 x18 x19 x20:Int) (x21:Bool):Q0h [I x0,I x1,I x2,I x3,I x4,I x5,I x6,I x7,I x8,I x9,I x10,I x11,I x12,B x13,I x14,B x15,I x16,I x17,I x18,I x19,I x20,B x21]=
 bif x0==5 then
 some [B true]
 else
 some [B (x0==6)]:=by kernel_rfl
def Hk:=Q0h
theorem Zeb:Aj PG (Qn2):=Ao rfl trivial
theorem Qsa:Al PG (169,Ac Qny Xl Hk):=rw1 (C:=Qn2) Zeb
def Qko:Sk:=⟨[tf [CS.sl Ai],tf [ci]],[],[]⟩
def Qmu:Sk:=⟨[tf [CS.bool]],[],[]⟩
def Z10 (M:Fn):Nat×Spec:=(173,Ac Qko Qmu M)
def Qlu (AM CA:Fn):Cfg:=cf [SU AM,Q1c CA]
def Qsq:Sk:=⟨dd 23++[tf [CS.sl Ai],tf [ci],tf [ci]]++dd 9,[],[]⟩
def Qtx:List (Ex×Sk):=[(Ex.ret,⟨[td,td,td,td,tf [CS.bool]]++dd 30,[],[]⟩),(Ex.exit 0,⟨[td]++dd 34,[],[]⟩)]
def Kn (AM CA:Fn):Lp:=A4 PG (Qlu AM CA) 64 4 (A0 PG 173 4) Qsq Qtx
def Qpe (AM CA:Fn) (N4:Lp):Cfg:=(Qlu AM CA).loop 4 Qsq Qtx N4
def Qf9 (AM CA:Fn) (N4:Lp):Fn:=Am PG (Qpe AM CA N4) 64 173 Qko Qmu
theorem Qre (AM CA:Fn) (v0:Rw) (v1 v2:Int):Kn AM CA [.view Ai v0,I v1,I v2]=
 bif decide (v2<v1)then
 bif decide (0<=v2)&&decide (v2<(v0.length:Int))then
 (AM [jA (nth [] v0 v2.toNat) 0]).bind fun o5=>
 bif bA o5 0 then
 (CA (AK Ai (nth [] v0 v2.toNat))).bind fun o6=>
 some (1,[B (bA o6 0)])
 else
 some (0,[.view Ai v0,I v1,I (wrap .i64 (v2+1))])
 else
 none
 else
 some (2,[]):=by kernel_rfl
theorem Zul (AM CA:Fn) (N4:Lp) (x0:Rw) (x1:Int):Qf9 AM CA N4 [.view Ai x0,I x1]=
 bif decide (0<=x1)&&decide (x1<(x0.length:Int))then
 bif gA (nth [] x0 x1.toNat) 18==0 then
 some [B true]
 else
 bif decide (0<=x1)&&decide (x1<(x0.length:Int))then
 (CA (AK Ai (nth [] x0 x1.toNat))).bind fun o7=>
 bif bA o7 0 then
 some [B true]
 else
 bif decide (0<=wrap .i64 (x1+1))&&decide (wrap .i64 (x1+1)<=(x0.length:Int))then
 (N4 [.view Ai (List.drop (wrap .i64 (x1+1)).toNat x0),I (↑(List.drop (wrap .i64 (x1+1)).toNat x0).length:Int),I 0]).bind fun o8=>
 bif o8.1.beq 1 then
 some [B (bA o8.2 0)]
 else
 bif o8.1.beq 2 then
 some [B false]
 else
 none
 else
 none
 else
 none
 else
 none:=by kernel_rfl
def Q64:=An (Kn DG Hk)
def O7:=Qf9 DG Hk Q64
theorem Qrh:Aj PG (Qlu DG Hk):=Ao rfl ⟨Ra,Qsa,trivial⟩
theorem Z2g:Al PG (173,Ac Qko Qmu O7):=rw2 (C:=(Qpe DG Hk Q64)) (fl fb Qrh) Qrh
def Qjh:Sk:=⟨[tf [CS.ptr 20000 0],tf [CS.sl Ai],tf [ci]],[(20000,142,[ci,ci,ci,CS.own 20000 7,CS.own 20001 3,CS.bool,ci,ci,ci])],[(20000,162,Ah),(20001,76,kPt)]⟩
def Qht:Sk:=⟨[TS.tup []],[(20000,142,[ci,ci,ci,CS.own 20000 7,CS.own 20001 3,CS.bool,ci,ci,ci])],[(20000,162,Ah),(20001,76,kPt)]⟩
def Zxe (M:Fn):Nat×Spec:=(127,Ac Qjh Qht M)
def Wq (Mx AM:Fn):Cfg:=cf [Z10 Mx,SU AM]
def YA (Mx AM:Fn):Fn:=Am PG (Wq Mx AM) 64 127 Qjh Qht
abbrev Wj (AM:Fn) (x2:Rw) (x3:Int) (x1:Rw) (x8:Int) (x0:Rw) (x4 x5 x6:Int) (x7:Bool) (x9 x10:Int):Option (List AC):=
 (AM [jA (nth [] x2 x3.toNat) 0]).bind fun o6=>
 bif bA o6 0 then
 bif((x1++[[I x8,I 2,I x3]]).length*24).ble 140737488355328 then
 some [.view Ah x0, .view kPt (x1++[[I x8,I 2,I x3]]),I x4,I x5,I x6,B x7,I x8,I x9,I x10]
 else
 none
 else
 bif gA (nth [] x2 x3.toNat) 0==10 then
 bif((x1++[[I x8,I 5,I x3]]).length*24).ble 140737488355328 then
 some [.view Ah x0, .view kPt (x1++[[I x8,I 5,I x3]]),I x4,I x5,I x6,B x7,I x8,I x9,I x10]
 else
 none
 else
 bif gA (nth [] x2 x3.toNat) 0==13 then
 bif((x1++[[I x8,I 4,I x3]]).length*24).ble 140737488355328 then
 some [.view Ah x0, .view kPt (x1++[[I x8,I 4,I x3]]),I x4,I x5,I x6,B x7,I x8,I x9,I x10]
 else
 none
 else
 bif((x1++[[I x8,I 3,I x3]]).length*24).ble 140737488355328 then
 some [.view Ah x0, .view kPt (x1++[[I x8,I 3,I x3]]),I x4,I x5,I x6,B x7,I x8,I x9,I x10]
 else
 none
attribute [go_sem] Wj
theorem Zds (Mx AM:Fn) (x0 x1 x2:Rw) (x3 x4 x5 x6:Int) (x7:Bool) (x8 x9 x10:Int):YA Mx AM [.view Ah x0, .view kPt x1, .view Ai x2,I x3,I x4,I x5,I x6,B x7,I x8,I x9,I x10]=
 bif decide (0<=x3)&&decide (x3<(x2.length:Int))then
 bif gA (nth [] x2 x3.toNat) 0==4 then
 bif((x1++[[I x8,I 6,I x3]]).length*24).ble 140737488355328 then
 some [.view Ah x0, .view kPt (x1++[[I x8,I 6,I x3]]),I x4,I x5,I x6,B x7,I x8,I x9,I x10]
 else
 none
 else
 (AM [jA (nth [] x2 x3.toNat) 0]).bind fun o4=>
 bif bA o4 0 then
 (Mx [.view Ai x2,I x3]).bind fun o5=>
 bif bA o5 0 then
 bif((x1++[[I x8,I 1,I x3]]).length*24).ble 140737488355328 then
 some [.view Ah x0, .view kPt (x1++[[I x8,I 1,I x3]]),I x4,I x5,I x6,B x7,I x8,I x9,I x10]
 else
 none
 else
 Wj AM x2 x3 x1 x8 x0 x4 x5 x6 x7 x9 x10
 else
 Wj AM x2 x3 x1 x8 x0 x4 x5 x6 x7 x9 x10
 else
 none:=by kernel_rfl
def Je:=YA O7 DG
theorem Zmf:Aj PG (Wq O7 DG):=Ao rfl ⟨Z2g,Ra,trivial⟩
theorem Zat:Al PG (127,Ac Qjh Qht Je):=rw1 (C:=(Wq O7 DG)) Zmf
def ZE:Sk:=⟨[TS.v true (cc 13++[CS.bool,ci,CS.bool]++cc 5++[CS.bool])],[],[]⟩
def Yq:Sk:=⟨[TS.v true [ci,ci,ci]],[],[]⟩
def Vj (M:Fn):Nat×Spec:=(172,Ac ZE Yq M)
def Xk:Cfg:=cf []
def Qsd:Fn:=Am PG Xk 64 172 ZE Yq
theorem Ze0 (x0 x1 x2 x3 x4 x5 x6 x7 x8 x9 x10 x11 x12:Int) (x13:Bool) (x14:Int) (x15:Bool) (x16 x17 x18 x19 x20:Int) (x21:Bool):Qsd [I x0,I x1,I x2,I x3,I x4,I x5,I x6,I x7,I x8,I x9,I x10,I x11,I x12,B x13,I x14,B x15,I x16,I x17,I x18,I x19,I x20,B x21]=
 some [I (wrap .i64 (wrap .i64 (x2+x5)*8)),I (wrap .i64 (wrap .i64 (x3+x6)*8)),I (wrap .i64 (wrap .i64 (x4+x7)*8))]:=by kernel_rfl
def FR:=Qsd
theorem Znt:Aj PG (Xk):=Ao rfl trivial
theorem YJ:Al PG (172,Ac ZE Yq FR):=rw1 (C:=Xk) Znt
def Qne:Sk:=⟨[TS.v true [CS.int .u64,CS.int .u64],TS.v true [CS.int .u64,CS.int .u64]],[],[]⟩
def Qjb:Sk:=⟨[tf [ci]],[],[]⟩
def Qzs (M:Fn):Nat×Spec:=(211,Ac Qne Qjb M)
def Qd0:Cfg:=cf []
def Qvg:Fn:=Am PG Qd0 64 211 Qne Qjb
theorem Zgt (x0 x1 x2 x3:Int):Qvg [U x0,U x1,U x2,U x3]=
 bif decide (x0<x2)then
 some [I (-1)]
 else
 bif x0==x2 then
 bif decide (x1<x3)then
 some [I (-1)]
 else
 bif x0==x2&&(x1==x3&&true)then
 some [I 0]
 else
 some [I 1]
 else
 bif x0==x2&&(x1==x3&&true)then
 some [I 0]
 else
 some [I 1]:=by kernel_rfl
def HU:=Qvg
theorem Zl8:Aj PG (Qd0):=Ao rfl trivial
theorem Qt4:Al PG (211,Ac Qne Qjb HU):=rw1 (C:=Qd0) Zl8
def Xm:Sk:=⟨[TS.v true [CS.int .u64,CS.int .u64]],[],[]⟩
def Qic:Sk:=⟨[tf [CS.int .u64]],[],[]⟩
def Q18 (M:Fn):Nat×Spec:=(221,Ac Xm Qic M)
def Qd2 (DR BA:Fn):Cfg:=cf [Qzs DR,Td BA]
def Qpf:Sk:=⟨[td,tf [CS.ptr 1 0],td,tf [CS.int .u64],tf [CS.int .u64]]++dd 16,[(1,185,[CS.int .u64,CS.int .u64])],[]⟩
def Q3k:List (Ex×Sk):=[(Ex.exit 0,⟨[td,td,td,tf [CS.int .u64]]++dd 17,[],[]⟩)]
def K8 (DR BA:Fn):Lp:=A4 PG (Qd2 DR BA) 64 3 (A0 PG 221 3) Qpf Q3k
def Qra (DR BA:Fn) (N3:Lp):Cfg:=(Qd2 DR BA).loop 3 Qpf Q3k N3
def Qlj (DR BA:Fn) (N3:Lp):Fn:=Am PG (Qra DR BA N3) 64 221 Xm Qic
theorem Q6m (DR BA:Fn) (v0 v1 v2 v3:Int):K8 DR BA [U v0,U v1,U v2,U v3]=
 bif decide (v1>0)then
 (BA [U (wrap .u64 (↑(BitVec.ofInt IntKind.u64.bits v0|||BitVec.ofInt IntKind.u64.bits v1).toNat:Int)),U (wrap .u64 (↑(BitVec.ofInt IntKind.u64.bits v0|||BitVec.ofInt IntKind.u64.bits v1).toNat:Int))]).bind fun o3=>
 (DR [U (gA o3 0),U (gA o3 1),U v2,U v3]).bind fun o4=>
 bif decide (gA o4 0<=0)then
 some (0,[U (wrap .u64 (↑(BitVec.ofInt IntKind.u64.bits v0|||BitVec.ofInt IntKind.u64.bits v1).toNat:Int)),U (v1.fdiv (2^min (Int.toNat 1) IntKind.u64.bits)),U v2,U v3])
 else
 some (0,[U v0,U (v1.fdiv (2^min (Int.toNat 1) IntKind.u64.bits)),U v2,U v3])
 else
 some (1,[U v0]):=by kernel_rfl
theorem Z2d (DR BA:Fn) (N3:Lp) (x0 x1:Int):Qlj DR BA N3 [U x0,U x1]=
 (N3 [U 0,U 9223372036854775808,U x0,U x1]).bind fun o5=>
 bif o5.1.beq 1 then
 some [U (gA o5.2 0)]
 else
 none:=by kernel_rfl
def Q11:=An (K8 HU En)
def Jw:=Qlj HU En Q11
theorem Q06:Aj PG (Qd2 HU En):=Ao rfl ⟨Qt4,Tm,trivial⟩
theorem Q6s:Al PG (221,Ac Xm Qic Jw):=rw2 (C:=(Qra HU En Q11)) (fl fb Q06) Q06
def Uy:Sk:=⟨[TS.v true [CS.int .u64,CS.int .u64],tf [ci]],[],[]⟩
def Qjn:Sk:=⟨[TS.tup [(false,[ci]),(false,[CS.bool])]],[],[]⟩
def Ztu (M:Fn):Nat×Spec:=(216,Ac Uy Qjn M)
def Qgp (Bb Kz FZ FM:Fn):Cfg:=cf [X2 Bb,(222,Ac Quz Qq2 Kz),(175,Ac Vg W9 FZ),Q18 FM]
def Qm7 (Bb Kz FZ FM:Fn):Fn:=Am PG (Qgp Bb Kz FZ FM) 64 216 Uy Qjn
abbrev Yz (x2:Int) (o17:List AC) (Bb:Fn) (o14 o16:List AC):Option (List AC):=
 bif x2==2 then
 bif decide (gA o17 0>0)then
 (Bb [U (wrap .u64 (gA o14 0+1)),B false]).bind fun o20=>
 some [jA o20 0,B (bA o20 1)]
 else
 bif decide (gA o16 0>gA o14 0)then
 (Bb [U (wrap .u64 (gA o14 0+1)),B false]).bind fun o21=>
 some [jA o21 0,B (bA o21 1)]
 else
 (Bb [U (gA o14 0),B false]).bind fun o22=>
 some [jA o22 0,B (bA o22 1)]
 else
 (Bb [U (gA o14 0),B false]).bind fun o23=>
 some [jA o23 0,B (bA o23 1)]
attribute [go_sem] Yz
theorem Zud (Bb Kz FZ FM:Fn) (x0 x1 x2:Int):Qm7 Bb Kz FZ FM [U x0,U x1,I x2]=
 (FM [U x0,U x1]).bind fun o14=>
 (FZ [U (gA o14 0),U (gA o14 0)]).bind fun o15=>
 (Kz [U x1,U (gA o15 1),U 0]).bind fun o16=>
 (Kz [U x0,U (gA o15 0),U (gA o16 1)]).bind fun o17=>
 bif x2==1 then
 bif decide (gA o17 0>0)then
 (Bb [U (wrap .u64 (gA o14 0+1)),B false]).bind fun o18=>
 some [jA o18 0,B (bA o18 1)]
 else
 bif decide (gA o16 0>0)then
 (Bb [U (wrap .u64 (gA o14 0+1)),B false]).bind fun o19=>
 some [jA o19 0,B (bA o19 1)]
 else
 Yz x2 o17 Bb o14 o16
 else
 Yz x2 o17 Bb o14 o16:=by kernel_rfl
def Sf:=Qm7 EY J2 H0 Jw
theorem Zpl:Aj PG (Qgp EY J2 H0 Jw):=Ao rfl ⟨Vx,Zrg,Q4t,Q6s,trivial⟩
theorem Zij:Al PG (216,Ac Uy Qjn Sf):=rw1 (C:=(Qgp EY J2 H0 Jw)) Zpl
def Qdx:Sk:=⟨[tf [ci],tf [ci]],[],[]⟩
def Ql0:Sk:=⟨[TS.tup [(false,[ci]),(false,[CS.bool])]],[],[]⟩
def Qzn (M:Fn):Nat×Spec:=(210,Ac Qdx Ql0 M)
def Qnl (L8 Dw:Fn):Cfg:=cf [Ztu L8,Qg8 Dw]
def VA (L8 Dw:Fn):Fn:=Am PG (Qnl L8 Dw) 64 210 Qdx Ql0
theorem Zb6 (L8 Dw:Fn) (x0 x1:Int):VA L8 Dw [I x0,I x1]=
 bif decide (x0<0)then
 some [I 0,B false]
 else
 (Dw [I x1]).bind fun o2=>
 bif !bA o2 0 then
 some [I 0,B false]
 else
 (L8 [U 0,U (wrap .u64 x0),I x1]).bind fun o3=>
 some [jA o3 0,B (bA o3 1)]:=by kernel_rfl
def Jf:=VA Sf Fu
theorem Zsn:Aj PG (Qnl Sf Fu):=Ao rfl ⟨Zij,Qm2,trivial⟩
theorem Qu4:Al PG (210,Ac Qdx Ql0 Jf):=rw1 (C:=(Qnl Sf Fu)) Zsn
def Qin:Sk:=⟨[TS.v true [ci,ci,ci],TS.v true [ci,ci,ci]],[],[]⟩
def Qcb:Sk:=⟨[tf [ci]],[],[]⟩
def Qr0 (M:Fn):Nat×Spec:=(195,Ac Qin Qcb M)
def Z_ (FB:Fn):Cfg:={cf [Qzn FB]with unroll:=[3]}
def UL (FB:Fn):Fn:=Am PG (Z_ FB) 64 195 Qin Qcb
theorem Zav (FB:Fn) (x0 x1 x2 x3 x4 x5:Int):UL FB [I x0,I x1,I x2,I x3,I x4,I x5]=
 (FB [I (wrap .i64 (wrap .i64 (wrap .i64 (0+wrap .i64 (wrap .i64 (x0-x3)*wrap .i64 (x0-x3)))+wrap .i64 (wrap .i64 (x1-x4)*wrap .i64 (x1-x4)))+wrap .i64 (wrap .i64 (x2-x5)*wrap .i64 (x2-x5)))),I 1]).bind fun o1=>
 some [jA o1 0]:=by kernel_rfl
def Jb:=UL Jf
theorem Zh0:Aj PG (Z_ Jf):=Ao rfl ⟨Qu4,trivial⟩
theorem Q0e:Al PG (195,Ac Qin Qcb Jb):=rw1 (C:=(Z_ Jf)) Zh0
def Qn6:Sk:=⟨[tf [CS.ptr 20000 0],TS.v true [ci,ci,ci],TS.v true (cc 7)],[(20000,142,[ci,ci,ci,CS.own 20000 7,CS.own 20001 3,CS.bool,ci,ci,ci])],[(20000,162,Ah),(20001,76,kPt)]⟩
def Qdq:Sk:=⟨[TS.tup []],[(20000,142,[ci,ci,ci,CS.own 20000 7,CS.own 20001 3,CS.bool,ci,ci,ci])],[(20000,162,Ah),(20001,76,kPt)]⟩
def Zwz (M:Fn):Nat×Spec:=(171,Ac Qn6 Qdq M)
def UM (C8:Fn):Cfg:=cf [Qr0 C8]
def Tp (C8:Fn):Fn:=Am PG (UM C8) 64 171 Qn6 Qdq
abbrev YF (x15:Bool) (x0 x1:Rw) (x2 x3 x4 x16 x17 x18 x12 x13 x14:Int) (C8:Fn) (x9 x10 x11:Int) (h1_0:Bool) (h1_1 h1_2 h1_3:AC):Option (List AC):=
 bif !x15 then
 some [.view Ah x0, .view kPt x1,I x2,I x3,I x4,B true,I x16,I x17,I x18]
 else
 bif h1_0 then
 some [.view Ah x0, .view kPt x1,I x12,I x13,I x14,B x15,I x16,I x17,I x18]
 else
 (C8 [h1_1,h1_2,h1_3,I x2,I x3,I x4]).bind fun o2=>
 bif((x0++[[I x2,I x3,I x4,jA o2 0,I x9,I x10,I x11]]).length*56).ble 140737488355328 then
 some [.view Ah (x0++[[I x2,I x3,I x4,jA o2 0,I x9,I x10,I x11]]), .view kPt x1,I x12,I x13,I x14,B x15,I (wrap .i64 (x16+gA o2 0)),I x17,I x18]
 else
 none
attribute [go_sem] YF
theorem Qrs (C8:Fn) (x0 x1:Rw) (x2 x3 x4 x5 x6 x7 x8 x9 x10 x11 x12 x13 x14:Int) (x15:Bool) (x16 x17 x18:Int):Tp C8 [.view Ah x0, .view kPt x1,I x2,I x3,I x4,I x5,I x6,I x7,I x8,I x9,I x10,I x11,I x12,I x13,I x14,B x15,I x16,I x17,I x18]=
 bif decide ((x0.length:Int)>0)then
 bif decide (0<=wrap .i64 ((x0.length:Int)-1))&&decide (wrap .i64 ((x0.length:Int)-1)<(x0.length:Int))then
 YF x15 x0 x1 x2 x3 x4 x16 x17 x18 x12 x13 x14 C8 x9 x10 x11 (x2==gA (nth [] x0 (wrap .i64 ((x0.length:Int)-1)).toNat) 0&&(x3==gA (nth [] x0 (wrap .i64 ((x0.length:Int)-1)).toNat) 1&&(x4==gA (nth [] x0 (wrap .i64 ((x0.length:Int)-1)).toNat) 2&&true))) (jA (nth [] x0 (wrap .i64 ((x0.length:Int)-1)).toNat) 0) (jA (nth [] x0 (wrap .i64 ((x0.length:Int)-1)).toNat) 1) (jA (nth [] x0 (wrap .i64 ((x0.length:Int)-1)).toNat) 2)
 else
 none
 else
 YF x15 x0 x1 x2 x3 x4 x16 x17 x18 x12 x13 x14 C8 x9 x10 x11 (x2==x12&&(x3==x13&&(x4==x14&&true))) (I x12) (I x13) (I x14):=by kernel_rfl
def Oq:=Tp Jb
theorem Zll:Aj PG (UM Jb):=Ao rfl ⟨Q0e,trivial⟩
theorem Zaj:Al PG (171,Ac Qn6 Qdq Oq):=rw1 (C:=(UM Jb)) Zll
def Qmb:Sk:=⟨[tf [CS.sl Ai],tf [ci]],[],[]⟩
def Qam:Sk:=⟨[tf [ci]],[],[]⟩
def Zw (M:Fn):Nat×Spec:=(125,Ac Qmb Qam M)
def C_path_next_0:Cfg:=cf []
def Qwb:Sk:=⟨[tf [CS.sl Ai],tf [ci]]++dd 20,[],[]⟩
def Qvv:List (Ex×Sk):=[(Ex.exit 0,⟨[td,tf [ci]]++dd 20,[],[]⟩)]
def Pn:Lp:=A4 PG C_path_next_0 64 2 (A0 PG 125 2) Qwb Qvv
def Q0i (N2:Lp):Cfg:=C_path_next_0.loop 2 Qwb Qvv N2
def Z3 (N2:Lp):Fn:=Am PG (Q0i N2) 64 125 Qmb Qam
theorem Q4x (v0:Rw) (v1:Int):Pn [.view Ai v0,I v1]=
 bif decide (v1<(v0.length:Int))then
 bif decide (0<=v1)&&decide (v1<(v0.length:Int))then
 bif gA (nth [] v0 v1.toNat) 0==10 then
 some (0,[.view Ai v0,I (wrap .i64 (v1+1))])
 else
 some (1,[I v1])
 else
 none
 else
 some (1,[I v1]):=by kernel_rfl
theorem Zfa (N2:Lp) (x0:Rw) (x1:Int):Z3 N2 [.view Ai x0,I x1]=
 (N2 [.view Ai x0,I (wrap .i64 (x1+1))]).bind fun o1=>
 bif o1.1.beq 1 then
 some [jA o1.2 0]
 else
 none:=by kernel_rfl
def Qrg:=An (Pn)
def Fd:=Z3 Qrg
theorem Qxe:Aj PG (C_path_next_0):=Ao rfl trivial
theorem Qhd:Al PG (125,Ac Qmb Qam Fd):=rw2 (C:=(Q0i Qrg)) (fl fb Qxe) Qxe
def T2:Sk:=⟨[tf [CS.sl Ai],tf [ci]],[],[]⟩
def Qnw:Sk:=⟨[tf [CS.bool]],[],[]⟩
def Qzm (M:Fn):Nat×Spec:=(124,Ac T2 Qnw M)
def Vv (Bi Bo:Fn):Cfg:=cf [QQ Bi,Zw Bo]
def Qh1 (Bi Bo:Fn):Fn:=Am PG (Vv Bi Bo) 64 124 T2 Qnw
theorem Q9b (Bi Bo:Fn) (x0:Rw) (x1:Int):Qh1 Bi Bo [.view Ai x0,I x1]=
 (Bo [.view Ai x0,I x1]).bind fun o3=>
 bif decide (0<=x1)&&decide (x1<(x0.length:Int))then
 (Bi (AK Ai (nth [] x0 x1.toNat))).bind fun o4=>
 bif bA o4 0 then
 bif decide (0<=x1)&&decide (x1<(x0.length:Int))then
 bif gA (nth [] x0 x1.toNat) 18 !=0 then
 bif decide (gA o3 0<(x0.length:Int))then
 bif decide (0<=gA o3 0)&&decide (gA o3 0<(x0.length:Int))then
 (Bi (AK Ai (nth [] x0 (gA o3 0).toNat))).bind fun o5=>
 some [B (bA o5 0)]
 else
 none
 else
 some [B false]
 else
 some [B false]
 else
 none
 else
 some [B false]
 else
 none:=by kernel_rfl
def Gj:=Qh1 EF Fd
theorem Zr6:Aj PG (Vv EF Fd):=Ao rfl ⟨R_,Qhd,trivial⟩
theorem Qv2:Al PG (124,Ac T2 Qnw Gj):=rw1 (C:=(Vv EF Fd)) Zr6
def Qa5:Sk:=⟨[TS.v true [ci,ci,ci],TS.v true [ci,ci,ci],TS.v true [ci,ci,ci]],[],[]⟩
def Zm:Sk:=⟨[tf [ci]],[],[]⟩
def Q0w (M:Fn):Nat×Spec:=(219,Ac Qa5 Zm M)
def Qlb:Cfg:={cf []with unroll:=[3]}
def Qyq:Fn:=Am PG Qlb 64 219 Qa5 Zm
theorem Zy7 (x0 x1 x2 x3 x4 x5 x6 x7 x8:Int):Qyq [I x0,I x1,I x2,I x3,I x4,I x5,I x6,I x7,I x8]=
 some [I (wrap .i64 (wrap .i64 (wrap .i64 (0+wrap .i64 (wrap .i64 (wrap .i64 (x0+x6)-wrap .i64 (2*x3))*wrap .i64 (wrap .i64 (x0+x6)-wrap .i64 (2*x3))))+wrap .i64 (wrap .i64 (wrap .i64 (x1+x7)-wrap .i64 (2*x4))*wrap .i64 (wrap .i64 (x1+x7)-wrap .i64 (2*x4))))+wrap .i64 (wrap .i64 (wrap .i64 (x2+x8)-wrap .i64 (2*x5))*wrap .i64 (wrap .i64 (x2+x8)-wrap .i64 (2*x5)))))]:=by kernel_rfl
def GS:=Qyq
theorem Zdt:Aj PG (Qlb):=Ao rfl trivial
theorem Qsi:Al PG (219,Ac Qa5 Zm GS):=rw1 (C:=Qlb) Zdt
def Qbw:Sk:=⟨[TS.v true [ci,ci,ci],TS.v true [ci,ci,ci],TS.v true [ci,ci,ci]],[],[]⟩
def U9:Sk:=⟨[tf [ci]],[],[]⟩
def Z05 (M:Fn):Nat×Spec:=(215,Ac Qbw U9 M)
def TX (CQ:Fn):Cfg:=cf [Q0w CQ]
def Qu6:Sk:=⟨[td,td,td,tf [CS.ptr 3 0],tf [CS.ptr 4 0],tf [CS.ptr 5 0],td,tf [ci]]++dd 22,[(3,54,[ci,ci,ci]),(4,54,[ci,ci,ci]),(5,54,[ci,ci,ci])],[]⟩
def Qvu:List (Ex×Sk):=[(Ex.exit 0,⟨dd 7++[tf [ci]]++dd 22,[],[]⟩)]
def PU (CQ:Fn):Lp:=A4 PG (TX CQ) 64 2 (A0 PG 215 2) Qu6 Qvu
def Qr5 (CQ:Fn) (N2:Lp):Cfg:=(TX CQ).loop 2 Qu6 Qvu N2
def Qf2 (CQ:Fn) (N2:Lp):Fn:=Am PG (Qr5 CQ N2) 64 215 Qbw U9
theorem Zfw (CQ:Fn) (v0 v1 v2 v3 v4 v5 v6 v7 v8 v9:Int):PU CQ [I v0,I v1,I v2,I v3,I v4,I v5,I v6,I v7,I v8,I v9]=
 bif decide (v0<64)then
 (CQ [I v1,I v2,I v3,I v4,I v5,I v6,I v7,I v8,I v9]).bind fun o2=>
 bif decide (gA o2 0>wrap .i64 (wrap .i64 (wrap .i64 (wrap .i64 (wrap .i64 (wrap .i64 (16*v0)*v0)*v0)*v0)*4)*4))then
 some (0,[I (wrap .i64 (v0*2)),I v1,I v2,I v3,I v4,I v5,I v6,I v7,I v8,I v9])
 else
 some (1,[I v0])
 else
 some (1,[I v0]):=by kernel_rfl
theorem Z0u (CQ:Fn) (N2:Lp) (x0 x1 x2 x3 x4 x5 x6 x7 x8:Int):Qf2 CQ N2 [I x0,I x1,I x2,I x3,I x4,I x5,I x6,I x7,I x8]=
 (N2 [I 2,I x0,I x1,I x2,I x3,I x4,I x5,I x6,I x7,I x8]).bind fun o3=>
 bif o3.1.beq 1 then
 some [jA o3.2 0]
 else
 none:=by kernel_rfl
def Q2v:=An (PU GS)
def JE:=Qf2 GS Q2v
theorem Qz4:Aj PG (TX GS):=Ao rfl ⟨Qsi,trivial⟩
theorem Zos:Al PG (215,Ac Qbw U9 JE):=rw2 (C:=(Qr5 GS Q2v)) (fl fb Qz4) Qz4
def Uk:Sk:=⟨[TS.v true [CS.int .u64,CS.int .u64],tf [CS.int .u64]],[],[]⟩
def ZN:Sk:=⟨[TS.tup [(true,[CS.int .u64,CS.int .u64]),(false,[CS.bool])]],[],[]⟩
def Q8a (M:Fn):Nat×Spec:=(224,Ac Uk ZN M)
def Qih (Fq:Fn):Cfg:=cf [Q58 Fq]
def Qkf (Fq:Fn):Fn:=Am PG (Qih Fq) 64 224 Uk ZN
theorem Zm0 (Fq:Fn) (x0 x1 x2:Int):Qkf Fq [U x0,U x1,U x2]=
 (Fq [U 0,U x0,U x2]).bind fun o2=>
 (Fq [U (gA o2 1),U x1,U x2]).bind fun o3=>
 some [U (gA o2 0),U (gA o3 0),B (decide (gA o3 1>0))]:=by kernel_rfl
def RM:=Qkf GD
theorem Q8d:Aj PG (Qih GD):=Ao rfl ⟨Q1m,trivial⟩
theorem Zm8:Al PG (224,Ac Uk ZN RM):=rw1 (C:=(Qih GD)) Q8d
def Qdf:Sk:=⟨[tf [ci],tf [ci],tf [ci],tf [ci]],[],[]⟩
def UB:Sk:=⟨[TS.tup [(false,[ci]),(false,[CS.bool])]],[],[]⟩
def Qrr (M:Fn):Nat×Spec:=(220,Ac Qdf UB M)
def UG (Bb CE De FM OB BA Dw Cf:Fn):Cfg:=cf [X2 Bb,Qo3 CE,Qk1 De,Q18 FM,Q8a OB,Td BA,Qg8 Dw,T_ Cf]
def YH (Bb CE De FM OB BA Dw Cf:Fn):Fn:=Am PG (UG Bb CE De FM OB BA Dw Cf) 64 220 Qdf UB
abbrev P0 (CE:Fn) (x3:Int) (Bb:Fn) (o42:List AC) (h1_0:Bool) (h1_1 h1_2 h1_3 h1_4:AC):Option (List AC):=
 bif h1_0 then
 (CE [I x3,h1_1,B true,h1_2]).bind fun o44=>
 bif bA o44 0 then
 (Bb [U (wrap .u64 (wrap .u64 ((gA o42 0).tdiv 2)+1)),h1_2]).bind fun o45=>
 some [jA o45 0,B (bA o45 1)]
 else
 (Bb [U (wrap .u64 ((gA o42 0).tdiv 2)),h1_2]).bind fun o46=>
 some [jA o46 0,B (bA o46 1)]
 else
 (CE [I x3,h1_3,h1_4,h1_2]).bind fun o47=>
 bif bA o47 0 then
 (Bb [U (wrap .u64 (wrap .u64 ((gA o42 0).tdiv 2)+1)),h1_2]).bind fun o48=>
 some [jA o48 0,B (bA o48 1)]
 else
 (Bb [U (wrap .u64 ((gA o42 0).tdiv 2)),h1_2]).bind fun o49=>
 some [jA o49 0,B (bA o49 1)]
attribute [go_sem] P0
theorem Q72 (Bb CE De FM OB BA Dw Cf:Fn) (x0 x1 x2 x3:Int):YH Bb CE De FM OB BA Dw Cf [I x0,I x1,I x2,I x3]=
 (Cf [I x0]).bind fun o35=>
 bif decide (gA o35 0>2147483648)then
 some [I 0,B false]
 else
 (Cf [I x1]).bind fun o36=>
 bif decide (gA o36 0>2147483648)then
 some [I 0,B false]
 else
 bif decide (x2<1)then
 some [I 0,B false]
 else
 bif decide (x2>4611686018427387904)then
 some [I 0,B false]
 else
 (Dw [I x3]).bind fun o37=>
 bif !bA o37 0 then
 some [I 0,B false]
 else
 (Cf [I x0]).bind fun o38=>
 (Cf [I x1]).bind fun o39=>
 (BA [U (wrap .u64 (2*wrap .u64 (gA o38 0*gA o39 0))),U (wrap .u64 (2*wrap .u64 (gA o38 0*gA o39 0)))]).bind fun o40=>
 (OB [U (gA o40 0),U (gA o40 1),U (wrap .u64 x2)]).bind fun o41=>
 (FM [U (gA o41 0),U (gA o41 1)]).bind fun o42=>
 bif bA o41 2 then
 (De [I x0,I x1]).bind fun o43=>
 P0 CE x3 Bb o42 ((gA o42 0).tmod 2==1) (I 1) (B (decide (gA o43 0<0))) (I (-1)) (B true)
 else
 (BA [U (gA o42 0),U (gA o42 0)]).bind fun o50=>
 (De [I x0,I x1]).bind fun o51=>
 bif(gA o42 0).tmod 2==1 then
 bif !(gA o50 0==gA o41 0&&(gA o50 1==gA o41 1&&true))then
 P0 CE x3 Bb o42 (!(gA o50 0==gA o41 0&&(gA o50 1==gA o41 1&&true))) (I 1) (B (decide (gA o51 0<0))) (I 1) (B ((gA o42 0).tmod 2==1))
 else
 P0 CE x3 Bb o42 (!(gA o50 0==gA o41 0&&(gA o50 1==gA o41 1&&true))) (I 0) (B (decide (gA o51 0<0))) (I 0) (B ((gA o42 0).tmod 2==1))
 else
 P0 CE x3 Bb o42 (!(gA o50 0==gA o41 0&&(gA o50 1==gA o41 1&&true))) (I (-1)) (B (decide (gA o51 0<0))) (I (-1)) (B ((gA o42 0).tmod 2==1)):=by kernel_rfl
def HO:=YH EY Ht Fs Jw RM En Fu F7
theorem Zsd:Aj PG (UG EY Ht Fs Jw RM En Fu F7):=Ao rfl ⟨Vx,Qtc,Qgs,Q6s,Zm8,Tm,Qm2,Qh8,trivial⟩
theorem Qsj:Al PG (220,Ac Qdf UB HO):=rw1 (C:=(UG EY Ht Fs Jw RM En Fu F7)) Zsd
def V0:Sk:=⟨[TS.v true [ci,ci,ci],TS.v true [ci,ci,ci],tf [ci]],[],[]⟩
def Qit:Sk:=⟨[TS.tup [(true,[ci,ci,ci]),(false,[CS.bool])]],[],[]⟩
def Qwt (M:Fn):Nat×Spec:=(214,Ac V0 Qit M)
def ZZ (Ci:Fn):Cfg:={cf [Qrr Ci]with unroll:=[5,10]}
def Qnd (Ci:Fn):Fn:=Am PG (ZZ Ci) 64 214 V0 Qit
theorem Zia (Ci:Fn) (x0 x1 x2 x3 x4 x5 x6:Int):Qnd Ci [I x0,I x1,I x2,I x3,I x4,I x5,I x6]=
 bif x3==x0&&(x4==x1&&(x5==x2&&true))then
 some [I 0,I 0,I 0,B false]
 else
 bif decide (x6<0)then
 some [I 0,I 0,I 0,B false]
 else
 bif decide (x6>33554432)then
 some [I 0,I 0,I 0,B false]
 else
 (Ci [I (wrap .i64 (x3-x0)),I x6,I (wrap .i64 (wrap .i64 (wrap .i64 (0+wrap .i64 (wrap .i64 (x3-x0)*wrap .i64 (x3-x0)))+wrap .i64 (wrap .i64 (x4-x1)*wrap .i64 (x4-x1)))+wrap .i64 (wrap .i64 (x5-x2)*wrap .i64 (x5-x2)))),I 2]).bind fun o3=>
 (Ci [I (wrap .i64 (x4-x1)),I x6,I (wrap .i64 (wrap .i64 (wrap .i64 (0+wrap .i64 (wrap .i64 (x3-x0)*wrap .i64 (x3-x0)))+wrap .i64 (wrap .i64 (x4-x1)*wrap .i64 (x4-x1)))+wrap .i64 (wrap .i64 (x5-x2)*wrap .i64 (x5-x2)))),I 2]).bind fun o4=>
 (Ci [I (wrap .i64 (x5-x2)),I x6,I (wrap .i64 (wrap .i64 (wrap .i64 (0+wrap .i64 (wrap .i64 (x3-x0)*wrap .i64 (x3-x0)))+wrap .i64 (wrap .i64 (x4-x1)*wrap .i64 (x4-x1)))+wrap .i64 (wrap .i64 (x5-x2)*wrap .i64 (x5-x2)))),I 2]).bind fun o5=>
 some [I (wrap .i64 (x0+gA o3 0)),I (wrap .i64 (x1+gA o4 0)),I (wrap .i64 (x2+gA o5 0)),B true]:=by kernel_rfl
def G1:=Qnd HO
theorem Zw7:Aj PG (ZZ HO):=Ao rfl ⟨Qsj,trivial⟩
theorem Q0m:Al PG (214,Ac V0 Qit G1):=rw1 (C:=(ZZ HO)) Zw7
def Qm3:Sk:=⟨[TS.v true [ci,ci,ci],TS.v true [ci,ci,ci],TS.v true [ci,ci,ci],tf [ci]],[],[]⟩
def Qc8:Sk:=⟨[tf [ci]],[],[]⟩
def Zuh (M:Fn):Nat×Spec:=(213,Ac Qm3 Qc8 M)
def YR (CQ Cl C8:Fn):Cfg:=cf [Q0w CQ,Qwt Cl,Qr0 C8]
def Qwa:Sk:=⟨[td,td,td,tf [ci],tf [CS.ptr 4 0],tf [CS.ptr 5 0],tf [CS.ptr 6 0],td,td,tf [ci],tf [ci],tf [ci]]++dd 62,[(4,54,[ci,ci,ci]),(5,54,[ci,ci,ci]),(6,54,[ci,ci,ci])],[]⟩
def Q1k:List (Ex×Sk):=[(Ex.exit 0,⟨dd 10++[tf [ci]]++dd 63,[],[]⟩)]
def Mj (CQ Cl C8:Fn):Lp:=A4 PG (YR CQ Cl C8) 64 6 (A0 PG 213 6) Qwa Q1k
def Q59 (CQ Cl C8:Fn) (N6:Lp):Cfg:=(YR CQ Cl C8).loop 6 Qwa Q1k N6
def Qmw (CQ Cl C8:Fn) (N6:Lp):Fn:=Am PG (Q59 CQ Cl C8 N6) 64 213 Qm3 Qc8
theorem Qqb (CQ Cl C8:Fn) (v0 v1 v2 v3 v4 v5 v6 v7 v8 v9 v10 v11 v12:Int):Mj CQ Cl C8 [I v0,I v1,I v2,I v3,I v4,I v5,I v6,I v7,I v8,I v9,I v10,I v11,I v12]=
 bif decide (v3>0)then
 bif decide (wrap .i64 (v2+v3)>v1)then
 some (0,[I v0,I v1,I v2,I (v3.fdiv (2^min (Int.toNat 1) IntKind.i64.bits)),I v4,I v5,I v6,I v7,I v8,I v9,I v10,I v11,I v12])
 else
 (Cl [I v7,I v8,I v9,I v4,I v5,I v6,I (wrap .i64 (v2+v3))]).bind fun o8=>
 (Cl [I v7,I v8,I v9,I v10,I v11,I v12,I (wrap .i64 (v2+v3))]).bind fun o9=>
 (CQ [jA o8 0,jA o8 1,jA o8 2,I v7,I v8,I v9,jA o9 0,jA o9 1,jA o9 2]).bind fun o10=>
 bif decide (gA o10 0<=wrap .i64 (wrap .i64 (16*v0)*v0))then
 some (0,[I v0,I v1,I (wrap .i64 (v2+v3)),I (v3.fdiv (2^min (Int.toNat 1) IntKind.i64.bits)),I v4,I v5,I v6,I v7,I v8,I v9,I v10,I v11,I v12])
 else
 some (0,[I v0,I v1,I v2,I (v3.fdiv (2^min (Int.toNat 1) IntKind.i64.bits)),I v4,I v5,I v6,I v7,I v8,I v9,I v10,I v11,I v12])
 else
 some (1,[I v2]):=by kernel_rfl
theorem Z19 (CQ Cl C8:Fn) (N6:Lp) (x0 x1 x2 x3 x4 x5 x6 x7 x8 x9:Int):Qmw CQ Cl C8 N6 [I x0,I x1,I x2,I x3,I x4,I x5,I x6,I x7,I x8,I x9]=
 bif x0==x3&&(x1==x4&&(x2==x5&&true))then
 some [I 0]
 else
 bif x6==x3&&(x7==x4&&(x8==x5&&true))then
 some [I 0]
 else
 (C8 [I x0,I x1,I x2,I x3,I x4,I x5]).bind fun o11=>
 (C8 [I x3,I x4,I x5,I x6,I x7,I x8]).bind fun o12=>
 (N6 [I x9,I (wrap .i64 (mn (gA o11 0) (gA o12 0)-2)),I 0,I 16777216,I x0,I x1,I x2,I x3,I x4,I x5,I x6,I x7,I x8]).bind fun o13=>
 bif o13.1.beq 1 then
 bif decide (gA o13.2 0<16)then
 some [I 0]
 else
 some [jA o13.2 0]
 else
 none:=by kernel_rfl
def Q3a:=An (Mj GS G1 Jb)
def K1:=Qmw GS G1 Jb Q3a
theorem Q6b:Aj PG (YR GS G1 Jb):=Ao rfl ⟨Qsi,Q0m,Q0e,trivial⟩
theorem Q9a:Al PG (213,Ac Qm3 Qc8 K1):=rw2 (C:=(Q59 GS G1 Jb Q3a)) (fl fb Q6b) Q6b
def Qff:Sk:=⟨[TS.v true [ci,ci,ci],TS.v true [ci,ci,ci],TS.v true [ci,ci,ci],tf [ci]],[],[]⟩
def Qd4:Sk:=⟨[tf [CS.sl kPt]],[],[]⟩
def Zzt (M:Fn):Nat×Spec:=(208,Ac Qff Qd4 M)
def Qe1 (AH Gn Cl Gp:Fn):Cfg:={cf [Lx AH,Z05 Gn,Qwt Cl,Zuh Gp]with unroll:=[13]}
def Q22:Sk:=⟨[td,td,td,td,td,tf [CS.ptr 5 0],td,td,td,td,tf [CS.ptr 10 0],td,tf [CS.ptr 12 0],td,tf [ci],tf [CS.own 50 3]]++dd 36++[tf [ci],tf [ci]]++dd 57,[(5,54,[ci,ci,ci]),(10,54,[ci,ci,ci]),(12,54,[ci,ci,ci])],[(50,54,kPt)]⟩
def Q08:List (Ex×Sk):=[(Ex.exit 0,⟨dd 15++[tf [CS.own 50 3]]++dd 95,[],[(50,54,kPt)]⟩)]
def NY (AH Gn Cl Gp:Fn):Lp:=A4 PG (Qe1 AH Gn Cl Gp) 64 9 (A0 PG 208 9) Q22 Q08
def Qu3 (AH Gn Cl Gp:Fn) (N9:Lp):Cfg:=(Qe1 AH Gn Cl Gp).loop 9 Q22 Q08 N9
def Qgq (AH Gn Cl Gp:Fn) (N9:Lp):Fn:=Am PG (Qu3 AH Gn Cl Gp N9) 64 208 Qff Qd4
theorem Q6d (AH Gn Cl Gp:Fn) (v0:Rw) (v1 v2 v3 v4 v5 v6 v7 v8 v9 v10 v11 v12:Int):NY AH Gn Cl Gp [.view kPt v0,I v1,I v2,I v3,I v4,I v5,I v6,I v7,I v8,I v9,I v10,I v11,I v12]=
 bif decide (v3<v2)then
 bif decide (0<=v3)&&decide (v3<(v0.length:Int))then
 (AH [I (wrap .i64 (wrap .i64 (wrap .i64 (wrap .i64 (v1-v3)*wrap .i64 (v1-v3))*wrap .i64 (v7-v4))+wrap .i64 (wrap .i64 (v3*v3)*wrap .i64 (v10-v4)))),I 1,I (wrap .i64 (v1*v1)),I 2]).bind fun o12=>
 bif decide (0<=v3)&&decide (v3<(v0.length:Int))then
 bif decide (0<=v3)&&decide (v3<(v0.length:Int))then
 (AH [I (wrap .i64 (wrap .i64 (wrap .i64 (wrap .i64 (v1-v3)*wrap .i64 (v1-v3))*wrap .i64 (v8-v5))+wrap .i64 (wrap .i64 (v3*v3)*wrap .i64 (v11-v5)))),I 1,I (wrap .i64 (v1*v1)),I 2]).bind fun o13=>
 bif decide (0<=v3)&&decide (v3<(v0.length:Int))then
 bif decide (0<=v3)&&decide (v3<(v0.length:Int))then
 (AH [I (wrap .i64 (wrap .i64 (wrap .i64 (wrap .i64 (v1-v3)*wrap .i64 (v1-v3))*wrap .i64 (v9-v6))+wrap .i64 (wrap .i64 (v3*v3)*wrap .i64 (v12-v6)))),I 1,I (wrap .i64 (v1*v1)),I 2]).bind fun o14=>
 bif decide (0<=v3)&&decide (v3<(v0.length:Int))then
 bif decide (0<=v3)&&decide (v3<(v0.length:Int))then
 some (0,[.view kPt ((((v0.set v3.toNat [I v4,I v5,I v6]).set v3.toNat [I (wrap .i64 (Af (nth .dead (nth [] (v0.set v3.toNat [I v4,I v5,I v6]) v3.toNat) 0)+gA o12 0)),I (Af (nth .dead (nth [] (v0.set v3.toNat [I v4,I v5,I v6]) v3.toNat) 1)),I (Af (nth .dead (nth [] (v0.set v3.toNat [I v4,I v5,I v6]) v3.toNat) 2))]).set v3.toNat [I (Af (nth .dead (nth [] ((v0.set v3.toNat [I v4,I v5,I v6]).set v3.toNat [I (wrap .i64 (Af (nth .dead (nth [] (v0.set v3.toNat [I v4,I v5,I v6]) v3.toNat) 0)+gA o12 0)),I (Af (nth .dead (nth [] (v0.set v3.toNat [I v4,I v5,I v6]) v3.toNat) 1)),I (Af (nth .dead (nth [] (v0.set v3.toNat [I v4,I v5,I v6]) v3.toNat) 2))]) v3.toNat) 0)),I (wrap .i64 (Af (nth .dead (nth [] ((v0.set v3.toNat [I v4,I v5,I v6]).set v3.toNat [I (wrap .i64 (Af (nth .dead (nth [] (v0.set v3.toNat [I v4,I v5,I v6]) v3.toNat) 0)+gA o12 0)),I (Af (nth .dead (nth [] (v0.set v3.toNat [I v4,I v5,I v6]) v3.toNat) 1)),I (Af (nth .dead (nth [] (v0.set v3.toNat [I v4,I v5,I v6]) v3.toNat) 2))]) v3.toNat) 1)+gA o13 0)),I (Af (nth .dead (nth [] ((v0.set v3.toNat [I v4,I v5,I v6]).set v3.toNat [I (wrap .i64 (Af (nth .dead (nth [] (v0.set v3.toNat [I v4,I v5,I v6]) v3.toNat) 0)+gA o12 0)),I (Af (nth .dead (nth [] (v0.set v3.toNat [I v4,I v5,I v6]) v3.toNat) 1)),I (Af (nth .dead (nth [] (v0.set v3.toNat [I v4,I v5,I v6]) v3.toNat) 2))]) v3.toNat) 2))]).set v3.toNat [I (Af (nth .dead (nth [] (((v0.set v3.toNat [I v4,I v5,I v6]).set v3.toNat [I (wrap .i64 (Af (nth .dead (nth [] (v0.set v3.toNat [I v4,I v5,I v6]) v3.toNat) 0)+gA o12 0)),I (Af (nth .dead (nth [] (v0.set v3.toNat [I v4,I v5,I v6]) v3.toNat) 1)),I (Af (nth .dead (nth [] (v0.set v3.toNat [I v4,I v5,I v6]) v3.toNat) 2))]).set v3.toNat [I (Af (nth .dead (nth [] ((v0.set v3.toNat [I v4,I v5,I v6]).set v3.toNat [I (wrap .i64 (Af (nth .dead (nth [] (v0.set v3.toNat [I v4,I v5,I v6]) v3.toNat) 0)+gA o12 0)),I (Af (nth .dead (nth [] (v0.set v3.toNat [I v4,I v5,I v6]) v3.toNat) 1)),I (Af (nth .dead (nth [] (v0.set v3.toNat [I v4,I v5,I v6]) v3.toNat) 2))]) v3.toNat) 0)),I (wrap .i64 (Af (nth .dead (nth [] ((v0.set v3.toNat [I v4,I v5,I v6]).set v3.toNat [I (wrap .i64 (Af (nth .dead (nth [] (v0.set v3.toNat [I v4,I v5,I v6]) v3.toNat) 0)+gA o12 0)),I (Af (nth .dead (nth [] (v0.set v3.toNat [I v4,I v5,I v6]) v3.toNat) 1)),I (Af (nth .dead (nth [] (v0.set v3.toNat [I v4,I v5,I v6]) v3.toNat) 2))]) v3.toNat) 1)+gA o13 0)),I (Af (nth .dead (nth [] ((v0.set v3.toNat [I v4,I v5,I v6]).set v3.toNat [I (wrap .i64 (Af (nth .dead (nth [] (v0.set v3.toNat [I v4,I v5,I v6]) v3.toNat) 0)+gA o12 0)),I (Af (nth .dead (nth [] (v0.set v3.toNat [I v4,I v5,I v6]) v3.toNat) 1)),I (Af (nth .dead (nth [] (v0.set v3.toNat [I v4,I v5,I v6]) v3.toNat) 2))]) v3.toNat) 2))]) v3.toNat) 0)),I (Af (nth .dead (nth [] (((v0.set v3.toNat [I v4,I v5,I v6]).set v3.toNat [I (wrap .i64 (Af (nth .dead (nth [] (v0.set v3.toNat [I v4,I v5,I v6]) v3.toNat) 0)+gA o12 0)),I (Af (nth .dead (nth [] (v0.set v3.toNat [I v4,I v5,I v6]) v3.toNat) 1)),I (Af (nth .dead (nth [] (v0.set v3.toNat [I v4,I v5,I v6]) v3.toNat) 2))]).set v3.toNat [I (Af (nth .dead (nth [] ((v0.set v3.toNat [I v4,I v5,I v6]).set v3.toNat [I (wrap .i64 (Af (nth .dead (nth [] (v0.set v3.toNat [I v4,I v5,I v6]) v3.toNat) 0)+gA o12 0)),I (Af (nth .dead (nth [] (v0.set v3.toNat [I v4,I v5,I v6]) v3.toNat) 1)),I (Af (nth .dead (nth [] (v0.set v3.toNat [I v4,I v5,I v6]) v3.toNat) 2))]) v3.toNat) 0)),I (wrap .i64 (Af (nth .dead (nth [] ((v0.set v3.toNat [I v4,I v5,I v6]).set v3.toNat [I (wrap .i64 (Af (nth .dead (nth [] (v0.set v3.toNat [I v4,I v5,I v6]) v3.toNat) 0)+gA o12 0)),I (Af (nth .dead (nth [] (v0.set v3.toNat [I v4,I v5,I v6]) v3.toNat) 1)),I (Af (nth .dead (nth [] (v0.set v3.toNat [I v4,I v5,I v6]) v3.toNat) 2))]) v3.toNat) 1)+gA o13 0)),I (Af (nth .dead (nth [] ((v0.set v3.toNat [I v4,I v5,I v6]).set v3.toNat [I (wrap .i64 (Af (nth .dead (nth [] (v0.set v3.toNat [I v4,I v5,I v6]) v3.toNat) 0)+gA o12 0)),I (Af (nth .dead (nth [] (v0.set v3.toNat [I v4,I v5,I v6]) v3.toNat) 1)),I (Af (nth .dead (nth [] (v0.set v3.toNat [I v4,I v5,I v6]) v3.toNat) 2))]) v3.toNat) 2))]) v3.toNat) 1)),I (wrap .i64 (Af (nth .dead (nth [] (((v0.set v3.toNat [I v4,I v5,I v6]).set v3.toNat [I (wrap .i64 (Af (nth .dead (nth [] (v0.set v3.toNat [I v4,I v5,I v6]) v3.toNat) 0)+gA o12 0)),I (Af (nth .dead (nth [] (v0.set v3.toNat [I v4,I v5,I v6]) v3.toNat) 1)),I (Af (nth .dead (nth [] (v0.set v3.toNat [I v4,I v5,I v6]) v3.toNat) 2))]).set v3.toNat [I (Af (nth .dead (nth [] ((v0.set v3.toNat [I v4,I v5,I v6]).set v3.toNat [I (wrap .i64 (Af (nth .dead (nth [] (v0.set v3.toNat [I v4,I v5,I v6]) v3.toNat) 0)+gA o12 0)),I (Af (nth .dead (nth [] (v0.set v3.toNat [I v4,I v5,I v6]) v3.toNat) 1)),I (Af (nth .dead (nth [] (v0.set v3.toNat [I v4,I v5,I v6]) v3.toNat) 2))]) v3.toNat) 0)),I (wrap .i64 (Af (nth .dead (nth [] ((v0.set v3.toNat [I v4,I v5,I v6]).set v3.toNat [I (wrap .i64 (Af (nth .dead (nth [] (v0.set v3.toNat [I v4,I v5,I v6]) v3.toNat) 0)+gA o12 0)),I (Af (nth .dead (nth [] (v0.set v3.toNat [I v4,I v5,I v6]) v3.toNat) 1)),I (Af (nth .dead (nth [] (v0.set v3.toNat [I v4,I v5,I v6]) v3.toNat) 2))]) v3.toNat) 1)+gA o13 0)),I (Af (nth .dead (nth [] ((v0.set v3.toNat [I v4,I v5,I v6]).set v3.toNat [I (wrap .i64 (Af (nth .dead (nth [] (v0.set v3.toNat [I v4,I v5,I v6]) v3.toNat) 0)+gA o12 0)),I (Af (nth .dead (nth [] (v0.set v3.toNat [I v4,I v5,I v6]) v3.toNat) 1)),I (Af (nth .dead (nth [] (v0.set v3.toNat [I v4,I v5,I v6]) v3.toNat) 2))]) v3.toNat) 2))]) v3.toNat) 2)+gA o14 0))]),I v1,I v2,I (wrap .i64 (v3+1)),I v4,I v5,I v6,I v7,I v8,I v9,I v10,I v11,I v12])
 else
 none
 else
 none
 else
 none
 else
 none
 else
 none
 else
 none
 else
 none
 else
 some (1,[.view kPt v0]):=by kernel_rfl
theorem Q0u (AH Gn Cl Gp:Fn) (N9:Lp) (x0 x1 x2 x3 x4 x5 x6 x7 x8 x9:Int):Qgq AH Gn Cl Gp N9 [I x0,I x1,I x2,I x3,I x4,I x5,I x6,I x7,I x8,I x9]=
 (Gp [I x0,I x1,I x2,I x3,I x4,I x5,I x6,I x7,I x8,I x9]).bind fun o15=>
 bif gA o15 0==0 then
 some [.view kPt [[I x3,I x4,I x5]]]
 else
 (Cl [I x3,I x4,I x5,I x0,I x1,I x2,jA o15 0]).bind fun o16=>
 (Cl [I x3,I x4,I x5,I x6,I x7,I x8,jA o15 0]).bind fun o17=>
 (Gn [jA o16 0,jA o16 1,jA o16 2,I x3,I x4,I x5,jA o17 0,jA o17 1,jA o17 2]).bind fun o18=>
 bif decide (wrap .i64 (gA o18 0+1)=wrap .i64 (gA o18 0+1))then
 bif decide (0<=wrap .i64 (gA o18 0+1))&&decide (wrap .i64 (gA o18 0+1)*(↑24:Int)<=140737488355328)then
 (N9 [.view kPt (List.replicate (wrap .i64 (gA o18 0+1)).toNat [I 0,I 0,I 0]),jA o18 0,I (↑(List.replicate (wrap .i64 (gA o18 0+1)).toNat [I 0,I 0,I 0]).length:Int),I 0,I x3,I x4,I x5,jA o16 0,jA o16 1,jA o16 2,jA o17 0,jA o17 1,jA o17 2]).bind fun o19=>
 bif o19.1.beq 1 then
 some [.view kPt (wA o19.2 0)]
 else
 none
 else
 none
 else
 none:=by kernel_rfl
def Qvz:=An (NY Bs JE G1 K1)
def Pa:=Qgq Bs JE G1 K1 Qvz
theorem Q1d:Aj PG (Qe1 Bs JE G1 K1):=Ao rfl ⟨Lt,Zos,Q0m,Q9a,trivial⟩
theorem Zqb:Al PG (208,Ac Qff Qd4 Pa):=rw2 (C:=(Qu3 Bs JE G1 K1 Qvz)) (fl fb Q1d) Q1d
def Qgx:Sk:=⟨[TS.v true [ci,ci,ci]],[],[]⟩
def Qc0:Sk:=⟨[TS.v true [ci,ci,ci]],[],[]⟩
def Zv8 (M:Fn):Nat×Spec:=(209,Ac Qgx Qc0 M)
def Qee:Cfg:=cf []
def Q5i:Fn:=Am PG Qee 64 209 Qgx Qc0
theorem Zd2 (x0 x1 x2:Int):Q5i [I x0,I x1,I x2]=
 some [I (wrap .i64 (x0*16)),I (wrap .i64 (x1*16)),I (wrap .i64 (x2*16))]:=by kernel_rfl
def Ok:=Q5i
theorem Zj4:Aj PG (Qee):=Ao rfl trivial
theorem Zqt:Al PG (209,Ac Qgx Qc0 Ok):=rw1 (C:=Qee) Zj4
def Xe:Sk:=⟨[TS.v true (cc 13++[CS.bool,ci,CS.bool]++cc 5++[CS.bool]),TS.v true (cc 13++[CS.bool,ci,CS.bool]++cc 5++[CS.bool])],[],[]⟩
def Qlc:Sk:=⟨[TS.tup [(false,[CS.sl kPt]),(false,[CS.sl kPt])]],[],[]⟩
def Zon (M:Fn):Nat×Spec:=(194,Ac Xe Qlc M)
def Qc2 (LZ Oe B0:Fn):Cfg:=cf [Zzt LZ,Zv8 Oe,Vj B0]
def Qde (LZ Oe B0:Fn):Fn:=Am PG (Qc2 LZ Oe B0) 64 194 Xe Qlc
theorem Zch (LZ Oe B0:Fn) (x0 x1 x2 x3 x4 x5 x6 x7 x8 x9 x10 x11 x12:Int) (x13:Bool) (x14:Int) (x15:Bool) (x16 x17 x18 x19 x20:Int) (x21:Bool) (x22 x23 x24 x25 x26 x27 x28 x29 x30 x31 x32 x33 x34:Int) (x35:Bool) (x36:Int) (x37:Bool) (x38 x39 x40 x41 x42:Int) (x43:Bool):Qde LZ Oe B0 [I x0,I x1,I x2,I x3,I x4,I x5,I x6,I x7,I x8,I x9,I x10,I x11,I x12,B x13,I x14,B x15,I x16,I x17,I x18,I x19,I x20,B x21,I x22,I x23,I x24,I x25,I x26,I x27,I x28,I x29,I x30,I x31,I x32,I x33,I x34,B x35,I x36,B x37,I x38,I x39,I x40,I x41,I x42,B x43]=
 (B0 [I x0,I x1,I x2,I x3,I x4,I x5,I x6,I x7,I x8,I x9,I x10,I x11,I x12,B x13,I x14,B x15,I x16,I x17,I x18,I x19,I x20,B x21]).bind fun o4=>
 (Oe [I x5,I x6,I x7]).bind fun o5=>
 (B0 [I x22,I x23,I x24,I x25,I x26,I x27,I x28,I x29,I x30,I x31,I x32,I x33,I x34,B x35,I x36,B x37,I x38,I x39,I x40,I x41,I x42,B x43]).bind fun o6=>
 (LZ [jA o4 0,jA o4 1,jA o4 2,jA o5 0,jA o5 1,jA o5 2,jA o6 0,jA o6 1,jA o6 2,I (wrap .i64 (x18*16))]).bind fun o7=>
 bif decide (0<=wrap .i64 (wrap .i64 ((wrap .i64 ((↑(wA o7 0).length:Int)-1)).tdiv 2)+1))&&decide (wrap .i64 (wrap .i64 ((wrap .i64 ((↑(wA o7 0).length:Int)-1)).tdiv 2)+1)<=(↑(wA o7 0).length:Int))then
 bif decide (0<=wrap .i64 ((wrap .i64 ((↑(wA o7 0).length:Int)-1)).tdiv 2))&&decide (wrap .i64 ((wrap .i64 ((↑(wA o7 0).length:Int)-1)).tdiv 2)<=(↑(wA o7 0).length:Int))then
 some [.view kPt (List.take (wrap .i64 (wrap .i64 ((wrap .i64 ((↑(wA o7 0).length:Int)-1)).tdiv 2)+1)).toNat (wA o7 0)), .view kPt (List.drop (wrap .i64 ((wrap .i64 ((↑(wA o7 0).length:Int)-1)).tdiv 2)).toNat (wA o7 0))]
 else
 none
 else
 none:=by kernel_rfl
def Ps:=Qde Pa Ok FR
theorem Zcc:Aj PG (Qc2 Pa Ok FR):=Ao rfl ⟨Zqb,Zqt,YJ,trivial⟩
theorem Q8z:Al PG (194,Ac Xe Qlc Ps):=rw1 (C:=(Qc2 Pa Ok FR)) Zcc
def Qci:Sk:=⟨[tf [ci]],[],[]⟩
def ZK:Sk:=⟨[TS.tup [(false,[ci]),(false,[ci]),(false,[ci]),(false,[CS.bool])]],[],[]⟩
def Qc7 (M:Fn):Nat×Spec:=(188,Ac Qci ZK M)
def Qak:Cfg:=cf []
def Qv4:Fn:=Am PG Qak 64 188 Qci ZK
theorem Zis (x0:Int):Qv4 [I x0]=
 bif x0==17 then
 some [I 0,I 1,I 2,B true]
 else
 bif x0==18 then
 some [I 2,I 0,I 1,B true]
 else
 bif x0==19 then
 some [I 1,I 2,I 0,B true]
 else
 some [I 0,I 0,I 0,B false]:=by kernel_rfl
def Fo:=Qv4
theorem Zn4:Aj PG (Qak):=Ao rfl trivial
theorem Wa:Al PG (188,Ac Qci ZK Fo):=rw1 (C:=Qak) Zn4
def Qed:Sk:=⟨[tf [ci],tf [ci],tf [ci],tf [ci]],[],[]⟩
def Qb5:Sk:=⟨[TS.v true [ci,ci,ci]],[],[]⟩
def Zkl (M:Fn):Nat×Spec:=(207,Ac Qed Qb5 M)
def XN (Dz:Fn):Cfg:=cf [Qc7 Dz]
def Qcx (Dz:Fn):Fn:=Am PG (XN Dz) 64 207 Qed Qb5
abbrev SS (o1:List AC) (x2:Int) (h2_0 h2_1 h2_2:AC):Option (List AC):=
 bif decide (gA o1 2=(↑0:Int))then
 some [I x2,h2_0,h2_1]
 else
 bif decide (gA o1 2=(↑(0+1):Int))then
 some [h2_2,I x2,h2_1]
 else
 bif decide (gA o1 2=(↑(0+1+1):Int))then
 some [h2_2,h2_0,I x2]
 else
 none
attribute [go_sem] SS
abbrev SE (o1:List AC) (x2 x1:Int) (h1_0 h1_1 h1_2:AC):Option (List AC):=
 bif decide (gA o1 1=(↑0:Int))then
 SS o1 x2 h1_0 h1_1 (I x1)
 else
 bif decide (gA o1 1=(↑(0+1):Int))then
 SS o1 x2 (I x1) h1_1 h1_2
 else
 bif decide (gA o1 1=(↑(0+1+1):Int))then
 SS o1 x2 h1_0 (I x1) h1_2
 else
 none
attribute [go_sem] SE
theorem Zoi (Dz:Fn) (x0 x1 x2 x3:Int):Qcx Dz [I x0,I x1,I x2,I x3]=
 (Dz [I x3]).bind fun o1=>
 bif bA o1 3 then
 bif decide (gA o1 0=(↑0:Int))then
 SE o1 x2 x1 (I 0) (I 0) (I x0)
 else
 bif decide (gA o1 0=(↑(0+1):Int))then
 SE o1 x2 x1 (I x0) (I 0) (I 0)
 else
 bif decide (gA o1 0=(↑(0+1+1):Int))then
 SE o1 x2 x1 (I 0) (I x0) (I 0)
 else
 none
 else
 some [I 0,I 0,I 0]:=by kernel_rfl
def OF:=Qcx Fo
theorem Zgg:Aj PG (XN Fo):=Ao rfl ⟨Wa,trivial⟩
theorem Zte:Al PG (207,Ac Qed Qb5 OF):=rw1 (C:=(XN Fo)) Zgg
def Qa3:Sk:=⟨[TS.v true [ci,ci,ci],tf [ci]],[],[]⟩
def Zs:Sk:=⟨[TS.tup [(false,[ci]),(false,[ci]),(false,[ci])]],[],[]⟩
def Qx0 (M:Fn):Nat×Spec:=(203,Ac Qa3 Zs M)
def XI (Dz:Fn):Cfg:=cf [Qc7 Dz]
def Qfv (Dz:Fn):Fn:=Am PG (XI Dz) 64 203 Qa3 Zs
abbrev QR (o1:List AC) (h1_0:AC) (x0 x1 x2:Int) (h2_0:AC):Option (List AC):=
 bif decide (gA o1 2=(↑0:Int))then
 some [h1_0,h2_0,I x0]
 else
 bif decide (gA o1 2=(↑(0+1):Int))then
 some [h1_0,h2_0,I x1]
 else
 bif decide (gA o1 2=(↑(0+1+1):Int))then
 some [h1_0,h2_0,I x2]
 else
 none
attribute [go_sem] QR
abbrev SC (o1:List AC) (x0 x1 x2:Int) (h1_0:AC):Option (List AC):=
 bif decide (gA o1 1=(↑0:Int))then
 QR o1 h1_0 x0 x1 x2 (I x0)
 else
 bif decide (gA o1 1=(↑(0+1):Int))then
 QR o1 h1_0 x0 x1 x2 (I x1)
 else
 bif decide (gA o1 1=(↑(0+1+1):Int))then
 QR o1 h1_0 x0 x1 x2 (I x2)
 else
 none
attribute [go_sem] SC
theorem Zjj (Dz:Fn) (x0 x1 x2 x3:Int):Qfv Dz [I x0,I x1,I x2,I x3]=
 (Dz [I x3]).bind fun o1=>
 bif !bA o1 3 then
 some [I 0,I 0,I 0]
 else
 bif decide (gA o1 0=(↑0:Int))then
 SC o1 x0 x1 x2 (I x0)
 else
 bif decide (gA o1 0=(↑(0+1):Int))then
 SC o1 x0 x1 x2 (I x1)
 else
 bif decide (gA o1 0=(↑(0+1+1):Int))then
 SC o1 x0 x1 x2 (I x2)
 else
 none:=by kernel_rfl
def If:=Qfv Fo
theorem Zxj:Aj PG (XI Fo):=Ao rfl ⟨Wa,trivial⟩
theorem Q1j:Al PG (203,Ac Qa3 Zs If):=rw1 (C:=(XI Fo)) Zxj
def Qje:Sk:=⟨[TS.v true [ci,ci,ci]],[],[]⟩
def Qc6:Sk:=⟨[TS.v true [ci,ci,ci]],[],[]⟩
def Qss (M:Fn):Nat×Spec:=(204,Ac Qje Qc6 M)
def Qes:Cfg:=cf []
def Qqk:Fn:=Am PG Qes 64 204 Qje Qc6
theorem Zzj (x0 x1 x2:Int):Qqk [I x0,I x1,I x2]=
 some [I (wrap .i64 (x0*16)),I (wrap .i64 (x1*16)),I (wrap .i64 (x2*16))]:=by kernel_rfl
def Hs:=Qqk
theorem Q89:Aj PG (Qes):=Ao rfl trivial
theorem Qvl:Al PG (204,Ac Qje Qc6 Hs):=rw1 (C:=Qes) Q89
def Qk7:Sk:=⟨[TS.v true [ci,ci,ci,ci],TS.v true [ci,ci,ci,ci]],[],[]⟩
def Wr:Sk:=⟨[tf [ci]],[],[]⟩
def V7 (M:Fn):Nat×Spec:=(192,Ac Qk7 Wr M)
def ZP:Cfg:=cf []
def Qo8:Fn:=Am PG ZP 64 192 Qk7 Wr
theorem Zku (x0 x1 x2 x3 x4 x5 x6 x7:Int):Qo8 [I x0,I x1,I x2,I x3,I x4,I x5,I x6,I x7]=
 some [I (wrap .i64 (wrap .i64 (x0*x5)-wrap .i64 (x1*x4)))]:=by kernel_rfl
def GA:=Qo8
theorem Zkt:Aj PG (ZP):=Ao rfl trivial
theorem WK:Al PG (192,Ac Qk7 Wr GA):=rw1 (C:=ZP) Zkt
def Qd1:Sk:=⟨[TS.v true [ci,ci,ci,ci],TS.v true [ci,ci,ci,ci]],[],[]⟩
def Qd9:Sk:=⟨[tf [ci]],[],[]⟩
def Qhq (M:Fn):Nat×Spec:=(190,Ac Qd1 Qd9 M)
def UZ:Cfg:=cf []
def Qv1:Fn:=Am PG UZ 64 190 Qd1 Qd9
theorem Zng (x0 x1 x2 x3 x4 x5 x6 x7:Int):Qv1 [I x0,I x1,I x2,I x3,I x4,I x5,I x6,I x7]=
 some [I (wrap .i64 (wrap .i64 (x0*x4)+wrap .i64 (x1*x5)))]:=by kernel_rfl
def Gr:=Qv1
theorem Zlm:Aj PG (UZ):=Ao rfl trivial
theorem Zl:Al PG (190,Ac Qd1 Qd9 Gr):=rw1 (C:=UZ) Zlm
def Qi2:Sk:=⟨[TS.v true [ci,ci,ci,ci],TS.v true [ci,ci,ci,ci],tf [ci],tf [CS.bool]],[],[]⟩
def Qdm:Sk:=⟨[TS.tup [(true,[ci,ci,ci,ci]),(false,[CS.bool])]],[],[]⟩
def Zk0 (M:Fn):Nat×Spec:=(218,Ac Qi2 Qdm M)
def XT (Ci CJ B5:Fn):Cfg:=cf [Qrr Ci,V7 CJ,Qhq B5]
def Qf4 (Ci CJ B5:Fn):Fn:=Am PG (XT Ci CJ B5) 64 218 Qi2 Qdm
abbrev X7 (Ci:Fn) (h1_2:AC) (x2 x6:Int) (h1_3 h1_4:AC) (x3 x7:Int):Option (List AC):=
 (Ci [h1_2,I ((wrap .i64 (wrap .i64 (x2+x6)+1)).fdiv (2^min (Int.toNat 1) IntKind.i64.bits)),h1_3,I 2]).bind fun o36=>
 (Ci [h1_4,I ((wrap .i64 (wrap .i64 (x2+x6)+1)).fdiv (2^min (Int.toNat 1) IntKind.i64.bits)),h1_3,I 2]).bind fun o37=>
 some [jA o36 0,jA o37 0,I ((wrap .i64 (wrap .i64 (x2+x6)+1)).fdiv (2^min (Int.toNat 1) IntKind.i64.bits)),I ((wrap .i64 (wrap .i64 (x3+x7)+1)).fdiv (2^min (Int.toNat 1) IntKind.i64.bits)),B true]
attribute [go_sem] X7
abbrev OY (Ci:Fn) (x2 x6 x3 x7:Int) (h1_0 h1_1:Bool) (h1_2 h1_3 h1_4:AC):Option (List AC):=
 bif h1_0 then
 bif h1_1 then
 some [I 0,I 0,I 0,I 0,B false]
 else
 X7 Ci h1_2 x2 x6 h1_3 h1_4 x3 x7
 else
 X7 Ci h1_2 x2 x6 h1_3 h1_4 x3 x7
attribute [go_sem] OY
abbrev Qn0 (x9:Bool) (Ci:Fn) (x2 x6 x3 x7 x0 x1:Int) (B5:Fn) (x4 x5 x8:Int) (CJ:Fn):Option (List AC):=
 bif x9 then
 OY Ci x2 x6 x3 x7 (wrap .i64 (0-x0)==0) (wrap .i64 (0-x1)==0) (I (wrap .i64 (0-x0))) (I (wrap .i64 (wrap .i64 (wrap .i64 (0-x0)*wrap .i64 (0-x0))+wrap .i64 (wrap .i64 (0-x1)*wrap .i64 (0-x1))))) (I (wrap .i64 (0-x1)))
 else
 (B5 [I x0,I x1,I x2,I x3,I x4,I x5,I x6,I x7]).bind fun o40=>
 bif decide (gA o40 0<=0)then
 OY Ci x2 x6 x3 x7 (wrap .i64 (x8*wrap .i64 (x5-x1))==0) (wrap .i64 (x8*wrap .i64 (x0-x4))==0) (I (wrap .i64 (x8*wrap .i64 (x5-x1)))) (I (wrap .i64 (wrap .i64 (wrap .i64 (x8*wrap .i64 (x5-x1))*wrap .i64 (x8*wrap .i64 (x5-x1)))+wrap .i64 (wrap .i64 (x8*wrap .i64 (x0-x4))*wrap .i64 (x8*wrap .i64 (x0-x4)))))) (I (wrap .i64 (x8*wrap .i64 (x0-x4))))
 else
 (CJ [I x0,I x1,I x2,I x3,I x4,I x5,I x6,I x7]).bind fun o45=>
 bif decide (wrap .i64 (gA o45 0*x8)<=0)then
 OY Ci x2 x6 x3 x7 (wrap .i64 (0-wrap .i64 (x0+x4))==0) (wrap .i64 (0-wrap .i64 (x1+x5))==0) (I (wrap .i64 (0-wrap .i64 (x0+x4)))) (I (wrap .i64 (wrap .i64 (wrap .i64 (0-wrap .i64 (x0+x4))*wrap .i64 (0-wrap .i64 (x0+x4)))+wrap .i64 (wrap .i64 (0-wrap .i64 (x1+x5))*wrap .i64 (0-wrap .i64 (x1+x5)))))) (I (wrap .i64 (0-wrap .i64 (x1+x5))))
 else
 OY Ci x2 x6 x3 x7 (wrap .i64 (x0+x4)==0) (wrap .i64 (x1+x5)==0) (I (wrap .i64 (x0+x4))) (I (wrap .i64 (wrap .i64 (wrap .i64 (x0+x4)*wrap .i64 (x0+x4))+wrap .i64 (wrap .i64 (x1+x5)*wrap .i64 (x1+x5))))) (I (wrap .i64 (x1+x5)))
attribute [go_sem] Qn0
theorem Zrz (Ci CJ B5:Fn) (x0 x1 x2 x3 x4 x5 x6 x7 x8:Int) (x9:Bool):Qf4 Ci CJ B5 [I x0,I x1,I x2,I x3,I x4,I x5,I x6,I x7,I x8,B x9]=
 bif x8 !=1 then
 bif x8 != -1 then
 some [I 0,I 0,I 0,I 0,B false]
 else
 Qn0 x9 Ci x2 x6 x3 x7 x0 x1 B5 x4 x5 x8 CJ
 else
 Qn0 x9 Ci x2 x6 x3 x7 x0 x1 B5 x4 x5 x8 CJ:=by kernel_rfl
def KV:=Qf4 HO GA Gr
theorem Q95:Aj PG (XT HO GA Gr):=Ao rfl ⟨Qsj,WK,Zl,trivial⟩
theorem Zxl:Al PG (218,Ac Qi2 Qdm KV):=rw1 (C:=(XT HO GA Gr)) Q95
def Vd:Sk:=⟨[tf [ci],tf [ci]],[],[]⟩
def Xj:Sk:=⟨[tf [CS.bool]],[],[]⟩
def Z0e (M:Fn):Nat×Spec:=(223,Ac Vd Xj M)
def Qie:Cfg:=cf []
def Q0k:Fn:=Am PG Qie 64 223 Vd Xj
theorem Ze8 (x0 x1:Int):Q0k [I x0,I x1]=
 some [B (decide (x1<=wrap .i64 (wrap .i64 (wrap .i64 (8*x0)*4)-64)))]:=by kernel_rfl
def L4:=Q0k
theorem Zr3:Aj PG (Qie):=Ao rfl trivial
theorem Zto:Al PG (223,Ac Vd Xj L4):=rw1 (C:=Qie) Zr3
def Zf:Sk:=⟨[tf [CS.ptr 20000 0],TS.v true [ci,ci,ci,ci],TS.v true [ci,ci,ci,ci],tf [CS.bool]],[(20000,254,[ci,CS.own 20000 4])],[(20000,231,[kI,kI,kI,kI])]⟩
def XF:Sk:=⟨[tf [CS.bool]],[(20000,254,[ci,CS.own 20000 4])],[(20000,231,[kI,kI,kI,kI])]⟩
def Zjk (M:Fn):Nat×Spec:=(217,Ac Zf XF M)
def ZA (Nf CJ:Fn):Cfg:=cf [Z0e Nf,V7 CJ]
def Qig (Nf CJ:Fn):Fn:=Am PG (ZA Nf CJ) 64 217 Zf XF
theorem Zse (Nf CJ:Fn) (x0:Rw) (x1 x2 x3 x4 x5 x6 x7 x8:Int) (x9:Bool) (x10:Int):Qig Nf CJ [.view [kI,kI,kI,kI] x0,I x1,I x2,I x3,I x4,I x5,I x6,I x7,I x8,B x9,I x10]=
 bif !x9 then
 (CJ [I x1,I x2,I x3,I x4,I x5,I x6,I x7,I x8]).bind fun o2=>
 bif decide (wrap .i64 (gA o2 0*x10)>0)then
 (Nf [I (mn x3 x7),I (wrap .i64 (wrap .i64 (wrap .i64 (x1-x5)*wrap .i64 (x1-x5))+wrap .i64 (wrap .i64 (x2-x6)*wrap .i64 (x2-x6))))]).bind fun o3=>
 some [.view [kI,kI,kI,kI] x0,B (bA o3 0),I x10]
 else
 some [.view [kI,kI,kI,kI] x0,B false,I x10]
 else
 some [.view [kI,kI,kI,kI] x0,B false,I x10]:=by kernel_rfl
def KO:=Qig L4 GA
theorem Zu4:Aj PG (ZA L4 GA):=Ao rfl ⟨Zto,WK,trivial⟩
theorem Zkb:Al PG (217,Ac Zf XF KO):=rw1 (C:=(ZA L4 GA)) Zu4
def Quj:Nat:=20
def KF:Sk:=⟨[tf [CS.ptr 20000 0],TS.v true [ci,ci,ci,ci],TS.v true [ci,ci,ci,ci],tf [CS.bool],tf [ci]],[(20000,254,[ci,CS.own 20000 4])],[(20000,231,[kI,kI,kI,kI])]⟩
def LK:Sk:=⟨[TS.tup []],[(20000,254,[ci,CS.own 20000 4])],[(20000,231,[kI,kI,kI,kI])]⟩
def Qya (M:Fn):Nat×Spec:=(212,Ac KF LK M)
def Yf (Ft NH LY:Fn):Cfg:=cp [Qya Ft,Zk0 NH,Zjk LY] [212,217]
def Tx (Ft NH LY:Fn):Fn:=Am PG (Yf Ft NH LY) 64 212 KF LK
theorem Q2u (Ft NH LY:Fn) (x0:Rw) (x1 x2 x3 x4 x5 x6 x7 x8:Int) (x9:Bool) (x10 x11:Int):Tx Ft NH LY [.view [kI,kI,kI,kI] x0,I x1,I x2,I x3,I x4,I x5,I x6,I x7,I x8,B x9,I x10,I x11]=
 bif decide (x10<16)then
 (LY [.view [kI,kI,kI,kI] x0,I x1,I x2,I x3,I x4,I x5,I x6,I x7,I x8,B x9,I x11]).bind fun o4=>
 bif !bA o4 1 then
 (NH [I x1,I x2,I x3,I x4,I x5,I x6,I x7,I x8,jA o4 2,B x9]).bind fun o5=>
 bif bA o5 4 then
 (Ft [.view [kI,kI,kI,kI] (wA o4 0),I x1,I x2,I x3,I x4,jA o5 0,jA o5 1,jA o5 2,jA o5 3,B false,I (wrap .i64 (x10+1)),jA o4 2]).bind fun o6=>
 (Ft [.view [kI,kI,kI,kI] (wA o6 0),jA o5 0,jA o5 1,jA o5 2,jA o5 3,I x5,I x6,I x7,I x8,B false,I (wrap .i64 (x10+1)),jA o6 1]).bind fun o7=>
 some [.view [kI,kI,kI,kI] (wA o7 0),jA o7 1]
 else
 bif((wA o4 0++[[I x5,I x6,I x7,I x8]]).length*32).ble 140737488355328 then
 some [.view [kI,kI,kI,kI] (wA o4 0++[[I x5,I x6,I x7,I x8]]),jA o4 2]
 else
 none
 else
 bif((wA o4 0++[[I x5,I x6,I x7,I x8]]).length*32).ble 140737488355328 then
 some [.view [kI,kI,kI,kI] (wA o4 0++[[I x5,I x6,I x7,I x8]]),jA o4 2]
 else
 none
 else
 bif((x0++[[I x5,I x6,I x7,I x8]]).length*32).ble 140737488355328 then
 some [.view [kI,kI,kI,kI] (x0++[[I x5,I x6,I x7,I x8]]),I x11]
 else
 none:=by kernel_rfl
def Q3j (M:Fn):Fn:=Tx M KV KO
def OA:Nat->Fn
 |0=>fun _=>none
 |n+1=>Q3j (OA n)
theorem Zyl {M:Fn} (h:Al PG (212,Ac KF LK M)):Aj PG (Yf M KV KO):=Ao rfl ⟨h,Zxl,Zkb,trivial⟩
theorem Zal {M:Fn} (h:Al PG (212,Ac KF LK M)):Al PG (212,Ac KF LK (Q3j M)):=ZS (C:=(Yf M KV KO)) (L:=64) (by kernel_rfl) (FnOK.bare rfl rfl rfl) (Zyl h) eqOk Hr (by kernel_rfl) (by kernel_rfl)
theorem Q4z:∀n,Al PG (212,Ac KF LK (OA n))
 |0=>Pp
 |n+1=>Zal (Q4z n)
def Tn:=OA Quj
theorem Zlo:Al PG (212,Ac KF LK Tn):=Q4z Quj
def Qkk:Sk:=⟨[TS.v true (cc 13++[CS.bool,ci,CS.bool]++cc 5++[CS.bool])],[],[]⟩
def Qbo:Sk:=⟨[TS.tup [(true,[ci,ci,ci,ci]),(true,[ci,ci,ci,ci])]],[],[]⟩
def Qyx (M:Fn):Nat×Spec:=(189,Ac Qkk Qbo M)
def VJ (Cc BW:Fn):Cfg:=cf [Qx0 Cc,Qss BW]
def Q1z:Sk:=⟨[td,tf [CS.ptr 1 0],tf [CS.ptr 2 0],tf [CS.ptr 3 0],tf [CS.ptr 4 0],tf [ci],tf [ci]]++dd 20++[TS.v true (cc 6),tf [ci]]++dd 27,[(1,74,cc 13++[CS.bool,ci,CS.bool]++cc 5++[CS.bool]),(2,231,[ci,ci,ci,ci]),(3,231,[ci,ci,ci,ci]),(4,242,cc 8)],[]⟩
def Qxv:List (Ex×Sk):=[(Ex.exit 0,⟨[td,td,tf [CS.ptr 2 0],tf [CS.ptr 3 0],tf [CS.ptr 4 0]]++dd 51,[(2,231,[ci,ci,ci,ci]),(3,231,[ci,ci,ci,ci]),(4,242,cc 8)],[]⟩)]
def Uo (Cc BW:Fn):Lp:=A4 PG (VJ Cc BW) 64 4 (A0 PG 189 4) Q1z Qxv
def Qph (Cc BW:Fn) (N4:Lp):Cfg:=(VJ Cc BW).loop 4 Q1z Qxv N4
def UO (Cc BW:Fn) (N4:Lp):Fn:=Am PG (Qph Cc BW N4) 64 189 Qkk Qbo
abbrev Qfj (BW Cc:Fn) (v17 v8 v0 v1 v2 v3 v4 v5 v6 v7 v9 v10 v11 v12 v13 v14 v15 v16 v18 v19 v20 v21:Int) (v22:Bool) (v23:Int) (v24:Bool) (v25 v26 v27 v28 v29:Int) (v30:Bool) (v31 v32 v33 v34 v35 v36 v37 v38 v43 v44 v45 v46 v39 v40 v41 v42:Int) (h1_0 h1_1 h1_2:AC):Option (Nat×List AC):=
 (BW [h1_0,h1_1,h1_2]).bind fun o9=>
 (Cc [jA o9 0,jA o9 1,jA o9 2,I v17]).bind fun o10=>
 bif decide (v8=(↑0:Int))then
 some (0,[I v0,I v1,I v2,I v3,I v4,I v5,I v6,I v7,I (wrap .i64 (v8+1)),I v9,I v10,I v11,I v12,I v13,I v14,I v15,I v16,I v17,I v18,I v19,I v20,I v21,B v22,I v23,B v24,I v25,I v26,I v27,I v28,I v29,B v30,I v31,I v32,I v33,I v34,I v35,I v36,I v37,I v38,I (wrap .i64 (gA o10 0-v0)),I (wrap .i64 (gA o10 1-v1)),I 0,jA o10 2,I v43,I v44,I v45,I v46])
 else
 bif decide (v8=(↑(0+1):Int))then
 some (0,[I v0,I v1,I v2,I v3,I v4,I v5,I v6,I v7,I (wrap .i64 (v8+1)),I v9,I v10,I v11,I v12,I v13,I v14,I v15,I v16,I v17,I v18,I v19,I v20,I v21,B v22,I v23,B v24,I v25,I v26,I v27,I v28,I v29,B v30,I v31,I v32,I v33,I v34,I v35,I v36,I v37,I v38,I v39,I v40,I v41,I v42,I (wrap .i64 (gA o10 0-v0)),I (wrap .i64 (gA o10 1-v1)),I 0,jA o10 2])
 else
 none
attribute [go_sem] Qfj
theorem WN (Cc BW:Fn) (v0 v1 v2 v3 v4 v5 v6 v7 v8 v9 v10 v11 v12 v13 v14 v15 v16 v17 v18 v19 v20 v21:Int) (v22:Bool) (v23:Int) (v24:Bool) (v25 v26 v27 v28 v29:Int) (v30:Bool) (v31 v32 v33 v34 v35 v36 v37 v38 v39 v40 v41 v42 v43 v44 v45 v46:Int):Uo Cc BW [I v0,I v1,I v2,I v3,I v4,I v5,I v6,I v7,I v8,I v9,I v10,I v11,I v12,I v13,I v14,I v15,I v16,I v17,I v18,I v19,I v20,I v21,B v22,I v23,B v24,I v25,I v26,I v27,I v28,I v29,B v30,I v31,I v32,I v33,I v34,I v35,I v36,I v37,I v38,I v39,I v40,I v41,I v42,I v43,I v44,I v45,I v46]=
 bif decide (v8<2)then
 bif decide (v8=(↑0:Int))then
 Qfj BW Cc v17 v8 v0 v1 v2 v3 v4 v5 v6 v7 v9 v10 v11 v12 v13 v14 v15 v16 v18 v19 v20 v21 v22 v23 v24 v25 v26 v27 v28 v29 v30 v31 v32 v33 v34 v35 v36 v37 v38 v43 v44 v45 v46 v39 v40 v41 v42 (I v2) (I v3) (I v4)
 else
 bif decide (v8=(↑(0+1):Int))then
 Qfj BW Cc v17 v8 v0 v1 v2 v3 v4 v5 v6 v7 v9 v10 v11 v12 v13 v14 v15 v16 v18 v19 v20 v21 v22 v23 v24 v25 v26 v27 v28 v29 v30 v31 v32 v33 v34 v35 v36 v37 v38 v43 v44 v45 v46 v39 v40 v41 v42 (I v5) (I v6) (I v7)
 else
 none
 else
 some (1,[I v31,I v32,I v33,I v34,I v35,I v36,I v37,I v38,I v39,I v40,I v41,I v42,I v43,I v44,I v45,I v46]):=by kernel_rfl
theorem Zyb (Cc BW:Fn) (N4:Lp) (x0 x1 x2 x3 x4 x5 x6 x7 x8 x9 x10 x11 x12:Int) (x13:Bool) (x14:Int) (x15:Bool) (x16 x17 x18 x19 x20:Int) (x21:Bool):UO Cc BW N4 [I x0,I x1,I x2,I x3,I x4,I x5,I x6,I x7,I x8,I x9,I x10,I x11,I x12,B x13,I x14,B x15,I x16,I x17,I x18,I x19,I x20,B x21]=
 (BW [I x9,I x10,I x11]).bind fun o13=>
 (Cc [jA o13 0,jA o13 1,jA o13 2,I x8]).bind fun o14=>
 (N4 [jA o14 0,jA o14 1,I x2,I x3,I x4,I x5,I x6,I x7,I 0,I x0,I x1,I x2,I x3,I x4,I x5,I x6,I x7,I x8,I x9,I x10,I x11,I x12,B x13,I x14,B x15,I x16,I x17,I x18,I x19,I x20,B x21,I 0,I 0,I 0,I 0,I 0,I 0,I 0,I 0,I 0,I 0,I 0,I 0,I 0,I 0,I 0,I 0]).bind fun o15=>
 bif o15.1.beq 1 then
 some [jA o15.2 8,jA o15.2 9,jA o15.2 10,jA o15.2 11,jA o15.2 12,jA o15.2 13,jA o15.2 14,jA o15.2 15]
 else
 none:=by kernel_rfl
def Qz9:=An (Uo If Hs)
def J0:=UO If Hs Qz9
theorem Qxc:Aj PG (VJ If Hs):=Ao rfl ⟨Q1j,Qvl,trivial⟩
theorem Qzz:Al PG (189,Ac Qkk Qbo J0):=rw2 (C:=(Qph If Hs Qz9)) (fl fb Qxc) Qxc
def Qcc:Sk:=⟨[tf [ci],tf [ci],tf [ci],tf [ci]],[],[]⟩
def Qbx:Sk:=⟨[tf [ci]],[],[]⟩
def Z0g (M:Fn):Nat×Spec:=(205,Ac Qcc Qbx M)
def Uf (DR BA Cf De:Fn):Cfg:=cf [Qzs DR,Td BA,T_ Cf,Qk1 De]
def W8 (DR BA Cf De:Fn):Fn:=Am PG (Uf DR BA Cf De) 64 205 Qcc Qbx
theorem Zgj (DR BA Cf De:Fn) (x0 x1 x2 x3:Int):W8 DR BA Cf De [I x0,I x1,I x2,I x3]=
 (De [I x0,I x1]).bind fun o9=>
 (De [I x2,I x3]).bind fun o10=>
 bif gA o9 0 !=gA o10 0 then
 bif decide (gA o9 0<gA o10 0)then
 some [I (-1)]
 else
 some [I 1]
 else
 (Cf [I x0]).bind fun o11=>
 (Cf [I x1]).bind fun o12=>
 (BA [U (gA o11 0),U (gA o12 0)]).bind fun o13=>
 (Cf [I x2]).bind fun o14=>
 (Cf [I x3]).bind fun o15=>
 (BA [U (gA o14 0),U (gA o15 0)]).bind fun o16=>
 (DR [U (gA o13 0),U (gA o13 1),U (gA o16 0),U (gA o16 1)]).bind fun o17=>
 some [I (wrap .i64 (gA o9 0*gA o17 0))]:=by kernel_rfl
def Nz:=W8 HU En F7 Fs
theorem Zlb:Aj PG (Uf HU En F7 Fs):=Ao rfl ⟨Qt4,Tm,Qh8,Qgs,trivial⟩
theorem Zqr:Al PG (205,Ac Qcc Qbx Nz):=rw1 (C:=(Uf HU En F7 Fs)) Zlb
def Qfo:Sk:=⟨[tf [ci],tf [ci]],[],[]⟩
def Qhf:Sk:=⟨[tf [CS.bool]],[],[]⟩
def Z16 (M:Fn):Nat×Spec:=(191,Ac Qfo Qhf M)
def Qil (Nc:Fn):Cfg:=cf [Z0g Nc]
def Qfn (Nc:Fn):Fn:=Am PG (Qil Nc) 64 191 Qfo Qhf
theorem Zxz (Nc:Fn) (x0 x1:Int):Qfn Nc [I x0,I x1]=
 bif decide (wrap .i64 (wrap .i64 (mx x0 x1-mn x0 x1)-16)<=0)then
 some [B true]
 else
 (Nc [I (wrap .i64 (wrap .i64 (mx x0 x1-mn x0 x1)-16)),I (wrap .i64 (wrap .i64 (mx x0 x1-mn x0 x1)-16)),I 64,I (mn x0 x1)]).bind fun o1=>
 some [B (decide (gA o1 0<=0))]:=by kernel_rfl
def Qm:=Qfn Nz
theorem Zp5:Aj PG (Qil Nz):=Ao rfl ⟨Zqr,trivial⟩
theorem Zre:Al PG (191,Ac Qfo Qhf Qm):=rw1 (C:=(Qil Nz)) Zp5
def XR:Sk:=⟨[TS.v true [ci,ci,ci]],[],[]⟩
def WB:Sk:=⟨[tf [CS.bool]],[],[]⟩
def Z0l (M:Fn):Nat×Spec:=(187,Ac XR WB M)
def ZT:Cfg:={cf []with unroll:=[2]}
def Qz0:Fn:=Am PG ZT 64 187 XR WB
theorem Zvv (x0 x1 x2:Int):Qz0 [I x0,I x1,I x2]=
 bif decide (x0< -1048576)then
 some [B false]
 else
 bif decide (x0>1048576)then
 some [B false]
 else
 bif decide (x1< -1048576)then
 some [B false]
 else
 bif decide (x1>1048576)then
 some [B false]
 else
 bif decide (x2< -1048576)then
 some [B false]
 else
 bif decide (x2>1048576)then
 some [B false]
 else
 some [B true]:=by kernel_rfl
def Ou:=Qz0
theorem Zsh:Aj PG (ZT):=Ao rfl trivial
theorem Zdw:Al PG (187,Ac XR WB Ou):=rw1 (C:=ZT) Zsh
def WO:Sk:=⟨[TS.v true (cc 13++[CS.bool,ci,CS.bool]++cc 5++[CS.bool])],[],[]⟩
def ZC:Sk:=⟨[tf [CS.bool]],[],[]⟩
def Qi6 (M:Fn):Nat×Spec:=(167,Ac WO ZC M)
def YV (CJ I7 B5 EN Dz Hf:Fn):Cfg:=cf [V7 CJ,Z16 I7,Qhq B5,Qyx EN,Qc7 Dz,Z0l Hf]
def Qmc (CJ I7 B5 EN Dz Hf:Fn):Fn:=Am PG (YV CJ I7 B5 EN Dz Hf) 64 167 WO ZC
abbrev Qa1 (Hf:Fn) (x9 x10 x11:Int) (EN:Fn) (x0 x1 x2 x3 x4 x5 x6 x7 x8 x12:Int) (x13:Bool) (x14:Int) (x15:Bool) (x16 x17 x18 x19 x20:Int) (x21:Bool) (B5 I7 CJ:Fn):Option (List AC):=
 (Hf [I x9,I x10,I x11]).bind fun o20=>
 bif !bA o20 0 then
 some [B false]
 else
 (EN [I x0,I x1,I x2,I x3,I x4,I x5,I x6,I x7,I x8,I x9,I x10,I x11,I x12,B x13,I x14,B x15,I x16,I x17,I x18,I x19,I x20,B x21]).bind fun o21=>
 (B5 [jA o21 0,jA o21 1,jA o21 2,jA o21 3,jA o21 0,jA o21 1,jA o21 2,jA o21 3]).bind fun o22=>
 (B5 [jA o21 4,jA o21 5,jA o21 6,jA o21 7,jA o21 4,jA o21 5,jA o21 6,jA o21 7]).bind fun o23=>
 bif decide (gA o22 0<wrap .i64 (128*128))then
 some [B false]
 else
 bif decide (gA o23 0<wrap .i64 (128*128))then
 some [B false]
 else
 (I7 [I (wrap .i64 ((gA o22 0).tdiv 256)),I (wrap .i64 ((gA o23 0).tdiv 256))]).bind fun o24=>
 bif !bA o24 0 then
 some [B false]
 else
 bif x13 then
 bif gA o21 0==gA o21 4 then
 some [B (gA o21 1==gA o21 5)]
 else
 some [B false]
 else
 (CJ [jA o21 0,jA o21 1,jA o21 2,jA o21 3,jA o21 4,jA o21 5,jA o21 6,jA o21 7]).bind fun o25=>
 bif gA o25 0 !=0 then
 some [B true]
 else
 (B5 [jA o21 0,jA o21 1,jA o21 2,jA o21 3,jA o21 4,jA o21 5,jA o21 6,jA o21 7]).bind fun o26=>
 some [B (decide (gA o26 0<0))]
attribute [go_sem] Qa1
theorem Zfi (CJ I7 B5 EN Dz Hf:Fn) (x0 x1 x2 x3 x4 x5 x6 x7 x8 x9 x10 x11 x12:Int) (x13:Bool) (x14:Int) (x15:Bool) (x16 x17 x18 x19 x20:Int) (x21:Bool):Qmc CJ I7 B5 EN Dz Hf [I x0,I x1,I x2,I x3,I x4,I x5,I x6,I x7,I x8,I x9,I x10,I x11,I x12,B x13,I x14,B x15,I x16,I x17,I x18,I x19,I x20,B x21]=
 bif decide (x0<1)then
 some [B false]
 else
 bif decide (x0>6)then
 some [B false]
 else
 (Hf [I x2,I x3,I x4]).bind fun o17=>
 bif !bA o17 0 then
 some [B false]
 else
 (Hf [I x5,I x6,I x7]).bind fun o18=>
 bif !bA o18 0 then
 some [B false]
 else
 bif x0 !=3 then
 some [B true]
 else
 (Dz [I x8]).bind fun o19=>
 bif !bA o19 3 then
 some [B false]
 else
 bif x12 !=1 then
 bif x12 != -1 then
 some [B false]
 else
 Qa1 Hf x9 x10 x11 EN x0 x1 x2 x3 x4 x5 x6 x7 x8 x12 x13 x14 x15 x16 x17 x18 x19 x20 x21 B5 I7 CJ
 else
 Qa1 Hf x9 x10 x11 EN x0 x1 x2 x3 x4 x5 x6 x7 x8 x12 x13 x14 x15 x16 x17 x18 x19 x20 x21 B5 I7 CJ:=by kernel_rfl
def GY:=Qmc GA Qm Gr J0 Fo Ou
theorem Zbl:Aj PG (YV GA Qm Gr J0 Fo Ou):=Ao rfl ⟨WK,Zre,Zl,Qzz,Wa,Zdw,trivial⟩
theorem Qi4:Al PG (167,Ac WO ZC GY):=rw1 (C:=(YV GA Qm Gr J0 Fo Ou)) Zbl
def UJ:Sk:=⟨[TS.v true (cc 13++[CS.bool,ci,CS.bool]++cc 5++[CS.bool])],[],[]⟩
def Qlr:Sk:=⟨[TS.tup [(false,[CS.sl [kI,kI,kI,kI]]),(false,[CS.bool])]],[],[]⟩
def Zgw (M:Fn):Nat×Spec:=(206,Ac UJ Qlr M)
def Qbn (Ft FB B5 EN Cu:Fn):Cfg:={cp [Qya Ft,Qzn FB,Qhq B5,Qyx EN,Qi6 Cu] [212]with rowDst:=[39]}
def Qmr (Ft FB B5 EN Cu:Fn):Fn:=Am PG (Qbn Ft FB B5 EN Cu) 64 206 UJ Qlr
theorem Zha (Ft FB B5 EN Cu:Fn) (x0 x1 x2 x3 x4 x5 x6 x7 x8 x9 x10 x11 x12:Int) (x13:Bool) (x14:Int) (x15:Bool) (x16 x17 x18 x19 x20:Int) (x21:Bool):Qmr Ft FB B5 EN Cu [I x0,I x1,I x2,I x3,I x4,I x5,I x6,I x7,I x8,I x9,I x10,I x11,I x12,B x13,I x14,B x15,I x16,I x17,I x18,I x19,I x20,B x21]=
 bif x0 !=3 then
 some [.view [kI,kI,kI,kI] [],B false]
 else
 (Cu [I x0,I x1,I x2,I x3,I x4,I x5,I x6,I x7,I x8,I x9,I x10,I x11,I x12,B x13,I x14,B x15,I x16,I x17,I x18,I x19,I x20,B x21]).bind fun o7=>
 bif !bA o7 0 then
 some [.view [kI,kI,kI,kI] [],B false]
 else
 (EN [I x0,I x1,I x2,I x3,I x4,I x5,I x6,I x7,I x8,I x9,I x10,I x11,I x12,B x13,I x14,B x15,I x16,I x17,I x18,I x19,I x20,B x21]).bind fun o8=>
 (B5 [jA o8 0,jA o8 1,jA o8 2,jA o8 3,jA o8 0,jA o8 1,jA o8 2,jA o8 3]).bind fun o9=>
 (FB [jA o9 0,I 2]).bind fun o10=>
 (B5 [jA o8 4,jA o8 5,jA o8 6,jA o8 7,jA o8 4,jA o8 5,jA o8 6,jA o8 7]).bind fun o11=>
 (FB [jA o11 0,I 2]).bind fun o12=>
 (Ft [.view [kI,kI,kI,kI] [[jA o8 0,jA o8 1,jA o10 0,jA o8 3]],jA o8 0,jA o8 1,jA o10 0,jA o8 3,jA o8 4,jA o8 5,jA o12 0,jA o8 7,B x13,I 0,I x12]).bind fun o13=>
 some [.view [kI,kI,kI,kI] (wA o13 0),B true]:=by kernel_rfl
def OE:=Qmr Tn Jf Gr J0 GY
theorem Zbx:Aj PG (Qbn Tn Jf Gr J0 GY):=Ao rfl ⟨Zlo,Qu4,Zl,Qzz,Qi4,trivial⟩
theorem Zmx:Al PG (206,Ac UJ Qlr OE):=rw1 (C:=(Qbn Tn Jf Gr J0 GY)) Zbx
def YN:Sk:=⟨[TS.v true (cc 13++[CS.bool,ci,CS.bool]++cc 5++[CS.bool])],[],[]⟩
def Yc:Sk:=⟨[TS.tup [(false,[CS.sl kPt]),(false,[CS.bool])]],[],[]⟩
def Zbr (M:Fn):Nat×Spec:=(193,Ac YN Yc M)
def Qa0 (GF Cc BW Gb Cu:Fn):Cfg:=cf [Zkl GF,Qx0 Cc,Qss BW,Zgw Gb,Qi6 Cu]
def Qsk:Sk:=⟨[td,tf [CS.ptr 1 0],td,td,td,td,tf [ci],tf [ci],td,tf [CS.own 41 3]]++dd 32++[tf [CS.sl [kI,kI,kI,kI]],tf [ci],tf [ci]]++dd 22,[(1,74,cc 13++[CS.bool,ci,CS.bool]++cc 5++[CS.bool])],[(41,54,kPt)]⟩
def Qum:List (Ex×Sk):=[(Ex.exit 0,⟨dd 9++[tf [CS.own 41 3]]++dd 57,[],[(41,54,kPt)]⟩)]
def L_ (GF Cc BW Gb Cu:Fn):Lp:=A4 PG (Qa0 GF Cc BW Gb Cu) 64 9 (A0 PG 193 9) Qsk Qum
def Qx5 (GF Cc BW Gb Cu:Fn) (N9:Lp):Cfg:=(Qa0 GF Cc BW Gb Cu).loop 9 Qsk Qum N9
def Ri (GF Cc BW Gb Cu:Fn) (N9:Lp):Fn:=Am PG (Qx5 GF Cc BW Gb Cu N9) 64 193 YN Yc
theorem Q1r (GF Cc BW Gb Cu:Fn) (v0:Rw) (v1 v2:Int) (v3:Rw) (v4 v5 v6 v7 v8 v9 v10 v11 v12 v13 v14 v15 v16 v17 v18:Int) (v19:Bool) (v20:Int) (v21:Bool) (v22 v23 v24 v25 v26:Int) (v27:Bool):L_ GF Cc BW Gb Cu [.view kPt v0,I v1,I v2, .view [kI,kI,kI,kI] v3,I v4,I v5,I v6,I v7,I v8,I v9,I v10,I v11,I v12,I v13,I v14,I v15,I v16,I v17,I v18,B v19,I v20,B v21,I v22,I v23,I v24,I v25,I v26,B v27]=
 bif decide (v5<v4)then
 bif decide (0<=v5)&&decide (v5<(v3.length:Int))then
 (GF [I (wrap .i64 (v1+gA (nth [] v3 v5.toNat) 0)),I (wrap .i64 (v2+gA (nth [] v3 v5.toNat) 1)),jA (nth [] v3 v5.toNat) 3,I v14]).bind fun o14=>
 bif decide (0<=v5)&&decide (v5<(v0.length:Int))then
 some (0,[.view kPt (v0.set v5.toNat [jA o14 0,jA o14 1,jA o14 2]),I v1,I v2, .view [kI,kI,kI,kI] v3,I v4,I (wrap .i64 (v5+1)),I v6,I v7,I v8,I v9,I v10,I v11,I v12,I v13,I v14,I v15,I v16,I v17,I v18,B v19,I v20,B v21,I v22,I v23,I v24,I v25,I v26,B v27])
 else
 none
 else
 none
 else
 some (1,[.view kPt v0]):=by kernel_rfl
theorem Yg (GF Cc BW Gb Cu:Fn) (N9:Lp) (x0 x1 x2 x3 x4 x5 x6 x7 x8 x9 x10 x11 x12:Int) (x13:Bool) (x14:Int) (x15:Bool) (x16 x17 x18 x19 x20:Int) (x21:Bool):Ri GF Cc BW Gb Cu N9 [I x0,I x1,I x2,I x3,I x4,I x5,I x6,I x7,I x8,I x9,I x10,I x11,I x12,B x13,I x14,B x15,I x16,I x17,I x18,I x19,I x20,B x21]=
 (Cu [I x0,I x1,I x2,I x3,I x4,I x5,I x6,I x7,I x8,I x9,I x10,I x11,I x12,B x13,I x14,B x15,I x16,I x17,I x18,I x19,I x20,B x21]).bind fun o15=>
 bif !bA o15 0 then
 some [.view kPt [],B false]
 else
 (Gb [I x0,I x1,I x2,I x3,I x4,I x5,I x6,I x7,I x8,I x9,I x10,I x11,I x12,B x13,I x14,B x15,I x16,I x17,I x18,I x19,I x20,B x21]).bind fun o16=>
 bif !bA o16 1 then
 (BW [I x2,I x3,I x4]).bind fun o17=>
 (BW [I x5,I x6,I x7]).bind fun o18=>
 some [.view kPt [[jA o17 0,jA o17 1,jA o17 2],[jA o18 0,jA o18 1,jA o18 2]],B true]
 else
 (BW [I x9,I x10,I x11]).bind fun o19=>
 (Cc [jA o19 0,jA o19 1,jA o19 2,I x8]).bind fun o20=>
 bif decide ((↑(wA o16 0).length:Int)=(↑(wA o16 0).length:Int))then
 bif decide (0<=(↑(wA o16 0).length:Int))&&decide ((↑(wA o16 0).length:Int)*(↑24:Int)<=140737488355328)then
 (N9 [.view kPt (List.replicate (↑(wA o16 0).length:Int).toNat [I 0,I 0,I 0]),jA o20 0,jA o20 1, .view [kI,kI,kI,kI] (wA o16 0),I (↑(wA o16 0).length:Int),I 0,I x0,I x1,I x2,I x3,I x4,I x5,I x6,I x7,I x8,I x9,I x10,I x11,I x12,B x13,I x14,B x15,I x16,I x17,I x18,I x19,I x20,B x21]).bind fun o21=>
 bif o21.1.beq 1 then
 some [.view kPt (wA o21.2 0),B true]
 else
 none
 else
 none
 else
 none:=by kernel_rfl
def Qrj:=An (L_ OF If Hs OE GY)
def Py:=Ri OF If Hs OE GY Qrj
theorem Qz6:Aj PG (Qa0 OF If Hs OE GY):=Ao rfl ⟨Zte,Q1j,Qvl,Zmx,Qi4,trivial⟩
theorem Zbd:Al PG (193,Ac YN Yc Py):=rw2 (C:=(Qx5 OF If Hs OE GY Qrj)) (fl fb Qz6) Qz6
def Z2:Sk:=⟨[tf [CS.sl Ai],tf [ci],tf [ci]],[],[]⟩
def Qg0:Sk:=⟨[tf [CS.sl kPt]],[],[]⟩
def Q8u (M:Fn):Nat×Spec:=(170,Ac Z2 Qg0 M)
def Z4 (B0 Bo BU Ke Bi NP:Fn):Cfg:=cf [Vj B0,Zw Bo,Qzm BU,Zon Ke,QQ Bi,Zbr NP]
def Xv (B0 Bo BU Ke Bi NP:Fn):Fn:=Am PG (Z4 B0 Bo BU Ke Bi NP) 64 170 Z2 Qg0
theorem Zpn (B0 Bo BU Ke Bi NP:Fn) (x0:Rw) (x1 x2:Int):Xv B0 Bo BU Ke Bi NP [.view Ai x0,I x1,I x2]=
 bif decide (0<=x1)&&decide (x1<(x0.length:Int))then
 (NP (AK Ai (nth [] x0 x1.toNat))).bind fun o13=>
 (Bi (AK Ai (nth [] x0 x1.toNat))).bind fun o14=>
 bif !bA o14 0 then
 some [.view kPt (wA o13 0)]
 else
 bif decide (0<=1)&&decide (1<=(↑(wA o13 0).length:Int))then
 bif decide (0<=wrap .i64 ((↑(wA o13 0).length:Int)-1))&&decide (wrap .i64 ((↑(wA o13 0).length:Int)-1)<=(↑(wA o13 0).length:Int))then
 bif decide (x2>=0)then
 bif decide (0<=x2)&&decide (x2<(x0.length:Int))then
 (Ke (AK Ai (nth [] x0 x2.toNat)++AK Ai (nth [] x0 x1.toNat))).bind fun o15=>
 (BU [.view Ai x0,I x1]).bind fun o16=>
 bif bA o16 0 then
 (Bo [.view Ai x0,I x1]).bind fun o17=>
 bif decide (0<=gA o17 0)&&decide (gA o17 0<(x0.length:Int))then
 (Ke (AK Ai (nth [] x0 x1.toNat)++AK Ai (nth [] x0 (gA o17 0).toNat))).bind fun o18=>
 bif(([]++wA o15 1).length*24).ble 140737488355328 then
 (B0 (AK Ai (nth [] x0 x1.toNat))).bind fun o19=>
 bif(([]++wA o15 1++[[jA o19 0,jA o19 1,jA o19 2]]).length*24).ble 140737488355328 then
 bif(([]++wA o15 1++[[jA o19 0,jA o19 1,jA o19 2]]++wA o18 0).length*24).ble 140737488355328 then
 some [.view kPt ([]++wA o15 1++[[jA o19 0,jA o19 1,jA o19 2]]++wA o18 0)]
 else
 none
 else
 none
 else
 none
 else
 none
 else
 bif(([]++wA o15 1).length*24).ble 140737488355328 then
 (B0 (AK Ai (nth [] x0 x1.toNat))).bind fun o20=>
 bif(([]++wA o15 1++[[jA o20 0,jA o20 1,jA o20 2]]).length*24).ble 140737488355328 then
 bif(([]++wA o15 1++[[jA o20 0,jA o20 1,jA o20 2]]++List.drop (wrap .i64 ((↑(wA o13 0).length:Int)-1)).toNat (wA o13 0)).length*24).ble 140737488355328 then
 some [.view kPt ([]++wA o15 1++[[jA o20 0,jA o20 1,jA o20 2]]++List.drop (wrap .i64 ((↑(wA o13 0).length:Int)-1)).toNat (wA o13 0))]
 else
 none
 else
 none
 else
 none
 else
 none
 else
 (BU [.view Ai x0,I x1]).bind fun o21=>
 bif bA o21 0 then
 (Bo [.view Ai x0,I x1]).bind fun o22=>
 bif decide (0<=gA o22 0)&&decide (gA o22 0<(x0.length:Int))then
 (Ke (AK Ai (nth [] x0 x1.toNat)++AK Ai (nth [] x0 (gA o22 0).toNat))).bind fun o23=>
 bif(([]++List.take (Int.toNat 1) (wA o13 0)).length*24).ble 140737488355328 then
 (B0 (AK Ai (nth [] x0 x1.toNat))).bind fun o24=>
 bif(([]++List.take (Int.toNat 1) (wA o13 0)++[[jA o24 0,jA o24 1,jA o24 2]]).length*24).ble 140737488355328 then
 bif(([]++List.take (Int.toNat 1) (wA o13 0)++[[jA o24 0,jA o24 1,jA o24 2]]++wA o23 0).length*24).ble 140737488355328 then
 some [.view kPt ([]++List.take (Int.toNat 1) (wA o13 0)++[[jA o24 0,jA o24 1,jA o24 2]]++wA o23 0)]
 else
 none
 else
 none
 else
 none
 else
 none
 else
 bif(([]++List.take (Int.toNat 1) (wA o13 0)).length*24).ble 140737488355328 then
 (B0 (AK Ai (nth [] x0 x1.toNat))).bind fun o25=>
 bif(([]++List.take (Int.toNat 1) (wA o13 0)++[[jA o25 0,jA o25 1,jA o25 2]]).length*24).ble 140737488355328 then
 bif(([]++List.take (Int.toNat 1) (wA o13 0)++[[jA o25 0,jA o25 1,jA o25 2]]++List.drop (wrap .i64 ((↑(wA o13 0).length:Int)-1)).toNat (wA o13 0)).length*24).ble 140737488355328 then
 some [.view kPt ([]++List.take (Int.toNat 1) (wA o13 0)++[[jA o25 0,jA o25 1,jA o25 2]]++List.drop (wrap .i64 ((↑(wA o13 0).length:Int)-1)).toNat (wA o13 0))]
 else
 none
 else
 none
 else
 none
 else
 none
 else
 none
 else
 none:=by kernel_rfl
def NO:=Xv FR Fd Gj Ps EF Py
theorem Zt8:Aj PG (Z4 FR Fd Gj Ps EF Py):=Ao rfl ⟨YJ,Qhd,Qv2,Q8z,R_,Zbd,trivial⟩
theorem Zhe:Al PG (170,Ac Z2 Qg0 NO):=rw1 (C:=(Z4 FR Fd Gj Ps EF Py)) Zt8
def Wo:Sk:=⟨[TS.v true (cc 13++[CS.bool,ci,CS.bool]++cc 5++[CS.bool]),tf [ci]],[],[]⟩
def Qer:Sk:=⟨[tf [ci]],[],[]⟩
def Zti (M:Fn):Nat×Spec:=(168,Ac Wo Qer M)
def Qem (AH:Fn):Cfg:=cf [Lx AH]
def Xr (AH:Fn):Fn:=Am PG (Qem AH) 64 168 Wo Qer
theorem Q2m (AH:Fn) (x0 x1 x2 x3 x4 x5 x6 x7 x8 x9 x10 x11 x12:Int) (x13:Bool) (x14:Int) (x15:Bool) (x16 x17 x18 x19 x20:Int) (x21:Bool) (x22:Int):Xr AH [I x0,I x1,I x2,I x3,I x4,I x5,I x6,I x7,I x8,I x9,I x10,I x11,I x12,B x13,I x14,B x15,I x16,I x17,I x18,I x19,I x20,B x21,I x22]=
 bif x0==1 then
 some [I 0]
 else
 bif x15 then
 (AH [I (mn (wrap .i64 (x14*mx x22 1)) 60000000),I 4096,I 60000,I 2]).bind fun o2=>
 some [I (mx (gA o2 0) 1)]
 else
 (AH [I (mn x14 60000000),I 4096,I 60000,I 2]).bind fun o3=>
 some [I (mx (gA o3 0) 1)]:=by kernel_rfl
def JX:=Xr Bs
theorem Zpj:Aj PG (Qem Bs):=Ao rfl ⟨Lt,trivial⟩
theorem Zty:Al PG (168,Ac Wo Qer JX):=rw1 (C:=(Qem Bs)) Zpj
def Qkt:Sk:=⟨[tf [CS.ptr 20000 0],tf [CS.sl Ai],tf [ci],tf [ci]],[(20000,142,[ci,ci,ci,CS.own 20000 7,CS.own 20001 3,CS.bool,ci,ci,ci])],[(20000,162,Ah),(20001,76,kPt)]⟩
def Zi:Sk:=⟨[tf [CS.bool]],[(20000,142,[ci,ci,ci,CS.own 20000 7,CS.own 20001 3,CS.bool,ci,ci,ci])],[(20000,162,Ah),(20001,76,kPt)]⟩
def Zkz (M:Fn):Nat×Spec:=(126,Ac Qkt Zi M)
def Vp (B0 Bi GJ Fi CA GX:Fn):Cfg:=cp [Vj B0,QQ Bi,Zwz GJ,Q8u Fi,Q1c CA,Zti GX] [171]
def Qpz:Sk:=⟨[tf [CS.ptr 20000 0]]++dd 8++[tf [CS.ptr 9 0],tf [CS.ptr 10 0]]++dd 24++[tf [CS.sl kPt],tf [ci],tf [ci]]++dd 30,[(9,74,cc 13++[CS.bool,ci,CS.bool]++cc 5++[CS.bool]),(10,162,cc 7),(20000,142,[ci,ci,ci,CS.own 20000 7,CS.own 20001 3,CS.bool,ci,ci,ci])],[(20000,162,Ah),(20001,76,kPt)]⟩
def Qoo:List (Ex×Sk):=[(Ex.exit 0,⟨[tf [CS.ptr 20000 0]]++dd 67,[(20000,142,[ci,ci,ci,CS.own 20000 7,CS.own 20001 3,CS.bool,ci,ci,ci])],[(20000,162,Ah),(20001,76,kPt)]⟩)]
def LT (B0 Bi GJ Fi CA GX:Fn):Lp:=A4 PG (Vp B0 Bi GJ Fi CA GX) 64 6 (A0 PG 126 6) Qpz Qoo
def Qy6 (B0 Bi GJ Fi CA GX:Fn) (N6:Lp):Cfg:=(Vp B0 Bi GJ Fi CA GX).loop 6 Qpz Qoo N6
def YX (B0 Bi GJ Fi CA GX:Fn) (N6:Lp):Fn:=Am PG (Qy6 B0 Bi GJ Fi CA GX N6) 64 126 Qkt Zi
theorem Qx2 (B0 Bi GJ Fi CA GX:Fn) (v0 v1 v2:Rw) (v3 v4 v5 v6 v7 v8 v9 v10 v11 v12 v13 v14 v15 v16 v17:Int) (v18:Bool) (v19:Int) (v20:Bool) (v21 v22 v23 v24 v25:Int) (v26:Bool) (v27 v28 v29 v30 v31 v32 v33 v34 v35 v36:Int) (v37:Bool) (v38 v39 v40:Int):LT B0 Bi GJ Fi CA GX [.view Ah v0, .view kPt v1, .view kPt v2,I v3,I v4,I v5,I v6,I v7,I v8,I v9,I v10,I v11,I v12,I v13,I v14,I v15,I v16,I v17,B v18,I v19,B v20,I v21,I v22,I v23,I v24,I v25,B v26,I v27,I v28,I v29,I v30,I v31,I v32,I v33,I v34,I v35,I v36,B v37,I v38,I v39,I v40]=
 bif decide (v4<v3)then
 bif decide (0<=v4)&&decide (v4<(v2.length:Int))then
 (GJ [.view Ah v0, .view kPt v1,jA (nth [] v2 v4.toNat) 0,jA (nth [] v2 v4.toNat) 1,jA (nth [] v2 v4.toNat) 2,I v27,I v28,I v29,I v30,I v31,I v32,I v33,I v34,I v35,I v36,B v37,I v38,I v39,I v40]).bind fun o12=>
 (Bi [I v5,I v6,I v7,I v8,I v9,I v10,I v11,I v12,I v13,I v14,I v15,I v16,I v17,B v18,I v19,B v20,I v21,I v22,I v23,I v24,I v25,B v26]).bind fun o13=>
 bif bA o13 0 then
 (B0 [I v5,I v6,I v7,I v8,I v9,I v10,I v11,I v12,I v13,I v14,I v15,I v16,I v17,B v18,I v19,B v20,I v21,I v22,I v23,I v24,I v25,B v26]).bind fun o14=>
 bif gA (nth [] v2 v4.toNat) 0==gA o14 0&&(gA (nth [] v2 v4.toNat) 1==gA o14 1&&(gA (nth [] v2 v4.toNat) 2==gA o14 2&&true))then
 some (0,[.view Ah (wA o12 0), .view kPt (wA o12 1), .view kPt v2,I v3,I (wrap .i64 (v4+1)),I v5,I v6,I v7,I v8,I v9,I v10,I v11,I v12,I v13,I v14,I v15,I v16,I v17,B v18,I v19,B v20,I v21,I v22,I v23,I v24,I v25,B v26,I v27,I v28,I v29,I v30,I v31,I v32,I v33,jA o12 2,jA o12 3,jA o12 4,B (bA o12 5),jA o12 6,jA o12 7,jA o12 6])
 else
 some (0,[.view Ah (wA o12 0), .view kPt (wA o12 1), .view kPt v2,I v3,I (wrap .i64 (v4+1)),I v5,I v6,I v7,I v8,I v9,I v10,I v11,I v12,I v13,I v14,I v15,I v16,I v17,B v18,I v19,B v20,I v21,I v22,I v23,I v24,I v25,B v26,I v27,I v28,I v29,I v30,I v31,I v32,I v33,jA o12 2,jA o12 3,jA o12 4,B (bA o12 5),jA o12 6,jA o12 7,jA o12 8])
 else
 some (0,[.view Ah (wA o12 0), .view kPt (wA o12 1), .view kPt v2,I v3,I (wrap .i64 (v4+1)),I v5,I v6,I v7,I v8,I v9,I v10,I v11,I v12,I v13,I v14,I v15,I v16,I v17,B v18,I v19,B v20,I v21,I v22,I v23,I v24,I v25,B v26,I v27,I v28,I v29,I v30,I v31,I v32,I v33,jA o12 2,jA o12 3,jA o12 4,B (bA o12 5),jA o12 6,jA o12 7,jA o12 8])
 else
 none
 else
 some (1,[.view Ah v0, .view kPt v1,I v34,I v35,I v36,B v37,I v38,I v39,I v40]):=by kernel_rfl
abbrev Qnz (Fi:Fn) (x2:Rw) (x3 x4:Int) (N6:Lp) (x0 x1:Rw) (o15:List AC) (x5 x6 x7:Int) (x8:Bool) (x9 x10 x11:Int) (h1_0:AC):Option (List AC):=
 (Fi [.view Ai x2,I x3,I x4]).bind fun o17=>
 (N6 (.view Ah x0:: .view kPt x1:: .view kPt (wA o17 0)::I (↑(wA o17 0).length:Int)::I 0::(AK Ai (nth [] x2 x3.toNat)++[I 0,I 0,I 0,I 0,I x3,jA o15 0,h1_0,I x5,I x6,I x7,B x8,I x9,I x10,I x11]))).bind fun o18=>
 bif o18.1.beq 1 then
 some [.view Ah (wA o18.2 0), .view kPt (wA o18.2 1),B (decide ((↑(wA o18.2 0).length:Int)<=1048576)),jA o18.2 2,jA o18.2 3,jA o18.2 4,B (bA o18.2 5),jA o18.2 6,jA o18.2 7,jA o18.2 8]
 else
 none
attribute [go_sem] Qnz
theorem Zsy (B0 Bi GJ Fi CA GX:Fn) (N6:Lp) (x0 x1 x2:Rw) (x3 x4 x5 x6 x7:Int) (x8:Bool) (x9 x10 x11:Int):YX B0 Bi GJ Fi CA GX N6 [.view Ah x0, .view kPt x1, .view Ai x2,I x3,I x4,I x5,I x6,I x7,B x8,I x9,I x10,I x11]=
 bif decide (0<=x3)&&decide (x3<(x2.length:Int))then
 (GX (AK Ai (nth [] x2 x3.toNat)++[I x10])).bind fun o15=>
 (CA (AK Ai (nth [] x2 x3.toNat))).bind fun o16=>
 bif bA o16 0 then
 Qnz Fi x2 x3 x4 N6 x0 x1 o15 x5 x6 x7 x8 x9 x10 x11 (I (mn (wrap .i64 (gA (nth [] x2 x3.toNat) 14*16)) 16777216))
 else
 Qnz Fi x2 x3 x4 N6 x0 x1 o15 x5 x6 x7 x8 x9 x10 x11 (I 0)
 else
 none:=by kernel_rfl
def Qz3:=An (LT FR EF Oq NO Hk JX)
def J_:=YX FR EF Oq NO Hk JX Qz3
theorem Q1n:Aj PG (Vp FR EF Oq NO Hk JX):=Ao rfl ⟨YJ,R_,Zaj,Zhe,Qsa,Zty,trivial⟩
theorem Zdr:Al PG (126,Ac Qkt Zi J_):=rw2 (C:=(Qy6 FR EF Oq NO Hk JX Qz3)) (fl fb Q1n) Q1n
def Qbh:Sk:=⟨[TS.v true (cc 13++[CS.bool,ci,CS.bool]++cc 5++[CS.bool])],[],[]⟩
def UP:Sk:=⟨[tf [ci]],[],[]⟩
def Zw4 (M:Fn):Nat×Spec:=(122,Ac Qbh UP M)
def YY (Cu AM:Fn):Cfg:=cf [Qi6 Cu,SU AM]
def Zn (Cu AM:Fn):Fn:=Am PG (YY Cu AM) 64 122 Qbh UP
abbrev LV (x0 x19 x20:Int):Option (List AC):=
 bif x0==8 then
 bif decide (x19<3)then
 some [I 1]
 else
 bif decide (x19>5)then
 some [I 1]
 else
 bif decide (x20<0)then
 some [I 1]
 else
 bif decide (x20>30000)then
 some [I 1]
 else
 some [I 0]
 else
 some [I 0]
attribute [go_sem] LV
theorem Zp6 (Cu AM:Fn) (x0 x1 x2 x3 x4 x5 x6 x7 x8 x9 x10 x11 x12:Int) (x13:Bool) (x14:Int) (x15:Bool) (x16 x17 x18 x19 x20:Int) (x21:Bool):Zn Cu AM [I x0,I x1,I x2,I x3,I x4,I x5,I x6,I x7,I x8,I x9,I x10,I x11,I x12,B x13,I x14,B x15,I x16,I x17,I x18,I x19,I x20,B x21]=
 bif decide (x0<1)then
 some [I 1]
 else
 bif decide (x0>14)then
 some [I 1]
 else
 (AM [I x0]).bind fun o4=>
 bif bA o4 0 then
 (Cu [I x0,I x1,I x2,I x3,I x4,I x5,I x6,I x7,I x8,I x9,I x10,I x11,I x12,B x13,I x14,B x15,I x16,I x17,I x18,I x19,I x20,B x21]).bind fun o5=>
 bif !bA o5 0 then
 some [I 1]
 else
 bif decide (x18<0)then
 some [I 1]
 else
 bif decide (x18>1000)then
 some [I 1]
 else
 (AM [I x0]).bind fun o6=>
 bif bA o6 0 then
 bif x0 !=1 then
 bif decide (x14<1)then
 some [I 1]
 else
 bif decide (x14>60000000)then
 some [I 1]
 else
 LV x0 x19 x20
 else
 LV x0 x19 x20
 else
 LV x0 x19 x20
 else
 (AM [I x0]).bind fun o7=>
 bif bA o7 0 then
 bif x0 !=1 then
 bif decide (x14<1)then
 some [I 1]
 else
 bif decide (x14>60000000)then
 some [I 1]
 else
 LV x0 x19 x20
 else
 LV x0 x19 x20
 else
 LV x0 x19 x20:=by kernel_rfl
def IJ:=Zn GY DG
theorem Zcd:Aj PG (YY GY DG):=Ao rfl ⟨Qi4,Ra,trivial⟩
theorem Zkq:Al PG (122,Ac Qbh UP IJ):=rw1 (C:=(YY GY DG)) Zcd
def Zo:Sk:=⟨[tf [CS.sl Ai]],[],[]⟩
def Qjd:Sk:=⟨[TS.tup [(false,[CS.ptr 13 0]),(false,[ci])]],[(13,142,[ci,ci,ci,CS.own 1013003 7,CS.own 1013004 3,CS.bool,ci,ci,ci])],[(1013003,162,Ah),(1013004,76,kPt)]⟩
def Qvk (M:Fn):Nat×Spec:=(80,Ac Zo Qjd M)
def VO (B7 Cd Bo BU AM El:Fn):Cfg:=cp [Zxe B7,Zkz Cd,Zw Bo,Qzm BU,SU AM,Zw4 El] [127,126]
def Q0a:Sk:=⟨[tf [CS.sl Ai],td,td,td,tf [CS.ptr 13 0],tf [ci]]++dd 12++[tf [CS.sl Ai],tf [ci],tf [ci]]++dd 87,[(13,142,[ci,ci,ci,CS.own 1013003 7,CS.own 1013004 3,CS.bool,ci,ci,ci])],[(1013003,162,Ah),(1013004,76,kPt)]⟩
def Q2j:List (Ex×Sk):=[(Ex.ret,⟨[td,td,tf [CS.ptr 13 0],tf [ci]]++dd 104,[(13,142,[ci,ci,ci,CS.own 1013003 7,CS.own 1013004 3,CS.bool,ci,ci,ci])],[(1013003,162,Ah),(1013004,76,kPt)]⟩),(Ex.exit 0,⟨[tf [CS.sl Ai],td,td,td,tf [CS.ptr 13 0]]++dd 103,[(13,142,[ci,ci,ci,CS.own 1013003 7,CS.own 1013004 3,CS.bool,ci,ci,ci])],[(1013003,162,Ah),(1013004,76,kPt)]⟩)]
def Pi (B7 Cd Bo BU AM El:Fn):Lp:=A4 PG (VO B7 Cd Bo BU AM El) 64 6 (A0 PG 80 6) Q0a Q2j
def Qqd (B7 Cd Bo BU AM El:Fn) (N6:Lp):Cfg:=(VO B7 Cd Bo BU AM El).loop 6 Q0a Q2j N6
def Qtp:Sk:=⟨[tf [CS.sl Ai],td,td,td,tf [CS.ptr 13 0],tf [ci]]++dd 44++[tf [CS.sl Ai],tf [ci],tf [ci]]++dd 55,[(13,142,[ci,ci,ci,CS.own 1013003 7,CS.own 1013004 3,CS.bool,ci,ci,ci])],[(1013003,162,Ah),(1013004,76,kPt)]⟩
def Qvj:List (Ex×Sk):=[(Ex.ret,⟨[td,td,tf [CS.ptr 13 0],tf [ci]]++dd 104,[(13,142,[ci,ci,ci,CS.own 1013003 7,CS.own 1013004 3,CS.bool,ci,ci,ci])],[(1013003,162,Ah),(1013004,76,kPt)]⟩),(Ex.exit 2,⟨[td,td,td,td,tf [CS.ptr 13 0]]++dd 103,[(13,142,[ci,ci,ci,CS.own 1013003 7,CS.own 1013004 3,CS.bool,ci,ci,ci])],[(1013003,162,Ah),(1013004,76,kPt)]⟩)]
def OX (B7 Cd Bo BU AM El:Fn) (N6:Lp):Lp:=A4 PG (Qqd B7 Cd Bo BU AM El N6) 64 18 (A0 PG 80 18) Qtp Qvj
def Qyc (B7 Cd Bo BU AM El:Fn) (N6 N18:Lp):Cfg:=(Qqd B7 Cd Bo BU AM El N6).loop 18 Qtp Qvj N18
def Qeh (B7 Cd Bo BU AM El:Fn) (N6 N18:Lp):Fn:=Am PG (Qyc B7 Cd Bo BU AM El N6 N18) 64 80 Zo Qjd
theorem Q23 (B7 Cd Bo BU AM El:Fn) (v0 v1 v2:Rw) (v3:Int) (v4:Rw) (v5 v6 v7 v8 v9:Int) (v10:Bool) (v11 v12 v13:Int):Pi B7 Cd Bo BU AM El [.view Ah v0, .view kPt v1, .view Ai v2,I v3, .view Ai v4,I v5,I v6,I v7,I v8,I v9,B v10,I v11,I v12,I v13]=
 bif decide (v6<v5)then
 bif decide (0<=v6)&&decide (v6<(v4.length:Int))then
 (El (AK Ai (nth [] v4 v6.toNat))).bind fun o53=>
 bif gA o53 0 !=0 then
 some (1,[.view Ah v0, .view kPt v1,jA o53 0,I v7,I v8,I v9,B v10,I v11,I v12,I v13])
 else
 (AM [jA (nth [] v4 v6.toNat) 0]).bind fun o54=>
 bif !bA o54 0 then
 some (0,[.view Ah v0, .view kPt v1, .view Ai v2,I v3, .view Ai v4,I v5,I (wrap .i64 (v6+1)),I v7,I v8,I v9,B v10,I v11,I v12,I v13])
 else
 bif decide (v3>=0)then
 bif decide (0<=v3)&&decide (v3<(v2.length:Int))then
 bif !(gA (nth [] v2 v3.toNat) 5==gA (nth [] v4 v6.toNat) 2&&(gA (nth [] v2 v3.toNat) 6==gA (nth [] v4 v6.toNat) 3&&(gA (nth [] v2 v3.toNat) 7==gA (nth [] v4 v6.toNat) 4&&true)))then
 some (1,[.view Ah v0, .view kPt v1,I 13,I v7,I v8,I v9,B v10,I v11,I v12,I v13])
 else
 some (0,[.view Ah v0, .view kPt v1, .view Ai v2,I v6, .view Ai v4,I v5,I (wrap .i64 (v6+1)),I v7,I v8,I v9,B v10,I v11,I v12,I v13])
 else
 none
 else
 some (0,[.view Ah v0, .view kPt v1, .view Ai v2,I v6, .view Ai v4,I v5,I (wrap .i64 (v6+1)),I v7,I v8,I v9,B v10,I v11,I v12,I v13])
 else
 none
 else
 some (2,[.view Ah v0, .view kPt v1, .view Ai v2,I v7,I v8,I v9,B v10,I v11,I v12,I v13]):=by kernel_rfl
abbrev Qs (Cd:Fn) (v0 v1 v2:Rw) (v6 v7 v8 v9:Int) (v10:Bool) (v11:Int) (h1_0:AC) (v13:Int) (B7:Fn) (v4:Rw) (v5:Int) (h2_0:AC):Option (Nat×List AC):=
 (Cd [.view Ah v0, .view kPt v1, .view Ai v2,I v6,h2_0,I v7,I v8,I v9,B v10,I v11,h1_0,I v13]).bind fun o57=>
 bif !bA o57 2 then
 some (1,[.view Ah (wA o57 0), .view kPt (wA o57 1),I 10,jA o57 3,jA o57 4,jA o57 5,B (bA o57 6),jA o57 7,jA o57 8,jA o57 9])
 else
 (B7 [.view Ah (wA o57 0), .view kPt (wA o57 1), .view Ai v2,I v6,jA o57 3,jA o57 4,jA o57 5,B (bA o57 6),jA o57 7,jA o57 8,jA o57 9]).bind fun o58=>
 some (0,[.view Ah (wA o58 0), .view kPt (wA o58 1), .view Ai v2,I v6, .view Ai v4,I v5,I (wrap .i64 (v6+1)),jA o58 2,jA o58 3,jA o58 4,B (bA o58 5),jA o58 6,jA o58 7,jA o58 8])
attribute [go_sem] Qs
abbrev OV (AM:Fn) (v4:Rw) (v6 v3:Int) (BU:Fn) (v2:Rw) (Cd:Fn) (v0 v1:Rw) (v7 v8 v9:Int) (v10:Bool) (v11 v13:Int) (B7:Fn) (v5:Int) (Bo:Fn) (h1_0:AC):Option (Nat×List AC):=
 (AM [jA (nth [] v4 v6.toNat) 0]).bind fun o55=>
 bif bA o55 0 then
 bif decide (v3>=0)then
 (BU [.view Ai v2,I v3]).bind fun o56=>
 bif !bA o56 0 then
 Qs Cd v0 v1 v2 v6 v7 v8 v9 v10 v11 h1_0 v13 B7 v4 v5 (I (-1))
 else
 (Bo [.view Ai v2,I v3]).bind fun o59=>
 bif gA o59 0 !=v6 then
 Qs Cd v0 v1 v2 v6 v7 v8 v9 v10 v11 h1_0 v13 B7 v4 v5 (I (-1))
 else
 Qs Cd v0 v1 v2 v6 v7 v8 v9 v10 v11 h1_0 v13 B7 v4 v5 (I v3)
 else
 Qs Cd v0 v1 v2 v6 v7 v8 v9 v10 v11 h1_0 v13 B7 v4 v5 (I v3)
 else
 (B7 [.view Ah v0, .view kPt v1, .view Ai v2,I v6,I v7,I v8,I v9,B v10,I v11,h1_0,I v13]).bind fun o66=>
 some (0,[.view Ah (wA o66 0), .view kPt (wA o66 1), .view Ai v2,I v3, .view Ai v4,I v5,I (wrap .i64 (v6+1)),jA o66 2,jA o66 3,jA o66 4,B (bA o66 5),jA o66 6,jA o66 7,jA o66 8])
attribute [go_sem] OV
theorem Q5n (B7 Cd Bo BU AM El:Fn) (N6:Lp) (v0 v1 v2:Rw) (v3:Int) (v4:Rw) (v5 v6 v7 v8 v9:Int) (v10:Bool) (v11 v12 v13:Int):OX B7 Cd Bo BU AM El N6 [.view Ah v0, .view kPt v1, .view Ai v2,I v3, .view Ai v4,I v5,I v6,I v7,I v8,I v9,B v10,I v11,I v12,I v13]=
 bif decide (v6<v5)then
 bif decide (0<=v6)&&decide (v6<(v4.length:Int))then
 bif gA (nth [] v4 v6.toNat) 0==8 then
 bif gA (nth [] v4 v6.toNat) 19==3 then
 OV AM v4 v6 v3 BU v2 Cd v0 v1 v7 v8 v9 v10 v11 v13 B7 v5 Bo (jA (nth [] v4 v6.toNat) 20)
 else
 bif gA (nth [] v4 v6.toNat) 19==4 then
 OV AM v4 v6 v3 BU v2 Cd v0 v1 v7 v8 v9 v10 v11 v13 B7 v5 Bo (jA (nth [] v4 v6.toNat) 20)
 else
 OV AM v4 v6 v3 BU v2 Cd v0 v1 v7 v8 v9 v10 v11 v13 B7 v5 Bo (I v12)
 else
 OV AM v4 v6 v3 BU v2 Cd v0 v1 v7 v8 v9 v10 v11 v13 B7 v5 Bo (I v12)
 else
 none
 else
 some (2,[.view Ah v0, .view kPt v1,I v7,I v8,I v9,B v10,I v11,I v12,I v13]):=by kernel_rfl
theorem Zkj (B7 Cd Bo BU AM El:Fn) (N6 N18:Lp) (x0:Rw):Qeh B7 Cd Bo BU AM El N6 N18 [.view Ai x0]=
 bif decide ((x0.length:Int)>20000)then
 some [.view Ah [], .view kPt [],I 10,I 0,I 0,I 0,B false,I 0,I 0,I 0]
 else
 (N6 [.view Ah [], .view kPt [], .view Ai x0,I (-1), .view Ai x0,I (x0.length:Int),I 0,I 0,I 0,I 0,B false,I 0,I 0,I 0]).bind fun o103=>
 bif o103.1.beq 1 then
 some [.view Ah (wA o103.2 0), .view kPt (wA o103.2 1),jA o103.2 2,jA o103.2 3,jA o103.2 4,jA o103.2 5,B (bA o103.2 6),jA o103.2 7,jA o103.2 8,jA o103.2 9]
 else
 bif o103.1.beq 2 then
 (N18 [.view Ah (wA o103.2 0), .view kPt (wA o103.2 1), .view Ai (wA o103.2 2),I (-1), .view Ai (wA o103.2 2),I (↑(wA o103.2 2).length:Int),I 0,jA o103.2 3,jA o103.2 4,jA o103.2 5,B (bA o103.2 6),jA o103.2 7,jA o103.2 8,jA o103.2 9]).bind fun o104=>
 bif o104.1.beq 1 then
 some [.view Ah (wA o104.2 0), .view kPt (wA o104.2 1),jA o104.2 2,jA o104.2 3,jA o104.2 4,jA o104.2 5,B (bA o104.2 6),jA o104.2 7,jA o104.2 8,jA o104.2 9]
 else
 bif o104.1.beq 2 then
 some [.view Ah (wA o104.2 0), .view kPt (wA o104.2 1),I 0,jA o104.2 2,jA o104.2 3,jA o104.2 4,B (bA o104.2 5),jA o104.2 6,jA o104.2 7,jA o104.2 8]
 else
 none
 else
 none:=by kernel_rfl
def Pg:=An (Pi Je J_ Fd Gj DG IJ)
def Qow:=An (OX Je J_ Fd Gj DG IJ Pg)
def IR:=Qeh Je J_ Fd Gj DG IJ Pg Qow
theorem Qex:Aj PG (VO Je J_ Fd Gj DG IJ):=Ao rfl ⟨Zat,Zdr,Qhd,Qv2,Ra,Zkq,trivial⟩
theorem Q5q:Al PG (80,Ac Zo Qjd IR):=rw2 (C:=(Qyc Je J_ Fd Gj DG IJ Pg Qow)) (fl (fl fb Qex) Qex) Qex
def Qds:Sk:=⟨[tf [CS.sl Ai]],[],[]⟩
def Qea:Sk:=⟨[tf [ci]],[],[]⟩
def Zvi (M:Fn):Nat×Spec:=(37,Ac Qds Qea M)
def Qln (Bi D0:Fn):Cfg:=cp [QQ Bi,Qvk D0] [80]
def Qx1:Sk:=⟨[tf [CS.sl Ai],td,td,tf [CS.ptr 100800 0],td,tf [ci]]++dd 47,[(100800,142,[ci,ci,ci,CS.own 100800 7,CS.own 100801 3,CS.bool,ci,ci,ci])],[(100800,162,Ah),(100801,76,kPt)]⟩
def Qot:List (Ex×Sk):=[(Ex.ret,⟨[td,td,tf [ci]]++dd 50,[],[]⟩),(Ex.exit 0,⟨[td,td,td,tf [CS.ptr 100800 0]]++dd 49,[(100800,142,[ci,ci,ci,CS.own 100800 7,CS.own 100801 3,CS.bool,ci,ci,ci])],[(100800,162,Ah),(100801,76,kPt)]⟩)]
def ND (Bi D0:Fn):Lp:=A4 PG (Qln Bi D0) 64 5 (A0 PG 37 5) Qx1 Qot
def Qz5 (Bi D0:Fn) (N5:Lp):Cfg:=(Qln Bi D0).loop 5 Qx1 Qot N5
def Qaq (Bi D0:Fn) (N5:Lp):Fn:=Am PG (Qz5 Bi D0 N5) 64 37 Qds Qea
theorem Qpa (Bi D0:Fn) (v0 v1 v2:Rw) (v3 v4 v5 v6:Int) (v7:Bool) (v8 v9 v10:Int):ND Bi D0 [.view Ah v0, .view kPt v1, .view Ai v2,I v3,I v4,I v5,I v6,B v7,I v8,I v9,I v10]=
 bif decide (v3>=0)then
 bif decide (0<=v3)&&decide (v3<(v2.length:Int))then
 bif gA (nth [] v2 v3.toNat) 0==10 then
 some (0,[.view Ah v0, .view kPt v1, .view Ai v2,I (wrap .i64 (v3-1)),I v4,I v5,I v6,B v7,I v8,I v9,I v10])
 else
 bif decide (0<=v3)&&decide (v3<(v2.length:Int))then
 (Bi (AK Ai (nth [] v2 v3.toNat))).bind fun o4=>
 bif bA o4 0 then
 bif decide (0<=v3)&&decide (v3<(v2.length:Int))then
 bif gA (nth [] v2 v3.toNat) 18 !=0 then
 some (1,[I v10])
 else
 some (1,[I v8])
 else
 none
 else
 some (1,[I v8])
 else
 none
 else
 none
 else
 some (2,[.view Ah v0, .view kPt v1,I v4,I v5,I v6,B v7,I v8,I v9,I v10]):=by kernel_rfl
theorem Q0r (Bi D0:Fn) (N5:Lp) (x0:Rw):Qaq Bi D0 N5 [.view Ai x0]=
 (D0 [.view Ai x0]).bind fun o5=>
 bif gA o5 2 !=0 then
 some [I 0]
 else
 (N5 [.view Ah (wA o5 0), .view kPt (wA o5 1), .view Ai x0,I (wrap .i64 ((x0.length:Int)-1)),jA o5 3,jA o5 4,jA o5 5,B (bA o5 6),jA o5 7,jA o5 8,jA o5 9]).bind fun o6=>
 bif o6.1.beq 1 then
 some [jA o6.2 0]
 else
 bif o6.1.beq 2 then
 some [jA o6.2 6]
 else
 none:=by kernel_rfl
def Qpl:=An (ND EF IR)
def Mi:=Qaq EF IR Qpl
theorem Q4i:Aj PG (Qln EF IR):=Ao rfl ⟨R_,Q5q,trivial⟩
theorem Zlr:Al PG (37,Ac Qds Qea Mi):=rw2 (C:=(Qz5 EF IR Qpl)) (fl fb Q4i) Q4i
def Qa2:Sk:=⟨[tf [ci],tf [ci],tf [ci]],[],[]⟩
def Z1:Sk:=⟨[tf [CS.bool]],[],[]⟩
def Qgg (M:Fn):Nat×Spec:=(140,Ac Qa2 Z1 M)
def U3:Cfg:=cf []
def Qkw:Fn:=Am PG U3 64 140 Qa2 Z1
theorem Zzx (x0 x1 x2:Int):Qkw [I x0,I x1,I x2]=
 bif decide (x1<=x0)then
 some [B (decide (x0<=x2))]
 else
 some [B false]:=by kernel_rfl
def Gv:=Qkw
theorem Zfe:Aj PG (U3):=Ao rfl trivial
theorem VS:Al PG (140,Ac Qa2 Z1 Gv):=rw1 (C:=U3) Zfe
def V3:Sk:=⟨[TS.v true (cc 9++[CS.sl Aa]),tf [ci]],[],[]⟩
def Qmg:Sk:=⟨[tf [CS.bool]],[],[]⟩
def Zo9 (M:Fn):Nat×Spec:=(142,Ac V3 Qmg M)
def Qj5 (BH:Fn):Cfg:=cf [Qgg BH]
def Qdz (BH:Fn):Fn:=Am PG (Qj5 BH) 64 142 V3 Qmg
theorem Zry (BH:Fn) (x0 x1 x2 x3 x4 x5 x6 x7 x8:Int) (x9:Rw) (x10:Int):Qdz BH [I x0,I x1,I x2,I x3,I x4,I x5,I x6,I x7,I x8, .view Aa x9,I x10]=
 (BH [I x10,I x4,I x5]).bind fun o1=>
 some [B (bA o1 0)]:=by kernel_rfl
def G4:=Qdz Gv
theorem Zzb:Aj PG (Qj5 Gv):=Ao rfl ⟨VS,trivial⟩
theorem Zbp:Al PG (142,Ac V3 Qmg G4):=rw1 (C:=(Qj5 Gv)) Zzb
def UQ:Sk:=⟨[TS.v true (cc 9++[CS.sl Aa]++cc 9++[CS.sl Aa]++cc 9++[CS.sl Aa]),TS.v true [ci,ci,ci,CS.sl Ah,CS.sl kPt]],[],[]⟩
def WT:Sk:=⟨[tf [CS.bool]],[],[]⟩
def Zc8 (M:Fn):Nat×Spec:=(90,Ac UQ WT M)
def Qfa (DF:Fn):Cfg:={cf [Zo9 DF]with rowDst:=[13],unroll:=[11]}
def Quu:Sk:=⟨[td,td,tf [CS.ptr 2 0],td,td,tf [CS.own 13 3]]++dd 9++[tf [CS.sl Ah],tf [ci],tf [ci]]++dd 28,[(2,27,cc 9++[CS.sl Aa]++cc 9++[CS.sl Aa]++cc 9++[CS.sl Aa])],[(13,54,kPt)]⟩
def Qvo:List (Ex×Sk):=[(Ex.exit 0,⟨[td,td,tf [CS.ptr 2 0],td,td,tf [CS.own 13 3]]++dd 40,[(2,27,cc 9++[CS.sl Aa]++cc 9++[CS.sl Aa]++cc 9++[CS.sl Aa])],[(13,54,kPt)]⟩)]
def Qb (DF:Fn):Lp:=A4 PG (Qfa DF) 64 3 (A0 PG 90 3) Quu Qvo
def Qpm (DF:Fn) (N3:Lp):Cfg:=(Qfa DF).loop 3 Quu Qvo N3
def Qyg:Sk:=⟨[td,td,tf [CS.ptr 2 0]]++dd 24++[tf [CS.own 13 3],tf [ci],tf [ci]]++dd 16,[(2,27,cc 9++[CS.sl Aa]++cc 9++[CS.sl Aa]++cc 9++[CS.sl Aa])],[(13,54,kPt)]⟩
def Qwf:List (Ex×Sk):=[(Ex.ret,⟨[td,td,td,td,tf [CS.bool]]++dd 41,[],[]⟩),(Ex.exit 2,⟨[td]++dd 45,[],[]⟩)]
def TL (DF:Fn) (N3:Lp):Lp:=A4 PG (Qpm DF N3) 64 8 (A0 PG 90 8) Qyg Qwf
def Qt6 (DF:Fn) (N3 N8:Lp):Cfg:=(Qpm DF N3).loop 8 Qyg Qwf N8
def T8 (DF:Fn) (N3 N8:Lp):Fn:=Am PG (Qt6 DF N3 N8) 64 90 UQ WT
theorem Za7 (DF:Fn) (v0 v1:Rw) (v2 v3 v4 v5 v6 v7 v8 v9 v10 v11 v12:Int) (v13:Rw) (v14 v15 v16 v17 v18 v19 v20 v21 v22:Int) (v23:Rw) (v24 v25 v26 v27 v28 v29 v30 v31 v32:Int) (v33:Rw):Qb DF [.view kPt v0, .view Ah v1,I v2,I v3,I v4,I v5,I v6,I v7,I v8,I v9,I v10,I v11,I v12, .view Aa v13,I v14,I v15,I v16,I v17,I v18,I v19,I v20,I v21,I v22, .view Aa v23,I v24,I v25,I v26,I v27,I v28,I v29,I v30,I v31,I v32, .view Aa v33]=
 bif decide (v3<v2)then
 bif decide (0<=v3)&&decide (v3<(v1.length:Int))then
 bif((v0++[[jA (nth [] v1 v3.toNat) 0,jA (nth [] v1 v3.toNat) 1,jA (nth [] v1 v3.toNat) 2]]).length*24).ble 140737488355328 then
 some (0,[.view kPt (v0++[[jA (nth [] v1 v3.toNat) 0,jA (nth [] v1 v3.toNat) 1,jA (nth [] v1 v3.toNat) 2]]), .view Ah v1,I v2,I (wrap .i64 (v3+1)),I v4,I v5,I v6,I v7,I v8,I v9,I v10,I v11,I v12, .view Aa v13,I v14,I v15,I v16,I v17,I v18,I v19,I v20,I v21,I v22, .view Aa v23,I v24,I v25,I v26,I v27,I v28,I v29,I v30,I v31,I v32, .view Aa v33])
 else
 none
 else
 none
 else
 some (1,[.view kPt v0,I v4,I v5,I v6,I v7,I v8,I v9,I v10,I v11,I v12, .view Aa v13,I v14,I v15,I v16,I v17,I v18,I v19,I v20,I v21,I v22, .view Aa v23,I v24,I v25,I v26,I v27,I v28,I v29,I v30,I v31,I v32, .view Aa v33]):=by kernel_rfl
theorem Zrh (DF:Fn) (N3:Lp) (v0:Rw) (v1 v2 v3 v4 v5 v6 v7 v8 v9 v10 v11:Int) (v12:Rw) (v13 v14 v15 v16 v17 v18 v19 v20 v21:Int) (v22:Rw) (v23 v24 v25 v26 v27 v28 v29 v30 v31:Int) (v32:Rw):TL DF N3 [.view kPt v0,I v1,I v2,I v3,I v4,I v5,I v6,I v7,I v8,I v9,I v10,I v11, .view Aa v12,I v13,I v14,I v15,I v16,I v17,I v18,I v19,I v20,I v21, .view Aa v22,I v23,I v24,I v25,I v26,I v27,I v28,I v29,I v30,I v31, .view Aa v32]=
 bif decide (v2<v1)then
 bif decide (0<=v2)&&decide (v2<(v0.length:Int))then
 (DF [I v3,I v4,I v5,I v6,I v7,I v8,I v9,I v10,I v11, .view Aa v12,jA (nth [] v0 v2.toNat) 0]).bind fun o6=>
 bif !bA o6 0 then
 some (1,[B false])
 else
 (DF [I v13,I v14,I v15,I v16,I v17,I v18,I v19,I v20,I v21, .view Aa v22,jA (nth [] v0 v2.toNat) 1]).bind fun o7=>
 bif !bA o7 0 then
 some (1,[B false])
 else
 (DF [I v23,I v24,I v25,I v26,I v27,I v28,I v29,I v30,I v31, .view Aa v32,jA (nth [] v0 v2.toNat) 2]).bind fun o8=>
 bif !bA o8 0 then
 some (1,[B false])
 else
 some (0,[.view kPt v0,I v1,I (wrap .i64 (v2+1)),I v3,I v4,I v5,I v6,I v7,I v8,I v9,I v10,I v11, .view Aa v12,I v13,I v14,I v15,I v16,I v17,I v18,I v19,I v20,I v21, .view Aa v22,I v23,I v24,I v25,I v26,I v27,I v28,I v29,I v30,I v31, .view Aa v32])
 else
 none
 else
 some (2,[]):=by kernel_rfl
theorem Z2h (DF:Fn) (N3 N8:Lp) (x0 x1 x2 x3 x4 x5 x6 x7 x8:Int) (x9:Rw) (x10 x11 x12 x13 x14 x15 x16 x17 x18:Int) (x19:Rw) (x20 x21 x22 x23 x24 x25 x26 x27 x28:Int) (x29:Rw) (x30 x31 x32:Int) (x33 x34:Rw):T8 DF N3 N8 [I x0,I x1,I x2,I x3,I x4,I x5,I x6,I x7,I x8, .view Aa x9,I x10,I x11,I x12,I x13,I x14,I x15,I x16,I x17,I x18, .view Aa x19,I x20,I x21,I x22,I x23,I x24,I x25,I x26,I x27,I x28, .view Aa x29,I x30,I x31,I x32, .view Ah x33, .view kPt x34]=
 (N3 [.view kPt [[I x30,I x31,I x32]], .view Ah x33,I (x33.length:Int),I 0,I x0,I x1,I x2,I x3,I x4,I x5,I x6,I x7,I x8, .view Aa x9,I x10,I x11,I x12,I x13,I x14,I x15,I x16,I x17,I x18, .view Aa x19,I x20,I x21,I x22,I x23,I x24,I x25,I x26,I x27,I x28, .view Aa x29]).bind fun o9=>
 bif o9.1.beq 1 then
 (N8 [.view kPt (wA o9.2 0),I (↑(wA o9.2 0).length:Int),I 0,jA o9.2 1,jA o9.2 2,jA o9.2 3,jA o9.2 4,jA o9.2 5,jA o9.2 6,jA o9.2 7,jA o9.2 8,jA o9.2 9, .view Aa (wA o9.2 10),jA o9.2 11,jA o9.2 12,jA o9.2 13,jA o9.2 14,jA o9.2 15,jA o9.2 16,jA o9.2 17,jA o9.2 18,jA o9.2 19, .view Aa (wA o9.2 20),jA o9.2 21,jA o9.2 22,jA o9.2 23,jA o9.2 24,jA o9.2 25,jA o9.2 26,jA o9.2 27,jA o9.2 28,jA o9.2 29, .view Aa (wA o9.2 30)]).bind fun o10=>
 bif o10.1.beq 1 then
 some [B (bA o10.2 0)]
 else
 bif o10.1.beq 2 then
 some [B true]
 else
 none
 else
 none:=by kernel_rfl
def X9:=An (Qb G4)
def Qt0:=An (TL G4 X9)
def Qg:=T8 G4 X9 Qt0
theorem Qf5:Aj PG (Qfa G4):=Ao rfl ⟨Zbp,trivial⟩
theorem Zs8:Al PG (90,Ac UQ WT Qg):=rw2 (C:=(Qt6 G4 X9 Qt0)) (fl (fl fb Qf5) Qf5) Qf5
def Qj3:Sk:=⟨[tf [CS.sl Ai]],[],[]⟩
def Qew:Sk:=⟨[TS.tup [(true,[ci,ci,ci,CS.sl Ah,CS.sl kPt]),(false,[ci])]],[],[]⟩
def Zks (M:Fn):Nat×Spec:=(89,Ac Qj3 Qew M)
def Qfp (D0:Fn):Cfg:=cp [Qvk D0] [80]
def Qfq (D0:Fn):Fn:=Am PG (Qfp D0) 64 89 Qj3 Qew
theorem Zmz (D0:Fn) (x0:Rw):Qfq D0 [.view Ai x0]=
 (D0 [.view Ai x0]).bind fun o1=>
 bif gA o1 2 !=0 then
 some [I 0,I 0,I 0, .view Ah [], .view kPt [],jA o1 2]
 else
 some [jA o1 3,jA o1 4,jA o1 5, .view Ah (wA o1 0), .view kPt (wA o1 1),I 0]:=by kernel_rfl
def L6:=Qfq IR
theorem Zwt:Aj PG (Qfp IR):=Ao rfl ⟨Q5q,trivial⟩
theorem Zx8:Al PG (89,Ac Qj3 Qew L6):=rw1 (C:=(Qfp IR)) Zwt
def Qcv:Sk:=⟨[tf [CS.ptr 20000 0],tf [CS.sl Ai],tf [CS.bool]],[(20000,119,cS)],[]⟩
def XS:Sk:=⟨[tf [ci]],[(20000,119,cS)],[]⟩
def Zib (M:Fn):Nat×Spec:=(57,Ac Qcv XS M)
def VI (Mq FY Mc Nu:Fn):Cfg:={cf [Zvi Mq,Q4s FY,Zc8 Mc,Zks Nu]with fstore:=true}
def RN (Mq FY Mc Nu:Fn):Fn:=Am PG (VI Mq FY Mc Nu) 64 57 Qcv XS
theorem Q77 (Mq FY Mc Nu:Fn) (x0:Rw) (x1:Bool) (K:Kf) (c:Cv):RN Mq FY Mc Nu (.view Ai x0::B x1::Ad K c)=
 (Nu [.view Ai x0]).bind fun o4=>
 bif gA o4 5 !=0 then
 some (jA o4 5::Ad K c)
 else
 (Mc (AO K.x++[jA o4 0,jA o4 1,jA o4 2, .view Ah (wA o4 3), .view kPt (wA o4 4)])).bind fun o5=>
 bif !bA o5 0 then
 some (I 17::Ad K c)
 else
 bif(x0.length*176).ble 140737488355328 then
 (FY [jA o4 0,jA o4 1,jA o4 2, .view Ah (wA o4 3), .view kPt (wA o4 4)]).bind fun o6=>
 (Mq [.view Ai x0]).bind fun o7=>
 some (I 0::DV (Ad K c) [(35, .view Ai x0),(36,B x1),(37,jA o4 0),(38,jA o4 1),(39,jA o4 2),(40, .view Ah (wA o4 3)),(41, .view kPt (wA o4 4)),(42,jA o6 0),(43,jA o7 0)])
 else
 none:=by kernel_rfl
def R0:=RN Mi IV Qg L6
theorem Zy9:Aj PG (VI Mi IV Qg L6):=Ao rfl ⟨Zlr,Qy1,Zs8,Zx8,trivial⟩
theorem Znf:Al PG (57,Ac Qcv XS R0):=rw1 (C:=(VI Mi IV Qg L6)) Zy9
def Y2:Sk:=⟨[],[],[]⟩
def Wp:Sk:=⟨[TS.v true [ci,ci,CS.bool,CS.bool,CS.bool]],[],[]⟩
def Zqa (M:Fn):Nat×Spec:=(55,Ac Y2 Wp M)
def UD:Cfg:=cf []
def Qgi:Fn:=Am PG UD 64 55 Y2 Wp
theorem Zne:Qgi []=
 some [I 100,I 100,B false,B false,B false]:=by kernel_rfl
def OJ:=Qgi
theorem Zyt:Aj PG (UD):=Ao rfl trivial
theorem Zid:Al PG (55,Ac Y2 Wp OJ):=rw1 (C:=UD) Zyt
def US:Sk:=⟨[TS.v true (cc 9++[CS.sl Aa]++cc 9++[CS.sl Aa]++cc 9++[CS.sl Aa]++cc 5)],[],[]⟩
def VW:Sk:=⟨[TS.v true (cc 9++[CS.sl Aa]++cc 9++[CS.sl Aa]++cc 9++[CS.sl Aa]++cc 5)],[],[]⟩
def Zfg (M:Fn):Nat×Spec:=(54,Ac US VW M)
def TR:Cfg:={cf []with fstore:=true,unroll:=[2]}
def Yh:Fn:=Am PG TR 64 54 US VW
theorem Zeh (x0 x1 x2 x3 x4 x5 x6 x7 x8:Int) (x9:Rw) (x10 x11 x12 x13 x14 x15 x16 x17 x18:Int) (x19:Rw) (x20 x21 x22 x23 x24 x25 x26 x27 x28:Int) (x29:Rw) (x30 x31 x32 x33 x34:Int):Yh [I x0,I x1,I x2,I x3,I x4,I x5,I x6,I x7,I x8, .view Aa x9,I x10,I x11,I x12,I x13,I x14,I x15,I x16,I x17,I x18, .view Aa x19,I x20,I x21,I x22,I x23,I x24,I x25,I x26,I x27,I x28, .view Aa x29,I x30,I x31,I x32,I x33,I x34]=
 bif(x9.length*8).ble 140737488355328 then
 bif(x19.length*8).ble 140737488355328 then
 bif(x29.length*8).ble 140737488355328 then
 some [I x0,I x1,I x2,I x3,I x4,I x5,I x6,I x7,I x8, .view Aa x9,I x10,I x11,I x12,I x13,I x14,I x15,I x16,I x17,I x18, .view Aa x19,I x20,I x21,I x22,I x23,I x24,I x25,I x26,I x27,I x28, .view Aa x29,I x30,I x31,I x32,I x33,I x34]
 else
 none
 else
 none
 else
 none:=by kernel_rfl
def PS:=Yh
theorem Q8p:Aj PG (TR):=Ao rfl trivial
theorem Zm2:Al PG (54,Ac US VW PS):=rw1 (C:=TR) Q8p
def Um:Sk:=⟨[TS.v true (cc 9++[CS.sl Aa])],[],[]⟩
def Qkp:Sk:=⟨[tf [CS.bool]],[],[]⟩
def Zwx (M:Fn):Nat×Spec:=(141,Ac Um Qkp M)
def Qmm (BH:Fn):Cfg:=cf [Qgg BH]
def Qpo:Sk:=⟨[td,tf [CS.ptr 1 0]]++dd 24++[tf [CS.sl Aa],tf [ci],tf [ci]]++dd 29,[(1,26,cc 9++[CS.sl Aa])],[]⟩
def Q2o:List (Ex×Sk):=[(Ex.ret,⟨[td,td,tf [CS.bool]]++dd 55,[],[]⟩),(Ex.exit 0,⟨[td]++dd 57,[],[]⟩)]
def ZY (BH:Fn):Lp:=A4 PG (Qmm BH) 64 6 (A0 PG 141 6) Qpo Q2o
def Qts (BH:Fn) (N6:Lp):Cfg:=(Qmm BH).loop 6 Qpo Q2o N6
def Xo (BH:Fn) (N6:Lp):Fn:=Am PG (Qts BH N6) 64 141 Um Qkp
theorem Zs0 (BH:Fn) (v0:Rw) (v1 v2 v3 v4 v5 v6 v7 v8 v9 v10 v11:Int) (v12:Rw):ZY BH [.view Aa v0,I v1,I v2,I v3,I v4,I v5,I v6,I v7,I v8,I v9,I v10,I v11, .view Aa v12]=
 bif decide (v2<v1)then
 bif decide (0<=v2)&&decide (v2<(v0.length:Int))then
 (BH [jA (nth [] v0 v2.toNat) 0,I (-4096),I 4096]).bind fun o7=>
 bif !bA o7 0 then
 some (1,[B false])
 else
 bif decide (v2>0)then
 bif decide (0<=wrap .i64 (v2-1))&&decide (wrap .i64 (v2-1)<(v12.length:Int))then
 (BH [I (wrap .i64 (gA (nth [] v0 v2.toNat) 0-gA (nth [] v12 (wrap .i64 (v2-1)).toNat) 0)),I (wrap .i64 (0-wrap .i64 (v11.tdiv 4))),I (wrap .i64 (v11.tdiv 4))]).bind fun o8=>
 bif !bA o8 0 then
 some (1,[B false])
 else
 some (0,[.view Aa v0,I v1,I (wrap .i64 (v2+1)),I v3,I v4,I v5,I v6,I v7,I v8,I v9,I v10,I v11, .view Aa v12])
 else
 none
 else
 some (0,[.view Aa v0,I v1,I (wrap .i64 (v2+1)),I v3,I v4,I v5,I v6,I v7,I v8,I v9,I v10,I v11, .view Aa v12])
 else
 none
 else
 some (2,[]):=by kernel_rfl
theorem Zem (BH:Fn) (N6:Lp) (x0 x1 x2 x3 x4 x5 x6 x7 x8:Int) (x9:Rw):Xo BH N6 [I x0,I x1,I x2,I x3,I x4,I x5,I x6,I x7,I x8, .view Aa x9]=
 bif(x9.length:Int)==0 then
 some [B true]
 else
 bif decide ((x9.length:Int)>64)then
 some [B false]
 else
 (BH [I x7,I (-16777216),I 16777216]).bind fun o9=>
 bif !bA o9 0 then
 some [B false]
 else
 (BH [I x8,I 4,I 16777216]).bind fun o10=>
 bif !bA o10 0 then
 some [B false]
 else
 (N6 [.view Aa x9,I (x9.length:Int),I 0,I x0,I x1,I x2,I x3,I x4,I x5,I x6,I x7,I x8, .view Aa x9]).bind fun o11=>
 bif o11.1.beq 1 then
 some [B (bA o11.2 0)]
 else
 bif o11.1.beq 2 then
 some [B true]
 else
 none:=by kernel_rfl
def Qwo:=An (ZY Gv)
def O6:=Xo Gv Qwo
theorem Qus:Aj PG (Qmm Gv):=Ao rfl ⟨VS,trivial⟩
theorem Q9n:Al PG (141,Ac Um Qkp O6):=rw2 (C:=(Qts Gv Qwo)) (fl fb Qus) Qus
def Qmf:Sk:=⟨[TS.v true (cc 9++[CS.sl Aa])],[],[]⟩
def Qdj:Sk:=⟨[tf [CS.bool]],[],[]⟩
def Zfk (M:Fn):Nat×Spec:=(86,Ac Qmf Qdj M)
def Qag (Mb BH:Fn):Cfg:=cf [Zwx Mb,Qgg BH]
def Qhi (Mb BH:Fn):Fn:=Am PG (Qag Mb BH) 64 86 Qmf Qdj
theorem Zir (Mb BH:Fn) (x0 x1 x2 x3 x4 x5 x6 x7 x8:Int) (x9:Rw):Qhi Mb BH [I x0,I x1,I x2,I x3,I x4,I x5,I x6,I x7,I x8, .view Aa x9]=
 (BH [I x0,I 4,I 4096]).bind fun o6=>
 bif bA o6 0 then
 (BH [I x1,I 1,I 1048576]).bind fun o7=>
 bif bA o7 0 then
 (BH [I x2,I 2,I 1048576]).bind fun o8=>
 bif bA o8 0 then
 (BH [I x3,I 4,I 1048576]).bind fun o9=>
 bif decide (x4>= -16777216)then
 bif decide (x5<=16777216)then
 bif bA o9 0 then
 bif decide (x4<=x5)then
 (BH [I x6,I 0,I 64]).bind fun o10=>
 bif bA o10 0 then
 (Mb [I x0,I x1,I x2,I x3,I x4,I x5,I x6,I x7,I x8, .view Aa x9]).bind fun o11=>
 some [B (bA o11 0)]
 else
 some [B false]
 else
 some [B false]
 else
 some [B false]
 else
 bif bA o9 0 then
 some [B false]
 else
 some [B false]
 else
 bif bA o9 0 then
 some [B false]
 else
 some [B false]
 else
 bif decide (x4>= -16777216)then
 bif decide (x5<=16777216)then
 some [B false]
 else
 some [B false]
 else
 some [B false]
 else
 bif decide (x4>= -16777216)then
 bif decide (x5<=16777216)then
 some [B false]
 else
 some [B false]
 else
 some [B false]
 else
 bif decide (x4>= -16777216)then
 bif decide (x5<=16777216)then
 some [B false]
 else
 some [B false]
 else
 some [B false]:=by kernel_rfl
def PI:=Qhi O6 Gv
theorem Zjx:Aj PG (Qag O6 Gv):=Ao rfl ⟨Q9n,VS,trivial⟩
theorem Zhw:Al PG (86,Ac Qmf Qdj PI):=rw1 (C:=(Qag O6 Gv)) Zjx
def Qgo:Sk:=⟨[TS.v true (cc 9++[CS.sl Aa]++cc 9++[CS.sl Aa]++cc 9++[CS.sl Aa]++cc 5)],[],[]⟩
def ZM:Sk:=⟨[tf [CS.bool]],[],[]⟩
def Zru (M:Fn):Nat×Spec:=(53,Ac Qgo ZM M)
def Xu (Df BQ JC:Fn):Cfg:={cf [Wz Df,Qe6 BQ,Zfk JC]with unroll:=[2]}
def UE (Df BQ JC:Fn):Fn:=Am PG (Xu Df BQ JC) 64 53 Qgo ZM
theorem Z1t (Df BQ JC:Fn) (x0 x1 x2 x3 x4 x5 x6 x7 x8:Int) (x9:Rw) (x10 x11 x12 x13 x14 x15 x16 x17 x18:Int) (x19:Rw) (x20 x21 x22 x23 x24 x25 x26 x27 x28:Int) (x29:Rw) (x30 x31 x32 x33 x34:Int):UE Df BQ JC [I x0,I x1,I x2,I x3,I x4,I x5,I x6,I x7,I x8, .view Aa x9,I x10,I x11,I x12,I x13,I x14,I x15,I x16,I x17,I x18, .view Aa x19,I x20,I x21,I x22,I x23,I x24,I x25,I x26,I x27,I x28, .view Aa x29,I x30,I x31,I x32,I x33,I x34]=
 (JC [I x0,I x1,I x2,I x3,I x4,I x5,I x6,I x7,I x8, .view Aa x9]).bind fun o5=>
 bif !bA o5 0 then
 some [B false]
 else
 (JC [I x10,I x11,I x12,I x13,I x14,I x15,I x16,I x17,I x18, .view Aa x19]).bind fun o6=>
 bif !bA o6 0 then
 some [B false]
 else
 (JC [I x20,I x21,I x22,I x23,I x24,I x25,I x26,I x27,I x28, .view Aa x29]).bind fun o7=>
 bif !bA o7 0 then
 some [B false]
 else
 (BQ [I x30,I x31,I x32]).bind fun o8=>
 bif bA o8 0 then
 bif decide (x33>=1)then
 (Df [I 30000]).bind fun o9=>
 bif decide (x33<=gA o9 0)then
 bif decide (x34>=0)then
 some [B (decide (x34<=1048576))]
 else
 some [B false]
 else
 some [B false]
 else
 some [B false]
 else
 some [B false]:=by kernel_rfl
def O2:=UE EZ EL PI
theorem Zrb:Aj PG (Xu EZ EL PI):=Ao rfl ⟨Vk,Qiq,Zhw,trivial⟩
theorem Z0w:Al PG (53,Ac Qgo ZM O2):=rw1 (C:=(Xu EZ EL PI)) Zrb
def Qhs:Sk:=⟨[TS.v true (cc 9++[CS.sl Aa]++cc 9++[CS.sl Aa]++cc 9++[CS.sl Aa]++cc 5),tf [CS.sl Ai],tf [CS.bool]],[],[]⟩
def Qeg:Sk:=⟨[TS.tup [(false,[CS.ptr 19 0]),(false,[ci])]],[(19,119,cS)],[]⟩
def Q32 (M:Fn):Nat×Spec:=(20,Ac Qhs Qeg M)
def Qbz (FU Oh Oz FV NI M9 NU:Fn):Cfg:={cp [Qoe FU,Zin Oh,Zib Oz,Qs9 FV,Zqa NI,Zfg M9,Zru NU] [57]with fstore:=true}
def S4 (FU Oh Oz FV NI M9 NU:Fn):Fn:=Am PG (Qbz FU Oh Oz FV NI M9 NU) 64 20 Qhs Qeg
theorem Zbk (FU Oh Oz FV NI M9 NU:Fn) (x0 x1 x2 x3 x4 x5 x6 x7 x8:Int) (x9:Rw) (x10 x11 x12 x13 x14 x15 x16 x17 x18:Int) (x19:Rw) (x20 x21 x22 x23 x24 x25 x26 x27 x28:Int) (x29:Rw) (x30 x31 x32 x33 x34:Int) (x35:Rw) (x36:Bool):S4 FU Oh Oz FV NI M9 NU [I x0,I x1,I x2,I x3,I x4,I x5,I x6,I x7,I x8, .view Aa x9,I x10,I x11,I x12,I x13,I x14,I x15,I x16,I x17,I x18, .view Aa x19,I x20,I x21,I x22,I x23,I x24,I x25,I x26,I x27,I x28, .view Aa x29,I x30,I x31,I x32,I x33,I x34, .view Ai x35,B x36]=
 (NU [I x0,I x1,I x2,I x3,I x4,I x5,I x6,I x7,I x8, .view Aa x9,I x10,I x11,I x12,I x13,I x14,I x15,I x16,I x17,I x18, .view Aa x19,I x20,I x21,I x22,I x23,I x24,I x25,I x26,I x27,I x28, .view Aa x29,I x30,I x31,I x32,I x33,I x34]).bind fun o7=>
 bif !bA o7 0 then
 none
 else
 (M9 [I x0,I x1,I x2,I x3,I x4,I x5,I x6,I x7,I x8, .view Aa x9,I x10,I x11,I x12,I x13,I x14,I x15,I x16,I x17,I x18, .view Aa x19,I x20,I x21,I x22,I x23,I x24,I x25,I x26,I x27,I x28, .view Aa x29,I x30,I x31,I x32,I x33,I x34]).bind fun o8=>
 (NI []).bind fun o9=>
 (FV []).bind fun o10=>
 (Oz [.view Ai x35,B x36,jA o8 0,jA o8 1,jA o8 2,jA o8 3,jA o8 4,jA o8 5,jA o8 6,jA o8 7,jA o8 8, .view Aa (wA o8 9),jA o8 10,jA o8 11,jA o8 12,jA o8 13,jA o8 14,jA o8 15,jA o8 16,jA o8 17,jA o8 18, .view Aa (wA o8 19),jA o8 20,jA o8 21,jA o8 22,jA o8 23,jA o8 24,jA o8 25,jA o8 26,jA o8 27,jA o8 28, .view Aa (wA o8 29),jA o8 30,jA o8 31,jA o8 32,jA o8 33,jA o8 34, .view Ai [],B false,I 0,I 0,I 0, .view Ah [], .view kPt [],I 0,I 0, .view As [],I 0,I 0,I 0,I 0,I 0,I 0,I 0,I 0,I 0,I 0,I 0,jA o9 0,jA o9 1,B (bA o9 2),B (bA o9 3),B (bA o9 4),jA o10 0,jA o10 1,jA o10 2,I 1,I 0,I 0,I 0,I 0,I 0,I 0,I 0,I 0,B false,I 0,B false,I 0,B false,I 0,I (-1),I 0,I 0,I 0,I 0,I 0,I 0,I 0,B false,B false,B false]).bind fun o11=>
 bif gA o11 0 !=0 then
 none
 else
 (Oh [jA o11 38,jA o11 39,jA o11 40, .view Ah (wA o11 41), .view kPt (wA o11 42),jA o11 1,jA o11 2,jA o11 3,jA o11 4,jA o11 5,jA o11 6,jA o11 7,jA o11 8,jA o11 9, .view Aa (wA o11 10),jA o11 11,jA o11 12,jA o11 13,jA o11 14,jA o11 15,jA o11 16,jA o11 17,jA o11 18,jA o11 19, .view Aa (wA o11 20),jA o11 21,jA o11 22,jA o11 23,jA o11 24,jA o11 25,jA o11 26,jA o11 27,jA o11 28,jA o11 29, .view Aa (wA o11 30),I 1,I 1,I 1,I 0,jA o11 43]).bind fun o12=>
 (FU [I 0]).bind fun o13=>
 some (I 0::DV (cR 1 o11) [(44, .view As (wA o12 0)),(45,jA o12 1),(46,jA o12 2),(47,jA o12 3),(48,jA o12 4),(49,jA o12 5),(50,jA o13 0),(51,jA o13 1),(52,jA o13 2),(53,jA o13 3),(54,jA o13 4),(55,jA o13 5)]):=by kernel_rfl
def GG:=S4 Jd PC R0 Kg OJ PS O2
theorem Zso:Aj PG (Qbz Jd PC R0 Kg OJ PS O2):=Ao rfl ⟨Qwz,Zc7,Znf,Q5e,Zid,Zm2,Z0w,trivial⟩
theorem Q7e:Al PG (20,Ac Qhs Qeg GG):=rw1 (C:=(Qbz Jd PC R0 Kg OJ PS O2)) Zso
def Qk6:Sk:=⟨[tf [ci],tf [ci]],[],[]⟩
def Qif:Sk:=⟨[tf [ci]],[],[]⟩
def Z1s (M:Fn):Nat×Spec:=(17,Ac Qk6 Qif M)
def Zq:Cfg:=cf []
def Qor:Fn:=Am PG Zq 64 17 Qk6 Qif
theorem Zef (x0 x1:Int):Qor [I x0,I x1]=
 bif decide (x1=0)then
 none
 else
 bif decide (x1=0)then
 none
 else
 some [I ((wrap .i64 (x0.tmod x1+x1)).tmod x1)]:=by kernel_rfl
def Mh:=Qor
theorem Z0b:Aj PG (Zq):=Ao rfl trivial
theorem Zpf:Al PG (17,Ac Qk6 Qif Mh):=rw1 (C:=Zq) Z0b
def T4:Sk:=⟨[tf [CS.ptr 20000 0],tf [ci]],[(20000,103,[CS.sl Aa,ci])],[]⟩
def WI:Sk:=⟨[tf [ci]],[(20000,103,[CS.sl Aa,ci])],[]⟩
def Lm (M:Fn):Nat×Spec:=(48,Ac T4 WI M)
def Z8 (Na:Fn):Cfg:=cf [Z1s Na]
def Qbf (Na:Fn):Fn:=Am PG (Z8 Na) 64 48 T4 WI
theorem Z2k (Na:Fn) (x0:Int) (x1:Rw) (x2:Int):Qbf Na [I x0, .view Aa x1,I x2]=
 bif decide (x2>=(x1.length:Int))then
 some [I 0, .view Aa x1,I x2]
 else
 bif decide (0<=x2)&&decide (x2<(x1.length:Int))then
 (Na [jA (nth [] x1 x2.toNat) 0,I x0]).bind fun o1=>
 some [jA o1 0, .view Aa x1,I (wrap .i64 (x2+1))]
 else
 none:=by kernel_rfl
def Cj:=Qbf Mh
theorem Zst:Aj PG (Z8 Mh):=Ao rfl ⟨Zpf,trivial⟩
theorem KU:Al PG (48,Ac T4 WI Cj):=rw1 (C:=(Z8 Mh)) Zst
abbrev Q87 (At:Fn) (o9:List AC) (x0:Int) (h1_0:AC):Option (List AC):=
 (At [h1_0, .view Aa (wA o9 1),jA o9 2]).bind fun o10=>
 some [I x0,I (Af (nth .dead (nth [] [[I 4],[I 1],[I 2],[I 3],[I 4],[I 5],[I 6],[I 7],[I 4],[I 8],[I 9],[I 11],[I 12],[I 13],[I 10]] (gA o9 0).toNat) 0)),I (wrap .i64 (gA o10 0-5)), .view Aa (wA o10 1),jA o10 2]
attribute [go_sem] Q87
def XW:Sk:=⟨[tf [CS.ptr 20000 0]],[(20000,103,[CS.sl Aa,ci])],[]⟩
def Qhx:Sk:=⟨[tf [CS.bool]],[(20000,103,[CS.sl Aa,ci])],[]⟩
def Z0o (M:Fn):Nat×Spec:=(49,Ac XW Qhx M)
def Qfb:Cfg:=cf []
def Qq6:Fn:=Am PG Qfb 64 49 XW Qhx
theorem Zet (x0:Rw) (x1:Int):Qq6 [.view Aa x0,I x1]=
 some [B (decide (x1<(x0.length:Int))), .view Aa x0,I x1]:=by kernel_rfl
def Kh:=Qq6
theorem Zy2:Aj PG (Qfb):=Ao rfl trivial
theorem Zbg:Al PG (49,Ac XW Qhx Kh):=rw1 (C:=Qfb) Zy2
def TU:Sk:=⟨[tf [CS.sl Aa]],[],[]⟩
def Zr:Sk:=⟨[tf [CS.ptr 5 0]],[(5,103,[CS.sl Aa,ci])],[]⟩
def QJ (M:Fn):Nat×Spec:=(45,Ac TU Zr M)
def Qki:Cfg:=cf []
def Qxr:Fn:=Am PG Qki 64 45 TU Zr
theorem Zhd (x0:Rw):Qxr [.view Aa x0]=
 some [.view Aa x0,I 0]:=by kernel_rfl
def DA:=Qxr
theorem Zee:Aj PG (Qki):=Ao rfl trivial
theorem SA:Al PG (45,Ac TU Zr DA):=rw1 (C:=Qki) Zee
def Qab:Sk:=⟨[tf [ci],tf [ci],tf [ci],tf [ci]],[],[]⟩
def Qah:Sk:=⟨[TS.v true [ci,ci,ci]],[],[]⟩
def Zq3 (M:Fn):Nat×Spec:=(139,Ac Qab Qah M)
def Zp:Cfg:=cf []
def Qr7:Fn:=Am PG Zp 64 139 Qab Qah
theorem Zbm (x0 x1 x2 x3:Int):Qr7 [I x0,I x1,I x2,I x3]=
 bif x3==17 then
 some [I x0,I x1,I x2]
 else
 bif x3==18 then
 some [I x1,I x2,I x0]
 else
 bif x3==19 then
 some [I x2,I x0,I x1]
 else
 some [I 0,I 0,I 0]:=by kernel_rfl
def NZ:=Qr7
theorem Zdj:Aj PG (Zp):=Ao rfl trivial
theorem Zsb:Al PG (139,Ac Qab Qah NZ):=rw1 (C:=Zp) Zdj
def Vq:Sk:=⟨[tf [ci],tf [ci]],[],[]⟩
def Qfs:Sk:=⟨[TS.tup [(false,[ci]),(false,[ci])]],[],[]⟩
def Zab (M:Fn):Nat×Spec:=(138,Ac Vq Qfs M)
def Z9:Cfg:=cf []
def Qoz:Fn:=Am PG Z9 64 138 Vq Qfs
theorem Zm1 (x0 x1:Int):Qoz [I x0,I x1]=
 bif decide (0<=x1.tmod 4)&&decide (x1.tmod 4<(↑[[I x0],[I 0],[I (wrap .i64 (0-x0))],[I 0]].length:Int))then
 bif decide (0<=x1.tmod 4)&&decide (x1.tmod 4<(↑[[I 0],[I x0],[I 0],[I (wrap .i64 (0-x0))]].length:Int))then
 some [I (Af (nth .dead (nth [] [[I x0],[I 0],[I (wrap .i64 (0-x0))],[I 0]] (x1.tmod 4).toNat) 0)),I (Af (nth .dead (nth [] [[I 0],[I x0],[I 0],[I (wrap .i64 (0-x0))]] (x1.tmod 4).toNat) 0))]
 else
 none
 else
 none:=by kernel_rfl
def Oi:=Qoz
theorem Zgq:Aj PG (Z9):=Ao rfl trivial
theorem Zeg:Al PG (138,Ac Vq Qfs Oi):=rw1 (C:=Z9) Zgq
def Qg4:Sk:=⟨[TS.v true [ci,ci,ci],tf [ci]],[],[]⟩
def Qe2:Sk:=⟨[TS.tup [(false,[ci]),(false,[ci]),(false,[ci])]],[],[]⟩
def Q9h (M:Fn):Nat×Spec:=(137,Ac Qg4 Qe2 M)
def Qjo:Cfg:=cf []
def Qpx:Fn:=Am PG Qjo 64 137 Qg4 Qe2
theorem Zhz (x0 x1 x2 x3:Int):Qpx [I x0,I x1,I x2,I x3]=
 bif x3==17 then
 some [I x0,I x1,I x2]
 else
 bif x3==18 then
 some [I x2,I x0,I x1]
 else
 bif x3==19 then
 some [I x1,I x2,I x0]
 else
 some [I 0,I 0,I 0]:=by kernel_rfl
def M8:=Qpx
theorem Zd3:Aj PG (Qjo):=Ao rfl trivial
theorem Zk6:Al PG (137,Ac Qg4 Qe2 M8):=rw1 (C:=Qjo) Zd3
def Zd:Sk:=⟨[tf [CS.ptr 20000 0],TS.v true [ci,ci,ci],tf [ci]],[(20000,103,[CS.sl Aa,ci])],[]⟩
def ZU:Sk:=⟨[TS.v true (cc 13++[CS.bool,ci,CS.bool]++cc 5++[CS.bool])],[(20000,103,[CS.sl Aa,ci])],[]⟩
def Zgk (M:Fn):Nat×Spec:=(85,Ac Zd ZU M)
def Qb4 (G6 Kx Np At:Fn):Cfg:=cp [Zq3 G6,Zab Kx,Q9h Np,Lm At] [48]
def Yu (G6 Kx Np At:Fn):Fn:=Am PG (Qb4 G6 Kx Np At) 64 85 Zd ZU
abbrev Tf (At G6:Fn) (o23 o18:List AC) (x0 x1 x2:Int) (o26 o19 o22:List AC) (h1_0 h1_1 h1_2 h1_3:AC):Option (List AC):=
 (At [I 4,h1_0,h1_1]).bind fun o30=>
 bif decide (0<=gA o30 0)&&decide (gA o30 0<(↑[[I 0],[I 0],[I 7],[I (-12)]].length:Int))then
 (G6 [h1_2,h1_3,I (wrap .i64 (gA o23 2+Af (nth .dead (nth [] [[I 0],[I 0],[I 7],[I (-12)]] (gA o30 0).toNat) 0))),I (Af (nth .dead (nth [] [[I 17],[I 18],[I 19]] (gA o18 0).toNat) 0))]).bind fun o31=>
 some [I 3,I 0,I x0,I x1,I x2,jA o31 0,jA o31 1,jA o31 2,I (Af (nth .dead (nth [] [[I 17],[I 18],[I 19]] (gA o18 0).toNat) 0)),jA o26 0,jA o26 1,jA o26 2,I (wrap .i64 (1-wrap .i64 (gA o19 0*2))),B (gA o22 0==0),I 0,B false,I 0,I 0,I 0,I 0,I 0,B false, .view Aa (wA o30 1),jA o30 2]
 else
 none
attribute [go_sem] Tf
theorem Zt4 (G6 Kx Np At:Fn) (x0 x1 x2 x3:Int) (x4:Rw) (x5:Int):Yu G6 Kx Np At [I x0,I x1,I x2,I x3, .view Aa x4,I x5]=
 (At [I 3, .view Aa x4,I x5]).bind fun o18=>
 bif decide (0<=gA o18 0)&&decide (gA o18 0<(↑[[I 17],[I 18],[I 19]].length:Int))then
 (At [I 2, .view Aa (wA o18 1),jA o18 2]).bind fun o19=>
 (At [I x3, .view Aa (wA o19 1),jA o19 2]).bind fun o20=>
 (At [I 4, .view Aa (wA o20 1),jA o20 2]).bind fun o21=>
 (At [I 4, .view Aa (wA o21 1),jA o21 2]).bind fun o22=>
 (Np [I x0,I x1,I x2,I (Af (nth .dead (nth [] [[I 17],[I 18],[I 19]] (gA o18 0).toNat) 0))]).bind fun o23=>
 (Kx [I (wrap .i64 (8+gA o20 0)),jA o21 0]).bind fun o24=>
 (Kx [I (wrap .i64 (8+gA o20 0)),I (wrap .i64 (gA o21 0+gA o22 0))]).bind fun o25=>
 (G6 [I (wrap .i64 (gA o23 0-gA o24 0)),I (wrap .i64 (gA o23 1-gA o24 1)),jA o23 2,I (Af (nth .dead (nth [] [[I 17],[I 18],[I 19]] (gA o18 0).toNat) 0))]).bind fun o26=>
 bif decide (gA o22 0>0)then
 (At [I 3, .view Aa (wA o22 1),jA o22 2]).bind fun o27=>
 bif gA o27 0==0 then
 bif decide (wrap .i64 (8+gA o20 0)=0)then
 none
 else
 (At [I 5, .view Aa (wA o27 1),jA o27 2]).bind fun o28=>
 bif decide (wrap .i64 (8+gA o20 0)=0)then
 none
 else
 (At [I 5, .view Aa (wA o28 1),jA o28 2]).bind fun o29=>
 Tf At G6 o23 o18 x0 x1 x2 o26 o19 o22 (.view Aa (wA o29 1)) (jA o29 2) (I (wrap .i64 (wrap .i64 (gA o23 0-gA o24 0)+wrap .i64 (gA o25 0+wrap .i64 (wrap .i64 ((gA o25 0).tdiv (wrap .i64 (8+gA o20 0)))*gA o28 0))))) (I (wrap .i64 (wrap .i64 (gA o23 1-gA o24 1)+wrap .i64 (gA o25 1+wrap .i64 (wrap .i64 ((gA o25 1).tdiv (wrap .i64 (8+gA o20 0)))*gA o29 0)))))
 else
 Tf At G6 o23 o18 x0 x1 x2 o26 o19 o22 (.view Aa (wA o27 1)) (jA o27 2) (I (wrap .i64 (wrap .i64 (gA o23 0-gA o24 0)+gA o25 0))) (I (wrap .i64 (wrap .i64 (gA o23 1-gA o24 1)+gA o25 1)))
 else
 Tf At G6 o23 o18 x0 x1 x2 o26 o19 o22 (.view Aa (wA o22 1)) (jA o22 2) (I (wrap .i64 (wrap .i64 (gA o23 0-gA o24 0)+gA o25 0))) (I (wrap .i64 (wrap .i64 (gA o23 1-gA o24 1)+gA o25 1)))
 else
 none:=by kernel_rfl
def PW:=Yu NZ Oi M8 Cj
theorem Zdv:Aj PG (Qb4 NZ Oi M8 Cj):=Ao rfl ⟨Zsb,Zeg,Zk6,KU,trivial⟩
theorem Ztn:Al PG (85,Ac Zd ZU PW):=rw1 (C:=(Qb4 NZ Oi M8 Cj)) Zdv
def VU:Sk:=⟨[tf [CS.ptr 20000 0],TS.v true [ci,ci,ci],tf [ci]],[(20000,103,[CS.sl Aa,ci])],[]⟩
def Qgw:Sk:=⟨[TS.v true (cc 13++[CS.bool,ci,CS.bool]++cc 5++[CS.bool])],[(20000,103,[CS.sl Aa,ci])],[]⟩
def Q7j (M:Fn):Nat×Spec:=(51,Ac VU Qgw M)
def Qb6 (At Ml:Fn):Cfg:=cp [Lm At,Zgk Ml] [48,85]
def Y8 (At Ml:Fn):Fn:=Am PG (Qb6 At Ml) 64 51 VU Qgw
abbrev Xz (At:Fn) (o20:List AC) (x3:Int) (h1_0 h1_1 h1_2 h1_3 h1_4 h1_5 h1_6 h1_7 h1_8 h1_9 h1_10 h1_11 h1_12 h1_13 h1_16 h1_17 h1_20 h1_21:AC):Option (List AC):=
 (At [I 60, .view Aa (wA o20 1),jA o20 2]).bind fun o21=>
 bif x3==6 then
 (At [I 2, .view Aa (wA o21 1),jA o21 2]).bind fun o22=>
 some [h1_0,h1_1,h1_2,h1_3,h1_4,h1_5,h1_6,h1_7,h1_8,h1_9,h1_10,h1_11,h1_12,h1_13,I (wrap .i64 (1+gA o21 0)),B true,h1_16,h1_17,I 0,I (wrap .i64 (3+gA o22 0)),h1_20,h1_21, .view Aa (wA o22 1),jA o22 2]
 else
 some [h1_0,h1_1,h1_2,h1_3,h1_4,h1_5,h1_6,h1_7,h1_8,h1_9,h1_10,h1_11,h1_12,h1_13,I (wrap .i64 (1+gA o21 0)),B true,h1_16,h1_17,I 0,I 0,h1_20,h1_21, .view Aa (wA o21 1),jA o21 2]
attribute [go_sem] Xz
abbrev XX (x3:Int) (At:Fn) (h1_0 h1_1 h1_2 h1_3 h1_4 h1_5 h1_6 h1_7 h1_8 h1_9 h1_10 h1_11 h1_12 h1_13 h1_14 h1_15 h1_16 h1_17 h1_18 h1_19 h1_20 h1_21 h1_22 h1_23:AC):Option (List AC):=
 bif x3==1 then
 some [h1_0,h1_1,h1_2,h1_3,h1_4,h1_5,h1_6,h1_7,h1_8,h1_9,h1_10,h1_11,h1_12,h1_13,h1_14,h1_15,h1_16,h1_17,h1_18,h1_19,h1_20,h1_21,h1_22,h1_23]
 else
 (At [I 5,h1_22,h1_23]).bind fun o19=>
 bif decide (0<=gA o19 0)&&decide (gA o19 0<(↑[[I 300000],[I 1],[I 60000],[I 2000000],[I 60000000]].length:Int))then
 (At [I 5, .view Aa (wA o19 1),jA o19 2]).bind fun o20=>
 bif decide (0<=gA o20 0)&&decide (gA o20 0<(↑[[I 0],[I 1],[I 2],[I 4],[I 9]].length:Int))then
 bif x3==5 then
 Xz At o20 x3 h1_0 h1_1 h1_2 h1_3 h1_4 h1_5 h1_6 h1_7 h1_8 h1_9 h1_10 h1_11 h1_12 h1_13 h1_16 h1_17 h1_20 h1_21
 else
 bif x3==6 then
 Xz At o20 x3 h1_0 h1_1 h1_2 h1_3 h1_4 h1_5 h1_6 h1_7 h1_8 h1_9 h1_10 h1_11 h1_12 h1_13 h1_16 h1_17 h1_20 h1_21
 else
 bif x3==4 then
 some [h1_0,h1_1,h1_2,h1_3,h1_4,h1_5,h1_6,h1_7,h1_8,h1_9,h1_10,h1_11,h1_12,h1_13,I (Af (nth .dead (nth [] [[I 300000],[I 1],[I 60000],[I 2000000],[I 60000000]] (gA o19 0).toNat) 0)),h1_15,h1_16,h1_17,I 0,h1_19,h1_20,h1_21, .view Aa (wA o20 1),jA o20 2]
 else
 some [h1_0,h1_1,h1_2,h1_3,h1_4,h1_5,h1_6,h1_7,h1_8,h1_9,h1_10,h1_11,h1_12,h1_13,I (Af (nth .dead (nth [] [[I 300000],[I 1],[I 60000],[I 2000000],[I 60000000]] (gA o19 0).toNat) 0)),h1_15,h1_16,h1_17,I (Af (nth .dead (nth [] [[I 0],[I 1],[I 2],[I 4],[I 9]] (gA o20 0).toNat) 0)),h1_19,h1_20,h1_21, .view Aa (wA o20 1),jA o20 2]
 else
 none
 else
 none
attribute [go_sem] XX
theorem Q8w (At Ml:Fn) (x0 x1 x2 x3:Int) (x4:Rw) (x5:Int):Y8 At Ml [I x0,I x1,I x2,I x3, .view Aa x4,I x5]=
 bif x3==3 then
 (Ml [I x0,I x1,I x2,I 8, .view Aa x4,I x5]).bind fun o18=>
 XX x3 At (jA o18 0) (jA o18 1) (jA o18 2) (jA o18 3) (jA o18 4) (jA o18 5) (jA o18 6) (jA o18 7) (jA o18 8) (jA o18 9) (jA o18 10) (jA o18 11) (jA o18 12) (B (bA o18 13)) (jA o18 14) (B (bA o18 15)) (jA o18 16) (jA o18 17) (jA o18 18) (jA o18 19) (jA o18 20) (B (bA o18 21)) (.view Aa (wA o18 22)) (jA o18 23)
 else
 (At [I 25, .view Aa x4,I x5]).bind fun o25=>
 (At [I 25, .view Aa (wA o25 1),jA o25 2]).bind fun o26=>
 (At [I 3, .view Aa (wA o26 1),jA o26 2]).bind fun o27=>
 (At [I 9, .view Aa (wA o27 1),jA o27 2]).bind fun o28=>
 (At [I 2, .view Aa (wA o28 1),jA o28 2]).bind fun o29=>
 XX x3 At (I x3) (I 0) (I x0) (I x1) (I x2) (I (wrap .i64 (wrap .i64 (x0+gA o25 0)-12))) (I (wrap .i64 (wrap .i64 (x1+gA o26 0)-12))) (I (wrap .i64 (wrap .i64 (x2+wrap .i64 (gA o27 0*gA o28 0))-wrap .i64 (8*gA o29 0)))) (I 0) (I 0) (I 0) (I 0) (I 0) (B false) (I 0) (B false) (I 0) (I 0) (I 0) (I 0) (I 0) (B false) (.view Aa (wA o29 1)) (jA o29 2):=by kernel_rfl
def LR:=Y8 Cj PW
theorem Zr9:Aj PG (Qb6 Cj PW):=Ao rfl ⟨KU,Ztn,trivial⟩
theorem Z1h:Al PG (51,Ac VU Qgw LR):=rw1 (C:=(Qb6 Cj PW)) Zr9
def VV:Sk:=⟨[tf [CS.ptr 20000 0]],[(20000,103,[CS.sl Aa,ci])],[]⟩
def Qgk:Sk:=⟨[TS.v true (cc 13++[CS.bool,ci,CS.bool]++cc 5++[CS.bool])],[(20000,103,[CS.sl Aa,ci])],[]⟩
def Zyr (M:Fn):Nat×Spec:=(50,Ac VV Qgk M)
def Qfw (At:Fn):Cfg:=cp [Lm At] [48]
def Qiu (At:Fn):Fn:=Am PG (Qfw At) 64 50 VV Qgk
abbrev Xt (At:Fn) (o8:List AC):Option (List AC):=
 (At [I 16, .view Aa (wA o8 1),jA o8 2]).bind fun o9=>
 (At [I 2, .view Aa (wA o9 1),jA o9 2]).bind fun o10=>
 some [I 10,I 0,I 0,I 0,I 0,I 0,I 0,I 0,I 0,I 0,I 0,I 0,I 0,B false,I 0,B false,I 0,I 0,I 0,jA o9 0,I 0,B (gA o10 0==0), .view Aa (wA o10 1),jA o10 2]
attribute [go_sem] Xt
theorem Zma (At:Fn) (x0:Rw) (x1:Int):Qiu At [.view Aa x0,I x1]=
 (At [I 8, .view Aa x0,I x1]).bind fun o8=>
 bif gA o8 0==0 then
 Xt At o8
 else
 bif gA o8 0==1 then
 Xt At o8
 else
 bif gA o8 0==2 then
 (At [I 5, .view Aa (wA o8 1),jA o8 2]).bind fun o13=>
 some [I 7,I 0,I 0,I 0,I 0,I 0,I 0,I 0,I 0,I 0,I 0,I 0,I 0,B false,I 0,B false,I 0,I 0,I 0,jA o13 0,I 0,B false, .view Aa (wA o13 1),jA o13 2]
 else
 bif gA o8 0==3 then
 (At [I 3, .view Aa (wA o8 1),jA o8 2]).bind fun o14=>
 (At [I 4000, .view Aa (wA o14 1),jA o14 2]).bind fun o15=>
 some [I 8,I 0,I 0,I 0,I 0,I 0,I 0,I 0,I 0,I 0,I 0,I 0,I 0,B false,I 0,B false,I 0,I 0,I 0,I (wrap .i64 (3+gA o14 0)),jA o15 0,B false, .view Aa (wA o15 1),jA o15 2]
 else
 bif gA o8 0==4 then
 some [I 9,I 0,I 0,I 0,I 0,I 0,I 0,I 0,I 0,I 0,I 0,I 0,I 0,B false,I 0,B false,I 0,I 0,I 0,I 8,I 0,B true, .view Aa (wA o8 1),jA o8 2]
 else
 bif gA o8 0==5 then
 some [I 13,I 0,I 0,I 0,I 0,I 0,I 0,I 0,I 0,I 0,I 0,I 0,I 0,B false,I 0,B false,I 0,I 0,I 0,I 0,I 0,B false, .view Aa (wA o8 1),jA o8 2]
 else
 bif gA o8 0==6 then
 some [I 12,I 0,I 0,I 0,I 0,I 0,I 0,I 0,I 0,I 0,I 0,I 0,I 0,B false,I 0,B false,I 0,I 0,I 0,I 0,I 0,B false, .view Aa (wA o8 1),jA o8 2]
 else
 some [I 11,I 0,I 0,I 0,I 0,I 0,I 0,I 0,I 0,I 0,I 0,I 0,I 0,B false,I 0,B false,I 0,I 0,I 0,I 1,I 0,B false, .view Aa (wA o8 1),jA o8 2]:=by kernel_rfl
def KT:=Qiu Cj
theorem Zwi:Aj PG (Qfw Cj):=Ao rfl ⟨KU,trivial⟩
theorem Zbu:Al PG (50,Ac VV Qgk KT):=rw1 (C:=(Qfw Cj)) Zwi
def Qn5:Sk:=⟨[tf [CS.sl Aa],tf [ci],tf [CS.bool]],[],[]⟩
def Qmq:Sk:=⟨[tf [CS.sl Ai]],[],[]⟩
def Zuj (M:Fn):Nat×Spec:=(16,Ac Qn5 Qmq M)
def ZQ (GU G0 Gw At BI:Fn):Cfg:={cp [Q7j GU,Zyr G0,Z0o Gw,Lm At,QJ BI] [51,50,49,48,45]with prom:=fun b=>bif Nat.beq b 4 then [(8,74)]else []}
def Qpv:Sk:=⟨[td,tf [ci],tf [CS.bool],td,td,td,td,tf [CS.ptr 101300 0],tf [CS.own 8 22],tf [CS.ptr 9 0]]++dd 64,[(9,72,[ci,ci,ci]),(101300,103,[CS.sl Aa,ci])],[(8,74,Ai)]⟩
def Qt1:List (Ex×Sk):=[(Ex.exit 0,⟨[td,td,tf [CS.bool],td,td,td,td,td,tf [CS.own 8 22]]++dd 65,[],[(8,74,Ai)]⟩)]
def Qdk (GU G0 Gw At BI:Fn):Lp:=A4 PG (ZQ GU G0 Gw At BI) 64 4 (A0 PG 16 4) Qpv Qt1
def Qsh (GU G0 Gw At BI:Fn) (N4:Lp):Cfg:=(ZQ GU G0 Gw At BI).loop 4 Qpv Qt1 N4
def YD (GU G0 Gw At BI:Fn) (N4:Lp):Fn:=Am PG (Qsh GU G0 Gw At BI N4) 64 16 Qn5 Qmq
theorem Zyv (GU G0 Gw At BI:Fn) (v0:Rw) (v1:Int) (v2:Bool) (v3 v4 v5:Int) (v6:Rw) (v7:Int):Qdk GU G0 Gw At BI [.view Ai v0,I v1,B v2,I v3,I v4,I v5, .view Aa v6,I v7]=
 bif decide ((v0.length:Int)<v1)then
 (Gw [.view Aa v6,I v7]).bind fun o25=>
 bif bA o25 0 then
 (At [I 12, .view Aa (wA o25 1),jA o25 2]).bind fun o26=>
 bif decide (gA o26 0<4)then
 (G0 [.view Aa (wA o26 1),jA o26 2]).bind fun o27=>
 bif((v0++[[jA o27 0,jA o27 1,jA o27 2,jA o27 3,jA o27 4,jA o27 5,jA o27 6,jA o27 7,jA o27 8,jA o27 9,jA o27 10,jA o27 11,jA o27 12,B (bA o27 13),jA o27 14,B (bA o27 15),jA o27 16,jA o27 17,jA o27 18,jA o27 19,jA o27 20,B (bA o27 21)]]).length*176).ble 140737488355328 then
 some (0,[.view Ai (v0++[[jA o27 0,jA o27 1,jA o27 2,jA o27 3,jA o27 4,jA o27 5,jA o27 6,jA o27 7,jA o27 8,jA o27 9,jA o27 10,jA o27 11,jA o27 12,B (bA o27 13),jA o27 14,B (bA o27 15),jA o27 16,jA o27 17,jA o27 18,jA o27 19,jA o27 20,B (bA o27 21)]]),I v1,B v2,I v3,I v4,I v5, .view Aa (wA o27 22),jA o27 23])
 else
 none
 else
 bif decide (0<=wrap .i64 (gA o26 0-4))&&decide (wrap .i64 (gA o26 0-4)<(↑[[I 2],[I 2],[I 2],[I 3],[I 1],[I 6],[I 5],[I 4]].length:Int))then
 (GU [I v3,I v4,I v5,I (Af (nth .dead (nth [] [[I 2],[I 2],[I 2],[I 3],[I 1],[I 6],[I 5],[I 4]] (wrap .i64 (gA o26 0-4)).toNat) 0)), .view Aa (wA o26 1),jA o26 2]).bind fun o28=>
 bif gA o28 0==5 then
 (At [I 2, .view Aa (wA o28 22),jA o28 23]).bind fun o29=>
 (At [I 3000, .view Aa (wA o29 1),jA o29 2]).bind fun o30=>
 bif((v0++[[I 8,I 0,I 0,I 0,I 0,I 0,I 0,I 0,I 0,I 0,I 0,I 0,I 0,B false,I 0,B false,I 0,I 0,I 0,I (wrap .i64 (3+gA o29 0)),I (wrap .i64 (200+gA o30 0)),B false]]).length*176).ble 140737488355328 then
 bif((v0++[[I 8,I 0,I 0,I 0,I 0,I 0,I 0,I 0,I 0,I 0,I 0,I 0,I 0,B false,I 0,B false,I 0,I 0,I 0,I (wrap .i64 (3+gA o29 0)),I (wrap .i64 (200+gA o30 0)),B false]]++[[jA o28 0,jA o28 1,jA o28 2,jA o28 3,jA o28 4,jA o28 5,jA o28 6,jA o28 7,jA o28 8,jA o28 9,jA o28 10,jA o28 11,jA o28 12,B (bA o28 13),jA o28 14,B (bA o28 15),jA o28 16,jA o28 17,jA o28 18,jA o28 19,jA o28 20,B (bA o28 21)]]).length*176).ble 140737488355328 then
 some (0,[.view Ai (v0++[[I 8,I 0,I 0,I 0,I 0,I 0,I 0,I 0,I 0,I 0,I 0,I 0,I 0,B false,I 0,B false,I 0,I 0,I 0,I (wrap .i64 (3+gA o29 0)),I (wrap .i64 (200+gA o30 0)),B false]]++[[jA o28 0,jA o28 1,jA o28 2,jA o28 3,jA o28 4,jA o28 5,jA o28 6,jA o28 7,jA o28 8,jA o28 9,jA o28 10,jA o28 11,jA o28 12,B (bA o28 13),jA o28 14,B (bA o28 15),jA o28 16,jA o28 17,jA o28 18,jA o28 19,jA o28 20,B (bA o28 21)]]),I v1,B v2,jA o28 5,jA o28 6,jA o28 7, .view Aa (wA o30 1),jA o30 2])
 else
 none
 else
 none
 else
 bif((v0++[[jA o28 0,jA o28 1,jA o28 2,jA o28 3,jA o28 4,jA o28 5,jA o28 6,jA o28 7,jA o28 8,jA o28 9,jA o28 10,jA o28 11,jA o28 12,B (bA o28 13),jA o28 14,B (bA o28 15),jA o28 16,jA o28 17,jA o28 18,jA o28 19,jA o28 20,B (bA o28 21)]]).length*176).ble 140737488355328 then
 some (0,[.view Ai (v0++[[jA o28 0,jA o28 1,jA o28 2,jA o28 3,jA o28 4,jA o28 5,jA o28 6,jA o28 7,jA o28 8,jA o28 9,jA o28 10,jA o28 11,jA o28 12,B (bA o28 13),jA o28 14,B (bA o28 15),jA o28 16,jA o28 17,jA o28 18,jA o28 19,jA o28 20,B (bA o28 21)]]),I v1,B v2,jA o28 5,jA o28 6,jA o28 7, .view Aa (wA o28 22),jA o28 23])
 else
 none
 else
 none
 else
 some (1,[.view Ai v0,B v2])
 else
 some (1,[.view Ai v0,B v2]):=by kernel_rfl
theorem Zew (GU G0 Gw At BI:Fn) (N4:Lp) (x0:Rw) (x1:Int) (x2:Bool):YD GU G0 Gw At BI N4 [.view Aa x0,I x1,B x2]=
 (BI [.view Aa x0]).bind fun o31=>
 (At [I 9, .view Aa (wA o31 0),jA o31 1]).bind fun o32=>
 (At [I 9, .view Aa (wA o32 1),jA o32 2]).bind fun o33=>
 (At [I 9, .view Aa (wA o33 1),jA o33 2]).bind fun o34=>
 (N4 [.view Ai [],I x1,B x2,I (wrap .i64 (gA o32 0-4)),I (wrap .i64 (gA o33 0-4)),I (wrap .i64 (gA o34 0-4)), .view Aa (wA o34 1),jA o34 2]).bind fun o35=>
 bif o35.1.beq 1 then
 bif bA o35.2 1 then
 bif((wA o35.2 0++[[I 14,I 0,I 0,I 0,I 0,I 0,I 0,I 0,I 0,I 0,I 0,I 0,I 0,B false,I 0,B false,I 0,I 0,I 0,I 0,I 0,B false]]).length*176).ble 140737488355328 then
 some [.view Ai (wA o35.2 0++[[I 14,I 0,I 0,I 0,I 0,I 0,I 0,I 0,I 0,I 0,I 0,I 0,I 0,B false,I 0,B false,I 0,I 0,I 0,I 0,I 0,B false]])]
 else
 none
 else
 some [.view Ai (wA o35.2 0)]
 else
 none:=by kernel_rfl
def Vr:=An (Qdk LR KT Kh Cj DA)
def JF:=YD LR KT Kh Cj DA Vr
theorem Q20:Aj PG (ZQ LR KT Kh Cj DA):=Ao rfl ⟨Z1h,Zbu,Zbg,KU,SA,trivial⟩
theorem Zk2:Al PG (16,Ac Qn5 Qmq JF):=rw2 (C:=(Qsh LR KT Kh Cj DA Vr)) (fl fb Q20) Q20
def Y5:Sk:=⟨[tf [CS.sl Aa]],[],[]⟩
def WC:Sk:=⟨[TS.v true [ci,ci,ci]],[],[]⟩
def Zjm (M:Fn):Nat×Spec:=(47,Ac Y5 WC M)
def Qk5 (At BI:Fn):Cfg:=cp [Lm At,QJ BI] [48,45]
def XO (At BI:Fn):Fn:=Am PG (Qk5 At BI) 64 47 Y5 WC
theorem Z0q (At BI:Fn) (x0:Rw):XO At BI [.view Aa x0]=
 (BI [.view Aa x0]).bind fun o4=>
 (At [I 900, .view Aa (wA o4 0),jA o4 1]).bind fun o5=>
 (At [I 200, .view Aa (wA o5 1),jA o5 2]).bind fun o6=>
 (At [I 16000, .view Aa (wA o6 1),jA o6 2]).bind fun o7=>
 some [I (wrap .i64 (1+gA o5 0)),I (wrap .i64 (2+gA o6 0)),I (wrap .i64 (1+gA o7 0))]:=by kernel_rfl
def PK:=XO Cj DA
theorem Zjb:Aj PG (Qk5 Cj DA):=Ao rfl ⟨KU,SA,trivial⟩
theorem Q8h:Al PG (47,Ac Y5 WC PK):=rw1 (C:=(Qk5 Cj DA)) Zjb
end Go.Bm
