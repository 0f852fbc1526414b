/- functions of the program and of the references, as models -/
import Derived.Test.YtommijghjlikkaaGreatMx1
set_option linter.unusedSimpArgs false
set_option linter.unusedVariables false
set_option maxRecDepth 100000
noncomputable section
open Go.IntKind (wrap)
namespace Go.Bm
open Go.Proofs
def Vf:Sk:=⟨[TS.v true [ci,ci,ci,CS.sl Ai,CS.sl kPt],TS.v true (cc 9++[CS.sl Aa]++cc 9++[CS.sl Aa]++cc 9++[CS.sl Aa]),TS.v true ([CS.sl At]++cc 5),TS.v true [ci,ci,ci],TS.v true [ci,ci,CS.bool,CS.bool,CS.bool],TS.v true (cc 6),tf [ci],tf [ci],TS.v true [ci,ci,ci,ci],tf [ci],tf [ci]],[],[]⟩
def Yt:Sk:=⟨[TS.tup [(true,cc 6),(true,[ci,ci,ci,ci]),(false,[ci])]],[],[]⟩
def Zqs (M:Fn):Nat×Spec:=(181,Ad Vf Yt M)
def Qmj (CN BB By DT Cy K5 KY:Fn):Cfg:=cf [Qi4 CN,XJ BB,YU By,Qqg DT,Qxj Cy,Zwd K5,Zj2 KY]
def W4 (CN BB By DT Cy K5 KY:Fn):Fn:=An PG (Qmj CN BB By DT Cy K5 KY) 64 181 Vf Yt
abbrev ZY (By:Fn) (x41 x42 x43:Int) (o33:List AC) (x58:Int) (o26:List AC) (x60 x49 x55:Int) (BB:Fn) (x50 x51:Int) (Cy:Fn) (x52 x53 x54 x59:Int):Option (List AC):=
 (By [I x41,I x42,I x43,jA o33 0,jA o33 1,jA o33 2,jA o33 3,jA o33 4,jA o33 5]).bind λo35=>
 bif decide (wrap .i64 (wrap .i64 (wrap .i64 (x58+gA o26 0)-x60)-x49)>=0)then
 bif decide (gA o35 0>wrap .i64 (x55*256))then
 (BB [I x41,I x42,I x43,I x50,I x51]).bind λo36=>
 (Cy [I x49,I x50,I x51,I x52,I x53,I x54,I (wrap .i64 (x50+gA o36 0))]).bind λo37=>
 some [jA o37 0,jA o37 1,jA o37 2,jA o37 3,jA o37 4,jA o37 5,I 3,I x58,I x59,I x60,I 0]
 else
 (BB [I x41,I x42,I x43,I x50,I x51]).bind λo38=>
 (Cy [I x49,I x50,I x51,I x52,I x53,I x54,I (wrap .i64 (x50+gA o38 0))]).bind λo39=>
 some [jA o39 0,jA o39 1,jA o39 2,jA o39 3,jA o39 4,jA o39 5,I 3,I x58,I x59,I x60,I 18]
 else
 (BB [I x41,I x42,I x43,I x50,I x51]).bind λo40=>
 (Cy [I x49,I x50,I x51,I x52,I x53,I x54,I (wrap .i64 (x50+gA o40 0))]).bind λo41=>
 some [jA o41 0,jA o41 1,jA o41 2,jA o41 3,jA o41 4,jA o41 5,I 3,I x58,I x59,I x60,I 18]
theorem Zjr (CN BB By DT Cy K5 KY:Fn) (x41 x42 x43 x44 x45:Int) (x46 x47 x48:Bool) (x49 x50 x51 x52 x53 x54 x55 x56 x57 x58 x59 x60 x61 x62:Int) (p:Pth) (x:Ax3) (t:Trk):W4 CN BB By DT Cy K5 KY (pxt p x t [I x41,I x42,I x43,I x44,I x45,B x46,B x47,B x48,I x49,I x50,I x51,I x52,I x53,I x54,I x55,I x56,I x57,I x58,I x59,I x60,I x61,I x62])=
 (KY [I x62,I x59]).bind λo25=>
 (K5 [I x56,jA o25 0]).bind λo26=>
 bif x57==1 then
 (KY [I x61,I x59]).bind λo27=>
 (K5 [I x56,jA o27 0]).bind λo28=>
 (Cy [I x49,I x50,I x51,I x52,I x53,I x54,I (wrap .i64 (gA o26 0-gA o28 0))]).bind λo29=>
 bif wrap .i64 (gA o26 0-gA o28 0) !=0 then
 (DT (pxt p x t [I x41,I x42,I x43,jA o29 0,jA o29 1,jA o29 2,jA o29 3,jA o29 4,jA o29 5,I x55])).bind λo30=>
 bif bA o30 0 then
 some [jA o29 0,jA o29 1,jA o29 2,jA o29 3,jA o29 4,jA o29 5,I 2,I x58,I x59,I (wrap .i64 (gA o26 0-wrap .i64 (gA o29 0-x58))),I 0]
 else
 (CN (pxt p x t [I x41,I x42,I x43,I x44,I x45,B false,B x47,B x48,I x49,I x50,I x51,I x52,I x53,I x54,I x55])).bind λo31=>
 some [jA o31 0,jA o31 1,jA o31 2,jA o31 3,jA o31 4,jA o31 5,I x57,I x58,I x59,I x60,I 0]
 else
 (CN (pxt p x t [I x41,I x42,I x43,I x44,I x45,B false,B x47,B x48,I x49,I x50,I x51,I x52,I x53,I x54,I x55])).bind λo32=>
 some [jA o32 0,jA o32 1,jA o32 2,jA o32 3,jA o32 4,jA o32 5,I x57,I x58,I x59,I x60,I 0]
 else
 bif x57==2 then
 (Cy [I x49,I x50,I x51,I x52,I x53,I x54,I (wrap .i64 (wrap .i64 (wrap .i64 (x58+gA o26 0)-x60)-x49))]).bind λo33=>
 bif decide (wrap .i64 (wrap .i64 (wrap .i64 (x58+gA o26 0)-x60)-x49)>=0)then
 (DT (pxt p x t [I x41,I x42,I x43,jA o33 0,jA o33 1,jA o33 2,jA o33 3,jA o33 4,jA o33 5,I x55])).bind λo34=>
 bif bA o34 0 then
 some [jA o33 0,jA o33 1,jA o33 2,jA o33 3,jA o33 4,jA o33 5,I x57,I x58,I x59,I x60,I 0]
 else
 ZY By x41 x42 x43 o33 x58 o26 x60 x49 x55 BB x50 x51 Cy x52 x53 x54 x59
 else
 ZY By x41 x42 x43 o33 x58 o26 x60 x49 x55 BB x50 x51 Cy x52 x53 x54 x59
 else
 (CN (pxt p x t [I x41,I x42,I x43,I x44,I x45,B false,B x47,B x48,I x49,I x50,I x51,I x52,I x53,I x54,I x55])).bind λo49=>
 some [jA o49 0,jA o49 1,jA o49 2,jA o49 3,jA o49 4,jA o49 5,I x57,I x58,I x59,I x60,I 0]:=by kernel_rfl
def IA:=W4 E8 Fq DY ID I2 Qu Qn
theorem Z1y:Aj PG (Qmj E8 Fq DY ID I2 Qu Qn):=Ap rfl ⟨Ve,ZI,Qnb,Q0n,Qrc,Zf8,Zle,trivial⟩
theorem Zsn:Al PG (181,Ad Vf Yt IA):=rw1 (C:=(Qmj E8 Fq DY ID I2 Qu Qn)) Z1y
def Qku (M:Fn):Nat×Spec:=(159,Ad Qho Qlu M)
def UD (CN:Fn):Cfg:=cf [Qi4 CN]
def Qlr (CN:Fn):Fn:=An PG (UD CN) 64 159 Qho Qlu
theorem Zvb (CN:Fn) (x0:Int) (K:Kf) (c:Cv):Qlr CN (I x0::Ac K c)=
 (CN (pxt K.p K.x K.t [I K.pa,I K.pb,I K.pc,I c.o0,I c.o1,B c.o2,B c.o3,B c.o4,I c.m0,I c.m1,I c.m2,I c.m3,I c.m4,I c.m5,I x0])).bind λo1=>
 some (Ac K {c with m0:=gA o1 0,m1:=gA o1 1,m2:=gA o1 2,m3:=gA o1 3,m4:=gA o1 4,m5:=gA o1 5}):=by kernel_rfl
def Ho:=Qlr E8
theorem Zx1:Aj PG (UD E8):=Ap rfl ⟨Ve,trivial⟩
theorem Qm4:Al PG (159,Ad Qho Qlu Ho):=rw1 (C:=(UD E8)) Zx1
def Z9:Sk:=⟨[tf [CS.ptr 20000 0],tf [ci],TS.v true (cc 7)],[(20000,119,cS)],[]⟩
def Ztw (M:Fn):Nat×Spec:=(162,Ad Z9 Qlu M)
def Yb (Dl NU Dy:Fn):Cfg:=cp [X_ Dl,Zqs NU,Qku Dy] [108,159]
def Qmf (Dl NU Dy:Fn):Fn:=An PG (Yb Dl NU Dy) 64 162 Z9 Qlu
theorem Zyo (Dl NU Dy:Fn) (x0 x1 x2 x3 x4 x5 x6 x7:Int) (K:Kf) (c:Cv):Qmf Dl NU Dy (I x0::I x1::I x2::I x3::I x4::I x5::I x6::I x7::Ac K c)=
 bif c.g0 !=0 then
 (Dy (I x0::Ac K c)).bind λo3=>
 some (DK (cR 0 o3) [(82,I 3)])
 else
 (NU (pxt K.p K.x K.t [I K.pa,I K.pb,I K.pc,I c.o0,I c.o1,B c.o2,B c.o3,B c.o4,I c.m0,I c.m1,I c.m2,I c.m3,I c.m4,I c.m5,I x0,I x7,I c.e0,I c.e1,I c.e2,I c.e3,I c.before,I c.s3])).bind λo4=>
 bif gA o4 10 !=0 then
 (Dl (Ac K {c with m0:=gA o4 0,m1:=gA o4 1,m2:=gA o4 2,m3:=gA o4 3,m4:=gA o4 4,m5:=gA o4 5,e0:=gA o4 6,e1:=gA o4 7,e2:=gA o4 8,e3:=gA o4 9})).bind λo5=>
 some (cR 0 o5)
 else
 some (Ac K {c with m0:=gA o4 0,m1:=gA o4 1,m2:=gA o4 2,m3:=gA o4 3,m4:=gA o4 4,m5:=gA o4 5,e0:=gA o4 6,e1:=gA o4 7,e2:=gA o4 8,e3:=gA o4 9}):=by kernel_rfl
def Pr:=Qmf GP IA Ho
theorem Zik:Aj PG (Yb GP IA Ho):=Ap rfl ⟨X1,Zsn,Qm4,trivial⟩
theorem Zda:Al PG (162,Ad Z9 Qlu Pr):=rw1 (C:=(Yb GP IA Ho)) Zik
def Z3z (M:Fn):Nat×Spec:=(42,Ad Y7 Qn1 M)
def Qo0 (AJ:Fn):Cfg:=cf [KW AJ]
def Qpc (AJ:Fn):Fn:=An PG (Qo0 AJ) 64 42 Y7 Qn1
theorem Z5c (AJ:Fn) (x0 x1:Int):Qpc AJ [I x0,I x1]=
 (AJ [I 4096,I x1,I x0,I 0]).bind λo1=>
 some [jA o1 0]:=by kernel_rfl
def JU:=Qpc Bz
theorem Z0j:Aj PG (Qo0 Bz):=Ap rfl ⟨Ls,trivial⟩
theorem Zoo:Al PG (42,Ad Y7 Qn1 JU):=rw1 (C:=(Qo0 Bz)) Z0j
def Zv0 (M:Fn):Nat×Spec:=(161,Ad Z9 Qlu M)
def Zm (Le Ci Dy:Fn):Cfg:=cr [Z3z Le,SH Ci,Qku Dy] [110,159] [110]
def WC (Le Ci Dy:Fn):Fn:=An PG (Zm Le Ci Dy) 64 161 Z9 Qlu
theorem Zsr (Le Ci Dy:Fn) (x0 x1 x2 x3 x4 x5 x6 x7:Int) (K:Kf) (c:Cv):WC Le Ci Dy (I x0::I x1::I x2::I x3::I x4::I x5::I x6::I x7::Ac K c)=
 (Dy (I x0::Ac K c)).bind λo5=>
 bif decide (0<=x5)&&decide (x5<(↑(wA o5 35).length:Int))then
 bif Ag (nth .dead (nth [] (wA o5 35) x5.toNat) 19)==3 then
 (Ci (cR 0 o5)).bind λo6=>
 (Le [I x7,I (wrap .i64 (gA o6 0-gA o5 80))]).bind λo7=>
 some (DK (cR 0 o5) [(67,I (wrap .i64 (gA o5 81+wrap .i64 (wrap .i64 (1*gA o7 0)*256))))])
 else
 (Ci (cR 0 o5)).bind λo8=>
 (Le [I x7,I (wrap .i64 (gA o8 0-gA o5 80))]).bind λo9=>
 some (DK (cR 0 o5) [(67,I (wrap .i64 (gA o5 81+wrap .i64 (wrap .i64 (-1*gA o9 0)*256))))])
 else
 none:=by kernel_rfl
def Pq:=WC JU EO Ho
theorem Zo9:Aj PG (Zm JU EO Ho):=Jc (rs:=[110]) rfl ⟨Zoo,S6,Qm4,trivial⟩ rfl (De rfl (HA (De rfl IY)))
theorem Zv2:Al PG (161,Ad Z9 Qlu Pq):=rw1 (C:=(Zm JU EO Ho)) Zo9
def Z5b (M:Fn):Nat×Spec:=(199,Ad Y7 Qn1 M)
def Qcw:Fn:=An PG WB 64 199 Y7 Qn1
theorem Zxw (x0 x1:Int):Qcw [I x0,I x1]=
 bif decide (x1=0)then
 none
 else
 bif decide (x1=0)then
 none
 else
 bif decide (x0.tmod x1<0)then
 some [I (wrap .i64 (wrap .i64 (x0.tdiv x1)-1))]
 else
 some [I (wrap .i64 (x0.tdiv x1))]:=by kernel_rfl
def JL:=Qcw
theorem Zct:Al PG (199,Ad Y7 Qn1 JL):=rw1 (C:=WB) Z0p
def Zaq (M:Fn):Nat×Spec:=(180,Ad Y7 Qn1 M)
def Qfa (LX:Fn):Cfg:=cf [Z5b LX]
def ZN (LX:Fn):Fn:=An PG (Qfa LX) 64 180 Y7 Qn1
theorem Z28 (LX:Fn) (x0 x1:Int):ZN LX [I x0,I x1]=
 bif x1== -1 then
 (LX [I x0,I 1048576]).bind λo2=>
 some [I (wrap .i64 (gA o2 0*1048576))]
 else
 (LX [I (wrap .i64 (0-x0)),I 1048576]).bind λo3=>
 some [I (wrap .i64 (wrap .i64 (0-gA o3 0)*1048576))]:=by kernel_rfl
def JS:=ZN JL
theorem Zju:Aj PG (Qfa JL):=Ap rfl ⟨Zct,trivial⟩
theorem Zf6:Al PG (180,Ad Y7 Qn1 JS):=rw1 (C:=(Qfa JL)) Zju
def Qf9:Sk:=⟨[tf [CS.ptr 20000 0],TS.v true (cc 7)],[(20000,119,cS)],[]⟩
def Wn:Sk:=⟨[tf [CS.bool]],[(20000,119,cS)],[]⟩
def Zsj (M:Fn):Nat×Spec:=(160,Ad Qf9 Wn M)
def Yi (Ci Oq:Fn):Cfg:=cr [SH Ci,Zaq Oq] [110] [110]
def ZK (Ci Oq:Fn):Fn:=An PG (Yi Ci Oq) 64 160 Qf9 Wn
theorem Zpd (Ci Oq:Fn) (x0 x1 x2 x3 x4 x5 x6:Int) (K:Kf) (c:Cv):ZK Ci Oq (I x0::I x1::I x2::I x3::I x4::I x5::I x6::Ac K c)=
 (Oq [I c.before,I c.s0]).bind λo3=>
 bif decide (0<=x4)&&decide (x4<((K.items.map Af).length:Int))then
 bif gA (nth [] (K.items.map Af) x4.toNat) 0 !=6 then
 bif c.s1==0 then
 some (B false::Ac K c)
 else
 bif decide (wrap .i64 (wrap .i64 (c.s3-gA o3 0)*c.s0)<0)then
 some (B false::Ac K c)
 else
 (Ci (Ac K c)).bind λo4=>
 some (B true::Ac K {c with y0:=x4,y1:=gA o4 0,y2:=c.s3,e0:=1,e1:=c.m0,e2:=gA o3 0,e3:=0})
 else
 (Ci (Ac K c)).bind λo5=>
 some (B true::Ac K {c with y0:=x4,y1:=gA o5 0,y2:=c.s3,e0:=1,e1:=c.m0,e2:=gA o3 0,e3:=0})
 else
 none:=by kernel_rfl
def PC:=ZK EO JS
theorem Ze1:Aj PG (Yi EO JS):=Jc (rs:=[110]) rfl ⟨S6,Zf6,trivial⟩ rfl (HA (De rfl IY))
theorem Z2j:Al PG (160,Ad Qf9 Wn PC):=rw1 (C:=(Yi EO JS)) Ze1
def Zr:Sk:=⟨[TS.tup [(true,cc 7),(false,[CS.bool])]],[],[]⟩
def Q5g (M:Fn):Nat×Spec:=(102,Fj YQ Zr M)
def P7 (DG Ci:Fn):Cfg:=cr [Yd DG,SH Ci] [110] [110]
def Qg5 (DG Ci:Fn):Fn:=OA PG (P7 DG Ci) 64 102 YQ Zr
theorem Zbk (DG Ci:Fn) (K:Kf) (c:Cv):Qg5 DG Ci (Ac K c)=
 (Ci (Ac K c)).bind λo2=>
 (DG (Bn K.p++[jA o2 0])).bind λo3=>
 bif decide (gA o3 0<0)then
 some [I 0,I 0,I 0,I 0,I 0,I 0,I 0,B false]
 else
 bif decide (0<=gA o3 0)&&decide (gA o3 0<((K.p.aE.map AB).length:Int))then
 some (AN Ai (nth [] (K.p.aE.map AB) (gA o3 0).toNat)++[B true])
 else
 none:=by kernel_rfl
def HI:=Qg5 EV EO
theorem Zl9:Aj PG (P7 EV EO):=Jc (rs:=[110]) rfl ⟨WI,S6,trivial⟩ rfl (De rfl (HA IY))
theorem Zat (vars : List AC) (R : Type) (K : TV -> Mem -> Option R) : FF PG (P7 EV EO) 64 102 [TV.v false [AC.ptr 20000 0]] ⟨[(20000, (⟨119, (cR 0 vars)⟩ : Box))], []⟩ K = FF PG (P7 EV EO) 64 102 [TV.v false [AC.ptr 20000 0]] ⟨[(20000, (⟨119, (cR 0 vars)⟩ : Box))], []⟩ (λv _ => K v ⟨[(20000, (⟨119, (cR 0 vars)⟩ : Box))], []⟩) := Eq.trans (b := ((EO (cR 0 vars)).bind λo2 =>
 (EV [jA vars 37,jA vars 38,jA vars 39, .view Ai (wA vars 40), .view kPt (wA vars 41),jA o2 0]).bind λo3=>
 bif decide (gA o3 0<0)then
 K (TV.tup [(true,[I 0,I 0,I 0,I 0,I 0,I 0,I 0]),(false,[B false])]) ⟨[(20000,(⟨119,(cR 0 vars)⟩:Box))],[]⟩
 else
 bif decide (0<=gA o3 0)&&decide (gA o3 0<(↑(wA vars 40).length:Int))then
 K (TV.tup [(true,[I (Ag (nth .dead (nth [] (wA vars 40) (gA o3 0).toNat) 0)),I (Ag (nth .dead (nth [] (wA vars 40) (gA o3 0).toNat) 1)),I (Ag (nth .dead (nth [] (wA vars 40) (gA o3 0).toNat) 2)),I (Ag (nth .dead (nth [] (wA vars 40) (gA o3 0).toNat) 3)),I (Ag (nth .dead (nth [] (wA vars 40) (gA o3 0).toNat) 4)),I (Ag (nth .dead (nth [] (wA vars 40) (gA o3 0).toNat) 5)),I (Ag (nth .dead (nth [] (wA vars 40) (gA o3 0).toNat) 6))]),(false,[B true])]) ⟨[(20000,(⟨119,(cR 0 vars)⟩:Box))],[]⟩
 else
 none)) (by kernel_rfl) (Eq.symm (by kernel_rfl))
theorem Qzb:Al PG (102,Fj YQ Zr HI):=TE (C:=(P7 EV EO)) (L:=64) (by kernel_rfl) (FnOK.bare rfl rfl rfl) Zl9 eqOk HT (by kernel_rfl) (by kernel_rfl) (λvars R K=>Zat vars R K)
def Zr8 (M:Fn):Nat×Spec:=(109,Ad Qho Qlu M)
def Qdv (H0 IB Dl Ja Dy Gf:Fn):Cfg:=cr [Ztw H0,Zv0 IB,X_ Dl,Zsj Ja,Qku Dy,Q5g Gf] [162,161,108,160,159,102] [102]
def Qju (H0 IB Dl Ja Dy Gf:Fn):Fn:=An PG (Qdv H0 IB Dl Ja Dy Gf) 64 109 Qho Qlu
abbrev ST (c:Cv) (o15:List AC) (Ja:Fn) (K:Kf) (Dl IB:Fn) (x0:Int) (H0:Fn):Option (List AC):=
 bif !c.y0==gA o15 4 then
 (Ja (jA o15 0::jA o15 1::jA o15 2::jA o15 3::jA o15 4::jA o15 5::jA o15 6::Ac K c)).bind λo18=>
 bif !bA o18 0 then
 bif gA o18 66==0 then
 (Dl (cR 1 o18)).bind λo19=>
 some (cR 0 o19)
 else
 some (cR 1 o18)
 else
 bif decide (0<=gA o15 4)&&decide (gA o15 4<(↑(wA o18 36).length:Int))then
 bif Ag (nth .dead (nth [] (wA o18 36) (gA o15 4).toNat) 0)==6 then
 (IB (I x0::jA o15 0::jA o15 1::jA o15 2::jA o15 3::jA o15 4::jA o15 5::jA o15 6::cR 1 o18)).bind λo20=>
 some (cR 0 o20)
 else
 (H0 (I x0::jA o15 0::jA o15 1::jA o15 2::jA o15 3::jA o15 4::jA o15 5::jA o15 6::cR 1 o18)).bind λo21=>
 some (cR 0 o21)
 else
 none
 else
 bif decide (0<=gA o15 4)&&decide (gA o15 4<((K.items.map Af).length:Int))then
 bif gA (nth [] (K.items.map Af) (gA o15 4).toNat) 0==6 then
 (IB (I x0::jA o15 0::jA o15 1::jA o15 2::jA o15 3::jA o15 4::jA o15 5::jA o15 6::Ac K c)).bind λo22=>
 some (cR 0 o22)
 else
 (H0 (I x0::jA o15 0::jA o15 1::jA o15 2::jA o15 3::jA o15 4::jA o15 5::jA o15 6::Ac K c)).bind λo23=>
 some (cR 0 o23)
 else
 none
theorem Z1h (H0 IB Dl Ja Dy Gf:Fn) (x0:Int) (K:Kf) (c:Cv):Qju H0 IB Dl Ja Dy Gf (I x0::Ac K c)=
 (Gf (Ac K c)).bind λo15=>
 bif gA o15 6==0 then
 (Dy (I x0::Ac K c)).bind λo16=>
 some (cR 0 o16)
 else
 bif c.o2 then
 bif !c.y0==gA o15 4 then
 (Dy (I x0::Ac K c)).bind λo17=>
 some (cR 0 o17)
 else
 ST c o15 Ja K Dl IB x0 H0
 else
 ST c o15 Ja K Dl IB x0 H0:=by kernel_rfl
def PD:=Qju Pr Pq GP PC Ho HI
theorem Zzv:Aj PG (Qdv Pr Pq GP PC Ho HI):=Jc (rs:=[102]) rfl ⟨Zda,Zv2,X1,Z2j,Qm4,Qzb,trivial⟩ rfl (De rfl (De rfl (De rfl (De rfl (De rfl (HA IY))))))
theorem Zpx:Al PG (109,Ad Qho Qlu PD):=rw1 (C:=(Qdv Pr Pq GP PC Ho HI)) Zzv
def UI (M:Fn):Nat×Spec:=(88,Ad Qn1 Qn1 M)
def ZO (AJ:Fn):Cfg:=cf [KW AJ]
def S2 (AJ:Fn):Fn:=An PG (ZO AJ) 64 88 Qn1 Qn1
theorem Qxz (AJ:Fn) (x0:Int):S2 AJ [I x0]=
 (AJ [I x0,I 1048576,I 60000,I 2]).bind λo1=>
 some [jA o1 0]:=by kernel_rfl
def Fh:=S2 Bz
theorem Zc4:Aj PG (ZO Bz):=Ap rfl ⟨Ls,trivial⟩
theorem Qog:Al PG (88,Ad Qn1 Qn1 Fh):=rw1 (C:=(ZO Bz)) Zc4
def Qyo (M:Fn):Nat×Spec:=(177,Ad Qn1 Qn1 M)
def VU:Fn:=An PG WB 64 177 Qn1 Qn1
theorem Z4l (x0:Int):VU [I x0]=
 bif x0==3 then
 some [I 1]
 else
 bif x0==4 then
 some [I (-1)]
 else
 some [I 0]:=by kernel_rfl
def GU:=VU
theorem Q8x:Al PG (177,Ad Qn1 Qn1 GU):=rw1 (C:=WB) Z0p
def UN:Sk:=⟨[TS.v true [ci,ci,ci,ci],tf [ci],tf [ci]],[],[]⟩
def Zf7 (M:Fn):Nat×Spec:=(150,Ad UN Qnv M)
def Qgf (Du Gc:Fn):Cfg:=cf [UI Du,Qyo Gc]
def Qkv (Du Gc:Fn):Fn:=An PG (Qgf Du Gc) 64 150 UN Qnv
theorem Zzc (Du Gc:Fn) (x0 x1 x2 x3 x4 x5:Int):Qkv Du Gc [I x0,I x1,I x2,I x3,I x4,I x5]=
 (Gc [I x4]).bind λo3=>
 bif gA o3 0==0 then
 bif x4==5 then
 bif x1==0 then
 some [B (x2==0)]
 else
 some [B false]
 else
 some [B false]
 else
 bif x0==gA o3 0 then
 (Du [I x5]).bind λo4=>
 bif x1==gA o4 0 then
 (Du [I x5]).bind λo5=>
 some [B (x2==gA o5 0)]
 else
 some [B false]
 else
 some [B false]:=by kernel_rfl
def Ne:=Qkv Fh GU
theorem Zwk:Aj PG (Qgf Fh GU):=Ap rfl ⟨Qog,Q8x,trivial⟩
theorem Z09:Al PG (150,Ad UN Qnv Ne):=rw1 (C:=(Qgf Fh GU)) Zwk
def Qnl:Sk:=⟨[TS.v true [ci,ci,ci,ci]],[],[]⟩
def Zip (M:Fn):Nat×Spec:=(149,Ad UN Qnl M)
def Qcx (Du Gc:Fn):Cfg:=cf [UI Du,Qyo Gc]
def Qi1 (Du Gc:Fn):Fn:=An PG (Qcx Du Gc) 64 149 UN Qnl
theorem Z3j (Du Gc:Fn) (x0 x1 x2 x3 x4 x5:Int):Qi1 Du Gc [I x0,I x1,I x2,I x3,I x4,I x5]=
 (Gc [I x4]).bind λo3=>
 bif x4==5 then
 some [I x0,I x1,I 0,I x3]
 else
 bif gA o3 0==0 then
 some [I x0,I x1,I x2,I x3]
 else
 bif x1==0 then
 (Du [I x5]).bind λo4=>
 some [jA o3 0,I x1,jA o4 0,I x3]
 else
 bif x0==gA o3 0 then
 (Du [I x5]).bind λo5=>
 some [jA o3 0,I x1,jA o5 0,I x3]
 else
 some [I x0,I x1,I 0,I x3]:=by kernel_rfl
def LU:=Qi1 Fh GU
theorem Zwe:Aj PG (Qcx Fh GU):=Ap rfl ⟨Qog,Q8x,trivial⟩
theorem Zcx:Al PG (149,Ad UN Qnl LU):=rw1 (C:=(Qcx Fh GU)) Zwe
def Wv:Sk:=⟨[tf [ci]],[(20000,119,cS)],[]⟩
def Zpj (M:Fn):Nat×Spec:=(148,Ad YQ Wv M)
def Qge:Fn:=An PG WB 64 148 YQ Wv
theorem Ziv (K:Kf) (c:Cv):Qge (Ac K c)=
 some (I 3::Ac K {c with next:=wrap .i64 (c.idx+1),on:=false,idx:=0,aM:=false,cnt:=0}):=by kernel_rfl
def N_:=Qge
theorem Zbh:Al PG (148,Ad YQ Wv N_):=rw1 (C:=WB) Z0p
def Q9n (M:Fn):Nat×Spec:=(103,Ad YQ Wv M)
def Qd5 (ND Nq Ig:Fn):Cfg:=cp [Zf7 ND,Zip Nq,Zpj Ig] [148]
def Y0 (ND Nq Ig:Fn):Fn:=An PG (Qd5 ND Nq Ig) 64 103 YQ Wv
theorem Zxq (ND Nq Ig:Fn) (K:Kf) (c:Cv):Y0 ND Nq Ig (Ac K c)=
 bif c.aM then
 bif decide (wrap .i64 (c.cnt+1)>1)then
 bif c.aI then
 (Ig (Ac K {c with cnt:=wrap .i64 (c.cnt+1)})).bind λo7=>
 some (jA o7 0::cR 1 o7)
 else
 some (I 2::Ac K {c with cnt:=wrap .i64 (c.cnt+1)})
 else
 some (I 2::Ac K {c with cnt:=wrap .i64 (c.cnt+1)})
 else
 bif decide (0<=c.idx)&&decide (c.idx<((K.p.aC.map Au).length:Int))then
 bif gA (nth [] (K.p.aC.map Au) c.idx.toNat) 1 !=3 then
 (Ig (Ac K {c with cnt:=wrap .i64 (c.cnt+1)})).bind λo8=>
 some (jA o8 0::cR 1 o8)
 else
 bif decide (0<=gA (nth [] (K.p.aC.map Au) c.idx.toNat) 2)&&decide (gA (nth [] (K.p.aC.map Au) c.idx.toNat) 2<((K.items.map Af).length:Int))then
 bif gA (nth [] (K.items.map Af) (gA (nth [] (K.p.aC.map Au) c.idx.toNat) 2).toNat) 0==7 then
 bif decide (wrap .i64 (c.cnt+1)<gA (nth [] (K.items.map Af) (gA (nth [] (K.p.aC.map Au) c.idx.toNat) 2).toNat) 19)then
 some (I 3::Ac K {c with cnt:=wrap .i64 (c.cnt+1)})
 else
 (Ig (Ac K {c with cnt:=wrap .i64 (c.cnt+1)})).bind λo9=>
 some (jA o9 0::cR 1 o9)
 else
 bif gA (nth [] (K.items.map Af) (gA (nth [] (K.p.aC.map Au) c.idx.toNat) 2).toNat) 0==8 then
 (Nq [I c.s0,I c.s1,I c.s2,I c.s3,jA (nth [] (K.items.map Af) (gA (nth [] (K.p.aC.map Au) c.idx.toNat) 2).toNat) 19,jA (nth [] (K.items.map Af) (gA (nth [] (K.p.aC.map Au) c.idx.toNat) 2).toNat) 20]).bind λo10=>
 (ND [jA o10 0,jA o10 1,jA o10 2,jA o10 3,jA (nth [] (K.items.map Af) (gA (nth [] (K.p.aC.map Au) c.idx.toNat) 2).toNat) 19,jA (nth [] (K.items.map Af) (gA (nth [] (K.p.aC.map Au) c.idx.toNat) 2).toNat) 20]).bind λo11=>
 bif !bA o11 0 then
 some (I 3::Ac K {c with s0:=gA o10 0,s1:=gA o10 1,s2:=gA o10 2,s3:=gA o10 3,cnt:=wrap .i64 (c.cnt+1)})
 else
 (Ig (Ac K {c with s0:=gA o10 0,s1:=gA o10 1,s2:=gA o10 2,s3:=gA o10 3,cnt:=wrap .i64 (c.cnt+1)})).bind λo12=>
 some (jA o12 0::cR 1 o12)
 else
 bif gA (nth [] (K.items.map Af) (gA (nth [] (K.p.aC.map Au) c.idx.toNat) 2).toNat) 0==14 then
 some (I 7::Ac K {c with cnt:=wrap .i64 (c.cnt+1),aH:=7})
 else
 (Ig (Ac K {c with cnt:=wrap .i64 (c.cnt+1)})).bind λo13=>
 some (jA o13 0::cR 1 o13)
 else
 none
 else
 none:=by kernel_rfl
def J8:=Y0 Ne LU N_
theorem Zzz:Aj PG (Qd5 Ne LU N_):=Ap rfl ⟨Z09,Zcx,Zbh,trivial⟩
theorem Q18:Al PG (103,Ad YQ Wv J8):=rw1 (C:=(Qd5 Ne LU N_)) Zzz
def Zox (M:Fn):Nat×Spec:=(107,Ad Qho Wv M)
def Qn0 (D5:Fn):Cfg:=cp [Q9n D5] [103]
def Qdt (D5:Fn):Fn:=An PG (Qn0 D5) 64 107 Qho Wv
theorem Zz2 (D5:Fn) (x0:Int) (K:Kf) (c:Cv):Qdt D5 (I x0::Ac K c)=
 bif decide (0<=x0)&&decide (x0<((K.p.aC.map Au).length:Int))then
 bif gA (nth [] (K.p.aC.map Au) x0.toNat) 1==1 then
 (D5 (Ac K {c with on:=true,idx:=x0,aM:=c.o3,cnt:=0})).bind λo7=>
 some (jA o7 0::cR 1 o7)
 else
 bif gA (nth [] (K.p.aC.map Au) x0.toNat) 1==2 then
 (D5 (Ac K {c with on:=true,idx:=x0,aM:=c.o3,cnt:=0})).bind λo8=>
 some (jA o8 0::cR 1 o8)
 else
 bif gA (nth [] (K.p.aC.map Au) x0.toNat) 1==6 then
 (D5 (Ac K {c with on:=true,idx:=x0,aM:=c.o3,cnt:=0})).bind λo9=>
 some (jA o9 0::cR 1 o9)
 else
 bif gA (nth [] (K.p.aC.map Au) x0.toNat) 1==4 then
 (D5 (Ac K {c with on:=true,idx:=x0,aM:=true,cnt:=0})).bind λo10=>
 some (jA o10 0::cR 1 o10)
 else
 bif gA (nth [] (K.p.aC.map Au) x0.toNat) 1==3 then
 bif decide (0<=gA (nth [] (K.p.aC.map Au) x0.toNat) 2)&&decide (gA (nth [] (K.p.aC.map Au) x0.toNat) 2<((K.items.map Af).length:Int))then
 bif gA (nth [] (K.items.map Af) (gA (nth [] (K.p.aC.map Au) x0.toNat) 2).toNat) 0==11 then
 (D5 (Ac K {c with on:=true,idx:=x0,aM:=true,cnt:=0})).bind λo11=>
 some (jA o11 0::cR 1 o11)
 else
 (D5 (Ac K {c with on:=true,idx:=x0,aM:=gA (nth [] (K.items.map Af) (gA (nth [] (K.p.aC.map Au) x0.toNat) 2).toNat) 0==12,cnt:=0})).bind λo12=>
 some (jA o12 0::cR 1 o12)
 else
 none
 else
 (D5 (Ac K {c with on:=true,idx:=x0,aM:=false,cnt:=0})).bind λo13=>
 some (jA o13 0::cR 1 o13)
 else
 none:=by kernel_rfl
def P6:=Qdt J8
theorem Zzk:Aj PG (Qn0 J8):=Ap rfl ⟨Q18,trivial⟩
theorem Zux:Al PG (107,Ad Qho Wv P6):=rw1 (C:=(Qn0 J8)) Zzk
def WL:Sk:=⟨[tf [CS.sl kPt],tf [ci],TS.v true [ci,ci,CS.bool,CS.bool,CS.bool],tf [ci],tf [ci]],[],[]⟩
def Z04 (M:Fn):Nat×Spec:=(158,Ad WL UP M)
def Qcl (CZ:Fn):Cfg:=cf [Q0w CZ]
def Qy1:Sk:=⟨[tf [CS.sl kPt],td,td,tf [ci],tf [ci],td,td,tf [CS.ptr 7 0],td,td,td,td,tf [ci]]++dd 32,[(7,92,[ci,ci,CS.bool,CS.bool,CS.bool])],[]⟩
def Qva:List (Ex×Sk):=[(Ex.ret,⟨dd 10++[tf [ci],tf [ci]]++dd 33,[],[]⟩),(Ex.exit 0,⟨[td,td,td,tf [ci]]++dd 41,[],[]⟩)]
def R9 (CZ:Fn):Lp:=A0 PG (Qcl CZ) 64 2 (AY PG 158 2) Qy1 Qva
def Q7y (CZ:Fn) (N2:Lp):Cfg:=(Qcl CZ).loop 2 Qy1 Qva N2
def Qf3 (CZ:Fn) (N2:Lp):Fn:=An PG (Q7y CZ N2) 64 158 WL UP
theorem Z23 (CZ:Fn) (v0:Rw) (v1 v2 v3 v4 v5:Int) (v6 v7 v8:Bool):R9 CZ [.view kPt v0,I v1,I v2,I v3,I v4,I v5,B v6,B v7,B v8]=
 bif decide (v3<(v0.length:Int))then
 bif decide (0<=v3)&&decide (v3<(v0.length:Int))then
 (CZ [jA (nth [] v0 v3.toNat) 0,jA (nth [] v0 v3.toNat) 1,jA (nth [] v0 v3.toNat) 2,I v4,I v5,B v6,B v7,B v8]).bind λo2=>
 bif bA o2 0 then
 bif decide (v2<=gA (nth [] v0 v3.toNat) 0)then
 bif decide (gA (nth [] v0 v3.toNat) 0<=v1)then
 some (1,[jA (nth [] v0 v3.toNat) 0,I v3])
 else
 some (0,[.view kPt v0,I v1,I v2,I (wrap .i64 (v3+1)),I v4,I v5,B v6,B v7,B v8])
 else
 some (0,[.view kPt v0,I v1,I v2,I (wrap .i64 (v3+1)),I v4,I v5,B v6,B v7,B v8])
 else
 some (0,[.view kPt v0,I v1,I v2,I (wrap .i64 (v3+1)),I v4,I v5,B v6,B v7,B v8])
 else
 none
 else
 some (2,[I v1]):=by kernel_rfl
theorem Zwq (CZ:Fn) (N2:Lp) (x0:Rw) (x1 x2 x3:Int) (x4 x5 x6:Bool) (x7 x8:Int):Qf3 CZ N2 [.view kPt x0,I x1,I x2,I x3,B x4,B x5,B x6,I x7,I x8]=
 (N2 [.view kPt x0,I x7,I x8,I (mx x1 0),I x2,I x3,B x4,B x5,B x6]).bind λo3=>
 bif o3.1.beq 1 then
 some [jA o3.2 0,jA o3.2 1]
 else
 bif o3.1.beq 2 then
 some [jA o3.2 0,I (-1)]
 else
 none:=by kernel_rfl
def Qv9:=Am (R9 In)
def O8:=Qf3 In Qv9
theorem Q7q:Aj PG (Qcl In):=Ap rfl ⟨Zab,trivial⟩
theorem Zyn:Al PG (158,Ad WL UP O8):=rw2 (C:=(Q7y In Qv9)) (fl fb Q7q) Q7q
def Zxd (M:Fn):Nat×Spec:=(157,Ad Qe1 Qn1 M)
def Qrw:Sk:=⟨[td,tf [ci]]++dd 11++[tf [CS.sl At],tf [ci],tf [ci]]++dd 28,[],[]⟩
def Qq0:List (Ex×Sk):=[(Ex.ret,⟨[td,td,td,td,tf [ci]]++dd 39,[],[]⟩),(Ex.exit 0,⟨[td]++dd 43,[],[]⟩)]
def Pj:Lp:=A0 PG WB 64 4 (AY PG 157 4) Qrw Qq0
def Q4p (N4:Lp):Cfg:=WB.loop 4 Qrw Qq0 N4
def Qui (N4:Lp):Fn:=An PG (Q4p N4) 64 157 Qe1 Qn1
theorem Quj (v0:Int) (v1:Rw) (v2 v3:Int):Pj [I v0, .view At v1,I v2,I v3]=
 bif decide (v3<v2)then
 bif decide (0<=v3)&&decide (v3<(v1.length:Int))then
 bif gA (nth [] v1 v3.toNat) 3 !=0 then
 bif decide (0<=wrap .i64 (wrap .i64 (v0-gA (nth [] v1 v3.toNat) 2)*gA (nth [] v1 v3.toNat) 3))then
 bif decide (wrap .i64 (wrap .i64 (v0-gA (nth [] v1 v3.toNat) 2)*gA (nth [] v1 v3.toNat) 3)<=gA (nth [] v1 v3.toNat) 1)then
 some (1,[I (wrap .i64 (gA (nth [] v1 v3.toNat) 0+wrap .i64 (wrap .i64 (v0-gA (nth [] v1 v3.toNat) 2)*gA (nth [] v1 v3.toNat) 3)))])
 else
 some (0,[I v0, .view At v1,I v2,I (wrap .i64 (v3+1))])
 else
 some (0,[I v0, .view At v1,I v2,I (wrap .i64 (v3+1))])
 else
 some (0,[I v0, .view At v1,I v2,I (wrap .i64 (v3+1))])
 else
 none
 else
 some (2,[]):=by kernel_rfl
theorem Ziz (N4:Lp) (x0:Rw) (x1 x2 x3 x4 x5 x6:Int):Qui N4 [.view At x0,I x1,I x2,I x3,I x4,I x5,I x6]=
 bif x6==x2 then
 some [I 0]
 else
 (N4 [I x6, .view At x0,I (x0.length:Int),I 0]).bind λo1=>
 bif o1.1.beq 1 then
 some [jA o1.2 0]
 else
 bif o1.1.beq 2 then
 some [I (-1)]
 else
 none:=by kernel_rfl
def K4:=Am (Pj)
def Om:=Qui K4
theorem Zrn:Al PG (157,Ad Qe1 Qn1 Om):=rw2 (C:=(Q4p K4)) (fl fb Z0p) Z0p
def VC:Sk:=⟨[TS.tup [(false,[ci]),(false,[ci])]],[(20000,119,cS)],[]⟩
def Zm6 (M:Fn):Nat×Spec:=(106,Ad YQ VC M)
def Qgm (H6 HB A7 By:Fn):Cfg:=cf [Z04 H6,Zxd HB,QY A7,YU By]
def Qlt (H6 HB A7 By:Fn):Fn:=An PG (Qgm H6 HB A7 By) 64 106 YQ VC
abbrev RL (By:Fn) (K:Kf) (c:Cv) (A7 HB H6:Fn) (h1_0:AC):Option (List AC):=
 (By [I K.pa,I K.pb,I K.pc,I c.m0,I c.m1,I c.m2,I c.m3,I c.m4,I c.m5]).bind λo14=>
 (A7 (A_ K.t++[I (wrap .i64 ((wrap .i64 (wrap .i64 (gA o14 0+256)-1)).tdiv 256))])).bind λo15=>
 (HB (A_ K.t++[jA o15 0])).bind λo16=>
 bif gA o16 0 !=wrap .i64 ((wrap .i64 (wrap .i64 (gA o14 0+256)-1)).tdiv 256)then
 (H6 [.view kPt (K.p.aC.map Au),I c.next,I c.o0,I c.o1,B c.o2,B c.o3,B c.o4,h1_0,I (wrap .i64 (gA o15 0+1))]).bind λo17=>
 (HB (A_ K.t++[jA o17 0])).bind λo18=>
 some (jA o18 0::jA o17 1::Ac K c)
 else
 (H6 [.view kPt (K.p.aC.map Au),I c.next,I c.o0,I c.o1,B c.o2,B c.o3,B c.o4,h1_0,jA o15 0]).bind λo19=>
 (HB (A_ K.t++[jA o19 0])).bind λo20=>
 some (jA o20 0::jA o19 1::Ac K c)
theorem Zk5 (H6 HB A7 By:Fn) (K:Kf) (c:Cv):Qlt H6 HB A7 By (Ac K c)=
 bif K.closed then
 RL By K c A7 HB H6 (I K.len)
 else
 RL By K c A7 HB H6 (I K.set):=by kernel_rfl
def Pm:=Qlt O8 Om Dr DY
theorem Zqt:Aj PG (Qgm O8 Om Dr DY):=Ap rfl ⟨Zyn,Zrn,QK,Qnb,trivial⟩
theorem Zna:Al PG (106,Ad YQ VC Pm):=rw1 (C:=(Qgm O8 Om Dr DY)) Zqt
def Zxn (M:Fn):Nat×Spec:=(70,Ad YQ Wv M)
def ZB (Ji Dl OS NE:Fn):Cfg:=cp [Zr8 Ji,X_ Dl,Zox OS,Zm6 NE] [109,108,107,106]
def Qb7 (Ji Dl OS NE:Fn):Fn:=An PG (ZB Ji Dl OS NE) 64 70 YQ Wv
theorem Zp8 (Ji Dl OS NE:Fn) (K:Kf) (c:Cv):Qb7 Ji Dl OS NE (Ac K c)=
 (NE (Ac K c)).bind λo7=>
 bif bA o7 90 then
 bif gA o7 52==wrap .i64 (gA o7 0*256)then
 bif decide (gA o7 1>=0)then
 (OS (jA o7 1::cR 2 o7)).bind λo8=>
 bif decide (0<=gA o7 1)&&decide (gA o7 1<(↑(wA o8 42).length:Int))then
 bif Ag (nth .dead (nth [] (wA o8 42) (gA o7 1).toNat) 2)==gA o8 80 then
 bif decide (0<=Ag (nth .dead (nth [] (wA o8 42) (gA o7 1).toNat) 2))&&decide (Ag (nth .dead (nth [] (wA o8 42) (gA o7 1).toNat) 2)<(↑(wA o8 36).length:Int))then
 bif Ag (nth .dead (nth [] (wA o8 36) (Ag (nth .dead (nth [] (wA o8 42) (gA o7 1).toNat) 2)).toNat) 0)==5 then
 bif gA o8 83==1 then
 (Dl (cR 1 o8)).bind λo9=>
 some (jA o8 0::cR 0 o9)
 else
 some (jA o8 0::cR 1 o8)
 else
 some (jA o8 0::cR 1 o8)
 else
 none
 else
 some (jA o8 0::cR 1 o8)
 else
 none
 else
 bif bA o7 38 then
 some (I 7::DK (cR 2 o7) [(78,I 7)])
 else
 some (I 1::cR 2 o7)
 else
 bif gA o7 63 !=0 then
 (Ji (jA o7 0::cR 2 o7)).bind λo10=>
 bif bA o7 90 then
 some (I 6::cR 0 o10)
 else
 some (I 1::cR 0 o10)
 else
 (Ji (jA o7 0::cR 2 o7)).bind λo11=>
 some (I 1::cR 0 o11)
 else
 bif gA o7 63 !=0 then
 (Ji (jA o7 0::cR 2 o7)).bind λo12=>
 bif bA o7 90 then
 some (I 6::cR 0 o12)
 else
 some (I 1::cR 0 o12)
 else
 (Ji (jA o7 0::cR 2 o7)).bind λo13=>
 some (I 1::cR 0 o13):=by kernel_rfl
def LJ:=Qb7 PD GP P6 Pm
theorem Z3d:Aj PG (ZB PD GP P6 Pm):=Ap rfl ⟨Zpx,X1,Zux,Zna,trivial⟩
theorem Zh6:Al PG (70,Ad YQ Wv LJ):=rw1 (C:=(ZB PD GP P6 Pm)) Z3d
def Q2z (M:Fn):Nat×Spec:=(59,Ad Qn1 UE M)
def Vp:Fn:=An PG WB 64 59 Qn1 UE
theorem Za9 (x0:Int):Vp [I x0]=
 some [I (wrap .i64 (x0*256)),I 0,I 0,I (wrap .i64 (x0*256)),I (wrap .i64 (x0*256)),I (wrap .i64 (x0*256))]:=by kernel_rfl
def IX:=Vp
theorem Q06:Al PG (59,Ad Qn1 UE IX):=rw1 (C:=WB) Z0p
def Qhd:Sk:=⟨[TS.v true (cc 9++[CS.sl Aa]++cc 9++[CS.sl Aa]++cc 9++[CS.sl Aa]),TS.v true [ci,ci,ci],TS.v true [ci,ci,ci]],[],[]⟩
def Z2w (M:Fn):Nat×Spec:=(95,Ad Qhd Qn1 M)
def Qud:Fn:=An PG Qbq 64 95 Qhd Qn1
theorem Zir (x0 x1 x2 x3 x4 x5 x6 x7 x8:Int) (x9:Rw) (x10 x11 x12 x13 x14 x15 x16 x17 x18:Int) (x19:Rw) (x20 x21 x22 x23 x24 x25 x26 x27 x28:Int) (x29:Rw) (x30 x31 x32 x33 x34 x35:Int):Qud [I x0,I x1,I x2,I x3,I x4,I x5,I x6,I x7,I x8, .view Aa x9,I x10,I x11,I x12,I x13,I x14,I x15,I x16,I x17,I x18, .view Aa x19,I x20,I x21,I x22,I x23,I x24,I x25,I x26,I x27,I x28, .view Aa x29,I x30,I x31,I x32,I x33,I x34,I x35]=
 bif x30 !=x33 then
 bif x31 !=x34 then
 bif x32 !=x35 then
 some [I (mx (mx (mx 0 x6) x16) x26)]
 else
 some [I (mx (mx 0 x6) x16)]
 else
 bif x32 !=x35 then
 some [I (mx (mx 0 x6) x26)]
 else
 some [I (mx 0 x6)]
 else
 bif x31 !=x34 then
 bif x32 !=x35 then
 some [I (mx (mx 0 x16) x26)]
 else
 some [I (mx 0 x16)]
 else
 bif x32 !=x35 then
 some [I (mx 0 x26)]
 else
 some [I 0]:=by kernel_rfl
def OI:=Qud
theorem Z4p:Al PG (95,Ad Qhd Qn1 OI):=rw1 (C:=Qbq) Zcu
def Ztb (M:Fn):Nat×Spec:=(94,Ad Qh3 Qh1 M)
def Qrl:Fn:=An PG Qkd 64 94 Qh3 Qh1
abbrev S_ (x8 x5:Int) (h1_0:AC) (x9 x2:Int) (h2_0:AC):Option (List AC):=
 bif decide (x8>x5)then
 some [h1_0,h2_0,I x9]
 else
 bif decide (x8<x5)then
 some [h1_0,h2_0,I (wrap .i64 (0-x9))]
 else
 some [h1_0,h2_0,I x2]
abbrev T0 (x7 x4 x8 x5 x9 x2 x1:Int) (h1_0:AC):Option (List AC):=
 bif decide (x7>x4)then
 S_ x8 x5 h1_0 x9 x2 (I x9)
 else
 bif decide (x7<x4)then
 S_ x8 x5 h1_0 x9 x2 (I (wrap .i64 (0-x9)))
 else
 S_ x8 x5 h1_0 x9 x2 (I x1)
theorem Z15 (x0 x1 x2 x3 x4 x5 x6 x7 x8 x9:Int):Qrl [I x0,I x1,I x2,I x3,I x4,I x5,I x6,I x7,I x8,I x9]=
 bif decide (x6>x3)then
 T0 x7 x4 x8 x5 x9 x2 x1 (I x9)
 else
 bif decide (x6<x3)then
 T0 x7 x4 x8 x5 x9 x2 x1 (I (wrap .i64 (0-x9)))
 else
 T0 x7 x4 x8 x5 x9 x2 x1 (I x0):=by kernel_rfl
def OT:=Qrl
theorem Z0w:Al PG (94,Ad Qh3 Qh1 OT):=rw1 (C:=Qkd) Zft
def Qhj:Sk:=⟨[TS.v true (cc 10),tf [CS.ptr 20000 0]],[(20000,62,[CS.own 20000 10]++cc 5)],[(20000,135,At)]⟩
def Qes:Sk:=⟨[TS.tup []],[(20000,62,[CS.own 20000 10]++cc 5)],[(20000,135,At)]⟩
def Q8w (M:Fn):Nat×Spec:=(92,Ad Qhj Qes M)
def Qah:Fn:=An PG WB 64 92 Qhj Qes
theorem Q60 (x0:Rw) (x1 x2 x3 x4 x5 x6 x7 x8 x9 x10 x11 x12 x13 x14 x15:Int):Qah [.view At x0,I x1,I x2,I x3,I x4,I x5,I x6,I x7,I x8,I x9,I x10,I x11,I x12,I x13,I x14,I x15]=
 bif decide ((x0.length:Int)>0)then
 bif x4 !=0 then
 bif decide (0<=wrap .i64 ((x0.length:Int)-1))&&decide (wrap .i64 ((x0.length:Int)-1)<(x0.length:Int))then
 bif gA (nth [] x0 (wrap .i64 ((x0.length:Int)-1)).toNat) 3==x4 then
 bif decide (0<=wrap .i64 ((x0.length:Int)-1))&&decide (wrap .i64 ((x0.length:Int)-1)<(x0.length:Int))then
 bif gA (nth [] x0 (wrap .i64 ((x0.length:Int)-1)).toNat) 7==x8&&(gA (nth [] x0 (wrap .i64 ((x0.length:Int)-1)).toNat) 8==x9&&(gA (nth [] x0 (wrap .i64 ((x0.length:Int)-1)).toNat) 9==x10&&true))then
 bif decide (0<=wrap .i64 ((x0.length:Int)-1))&&decide (wrap .i64 ((x0.length:Int)-1)<(x0.length:Int))then
 bif decide (0<=wrap .i64 ((x0.length:Int)-1))&&decide (wrap .i64 ((x0.length:Int)-1)<(x0.length:Int))then
 some [.view At (x0.set (wrap .i64 ((x0.length:Int)-1)).toNat [jA (nth [] x0 (wrap .i64 ((x0.length:Int)-1)).toNat) 0,I (wrap .i64 (gA (nth [] x0 (wrap .i64 ((x0.length:Int)-1)).toNat) 1+x2)),jA (nth [] x0 (wrap .i64 ((x0.length:Int)-1)).toNat) 2,jA (nth [] x0 (wrap .i64 ((x0.length:Int)-1)).toNat) 3,jA (nth [] x0 (wrap .i64 ((x0.length:Int)-1)).toNat) 4,jA (nth [] x0 (wrap .i64 ((x0.length:Int)-1)).toNat) 5,jA (nth [] x0 (wrap .i64 ((x0.length:Int)-1)).toNat) 6,jA (nth [] x0 (wrap .i64 ((x0.length:Int)-1)).toNat) 7,jA (nth [] x0 (wrap .i64 ((x0.length:Int)-1)).toNat) 8,jA (nth [] x0 (wrap .i64 ((x0.length:Int)-1)).toNat) 9]),I (wrap .i64 (x11+x2)),I x12,I x13,I x14,I x15]
 else
 none
 else
 none
 else
 bif((x0++[[I x11,I x2,I x3,I x4,I x5,I x6,I x7,I x8,I x9,I x10]]).length*80).ble 140737488355328 then
 some [.view At (x0++[[I x11,I x2,I x3,I x4,I x5,I x6,I x7,I x8,I x9,I x10]]),I (wrap .i64 (x11+x2)),I x12,I x13,I x14,I x15]
 else
 none
 else
 none
 else
 bif((x0++[[I x11,I x2,I x3,I x4,I x5,I x6,I x7,I x8,I x9,I x10]]).length*80).ble 140737488355328 then
 some [.view At (x0++[[I x11,I x2,I x3,I x4,I x5,I x6,I x7,I x8,I x9,I x10]]),I (wrap .i64 (x11+x2)),I x12,I x13,I x14,I x15]
 else
 none
 else
 none
 else
 bif((x0++[[I x11,I x2,I x3,I x4,I x5,I x6,I x7,I x8,I x9,I x10]]).length*80).ble 140737488355328 then
 some [.view At (x0++[[I x11,I x2,I x3,I x4,I x5,I x6,I x7,I x8,I x9,I x10]]),I (wrap .i64 (x11+x2)),I x12,I x13,I x14,I x15]
 else
 none
 else
 bif((x0++[[I x11,I x2,I x3,I x4,I x5,I x6,I x7,I x8,I x9,I x10]]).length*80).ble 140737488355328 then
 some [.view At (x0++[[I x11,I x2,I x3,I x4,I x5,I x6,I x7,I x8,I x9,I x10]]),I (wrap .i64 (x11+x2)),I x12,I x13,I x14,I x15]
 else
 none:=by kernel_rfl
def Mg:=Qah
theorem Q3k:Al PG (92,Ad Qhj Qes Mg):=rw1 (C:=WB) Z0p
def UO:Sk:=⟨[TS.v true [ci,ci,ci],TS.v true [ci,ci,ci],tf [ci],tf [ci],tf [CS.ptr 20000 0],tf [CS.ptr 20001 0],tf [CS.ptr 20002 0],tf [CS.ptr 20003 0]],[(20000,44,[ci,ci,ci]),(20001,3,[ci]),(20002,27,cc 9++[CS.sl Aa]++cc 9++[CS.sl Aa]++cc 9++[CS.sl Aa]),(20003,153,[CS.clo 92 [] [(20004,0)]]),(20004,62,[CS.own 20000 10]++cc 5)],[(20000,135,At)]⟩
def Qjq:Sk:=⟨[TS.tup []],[(20000,44,[ci,ci,ci]),(20001,3,[ci]),(20002,27,cc 9++[CS.sl Aa]++cc 9++[CS.sl Aa]++cc 9++[CS.sl Aa]),(20003,153,[CS.clo 92 [] [(20004,0)]]),(20004,62,[CS.own 20000 10]++cc 5)],[(20000,135,At)]⟩
def Qp5 (M:Fn):Nat×Spec:=(93,Ad UO Qjq M)
def WQ (NS NM FP:Fn):Cfg:=cp [Z2w NS,Ztb NM,Q8w FP] [92]
def Qea (NS NM FP:Fn):Fn:=An PG (WQ NS NM FP) 64 93 UO Qjq
theorem Zbj (NS NM FP:Fn) (x0:Rw) (x1 x2 x3 x4 x5 x6 x7 x8 x9 x10 x11 x12 x13 x14 x15 x16 x17 x18 x19 x20 x21:Int) (x22:Rw) (x23 x24 x25 x26 x27 x28 x29 x30 x31:Int) (x32:Rw) (x33 x34 x35 x36 x37 x38 x39 x40 x41:Int) (x42:Rw) (x43 x44 x45 x46 x47:Int):Qea NS NM FP [.view At x0,I x1,I x2,I x3,I x4,I x5,I x6,I x7,I x8,I x9,I x10,I x11,I x12,I x13,I x14,I x15,I x16,I x17,I x18,I x19,I x20,I x21, .view Aa x22,I x23,I x24,I x25,I x26,I x27,I x28,I x29,I x30,I x31, .view Aa x32,I x33,I x34,I x35,I x36,I x37,I x38,I x39,I x40,I x41, .view Aa x42,I x43,I x44,I x45,I x46,I x47]=
 (NM [I x9,I x10,I x11,I x1,I x2,I x3,I x4,I x5,I x6,I x12]).bind λo5=>
 (NS [I x13,I x14,I x15,I x16,I x17,I x18,I x19,I x20,I x21, .view Aa x22,I x23,I x24,I x25,I x26,I x27,I x28,I x29,I x30,I x31, .view Aa x32,I x33,I x34,I x35,I x36,I x37,I x38,I x39,I x40,I x41, .view Aa x42,I x9,I x10,I x11,jA o5 0,jA o5 1,jA o5 2]).bind λo6=>
 bif decide (gA o6 0>0)then
 (FP [.view At x0,I 0,jA o6 0,I x7,I 0,I x9,I x10,I x11,jA o5 0,jA o5 1,jA o5 2,I x43,I x44,I x45,I x46,I x47]).bind λo7=>
 (FP [.view At (wA o7 0),I 0,I x8,I x7,I x12,jA o5 0,jA o5 1,jA o5 2,jA o5 0,jA o5 1,jA o5 2,jA o7 1,jA o7 2,jA o7 3,jA o7 4,jA o7 5]).bind λo8=>
 some [.view At (wA o8 0),jA o5 0,jA o5 1,jA o5 2,I x12,I x13,I x14,I x15,I x16,I x17,I x18,I x19,I x20,I x21, .view Aa x22,I x23,I x24,I x25,I x26,I x27,I x28,I x29,I x30,I x31, .view Aa x32,I x33,I x34,I x35,I x36,I x37,I x38,I x39,I x40,I x41, .view Aa x42,jA o8 1,jA o8 2,jA o8 3,jA o8 4,jA o8 5]
 else
 (FP [.view At x0,I 0,I x8,I x7,I x12,jA o5 0,jA o5 1,jA o5 2,jA o5 0,jA o5 1,jA o5 2,I x43,I x44,I x45,I x46,I x47]).bind λo9=>
 some [.view At (wA o9 0),jA o5 0,jA o5 1,jA o5 2,I x12,I x13,I x14,I x15,I x16,I x17,I x18,I x19,I x20,I x21, .view Aa x22,I x23,I x24,I x25,I x26,I x27,I x28,I x29,I x30,I x31, .view Aa x32,I x33,I x34,I x35,I x36,I x37,I x38,I x39,I x40,I x41, .view Aa x42,jA o9 1,jA o9 2,jA o9 3,jA o9 4,jA o9 5]:=by kernel_rfl
def FR:=Qea OI OT Mg
theorem Z0h:Aj PG (WQ OI OT Mg):=Ap rfl ⟨Z4p,Z0w,Q3k,trivial⟩
theorem Qyy:Al PG (93,Ad UO Qjq FR):=rw1 (C:=(WQ OI OT Mg)) Z0h
def Qlv:Sk:=⟨[TS.v true [ci,ci,ci,CS.sl Ai,CS.sl kPt],tf [ci],tf [ci],tf [ci],tf [CS.clo 93 [] [(20000,0),(20001,0),(20002,0),(20003,0)]]],[(20000,44,[ci,ci,ci]),(20001,3,[ci]),(20002,27,cc 9++[CS.sl Aa]++cc 9++[CS.sl Aa]++cc 9++[CS.sl Aa]),(20003,153,[CS.clo 92 [] [(20004,0)]]),(20004,62,[CS.own 20000 10]++cc 5)],[(20000,135,At)]⟩
def Zn4 (M:Fn):Nat×Spec:=(96,Ad Qlv Qjq M)
def Qky (BX:Fn):Cfg:={cp [Qp5 BX] [93]with prom:=λb=>bif Nat.beq b 4 then [(11,3)]else []}
def Q3p:Sk:=⟨[td,tf [ci],tf [ci],tf [ci],tf [CS.clo 93 [] [(20000,0),(20001,0),(20002,0),(20003,0)]],tf [CS.ptr 5 0],td,td,td,td,tf [ci],tf [CS.own 11 1]]++dd 9++[tf [CS.sl Ai],tf [ci],tf [ci]]++dd 78,[(5,58,[ci,ci,ci,CS.sl Ai,CS.sl kPt]),(20000,44,[ci,ci,ci]),(20001,3,[ci]),(20002,27,cc 9++[CS.sl Aa]++cc 9++[CS.sl Aa]++cc 9++[CS.sl Aa]),(20003,153,[CS.clo 92 [] [(20004,0)]]),(20004,62,[CS.own 20000 10]++cc 5)],[(11,3,Aa),(20000,135,At)]⟩
def Qpz:List (Ex×Sk):=[(Ex.exit 0,⟨[td,tf [ci],tf [ci],tf [ci],tf [CS.clo 93 [] [(20000,0),(20001,0),(20002,0),(20003,0)]],tf [CS.ptr 5 0],td,td,td,td,td,tf [CS.own 11 1]]++dd 90,[(5,58,[ci,ci,ci,CS.sl Ai,CS.sl kPt]),(20000,44,[ci,ci,ci]),(20001,3,[ci]),(20002,27,cc 9++[CS.sl Aa]++cc 9++[CS.sl Aa]++cc 9++[CS.sl Aa]),(20003,153,[CS.clo 92 [] [(20004,0)]]),(20004,62,[CS.own 20000 10]++cc 5)],[(11,3,Aa),(20000,135,At)]⟩)]
def Sa (BX:Fn):Lp:=A0 PG (Qky BX) 64 4 (AY PG 96 4) Q3p Qpz
def Qwl (BX:Fn) (N4:Lp):Cfg:=(Qky BX).loop 4 Q3p Qpz N4
def Qxf:Sk:=⟨[td,tf [ci],tf [ci],tf [ci],tf [CS.clo 93 [] [(20000,0),(20001,0),(20002,0),(20003,0)]],tf [CS.ptr 5 0],td,td,td,td,td,tf [CS.own 11 1]]++dd 26++[tf [ci],tf [ci]]++dd 62,[(5,58,[ci,ci,ci,CS.sl Ai,CS.sl kPt]),(20000,44,[ci,ci,ci]),(20001,3,[ci]),(20002,27,cc 9++[CS.sl Aa]++cc 9++[CS.sl Aa]++cc 9++[CS.sl Aa]),(20003,153,[CS.clo 92 [] [(20004,0)]]),(20004,62,[CS.own 20000 10]++cc 5)],[(11,3,Aa),(20000,135,At)]⟩
def Q23:List (Ex×Sk):=[(Ex.exit 2,⟨[td]++dd 101,[(20000,44,[ci,ci,ci]),(20001,3,[ci]),(20002,27,cc 9++[CS.sl Aa]++cc 9++[CS.sl Aa]++cc 9++[CS.sl Aa]),(20003,153,[CS.clo 92 [] [(20004,0)]]),(20004,62,[CS.own 20000 10]++cc 5)],[(20000,135,At)]⟩)]
def RX (BX:Fn) (N4:Lp):Lp:=A0 PG (Qwl BX N4) 64 10 (AY PG 96 10) Qxf Q23
def Q44 (BX:Fn) (N4 N10:Lp):Cfg:=(Qwl BX N4).loop 10 Qxf Q23 N10
def Qdk (BX:Fn) (N4 N10:Lp):Fn:=An PG (Q44 BX N4 N10) 64 96 Qlv Qjq
theorem Qp1 (BX:Fn) (v0 v1:Rw) (v2 v3 v4 v5:Int) (v6:Rw) (v7 v8 v9 v10 v11:Int) (v12 v13:Rw) (v14 v15 v16 v17 v18 v19 v20 v21 v22 v23 v24 v25 v26:Int) (v27:Rw) (v28 v29 v30 v31 v32 v33 v34 v35 v36:Int) (v37:Rw) (v38 v39 v40 v41 v42 v43 v44 v45 v46:Int) (v47:Rw) (v48 v49 v50 v51 v52:Int):Sa BX [.view Aa v0, .view At v1,I v2,I v3,I v4,I v5, .view Ai v6,I v7,I v8,I v9,I v10,I v11, .view Ai v12, .view kPt v13,I v14,I v15,I v16,I v17,I v18,I v19,I v20,I v21,I v22,I v23,I v24,I v25,I v26, .view Aa v27,I v28,I v29,I v30,I v31,I v32,I v33,I v34,I v35,I v36, .view Aa v37,I v38,I v39,I v40,I v41,I v42,I v43,I v44,I v45,I v46, .view Aa v47,I v48,I v49,I v50,I v51,I v52]=
 bif decide (v8<v7)then
 bif decide (0<=v8)&&decide (v8<(v6.length:Int))then
 bif((v0++[[I v5]]).length*8).ble 140737488355328 then
 some (0,[.view Aa (v0++[[I v5]]), .view At v1,I v2,I v3,I v4,I (wrap .i64 (v5+gA (nth [] v6 v8.toNat) 3)), .view Ai v6,I v7,I (wrap .i64 (v8+1)),I v9,I v10,I v11, .view Ai v12, .view kPt v13,I v14,I v15,I v16,I v17,I v18,I v19,I v20,I v21,I v22,I v23,I v24,I v25,I v26, .view Aa v27,I v28,I v29,I v30,I v31,I v32,I v33,I v34,I v35,I v36, .view Aa v37,I v38,I v39,I v40,I v41,I v42,I v43,I v44,I v45,I v46, .view Aa v47,I v48,I v49,I v50,I v51,I v52])
 else
 none
 else
 none
 else
 some (1,[.view Aa v0, .view At v1,I v2,I v3,I v4,I v9,I v10,I v11, .view Ai v12, .view kPt v13,I v14,I v15,I v16,I v17,I v18,I v19,I v20,I v21,I v22,I v23,I v24,I v25,I v26, .view Aa v27,I v28,I v29,I v30,I v31,I v32,I v33,I v34,I v35,I v36, .view Aa v37,I v38,I v39,I v40,I v41,I v42,I v43,I v44,I v45,I v46, .view Aa v47,I v48,I v49,I v50,I v51,I v52]):=by kernel_rfl
abbrev Pp (h1_1:Bool) (BX:Fn) (v1:Rw) (h1_8 h1_9 h1_10 h1_12:AC) (v12 v13 v14 v15 v16 v17 v18 v19 v20 v21 v22 v23 v24:Int) (v25:Rw) (v26 v27 v28 v29 v30 v31 v32 v33 v34:Int) (v35:Rw) (v36 v37 v38 v39 v40 v41 v42 v43 v44:Int) (v45:Rw) (v46 v47 v48 v49 v50:Int) (v0:Rw) (v2 v3 v4 v5 v6 v7 v8 v9:Int) (v10 v11:Rw) (h2_0 h2_1 h2_2 h2_3:AC):Option (Nat×List AC):=
 bif h1_1 then
 (BX [.view At v1,h2_0,h2_1,h2_2,h1_8,h1_9,h1_10,h2_3,h1_12,I v12,I v13,I v14,I v15,I v16,I v17,I v18,I v19,I v20,I v21,I v22,I v23,I v24, .view Aa v25,I v26,I v27,I v28,I v29,I v30,I v31,I v32,I v33,I v34, .view Aa v35,I v36,I v37,I v38,I v39,I v40,I v41,I v42,I v43,I v44, .view Aa v45,I v46,I v47,I v48,I v49,I v50]).bind λo11=>
 some (0,[.view Aa v0, .view At (wA o11 0),I v2,I v3,I v4,I v5,I (wrap .i64 (v6+1)),I v7,I v8,I v9, .view Ai v10, .view kPt v11,jA o11 1,jA o11 2,jA o11 3,jA o11 4,jA o11 5,jA o11 6,jA o11 7,jA o11 8,jA o11 9,jA o11 10,jA o11 11,jA o11 12,jA o11 13, .view Aa (wA o11 14),jA o11 15,jA o11 16,jA o11 17,jA o11 18,jA o11 19,jA o11 20,jA o11 21,jA o11 22,jA o11 23, .view Aa (wA o11 24),jA o11 25,jA o11 26,jA o11 27,jA o11 28,jA o11 29,jA o11 30,jA o11 31,jA o11 32,jA o11 33, .view Aa (wA o11 34),jA o11 35,jA o11 36,jA o11 37,jA o11 38,jA o11 39])
 else
 none
abbrev Qgv (v0 v1:Rw) (v2 v3 v4 v5 v6 v7 v8 v9:Int) (v10 v11:Rw) (v12 v13 v14 v15 v16 v17 v18 v19 v20 v21 v22 v23 v24:Int) (v25:Rw) (v26 v27 v28 v29 v30 v31 v32 v33 v34:Int) (v35:Rw) (v36 v37 v38 v39 v40 v41 v42 v43 v44:Int) (v45:Rw) (v46 v47 v48 v49 v50:Int) (BX:Fn) (h1_0 h1_1 h1_2 h1_3 h1_4:Bool) (h1_5 h1_6 h1_7 h1_8 h1_9 h1_10 h1_11 h1_12 h1_13:AC):Option (Nat×List AC):=
 bif h1_0 then
 bif h1_0 then
 bif h1_1 then
 bif h1_2 then
 some (0,[.view Aa v0, .view At v1,I v2,I v3,I v4,I v5,I (wrap .i64 (v6+1)),I v7,I v8,I v9, .view Ai v10, .view kPt v11,I v12,I v13,I v14,I v15,I v16,I v17,I v18,I v19,I v20,I v21,I v22,I v23,I v24, .view Aa v25,I v26,I v27,I v28,I v29,I v30,I v31,I v32,I v33,I v34, .view Aa v35,I v36,I v37,I v38,I v39,I v40,I v41,I v42,I v43,I v44, .view Aa v45,I v46,I v47,I v48,I v49,I v50])
 else
 bif h1_3 then
 bif h1_4 then
 bif decide (v4<0)then
 Pp h1_1 BX v1 h1_8 h1_9 h1_10 h1_12 v12 v13 v14 v15 v16 v17 v18 v19 v20 v21 v22 v23 v24 v25 v26 v27 v28 v29 v30 v31 v32 v33 v34 v35 v36 v37 v38 v39 v40 v41 v42 v43 v44 v45 v46 v47 v48 v49 v50 v0 v2 v3 v4 v5 v6 v7 v8 v9 v10 v11 h1_5 h1_6 h1_7 h1_11
 else
 Pp h1_1 BX v1 h1_8 h1_9 h1_10 h1_12 v12 v13 v14 v15 v16 v17 v18 v19 v20 v21 v22 v23 v24 v25 v26 v27 v28 v29 v30 v31 v32 v33 v34 v35 v36 v37 v38 v39 v40 v41 v42 v43 v44 v45 v46 v47 v48 v49 v50 v0 v2 v3 v4 v5 v6 v7 v8 v9 v10 v11 h1_5 h1_6 h1_7 h1_13
 else
 none
 else
 bif decide (v4<0)then
 Pp h1_1 BX v1 h1_8 h1_9 h1_10 h1_12 v12 v13 v14 v15 v16 v17 v18 v19 v20 v21 v22 v23 v24 v25 v26 v27 v28 v29 v30 v31 v32 v33 v34 v35 v36 v37 v38 v39 v40 v41 v42 v43 v44 v45 v46 v47 v48 v49 v50 v0 v2 v3 v4 v5 v6 v7 v8 v9 v10 v11 (I v7) (I v8) (I v9) h1_11
 else
 Pp h1_1 BX v1 h1_8 h1_9 h1_10 h1_12 v12 v13 v14 v15 v16 v17 v18 v19 v20 v21 v22 v23 v24 v25 v26 v27 v28 v29 v30 v31 v32 v33 v34 v35 v36 v37 v38 v39 v40 v41 v42 v43 v44 v45 v46 v47 v48 v49 v50 v0 v2 v3 v4 v5 v6 v7 v8 v9 v10 v11 (I v7) (I v8) (I v9) h1_13
 else
 none
 else
 none
 else
 none
theorem Q3m (BX:Fn) (N4:Lp) (v0 v1:Rw) (v2 v3 v4 v5 v6 v7 v8 v9:Int) (v10 v11:Rw) (v12 v13 v14 v15 v16 v17 v18 v19 v20 v21 v22 v23 v24:Int) (v25:Rw) (v26 v27 v28 v29 v30 v31 v32 v33 v34:Int) (v35:Rw) (v36 v37 v38 v39 v40 v41 v42 v43 v44:Int) (v45:Rw) (v46 v47 v48 v49 v50:Int):RX BX N4 [.view Aa v0, .view At v1,I v2,I v3,I v4,I v5,I v6,I v7,I v8,I v9, .view Ai v10, .view kPt v11,I v12,I v13,I v14,I v15,I v16,I v17,I v18,I v19,I v20,I v21,I v22,I v23,I v24, .view Aa v25,I v26,I v27,I v28,I v29,I v30,I v31,I v32,I v33,I v34, .view Aa v35,I v36,I v37,I v38,I v39,I v40,I v41,I v42,I v43,I v44, .view Aa v45,I v46,I v47,I v48,I v49,I v50]=
 bif decide (v6<v5)then
 bif decide (v4<0)then
 Qgv v0 v1 v2 v3 v4 v5 v6 v7 v8 v9 v10 v11 v12 v13 v14 v15 v16 v17 v18 v19 v20 v21 v22 v23 v24 v25 v26 v27 v28 v29 v30 v31 v32 v33 v34 v35 v36 v37 v38 v39 v40 v41 v42 v43 v44 v45 v46 v47 v48 v49 v50 BX (decide (0<=wrap .i64 (wrap .i64 ((v10.length:Int)-1)-v6))&&decide (wrap .i64 (wrap .i64 ((v10.length:Int)-1)-v6)<(v0.length:Int))) (decide (0<=wrap .i64 (wrap .i64 ((v10.length:Int)-1)-v6))&&decide (wrap .i64 (wrap .i64 ((v10.length:Int)-1)-v6)<(v10.length:Int))) (decide (mx (Ag (nth .dead (nth [] v0 (wrap .i64 (wrap .i64 ((v10.length:Int)-1)-v6)).toNat) 0)) v2>=mn (wrap .i64 (Ag (nth .dead (nth [] v0 (wrap .i64 (wrap .i64 ((v10.length:Int)-1)-v6)).toNat) 0)+Ag (nth .dead (nth [] v10 (wrap .i64 (wrap .i64 ((v10.length:Int)-1)-v6)).toNat) 3))) v3)) (decide (wrap .i64 (wrap .i64 ((v10.length:Int)-1)-v6)>0)) (decide (0<=wrap .i64 (wrap .i64 (wrap .i64 ((v10.length:Int)-1)-v6)-1))&&decide (wrap .i64 (wrap .i64 (wrap .i64 ((v10.length:Int)-1)-v6)-1)<(v10.length:Int))) (I (Ag (nth .dead (nth [] v10 (wrap .i64 (wrap .i64 (wrap .i64 ((v10.length:Int)-1)-v6)-1)).toNat) 0))) (I (Ag (nth .dead (nth [] v10 (wrap .i64 (wrap .i64 (wrap .i64 ((v10.length:Int)-1)-v6)-1)).toNat) 1))) (I (Ag (nth .dead (nth [] v10 (wrap .i64 (wrap .i64 (wrap .i64 ((v10.length:Int)-1)-v6)-1)).toNat) 2))) (I (Ag (nth .dead (nth [] v10 (wrap .i64 (wrap .i64 ((v10.length:Int)-1)-v6)).toNat) 0))) (I (Ag (nth .dead (nth [] v10 (wrap .i64 (wrap .i64 ((v10.length:Int)-1)-v6)).toNat) 1))) (I (Ag (nth .dead (nth [] v10 (wrap .i64 (wrap .i64 ((v10.length:Int)-1)-v6)).toNat) 2))) (I (mn (wrap .i64 (Ag (nth .dead (nth [] v0 (wrap .i64 (wrap .i64 ((v10.length:Int)-1)-v6)).toNat) 0)+Ag (nth .dead (nth [] v10 (wrap .i64 (wrap .i64 ((v10.length:Int)-1)-v6)).toNat) 3))) v3)) (I (wrap .i64 (mn (wrap .i64 (Ag (nth .dead (nth [] v0 (wrap .i64 (wrap .i64 ((v10.length:Int)-1)-v6)).toNat) 0)+Ag (nth .dead (nth [] v10 (wrap .i64 (wrap .i64 ((v10.length:Int)-1)-v6)).toNat) 3))) v3-mx (Ag (nth .dead (nth [] v0 (wrap .i64 (wrap .i64 ((v10.length:Int)-1)-v6)).toNat) 0)) v2))) (I (mx (Ag (nth .dead (nth [] v0 (wrap .i64 (wrap .i64 ((v10.length:Int)-1)-v6)).toNat) 0)) v2))
 else
 Qgv v0 v1 v2 v3 v4 v5 v6 v7 v8 v9 v10 v11 v12 v13 v14 v15 v16 v17 v18 v19 v20 v21 v22 v23 v24 v25 v26 v27 v28 v29 v30 v31 v32 v33 v34 v35 v36 v37 v38 v39 v40 v41 v42 v43 v44 v45 v46 v47 v48 v49 v50 BX (decide (0<=v6)&&decide (v6<(v0.length:Int))) (decide (0<=v6)&&decide (v6<(v10.length:Int))) (decide (mx (gA (nth [] v0 v6.toNat) 0) v2>=mn (wrap .i64 (gA (nth [] v0 v6.toNat) 0+gA (nth [] v10 v6.toNat) 3)) v3)) (decide (v6>0)) (decide (0<=wrap .i64 (v6-1))&&decide (wrap .i64 (v6-1)<(v10.length:Int))) (jA (nth [] v10 (wrap .i64 (v6-1)).toNat) 0) (jA (nth [] v10 (wrap .i64 (v6-1)).toNat) 1) (jA (nth [] v10 (wrap .i64 (v6-1)).toNat) 2) (jA (nth [] v10 v6.toNat) 0) (jA (nth [] v10 v6.toNat) 1) (jA (nth [] v10 v6.toNat) 2) (I (mn (wrap .i64 (gA (nth [] v0 v6.toNat) 0+gA (nth [] v10 v6.toNat) 3)) v3)) (I (wrap .i64 (mn (wrap .i64 (gA (nth [] v0 v6.toNat) 0+gA (nth [] v10 v6.toNat) 3)) v3-mx (gA (nth [] v0 v6.toNat) 0) v2))) (I (mx (gA (nth [] v0 v6.toNat) 0) v2))
 else
 some (1,[.view At v1,I v12,I v13,I v14,I v15,I v16,I v17,I v18,I v19,I v20,I v21,I v22,I v23,I v24, .view Aa v25,I v26,I v27,I v28,I v29,I v30,I v31,I v32,I v33,I v34, .view Aa v35,I v36,I v37,I v38,I v39,I v40,I v41,I v42,I v43,I v44, .view Aa v45,I v46,I v47,I v48,I v49,I v50]):=by kernel_rfl
theorem Zht (BX:Fn) (N4 N10:Lp) (x0:Rw) (x1 x2 x3:Int) (x4 x5:Rw) (x6 x7 x8 x9 x10 x11 x12 x13 x14 x15 x16 x17 x18 x19 x20 x21:Int) (x22:Rw) (x23 x24 x25 x26 x27 x28 x29 x30 x31:Int) (x32:Rw) (x33 x34 x35 x36 x37 x38 x39 x40 x41:Int) (x42:Rw) (x43 x44 x45 x46 x47:Int):Qdk BX N4 N10 [.view At x0,I x1,I x2,I x3, .view Ai x4, .view kPt x5,I x6,I x7,I x8,I x9,I x10,I x11,I x12,I x13,I x14,I x15,I x16,I x17,I x18,I x19,I x20,I x21, .view Aa x22,I x23,I x24,I x25,I x26,I x27,I x28,I x29,I x30,I x31, .view Aa x32,I x33,I x34,I x35,I x36,I x37,I x38,I x39,I x40,I x41, .view Aa x42,I x43,I x44,I x45,I x46,I x47]=
 (N4 [.view Aa [], .view At x0,I x6,I x7,I x8,I 0, .view Ai x4,I (x4.length:Int),I 0,I x1,I x2,I x3, .view Ai x4, .view kPt x5,I x9,I x10,I x11,I x12,I x13,I x14,I x15,I x16,I x17,I x18,I x19,I x20,I x21, .view Aa x22,I x23,I x24,I x25,I x26,I x27,I x28,I x29,I x30,I x31, .view Aa x32,I x33,I x34,I x35,I x36,I x37,I x38,I x39,I x40,I x41, .view Aa x42,I x43,I x44,I x45,I x46,I x47]).bind λo19=>
 bif o19.1.beq 1 then
 (N10 [.view Aa (wA o19.2 0), .view At (wA o19.2 1),jA o19.2 2,jA o19.2 3,jA o19.2 4,I (↑(wA o19.2 8).length:Int),I 0,jA o19.2 5,jA o19.2 6,jA o19.2 7, .view Ai (wA o19.2 8), .view kPt (wA o19.2 9),jA o19.2 10,jA o19.2 11,jA o19.2 12,jA o19.2 13,jA o19.2 14,jA o19.2 15,jA o19.2 16,jA o19.2 17,jA o19.2 18,jA o19.2 19,jA o19.2 20,jA o19.2 21,jA o19.2 22, .view Aa (wA o19.2 23),jA o19.2 24,jA o19.2 25,jA o19.2 26,jA o19.2 27,jA o19.2 28,jA o19.2 29,jA o19.2 30,jA o19.2 31,jA o19.2 32, .view Aa (wA o19.2 33),jA o19.2 34,jA o19.2 35,jA o19.2 36,jA o19.2 37,jA o19.2 38,jA o19.2 39,jA o19.2 40,jA o19.2 41,jA o19.2 42, .view Aa (wA o19.2 43),jA o19.2 44,jA o19.2 45,jA o19.2 46,jA o19.2 47,jA o19.2 48]).bind λo20=>
 bif o20.1.beq 1 then
 some [.view At (wA o20.2 0),jA o20.2 1,jA o20.2 2,jA o20.2 3,jA o20.2 4,jA o20.2 5,jA o20.2 6,jA o20.2 7,jA o20.2 8,jA o20.2 9,jA o20.2 10,jA o20.2 11,jA o20.2 12,jA o20.2 13, .view Aa (wA o20.2 14),jA o20.2 15,jA o20.2 16,jA o20.2 17,jA o20.2 18,jA o20.2 19,jA o20.2 20,jA o20.2 21,jA o20.2 22,jA o20.2 23, .view Aa (wA o20.2 24),jA o20.2 25,jA o20.2 26,jA o20.2 27,jA o20.2 28,jA o20.2 29,jA o20.2 30,jA o20.2 31,jA o20.2 32,jA o20.2 33, .view Aa (wA o20.2 34),jA o20.2 35,jA o20.2 36,jA o20.2 37,jA o20.2 38,jA o20.2 39]
 else
 none
 else
 none:=by kernel_rfl
def O1:=Am (Sa FR)
def Qk4:=Am (RX FR O1)
def Q0:=Qdk FR O1 Qk4
theorem Xd:Aj PG (Qky FR):=Ap rfl ⟨Qyy,trivial⟩
theorem Zos:Al PG (96,Ad Qlv Qjq Q0):=rw2 (C:=(Q44 FR O1 Qk4)) (fl (fl fb Xd) Xd) Xd
def Qfp:Sk:=⟨[TS.v true [ci,ci,ci,CS.sl Ai,CS.sl kPt]],[],[]⟩
def Q64 (M:Fn):Nat×Spec:=(91,Ad Qfp Qn1 M)
def Q3a:Sk:=⟨[td,td,td,tf [ci],td,td,td,tf [CS.sl Ai],tf [ci],tf [ci]]++dd 9,[],[]⟩
def Qu7:List (Ex×Sk):=[(Ex.exit 0,⟨[td,td,td,tf [ci]]++dd 15,[],[]⟩)]
def Rk:Lp:=A0 PG WB 64 3 (AY PG 91 3) Q3a Qu7
def Q02 (N3:Lp):Cfg:=WB.loop 3 Q3a Qu7 N3
def Q9d (N3:Lp):Fn:=An PG (Q02 N3) 64 91 Qfp Qn1
theorem Q9c (v0:Int) (v1:Rw) (v2 v3:Int):Rk [I v0, .view Ai v1,I v2,I v3]=
 bif decide (v3<v2)then
 bif decide (0<=v3)&&decide (v3<(v1.length:Int))then
 some (0,[I (wrap .i64 (v0+gA (nth [] v1 v3.toNat) 3)), .view Ai v1,I v2,I (wrap .i64 (v3+1))])
 else
 none
 else
 some (1,[I v0]):=by kernel_rfl
theorem Z31 (N3:Lp) (x0 x1 x2:Int) (x3 x4:Rw):Q9d N3 [I x0,I x1,I x2, .view Ai x3, .view kPt x4]=
 (N3 [I 0, .view Ai x3,I (x3.length:Int),I 0]).bind λo1=>
 bif o1.1.beq 1 then
 some [jA o1.2 0]
 else
 none:=by kernel_rfl
def SZ:=Am (Rk)
def IW:=Q9d SZ
theorem Q7p:Al PG (91,Ad Qfp Qn1 IW):=rw2 (C:=(Q02 SZ)) (fl fb Z0p) Z0p
def UA:Sk:=⟨[TS.v true [ci,ci,ci,CS.sl Ai,CS.sl kPt],TS.v true (cc 9++[CS.sl Aa]++cc 9++[CS.sl Aa]++cc 9++[CS.sl Aa]),TS.v true [ci,ci,ci],tf [ci],tf [ci]],[],[]⟩
def Qmu:Sk:=⟨[TS.v true ([CS.sl At]++cc 5)],[],[]⟩
def Qzj (M:Fn):Nat×Spec:=(58,Ad UA Qmu M)
def Qek (L4 BX FP DA Gl:Fn):Cfg:=cp [Zn4 L4,Qp5 BX,Q8w FP,Qax DA,Q64 Gl] [96,93,92]
def VJ (L4 BX FP DA Gl:Fn):Fn:=An PG (Qek L4 BX FP DA Gl) 64 58 UA Qmu
theorem Zd4 (L4 BX FP DA Gl:Fn) (x0 x1 x2:Int) (x3 x4:Rw) (x5 x6 x7 x8 x9 x10 x11 x12 x13:Int) (x14:Rw) (x15 x16 x17 x18 x19 x20 x21 x22 x23:Int) (x24:Rw) (x25 x26 x27 x28 x29 x30 x31 x32 x33:Int) (x34:Rw) (x35 x36 x37 x38 x39:Int):VJ L4 BX FP DA Gl [I x0,I x1,I x2, .view Ai x3, .view kPt x4,I x5,I x6,I x7,I x8,I x9,I x10,I x11,I x12,I x13, .view Aa x14,I x15,I x16,I x17,I x18,I x19,I x20,I x21,I x22,I x23, .view Aa x24,I x25,I x26,I x27,I x28,I x29,I x30,I x31,I x32,I x33, .view Aa x34,I x35,I x36,I x37,I x38,I x39]=
 (Gl [I x0,I x1,I x2, .view Ai x3, .view kPt x4]).bind λo5=>
 (DA [I x38,jA o5 0]).bind λo6=>
 (DA [I x39,jA o5 0]).bind λo7=>
 bif decide (gA o6 0>gA o7 0)then
 (L4 [.view At [],I x0,I x1,I x2, .view Ai x3, .view kPt x4,I (mn (gA o6 0) (gA o7 0)),I (mx (gA o6 0) (gA o7 0)),I (-1),I x35,I x36,I x37,I (-1),I x5,I x6,I x7,I x8,I x9,I x10,I x11,I x12,I x13, .view Aa x14,I x15,I x16,I x17,I x18,I x19,I x20,I x21,I x22,I x23, .view Aa x24,I x25,I x26,I x27,I x28,I x29,I x30,I x31,I x32,I x33, .view Aa x34,I 0,jA o6 0,I x35,I x36,I x37]).bind λo8=>
 some [.view At (wA o8 0),jA o8 35,jA o8 36,jA o8 37,jA o8 38,jA o8 39]
 else
 (L4 [.view At [],I x0,I x1,I x2, .view Ai x3, .view kPt x4,I (mn (gA o6 0) (gA o7 0)),I (mx (gA o6 0) (gA o7 0)),I 1,I x35,I x36,I x37,I 1,I x5,I x6,I x7,I x8,I x9,I x10,I x11,I x12,I x13, .view Aa x14,I x15,I x16,I x17,I x18,I x19,I x20,I x21,I x22,I x23, .view Aa x24,I x25,I x26,I x27,I x28,I x29,I x30,I x31,I x32,I x33, .view Aa x34,I 0,jA o6 0,I x35,I x36,I x37]).bind λo9=>
 some [.view At (wA o9 0),jA o9 35,jA o9 36,jA o9 37,jA o9 38,jA o9 39]:=by kernel_rfl
def Kg:=VJ Q0 FR Mg Gy IW
theorem Z0d:Aj PG (Qek Q0 FR Mg Gy IW):=Ap rfl ⟨Zos,Qyy,Q3k,WH,Q7p,trivial⟩
theorem Q9z:Al PG (58,Ad UA Qmu Kg):=rw1 (C:=(Qek Q0 FR Mg Gy IW)) Z0d
def Zcr (M:Fn):Nat×Spec:=(64,Ad UE Qnv M)
def Wj:Fn:=An PG WB 64 64 UE Qnv
theorem Z3l (x0 x1 x2 x3 x4 x5:Int):Wj [I x0,I x1,I x2,I x3,I x4,I x5]=
 bif x1==0 then
 bif x2==0 then
 bif x3==x0 then
 some [B (x4==x0)]
 else
 some [B false]
 else
 some [B false]
 else
 some [B false]:=by kernel_rfl
def KN:=Wj
theorem Zmm:Al PG (64,Ad UE Qnv KN):=rw1 (C:=WB) Z0p
def Qs3:Sk:=⟨[TS.v true [ci,ci,ci,CS.sl Ai,CS.sl kPt],TS.v true (cc 9++[CS.sl Aa]++cc 9++[CS.sl Aa]++cc 9++[CS.sl Aa]),TS.v true ([CS.sl At]++cc 5),TS.v true (cc 6),tf [ci]],[],[]⟩
def Qtm:Sk:=⟨[TS.tup [(true,[CS.sl At]++cc 5),(true,cc 6),(false,[CS.bool])]],[],[]⟩
def Zcn (M:Fn):Nat×Spec:=(105,Ad Qs3 Qtm M)
def Se:Fn:=λ_=>none
theorem Zhs:Al PG (105,Ad Qs3 Qtm Se):=Pu
def Qgr:Sk:=⟨[TS.tup [(false,[ci]),(false,[CS.bool])]],[(20000,119,cS)],[]⟩
def Zts (M:Fn):Nat×Spec:=(69,Ad YQ Qgr M)
def Qo2 (GW CN:Fn):Cfg:=cf [Zcn GW,Qi4 CN]
def VG (GW CN:Fn):Fn:=An PG (Qo2 GW CN) 64 69 YQ Qgr
abbrev Y4 (GW:Fn) (K:Kf) (c:Cv) (h1_0 h2_0:AC):Option (List AC):=
 (GW (pxt K.p K.x K.t [I c.m0,I c.m1,I c.m2,I c.m3,I c.m4,I c.m5,h2_0])).bind λo10=>
 bif !bA o10 12 then
 some (h1_0::B true::Ac K c)
 else
 bif c.way==1 then
 some (h1_0::B true::DK (Ac K c) [(44, .view At (wA o10 0)),(45,jA o10 1),(46,jA o10 2),(47,jA o10 3),(48,jA o10 4),(49,jA o10 5),(50,jA o10 6),(51,jA o10 7),(52,jA o10 8),(53,jA o10 9),(54,jA o10 10),(55,jA o10 11),(71,I 2),(89,B true)])
 else
 some (h1_0::B true::DK (Ac K c) [(44, .view At (wA o10 0)),(45,jA o10 1),(46,jA o10 2),(47,jA o10 3),(48,jA o10 4),(49,jA o10 5),(50,jA o10 6),(51,jA o10 7),(52,jA o10 8),(53,jA o10 9),(54,jA o10 10),(55,jA o10 11),(58,B true),(71,I 0),(89,B true)])
abbrev Qjl (c:Cv) (CN:Fn) (K:Kf) (GW:Fn) (h1_0:AC):Option (List AC):=
 bif !c.aL then
 (CN (pxt K.p K.x K.t [I K.pa,I K.pb,I K.pc,I c.o0,I c.o1,B c.o2,B c.o3,B c.o4,I c.m0,I c.m1,I c.m2,I c.m3,I c.m4,I c.m5,I K.t.length])).bind λo8=>
 some (h1_0::B true::Ac K {c with m0:=gA o8 0,m1:=gA o8 1,m2:=gA o8 2,m3:=gA o8 3,m4:=gA o8 4,m5:=gA o8 5})
 else
 bif c.m0 !=wrap .i64 (K.t.length*256)then
 (CN (pxt K.p K.x K.t [I K.pa,I K.pb,I K.pc,I c.o0,I c.o1,B c.o2,B c.o3,B c.o4,I c.m0,I c.m1,I c.m2,I c.m3,I c.m4,I c.m5,I K.t.length])).bind λo9=>
 some (h1_0::B true::Ac K {c with m0:=gA o9 0,m1:=gA o9 1,m2:=gA o9 2,m3:=gA o9 3,m4:=gA o9 4,m5:=gA o9 5})
 else
 bif c.way==2 then
 Y4 GW K c h1_0 (I K.len)
 else
 Y4 GW K c h1_0 (I c.home)
theorem Zyl (GW CN:Fn) (K:Kf) (c:Cv):VG GW CN (Ac K c)=
 bif c.way==0 then
 some (I 0::B false::Ac K c)
 else
 bif c.way==2 then
 Qjl c CN K GW (I 5)
 else
 Qjl c CN K GW (I 4):=by kernel_rfl
def Md:=VG Se E8
theorem Z3e:Aj PG (Qo2 Se E8):=Ap rfl ⟨Zhs,Ve,trivial⟩
theorem Z2k:Al PG (69,Ad YQ Qgr Md):=rw1 (C:=(Qo2 Se E8)) Z3e
def Zkc (M:Fn):Nat×Spec:=(68,Ad YQ Qgr M)
def YS (D5:Fn):Cfg:=cp [Q9n D5] [103]
def Qj3 (D5:Fn):Fn:=An PG (YS D5) 64 68 YQ Qgr
theorem Z1z (D5:Fn) (K:Kf) (c:Cv):Qj3 D5 (Ac K c)=
 bif !c.on then
 some (I 0::B false::Ac K c)
 else
 (D5 (Ac K c)).bind λo1=>
 some (jA o1 0::B true::cR 1 o1):=by kernel_rfl
def Ln:=Qj3 J8
theorem Z1r:Aj PG (YS J8):=Ap rfl ⟨Q18,trivial⟩
theorem Z2y:Al PG (68,Ad YQ Qgr Ln):=rw1 (C:=(YS J8)) Z1r
def Zmn (M:Fn):Nat×Spec:=(67,Ad YQ Qgr M)
def XH:Fn:=An PG WB 64 67 YQ Qgr
theorem Z0x (K:Kf) (c:Cv):XH (Ac K c)=
 bif !c.aG then
 some (I 0::B false::Ac K c)
 else
 bif !c.aL then
 some (I 0::B false::Ac K c)
 else
 some (I 8::B true::Ac K {c with aH:=8}):=by kernel_rfl
def L9:=XH
theorem Zqy:Al PG (67,Ad YQ Qgr L9):=rw1 (C:=WB) Z0p
def Z3s (M:Fn):Nat×Spec:=(66,Ad YQ Qgr M)
def Qli:Fn:=An PG WB 64 66 YQ Qgr
theorem Zuf (K:Kf) (c:Cv):Qli (Ac K c)=
 some (I c.aH::B (c.aH !=0)::Ac K c):=by kernel_rfl
def Lz:=Qli
theorem Zge:Al PG (66,Ad YQ Qgr Lz):=rw1 (C:=WB) Z0p
def Zqa (M:Fn):Nat×Spec:=(65,Ad YQ Qgr M)
def Qgt (F4 Bg:Fn):Cfg:=cr [Q2z F4,Rv Bg] [63] [63]
def Xw (F4 Bg:Fn):Fn:=An PG (Qgt F4 Bg) 64 65 YQ Qgr
theorem Zuq (F4 Bg:Fn) (K:Kf) (c:Cv):Xw F4 Bg (Ac K c)=
 bif c.g0 !=2 then
 some (I 0::B false::Ac K c)
 else
 (Bg (Ac K c)).bind λo2=>
 (F4 [jA o2 0]).bind λo3=>
 some (I 6::B true::Ac K {c with m0:=gA o3 0,m1:=gA o3 1,m2:=gA o3 2,m3:=gA o3 3,m4:=gA o3 4,m5:=gA o3 5}):=by kernel_rfl
def L5:=Xw IX D0
theorem Zy1:Aj PG (Qgt IX D0):=Jc (rs:=[63]) rfl ⟨Q06,R3,trivial⟩ rfl (De rfl (HA IY))
theorem Zu1:Al PG (65,Ad YQ Qgr L5):=rw1 (C:=(Qgt IX D0)) Zy1
def Qlm:Sk:=⟨[TS.v true [ci,ci,ci,ci],tf [ci]],[],[]⟩
def Zkr (M:Fn):Nat×Spec:=(62,Ad Qlm Qnl M)
def VS:Fn:=An PG WB 64 62 Qlm Qnl
theorem Zc0 (x0 x1 x2 x3 x4:Int):VS [I x0,I x1,I x2,I x3,I x4]=
 bif decide (x1<x2)then
 some [I x0,I (mn (wrap .i64 (x1+x4)) x2),I x2,I (wrap .i64 (x3+wrap .i64 (x0*mn (wrap .i64 (x1+x4)) x2)))]
 else
 some [I x0,I (mx (wrap .i64 (x1-x4)) x2),I x2,I (wrap .i64 (x3+wrap .i64 (x0*mx (wrap .i64 (x1-x4)) x2)))]:=by kernel_rfl
def LQ:=VS
theorem Za1:Al PG (62,Ad Qlm Qnl LQ):=rw1 (C:=WB) Z0p
def Zsz (M:Fn):Nat×Spec:=(61,Fj YQ Qnv M)
def QC (Gf:Fn):Cfg:=cr [Q5g Gf] [102] [102]
def Qe0 (Gf:Fn):Fn:=OA PG (QC Gf) 64 61 YQ Qnv
theorem Zas (Gf:Fn) (K:Kf) (c:Cv):Qe0 Gf (Ac K c)=
 (Gf (Ac K c)).bind λo1=>
 bif bA o1 7 then
 bif decide (0<=gA o1 4)&&decide (gA o1 4<((K.items.map Af).length:Int))then
 bif gA (nth [] (K.items.map Af) (gA o1 4).toNat) 0==6 then
 some [B (c.y0==gA o1 4)]
 else
 some [B false]
 else
 none
 else
 some [B false]:=by kernel_rfl
def Lk:=Qe0 HI
theorem Zfe:Aj PG (QC HI):=Jc (rs:=[102]) rfl ⟨Qzb,trivial⟩ rfl (HA IY)
theorem Znn (vars : List AC) (R : Type) (K : TV -> Mem -> Option R) : FF PG (QC HI) 64 61 [TV.v false [AC.ptr 20000 0]] ⟨[(20000, (⟨119, (cR 0 vars)⟩ : Box))], []⟩ K = FF PG (QC HI) 64 61 [TV.v false [AC.ptr 20000 0]] ⟨[(20000, (⟨119, (cR 0 vars)⟩ : Box))], []⟩ (λv _ => K v ⟨[(20000, (⟨119, (cR 0 vars)⟩ : Box))], []⟩) := Eq.trans (b := ((HI (cR 0 vars)).bind λo1 =>
 bif bA o1 7 then
 bif decide (0<=gA o1 4)&&decide (gA o1 4<(↑(wA vars 35).length:Int))then
 bif Ag (nth .dead (nth [] (wA vars 35) (gA o1 4).toNat) 0)==6 then
 K (TV.v false [B ((gA vars 79)==gA o1 4)]) ⟨[(20000,(⟨119,(cR 0 vars)⟩:Box))],[]⟩
 else
 K (TV.v false [B false]) ⟨[(20000,(⟨119,(cR 0 vars)⟩:Box))],[]⟩
 else
 none
 else
 K (TV.v false [B false]) ⟨[(20000,(⟨119,(cR 0 vars)⟩:Box))],[]⟩)) (by kernel_rfl) (Eq.symm (by kernel_rfl))
theorem Zkx:Al PG (61,Fj YQ Qnv Lk):=TE (C:=(QC HI)) (L:=64) (by kernel_rfl) (FnOK.bare rfl rfl rfl) Zfe eqOk HT (by kernel_rfl) (by kernel_rfl) (λvars R K=>Znn vars R K)
def Zzo (M:Fn):Nat×Spec:=(101,Ad Qho Qlu M)
def S8:Fn:=λ_=>none
theorem Z38:Al PG (101,Ad Qho Qlu S8):=Pu
def Zzf (M:Fn):Nat×Spec:=(100,Ad YQ Qlu M)
def SP:Fn:=λ_=>none
theorem Zmf:Al PG (100,Ad YQ Qlu SP):=Pu
def Z1s (M:Fn):Nat×Spec:=(99,Ad Qho Qlu M)
def RM:Fn:=λ_=>none
theorem Zi1:Al PG (99,Ad Qho Qlu RM):=Pu
def Yg:Sk:=⟨[],[],[]⟩
def Q0z (M:Fn):Nat×Spec:=(56,Ad Yg Qh1 M)
def Tz:Fn:=An PG WB 64 56 Yg Qh1
theorem Qyw:Tz []=
 some [I 0,I 0,I (-1)]:=by kernel_rfl
def J9:=Tz
theorem Q5w:Al PG (56,Ad Yg Qh1 J9):=rw1 (C:=WB) Z0p
def Zg5 (M:Fn):Nat×Spec:=(144,Ad Yq Qh1 M)
def Qdf:Fn:=An PG WB 64 144 Yq Qh1
theorem Zv7 (x0 x1 x2 x3 x4:Int):Qdf [I x0,I x1,I x2,I x3,I x4]=
 bif x0==2 then
 some [I x0,I x1,I x2]
 else
 bif x1==0 then
 some [I 1,I x3,I x4]
 else
 some [I 1,I x1,I x2]:=by kernel_rfl
def Qx:=Qdf
theorem Zze:Al PG (144,Ad Yq Qh1 Qx):=rw1 (C:=WB) Z0p
def Zrr (M:Fn):Nat×Spec:=(98,Ad Ql3 Qh1 M)
def Qk7 (Gw Mj:Fn):Cfg:=cf [Q0z Gw,Zg5 Mj]
def Qip (Gw Mj:Fn):Fn:=An PG (Qk7 Gw Mj) 64 98 Ql3 Qh1
theorem Zz8 (Gw Mj:Fn) (x0 x1 x2 x3 x4 x5:Int):Qip Gw Mj [I x0,I x1,I x2,I x3,I x4,I x5]=
 bif x4==10 then
 some [I 2,I 22,I (-1)]
 else
 bif x4==9 then
 (Mj [I x0,I x1,I x2,I 21,I (-1)]).bind λo3=>
 some [jA o3 0,jA o3 1,jA o3 2]
 else
 bif x4==8 then
 bif decide (x5>=0)then
 bif decide (x5<=2)then
 (Mj [I x0,I x1,I x2,I 20,I x5]).bind λo4=>
 some [jA o4 0,jA o4 1,jA o4 2]
 else
 some [I x0,I x1,I x2]
 else
 some [I x0,I x1,I x2]
 else
 bif x4==11 then
 (Gw []).bind λo5=>
 some [jA o5 0,jA o5 1,jA o5 2]
 else
 some [I x0,I x1,I x2]:=by kernel_rfl
def Rs:=Qip J9 Qx
theorem Zjd:Aj PG (Qk7 J9 Qx):=Ap rfl ⟨Q5w,Zze,trivial⟩
theorem Zj3:Al PG (98,Ad Ql3 Qh1 Rs):=rw1 (C:=(Qk7 J9 Qx)) Zjd
def Qfh:Sk:=⟨[tf [CS.bool],tf [ci]],[],[]⟩
def Zoy (M:Fn):Nat×Spec:=(143,Ad Qfh Qnv M)
def Qo9:Fn:=An PG WB 64 143 Qfh Qnv
theorem Zfa (x0:Bool) (x1:Int):Qo9 [B x0,I x1]=
 bif x1==0 then
 some [B false]
 else
 bif x1==1 then
 some [B true]
 else
 some [B x0]:=by kernel_rfl
def O_:=Qo9
theorem Zon:Al PG (143,Ad Qfh Qnv O_):=rw1 (C:=WB) Z0p
def Qke:Sk:=⟨[TS.v true [ci,ci,CS.bool,CS.bool,CS.bool],TS.v true [ci,ci,ci]],[],[]⟩
def XX:Sk:=⟨[TS.v true [ci,ci,CS.bool,CS.bool,CS.bool]],[],[]⟩
def Zup (M:Fn):Nat×Spec:=(97,Ad Qke XX M)
def Qd7 (Lh:Fn):Cfg:=cf [Zoy Lh]
def SW (Lh:Fn):Fn:=An PG (Qd7 Lh) 64 97 Qke XX
theorem Q57 (Lh:Fn) (x0 x1:Int) (x2 x3 x4:Bool) (x5 x6 x7:Int):SW Lh [I x0,I x1,B x2,B x3,B x4,I x5,I x6,I x7]=
 bif x6==1 then
 bif decide (0<=x7)then
 bif decide (x7<=200)then
 some [I x7,I x1,B x2,B x3,B x4]
 else
 some [I x0,I x1,B x2,B x3,B x4]
 else
 some [I x0,I x1,B x2,B x3,B x4]
 else
 bif x6==2 then
 bif decide (0<=x7)then
 bif decide (x7<=100)then
 some [I x0,I x7,B x2,B x3,B x4]
 else
 some [I x0,I x1,B x2,B x3,B x4]
 else
 some [I x0,I x1,B x2,B x3,B x4]
 else
 bif x6==3 then
 some [I x0,I x1,B true,B x3,B x4]
 else
 bif x6==4 then
 some [I x0,I x1,B false,B x3,B x4]
 else
 bif x6==5 then
 (Lh [B x3,I x7]).bind λo2=>
 some [I x0,I x1,B x2,B (bA o2 0),B x4]
 else
 bif x6==6 then
 (Lh [B x4,I x7]).bind λo3=>
 some [I x0,I x1,B x2,B x3,B (bA o3 0)]
 else
 some [I x0,I x1,B x2,B x3,B x4]:=by kernel_rfl
def Rz:=SW O_
theorem Z2o:Aj PG (Qd7 O_):=Ap rfl ⟨Zon,trivial⟩
theorem Ze8:Al PG (97,Ad Qke XX Rz):=rw1 (C:=(Qd7 O_)) Z2o
def ZJ:Sk:=⟨[tf [CS.ptr 20000 0],TS.v true [ci,ci,ci]],[(20000,119,cS)],[]⟩
def Zi8 (M:Fn):Nat×Spec:=(60,Ad ZJ Qlu M)
def UR (NB OC Ow Ot MJ:Fn):Cfg:=cp [Zzo NB,Zzf OC,Z1s Ow,Zrr Ot,Zup MJ] [101,100,99]
def Qgo (NB OC Ow Ot MJ:Fn):Fn:=An PG (UR NB OC Ow Ot MJ) 64 60 ZJ Qlu
theorem Zu7 (NB OC Ow Ot MJ:Fn) (x0 x1 x2:Int) (K:Kf) (c:Cv):Qgo NB OC Ow Ot MJ (I x0::I x1::I x2::Ac K c)=
 (MJ [I c.o0,I c.o1,B c.o2,B c.o3,B c.o4,I x0,I x1,I x2]).bind λo5=>
 (Ot [I c.g0,I c.g1,I c.g2,I x0,I x1,I x2]).bind λo6=>
 bif x1==13 then
 (Ow (I x2::Ac K {c with o0:=gA o5 0,o1:=gA o5 1,o2:=bA o5 2,o3:=bA o5 3,o4:=bA o5 4,g0:=gA o6 0,g1:=gA o6 1,g2:=gA o6 2})).bind λo7=>
 some (cR 0 o7)
 else
 bif x1==11 then
 some (Ac K {c with o0:=gA o5 0,o1:=gA o5 1,o2:=true,o3:=bA o5 3,o4:=bA o5 4,g0:=gA o6 0,g1:=gA o6 1,g2:=gA o6 2})
 else
 bif x1==12 then
 (OC (Ac K {c with o0:=gA o5 0,o1:=gA o5 1,o2:=bA o5 2,o3:=bA o5 3,o4:=bA o5 4,g0:=gA o6 0,g1:=gA o6 1,g2:=gA o6 2})).bind λo8=>
 some (cR 0 o8)
 else
 bif x1==7 then
 (NB (I x2::Ac K {c with o0:=gA o5 0,o1:=gA o5 1,o2:=bA o5 2,o3:=bA o5 3,o4:=bA o5 4,g0:=gA o6 0,g1:=gA o6 1,g2:=gA o6 2})).bind λo9=>
 some (cR 0 o9)
 else
 bif x1==4 then
 some (Ac K {c with o0:=gA o5 0,o1:=gA o5 1,o2:=bA o5 2,o3:=bA o5 3,o4:=bA o5 4,g0:=gA o6 0,g1:=gA o6 1,g2:=gA o6 2,aI:=true})
 else
 some (Ac K {c with o0:=gA o5 0,o1:=gA o5 1,o2:=bA o5 2,o3:=bA o5 3,o4:=bA o5 4,g0:=gA o6 0,g1:=gA o6 1,g2:=gA o6 2}):=by kernel_rfl
def Ml:=Qgo S8 SP RM Rs Rz
theorem Z3v:Aj PG (UR S8 SP RM Rs Rz):=Ap rfl ⟨Z38,Zmf,Zi1,Zj3,Ze8,trivial⟩
theorem Zia:Al PG (60,Ad ZJ Qlu Ml):=rw1 (C:=(UR S8 SP RM Rs Rz)) Z3v
def Qnh:Sk:=⟨[tf [CS.ptr 20000 0],tf [CS.sl kPt]],[(20000,119,cS)],[]⟩
def Qag:Sk:=⟨[TS.v true ([CS.sl kPt,CS.sl Aa]++cc 7)],[(20000,119,cS)],[]⟩
def Q8f (M:Fn):Nat×Spec:=(21,Ad Qnh Qag M)
def Qja (Cu CB Ej Er Eo Ei EH Dd Bg Dw Dp EB:Fn):Cfg:=cr [Zlu Cu,Zxn CB,Zts Ej,Zkc Er,Zmn Eo,Z3s Ei,Zqa EH,Zcr Dd,Rv Bg,Zkr Dw,Zsz Dp,Zi8 EB] [71,70,69,68,67,66,65,63,61,60] [63,61]
def Qsw:Sk:=⟨[tf [CS.ptr 20000 0],td,td,td,tf [CS.ptr 4 0]]++dd 14++[tf [CS.sl kPt],tf [ci],tf [ci]]++dd 93,[(4,46,[CS.sl kPt,CS.sl Aa]++cc 7),(20000,119,cS)],[]⟩
def Q45:List (Ex×Sk):=[(Ex.exit 0,⟨[tf [CS.ptr 20000 0],td,td,td,tf [CS.ptr 4 0]]++dd 110,[(4,46,[CS.sl kPt,CS.sl Aa]++cc 7),(20000,119,cS)],[]⟩)]
def RN (Cu CB Ej Er Eo Ei EH Dd Bg Dw Dp EB:Fn):Lp:=A0 PG (Qja Cu CB Ej Er Eo Ei EH Dd Bg Dw Dp EB) 64 3 (AY PG 21 3) Qsw Q45
def Q9y (Cu CB Ej Er Eo Ei EH Dd Bg Dw Dp EB:Fn) (N3:Lp):Cfg:=(Qja Cu CB Ej Er Eo Ei EH Dd Bg Dw Dp EB).loop 3 Qsw Q45 N3
def Q9x:Sk:=⟨[tf [CS.ptr 20000 0],td,td,td,tf [CS.ptr 4 0],td,td,tf [ci],tf [CS.ptr 8 0]]++dd 81++[tf [CS.bsl 90 5],tf [ci],tf [ci]]++dd 22,[(4,46,[CS.sl kPt,CS.sl Aa]++cc 7),(8,46,[CS.sl kPt,CS.sl Aa]++cc 7),(90,125,[CS.clo 65 [(20000,0)] [],CS.clo 66 [(20000,0)] [],CS.clo 67 [(20000,0)] [],CS.clo 68 [(20000,0)] [],CS.clo 69 [(20000,0)] []]),(20000,119,cS)],[]⟩
def Qw8:List (Ex×Sk):=[(Ex.exit 2,⟨[tf [CS.ptr 20000 0],td,td,td,tf [CS.ptr 4 0],td,td,tf [ci],tf [CS.ptr 8 0]]++dd 106,[(4,46,[CS.sl kPt,CS.sl Aa]++cc 7),(8,46,[CS.sl kPt,CS.sl Aa]++cc 7),(20000,119,cS)],[]⟩)]
def I4 (Cu CB Ej Er Eo Ei EH Dd Bg Dw Dp EB:Fn) (N3:Lp):Lp:=A0 PG (Q9y Cu CB Ej Er Eo Ei EH Dd Bg Dw Dp EB N3) 64 16 (AY PG 21 16) Q9x Qw8
def Q0c (Cu CB Ej Er Eo Ei EH Dd Bg Dw Dp EB:Fn) (N3 N16:Lp):Cfg:=(Q9y Cu CB Ej Er Eo Ei EH Dd Bg Dw Dp EB N3).loop 16 Q9x Qw8 N16
def Vt (Cu CB Ej Er Eo Ei EH Dd Bg Dw Dp EB:Fn) (N3 N16:Lp):Fn:=An PG (Q0c Cu CB Ej Er Eo Ei EH Dd Bg Dw Dp EB N3 N16) 64 21 Qnh Qag
theorem Zy3 (Cu CB Ej Er Eo Ei EH Dd Bg Dw Dp EB:Fn) (v0:Rw) (v1 v2:Int) (v3 v4:Rw) (v5 v6 v7 v8 v9 v10 v11:Int) (K:Kf) (c:Cv):RN Cu CB Ej Er Eo Ei EH Dd Bg Dw Dp EB (.view kPt v0::I v1::I v2:: .view kPt v3:: .view Aa v4::I v5::I v6::I v7::I v8::I v9::I v10::I v11::Ac K c)=
 bif decide (v2<v1)then
 bif decide (0<=v2)&&decide (v2<(v0.length:Int))then
 (EB (jA (nth [] v0 v2.toNat) 0::jA (nth [] v0 v2.toNat) 1::jA (nth [] v0 v2.toNat) 2::Ac K c)).bind λo54=>
 some (0,(.view kPt v0::I v1::I (wrap .i64 (v2+1)):: .view kPt v3:: .view Aa v4::I v5::I v6::I v7::I v8::I v9::I v10::I v11::cR 0 o54))
 else
 none
 else
 some (1,(.view kPt v3:: .view Aa v4::I v5::I v6::I v7::I v8::I v9::I v10::I v11::Ac K c)):=by kernel_rfl
abbrev Ng (v0:Int) (v3 v4:Rw) (v5 v6 v7 v8 v9 v10 v11:Int) (v12 v13:Rw) (v15 v16 v17 v18 v19 v20 v1 v2 v14:Int) (h1_0:Bool) (h1_1:AC) (h1_2:List AC):Option (Nat×List AC):=
 bif h1_0 then
 some (1,(I v0:: .view kPt v3:: .view Aa v4::I v5::I v6::I v7::I v8::I v9::I v10::I v11:: .view kPt v12:: .view Aa v13::h1_1::I v15::I v16::I v17::I v18::I v19::I v20::h1_2))
 else
 some (0,(I v0::I v1::I (wrap .i64 (v2+1)):: .view kPt v3:: .view Aa v4::I v5::I v6::I v7::I v8::I v9::I v10::I v11:: .view kPt v12:: .view Aa v13::I v14::I v15::I v16::I v17::I v18::I v19::I v20::h1_2))
theorem Za3 (Cu CB Ej Er Eo Ei EH Dd Bg Dw Dp EB:Fn) (N3:Lp) (v0 v1 v2:Int) (v3 v4:Rw) (v5 v6 v7 v8 v9 v10 v11:Int) (v12 v13:Rw) (v14 v15 v16 v17 v18 v19 v20:Int) (K:Kf) (c:Cv):I4 Cu CB Ej Er Eo Ei EH Dd Bg Dw Dp EB N3 (I v0::I v1::I v2:: .view kPt v3:: .view Aa v4::I v5::I v6::I v7::I v8::I v9::I v10::I v11:: .view kPt v12:: .view Aa v13::I v14::I v15::I v16::I v17::I v18::I v19::I v20::Ac K c)=
 bif decide (v2<v1)then
 bif decide (v2=(↑0:Int))then
 (EH (Ac K c)).bind λo55=>
 Ng v0 v3 v4 v5 v6 v7 v8 v9 v10 v11 v12 v13 v15 v16 v17 v18 v19 v20 v1 v2 v14 (bA o55 1) (jA o55 0) (cR 2 o55)
 else
 bif decide (v2=(↑(0+1):Int))then
 (Ei (Ac K c)).bind λo56=>
 Ng v0 v3 v4 v5 v6 v7 v8 v9 v10 v11 v12 v13 v15 v16 v17 v18 v19 v20 v1 v2 v14 (bA o56 1) (jA o56 0) (cR 2 o56)
 else
 bif decide (v2=(↑(0+1+1):Int))then
 (Eo (Ac K c)).bind λo57=>
 Ng v0 v3 v4 v5 v6 v7 v8 v9 v10 v11 v12 v13 v15 v16 v17 v18 v19 v20 v1 v2 v14 (bA o57 1) (jA o57 0) (cR 2 o57)
 else
 bif decide (v2=(↑(0+1+1+1):Int))then
 (Er (Ac K c)).bind λo58=>
 Ng v0 v3 v4 v5 v6 v7 v8 v9 v10 v11 v12 v13 v15 v16 v17 v18 v19 v20 v1 v2 v14 (bA o58 1) (jA o58 0) (cR 2 o58)
 else
 bif decide (v2=(↑(0+1+1+1+1):Int))then
 (Ej (Ac K c)).bind λo59=>
 Ng v0 v3 v4 v5 v6 v7 v8 v9 v10 v11 v12 v13 v15 v16 v17 v18 v19 v20 v1 v2 v14 (bA o59 1) (jA o59 0) (cR 2 o59)
 else
 none
 else
 some (1,(I v0:: .view kPt v3:: .view Aa v4::I v5::I v6::I v7::I v8::I v9::I v10::I v11:: .view kPt v12:: .view Aa v13::I v14::I v15::I v16::I v17::I v18::I v19::I v20::Ac K c)):=by kernel_rfl
abbrev Js (N16:Lp) (o60:Nat×List AC) (CB Cu:Fn) (h1_0:AC) (h1_1:List AC):Option (List AC):=
 (N16 (h1_0::I (↑5:Int)::I 0:: .view kPt (wA o60.2 0):: .view Aa (wA o60.2 1)::jA o60.2 2::jA o60.2 3::jA o60.2 4::jA o60.2 5::jA o60.2 6::jA o60.2 7::jA o60.2 8:: .view kPt []:: .view Aa []::I 0::I 0::I 0::I 0::I 0::I 0::I 0::h1_1)).bind λo65=>
 bif o65.1.beq 1 then
 bif gA o65.2 12==0 then
 (CB (cR 19 o65.2)).bind λo66=>
 (Cu (jA o65.2 0::(cR 1 o66++[.view kPt (wA o65.2 10), .view Aa (wA o65.2 11),jA o66 0,jA o65.2 13,jA o65.2 14,jA o65.2 15,jA o65.2 16,jA o65.2 17,jA o65.2 18]))).bind λo67=>
 some (.view kPt (wA o67 90):: .view Aa (wA o67 91)::jA o67 92::jA o67 93::jA o67 94::jA o67 95::jA o67 96::jA o67 97::jA o67 98::cR 0 o67)
 else
 (Cu (jA o65.2 0::(cR 19 o65.2++[.view kPt (wA o65.2 10), .view Aa (wA o65.2 11),jA o65.2 12,jA o65.2 13,jA o65.2 14,jA o65.2 15,jA o65.2 16,jA o65.2 17,jA o65.2 18]))).bind λo68=>
 some (.view kPt (wA o68 90):: .view Aa (wA o68 91)::jA o68 92::jA o68 93::jA o68 94::jA o68 95::jA o68 96::jA o68 97::jA o68 98::cR 0 o68)
 else
 none
abbrev Qmd (Dp:Fn) (o60:Nat×List AC) (Dw Bg Dd:Fn) (N16:Lp) (CB Cu:Fn):Option (List AC):=
 (Dp (DK (cR 9 o60.2) [(58,B true),(86,jA o60.2 76)])).bind λo61=>
 bif !bA o61 0 then
 (Dw [jA o60.2 73,jA o60.2 74,jA o60.2 75,jA o60.2 76,jA o60.2 42]).bind λo62=>
 (Bg (DK (cR 9 o60.2) [(58,B true),(64,jA o62 0),(65,jA o62 1),(66,jA o62 2),(67,jA o62 3),(86,jA o60.2 76)])).bind λo63=>
 (Dd [jA o60.2 59,jA o60.2 60,jA o60.2 61,jA o60.2 62,jA o60.2 63,jA o60.2 64]).bind λo64=>
 Js N16 o60 CB Cu (jA o63 0) (DK (cR 9 o60.2) [(58,B true),(64,jA o62 0),(65,jA o62 1),(66,jA o62 2),(67,jA o62 3),(86,jA o60.2 76),(88,B (bA o64 0))])
 else
 (Bg (DK (cR 9 o60.2) [(58,B true),(86,jA o60.2 76)])).bind λo69=>
 (Dd [jA o60.2 59,jA o60.2 60,jA o60.2 61,jA o60.2 62,jA o60.2 63,jA o60.2 64]).bind λo70=>
 Js N16 o60 CB Cu (jA o69 0) (DK (cR 9 o60.2) [(58,B true),(86,jA o60.2 76),(88,B (bA o70 0))])
theorem Zm2 (Cu CB Ej Er Eo Ei EH Dd Bg Dw Dp EB:Fn) (N3 N16:Lp) (x0:Rw) (K:Kf) (c:Cv):Vt Cu CB Ej Er Eo Ei EH Dd Bg Dw Dp EB N3 N16 (.view kPt x0::Ac K c)=
 (N3 (.view kPt x0::I (x0.length:Int)::I 0:: .view kPt []:: .view Aa []::I 0::I 0::I 0::I 0::I 0::I 0::I 0::Ac K {c with aI:=false,aK:=false})).bind λo60=>
 bif o60.1.beq 1 then
 bif bA o60.2 86 then
 Qmd Dp o60 Dw Bg Dd N16 CB Cu
 else
 bif gA o60.2 70 !=0 then
 Qmd Dp o60 Dw Bg Dd N16 CB Cu
 else
 (Dp (DK (cR 9 o60.2) [(86,jA o60.2 76)])).bind λo89=>
 bif !bA o89 0 then
 (Dw [jA o60.2 73,jA o60.2 74,jA o60.2 75,jA o60.2 76,jA o60.2 42]).bind λo90=>
 (Bg (DK (cR 9 o60.2) [(64,jA o90 0),(65,jA o90 1),(66,jA o90 2),(67,jA o90 3),(86,jA o60.2 76)])).bind λo91=>
 (Dd [jA o60.2 59,jA o60.2 60,jA o60.2 61,jA o60.2 62,jA o60.2 63,jA o60.2 64]).bind λo92=>
 Js N16 o60 CB Cu (jA o91 0) (DK (cR 9 o60.2) [(64,jA o90 0),(65,jA o90 1),(66,jA o90 2),(67,jA o90 3),(86,jA o60.2 76),(88,B (bA o92 0))])
 else
 (Bg (DK (cR 9 o60.2) [(86,jA o60.2 76)])).bind λo97=>
 (Dd [jA o60.2 59,jA o60.2 60,jA o60.2 61,jA o60.2 62,jA o60.2 63,jA o60.2 64]).bind λo98=>
 Js N16 o60 CB Cu (jA o97 0) (DK (cR 9 o60.2) [(86,jA o60.2 76),(88,B (bA o98 0))])
 else
 none:=by kernel_rfl
def Qpe:=Am (RN LB LJ Md Ln L9 Lz L5 KN D0 LQ Lk Ml)
def Qt8:=Am (I4 LB LJ Md Ln L9 Lz L5 KN D0 LQ Lk Ml Qpe)
def Hq:=Vt LB LJ Md Ln L9 Lz L5 KN D0 LQ Lk Ml Qpe Qt8
theorem Yw:Aj PG (Qja LB LJ Md Ln L9 Lz L5 KN D0 LQ Lk Ml):=Jc (rs:=[63,61]) rfl ⟨Zvs,Zh6,Z2k,Z2y,Zqy,Zge,Zu1,Zmm,R3,Za1,Zkx,Zia,trivial⟩ rfl (De rfl (De rfl (De rfl (De rfl (De rfl (De rfl (De rfl (De rfl (HA (De rfl (HA (De rfl IY))))))))))))
theorem Q5a:Al PG (21,Ad Qnh Qag Hq):=rw2 (C:=(Q0c LB LJ Md Ln L9 Lz L5 KN D0 LQ Lk Ml Qpe Qt8)) (fl (fl fb Yw) Yw) Yw
def Qjm:Sk:=⟨[tf [ci],tf [ci],tf [ci]],[],[]⟩
def Qa8 (M:Fn):Nat×Spec:=(140,Ad Qjm Qnv M)
def Qc1:Fn:=An PG WB 64 140 Qjm Qnv
theorem Zal (x0 x1 x2:Int):Qc1 [I x0,I x1,I x2]=
 bif decide (x1<=x0)then
 some [B (decide (x0<=x2))]
 else
 some [B false]:=by kernel_rfl
def GS:=Qc1
theorem Qbp:Al PG (140,Ad Qjm Qnv GS):=rw1 (C:=WB) Z0p
def Zzt (M:Fn):Nat×Spec:=(142,Ad YV Qnv M)
def Z5 (BQ:Fn):Cfg:=cf [Qa8 BQ]
def Qdl (BQ:Fn):Fn:=An PG (Z5 BQ) 64 142 YV Qnv
theorem Z2g (BQ:Fn) (x0 x1 x2 x3 x4 x5 x6 x7 x8:Int) (x9:Rw) (x10:Int):Qdl BQ [I x0,I x1,I x2,I x3,I x4,I x5,I x6,I x7,I x8, .view Aa x9,I x10]=
 (BQ [I x10,I x4,I x5]).bind λo1=>
 some [B (bA o1 0)]:=by kernel_rfl
def HC:=Qdl GS
theorem Zr1:Aj PG (Z5 GS):=Ap rfl ⟨Qbp,trivial⟩
theorem Z4h:Al PG (142,Ad YV Qnv HC):=rw1 (C:=(Z5 GS)) Zr1
def Qb1:Sk:=⟨[TS.v true (cc 9++[CS.sl Aa]++cc 9++[CS.sl Aa]++cc 9++[CS.sl Aa]),TS.v true [ci,ci,ci,CS.sl Ai,CS.sl kPt]],[],[]⟩
def Zz6 (M:Fn):Nat×Spec:=(90,Ad Qb1 Qnv M)
def Qf4 (DM:Fn):Cfg:={cf [Zzt DM]with rowDst:=[13],unroll:=[11]}
def Q1j:Sk:=⟨[td,td,tf [CS.ptr 2 0],td,td,tf [CS.own 13 3]]++dd 9++[tf [CS.sl Ai],tf [ci],tf [ci]]++dd 28,[(2,27,cc 9++[CS.sl Aa]++cc 9++[CS.sl Aa]++cc 9++[CS.sl Aa])],[(13,54,kPt)]⟩
def Qsm:List (Ex×Sk):=[(Ex.exit 0,⟨[td,td,tf [CS.ptr 2 0],td,td,tf [CS.own 13 3]]++dd 40,[(2,27,cc 9++[CS.sl Aa]++cc 9++[CS.sl Aa]++cc 9++[CS.sl Aa])],[(13,54,kPt)]⟩)]
def Qp (DM:Fn):Lp:=A0 PG (Qf4 DM) 64 3 (AY PG 90 3) Q1j Qsm
def Qxo (DM:Fn) (N3:Lp):Cfg:=(Qf4 DM).loop 3 Q1j Qsm N3
def Q4f:Sk:=⟨[td,td,tf [CS.ptr 2 0]]++dd 24++[tf [CS.own 13 3],tf [ci],tf [ci]]++dd 16,[(2,27,cc 9++[CS.sl Aa]++cc 9++[CS.sl Aa]++cc 9++[CS.sl Aa])],[(13,54,kPt)]⟩
def Qu4:List (Ex×Sk):=[(Ex.ret,⟨[td,td,td,td,tf [CS.bool]]++dd 41,[],[]⟩),(Ex.exit 2,⟨[td]++dd 45,[],[]⟩)]
def T3 (DM:Fn) (N3:Lp):Lp:=A0 PG (Qxo DM N3) 64 8 (AY PG 90 8) Q4f Qu4
def Quw (DM:Fn) (N3 N8:Lp):Cfg:=(Qxo DM N3).loop 8 Q4f Qu4 N8
def Z_ (DM:Fn) (N3 N8:Lp):Fn:=An PG (Quw DM N3 N8) 64 90 Qb1 Qnv
theorem Zkw (DM:Fn) (v0 v1:Rw) (v2 v3 v4 v5 v6 v7 v8 v9 v10 v11 v12:Int) (v13:Rw) (v14 v15 v16 v17 v18 v19 v20 v21 v22:Int) (v23:Rw) (v24 v25 v26 v27 v28 v29 v30 v31 v32:Int) (v33:Rw):Qp DM [.view kPt v0, .view Ai v1,I v2,I v3,I v4,I v5,I v6,I v7,I v8,I v9,I v10,I v11,I v12, .view Aa v13,I v14,I v15,I v16,I v17,I v18,I v19,I v20,I v21,I v22, .view Aa v23,I v24,I v25,I v26,I v27,I v28,I v29,I v30,I v31,I v32, .view Aa v33]=
 bif decide (v3<v2)then
 bif decide (0<=v3)&&decide (v3<(v1.length:Int))then
 bif((v0++[[jA (nth [] v1 v3.toNat) 0,jA (nth [] v1 v3.toNat) 1,jA (nth [] v1 v3.toNat) 2]]).length*24).ble 140737488355328 then
 some (0,[.view kPt (v0++[[jA (nth [] v1 v3.toNat) 0,jA (nth [] v1 v3.toNat) 1,jA (nth [] v1 v3.toNat) 2]]), .view Ai v1,I v2,I (wrap .i64 (v3+1)),I v4,I v5,I v6,I v7,I v8,I v9,I v10,I v11,I v12, .view Aa v13,I v14,I v15,I v16,I v17,I v18,I v19,I v20,I v21,I v22, .view Aa v23,I v24,I v25,I v26,I v27,I v28,I v29,I v30,I v31,I v32, .view Aa v33])
 else
 none
 else
 none
 else
 some (1,[.view kPt v0,I v4,I v5,I v6,I v7,I v8,I v9,I v10,I v11,I v12, .view Aa v13,I v14,I v15,I v16,I v17,I v18,I v19,I v20,I v21,I v22, .view Aa v23,I v24,I v25,I v26,I v27,I v28,I v29,I v30,I v31,I v32, .view Aa v33]):=by kernel_rfl
theorem Z0t (DM:Fn) (N3:Lp) (v0:Rw) (v1 v2 v3 v4 v5 v6 v7 v8 v9 v10 v11:Int) (v12:Rw) (v13 v14 v15 v16 v17 v18 v19 v20 v21:Int) (v22:Rw) (v23 v24 v25 v26 v27 v28 v29 v30 v31:Int) (v32:Rw):T3 DM N3 [.view kPt v0,I v1,I v2,I v3,I v4,I v5,I v6,I v7,I v8,I v9,I v10,I v11, .view Aa v12,I v13,I v14,I v15,I v16,I v17,I v18,I v19,I v20,I v21, .view Aa v22,I v23,I v24,I v25,I v26,I v27,I v28,I v29,I v30,I v31, .view Aa v32]=
 bif decide (v2<v1)then
 bif decide (0<=v2)&&decide (v2<(v0.length:Int))then
 (DM [I v3,I v4,I v5,I v6,I v7,I v8,I v9,I v10,I v11, .view Aa v12,jA (nth [] v0 v2.toNat) 0]).bind λo6=>
 bif !bA o6 0 then
 some (1,[B false])
 else
 (DM [I v13,I v14,I v15,I v16,I v17,I v18,I v19,I v20,I v21, .view Aa v22,jA (nth [] v0 v2.toNat) 1]).bind λo7=>
 bif !bA o7 0 then
 some (1,[B false])
 else
 (DM [I v23,I v24,I v25,I v26,I v27,I v28,I v29,I v30,I v31, .view Aa v32,jA (nth [] v0 v2.toNat) 2]).bind λo8=>
 bif !bA o8 0 then
 some (1,[B false])
 else
 some (0,[.view kPt v0,I v1,I (wrap .i64 (v2+1)),I v3,I v4,I v5,I v6,I v7,I v8,I v9,I v10,I v11, .view Aa v12,I v13,I v14,I v15,I v16,I v17,I v18,I v19,I v20,I v21, .view Aa v22,I v23,I v24,I v25,I v26,I v27,I v28,I v29,I v30,I v31, .view Aa v32])
 else
 none
 else
 some (2,[]):=by kernel_rfl
theorem Zqc (DM:Fn) (N3 N8:Lp) (x0 x1 x2 x3 x4 x5 x6 x7 x8:Int) (x9:Rw) (x10 x11 x12 x13 x14 x15 x16 x17 x18:Int) (x19:Rw) (x20 x21 x22 x23 x24 x25 x26 x27 x28:Int) (x29:Rw) (x30 x31 x32:Int) (x33 x34:Rw):Z_ DM N3 N8 [I x0,I x1,I x2,I x3,I x4,I x5,I x6,I x7,I x8, .view Aa x9,I x10,I x11,I x12,I x13,I x14,I x15,I x16,I x17,I x18, .view Aa x19,I x20,I x21,I x22,I x23,I x24,I x25,I x26,I x27,I x28, .view Aa x29,I x30,I x31,I x32, .view Ai x33, .view kPt x34]=
 (N3 [.view kPt [[I x30,I x31,I x32]], .view Ai x33,I (x33.length:Int),I 0,I x0,I x1,I x2,I x3,I x4,I x5,I x6,I x7,I x8, .view Aa x9,I x10,I x11,I x12,I x13,I x14,I x15,I x16,I x17,I x18, .view Aa x19,I x20,I x21,I x22,I x23,I x24,I x25,I x26,I x27,I x28, .view Aa x29]).bind λo9=>
 bif o9.1.beq 1 then
 (N8 [.view kPt (wA o9.2 0),I (↑(wA o9.2 0).length:Int),I 0,jA o9.2 1,jA o9.2 2,jA o9.2 3,jA o9.2 4,jA o9.2 5,jA o9.2 6,jA o9.2 7,jA o9.2 8,jA o9.2 9, .view Aa (wA o9.2 10),jA o9.2 11,jA o9.2 12,jA o9.2 13,jA o9.2 14,jA o9.2 15,jA o9.2 16,jA o9.2 17,jA o9.2 18,jA o9.2 19, .view Aa (wA o9.2 20),jA o9.2 21,jA o9.2 22,jA o9.2 23,jA o9.2 24,jA o9.2 25,jA o9.2 26,jA o9.2 27,jA o9.2 28,jA o9.2 29, .view Aa (wA o9.2 30)]).bind λo10=>
 bif o10.1.beq 1 then
 some [B (bA o10.2 0)]
 else
 bif o10.1.beq 2 then
 some [B true]
 else
 none
 else
 none:=by kernel_rfl
def Qg2:=Am (Qp HC)
def Qsl:=Am (T3 HC Qg2)
def P2:=Z_ HC Qg2 Qsl
theorem Yz:Aj PG (Qf4 HC):=Ap rfl ⟨Z4h,trivial⟩
theorem Zb9:Al PG (90,Ad Qb1 Qnv P2):=rw2 (C:=(Quw HC Qg2 Qsl)) (fl (fl fb Yz) Yz) Yz
def Qot:Sk:=⟨[TS.tup [(true,[ci,ci,ci,CS.sl Ai,CS.sl kPt]),(false,[ci])]],[],[]⟩
def Z48 (M:Fn):Nat×Spec:=(89,Ad Qnx Qot M)
def Qg9 (D_:Fn):Cfg:=cp [Q9l D_] [80]
def Wc (D_:Fn):Fn:=An PG (Qg9 D_) 64 89 Qnx Qot
theorem Zx8 (D_:Fn) (x0:Rw):Wc D_ [.view Ah x0]=
 (D_ [.view Ah x0]).bind λo1=>
 bif gA o1 2 !=0 then
 some [I 0,I 0,I 0, .view Ai [], .view kPt [],jA o1 2]
 else
 some [jA o1 3,jA o1 4,jA o1 5, .view Ai (wA o1 0), .view kPt (wA o1 1),I 0]:=by kernel_rfl
def Lu:=Wc JA
theorem Z0e:Aj PG (Qg9 JA):=Ap rfl ⟨Q2e,trivial⟩
theorem Zbl:Al PG (89,Ad Qnx Qot Lu):=rw1 (C:=(Qg9 JA)) Z0e
def Vc:Sk:=⟨[tf [CS.ptr 20000 0],tf [CS.sl Ah],tf [CS.bool]],[(20000,119,cS)],[]⟩
def Q3s (M:Fn):Nat×Spec:=(57,Ad Vc Wv M)
def Qjx (CU Gl Nn Oh:Fn):Cfg:={cf [Q1h CU,Q64 Gl,Zz6 Nn,Z48 Oh]with fstore:=true}
def QI (CU Gl Nn Oh:Fn):Fn:=An PG (Qjx CU Gl Nn Oh) 64 57 Vc Wv
theorem Zt5 (CU Gl Nn Oh:Fn) (x0:Rw) (x1:Bool) (K:Kf) (c:Cv):QI CU Gl Nn Oh (.view Ah x0::B x1::Ac K c)=
 (Oh [.view Ah x0]).bind λo4=>
 bif gA o4 5 !=0 then
 some (jA o4 5::Ac K c)
 else
 (Nn (AI K.x++[jA o4 0,jA o4 1,jA o4 2, .view Ai (wA o4 3), .view kPt (wA o4 4)])).bind λo5=>
 bif !bA o5 0 then
 some (I 17::Ac K c)
 else
 bif(x0.length*176).ble 140737488355328 then
 (Gl [jA o4 0,jA o4 1,jA o4 2, .view Ai (wA o4 3), .view kPt (wA o4 4)]).bind λo6=>
 (CU [.view Ah x0]).bind λo7=>
 some (I 0::DK (Ac K c) [(35, .view Ah x0),(36,B x1),(37,jA o4 0),(38,jA o4 1),(39,jA o4 2),(40, .view Ai (wA o4 3)),(41, .view kPt (wA o4 4)),(42,jA o6 0),(43,jA o7 0)])
 else
 none:=by kernel_rfl
def LE:=QI G6 IW P2 Lu
theorem Zvy:Aj PG (Qjx G6 IW P2 Lu):=Ap rfl ⟨Qqm,Q7p,Zb9,Zbl,trivial⟩
theorem Qv1:Al PG (57,Ad Vc Wv LE):=rw1 (C:=(Qjx G6 IW P2 Lu)) Zvy
def Z2a (M:Fn):Nat×Spec:=(34,Ad Vc Wv M)
def Qj0 (Gm Gi:Fn):Cfg:=cp [Qzj Gm,Q3s Gi] [57]
def Qph (Gm Gi:Fn):Fn:=An PG (Qj0 Gm Gi) 64 34 Vc Wv
theorem Zfp (Gm Gi:Fn) (x0:Rw) (x1:Bool) (K:Kf) (c:Cv):Qph Gm Gi (.view Ah x0::B x1::Ac K c)=
 bif K.closed then
 some (I 13::Ac K c)
 else
 bif c.aH !=0 then
 some (I 13::Ac K c)
 else
 bif((K.items.map Af).length*176).ble 140737488355328 then
 bif(((K.items.map Af)++x0).length*176).ble 140737488355328 then
 (Gi (.view Ah ((K.items.map Af)++x0)::B x1::Ac K c)).bind λo2=>
 bif gA o2 0 !=0 then
 some (jA o2 0::cR 1 o2)
 else
 bif gA o2 72==0 then
 (Gm [jA o2 38,jA o2 39,jA o2 40, .view Ai (wA o2 41), .view kPt (wA o2 42),jA o2 1,jA o2 2,jA o2 3,jA o2 4,jA o2 5,jA o2 6,jA o2 7,jA o2 8,jA o2 9, .view Aa (wA o2 10),jA o2 11,jA o2 12,jA o2 13,jA o2 14,jA o2 15,jA o2 16,jA o2 17,jA o2 18,jA o2 19, .view Aa (wA o2 20),jA o2 21,jA o2 22,jA o2 23,jA o2 24,jA o2 25,jA o2 26,jA o2 27,jA o2 28,jA o2 29, .view Aa (wA o2 30),jA o2 48,jA o2 49,jA o2 50,jA o2 47,jA o2 43]).bind λo3=>
 some (I 0::DK (cR 1 o2) [(44, .view At (wA o3 0)),(45,jA o3 1),(46,jA o3 2),(47,jA o3 3),(48,jA o3 4),(49,jA o3 5)])
 else
 some (I 0::cR 1 o2)
 else
 none
 else
 none:=by kernel_rfl
def J3:=Qph Kg LE
theorem Zp0:Aj PG (Qj0 Kg LE):=Ap rfl ⟨Q9z,Qv1,trivial⟩
theorem Zen:Al PG (34,Ad Vc Wv J3):=rw1 (C:=(Qj0 Kg LE)) Zp0
def Q7h (M:Fn):Nat×Spec:=(17,Ad Y7 Qn1 M)
def Q0f:Fn:=An PG WB 64 17 Y7 Qn1
theorem Zpb (x0 x1:Int):Q0f [I x0,I x1]=
 bif decide (x1=0)then
 none
 else
 bif decide (x1=0)then
 none
 else
 some [I ((wrap .i64 (x0.tmod x1+x1)).tmod x1)]:=by kernel_rfl
def HS:=Q0f
theorem Q3c:Al PG (17,Ad Y7 Qn1 HS):=rw1 (C:=WB) Z0p
def Zrs (M:Fn):Nat×Spec:=(55,Ad Yg XX M)
def Qab:Fn:=An PG WB 64 55 Yg XX
theorem Zbg:Qab []=
 some [I 100,I 100,B false,B false,B false]:=by kernel_rfl
def Pn:=Qab
theorem Zi9:Al PG (55,Ad Yg XX Pn):=rw1 (C:=WB) Z0p
def Qcm:Sk:=⟨[TS.v true (cc 9++[CS.sl Aa]++cc 9++[CS.sl Aa]++cc 9++[CS.sl Aa]++cc 5)],[],[]⟩
def Zig (M:Fn):Nat×Spec:=(54,Ad Qcm Qcm M)
def Vl:Cfg:={cf []with fstore:=true,unroll:=[2]}
def Xv:Fn:=An PG Vl 64 54 Qcm Qcm
theorem Z3k (x0 x1 x2 x3 x4 x5 x6 x7 x8:Int) (x9:Rw) (x10 x11 x12 x13 x14 x15 x16 x17 x18:Int) (x19:Rw) (x20 x21 x22 x23 x24 x25 x26 x27 x28:Int) (x29:Rw) (x30 x31 x32 x33 x34:Int):Xv [I x0,I x1,I x2,I x3,I x4,I x5,I x6,I x7,I x8, .view Aa x9,I x10,I x11,I x12,I x13,I x14,I x15,I x16,I x17,I x18, .view Aa x19,I x20,I x21,I x22,I x23,I x24,I x25,I x26,I x27,I x28, .view Aa x29,I x30,I x31,I x32,I x33,I x34]=
 bif(x9.length*8).ble 140737488355328 then
 bif(x19.length*8).ble 140737488355328 then
 bif(x29.length*8).ble 140737488355328 then
 some [I x0,I x1,I x2,I x3,I x4,I x5,I x6,I x7,I x8, .view Aa x9,I x10,I x11,I x12,I x13,I x14,I x15,I x16,I x17,I x18, .view Aa x19,I x20,I x21,I x22,I x23,I x24,I x25,I x26,I x27,I x28, .view Aa x29,I x30,I x31,I x32,I x33,I x34]
 else
 none
 else
 none
 else
 none:=by kernel_rfl
def QD:=Xv
theorem Zwl:Aj PG (Vl):=Ap rfl trivial
theorem Zem:Al PG (54,Ad Qcm Qcm QD):=rw1 (C:=Vl) Zwl
def WD:Sk:=⟨[TS.v true (cc 9++[CS.sl Aa])],[],[]⟩
def Zjb (M:Fn):Nat×Spec:=(141,Ad WD Qnv M)
def Wi (BQ:Fn):Cfg:=cf [Qa8 BQ]
def Q6h:Sk:=⟨[td,tf [CS.ptr 1 0]]++dd 24++[tf [CS.sl Aa],tf [ci],tf [ci]]++dd 29,[(1,26,cc 9++[CS.sl Aa])],[]⟩
def Qql:List (Ex×Sk):=[(Ex.ret,⟨[td,td,tf [CS.bool]]++dd 55,[],[]⟩),(Ex.exit 0,⟨[td]++dd 57,[],[]⟩)]
def Qhm (BQ:Fn):Lp:=A0 PG (Wi BQ) 64 6 (AY PG 141 6) Q6h Qql
def Q93 (BQ:Fn) (N6:Lp):Cfg:=(Wi BQ).loop 6 Q6h Qql N6
def Qkq (BQ:Fn) (N6:Lp):Fn:=An PG (Q93 BQ N6) 64 141 WD Qnv
theorem Zfx (BQ:Fn) (v0:Rw) (v1 v2 v3 v4 v5 v6 v7 v8 v9 v10 v11:Int) (v12:Rw):Qhm BQ [.view Aa v0,I v1,I v2,I v3,I v4,I v5,I v6,I v7,I v8,I v9,I v10,I v11, .view Aa v12]=
 bif decide (v2<v1)then
 bif decide (0<=v2)&&decide (v2<(v0.length:Int))then
 (BQ [jA (nth [] v0 v2.toNat) 0,I (-4096),I 4096]).bind λo7=>
 bif !bA o7 0 then
 some (1,[B false])
 else
 bif decide (v2>0)then
 bif decide (0<=wrap .i64 (v2-1))&&decide (wrap .i64 (v2-1)<(v12.length:Int))then
 (BQ [I (wrap .i64 (gA (nth [] v0 v2.toNat) 0-gA (nth [] v12 (wrap .i64 (v2-1)).toNat) 0)),I (wrap .i64 (0-wrap .i64 (v11.tdiv 4))),I (wrap .i64 (v11.tdiv 4))]).bind λo8=>
 bif !bA o8 0 then
 some (1,[B false])
 else
 some (0,[.view Aa v0,I v1,I (wrap .i64 (v2+1)),I v3,I v4,I v5,I v6,I v7,I v8,I v9,I v10,I v11, .view Aa v12])
 else
 none
 else
 some (0,[.view Aa v0,I v1,I (wrap .i64 (v2+1)),I v3,I v4,I v5,I v6,I v7,I v8,I v9,I v10,I v11, .view Aa v12])
 else
 none
 else
 some (2,[]):=by kernel_rfl
theorem Z4u (BQ:Fn) (N6:Lp) (x0 x1 x2 x3 x4 x5 x6 x7 x8:Int) (x9:Rw):Qkq BQ N6 [I x0,I x1,I x2,I x3,I x4,I x5,I x6,I x7,I x8, .view Aa x9]=
 bif(x9.length:Int)==0 then
 some [B true]
 else
 bif decide ((x9.length:Int)>64)then
 some [B false]
 else
 (BQ [I x7,I (-16777216),I 16777216]).bind λo9=>
 bif !bA o9 0 then
 some [B false]
 else
 (BQ [I x8,I 4,I 16777216]).bind λo10=>
 bif !bA o10 0 then
 some [B false]
 else
 (N6 [.view Aa x9,I (x9.length:Int),I 0,I x0,I x1,I x2,I x3,I x4,I x5,I x6,I x7,I x8, .view Aa x9]).bind λo11=>
 bif o11.1.beq 1 then
 some [B (bA o11.2 0)]
 else
 bif o11.1.beq 2 then
 some [B true]
 else
 none:=by kernel_rfl
def Qp6:=Am (Qhm GS)
def QA:=Qkq GS Qp6
theorem Qtn:Aj PG (Wi GS):=Ap rfl ⟨Qbp,trivial⟩
theorem Zyi:Al PG (141,Ad WD Qnv QA):=rw2 (C:=(Q93 GS Qp6)) (fl fb Qtn) Qtn
def Z5d (M:Fn):Nat×Spec:=(86,Ad WD Qnv M)
def Wt (Ou BQ:Fn):Cfg:=cf [Zjb Ou,Qa8 BQ]
def VH (Ou BQ:Fn):Fn:=An PG (Wt Ou BQ) 64 86 WD Qnv
theorem Zgy (Ou BQ:Fn) (x0 x1 x2 x3 x4 x5 x6 x7 x8:Int) (x9:Rw):VH Ou BQ [I x0,I x1,I x2,I x3,I x4,I x5,I x6,I x7,I x8, .view Aa x9]=
 (BQ [I x0,I 4,I 4096]).bind λo6=>
 bif bA o6 0 then
 (BQ [I x1,I 1,I 1048576]).bind λo7=>
 bif bA o7 0 then
 (BQ [I x2,I 2,I 1048576]).bind λo8=>
 bif bA o8 0 then
 (BQ [I x3,I 4,I 1048576]).bind λo9=>
 bif decide (x4>= -16777216)then
 bif decide (x5<=16777216)then
 bif bA o9 0 then
 bif decide (x4<=x5)then
 (BQ [I x6,I 0,I 64]).bind λo10=>
 bif bA o10 0 then
 (Ou [I x0,I x1,I x2,I x3,I x4,I x5,I x6,I x7,I x8, .view Aa x9]).bind λo11=>
 some [B (bA o11 0)]
 else
 some [B false]
 else
 some [B false]
 else
 some [B false]
 else
 bif bA o9 0 then
 some [B false]
 else
 some [B false]
 else
 bif bA o9 0 then
 some [B false]
 else
 some [B false]
 else
 bif decide (x4>= -16777216)then
 bif decide (x5<=16777216)then
 some [B false]
 else
 some [B false]
 else
 some [B false]
 else
 bif decide (x4>= -16777216)then
 bif decide (x5<=16777216)then
 some [B false]
 else
 some [B false]
 else
 some [B false]
 else
 bif decide (x4>= -16777216)then
 bif decide (x5<=16777216)then
 some [B false]
 else
 some [B false]
 else
 some [B false]:=by kernel_rfl
def Q4:=VH QA GS
theorem Zoc:Aj PG (Wt QA GS):=Ap rfl ⟨Zyi,Qbp,trivial⟩
theorem Zob:Al PG (86,Ad WD Qnv Q4):=rw1 (C:=(Wt QA GS)) Zoc
def Zqh (M:Fn):Nat×Spec:=(53,Ad Qcm Qnv M)
def Qgc (Du BW Kw:Fn):Cfg:={cf [UI Du,Qjg BW,Z5d Kw]with unroll:=[2]}
def Xe (Du BW Kw:Fn):Fn:=An PG (Qgc Du BW Kw) 64 53 Qcm Qnv
theorem Z5j (Du BW Kw:Fn) (x0 x1 x2 x3 x4 x5 x6 x7 x8:Int) (x9:Rw) (x10 x11 x12 x13 x14 x15 x16 x17 x18:Int) (x19:Rw) (x20 x21 x22 x23 x24 x25 x26 x27 x28:Int) (x29:Rw) (x30 x31 x32 x33 x34:Int):Xe Du BW Kw [I x0,I x1,I x2,I x3,I x4,I x5,I x6,I x7,I x8, .view Aa x9,I x10,I x11,I x12,I x13,I x14,I x15,I x16,I x17,I x18, .view Aa x19,I x20,I x21,I x22,I x23,I x24,I x25,I x26,I x27,I x28, .view Aa x29,I x30,I x31,I x32,I x33,I x34]=
 (Kw [I x0,I x1,I x2,I x3,I x4,I x5,I x6,I x7,I x8, .view Aa x9]).bind λo5=>
 bif !bA o5 0 then
 some [B false]
 else
 (Kw [I x10,I x11,I x12,I x13,I x14,I x15,I x16,I x17,I x18, .view Aa x19]).bind λo6=>
 bif !bA o6 0 then
 some [B false]
 else
 (Kw [I x20,I x21,I x22,I x23,I x24,I x25,I x26,I x27,I x28, .view Aa x29]).bind λo7=>
 bif !bA o7 0 then
 some [B false]
 else
 (BW [I x30,I x31,I x32]).bind λo8=>
 bif bA o8 0 then
 bif decide (x33>=1)then
 (Du [I 30000]).bind λo9=>
 bif decide (x33<=gA o9 0)then
 bif decide (x34>=0)then
 some [B (decide (x34<=1048576))]
 else
 some [B false]
 else
 some [B false]
 else
 some [B false]
 else
 some [B false]:=by kernel_rfl
def QO:=Xe Fh Fe Q4
theorem Zrm:Aj PG (Qgc Fh Fe Q4):=Ap rfl ⟨Qog,Qje,Zob,trivial⟩
theorem Zr7:Al PG (53,Ad Qcm Qnv QO):=rw1 (C:=(Qgc Fh Fe Q4)) Zrm
def Qa3:Sk:=⟨[TS.v true (cc 9++[CS.sl Aa]++cc 9++[CS.sl Aa]++cc 9++[CS.sl Aa]++cc 5),tf [CS.sl Ah],tf [CS.bool]],[],[]⟩
def Y5:Sk:=⟨[TS.tup [(false,[CS.ptr 19 0]),(false,[ci])]],[(19,119,cS)],[]⟩
def Qts (M:Fn):Nat×Spec:=(20,Ad Qa3 Y5 M)
def Up (F4 Gm Gi Gw Mx OU OV:Fn):Cfg:={cp [Q2z F4,Qzj Gm,Q3s Gi,Q0z Gw,Zrs Mx,Zig OU,Zqh OV] [57]with fstore:=true}
def Rn (F4 Gm Gi Gw Mx OU OV:Fn):Fn:=An PG (Up F4 Gm Gi Gw Mx OU OV) 64 20 Qa3 Y5
theorem Zdl (F4 Gm Gi Gw Mx OU OV:Fn) (x0 x1 x2 x3 x4 x5 x6 x7 x8:Int) (x9:Rw) (x10 x11 x12 x13 x14 x15 x16 x17 x18:Int) (x19:Rw) (x20 x21 x22 x23 x24 x25 x26 x27 x28:Int) (x29:Rw) (x30 x31 x32 x33 x34:Int) (x35:Rw) (x36:Bool):Rn F4 Gm Gi Gw Mx OU OV [I x0,I x1,I x2,I x3,I x4,I x5,I x6,I x7,I x8, .view Aa x9,I x10,I x11,I x12,I x13,I x14,I x15,I x16,I x17,I x18, .view Aa x19,I x20,I x21,I x22,I x23,I x24,I x25,I x26,I x27,I x28, .view Aa x29,I x30,I x31,I x32,I x33,I x34, .view Ah x35,B x36]=
 (OV [I x0,I x1,I x2,I x3,I x4,I x5,I x6,I x7,I x8, .view Aa x9,I x10,I x11,I x12,I x13,I x14,I x15,I x16,I x17,I x18, .view Aa x19,I x20,I x21,I x22,I x23,I x24,I x25,I x26,I x27,I x28, .view Aa x29,I x30,I x31,I x32,I x33,I x34]).bind λo7=>
 bif !bA o7 0 then
 none
 else
 (OU [I x0,I x1,I x2,I x3,I x4,I x5,I x6,I x7,I x8, .view Aa x9,I x10,I x11,I x12,I x13,I x14,I x15,I x16,I x17,I x18, .view Aa x19,I x20,I x21,I x22,I x23,I x24,I x25,I x26,I x27,I x28, .view Aa x29,I x30,I x31,I x32,I x33,I x34]).bind λo8=>
 (Mx []).bind λo9=>
 (Gw []).bind λo10=>
 (Gi [.view Ah x35,B x36,jA o8 0,jA o8 1,jA o8 2,jA o8 3,jA o8 4,jA o8 5,jA o8 6,jA o8 7,jA o8 8, .view Aa (wA o8 9),jA o8 10,jA o8 11,jA o8 12,jA o8 13,jA o8 14,jA o8 15,jA o8 16,jA o8 17,jA o8 18, .view Aa (wA o8 19),jA o8 20,jA o8 21,jA o8 22,jA o8 23,jA o8 24,jA o8 25,jA o8 26,jA o8 27,jA o8 28, .view Aa (wA o8 29),jA o8 30,jA o8 31,jA o8 32,jA o8 33,jA o8 34, .view Ah [],B false,I 0,I 0,I 0, .view Ai [], .view kPt [],I 0,I 0, .view At [],I 0,I 0,I 0,I 0,I 0,I 0,I 0,I 0,I 0,I 0,I 0,jA o9 0,jA o9 1,B (bA o9 2),B (bA o9 3),B (bA o9 4),jA o10 0,jA o10 1,jA o10 2,I 1,I 0,I 0,I 0,I 0,I 0,I 0,I 0,I 0,B false,I 0,B false,I 0,B false,I 0,I (-1),I 0,I 0,I 0,I 0,I 0,I 0,I 0,B false,B false,B false]).bind λo11=>
 bif gA o11 0 !=0 then
 none
 else
 (Gm [jA o11 38,jA o11 39,jA o11 40, .view Ai (wA o11 41), .view kPt (wA o11 42),jA o11 1,jA o11 2,jA o11 3,jA o11 4,jA o11 5,jA o11 6,jA o11 7,jA o11 8,jA o11 9, .view Aa (wA o11 10),jA o11 11,jA o11 12,jA o11 13,jA o11 14,jA o11 15,jA o11 16,jA o11 17,jA o11 18,jA o11 19, .view Aa (wA o11 20),jA o11 21,jA o11 22,jA o11 23,jA o11 24,jA o11 25,jA o11 26,jA o11 27,jA o11 28,jA o11 29, .view Aa (wA o11 30),I 1,I 1,I 1,I 0,jA o11 43]).bind λo12=>
 (F4 [I 0]).bind λo13=>
 some (I 0::DK (cR 1 o11) [(44, .view At (wA o12 0)),(45,jA o12 1),(46,jA o12 2),(47,jA o12 3),(48,jA o12 4),(49,jA o12 5),(50,jA o13 0),(51,jA o13 1),(52,jA o13 2),(53,jA o13 3),(54,jA o13 4),(55,jA o13 5)]):=by kernel_rfl
def GO:=Rn IX Kg LE J9 Pn QD QO
theorem Zl6:Aj PG (Up IX Kg LE J9 Pn QD QO):=Ap rfl ⟨Q06,Q9z,Qv1,Q5w,Zi9,Zem,Zr7,trivial⟩
theorem Q0t:Al PG (20,Ad Qa3 Y5 GO):=rw1 (C:=(Up IX Kg LE J9 Pn QD QO)) Zl6
def Zi5 (M:Fn):Nat×Spec:=(18,Ad Qpa Qpa M)
def C_cncmill_Calm_0:Cfg:={cf []with prom:=λb=>bif Nat.beq b 3 then [(3,69)]else []}
def Qzf:Sk:=⟨[td,td,td,tf [CS.own 3 3],td,td,tf [CS.sl kPt],tf [ci],tf [ci]]++dd 12,[],[(3,69,kPt)]⟩
def Quv:List (Ex×Sk):=[(Ex.exit 0,⟨[td,td,td,tf [CS.own 3 3]]++dd 17,[],[(3,69,kPt)]⟩)]
def Ue:Lp:=A0 PG C_cncmill_Calm_0 64 3 (AY PG 18 3) Qzf Quv
def Qsb (N3:Lp):Cfg:=C_cncmill_Calm_0.loop 3 Qzf Quv N3
def Qeb (N3:Lp):Fn:=An PG (Qsb N3) 64 18 Qpa Qpa
theorem Zua (v0 v1:Rw) (v2 v3:Int):Ue [.view kPt v0, .view kPt v1,I v2,I v3]=
 bif decide (v3<v2)then
 bif decide (0<=v3)&&decide (v3<(v1.length:Int))then
 bif decide (gA (nth [] v1 v3.toNat) 1<=6)then
 bif((v0++[[jA (nth [] v1 v3.toNat) 0,jA (nth [] v1 v3.toNat) 1,jA (nth [] v1 v3.toNat) 2]]).length*24).ble 140737488355328 then
 some (0,[.view kPt (v0++[[jA (nth [] v1 v3.toNat) 0,jA (nth [] v1 v3.toNat) 1,jA (nth [] v1 v3.toNat) 2]]), .view kPt v1,I v2,I (wrap .i64 (v3+1))])
 else
 none
 else
 some (0,[.view kPt v0, .view kPt v1,I v2,I (wrap .i64 (v3+1))])
 else
 none
 else
 some (1,[.view kPt v0]):=by kernel_rfl
theorem Zys (N3:Lp) (x0:Rw):Qeb N3 [.view kPt x0]=
 (N3 [.view kPt [], .view kPt x0,I (x0.length:Int),I 0]).bind λo1=>
 bif o1.1.beq 1 then
 some [.view kPt (wA o1.2 0)]
 else
 none:=by kernel_rfl
def Qvp:=Am (Ue)
def KT:=Qeb Qvp
theorem Qu8:Aj PG (C_cncmill_Calm_0):=Ap rfl trivial
theorem Znl:Al PG (18,Ad Qpa Qpa KT):=rw2 (C:=(Qsb Qvp)) (fl fb Qu8) Qu8
def ZQ:Sk:=⟨[tf [CS.ptr 20000 0],tf [ci]],[(20000,103,[CS.sl Aa,ci])],[]⟩
def Qaf:Sk:=⟨[tf [ci]],[(20000,103,[CS.sl Aa,ci])],[]⟩
def Jb (M:Fn):Nat×Spec:=(48,Ad ZQ Qaf M)
def Qhc (CW:Fn):Cfg:=cf [Q7h CW]
def Va (CW:Fn):Fn:=An PG (Qhc CW) 64 48 ZQ Qaf
theorem Za2 (CW:Fn) (x0:Int) (x1:Rw) (x2:Int):Va CW [I x0, .view Aa x1,I x2]=
 bif decide (x2>=(x1.length:Int))then
 some [I 0, .view Aa x1,I x2]
 else
 bif decide (0<=x2)&&decide (x2<(x1.length:Int))then
 (CW [jA (nth [] x1 x2.toNat) 0,I x0]).bind λo1=>
 some [jA o1 0, .view Aa x1,I (wrap .i64 (x2+1))]
 else
 none:=by kernel_rfl
def BJ:=Va HS
theorem Z5m:Aj PG (Qhc HS):=Ap rfl ⟨Q3c,trivial⟩
theorem IV:Al PG (48,Ad ZQ Qaf BJ):=rw1 (C:=(Qhc HS)) Z5m
def Qkx:Sk:=⟨[TS.v true [ci,ci,ci]],[(20000,103,[CS.sl Aa,ci])],[]⟩
def Zbo (M:Fn):Nat×Spec:=(52,Ad ZQ Qkx M)
def Qd8 (As:Fn):Cfg:=cp [Jb As] [48]
def Qn6 (As:Fn):Fn:=An PG (Qd8 As) 64 52 ZQ Qkx
abbrev Pa (As:Fn) (o9:List AC) (x0:Int) (h1_0:AC):Option (List AC):=
 (As [h1_0, .view Aa (wA o9 1),jA o9 2]).bind λo10=>
 some [I x0,I (Ag (nth .dead (nth [] [[I 4],[I 1],[I 2],[I 3],[I 4],[I 5],[I 6],[I 7],[I 4],[I 8],[I 9],[I 11],[I 12],[I 13],[I 10]] (gA o9 0).toNat) 0)),I (wrap .i64 (gA o10 0-5)), .view Aa (wA o10 1),jA o10 2]
theorem Z4j (As:Fn) (x0:Int) (x1:Rw) (x2:Int):Qn6 As [I x0, .view Aa x1,I x2]=
 (As [I 15, .view Aa x1,I x2]).bind λo9=>
 bif decide (0<=gA o9 0)&&decide (gA o9 0<(↑[[I 4],[I 1],[I 2],[I 3],[I 4],[I 5],[I 6],[I 7],[I 4],[I 8],[I 9],[I 11],[I 12],[I 13],[I 10]].length:Int))then
 bif Ag (nth .dead (nth [] [[I 4],[I 1],[I 2],[I 3],[I 4],[I 5],[I 6],[I 7],[I 4],[I 8],[I 9],[I 11],[I 12],[I 13],[I 10]] (gA o9 0).toNat) 0)==1 then
 Pa As o9 x0 (I 220)
 else
 bif Ag (nth .dead (nth [] [[I 4],[I 1],[I 2],[I 3],[I 4],[I 5],[I 6],[I 7],[I 4],[I 8],[I 9],[I 11],[I 12],[I 13],[I 10]] (gA o9 0).toNat) 0)==2 then
 Pa As o9 x0 (I 220)
 else
 bif Ag (nth .dead (nth [] [[I 4],[I 1],[I 2],[I 3],[I 4],[I 5],[I 6],[I 7],[I 4],[I 8],[I 9],[I 11],[I 12],[I 13],[I 10]] (gA o9 0).toNat) 0)==5 then
 (As [I 3, .view Aa (wA o9 1),jA o9 2]).bind λo12=>
 some [I x0,I (Ag (nth .dead (nth [] [[I 4],[I 1],[I 2],[I 3],[I 4],[I 5],[I 6],[I 7],[I 4],[I 8],[I 9],[I 11],[I 12],[I 13],[I 10]] (gA o9 0).toNat) 0)),jA o12 0, .view Aa (wA o12 1),jA o12 2]
 else
 bif Ag (nth .dead (nth [] [[I 4],[I 1],[I 2],[I 3],[I 4],[I 5],[I 6],[I 7],[I 4],[I 8],[I 9],[I 11],[I 12],[I 13],[I 10]] (gA o9 0).toNat) 0)==6 then
 (As [I 3, .view Aa (wA o9 1),jA o9 2]).bind λo13=>
 some [I x0,I (Ag (nth .dead (nth [] [[I 4],[I 1],[I 2],[I 3],[I 4],[I 5],[I 6],[I 7],[I 4],[I 8],[I 9],[I 11],[I 12],[I 13],[I 10]] (gA o9 0).toNat) 0)),jA o13 0, .view Aa (wA o13 1),jA o13 2]
 else
 bif Ag (nth .dead (nth [] [[I 4],[I 1],[I 2],[I 3],[I 4],[I 5],[I 6],[I 7],[I 4],[I 8],[I 9],[I 11],[I 12],[I 13],[I 10]] (gA o9 0).toNat) 0)==7 then
 Pa As o9 x0 (I 300)
 else
 bif Ag (nth .dead (nth [] [[I 4],[I 1],[I 2],[I 3],[I 4],[I 5],[I 6],[I 7],[I 4],[I 8],[I 9],[I 11],[I 12],[I 13],[I 10]] (gA o9 0).toNat) 0)==8 then
 (As [I 5, .view Aa (wA o9 1),jA o9 2]).bind λo15=>
 some [I x0,I (Ag (nth .dead (nth [] [[I 4],[I 1],[I 2],[I 3],[I 4],[I 5],[I 6],[I 7],[I 4],[I 8],[I 9],[I 11],[I 12],[I 13],[I 10]] (gA o9 0).toNat) 0)),I (wrap .i64 (gA o15 0-1)), .view Aa (wA o15 1),jA o15 2]
 else
 bif Ag (nth .dead (nth [] [[I 4],[I 1],[I 2],[I 3],[I 4],[I 5],[I 6],[I 7],[I 4],[I 8],[I 9],[I 11],[I 12],[I 13],[I 10]] (gA o9 0).toNat) 0)==13 then
 (As [I 4, .view Aa (wA o9 1),jA o9 2]).bind λo16=>
 (As [I 60, .view Aa (wA o16 1),jA o16 2]).bind λo17=>
 some [I x0,I (Ag (nth .dead (nth [] [[I 4],[I 1],[I 2],[I 3],[I 4],[I 5],[I 6],[I 7],[I 4],[I 8],[I 9],[I 11],[I 12],[I 13],[I 10]] (gA o9 0).toNat) 0)),I (wrap .i64 (wrap .i64 (gA o16 0*1048576)+gA o17 0)), .view Aa (wA o17 1),jA o17 2]
 else
 some [I x0,I (Ag (nth .dead (nth [] [[I 4],[I 1],[I 2],[I 3],[I 4],[I 5],[I 6],[I 7],[I 4],[I 8],[I 9],[I 11],[I 12],[I 13],[I 10]] (gA o9 0).toNat) 0)),I 0, .view Aa (wA o9 1),jA o9 2]
 else
 none:=by kernel_rfl
def L_:=Qn6 BJ
theorem Zci:Aj PG (Qd8 BJ):=Ap rfl ⟨IV,trivial⟩
theorem Zeo:Al PG (52,Ad ZQ Qkx L_):=rw1 (C:=(Qd8 BJ)) Zci
def Zq:Sk:=⟨[tf [CS.ptr 20000 0]],[(20000,103,[CS.sl Aa,ci])],[]⟩
def Qkz:Sk:=⟨[tf [CS.bool]],[(20000,103,[CS.sl Aa,ci])],[]⟩
def Qy7 (M:Fn):Nat×Spec:=(49,Ad Zq Qkz M)
def Qvu:Fn:=An PG WB 64 49 Zq Qkz
theorem Zs7 (x0:Rw) (x1:Int):Qvu [.view Aa x0,I x1]=
 some [B (decide (x1<(x0.length:Int))), .view Aa x0,I x1]:=by kernel_rfl
def Gv:=Qvu
theorem Qx7:Al PG (49,Ad Zq Qkz Gv):=rw1 (C:=WB) Z0p
def Qc8:Sk:=⟨[tf [CS.ptr 5 0]],[(5,103,[CS.sl Aa,ci])],[]⟩
def Qk (M:Fn):Nat×Spec:=(45,Ad XB Qc8 M)
def Q6g:Fn:=An PG WB 64 45 XB Qc8
theorem Z08 (x0:Rw):Q6g [.view Aa x0]=
 some [.view Aa x0,I 0]:=by kernel_rfl
def CO:=Q6g
theorem Ql:Al PG (45,Ad XB Qc8 CO):=rw1 (C:=WB) Z0p
def Ztt (M:Fn):Nat×Spec:=(19,Ad XB Qpa M)
def Qic (GB As C0 Be:Fn):Cfg:={cp [Zbo GB,Jb As,Qy7 C0,Qk Be] [52,48,49,45]with prom:=λb=>bif Nat.beq b 4 then [(4,69)]else []}
def Qyb:Sk:=⟨[td,td,td,tf [CS.ptr 100700 0],tf [CS.own 4 3],tf [ci]]++dd 15,[(100700,103,[CS.sl Aa,ci])],[(4,69,kPt)]⟩
def Q71:List (Ex×Sk):=[(Ex.exit 0,⟨[td,td,td,td,tf [CS.own 4 3]]++dd 16,[],[(4,69,kPt)]⟩)]
def Xt (GB As C0 Be:Fn):Lp:=A0 PG (Qic GB As C0 Be) 64 4 (AY PG 19 4) Qyb Q71
def Q7v (GB As C0 Be:Fn) (N4:Lp):Cfg:=(Qic GB As C0 Be).loop 4 Qyb Q71 N4
def Qf6 (GB As C0 Be:Fn) (N4:Lp):Fn:=An PG (Q7v GB As C0 Be N4) 64 19 XB Qpa
theorem Zgm (GB As C0 Be:Fn) (v0:Rw) (v1:Int) (v2:Rw) (v3:Int):Xt GB As C0 Be [.view kPt v0,I v1, .view Aa v2,I v3]=
 (C0 [.view Aa v2,I v3]).bind λo10=>
 bif bA o10 0 then
 (As [I 40, .view Aa (wA o10 1),jA o10 2]).bind λo11=>
 (GB [I (wrap .i64 (v1+gA o11 0)), .view Aa (wA o11 1),jA o11 2]).bind λo12=>
 bif((v0++[[jA o12 0,jA o12 1,jA o12 2]]).length*24).ble 140737488355328 then
 some (0,[.view kPt (v0++[[jA o12 0,jA o12 1,jA o12 2]]),I (wrap .i64 (v1+gA o11 0)), .view Aa (wA o12 3),jA o12 4])
 else
 none
 else
 some (1,[.view kPt v0]):=by kernel_rfl
theorem Zva (GB As C0 Be:Fn) (N4:Lp) (x0:Rw):Qf6 GB As C0 Be N4 [.view Aa x0]=
 (Be [.view Aa x0]).bind λo13=>
 (N4 [.view kPt [],I 0, .view Aa (wA o13 0),jA o13 1]).bind λo14=>
 bif o14.1.beq 1 then
 some [.view kPt (wA o14.2 0)]
 else
 none:=by kernel_rfl
def Qtx:=Am (Xt L_ BJ Gv CO)
def LY:=Qf6 L_ BJ Gv CO Qtx
theorem Q6c:Aj PG (Qic L_ BJ Gv CO):=Ap rfl ⟨Zeo,IV,Qx7,Ql,trivial⟩
theorem Zvk:Al PG (19,Ad XB Qpa LY):=rw2 (C:=(Q7v L_ BJ Gv CO Qtx)) (fl fb Q6c) Q6c
def Zor (M:Fn):Nat×Spec:=(139,Ad Vk Qh1 M)
def Qzn:Fn:=An PG WB 64 139 Vk Qh1
theorem Zp5 (x0 x1 x2 x3:Int):Qzn [I x0,I x1,I x2,I x3]=
 bif x3==17 then
 some [I x0,I x1,I x2]
 else
 bif x3==18 then
 some [I x1,I x2,I x0]
 else
 bif x3==19 then
 some [I x2,I x0,I x1]
 else
 some [I 0,I 0,I 0]:=by kernel_rfl
def OX:=Qzn
theorem Zx4:Al PG (139,Ad Vk Qh1 OX):=rw1 (C:=WB) Z0p
def Zj7 (M:Fn):Nat×Spec:=(138,Ad Y7 UP M)
def Qv7:Fn:=An PG WB 64 138 Y7 UP
theorem Zxx (x0 x1:Int):Qv7 [I x0,I x1]=
 bif decide (0<=x1.tmod 4)&&decide (x1.tmod 4<(↑[[I x0],[I 0],[I (wrap .i64 (0-x0))],[I 0]].length:Int))then
 bif decide (0<=x1.tmod 4)&&decide (x1.tmod 4<(↑[[I 0],[I x0],[I 0],[I (wrap .i64 (0-x0))]].length:Int))then
 some [I (Ag (nth .dead (nth [] [[I x0],[I 0],[I (wrap .i64 (0-x0))],[I 0]] (x1.tmod 4).toNat) 0)),I (Ag (nth .dead (nth [] [[I 0],[I x0],[I 0],[I (wrap .i64 (0-x0))]] (x1.tmod 4).toNat) 0))]
 else
 none
 else
 none:=by kernel_rfl
def Oz:=Qv7
theorem Zmd:Al PG (138,Ad Y7 UP Oz):=rw1 (C:=WB) Z0p
def Zlg (M:Fn):Nat×Spec:=(137,Ad VV Qfm M)
def Qup:Fn:=An PG WB 64 137 VV Qfm
theorem Zgj (x0 x1 x2 x3:Int):Qup [I x0,I x1,I x2,I x3]=
 bif x3==17 then
 some [I x0,I x1,I x2]
 else
 bif x3==18 then
 some [I x2,I x0,I x1]
 else
 bif x3==19 then
 some [I x1,I x2,I x0]
 else
 some [I 0,I 0,I 0]:=by kernel_rfl
def Na:=Qup
theorem Zu6:Al PG (137,Ad VV Qfm Na):=rw1 (C:=WB) Z0p
def Qob:Sk:=⟨[tf [CS.ptr 20000 0],TS.v true [ci,ci,ci],tf [ci]],[(20000,103,[CS.sl Aa,ci])],[]⟩
def Qi6:Sk:=⟨[TS.v true (cc 13++[CS.bool,ci,CS.bool]++cc 5++[CS.bool])],[(20000,103,[CS.sl Aa,ci])],[]⟩
def Zha (M:Fn):Nat×Spec:=(85,Ad Qob Qi6 M)
def Qg6 (HY LK Nw As:Fn):Cfg:=cp [Zor HY,Zj7 LK,Zlg Nw,Jb As] [48]
def Qde (HY LK Nw As:Fn):Fn:=An PG (Qg6 HY LK Nw As) 64 85 Qob Qi6
abbrev RU (As HY:Fn) (o23 o18:List AC) (x0 x1 x2:Int) (o26 o19 o22:List AC) (h1_0 h1_1 h1_2 h1_3:AC):Option (List AC):=
 (As [I 4,h1_0,h1_1]).bind λo30=>
 bif decide (0<=gA o30 0)&&decide (gA o30 0<(↑[[I 0],[I 0],[I 7],[I (-12)]].length:Int))then
 (HY [h1_2,h1_3,I (wrap .i64 (gA o23 2+Ag (nth .dead (nth [] [[I 0],[I 0],[I 7],[I (-12)]] (gA o30 0).toNat) 0))),I (Ag (nth .dead (nth [] [[I 17],[I 18],[I 19]] (gA o18 0).toNat) 0))]).bind λo31=>
 some [I 3,I 0,I x0,I x1,I x2,jA o31 0,jA o31 1,jA o31 2,I (Ag (nth .dead (nth [] [[I 17],[I 18],[I 19]] (gA o18 0).toNat) 0)),jA o26 0,jA o26 1,jA o26 2,I (wrap .i64 (1-wrap .i64 (gA o19 0*2))),B (gA o22 0==0),I 0,B false,I 0,I 0,I 0,I 0,I 0,B false, .view Aa (wA o30 1),jA o30 2]
 else
 none
theorem Z0q (HY LK Nw As:Fn) (x0 x1 x2 x3:Int) (x4:Rw) (x5:Int):Qde HY LK Nw As [I x0,I x1,I x2,I x3, .view Aa x4,I x5]=
 (As [I 3, .view Aa x4,I x5]).bind λo18=>
 bif decide (0<=gA o18 0)&&decide (gA o18 0<(↑[[I 17],[I 18],[I 19]].length:Int))then
 (As [I 2, .view Aa (wA o18 1),jA o18 2]).bind λo19=>
 (As [I x3, .view Aa (wA o19 1),jA o19 2]).bind λo20=>
 (As [I 4, .view Aa (wA o20 1),jA o20 2]).bind λo21=>
 (As [I 4, .view Aa (wA o21 1),jA o21 2]).bind λo22=>
 (Nw [I x0,I x1,I x2,I (Ag (nth .dead (nth [] [[I 17],[I 18],[I 19]] (gA o18 0).toNat) 0))]).bind λo23=>
 (LK [I (wrap .i64 (8+gA o20 0)),jA o21 0]).bind λo24=>
 (LK [I (wrap .i64 (8+gA o20 0)),I (wrap .i64 (gA o21 0+gA o22 0))]).bind λo25=>
 (HY [I (wrap .i64 (gA o23 0-gA o24 0)),I (wrap .i64 (gA o23 1-gA o24 1)),jA o23 2,I (Ag (nth .dead (nth [] [[I 17],[I 18],[I 19]] (gA o18 0).toNat) 0))]).bind λo26=>
 bif decide (gA o22 0>0)then
 (As [I 3, .view Aa (wA o22 1),jA o22 2]).bind λo27=>
 bif gA o27 0==0 then
 bif decide (wrap .i64 (8+gA o20 0)=0)then
 none
 else
 (As [I 5, .view Aa (wA o27 1),jA o27 2]).bind λo28=>
 bif decide (wrap .i64 (8+gA o20 0)=0)then
 none
 else
 (As [I 5, .view Aa (wA o28 1),jA o28 2]).bind λo29=>
 RU As HY o23 o18 x0 x1 x2 o26 o19 o22 (.view Aa (wA o29 1)) (jA o29 2) (I (wrap .i64 (wrap .i64 (gA o23 0-gA o24 0)+wrap .i64 (gA o25 0+wrap .i64 (wrap .i64 ((gA o25 0).tdiv (wrap .i64 (8+gA o20 0)))*gA o28 0))))) (I (wrap .i64 (wrap .i64 (gA o23 1-gA o24 1)+wrap .i64 (gA o25 1+wrap .i64 (wrap .i64 ((gA o25 1).tdiv (wrap .i64 (8+gA o20 0)))*gA o29 0)))))
 else
 RU As HY o23 o18 x0 x1 x2 o26 o19 o22 (.view Aa (wA o27 1)) (jA o27 2) (I (wrap .i64 (wrap .i64 (gA o23 0-gA o24 0)+gA o25 0))) (I (wrap .i64 (wrap .i64 (gA o23 1-gA o24 1)+gA o25 1)))
 else
 RU As HY o23 o18 x0 x1 x2 o26 o19 o22 (.view Aa (wA o22 1)) (jA o22 2) (I (wrap .i64 (wrap .i64 (gA o23 0-gA o24 0)+gA o25 0))) (I (wrap .i64 (wrap .i64 (gA o23 1-gA o24 1)+gA o25 1)))
 else
 none:=by kernel_rfl
def Qz:=Qde OX Oz Na BJ
theorem Ze0:Aj PG (Qg6 OX Oz Na BJ):=Ap rfl ⟨Zx4,Zmd,Zu6,IV,trivial⟩
theorem Zv3:Al PG (85,Ad Qob Qi6 Qz):=rw1 (C:=(Qg6 OX Oz Na BJ)) Ze0
def Zko (M:Fn):Nat×Spec:=(51,Ad Qob Qi6 M)
def Qnn (As OF:Fn):Cfg:=cp [Jb As,Zha OF] [48,85]
def Qk1 (As OF:Fn):Fn:=An PG (Qnn As OF) 64 51 Qob Qi6
abbrev Xr (As:Fn) (o20:List AC) (x3:Int) (h1_0 h1_1 h1_2 h1_3 h1_4 h1_5 h1_6 h1_7 h1_8 h1_9 h1_10 h1_11 h1_12 h1_13 h1_16 h1_17 h1_20 h1_21:AC):Option (List AC):=
 (As [I 60, .view Aa (wA o20 1),jA o20 2]).bind λo21=>
 bif x3==6 then
 (As [I 2, .view Aa (wA o21 1),jA o21 2]).bind λo22=>
 some [h1_0,h1_1,h1_2,h1_3,h1_4,h1_5,h1_6,h1_7,h1_8,h1_9,h1_10,h1_11,h1_12,h1_13,I (wrap .i64 (1+gA o21 0)),B true,h1_16,h1_17,I 0,I (wrap .i64 (3+gA o22 0)),h1_20,h1_21, .view Aa (wA o22 1),jA o22 2]
 else
 some [h1_0,h1_1,h1_2,h1_3,h1_4,h1_5,h1_6,h1_7,h1_8,h1_9,h1_10,h1_11,h1_12,h1_13,I (wrap .i64 (1+gA o21 0)),B true,h1_16,h1_17,I 0,I 0,h1_20,h1_21, .view Aa (wA o21 1),jA o21 2]
abbrev Yn (x3:Int) (As:Fn) (h1_0 h1_1 h1_2 h1_3 h1_4 h1_5 h1_6 h1_7 h1_8 h1_9 h1_10 h1_11 h1_12 h1_13 h1_14 h1_15 h1_16 h1_17 h1_18 h1_19 h1_20 h1_21 h1_22 h1_23:AC):Option (List AC):=
 bif x3==1 then
 some [h1_0,h1_1,h1_2,h1_3,h1_4,h1_5,h1_6,h1_7,h1_8,h1_9,h1_10,h1_11,h1_12,h1_13,h1_14,h1_15,h1_16,h1_17,h1_18,h1_19,h1_20,h1_21,h1_22,h1_23]
 else
 (As [I 5,h1_22,h1_23]).bind λo19=>
 bif decide (0<=gA o19 0)&&decide (gA o19 0<(↑[[I 300000],[I 1],[I 60000],[I 2000000],[I 60000000]].length:Int))then
 (As [I 5, .view Aa (wA o19 1),jA o19 2]).bind λo20=>
 bif decide (0<=gA o20 0)&&decide (gA o20 0<(↑[[I 0],[I 1],[I 2],[I 4],[I 9]].length:Int))then
 bif x3==5 then
 Xr As o20 x3 h1_0 h1_1 h1_2 h1_3 h1_4 h1_5 h1_6 h1_7 h1_8 h1_9 h1_10 h1_11 h1_12 h1_13 h1_16 h1_17 h1_20 h1_21
 else
 bif x3==6 then
 Xr As o20 x3 h1_0 h1_1 h1_2 h1_3 h1_4 h1_5 h1_6 h1_7 h1_8 h1_9 h1_10 h1_11 h1_12 h1_13 h1_16 h1_17 h1_20 h1_21
 else
 bif x3==4 then
 some [h1_0,h1_1,h1_2,h1_3,h1_4,h1_5,h1_6,h1_7,h1_8,h1_9,h1_10,h1_11,h1_12,h1_13,I (Ag (nth .dead (nth [] [[I 300000],[I 1],[I 60000],[I 2000000],[I 60000000]] (gA o19 0).toNat) 0)),h1_15,h1_16,h1_17,I 0,h1_19,h1_20,h1_21, .view Aa (wA o20 1),jA o20 2]
 else
 some [h1_0,h1_1,h1_2,h1_3,h1_4,h1_5,h1_6,h1_7,h1_8,h1_9,h1_10,h1_11,h1_12,h1_13,I (Ag (nth .dead (nth [] [[I 300000],[I 1],[I 60000],[I 2000000],[I 60000000]] (gA o19 0).toNat) 0)),h1_15,h1_16,h1_17,I (Ag (nth .dead (nth [] [[I 0],[I 1],[I 2],[I 4],[I 9]] (gA o20 0).toNat) 0)),h1_19,h1_20,h1_21, .view Aa (wA o20 1),jA o20 2]
 else
 none
 else
 none
theorem Z06 (As OF:Fn) (x0 x1 x2 x3:Int) (x4:Rw) (x5:Int):Qk1 As OF [I x0,I x1,I x2,I x3, .view Aa x4,I x5]=
 bif x3==3 then
 (OF [I x0,I x1,I x2,I 8, .view Aa x4,I x5]).bind λo18=>
 Yn x3 As (jA o18 0) (jA o18 1) (jA o18 2) (jA o18 3) (jA o18 4) (jA o18 5) (jA o18 6) (jA o18 7) (jA o18 8) (jA o18 9) (jA o18 10) (jA o18 11) (jA o18 12) (B (bA o18 13)) (jA o18 14) (B (bA o18 15)) (jA o18 16) (jA o18 17) (jA o18 18) (jA o18 19) (jA o18 20) (B (bA o18 21)) (.view Aa (wA o18 22)) (jA o18 23)
 else
 (As [I 25, .view Aa x4,I x5]).bind λo25=>
 (As [I 25, .view Aa (wA o25 1),jA o25 2]).bind λo26=>
 (As [I 3, .view Aa (wA o26 1),jA o26 2]).bind λo27=>
 (As [I 9, .view Aa (wA o27 1),jA o27 2]).bind λo28=>
 (As [I 2, .view Aa (wA o28 1),jA o28 2]).bind λo29=>
 Yn x3 As (I x3) (I 0) (I x0) (I x1) (I x2) (I (wrap .i64 (wrap .i64 (x0+gA o25 0)-12))) (I (wrap .i64 (wrap .i64 (x1+gA o26 0)-12))) (I (wrap .i64 (wrap .i64 (x2+wrap .i64 (gA o27 0*gA o28 0))-wrap .i64 (8*gA o29 0)))) (I 0) (I 0) (I 0) (I 0) (I 0) (B false) (I 0) (B false) (I 0) (I 0) (I 0) (I 0) (I 0) (B false) (.view Aa (wA o29 1)) (jA o29 2):=by kernel_rfl
def Lo:=Qk1 BJ Qz
theorem Zum:Aj PG (Qnn BJ Qz):=Ap rfl ⟨IV,Zv3,trivial⟩
theorem Zub:Al PG (51,Ad Qob Qi6 Lo):=rw1 (C:=(Qnn BJ Qz)) Zum
def Zta (M:Fn):Nat×Spec:=(50,Ad Zq Qi6 M)
def UL (As:Fn):Cfg:=cp [Jb As] [48]
def Qkm (As:Fn):Fn:=An PG (UL As) 64 50 Zq Qi6
abbrev Z8 (As:Fn) (o8:List AC):Option (List AC):=
 (As [I 16, .view Aa (wA o8 1),jA o8 2]).bind λo9=>
 (As [I 2, .view Aa (wA o9 1),jA o9 2]).bind λo10=>
 some [I 10,I 0,I 0,I 0,I 0,I 0,I 0,I 0,I 0,I 0,I 0,I 0,I 0,B false,I 0,B false,I 0,I 0,I 0,jA o9 0,I 0,B (gA o10 0==0), .view Aa (wA o10 1),jA o10 2]
theorem Zv8 (As:Fn) (x0:Rw) (x1:Int):Qkm As [.view Aa x0,I x1]=
 (As [I 8, .view Aa x0,I x1]).bind λo8=>
 bif gA o8 0==0 then
 Z8 As o8
 else
 bif gA o8 0==1 then
 Z8 As o8
 else
 bif gA o8 0==2 then
 (As [I 5, .view Aa (wA o8 1),jA o8 2]).bind λo13=>
 some [I 7,I 0,I 0,I 0,I 0,I 0,I 0,I 0,I 0,I 0,I 0,I 0,I 0,B false,I 0,B false,I 0,I 0,I 0,jA o13 0,I 0,B false, .view Aa (wA o13 1),jA o13 2]
 else
 bif gA o8 0==3 then
 (As [I 3, .view Aa (wA o8 1),jA o8 2]).bind λo14=>
 (As [I 4000, .view Aa (wA o14 1),jA o14 2]).bind λo15=>
 some [I 8,I 0,I 0,I 0,I 0,I 0,I 0,I 0,I 0,I 0,I 0,I 0,I 0,B false,I 0,B false,I 0,I 0,I 0,I (wrap .i64 (3+gA o14 0)),jA o15 0,B false, .view Aa (wA o15 1),jA o15 2]
 else
 bif gA o8 0==4 then
 some [I 9,I 0,I 0,I 0,I 0,I 0,I 0,I 0,I 0,I 0,I 0,I 0,I 0,B false,I 0,B false,I 0,I 0,I 0,I 8,I 0,B true, .view Aa (wA o8 1),jA o8 2]
 else
 bif gA o8 0==5 then
 some [I 13,I 0,I 0,I 0,I 0,I 0,I 0,I 0,I 0,I 0,I 0,I 0,I 0,B false,I 0,B false,I 0,I 0,I 0,I 0,I 0,B false, .view Aa (wA o8 1),jA o8 2]
 else
 bif gA o8 0==6 then
 some [I 12,I 0,I 0,I 0,I 0,I 0,I 0,I 0,I 0,I 0,I 0,I 0,I 0,B false,I 0,B false,I 0,I 0,I 0,I 0,I 0,B false, .view Aa (wA o8 1),jA o8 2]
 else
 some [I 11,I 0,I 0,I 0,I 0,I 0,I 0,I 0,I 0,I 0,I 0,I 0,I 0,B false,I 0,B false,I 0,I 0,I 0,I 1,I 0,B false, .view Aa (wA o8 1),jA o8 2]:=by kernel_rfl
def Li:=Qkm BJ
theorem Zt9:Aj PG (UL BJ):=Ap rfl ⟨IV,trivial⟩
theorem Zrd:Al PG (50,Ad Zq Qi6 Li):=rw1 (C:=(UL BJ)) Zt9
def Zf:Sk:=⟨[tf [CS.sl Aa],tf [ci],tf [CS.bool]],[],[]⟩
def Zy4 (M:Fn):Nat×Spec:=(16,Ad Zf Qnx M)
def Uo (Hf GJ C0 As Be:Fn):Cfg:={cp [Zko Hf,Zta GJ,Qy7 C0,Jb As,Qk Be] [51,50,49,48,45]with prom:=λb=>bif Nat.beq b 4 then [(8,74)]else []}
def Qwf:Sk:=⟨[td,tf [ci],tf [CS.bool],td,td,td,td,tf [CS.ptr 101300 0],tf [CS.own 8 22],tf [CS.ptr 9 0]]++dd 64,[(9,72,[ci,ci,ci]),(101300,103,[CS.sl Aa,ci])],[(8,74,Ah)]⟩
def Q7e:List (Ex×Sk):=[(Ex.exit 0,⟨[td,td,tf [CS.bool],td,td,td,td,td,tf [CS.own 8 22]]++dd 65,[],[(8,74,Ah)]⟩)]
def Qbi (Hf GJ C0 As Be:Fn):Lp:=A0 PG (Uo Hf GJ C0 As Be) 64 4 (AY PG 16 4) Qwf Q7e
def Qrq (Hf GJ C0 As Be:Fn) (N4:Lp):Cfg:=(Uo Hf GJ C0 As Be).loop 4 Qwf Q7e N4
def Qbd (Hf GJ C0 As Be:Fn) (N4:Lp):Fn:=An PG (Qrq Hf GJ C0 As Be N4) 64 16 Zf Qnx
theorem Zt8 (Hf GJ C0 As Be:Fn) (v0:Rw) (v1:Int) (v2:Bool) (v3 v4 v5:Int) (v6:Rw) (v7:Int):Qbi Hf GJ C0 As Be [.view Ah v0,I v1,B v2,I v3,I v4,I v5, .view Aa v6,I v7]=
 bif decide ((v0.length:Int)<v1)then
 (C0 [.view Aa v6,I v7]).bind λo25=>
 bif bA o25 0 then
 (As [I 12, .view Aa (wA o25 1),jA o25 2]).bind λo26=>
 bif decide (gA o26 0<4)then
 (GJ [.view Aa (wA o26 1),jA o26 2]).bind λo27=>
 bif((v0++[[jA o27 0,jA o27 1,jA o27 2,jA o27 3,jA o27 4,jA o27 5,jA o27 6,jA o27 7,jA o27 8,jA o27 9,jA o27 10,jA o27 11,jA o27 12,B (bA o27 13),jA o27 14,B (bA o27 15),jA o27 16,jA o27 17,jA o27 18,jA o27 19,jA o27 20,B (bA o27 21)]]).length*176).ble 140737488355328 then
 some (0,[.view Ah (v0++[[jA o27 0,jA o27 1,jA o27 2,jA o27 3,jA o27 4,jA o27 5,jA o27 6,jA o27 7,jA o27 8,jA o27 9,jA o27 10,jA o27 11,jA o27 12,B (bA o27 13),jA o27 14,B (bA o27 15),jA o27 16,jA o27 17,jA o27 18,jA o27 19,jA o27 20,B (bA o27 21)]]),I v1,B v2,I v3,I v4,I v5, .view Aa (wA o27 22),jA o27 23])
 else
 none
 else
 bif decide (0<=wrap .i64 (gA o26 0-4))&&decide (wrap .i64 (gA o26 0-4)<(↑[[I 2],[I 2],[I 2],[I 3],[I 1],[I 6],[I 5],[I 4]].length:Int))then
 (Hf [I v3,I v4,I v5,I (Ag (nth .dead (nth [] [[I 2],[I 2],[I 2],[I 3],[I 1],[I 6],[I 5],[I 4]] (wrap .i64 (gA o26 0-4)).toNat) 0)), .view Aa (wA o26 1),jA o26 2]).bind λo28=>
 bif gA o28 0==5 then
 (As [I 2, .view Aa (wA o28 22),jA o28 23]).bind λo29=>
 (As [I 3000, .view Aa (wA o29 1),jA o29 2]).bind λo30=>
 bif((v0++[[I 8,I 0,I 0,I 0,I 0,I 0,I 0,I 0,I 0,I 0,I 0,I 0,I 0,B false,I 0,B false,I 0,I 0,I 0,I (wrap .i64 (3+gA o29 0)),I (wrap .i64 (200+gA o30 0)),B false]]).length*176).ble 140737488355328 then
 bif((v0++[[I 8,I 0,I 0,I 0,I 0,I 0,I 0,I 0,I 0,I 0,I 0,I 0,I 0,B false,I 0,B false,I 0,I 0,I 0,I (wrap .i64 (3+gA o29 0)),I (wrap .i64 (200+gA o30 0)),B false]]++[[jA o28 0,jA o28 1,jA o28 2,jA o28 3,jA o28 4,jA o28 5,jA o28 6,jA o28 7,jA o28 8,jA o28 9,jA o28 10,jA o28 11,jA o28 12,B (bA o28 13),jA o28 14,B (bA o28 15),jA o28 16,jA o28 17,jA o28 18,jA o28 19,jA o28 20,B (bA o28 21)]]).length*176).ble 140737488355328 then
 some (0,[.view Ah (v0++[[I 8,I 0,I 0,I 0,I 0,I 0,I 0,I 0,I 0,I 0,I 0,I 0,I 0,B false,I 0,B false,I 0,I 0,I 0,I (wrap .i64 (3+gA o29 0)),I (wrap .i64 (200+gA o30 0)),B false]]++[[jA o28 0,jA o28 1,jA o28 2,jA o28 3,jA o28 4,jA o28 5,jA o28 6,jA o28 7,jA o28 8,jA o28 9,jA o28 10,jA o28 11,jA o28 12,B (bA o28 13),jA o28 14,B (bA o28 15),jA o28 16,jA o28 17,jA o28 18,jA o28 19,jA o28 20,B (bA o28 21)]]),I v1,B v2,jA o28 5,jA o28 6,jA o28 7, .view Aa (wA o30 1),jA o30 2])
 else
 none
 else
 none
 else
 bif((v0++[[jA o28 0,jA o28 1,jA o28 2,jA o28 3,jA o28 4,jA o28 5,jA o28 6,jA o28 7,jA o28 8,jA o28 9,jA o28 10,jA o28 11,jA o28 12,B (bA o28 13),jA o28 14,B (bA o28 15),jA o28 16,jA o28 17,jA o28 18,jA o28 19,jA o28 20,B (bA o28 21)]]).length*176).ble 140737488355328 then
 some (0,[.view Ah (v0++[[jA o28 0,jA o28 1,jA o28 2,jA o28 3,jA o28 4,jA o28 5,jA o28 6,jA o28 7,jA o28 8,jA o28 9,jA o28 10,jA o28 11,jA o28 12,B (bA o28 13),jA o28 14,B (bA o28 15),jA o28 16,jA o28 17,jA o28 18,jA o28 19,jA o28 20,B (bA o28 21)]]),I v1,B v2,jA o28 5,jA o28 6,jA o28 7, .view Aa (wA o28 22),jA o28 23])
 else
 none
 else
 none
 else
 some (1,[.view Ah v0,B v2])
 else
 some (1,[.view Ah v0,B v2]):=by kernel_rfl
theorem Zr2 (Hf GJ C0 As Be:Fn) (N4:Lp) (x0:Rw) (x1:Int) (x2:Bool):Qbd Hf GJ C0 As Be N4 [.view Aa x0,I x1,B x2]=
 (Be [.view Aa x0]).bind λo31=>
 (As [I 9, .view Aa (wA o31 0),jA o31 1]).bind λo32=>
 (As [I 9, .view Aa (wA o32 1),jA o32 2]).bind λo33=>
 (As [I 9, .view Aa (wA o33 1),jA o33 2]).bind λo34=>
 (N4 [.view Ah [],I x1,B x2,I (wrap .i64 (gA o32 0-4)),I (wrap .i64 (gA o33 0-4)),I (wrap .i64 (gA o34 0-4)), .view Aa (wA o34 1),jA o34 2]).bind λo35=>
 bif o35.1.beq 1 then
 bif bA o35.2 1 then
 bif((wA o35.2 0++[[I 14,I 0,I 0,I 0,I 0,I 0,I 0,I 0,I 0,I 0,I 0,I 0,I 0,B false,I 0,B false,I 0,I 0,I 0,I 0,I 0,B false]]).length*176).ble 140737488355328 then
 some [.view Ah (wA o35.2 0++[[I 14,I 0,I 0,I 0,I 0,I 0,I 0,I 0,I 0,I 0,I 0,I 0,I 0,B false,I 0,B false,I 0,I 0,I 0,I 0,I 0,B false]])]
 else
 none
 else
 some [.view Ah (wA o35.2 0)]
 else
 none:=by kernel_rfl
def WO:=Am (Qbi Lo Li Gv BJ CO)
def KQ:=Qbd Lo Li Gv BJ CO WO
theorem Qxk:Aj PG (Uo Lo Li Gv BJ CO):=Ap rfl ⟨Zub,Zrd,Qx7,IV,Ql,trivial⟩
theorem Zf2:Al PG (16,Ad Zf Qnx KQ):=rw2 (C:=(Qrq Lo Li Gv BJ CO WO)) (fl fb Qxk) Qxk
def Zmw (M:Fn):Nat×Spec:=(47,Ad XB Qh1 M)
def Qei (As Be:Fn):Cfg:=cp [Jb As,Qk Be] [48,45]
def Zw (As Be:Fn):Fn:=An PG (Qei As Be) 64 47 XB Qh1
theorem Zph (As Be:Fn) (x0:Rw):Zw As Be [.view Aa x0]=
 (Be [.view Aa x0]).bind λo4=>
 (As [I 900, .view Aa (wA o4 0),jA o4 1]).bind λo5=>
 (As [I 200, .view Aa (wA o5 1),jA o5 2]).bind λo6=>
 (As [I 16000, .view Aa (wA o6 1),jA o6 2]).bind λo7=>
 some [I (wrap .i64 (1+gA o5 0)),I (wrap .i64 (2+gA o6 0)),I (wrap .i64 (1+gA o7 0))]:=by kernel_rfl
def PP:=Zw BJ CO
theorem Zbq:Aj PG (Qei BJ CO):=Ap rfl ⟨IV,Ql,trivial⟩
theorem Zus:Al PG (47,Ad XB Qh1 PP):=rw1 (C:=(Qei BJ CO)) Zbq
def Qnq:Sk:=⟨[TS.v true (cc 9++[CS.sl Aa])],[(20000,103,[CS.sl Aa,ci])],[]⟩
def Zro (M:Fn):Nat×Spec:=(84,Ad Zq Qnq M)
def Qka (As:Fn):Cfg:={spec:=H9 [Jb As],eqOk:=Ke,pure:=λf=> !(AP [48] f),ownOff:=Zw9}
def Q2j:Sk:=⟨[tf [CS.ptr 20000 0],td,tf [CS.ptr 2 0],tf [CS.ptr 3 0],tf [ci],tf [ci],tf [ci]]++dd 72,[(2,26,cc 9++[CS.own 1002009 1]),(3,26,cc 9++[CS.own 1003009 1]),(20000,103,[CS.sl Aa,ci])],[(1002009,3,Aa),(1003009,3,Aa)]⟩
def Q6q:List (Ex×Sk):=[(Ex.exit 0,⟨[td,td,tf [CS.ptr 2 0],tf [CS.ptr 3 0]]++dd 75,[(2,26,cc 9++[CS.own 1002009 1]),(3,26,cc 9++[CS.own 1003009 1]),(20000,103,[CS.sl Aa,ci])],[(1002009,3,Aa),(1003009,3,Aa)]⟩)]
def Rh (As:Fn):Lp:=A0 PG (Qka As) 64 11 (AY PG 84 11) Q2j Q6q
def Qzh (As:Fn) (N11:Lp):Cfg:=(Qka As).loop 11 Q2j Q6q N11
def Qce (As:Fn) (N11:Lp):Fn:=An PG (Qzh As N11) 64 84 Zq Qnq
theorem Q13 (As:Fn) (v0 v1:Rw) (v2 v3 v4 v5 v6 v7 v8 v9 v10 v11 v12 v13 v14 v15 v16 v17 v18 v19 v20 v21 v22:Int) (v23:Rw) (v24:Int):Rh As [.view Aa v0, .view Aa v1,I v2,I v3,I v4,I v5,I v6,I v7,I v8,I v9,I v10,I v11,I v12,I v13,I v14,I v15,I v16,I v17,I v18,I v19,I v20,I v21,I v22, .view Aa v23,I v24]=
 bif decide (v4<v2)then
 bif((v1++[[I v3]]).length*8).ble 140737488355328 then
 (As [I (wrap .i64 (wrap .i64 (2*wrap .i64 (v22.tdiv 4))+1)), .view Aa v23,I v24]).bind λo20=>
 some (0,[.view Aa v0, .view Aa (v1++[[I v3]]),I v2,I (mn (mx (wrap .i64 (wrap .i64 (v3+gA o20 0)-wrap .i64 (v22.tdiv 4))) (-4096)) 4096),I (wrap .i64 (v4+1)),I v5,I v6,I v7,I v8,I v9,I v10,I v11,I v12,I v13,I v14,I v15,I v16,I v17,I v18,I v19,I v20,I v21,I v22, .view Aa (wA o20 1),jA o20 2])
 else
 none
 else
 some (1,[.view Aa v0, .view Aa v1,I v5,I v6,I v7,I v8,I v9,I v10,I v11,I v12,I v13,I v14,I v15,I v16,I v17,I v18,I v19,I v20,I v21,I v22, .view Aa v23,I v24]):=by kernel_rfl
theorem Zud (As:Fn) (N11:Lp) (x0:Rw) (x1:Int):Qce As N11 [.view Aa x0,I x1]=
 (As [I 6, .view Aa x0,I x1]).bind λo21=>
 bif decide (0<=gA o21 0)&&decide (gA o21 0<(↑[[I 8],[I 4],[I 5],[I 16],[I 23],[I 64]].length:Int))then
 (As [I 4, .view Aa (wA o21 1),jA o21 2]).bind λo22=>
 bif decide (0<=gA o22 0)&&decide (gA o22 0<(↑[[I 0],[I 1],[I 3],[I 6]].length:Int))then
 (As [I 5, .view Aa (wA o22 1),jA o22 2]).bind λo23=>
 bif decide (0<=gA o23 0)&&decide (gA o23 0<(↑[[I 40],[I 1],[I 3],[I 9],[I 1000]].length:Int))then
 (As [I 5, .view Aa (wA o23 1),jA o23 2]).bind λo24=>
 bif decide (0<=gA o24 0)&&decide (gA o24 0<(↑[[I 20],[I 2],[I 3],[I 5],[I 1000]].length:Int))then
 (As [I 5, .view Aa (wA o24 1),jA o24 2]).bind λo25=>
 bif decide (0<=gA o25 0)&&decide (gA o25 0<(↑[[I 30],[I 4],[I 5],[I 8],[I 1000]].length:Int))then
 (As [I 5, .view Aa (wA o25 1),jA o25 2]).bind λo26=>
 bif gA o26 0==0 then
 some [I (Ag (nth .dead (nth [] [[I 8],[I 4],[I 5],[I 16],[I 23],[I 64]] (gA o21 0).toNat) 0)),I (Ag (nth .dead (nth [] [[I 40],[I 1],[I 3],[I 9],[I 1000]] (gA o23 0).toNat) 0)),I (Ag (nth .dead (nth [] [[I 20],[I 2],[I 3],[I 5],[I 1000]] (gA o24 0).toNat) 0)),I (Ag (nth .dead (nth [] [[I 30],[I 4],[I 5],[I 8],[I 1000]] (gA o25 0).toNat) 0)),I (-16777216),I 16777216,I (Ag (nth .dead (nth [] [[I 0],[I 1],[I 3],[I 6]] (gA o22 0).toNat) 0)),I 0,I 0, .view Aa [], .view Aa (wA o26 1),jA o26 2]
 else
 (As [I 400, .view Aa (wA o26 1),jA o26 2]).bind λo27=>
 (As [I 120, .view Aa (wA o27 1),jA o27 2]).bind λo28=>
 (As [I 9, .view Aa (wA o28 1),jA o28 2]).bind λo29=>
 (N11 [.view Aa [], .view Aa [],jA o26 0,I (wrap .i64 (gA o29 0-4)),I 0,I 0,I 0,I 0,I 0,I 0,I 0,I 0,I 0,I 0,I (Ag (nth .dead (nth [] [[I 8],[I 4],[I 5],[I 16],[I 23],[I 64]] (gA o21 0).toNat) 0)),I (Ag (nth .dead (nth [] [[I 40],[I 1],[I 3],[I 9],[I 1000]] (gA o23 0).toNat) 0)),I (Ag (nth .dead (nth [] [[I 20],[I 2],[I 3],[I 5],[I 1000]] (gA o24 0).toNat) 0)),I (Ag (nth .dead (nth [] [[I 30],[I 4],[I 5],[I 8],[I 1000]] (gA o25 0).toNat) 0)),I (-16777216),I 16777216,I (Ag (nth .dead (nth [] [[I 0],[I 1],[I 3],[I 6]] (gA o22 0).toNat) 0)),I (wrap .i64 (gA o27 0-200)),I (wrap .i64 (4+gA o28 0)), .view Aa (wA o29 1),jA o29 2]).bind λo30=>
 bif o30.1.beq 1 then
 some [jA o30.2 11,jA o30.2 12,jA o30.2 13,jA o30.2 14,jA o30.2 15,jA o30.2 16,jA o30.2 17,jA o30.2 18,jA o30.2 19, .view Aa (wA o30.2 1), .view Aa (wA o30.2 20),jA o30.2 21]
 else
 none
 else
 none
 else
 none
 else
 none
 else
 none
 else
 none:=by kernel_rfl
def Y8:=Am (Rh BJ)
def Oi:=Qce BJ Y8
theorem Q2q:Aj PG (Qka BJ):=Ap rfl ⟨IV,trivial⟩
theorem Zh4:Al PG (84,Ad Zq Qnq Oi):=rw2 (C:=(Qzh BJ Y8)) (fl fb Q2q) Q2q
def X6:Sk:=⟨[TS.v true (cc 9++[CS.sl Aa]++cc 9++[CS.sl Aa]++cc 9++[CS.sl Aa])],[],[]⟩
def Zdm (M:Fn):Nat×Spec:=(46,Ad XB X6 M)
def Qmb (Kz Be:Fn):Cfg:=cp [Zro Kz,Qk Be] [84,45]
def Qro (Kz Be:Fn):Fn:=An PG (Qmb Kz Be) 64 46 XB X6
theorem Z0z (Kz Be:Fn) (x0:Rw):Qro Kz Be [.view Aa x0]=
 (Be [.view Aa x0]).bind λo4=>
 (Kz [.view Aa (wA o4 0),jA o4 1]).bind λo5=>
 (Kz [.view Aa (wA o5 10),jA o5 11]).bind λo6=>
 (Kz [.view Aa (wA o6 10),jA o6 11]).bind λo7=>
 some [jA o5 0,jA o5 1,jA o5 2,jA o5 3,jA o5 4,jA o5 5,jA o5 6,jA o5 7,jA o5 8, .view Aa (wA o5 9),jA o6 0,jA o6 1,jA o6 2,jA o6 3,jA o6 4,jA o6 5,jA o6 6,jA o6 7,jA o6 8, .view Aa (wA o6 9),jA o7 0,jA o7 1,jA o7 2,jA o7 3,jA o7 4,jA o7 5,jA o7 6,jA o7 7,jA o7 8, .view Aa (wA o7 9)]:=by kernel_rfl
def NW:=Qro Oi CO
theorem Zj4:Aj PG (Qmb Oi CO):=Ap rfl ⟨Zh4,Ql,trivial⟩
theorem Zo6:Al PG (46,Ad XB X6 NW):=rw1 (C:=(Qmb Oi CO)) Zj4
def Qo6:Sk:=⟨[tf [CS.sl Aa],tf [CS.sl Aa]],[],[]⟩
def Zbi (M:Fn):Nat×Spec:=(15,Ad Qo6 Qcm M)
def Xa (As On OQ Be:Fn):Cfg:=cp [Jb As,Zmw On,Zdm OQ,Qk Be] [48,45]
def UK (As On OQ Be:Fn):Fn:=An PG (Xa As On OQ Be) 64 15 Qo6 Qcm
theorem Zt6 (As On OQ Be:Fn) (x0 x1:Rw):UK As On OQ Be [.view Aa x0, .view Aa x1]=
 (Be [.view Aa x1]).bind λo5=>
 (OQ [.view Aa x0]).bind λo6=>
 (On [.view Aa x1]).bind λo7=>
 (As [I 60000, .view Aa (wA o5 0),I (mn 3 (x1.length:Int))]).bind λo8=>
 (As [I 40, .view Aa (wA o8 1),jA o8 2]).bind λo9=>
 some [jA o6 0,jA o6 1,jA o6 2,jA o6 3,jA o6 4,jA o6 5,jA o6 6,jA o6 7,jA o6 8, .view Aa (wA o6 9),jA o6 10,jA o6 11,jA o6 12,jA o6 13,jA o6 14,jA o6 15,jA o6 16,jA o6 17,jA o6 18, .view Aa (wA o6 19),jA o6 20,jA o6 21,jA o6 22,jA o6 23,jA o6 24,jA o6 25,jA o6 26,jA o6 27,jA o6 28, .view Aa (wA o6 29),jA o7 0,jA o7 1,jA o7 2,I (wrap .i64 (1+gA o8 0)),jA o9 0]:=by kernel_rfl
def K9:=UK BJ PP NW CO
theorem Zlz:Aj PG (Xa BJ PP NW CO):=Ap rfl ⟨IV,Zus,Zo6,Ql,trivial⟩
theorem Zl4:Al PG (15,Ad Qo6 Qcm K9):=rw1 (C:=(Xa BJ PP NW CO)) Zlz
def Qhe:Sk:=⟨[tf [CS.sl [Kd.sl Aa]]],[],[]⟩
def Zdq (M:Fn):Nat×Spec:=(44,Ad Qhe Qnv M)
def Q75:Sk:=⟨[td,td,td,td,td,tf [CS.sl [Kd.sl Aa]],tf [ci],tf [ci]]++dd 7,[],[]⟩
def Qyh:List (Ex×Sk):=[(Ex.ret,⟨[td,td,tf [CS.bool]]++dd 12,[],[]⟩),(Ex.exit 0,⟨[td]++dd 14,[],[]⟩)]
def Ti:Lp:=A0 PG WB 64 2 (AY PG 44 2) Q75 Qyh
def Q4d (N2:Lp):Cfg:=WB.loop 2 Q75 Qyh N2
def Qdn (N2:Lp):Fn:=An PG (Q4d N2) 64 44 Qhe Qnv
theorem Zkk (v0:Rw) (v1 v2:Int):Ti [.view [Kd.sl Aa] v0,I v1,I v2]=
 bif decide (v2<v1)then
 bif decide (0<=v2)&&decide (v2<(v0.length:Int))then
 bif decide ((↑(wA (nth [] v0 v2.toNat) 0).length:Int)>60)then
 some (1,[B false])
 else
 some (0,[.view [Kd.sl Aa] v0,I v1,I (wrap .i64 (v2+1))])
 else
 none
 else
 some (2,[]):=by kernel_rfl
theorem Zag (N2:Lp) (x0:Rw):Qdn N2 [.view [Kd.sl Aa] x0]=
 (N2 [.view [Kd.sl Aa] x0,I (x0.length:Int),I 0]).bind λo1=>
 bif o1.1.beq 1 then
 some [B (bA o1.2 0)]
 else
 bif o1.1.beq 2 then
 some [B true]
 else
 none:=by kernel_rfl
def Q9p:=Am (Ti)
def JZ:=Qdn Q9p
theorem Zt4:Al PG (44,Ad Qhe Qnv JZ):=rw2 (C:=(Q4d Q9p)) (fl fb Z0p) Z0p
abbrev Qys (x20:Int) (Fu:Fn) (x0 x1 x2 x3 x4 x5 x6 x7 x8:Int) (x9:Rw) (x17 x18 x19:Int):Option (List AC):=
 bif decide (x20=(↑0:Int))then
 (Fu [I x0,I x1,I x2,I x3,I x4,I x5,I x6,I x7,I x8, .view Aa x9,I x17]).bind λo30=>
 some [jA o30 0]
 else
 bif decide (x20=(↑(0+1):Int))then
 (Fu [I x0,I x1,I x2,I x3,I x4,I x5,I x6,I x7,I x8, .view Aa x9,I x18]).bind λo31=>
 some [jA o31 0]
 else
 bif decide (x20=(↑(0+1+1):Int))then
 (Fu [I x0,I x1,I x2,I x3,I x4,I x5,I x6,I x7,I x8, .view Aa x9,I x19]).bind λo32=>
 some [jA o32 0]
 else
 none
abbrev Tt (x21 x10 x6:Int) (h4_0:Bool):Option (List AC):=
 bif h4_0 then
 some [I (wrap .i64 (0-mn (wrap .i64 (x21-x10)) x6))]
 else
 some [I (wrap .i64 (mn (wrap .i64 (x21-x10)) x6-x6))]
abbrev Ri (x20:Int) (Fu:Fn) (x0 x1 x2 x3 x4 x5 x6 x7 x8:Int) (x9:Rw) (x17 x18 x19 x21 x10:Int) (h1_0:Bool):Option (List AC):=
 bif h1_0 then
 Qys x20 Fu x0 x1 x2 x3 x4 x5 x6 x7 x8 x9 x17 x18 x19
 else
 bif decide (x20=(↑0:Int))then
 Tt x21 x10 x6 (x17== -1)
 else
 bif decide (x20=(↑(0+1):Int))then
 Tt x21 x10 x6 (x18== -1)
 else
 bif decide (x20=(↑(0+1+1):Int))then
 Tt x21 x10 x6 (x19== -1)
 else
 none
abbrev Z4m (x20:Int) (Fu:Fn) (x0 x1 x2 x3 x4 x5 x6 x7 x8:Int) (x9:Rw) (x17 x18 x19 x21 x10:Int) (h2_0 h2_1 h2_2:Bool):Option (List AC):=
 bif decide (x20=(↑0:Int))then
 Ri x20 Fu x0 x1 x2 x3 x4 x5 x6 x7 x8 x9 x17 x18 x19 x21 x10 h2_0
 else
 bif decide (x20=(↑(0+1):Int))then
 Ri x20 Fu x0 x1 x2 x3 x4 x5 x6 x7 x8 x9 x17 x18 x19 x21 x10 h2_1
 else
 bif decide (x20=(↑(0+1+1):Int))then
 Ri x20 Fu x0 x1 x2 x3 x4 x5 x6 x7 x8 x9 x17 x18 x19 x21 x10 h2_2
 else
 none
attribute [go_sem] ZY ST RL S_ T0 Pp Qgv Y4 Qjl Ng Js Qmd Pa RU Xr Yn Z8 Qys Tt Ri Z4m
end Go.Bm
