/- functions of the program and of the references, as models -/
import Derived.Test.YtnnpdlgenmnekaaGreatDoorMx1
set_option linter.unusedSimpArgs false
set_option linter.unusedVariables false
set_option maxRecDepth 100000
noncomputable section
open Go.IntKind (wrap)
namespace Go.Bm
open Go.Proofs
def Zk4:=qa 196 Qdz Qmn
def Zdr:Sk:=⟨[td,tf [ci],td,td,td,tf [ci]]++dd 6++[tf [sa Ag],tf [ci],tf [ci]]++dd 13,[(20000,179,cS)],[]⟩
def Quw:List (Ex×Sk):=[(Ex.exit 0,⟨[td,td,td,td,td,tf [ci]]++dd 22,[(20000,179,cS)],[]⟩)]
def TX:Lp:=AL PG C_cncref30_SamePulses_0 64 3 (AK PG 196 3) Zdr Quw
def Zb0 (D:Lp):Cfg:=C_cncref30_SamePulses_0.loop 3 Zdr Quw D
def Qd3 (D:Lp):Fn:=An PG (Zb0 D) 64 196 Qdz Qmn
theorem Z63 (M L:Int) (G:Rw) (N D:Int) (K:Kf) (c:Cv):TX (I M::I L:: .vC Ag G::I N::I D::Ac K c)=
 cond (decide (D<N)) (cond (decide (0<=D)&&decide (D<(G.length:Int))) (cond (gA (nth [] G D.toNat) 4==M) (some (1,(I L::Ac K c))) (some (0,(I M::I (V (L+gA (nth [] G D.toNat) 3)):: .vC Ag G::I N::I (V (D+1))::Ac K c)))) (none)) (some (1,(I L::Ac K c))):=by kernel_rfl
theorem Zj7 (D:Lp) (G:Int) (K:Kf) (c:Cv):Qd3 D (I G::Ac K c)=
 (D (I G::I 0:: .vC Ag (K.p.aF.map Aw)::I ((K.p.aF.map Aw).length:Int)::I 0::Ac K c)).bind λo1=>
 cond (o1.1.beq 1) (some (jA o1.2 0::cR 1 o1.2)) (none):=by kernel_rfl
def Qwq:=Am (TX)
def N0:=Qd3 Qwq
theorem Zb2:Aj PG (C_cncref30_SamePulses_0):=Ao rfl trivial
theorem Zne:Al PG (Zk4 N0):=rw2 (C:=Zb0 Qwq) (fl fb Zb2) Zb2
def Z7s:=qa 153 Qo7 Qmk
def Qr5 (D G I:Fn):Cfg:=cr [Zk4 D,Pc G,Um I] [196,163,155] [163,155]
def Ql7 (D G I:Fn):Fn:=An PG (Qr5 D G I) 64 153 Qo7 Qmk
theorem Zg0 (G I L:Fn) (K:Kf) (c:Cv):Ql7 G I L (Ac K c)=
 (L (Ac K c)).bind λo3=>
 cond (bA o3 7) (cond (c.way==0) (cond (decide (0<=gA o3 4)&&decide (gA o3 4<((K.aA.map Ah).length:Int))) (cond (gA (nth [] (K.aA.map Ah) (gA o3 4).toNat) 0==4) ((I (Ac K c)).bind λo4=>
 (G (jA o3 4::Ac K c)).bind λD=>
 cond (gA o4 0 !=gA D 0) (some (Dt (cR 1 D) [(77,B true)])) (some (cR 1 D))) (some (Ac K c))) (none)) (some (Ac K c))) (some (Ac K c)):=by kernel_rfl
def Mg:=Ql7 N0 C0 EG
theorem Ya5:Aj PG (Qr5 N0 C0 EG):=GJ (rs:=[163,155]) rfl ⟨Zne,PB,Ux,trivial⟩ rfl (Ca rfl (EI (EI G4)))
theorem Zs3:Al PG (Z7s Mg):=rw1 (C:=Qr5 N0 C0 EG) Ya5
def Qsj:Sk:=⟨[TS.v true [ci,ci,ci],tf [ci],TS.v true [ci,ci,ci],TS.v true [ci,ci,ci]],[],[]⟩
def Z95:=qa 195 Qsj Qay
def Qj4:Cfg:={cf []with unroll:=[4]}
def Qm2:Fn:=An PG Qj4 64 195 Qsj Qay
theorem Zy1 (G L M D N O S T U X:Int):Qm2 [I G,I L,I M,I D,I N,I O,I S,I T,I U,I X]=
 cond (G !=0) (some [I G,I L,I M]) (cond (decide (V (N-T)>D)) (some [I 1,I 19,I 0]) (cond (decide (V (0-V (N-T))>D)) (some [I 1,I 19,I 0]) (cond (decide (V (O-U)>D)) (some [I 1,I 19,I (V (0+1))]) (cond (decide (V (0-V (O-U))>D)) (some [I 1,I 19,I (V (0+1))]) (cond (decide (V (S-X)>D)) (some [I 1,I 19,I (V (V (0+1)+1))]) (cond (decide (V (0-V (S-X))>D)) (some [I 1,I 19,I (V (V (0+1)+1))]) (some [I G,I L,I M]))))))):=by kernel_rfl
def NV:=Qm2
theorem Yc9:Aj PG (Qj4):=Ao rfl trivial
theorem Zt0:Al PG (Z95 NV):=rw1 (C:=Qj4) Yc9
def Yej:=qa 152 Qdz Qmk
def Qiq (D G I:Fn):Cfg:=cr [Z95 D,SW G,Qh I] [102] [102]
def Qk2 (D G I:Fn):Fn:=An PG (Qiq D G I) 64 152 Qdz Qmk
abbrev RX (O:Int) (S:Fn) (c:Cv) (K:Kf) (D:List AC) (G:AC):Option (List AC):=
 cond (decide (V (O.tdiv 1048576)=(↑0:Int))) ((S [I c.g0,I c.g1,I c.g2,I K.lag,jA D 0,jA D 1,jA D 2,G,jA D 1,jA D 2]).bind λL=>
 some (Ac K {c with g0:=gA L 0,g1:=gA L 1,g2:=gA L 2})) (cond (decide (V (O.tdiv 1048576)=(↑(0+1):Int))) ((S [I c.g0,I c.g1,I c.g2,I K.lag,jA D 0,jA D 1,jA D 2,jA D 0,G,jA D 2]).bind λM=>
 some (Ac K {c with g0:=gA M 0,g1:=gA M 1,g2:=gA M 2})) (cond (decide (V (O.tdiv 1048576)=(↑(0+1+1):Int))) ((S [I c.g0,I c.g1,I c.g2,I K.lag,jA D 0,jA D 1,jA D 2,jA D 0,jA D 1,G]).bind λN=>
 some (Ac K {c with g0:=gA N 0,g1:=gA N 1,g2:=gA N 2})) (none)))
theorem Zxy (L N O:Fn) (G:Int) (K:Kf) (c:Cv):Qk2 L N O (I G::Ac K c)=
 cond (decide (G<0)) (some (Ac K c)) (cond (decide (V (G.tdiv 1048576)>2)) (some (Ac K c)) ((O (Ac K c)).bind λM=>
 (N (pxt K.p K.x K.t [jA M 0])).bind λD=>
 cond (decide (V (G.tdiv 1048576)=(↑0:Int))) (RX G L c K D (I (V (gA D 0-G.tmod 1048576)))) (cond (decide (V (G.tdiv 1048576)=(↑(0+1):Int))) (RX G L c K D (I (V (gA D 1-G.tmod 1048576)))) (cond (decide (V (G.tdiv 1048576)=(↑(0+1+1):Int))) (RX G L c K D (I (V (gA D 2-G.tmod 1048576)))) (none))))):=by kernel_rfl
def Ji:=Qk2 NV DV CZ
theorem Z56:Aj PG (Qiq NV DV CZ):=GJ (rs:=[102]) rfl ⟨Zt0,UV,Qm,trivial⟩ rfl (Ca rfl (Ca rfl (EI G4)))
theorem Zmq:Al PG (Yej Ji):=rw1 (C:=Qiq NV DV CZ) Z56
def Z_:Sk:=⟨[],[],[]⟩
def Qts:=qa 96 Z_ Qay
def PS:Fn:=An PG C_cncref30_SamePulses_0 64 96 Z_ Qay
theorem Xo:PS []=
 some [I 0,I 0,I (-1)]:=by kernel_rfl
def Kb:=PS
theorem Zqa:Aj PG (C_cncref30_SamePulses_0):=Ao rfl trivial
theorem Qy0:Al PG (Qts Kb):=rw1 (C:=C_cncref30_SamePulses_0) Zqa
def Zsj:=qa 194 Qfs Qay
def Yt:Fn:=An PG C_cncref30_SamePulses_0 64 194 Qfs Qay
theorem Zvk (G D L M N:Int):Yt [I G,I D,I L,I M,I N]=
 cond (G==2) (some [I G,I D,I L]) (cond (D==0) (some [I 1,I M,I N]) (some [I 1,I D,I L])):=by kernel_rfl
def QP:=Yt
theorem Zwk:Aj PG (C_cncref30_SamePulses_0):=Ao rfl trivial
theorem Zzf:Al PG (Zsj QP):=rw1 (C:=C_cncref30_SamePulses_0) Zwk
def Qc2:Sk:=⟨[TS.v true [ci,ci,ci],TS.v true [ci,ci,ci]],[],[]⟩
def Zol:=qa 151 Qc2 Qay
def Qm3 (D G:Fn):Cfg:=cf [Qts D,Zsj G]
def Qg1 (D G:Fn):Fn:=An PG (Qm3 D G) 64 151 Qc2 Qay
theorem Zjx (T O:Fn) (D G L U M N:Int):Qg1 T O [I D,I G,I L,I U,I M,I N]=
 cond (M==10) (some [I 2,I 22,I (-1)]) (cond (M==9) ((O [I D,I G,I L,I 21,I (-1)]).bind λo3=>
 some [jA o3 0,jA o3 1,jA o3 2]) (cond (M==8) (cond (decide (N>=0)) (cond (decide (N<=2)) ((O [I D,I G,I L,I 20,I N]).bind λo4=>
 some [jA o4 0,jA o4 1,jA o4 2]) (some [I D,I G,I L])) (some [I D,I G,I L])) (cond (M==11) ((T []).bind λS=>
 some [jA S 0,jA S 1,jA S 2]) (some [I D,I G,I L])))):=by kernel_rfl
def UT:=Qg1 Kb QP
theorem Zsi:Aj PG (Qm3 Kb QP):=Ao rfl ⟨Qy0,Zzf,trivial⟩
theorem Z3p:Al PG (Zol UT):=rw1 (C:=Qm3 Kb QP) Zsi
def Qrp:Sk:=⟨[tf [sb],tf [ci]],[],[]⟩
def Zpe:=qa 193 Qrp Qjj
def YZ:Fn:=An PG C_cncref30_SamePulses_0 64 193 Qrp Qjj
theorem Zj4 (G:Bool) (D:Int):YZ [B G,I D]=
 cond (D==0) (some [B false]) (cond (D==1) (some [B true]) (some [B G])):=by kernel_rfl
def PV:=YZ
theorem Zm2:Aj PG (C_cncref30_SamePulses_0):=Ao rfl trivial
theorem Zo5:Al PG (Zpe PV):=rw1 (C:=C_cncref30_SamePulses_0) Zm2
def Qox:Sk:=⟨[TS.v true [ci,ci,sb,sb,sb],TS.v true [ci,ci,ci]],[],[]⟩
def Qoz:Sk:=⟨[TS.v true [ci,ci,sb,sb,sb]],[],[]⟩
def Zvl:=qa 150 Qox Qoz
def Qak (D:Fn):Cfg:=cf [Zpe D]
def Sp (D:Fn):Fn:=An PG (Qak D) 64 150 Qox Qoz
theorem Q2u (T:Fn) (L M:Int) (N D G:Bool) (U S O:Int):Sp T [I L,I M,B N,B D,B G,I U,I S,I O]=
 cond (S==1) (cond (decide (0<=O)) (cond (decide (O<=200)) (some [I O,I M,B N,B D,B G]) (some [I L,I M,B N,B D,B G])) (some [I L,I M,B N,B D,B G])) (cond (S==2) (cond (decide (0<=O)) (cond (decide (O<=100)) (some [I L,I O,B N,B D,B G]) (some [I L,I M,B N,B D,B G])) (some [I L,I M,B N,B D,B G])) (cond (S==3) (some [I L,I M,B true,B D,B G]) (cond (S==4) (some [I L,I M,B false,B D,B G]) (cond (S==5) ((T [B D,I O]).bind λo2=>
 some [I L,I M,B N,B (bA o2 0),B G]) (cond (S==6) ((T [B G,I O]).bind λo3=>
 some [I L,I M,B N,B D,B (bA o3 0)]) (some [I L,I M,B N,B D,B G])))))):=by kernel_rfl
def SI:=Sp PV
theorem Zsr:Aj PG (Qak PV):=Ao rfl ⟨Zo5,trivial⟩
theorem Z02:Al PG (Zvl SI):=rw1 (C:=Qak PV) Zsr
def Xe:Sk:=⟨[tf [sc 20000 0],TS.v true [ci,ci,ci]],[(20000,179,cS)],[]⟩
def Zry:=qa 99 Xe Qmk
def Qo5 (Oj D G I L:Fn):Cfg:=cp [Zny Oj,Z7s D,Yej G,Zol I,Zvl L] [154,153,152]
def SJ (Oj D G I L:Fn):Fn:=An PG (Qo5 Oj D G I L) 64 99 Xe Qmk
theorem Qyh (Oj N O S T:Fn) (M G L:Int) (K:Kf) (c:Cv):SJ Oj N O S T (I M::I G::I L::Ac K c)=
 (T [I c.o0,I c.o1,B c.o2,B c.o3,B c.o4,I M,I G,I L]).bind λD=>
 (S [I c.g0,I c.g1,I c.g2,I M,I G,I L]).bind λo6=>
 cond (G==13) ((O (I L::Ac K {c with o0:=gA D 0,o1:=gA D 1,o2:=bA D 2,o3:=bA D 3,o4:=bA D 4,g0:=gA o6 0,g1:=gA o6 1,g2:=gA o6 2})).bind λU=>
 some (cR 0 U)) (cond (G==11) (some (Ac K {c with o0:=gA D 0,o1:=gA D 1,o2:=true,o3:=bA D 3,o4:=bA D 4,g0:=gA o6 0,g1:=gA o6 1,g2:=gA o6 2})) (cond (G==12) ((N (Ac K {c with o0:=gA D 0,o1:=gA D 1,o2:=bA D 2,o3:=bA D 3,o4:=bA D 4,g0:=gA o6 0,g1:=gA o6 1,g2:=gA o6 2})).bind λo8=>
 some (cR 0 o8)) (cond (G==7) ((Oj (I L::Ac K {c with o0:=gA D 0,o1:=gA D 1,o2:=bA D 2,o3:=bA D 3,o4:=bA D 4,g0:=gA o6 0,g1:=gA o6 1,g2:=gA o6 2})).bind λV=>
 some (cR 0 V)) (cond (G==4) (some (Ac K {c with o0:=gA D 0,o1:=gA D 1,o2:=bA D 2,o3:=bA D 3,o4:=bA D 4,g0:=gA o6 0,g1:=gA o6 1,g2:=gA o6 2,aJ:=true})) (some (Ac K {c with o0:=gA D 0,o1:=gA D 1,o2:=bA D 2,o3:=bA D 3,o4:=bA D 4,g0:=gA o6 0,g1:=gA o6 1,g2:=gA o6 2})))))):=by kernel_rfl
def Je:=SJ Q7 Mg Ji UT SI
theorem Zwa:Aj PG (Qo5 Q7 Mg Ji UT SI):=Ao rfl ⟨Ydz,Zs3,Zmq,Z3p,Z02,trivial⟩
theorem Zke:Al PG (Zry Je):=rw1 (C:=Qo5 Q7 Mg Ji UT SI) Zwa
def Qrv:Sk:=⟨[tf [sc 20000 0],tf [sa kPt]],[(20000,179,cS)],[]⟩
def Zy:Sk:=⟨[TS.v true ([sa kPt,sa Aa]++cc 7)],[(20000,179,cS)],[]⟩
def Yei:=qa 55 Qrv Zy
def Qf6 (D G I L M N O S T U V X:Fn):Cfg:=cr [Zyh D,Zqc G,Zrz I,Zzb L,Zzp M,Zr0 N,Zsc O,Q3q S,Qh T,Yc6 U,Zyu V,Zry X] [110,109,108,107,106,105,104,102,100,99] [102,100]
def Q4r:Sk:=⟨[tf [sc 20000 0],td,td,td,tf [sc 4 0]]++dd 14++[tf [sa kPt],tf [ci],tf [ci]]++dd 93,[(4,61,[sa kPt,sa Aa]++cc 7),(20000,179,cS)],[]⟩
def Zcz:List (Ex×Sk):=[(Ex.exit 0,⟨[tf [sc 20000 0],td,td,td,tf [sc 4 0]]++dd 110,[(4,61,[sa kPt,sa Aa]++cc 7),(20000,179,cS)],[]⟩)]
def R_ (D G I L M N O S T U V X:Fn):Lp:=AL PG (Qf6 D G I L M N O S T U V X) 64 3 (AK PG 55 3) Q4r Zcz
def Q1a (D G I L M N O S T U V X:Fn) (Y:Lp):Cfg:=(Qf6 D G I L M N O S T U V X).loop 3 Q4r Zcz Y
def Q9b:Sk:=⟨[tf [sc 20000 0],td,td,td,tf [sc 4 0],td,td,tf [ci],tf [sc 8 0]]++dd 81++[tf [CS.bsl 90 5],tf [ci],tf [ci]]++dd 22,[(4,61,[sa kPt,sa Aa]++cc 7),(8,61,[sa kPt,sa Aa]++cc 7),(90,186,[CS.clo 104 [(20000,0)] [],CS.clo 105 [(20000,0)] [],CS.clo 106 [(20000,0)] [],CS.clo 107 [(20000,0)] [],CS.clo 108 [(20000,0)] []]),(20000,179,cS)],[]⟩
def Q8h:List (Ex×Sk):=[(Ex.exit 2,⟨[tf [sc 20000 0],td,td,td,tf [sc 4 0],td,td,tf [ci],tf [sc 8 0]]++dd 106,[(4,61,[sa kPt,sa Aa]++cc 7),(8,61,[sa kPt,sa Aa]++cc 7),(20000,179,cS)],[]⟩)]
def Ig (D G I L M N O S T U V X:Fn) (Y:Lp):Lp:=AL PG (Q1a D G I L M N O S T U V X Y) 64 16 (AK PG 55 16) Q9b Q8h
def Qzs (G I L M N O S T U V X Y:Fn) (N3 D:Lp):Cfg:=(Q1a G I L M N O S T U V X Y N3).loop 16 Q9b Q8h D
def Qn7 (G I L M N O S T U V X Y:Fn) (N3 D:Lp):Fn:=An PG (Qzs G I L M N O S T U V X Y N3 D) 64 55 Qrv Zy
theorem Zsf (Co CH Ef Er Ek Ed El BP AX Di Dg Eb:Fn) (G:Rw) (L D:Int) (M N:Rw) (O S T U X v10 v11:Int) (K:Kf) (c:Cv):R_ Co CH Ef Er Ek Ed El BP AX Di Dg Eb (.vC kPt G::I L::I D:: .vC kPt M:: .vC Aa N::I O::I S::I T::I U::I X::I v10::I v11::Ac K c)=
 cond (decide (D<L)) (cond (decide (0<=D)&&decide (D<(G.length:Int))) ((Eb (jA (nth [] G D.toNat) 0::jA (nth [] G D.toNat) 1::jA (nth [] G D.toNat) 2::Ac K c)).bind λY=>
 some (0,(.vC kPt G::I L::I (V (D+1)):: .vC kPt M:: .vC Aa N::I O::I S::I T::I U::I X::I v10::I v11::cR 0 Y))) (none)) (some (1,(.vC kPt M:: .vC Aa N::I O::I S::I T::I U::I X::I v10::I v11::Ac K c))):=by kernel_rfl
abbrev Oe (Y:Int) (v3 v4:Rw) (v5 v6 v7 v8 v9 v10 v11:Int) (v12 G:Rw) (L M N O S v20 v1 v2 X:Int) (T:Bool) (U:AC) (D:List AC):Option (Nat×List AC):=
 cond (T) (some (1,(I Y:: .vC kPt v3:: .vC Aa v4::I v5::I v6::I v7::I v8::I v9::I v10::I v11:: .vC kPt v12:: .vC Aa G::U::I L::I M::I N::I O::I S::I v20::D))) (some (0,(I Y::I v1::I (V (v2+1)):: .vC kPt v3:: .vC Aa v4::I v5::I v6::I v7::I v8::I v9::I v10::I v11:: .vC kPt v12:: .vC Aa G::I X::I L::I M::I N::I O::I S::I v20::D)))
theorem Z3t (Co CH Ef Er Ek Ed El BP AX Di Dg Eb:Fn) (N3:Lp) (U V T:Int) (X Y:Rw) (v5 v6 v7 v8 v9 v10 v11:Int) (v12 D:Rw) (G L M N O S v20:Int) (K:Kf) (c:Cv):Ig Co CH Ef Er Ek Ed El BP AX Di Dg Eb N3 (I U::I V::I T:: .vC kPt X:: .vC Aa Y::I v5::I v6::I v7::I v8::I v9::I v10::I v11:: .vC kPt v12:: .vC Aa D::I G::I L::I M::I N::I O::I S::I v20::Ac K c)=
 cond (decide (T<V)) (cond (decide (T=(↑0:Int))) ((El (Ac K c)).bind λa0=>
 Oe U X Y v5 v6 v7 v8 v9 v10 v11 v12 D L M N O S v20 V T G (bA a0 1) (jA a0 0) (cR 2 a0)) (cond (decide (T=(↑(0+1):Int))) ((Ed (Ac K c)).bind λa1=>
 Oe U X Y v5 v6 v7 v8 v9 v10 v11 v12 D L M N O S v20 V T G (bA a1 1) (jA a1 0) (cR 2 a1)) (cond (decide (T=(↑(0+1+1):Int))) ((Ek (Ac K c)).bind λa2=>
 Oe U X Y v5 v6 v7 v8 v9 v10 v11 v12 D L M N O S v20 V T G (bA a2 1) (jA a2 0) (cR 2 a2)) (cond (decide (T=(↑(0+1+1+1):Int))) ((Er (Ac K c)).bind λa3=>
 Oe U X Y v5 v6 v7 v8 v9 v10 v11 v12 D L M N O S v20 V T G (bA a3 1) (jA a3 0) (cR 2 a3)) (cond (decide (T=(↑(0+1+1+1+1):Int))) ((Ef (Ac K c)).bind λa4=>
 Oe U X Y v5 v6 v7 v8 v9 v10 v11 v12 D L M N O S v20 V T G (bA a4 1) (jA a4 0) (cR 2 a4)) (none)))))) (some (1,(I U:: .vC kPt X:: .vC Aa Y::I v5::I v6::I v7::I v8::I v9::I v10::I v11:: .vC kPt v12:: .vC Aa D::I G::I L::I M::I N::I O::I S::I v20::Ac K c))):=by kernel_rfl
abbrev JS (T:Lp) (M:Nat×List AC) (V U:Fn) (N:AC) (O:List AC):Option (List AC):=
 (T (N::I (↑5:Int)::I 0:: .vC kPt (wA M.2 0):: .vC Aa (wA M.2 1)::jA M.2 2::jA M.2 3::jA M.2 4::jA M.2 5::jA M.2 6::jA M.2 7::jA M.2 8:: .vC kPt []:: .vC Aa []::I 0::I 0::I 0::I 0::I 0::I 0::I 0::O)).bind λD=>
 cond (D.1.beq 1) (cond (gA D.2 12==0) ((V (cR 19 D.2)).bind λS=>
 (U (jA D.2 0::(cR 1 S++[.vC kPt (wA D.2 10), .vC Aa (wA D.2 11),jA S 0,jA D.2 13,jA D.2 14,jA D.2 15,jA D.2 16,jA D.2 17,jA D.2 18]))).bind λG=>
 some (.vC kPt (wA G 90):: .vC Aa (wA G 91)::jA G 92::jA G 93::jA G 94::jA G 95::jA G 96::jA G 97::jA G 98::cR 0 G)) ((U (jA D.2 0::(cR 19 D.2++[.vC kPt (wA D.2 10), .vC Aa (wA D.2 11),jA D.2 12,jA D.2 13,jA D.2 14,jA D.2 15,jA D.2 16,jA D.2 17,jA D.2 18]))).bind λL=>
 some (.vC kPt (wA L 90):: .vC Aa (wA L 91)::jA L 92::jA L 93::jA L 94::jA L 95::jA L 96::jA L 97::jA L 98::cR 0 L))) (none)
abbrev Qq6 (Y:Fn) (D:Nat×List AC) (Di T U:Fn) (I:Lp) (V X:Fn):Option (List AC):=
 (Y (Dt (cR 9 D.2) [(58,B true),(86,jA D.2 76)])).bind λL=>
 cond (!bA L 0) ((Di [jA D.2 73,jA D.2 74,jA D.2 75,jA D.2 76,jA D.2 42]).bind λG=>
 (T (Dt (cR 9 D.2) [(58,B true),(64,jA G 0),(65,jA G 1),(66,jA G 2),(67,jA G 3),(86,jA D.2 76)])).bind λM=>
 (U [jA D.2 59,jA D.2 60,jA D.2 61,jA D.2 62,jA D.2 63,jA D.2 64]).bind λN=>
 JS I D V X (jA M 0) (Dt (cR 9 D.2) [(58,B true),(64,jA G 0),(65,jA G 1),(66,jA G 2),(67,jA G 3),(86,jA D.2 76),(88,B (bA N 0))])) ((T (Dt (cR 9 D.2) [(58,B true),(86,jA D.2 76)])).bind λO=>
 (U [jA D.2 59,jA D.2 60,jA D.2 61,jA D.2 62,jA D.2 63,jA D.2 64]).bind λS=>
 JS I D V X (jA O 0) (Dt (cR 9 D.2) [(58,B true),(86,jA D.2 76),(88,B (bA S 0))]))
theorem Ztf (M N Ef Er Ek Ed El O S T U Eb:Fn) (N3 L:Lp) (V:Rw) (K:Kf) (c:Cv):Qn7 M N Ef Er Ek Ed El O S T U Eb N3 L (.vC kPt V::Ac K c)=
 (N3 (.vC kPt V::I (V.length:Int)::I 0:: .vC kPt []:: .vC Aa []::I 0::I 0::I 0::I 0::I 0::I 0::I 0::Ac K {c with aJ:=false,aL:=false})).bind λD=>
 cond (D.1.beq 1) (cond (bA D.2 86) (Qq6 U D T S O L N M) (cond (gA D.2 70 !=0) (Qq6 U D T S O L N M) ((U (Dt (cR 9 D.2) [(86,jA D.2 76)])).bind λX=>
 cond (!bA X 0) ((T [jA D.2 73,jA D.2 74,jA D.2 75,jA D.2 76,jA D.2 42]).bind λG=>
 (S (Dt (cR 9 D.2) [(64,jA G 0),(65,jA G 1),(66,jA G 2),(67,jA G 3),(86,jA D.2 76)])).bind λY=>
 (O [jA D.2 59,jA D.2 60,jA D.2 61,jA D.2 62,jA D.2 63,jA D.2 64]).bind λa0=>
 JS L D N M (jA Y 0) (Dt (cR 9 D.2) [(64,jA G 0),(65,jA G 1),(66,jA G 2),(67,jA G 3),(86,jA D.2 76),(88,B (bA a0 0))])) ((S (Dt (cR 9 D.2) [(86,jA D.2 76)])).bind λa1=>
 (O [jA D.2 59,jA D.2 60,jA D.2 61,jA D.2 62,jA D.2 63,jA D.2 64]).bind λa2=>
 JS L D N M (jA a1 0) (Dt (cR 9 D.2) [(86,jA D.2 76),(88,B (bA a2 0))]))))) (none):=by kernel_rfl
def S4:=Am (R_ Mv J6 IX LO LL Lu Ls HF CZ Ka K3 Je)
def Q8i:=Am (Ig Mv J6 IX LO LL Lu Ls HF CZ Ka K3 Je S4)
def Ke:=Qn7 Mv J6 IX LO LL Lu Ls HF CZ Ka K3 Je S4 Q8i
theorem Zd:Aj PG (Qf6 Mv J6 IX LO LL Lu Ls HF CZ Ka K3 Je):=GJ (rs:=[102,100]) rfl ⟨Zh3,Ztb,Z4x,Z58,Zhn,Zun,Zp2,Qzw,Qm,Zgv,Ziq,Zke,trivial⟩ rfl (Ca rfl (Ca rfl (Ca rfl (Ca rfl (Ca rfl (Ca rfl (Ca rfl (Ca rfl (EI (Ca rfl (EI (Ca rfl G4))))))))))))
theorem Z4y:Al PG (Yei Ke):=rw2 (C:=Qzs Mv J6 IX LO LL Lu Ls HF CZ Ka K3 Je S4 Q8i) (fl (fl fb Zd) Zd) Zd
def Qmg:Sk:=⟨[tf [sa kPt],tf [ci]],[],[]⟩
def Zt2:=qa 56 Qmg Qaz
def C_event_At_0:Cfg:={cf []with prom:=λb=>cond (Nat.beq b 3) ([(5,65)]) ([])}
def Zen:Sk:=⟨[td,tf [ci],td,td,td,tf [sd 5 3],td,td,tf [sa kPt],tf [ci],tf [ci]]++dd 13,[],[(5,65,kPt)]⟩
def Q3c:List (Ex×Sk):=[(Ex.exit 0,⟨[td,td,td,td,td,tf [sd 5 3]]++dd 18,[],[(5,65,kPt)]⟩)]
def U0:Lp:=AL PG C_event_At_0 64 3 (AK PG 56 3) Zen Q3c
def Qu7 (D:Lp):Cfg:=C_event_At_0.loop 3 Zen Q3c D
def Qst (D:Lp):Fn:=An PG (Qu7 D) 64 56 Qmg Qaz
theorem Zlf (L:Rw) (M:Int) (G:Rw) (N D:Int):U0 [.vC kPt L,I M, .vC kPt G,I N,I D]=
 cond (decide (D<N)) (cond (decide (0<=D)&&decide (D<(G.length:Int))) (cond (gA (nth [] G D.toNat) 0==M) (cond (((L++[[jA (nth [] G D.toNat) 0,jA (nth [] G D.toNat) 1,jA (nth [] G D.toNat) 2]]).length*24).ble 140737488355328) (some (0,[.vC kPt (L++[[jA (nth [] G D.toNat) 0,jA (nth [] G D.toNat) 1,jA (nth [] G D.toNat) 2]]),I M, .vC kPt G,I N,I (V (D+1))])) (none)) (some (0,[.vC kPt L,I M, .vC kPt G,I N,I (V (D+1))]))) (none)) (some (1,[.vC kPt L])):=by kernel_rfl
theorem Yb7 (G:Lp) (D:Rw) (L:Int):Qst G [.vC kPt D,I L]=
 (G [.vC kPt [],I L, .vC kPt D,I (D.length:Int),I 0]).bind λo1=>
 cond (o1.1.beq 1) (some [.vC kPt (wA o1.2 0)]) (none):=by kernel_rfl
def Q2w:=Am (U0)
def Ph:=Qst Q2w
theorem Q38:Aj PG (C_event_At_0):=Ao rfl trivial
theorem Z0a:Al PG (Zt2 Ph):=rw2 (C:=Qu7 Q2w) (fl fb Q38) Q38
def Qft:Sk:=⟨[TS.v true (cc 13++[sb,ci,sb]++cc 5++[sb])],[],[]⟩
def Vj:=qa 138 Qft Qjj
def Quv:Fn:=An PG C_cncref30_SamePulses_0 64 138 Qft Qjj
theorem Ybt (x0 x1 x2 x3 x4 x5 x6 x7 x8 x9 D G L:Int) (M:Bool) (N:Int) (O:Bool) (S T U V X:Int) (Y:Bool):Quv [I x0,I x1,I x2,I x3,I x4,I x5,I x6,I x7,I x8,I x9,I D,I G,I L,B M,I N,B O,I S,I T,I U,I V,I X,B Y]=
 cond (x0==2) (some [B !(x2==x5&&(x3==x6&&(x4==x7&&true)))]) (some [B false]):=by kernel_rfl
def EM:=Quv
theorem Z1p:Aj PG (C_cncref30_SamePulses_0):=Ao rfl trivial
theorem Tn:Al PG (Vj EM):=rw1 (C:=C_cncref30_SamePulses_0) Z1p
def UL:=qa 88 ZM Qjj
def Qvx:Fn:=An PG C_cncref30_SamePulses_0 64 88 ZM Qjj
theorem Ycn (D:Int):Qvx [I D]=
 cond (decide (D>=1)) (some [B (decide (D<=6))]) (some [B false]):=by kernel_rfl
def Dz:=Qvx
theorem Z8a:Aj PG (C_cncref30_SamePulses_0):=Ao rfl trivial
theorem S3:Al PG (UL Dz):=rw1 (C:=C_cncref30_SamePulses_0) Z8a
def Qwu:=qa 140 Qft Qjj
def Q0n:Fn:=An PG C_cncref30_SamePulses_0 64 140 Qft Qjj
theorem Zuv (D x1 x2 x3 x4 x5 x6 x7 x8 x9 G L M:Int) (N:Bool) (O:Int) (S:Bool) (T U V X Y:Int) (a0:Bool):Q0n [I D,I x1,I x2,I x3,I x4,I x5,I x6,I x7,I x8,I x9,I G,I L,I M,B N,I O,B S,I T,I U,I V,I X,I Y,B a0]=
 cond (D==5) (some [B true]) (some [B (D==6)]):=by kernel_rfl
def HM:=Q0n
theorem Ydg:Aj PG (C_cncref30_SamePulses_0):=Ao rfl trivial
theorem Q49:Al PG (Qwu HM):=rw1 (C:=C_cncref30_SamePulses_0) Ydg
def Qpe:Sk:=⟨[tf [sa Ai],tf [ci]],[],[]⟩
def Zr4:=qa 144 Qpe Qjj
def WV (D G:Fn):Cfg:=cf [UL D,Qwu G]
def Quc:Sk:=⟨dd 23++[tf [sa Ai],tf [ci],tf [ci]]++dd 9,[],[]⟩
def Qxv:List (Ex×Sk):=[(Ex.ret,⟨[td,td,td,td,tf [sb]]++dd 30,[],[]⟩),(Ex.exit 0,⟨[td]++dd 34,[],[]⟩)]
def Lh (D G:Fn):Lp:=AL PG (WV D G) 64 4 (AK PG 144 4) Quc Qxv
def Q3m (D G:Fn) (I:Lp):Cfg:=(WV D G).loop 4 Quc Qxv I
def Qqt (D G:Fn) (I:Lp):Fn:=An PG (Q3m D G I) 64 144 Qpe Qjj
theorem Qzj (M N:Fn) (G:Rw) (L D:Int):Lh M N [.vC Ai G,I L,I D]=
 cond (decide (D<L)) (cond (decide (0<=D)&&decide (D<(G.length:Int))) ((M [jA (nth [] G D.toNat) 0]).bind λO=>
 cond (bA O 0) ((N (AM Ai (nth [] G D.toNat))).bind λo6=>
 some (1,[B (bA o6 0)])) (some (0,[.vC Ai G,I L,I (V (D+1))]))) (none)) (some (2,[])):=by kernel_rfl
theorem Z09 (N L:Fn) (M:Lp) (G:Rw) (D:Int):Qqt N L M [.vC Ai G,I D]=
 cond (decide (0<=D)&&decide (D<(G.length:Int))) (cond (gA (nth [] G D.toNat) 18==0) (some [B true]) (cond (decide (0<=D)&&decide (D<(G.length:Int))) ((L (AM Ai (nth [] G D.toNat))).bind λO=>
 cond (bA O 0) (some [B true]) (cond (decide (0<=V (D+1))&&decide (V (D+1)<=(G.length:Int))) ((M [.vC Ai (List.drop (V (D+1)).toNat G),I (↑(List.drop (V (D+1)).toNat G).length:Int),I 0]).bind λo8=>
 cond (o8.1.beq 1) (some [B (bA o8.2 0)]) (cond (o8.1.beq 2) (some [B false]) (none))) (none))) (none))) (none):=by kernel_rfl
def Q70:=Am (Lh Dz HM)
def RT:=Qqt Dz HM Q70
theorem Qwd:Aj PG (WV Dz HM):=Ao rfl ⟨S3,Q49,trivial⟩
theorem Z9x:Al PG (Zr4 RT):=rw2 (C:=Q3m Dz HM Q70) (fl fb Qwd) Qwd
def Qiz:Sk:=⟨[tf [sc 20000 0],tf [sa Ai],tf [ci]],[(20000,102,[ci,ci,ci,sd 20000 7,sd 20001 3,sb,ci,ci,ci])],[(20000,111,Ag),(20001,130,kPt)]⟩
def Qny:Sk:=⟨[TS.tup []],[(20000,102,[ci,ci,ci,sd 20000 7,sd 20001 3,sb,ci,ci,ci])],[(20000,111,Ag),(20001,130,kPt)]⟩
def Zhv:=qa 92 Qiz Qny
def Qe8 (D G:Fn):Cfg:=cf [Zr4 D,UL G]
def Qkb (D G:Fn):Fn:=An PG (Qe8 D G) 64 92 Qiz Qny
abbrev Qgr (Y:Fn) (X:Rw) (G:Int) (M:Rw) (D:Int) (N:Rw) (O S T:Int) (U:Bool) (V L:Int):Option (List AC):=
 (Y [jA (nth [] X G.toNat) 0]).bind λo6=>
 cond (bA o6 0) (cond (((M++[[I D,I 2,I G]]).length*24).ble 140737488355328) (some [.vC Ag N, .vC kPt (M++[[I D,I 2,I G]]),I O,I S,I T,B U,I D,I V,I L]) (none)) (cond (gA (nth [] X G.toNat) 0==10) (cond (((M++[[I D,I 5,I G]]).length*24).ble 140737488355328) (some [.vC Ag N, .vC kPt (M++[[I D,I 5,I G]]),I O,I S,I T,B U,I D,I V,I L]) (none)) (cond (gA (nth [] X G.toNat) 0==13) (cond (((M++[[I D,I 4,I G]]).length*24).ble 140737488355328) (some [.vC Ag N, .vC kPt (M++[[I D,I 4,I G]]),I O,I S,I T,B U,I D,I V,I L]) (none)) (cond (((M++[[I D,I 3,I G]]).length*24).ble 140737488355328) (some [.vC Ag N, .vC kPt (M++[[I D,I 3,I G]]),I O,I S,I T,B U,I D,I V,I L]) (none))))
theorem Ycq (Nd Y:Fn) (O M N:Rw) (D S T U:Int) (V:Bool) (L X G:Int):Qkb Nd Y [.vC Ag O, .vC kPt M, .vC Ai N,I D,I S,I T,I U,B V,I L,I X,I G]=
 cond (decide (0<=D)&&decide (D<(N.length:Int))) (cond (gA (nth [] N D.toNat) 0==4) (cond (((M++[[I L,I 6,I D]]).length*24).ble 140737488355328) (some [.vC Ag O, .vC kPt (M++[[I L,I 6,I D]]),I S,I T,I U,B V,I L,I X,I G]) (none)) ((Y [jA (nth [] N D.toNat) 0]).bind λo4=>
 cond (bA o4 0) ((Nd [.vC Ai N,I D]).bind λo5=>
 cond (bA o5 0) (cond (((M++[[I L,I 1,I D]]).length*24).ble 140737488355328) (some [.vC Ag O, .vC kPt (M++[[I L,I 1,I D]]),I S,I T,I U,B V,I L,I X,I G]) (none)) (Qgr Y N D M L O S T U V X G)) (Qgr Y N D M L O S T U V X G))) (none):=by kernel_rfl
def Jg:=Qkb RT Dz
theorem Z08:Aj PG (Qe8 RT Dz):=Ao rfl ⟨Z9x,S3,trivial⟩
theorem Zlz:Al PG (Zhv Jg):=rw1 (C:=Qe8 RT Dz) Z08
def Qc7:=qa 143 Qft Qay
def Qzy:Fn:=An PG C_cncref30_SamePulses_0 64 143 Qft Qay
theorem Zpf (x0 x1 x2 x3 x4 x5 x6 x7 x8 x9 D G L:Int) (M:Bool) (N:Int) (O:Bool) (S T U X Y:Int) (a0:Bool):Qzy [I x0,I x1,I x2,I x3,I x4,I x5,I x6,I x7,I x8,I x9,I D,I G,I L,B M,I N,B O,I S,I T,I U,I X,I Y,B a0]=
 some [I (V (V (x2+x5)*8)),I (V (V (x3+x6)*8)),I (V (V (x4+x7)*8))]:=by kernel_rfl
def F7:=Qzy
theorem Z74:Aj PG (C_cncref30_SamePulses_0):=Ao rfl trivial
theorem Qsh:Al PG (Qc7 F7):=rw1 (C:=C_cncref30_SamePulses_0) Z74
def ZI:Sk:=⟨[TS.v true [se .u64,se .u64],TS.v true [se .u64,se .u64]],[],[]⟩
def Qsx:=qa 232 ZI ZM
def Q5l:Fn:=An PG C_cncref30_SamePulses_0 64 232 ZI ZM
theorem Zlt (D L G M:Int):Q5l [U D,U L,U G,U M]=
 cond (decide (D<G)) (some [I (-1)]) (cond (D==G) (cond (decide (L<M)) (some [I (-1)]) (cond (D==G&&(L==M&&true)) (some [I 0]) (some [I 1]))) (cond (D==G&&(L==M&&true)) (some [I 0]) (some [I 1]))):=by kernel_rfl
def Ic:=Q5l
theorem Zvy:Aj PG (C_cncref30_SamePulses_0):=Ao rfl trivial
theorem Q0c:Al PG (Qsx Ic):=rw1 (C:=C_cncref30_SamePulses_0) Zvy
def Q7r:=qa 288 Qc5 Qbv
def Qi9 (D G:Fn):Cfg:=cf [Qsx D,Up G]
def Q8d:Sk:=⟨[td,tf [sc 1 0],td,tf [se .u64],tf [se .u64]]++dd 16,[(1,197,[se .u64,se .u64])],[]⟩
def Zan:List (Ex×Sk):=[(Ex.exit 0,⟨[td,td,td,tf [se .u64]]++dd 17,[],[]⟩)]
def LU (D G:Fn):Lp:=AL PG (Qi9 D G) 64 3 (AK PG 288 3) Q8d Zan
def Zdf (D G:Fn) (I:Lp):Cfg:=(Qi9 D G).loop 3 Q8d Zan I
def Qcm (D G:Fn) (I:Lp):Fn:=An PG (Zdf D G I) 64 288 Qc5 Qbv
theorem Zbe (M N:Fn) (G D I L:Int):LU M N [U G,U D,U I,U L]=
 cond (decide (D>0)) ((N [U (wrap .u64 (↑(BitVec.ofInt IntKind.u64.bits G|||BitVec.ofInt IntKind.u64.bits D).toNat:Int)),U (wrap .u64 (↑(BitVec.ofInt IntKind.u64.bits G|||BitVec.ofInt IntKind.u64.bits D).toNat:Int))]).bind λo3=>
 (M [U (gA o3 0),U (gA o3 1),U I,U L]).bind λo4=>
 cond (decide (gA o4 0<=0)) (some (0,[U (wrap .u64 (↑(BitVec.ofInt IntKind.u64.bits G|||BitVec.ofInt IntKind.u64.bits D).toNat:Int)),U (D.fdiv (2^min (Int.toNat 1) IntKind.u64.bits)),U I,U L])) (some (0,[U G,U (D.fdiv (2^min (Int.toNat 1) IntKind.u64.bits)),U I,U L]))) (some (1,[U G])):=by kernel_rfl
theorem Yab (M N:Fn) (D:Lp) (G I:Int):Qcm M N D [U G,U I]=
 (D [U 0,U 9223372036854775808,U G,U I]).bind λL=>
 cond (L.1.beq 1) (some [U (gA L.2 0)]) (none):=by kernel_rfl
def Qzq:=Am (LU Ic Et)
def JW:=Qcm Ic Et Qzq
theorem Zbi:Aj PG (Qi9 Ic Et):=Ao rfl ⟨Q0c,U9,trivial⟩
theorem Q5n:Al PG (Q7r JW):=rw2 (C:=Zdf Ic Et Qzq) (fl fb Zbi) Zbi
def Xc:Sk:=⟨[TS.v true [se .u64,se .u64],tf [ci]],[],[]⟩
def Z9p:=qa 264 Xc Yz
def Qq2 (Bc D G I:Fn):Cfg:=cf [WU Bc,(289,Ad Q2d Q5e D),(171,Ad Z4 VF G),Q7r I]
def Yp (Bc D G I:Fn):Fn:=An PG (Qq2 Bc D G I) 64 264 Xc Yz
abbrev Qd5 (S:Int) (N:List AC) (Bc:Fn) (D O:List AC):Option (List AC):=
 cond (S==2) (cond (decide (gA N 0>0)) ((Bc [U (wrap .u64 (gA D 0+1)),B false]).bind λG=>
 some [jA G 0,B (bA G 1)]) (cond (decide (gA O 0>gA D 0)) ((Bc [U (wrap .u64 (gA D 0+1)),B false]).bind λI=>
 some [jA I 0,B (bA I 1)]) ((Bc [U (gA D 0),B false]).bind λL=>
 some [jA L 0,B (bA L 1)]))) ((Bc [U (gA D 0),B false]).bind λM=>
 some [jA M 0,B (bA M 1)])
theorem Z1n (Bc T Y FU:Fn) (V X S:Int):Yp Bc T Y FU [U V,U X,I S]=
 (FU [U V,U X]).bind λD=>
 (Y [U (gA D 0),U (gA D 0)]).bind λM=>
 (T [U X,U (gA M 1),U 0]).bind λG=>
 (T [U V,U (gA M 0),U (gA G 1)]).bind λL=>
 cond (S==1) (cond (decide (gA L 0>0)) ((Bc [U (wrap .u64 (gA D 0+1)),B false]).bind λN=>
 some [jA N 0,B (bA N 1)]) (cond (decide (gA G 0>0)) ((Bc [U (wrap .u64 (gA D 0+1)),B false]).bind λO=>
 some [jA O 0,B (bA O 1)]) (Qd5 S L Bc D G))) (Qd5 S L Bc D G):=by kernel_rfl
def Uz:=Yp EU KE Ih JW
theorem Zss:Aj PG (Qq2 EU KE Ih JW):=Ao rfl ⟨Qk0,Zxc,Qwv,Q5n,trivial⟩
theorem Z3e:Al PG (Z9p Uz):=rw1 (C:=Qq2 EU KE Ih JW) Zss
def Qv6:=qa 237 Zo Yz
def YH (D G:Fn):Cfg:=cf [Z9p D,Qqp G]
def Z9 (D G:Fn):Fn:=An PG (YH D G) 64 237 Zo Yz
theorem Z4z (L M:Fn) (D G:Int):Z9 L M [I D,I G]=
 cond (decide (D<0)) (some [I 0,B false]) ((M [I G]).bind λo2=>
 cond (!bA o2 0) (some [I 0,B false]) ((L [U 0,U (wrap .u64 D),I G]).bind λo3=>
 some [jA o3 0,B (bA o3 1)])):=by kernel_rfl
def IV:=Z9 Uz FL
theorem Z7i:Aj PG (YH Uz FL):=Ao rfl ⟨Z3e,Qog,trivial⟩
theorem Qys:Al PG (Qv6 IV):=rw1 (C:=YH Uz FL) Z7i
def Qus:=qa 189 Qc2 ZM
def Qm5 (D:Fn):Cfg:={cf [Qv6 D]with unroll:=[3]}
def W1 (D:Fn):Fn:=An PG (Qm5 D) 64 189 Qc2 ZM
theorem Zz7 (S:Fn) (D G L M N O:Int):W1 S [I D,I G,I L,I M,I N,I O]=
 (S [I (V (V (V (0+V (V (D-M)*V (D-M)))+V (V (G-N)*V (G-N)))+V (V (L-O)*V (L-O)))),I 1]).bind λo1=>
 some [jA o1 0]:=by kernel_rfl
def Jm:=W1 IV
theorem Z2p:Aj PG (Qm5 IV):=Ao rfl ⟨Qys,trivial⟩
theorem Qwf:Al PG (Qus Jm):=rw1 (C:=Qm5 IV) Z2p
def Qd8:Sk:=⟨[tf [sc 20000 0],TS.v true [ci,ci,ci],TS.v true (cc 7)],[(20000,102,[ci,ci,ci,sd 20000 7,sd 20001 3,sb,ci,ci,ci])],[(20000,111,Ag),(20001,130,kPt)]⟩
def Z97:=qa 142 Qd8 Qny
def Qac (D:Fn):Cfg:=cf [Qus D]
def Tj (D:Fn):Fn:=An PG (Qac D) 64 142 Qd8 Qny
abbrev Yc (D:Bool) (x0 x1:Rw) (x2 x3 x4 G L M N O S:Int) (Da:Fn) (x9 T U:Int) (X:Bool) (Y a0 a1:AC):Option (List AC):=
 cond (!D) (some [.vC Ag x0, .vC kPt x1,I x2,I x3,I x4,B true,I G,I L,I M]) (cond (X) (some [.vC Ag x0, .vC kPt x1,I N,I O,I S,B D,I G,I L,I M]) ((Da [Y,a0,a1,I x2,I x3,I x4]).bind λo2=>
 cond (((x0++[[I x2,I x3,I x4,jA o2 0,I x9,I T,I U]]).length*56).ble 140737488355328) (some [.vC Ag (x0++[[I x2,I x3,I x4,jA o2 0,I x9,I T,I U]]), .vC kPt x1,I N,I O,I S,B D,I (V (G+gA o2 0)),I L,I M]) (none)))
theorem Zai (Da:Fn) (D x1:Rw) (Y x3 x4 x5 x6 x7 x8 x9 N O G L M:Int) (S:Bool) (T U X:Int):Tj Da [.vC Ag D, .vC kPt x1,I Y,I x3,I x4,I x5,I x6,I x7,I x8,I x9,I N,I O,I G,I L,I M,B S,I T,I U,I X]=
 cond (decide ((D.length:Int)>0)) (cond (decide (0<=V ((D.length:Int)-1))&&decide (V ((D.length:Int)-1)<(D.length:Int))) (Yc S D x1 Y x3 x4 T U X G L M Da x9 N O (Y==gA (nth [] D (V ((D.length:Int)-1)).toNat) 0&&(x3==gA (nth [] D (V ((D.length:Int)-1)).toNat) 1&&(x4==gA (nth [] D (V ((D.length:Int)-1)).toNat) 2&&true))) (jA (nth [] D (V ((D.length:Int)-1)).toNat) 0) (jA (nth [] D (V ((D.length:Int)-1)).toNat) 1) (jA (nth [] D (V ((D.length:Int)-1)).toNat) 2)) (none)) (Yc S D x1 Y x3 x4 T U X G L M Da x9 N O (Y==G&&(x3==L&&(x4==M&&true))) (I G) (I L) (I M)):=by kernel_rfl
def Px:=Tj Jm
theorem Z4u:Aj PG (Qac Jm):=Ao rfl ⟨Qwf,trivial⟩
theorem Zgp:Al PG (Z97 Px):=rw1 (C:=Qac Jm) Z4u
def Qmt:=qa 90 Qpe ZM
def Q1e:Sk:=⟨[tf [sa Ai],tf [ci]]++dd 20,[],[]⟩
def Q7m:List (Ex×Sk):=[(Ex.exit 0,⟨[td,tf [ci]]++dd 20,[],[]⟩)]
def P8:Lp:=AL PG C_cncref30_SamePulses_0 64 2 (AK PG 90 2) Q1e Q7m
def Q7f (D:Lp):Cfg:=C_cncref30_SamePulses_0.loop 2 Q1e Q7m D
def Qfp (D:Lp):Fn:=An PG (Q7f D) 64 90 Qpe ZM
theorem Q8q (G:Rw) (D:Int):P8 [.vC Ai G,I D]=
 cond (decide (D<(G.length:Int))) (cond (decide (0<=D)&&decide (D<(G.length:Int))) (cond (gA (nth [] G D.toNat) 0==10) (some (0,[.vC Ai G,I (V (D+1))])) (some (1,[I D]))) (none)) (some (1,[I D])):=by kernel_rfl
theorem Zr8 (D:Lp) (G:Rw) (L:Int):Qfp D [.vC Ai G,I L]=
 (D [.vC Ai G,I (V (L+1))]).bind λo1=>
 cond (o1.1.beq 1) (some [jA o1.2 0]) (none):=by kernel_rfl
def Q8g:=Am (P8)
def Fa:=Qfp Q8g
theorem Q1z:Aj PG (C_cncref30_SamePulses_0):=Ao rfl trivial
theorem Qno:Al PG (Qmt Fa):=rw2 (C:=Q7f Q8g) (fl fb Q1z) Q1z
def Q32:=qa 89 Qpe Qjj
def Qhq (D G:Fn):Cfg:=cf [Vj D,Qmt G]
def XV (D G:Fn):Fn:=An PG (Qhq D G) 64 89 Qpe Qjj
theorem Z25 (L M:Fn) (D:Rw) (G:Int):XV L M [.vC Ai D,I G]=
 (M [.vC Ai D,I G]).bind λo3=>
 cond (decide (0<=G)&&decide (G<(D.length:Int))) ((L (AM Ai (nth [] D G.toNat))).bind λo4=>
 cond (bA o4 0) (cond (decide (0<=G)&&decide (G<(D.length:Int))) (cond (gA (nth [] D G.toNat) 18 !=0) (cond (decide (gA o3 0<(D.length:Int))) (cond (decide (0<=gA o3 0)&&decide (gA o3 0<(D.length:Int))) ((L (AM Ai (nth [] D (gA o3 0).toNat))).bind λN=>
 some [B (bA N 0)]) (none)) (some [B false])) (some [B false])) (none)) (some [B false])) (none):=by kernel_rfl
def Hk:=XV EM Fa
theorem Zij:Aj PG (Qhq EM Fa):=Ao rfl ⟨Tn,Qno,trivial⟩
theorem Qxr:Al PG (Q32 Hk):=rw1 (C:=Qhq EM Fa) Zij
def Ql2:Sk:=⟨[TS.v true [ci,ci,ci],TS.v true [ci,ci,ci],TS.v true [ci,ci,ci]],[],[]⟩
def Qy1:=qa 286 Ql2 ZM
def Q91:Fn:=An PG XO 64 286 Ql2 ZM
theorem Z1r (D G L M N O S T U:Int):Q91 [I D,I G,I L,I M,I N,I O,I S,I T,I U]=
 some [I (V (V (V (0+V (V (V (D+S)-V (2*M))*V (V (D+S)-V (2*M))))+V (V (V (G+T)-V (2*N))*V (V (G+T)-V (2*N))))+V (V (V (L+U)-V (2*O))*V (V (L+U)-V (2*O)))))]:=by kernel_rfl
def GY:=Q91
theorem Zjo:Aj PG (XO):=Ao rfl trivial
theorem Qzu:Al PG (Qy1 GY):=rw1 (C:=XO) Zjo
def Znb:=qa 263 Ql2 ZM
def VJ (D:Fn):Cfg:=cf [Qy1 D]
def Qtr:Sk:=⟨[td,td,td,tf [sc 3 0],tf [sc 4 0],tf [sc 5 0],td,tf [ci]]++dd 22,[(3,42,[ci,ci,ci]),(4,42,[ci,ci,ci]),(5,42,[ci,ci,ci])],[]⟩
def Qxd:List (Ex×Sk):=[(Ex.exit 0,⟨dd 7++[tf [ci]]++dd 22,[],[]⟩)]
def Q0 (D:Fn):Lp:=AL PG (VJ D) 64 2 (AK PG 263 2) Qtr Qxd
def Q35 (D:Fn) (G:Lp):Cfg:=(VJ D).loop 2 Qtr Qxd G
def Qau (D:Fn) (G:Lp):Fn:=An PG (Q35 D G) 64 263 Ql2 ZM
theorem Z8b (Y:Fn) (D G L M N O S T U X:Int):Q0 Y [I D,I G,I L,I M,I N,I O,I S,I T,I U,I X]=
 cond (decide (D<64)) ((Y [I G,I L,I M,I N,I O,I S,I T,I U,I X]).bind λo2=>
 cond (decide (gA o2 0>V (V (V (V (V (V (16*D)*D)*D)*D)*4)*4))) (some (0,[I (V (D*2)),I G,I L,I M,I N,I O,I S,I T,I U,I X])) (some (1,[I D]))) (some (1,[I D])):=by kernel_rfl
theorem Zmz (X:Fn) (D:Lp) (G L M N O S T U V:Int):Qau X D [I G,I L,I M,I N,I O,I S,I T,I U,I V]=
 (D [I 2,I G,I L,I M,I N,I O,I S,I T,I U,I V]).bind λo3=>
 cond (o3.1.beq 1) (some [jA o3.2 0]) (none):=by kernel_rfl
def Zbm:=Am (Q0 GY)
def KI:=Qau GY Zbm
theorem Zcx:Aj PG (VJ GY):=Ao rfl ⟨Qzu,trivial⟩
theorem Zg9:Al PG (Znb KI):=rw2 (C:=Q35 GY Zbm) (fl fb Zcx) Zcx
def XB:Sk:=⟨[TS.v true [se .u64,se .u64],tf [se .u64]],[],[]⟩
def Qkj:Sk:=⟨[TS.tup [(true,[se .u64,se .u64]),(false,[sb])]],[],[]⟩
def Zgl:=qa 296 XB Qkj
def Qcd (D:Fn):Cfg:=cf [Zca D]
def Qc4 (D:Fn):Fn:=An PG (Qcd D) 64 296 XB Qkj
theorem Zok (D:Fn) (I L G:Int):Qc4 D [U I,U L,U G]=
 (D [U 0,U I,U G]).bind λo2=>
 (D [U (gA o2 1),U L,U G]).bind λo3=>
 some [U (gA o2 0),U (gA o3 0),B (decide (gA o3 1>0))]:=by kernel_rfl
def UB:=Qc4 GF
theorem Ydv:Aj PG (Qcd GF):=Ao rfl ⟨Qti,trivial⟩
theorem Zuw:Al PG (Zgl UB):=rw1 (C:=Qcd GF) Ydv
def Q6e:=qa 287 XD Yz
def Qgi (Bc D G I L M N O:Fn):Cfg:=cf [WU Bc,Q5u D,XH G,Q7r I,Zgl L,Up M,Qqp N,Qcl O]
def XM (Bc D G I L M N O:Fn):Fn:=An PG (Qgi Bc D G I L M N O) 64 287 XD Yz
abbrev QX (Cs:Fn) (x3:Int) (Bc:Fn) (G:List AC) (L:Bool) (M D N O:AC):Option (List AC):=
 cond (L) ((Cs [I x3,M,B true,D]).bind λY=>
 cond (bA Y 0) ((Bc [U (wrap .u64 (wrap .u64 ((gA G 0).tdiv 2)+1)),D]).bind λS=>
 some [jA S 0,B (bA S 1)]) ((Bc [U (wrap .u64 ((gA G 0).tdiv 2)),D]).bind λT=>
 some [jA T 0,B (bA T 1)])) ((Cs [I x3,N,O,D]).bind λa0=>
 cond (bA a0 0) ((Bc [U (wrap .u64 (wrap .u64 ((gA G 0).tdiv 2)+1)),D]).bind λV=>
 some [jA V 0,B (bA V 1)]) ((Bc [U (wrap .u64 ((gA G 0).tdiv 2)),D]).bind λX=>
 some [jA X 0,B (bA X 1)]))
theorem Zig (Bc O C_ FU NO BC DA S:Fn) (T V x2 N:Int):XM Bc O C_ FU NO BC DA S [I T,I V,I x2,I N]=
 (S [I T]).bind λa1=>
 cond (decide (gA a1 0>2147483648)) (some [I 0,B false]) ((S [I V]).bind λa2=>
 cond (decide (gA a2 0>2147483648)) (some [I 0,B false]) (cond (decide (x2<1)) (some [I 0,B false]) (cond (decide (x2>4611686018427387904)) (some [I 0,B false]) ((DA [I N]).bind λa3=>
 cond (!bA a3 0) (some [I 0,B false]) ((S [I T]).bind λX=>
 (S [I V]).bind λY=>
 (BC [U (wrap .u64 (2*wrap .u64 (gA X 0*gA Y 0))),U (wrap .u64 (2*wrap .u64 (gA X 0*gA Y 0)))]).bind λa0=>
 (NO [U (gA a0 0),U (gA a0 1),U (wrap .u64 x2)]).bind λD=>
 (FU [U (gA D 0),U (gA D 1)]).bind λG=>
 cond (bA D 2) ((C_ [I T,I V]).bind λa4=>
 QX O N Bc G ((gA G 0).tmod 2==1) (I 1) (B (decide (gA a4 0<0))) (I (-1)) (B true)) ((BC [U (gA G 0),U (gA G 0)]).bind λL=>
 (C_ [I T,I V]).bind λM=>
 cond ((gA G 0).tmod 2==1) (cond (!(gA L 0==gA D 0&&(gA L 1==gA D 1&&true))) (QX O N Bc G (!(gA L 0==gA D 0&&(gA L 1==gA D 1&&true))) (I 1) (B (decide (gA M 0<0))) (I 1) (B ((gA G 0).tmod 2==1))) (QX O N Bc G (!(gA L 0==gA D 0&&(gA L 1==gA D 1&&true))) (I 0) (B (decide (gA M 0<0))) (I 0) (B ((gA G 0).tmod 2==1)))) (QX O N Bc G (!(gA L 0==gA D 0&&(gA L 1==gA D 1&&true))) (I (-1)) (B (decide (gA M 0<0))) (I (-1)) (B ((gA G 0).tmod 2==1))))))))):=by kernel_rfl
def Iy:=XM EU H2 FO JW UB Et FL Gc
theorem Zir:Aj PG (Qgi EU H2 FO JW UB Et FL Gc):=Ao rfl ⟨Qk0,Zea,Qed,Q5n,Zuw,U9,Qog,We,trivial⟩
theorem Qvp:Al PG (Q6e Iy):=rw1 (C:=Qgi EU H2 FO JW UB Et FL Gc) Zir
def Qio:Sk:=⟨[TS.v true [ci,ci,ci],TS.v true [ci,ci,ci],tf [ci]],[],[]⟩
def YB:Sk:=⟨[TS.tup [(true,[ci,ci,ci]),(false,[sb])]],[],[]⟩
def Qws:=qa 262 Qio YB
def Qhu (Ch:Fn):Cfg:={cf [Q6e Ch]with unroll:=[5,10]}
def Qrg (Ch:Fn):Fn:=An PG (Qhu Ch) 64 262 Qio YB
theorem Zh9 (Ch:Fn) (D G L M N O S:Int):Qrg Ch [I D,I G,I L,I M,I N,I O,I S]=
 cond (M==D&&(N==G&&(O==L&&true))) (some [I 0,I 0,I 0,B false]) (cond (decide (S<0)) (some [I 0,I 0,I 0,B false]) (cond (decide (S>33554432)) (some [I 0,I 0,I 0,B false]) ((Ch [I (V (M-D)),I S,I (V (V (V (0+V (V (M-D)*V (M-D)))+V (V (N-G)*V (N-G)))+V (V (O-L)*V (O-L)))),I 2]).bind λo3=>
 (Ch [I (V (N-G)),I S,I (V (V (V (0+V (V (M-D)*V (M-D)))+V (V (N-G)*V (N-G)))+V (V (O-L)*V (O-L)))),I 2]).bind λo4=>
 (Ch [I (V (O-L)),I S,I (V (V (V (0+V (V (M-D)*V (M-D)))+V (V (N-G)*V (N-G)))+V (V (O-L)*V (O-L)))),I 2]).bind λT=>
 some [I (V (D+gA o3 0)),I (V (G+gA o4 0)),I (V (L+gA T 0)),B true]))):=by kernel_rfl
def GQ:=Qrg Iy
theorem Zsy:Aj PG (Qhu Iy):=Ao rfl ⟨Qvp,trivial⟩
theorem Q4n:Al PG (Qws GQ):=rw1 (C:=Qhu Iy) Zsy
def Z9k:=qa 261 Qhn ZM
def VU (D Cm G:Fn):Cfg:=cf [Qy1 D,Qws Cm,Qus G]
def Qsy:Sk:=⟨[td,td,td,tf [ci],tf [sc 4 0],tf [sc 5 0],tf [sc 6 0],td,td,tf [ci],tf [ci],tf [ci]]++dd 62,[(4,42,[ci,ci,ci]),(5,42,[ci,ci,ci]),(6,42,[ci,ci,ci])],[]⟩
def Q43:List (Ex×Sk):=[(Ex.exit 0,⟨dd 10++[tf [ci]]++dd 63,[],[]⟩)]
def NN (D Cm G:Fn):Lp:=AL PG (VU D Cm G) 64 6 (AK PG 261 6) Qsy Q43
def Zar (D Cm G:Fn) (I:Lp):Cfg:=(VU D Cm G).loop 6 Qsy Q43 I
def Qnz (D Cm G:Fn) (I:Lp):Fn:=An PG (Zar D Cm G I) 64 261 Qhn ZM
theorem Q63 (CM Cm Da:Fn) (O S G D T U X L M N v10 v11 v12:Int):NN CM Cm Da [I O,I S,I G,I D,I T,I U,I X,I L,I M,I N,I v10,I v11,I v12]=
 cond (decide (D>0)) (cond (decide (V (G+D)>S)) (some (0,[I O,I S,I G,I (D.fdiv (2^min (Int.toNat 1) IntKind.i64.bits)),I T,I U,I X,I L,I M,I N,I v10,I v11,I v12])) ((Cm [I L,I M,I N,I T,I U,I X,I (V (G+D))]).bind λo8=>
 (Cm [I L,I M,I N,I v10,I v11,I v12,I (V (G+D))]).bind λY=>
 (CM [jA o8 0,jA o8 1,jA o8 2,I L,I M,I N,jA Y 0,jA Y 1,jA Y 2]).bind λa0=>
 cond (decide (gA a0 0<=V (V (16*O)*O))) (some (0,[I O,I S,I (V (G+D)),I (D.fdiv (2^min (Int.toNat 1) IntKind.i64.bits)),I T,I U,I X,I L,I M,I N,I v10,I v11,I v12])) (some (0,[I O,I S,I G,I (D.fdiv (2^min (Int.toNat 1) IntKind.i64.bits)),I T,I U,I X,I L,I M,I N,I v10,I v11,I v12])))) (some (1,[I G])):=by kernel_rfl
theorem Zog (CM Cm Y:Fn) (N6:Lp) (N O S G L M T U X x9:Int):Qnz CM Cm Y N6 [I N,I O,I S,I G,I L,I M,I T,I U,I X,I x9]=
 cond (N==G&&(O==L&&(S==M&&true))) (some [I 0]) (cond (T==G&&(U==L&&(X==M&&true))) (some [I 0]) ((Y [I N,I O,I S,I G,I L,I M]).bind λa0=>
 (Y [I G,I L,I M,I T,I U,I X]).bind λa1=>
 (N6 [I x9,I (V (mn (gA a0 0) (gA a1 0)-2)),I 0,I 16777216,I N,I O,I S,I G,I L,I M,I T,I U,I X]).bind λD=>
 cond (D.1.beq 1) (cond (decide (gA D.2 0<16)) (some [I 0]) (some [jA D.2 0])) (none))):=by kernel_rfl
def Q7k:=Am (NN GY GQ Jm)
def LQ:=Qnz GY GQ Jm Q7k
theorem Qvb:Aj PG (VU GY GQ Jm):=Ao rfl ⟨Qzu,Q4n,Qwf,trivial⟩
theorem Zq0:Al PG (Z9k LQ):=rw2 (C:=Zar GY GQ Jm Q7k) (fl fb Qvb) Qvb
def Zj3:=qa 235 Qhn Qaz
def Qdd (D G Cm I:Fn):Cfg:={cf [Mn D,Znb G,Qws Cm,Z9k I]with unroll:=[13]}
def Zec:Sk:=⟨[td,td,td,td,td,tf [sc 5 0],td,td,td,td,tf [sc 10 0],td,tf [sc 12 0],td,tf [ci],tf [sd 50 3]]++dd 36++[tf [ci],tf [ci]]++dd 57,[(5,42,[ci,ci,ci]),(10,42,[ci,ci,ci]),(12,42,[ci,ci,ci])],[(50,42,kPt)]⟩
def Qs4:List (Ex×Sk):=[(Ex.exit 0,⟨dd 15++[tf [sd 50 3]]++dd 95,[],[(50,42,kPt)]⟩)]
def OV (D G Cm I:Fn):Lp:=AL PG (Qdd D G Cm I) 64 9 (AK PG 235 9) Zec Qs4
def Q83 (D G Cm I:Fn) (L:Lp):Cfg:=(Qdd D G Cm I).loop 9 Zec Qs4 L
def Ql6 (D G Cm I:Fn) (L:Lp):Fn:=An PG (Q83 D G Cm I L) 64 235 Qhn Qaz
theorem Qs7 (U G2 Cm Gk:Fn) (G:Rw) (S X D L M N Y v8 v9 v10 v11 v12:Int):OV U G2 Cm Gk [.vC kPt G,I S,I X,I D,I L,I M,I N,I Y,I v8,I v9,I v10,I v11,I v12]=
 cond (decide (D<X)) (cond (decide (0<=D)&&decide (D<(G.length:Int))) ((U [I (V (V (V (V (S-D)*V (S-D))*V (Y-L))+V (V (D*D)*V (v10-L)))),I 1,I (V (S*S)),I 2]).bind λO=>
 cond (decide (0<=D)&&decide (D<(G.length:Int))) (cond (decide (0<=D)&&decide (D<(G.length:Int))) ((U [I (V (V (V (V (S-D)*V (S-D))*V (v8-M))+V (V (D*D)*V (v11-M)))),I 1,I (V (S*S)),I 2]).bind λT=>
 cond (decide (0<=D)&&decide (D<(G.length:Int))) (cond (decide (0<=D)&&decide (D<(G.length:Int))) ((U [I (V (V (V (V (S-D)*V (S-D))*V (v9-N))+V (V (D*D)*V (v12-N)))),I 1,I (V (S*S)),I 2]).bind λa0=>
 cond (decide (0<=D)&&decide (D<(G.length:Int))) (cond (decide (0<=D)&&decide (D<(G.length:Int))) (some (0,[.vC kPt ((((G.set D.toNat [I L,I M,I N]).set D.toNat [I (V (Af (nth .vD (nth [] (G.set D.toNat [I L,I M,I N]) D.toNat) 0)+gA O 0)),I (Af (nth .vD (nth [] (G.set D.toNat [I L,I M,I N]) D.toNat) 1)),I (Af (nth .vD (nth [] (G.set D.toNat [I L,I M,I N]) D.toNat) 2))]).set D.toNat [I (Af (nth .vD (nth [] ((G.set D.toNat [I L,I M,I N]).set D.toNat [I (V (Af (nth .vD (nth [] (G.set D.toNat [I L,I M,I N]) D.toNat) 0)+gA O 0)),I (Af (nth .vD (nth [] (G.set D.toNat [I L,I M,I N]) D.toNat) 1)),I (Af (nth .vD (nth [] (G.set D.toNat [I L,I M,I N]) D.toNat) 2))]) D.toNat) 0)),I (V (Af (nth .vD (nth [] ((G.set D.toNat [I L,I M,I N]).set D.toNat [I (V (Af (nth .vD (nth [] (G.set D.toNat [I L,I M,I N]) D.toNat) 0)+gA O 0)),I (Af (nth .vD (nth [] (G.set D.toNat [I L,I M,I N]) D.toNat) 1)),I (Af (nth .vD (nth [] (G.set D.toNat [I L,I M,I N]) D.toNat) 2))]) D.toNat) 1)+gA T 0)),I (Af (nth .vD (nth [] ((G.set D.toNat [I L,I M,I N]).set D.toNat [I (V (Af (nth .vD (nth [] (G.set D.toNat [I L,I M,I N]) D.toNat) 0)+gA O 0)),I (Af (nth .vD (nth [] (G.set D.toNat [I L,I M,I N]) D.toNat) 1)),I (Af (nth .vD (nth [] (G.set D.toNat [I L,I M,I N]) D.toNat) 2))]) D.toNat) 2))]).set D.toNat [I (Af (nth .vD (nth [] (((G.set D.toNat [I L,I M,I N]).set D.toNat [I (V (Af (nth .vD (nth [] (G.set D.toNat [I L,I M,I N]) D.toNat) 0)+gA O 0)),I (Af (nth .vD (nth [] (G.set D.toNat [I L,I M,I N]) D.toNat) 1)),I (Af (nth .vD (nth [] (G.set D.toNat [I L,I M,I N]) D.toNat) 2))]).set D.toNat [I (Af (nth .vD (nth [] ((G.set D.toNat [I L,I M,I N]).set D.toNat [I (V (Af (nth .vD (nth [] (G.set D.toNat [I L,I M,I N]) D.toNat) 0)+gA O 0)),I (Af (nth .vD (nth [] (G.set D.toNat [I L,I M,I N]) D.toNat) 1)),I (Af (nth .vD (nth [] (G.set D.toNat [I L,I M,I N]) D.toNat) 2))]) D.toNat) 0)),I (V (Af (nth .vD (nth [] ((G.set D.toNat [I L,I M,I N]).set D.toNat [I (V (Af (nth .vD (nth [] (G.set D.toNat [I L,I M,I N]) D.toNat) 0)+gA O 0)),I (Af (nth .vD (nth [] (G.set D.toNat [I L,I M,I N]) D.toNat) 1)),I (Af (nth .vD (nth [] (G.set D.toNat [I L,I M,I N]) D.toNat) 2))]) D.toNat) 1)+gA T 0)),I (Af (nth .vD (nth [] ((G.set D.toNat [I L,I M,I N]).set D.toNat [I (V (Af (nth .vD (nth [] (G.set D.toNat [I L,I M,I N]) D.toNat) 0)+gA O 0)),I (Af (nth .vD (nth [] (G.set D.toNat [I L,I M,I N]) D.toNat) 1)),I (Af (nth .vD (nth [] (G.set D.toNat [I L,I M,I N]) D.toNat) 2))]) D.toNat) 2))]) D.toNat) 0)),I (Af (nth .vD (nth [] (((G.set D.toNat [I L,I M,I N]).set D.toNat [I (V (Af (nth .vD (nth [] (G.set D.toNat [I L,I M,I N]) D.toNat) 0)+gA O 0)),I (Af (nth .vD (nth [] (G.set D.toNat [I L,I M,I N]) D.toNat) 1)),I (Af (nth .vD (nth [] (G.set D.toNat [I L,I M,I N]) D.toNat) 2))]).set D.toNat [I (Af (nth .vD (nth [] ((G.set D.toNat [I L,I M,I N]).set D.toNat [I (V (Af (nth .vD (nth [] (G.set D.toNat [I L,I M,I N]) D.toNat) 0)+gA O 0)),I (Af (nth .vD (nth [] (G.set D.toNat [I L,I M,I N]) D.toNat) 1)),I (Af (nth .vD (nth [] (G.set D.toNat [I L,I M,I N]) D.toNat) 2))]) D.toNat) 0)),I (V (Af (nth .vD (nth [] ((G.set D.toNat [I L,I M,I N]).set D.toNat [I (V (Af (nth .vD (nth [] (G.set D.toNat [I L,I M,I N]) D.toNat) 0)+gA O 0)),I (Af (nth .vD (nth [] (G.set D.toNat [I L,I M,I N]) D.toNat) 1)),I (Af (nth .vD (nth [] (G.set D.toNat [I L,I M,I N]) D.toNat) 2))]) D.toNat) 1)+gA T 0)),I (Af (nth .vD (nth [] ((G.set D.toNat [I L,I M,I N]).set D.toNat [I (V (Af (nth .vD (nth [] (G.set D.toNat [I L,I M,I N]) D.toNat) 0)+gA O 0)),I (Af (nth .vD (nth [] (G.set D.toNat [I L,I M,I N]) D.toNat) 1)),I (Af (nth .vD (nth [] (G.set D.toNat [I L,I M,I N]) D.toNat) 2))]) D.toNat) 2))]) D.toNat) 1)),I (V (Af (nth .vD (nth [] (((G.set D.toNat [I L,I M,I N]).set D.toNat [I (V (Af (nth .vD (nth [] (G.set D.toNat [I L,I M,I N]) D.toNat) 0)+gA O 0)),I (Af (nth .vD (nth [] (G.set D.toNat [I L,I M,I N]) D.toNat) 1)),I (Af (nth .vD (nth [] (G.set D.toNat [I L,I M,I N]) D.toNat) 2))]).set D.toNat [I (Af (nth .vD (nth [] ((G.set D.toNat [I L,I M,I N]).set D.toNat [I (V (Af (nth .vD (nth [] (G.set D.toNat [I L,I M,I N]) D.toNat) 0)+gA O 0)),I (Af (nth .vD (nth [] (G.set D.toNat [I L,I M,I N]) D.toNat) 1)),I (Af (nth .vD (nth [] (G.set D.toNat [I L,I M,I N]) D.toNat) 2))]) D.toNat) 0)),I (V (Af (nth .vD (nth [] ((G.set D.toNat [I L,I M,I N]).set D.toNat [I (V (Af (nth .vD (nth [] (G.set D.toNat [I L,I M,I N]) D.toNat) 0)+gA O 0)),I (Af (nth .vD (nth [] (G.set D.toNat [I L,I M,I N]) D.toNat) 1)),I (Af (nth .vD (nth [] (G.set D.toNat [I L,I M,I N]) D.toNat) 2))]) D.toNat) 1)+gA T 0)),I (Af (nth .vD (nth [] ((G.set D.toNat [I L,I M,I N]).set D.toNat [I (V (Af (nth .vD (nth [] (G.set D.toNat [I L,I M,I N]) D.toNat) 0)+gA O 0)),I (Af (nth .vD (nth [] (G.set D.toNat [I L,I M,I N]) D.toNat) 1)),I (Af (nth .vD (nth [] (G.set D.toNat [I L,I M,I N]) D.toNat) 2))]) D.toNat) 2))]) D.toNat) 2)+gA a0 0))]),I S,I X,I (V (D+1)),I L,I M,I N,I Y,I v8,I v9,I v10,I v11,I v12])) (none)) (none)) (none)) (none)) (none)) (none)) (none)) (some (1,[.vC kPt G])):=by kernel_rfl
theorem Q4v (AH G2 Cm Gk:Fn) (N9:Lp) (U X Y M N O x6 x7 x8 x9:Int):Ql6 AH G2 Cm Gk N9 [I U,I X,I Y,I M,I N,I O,I x6,I x7,I x8,I x9]=
 (Gk [I U,I X,I Y,I M,I N,I O,I x6,I x7,I x8,I x9]).bind λS=>
 cond (gA S 0==0) (some [.vC kPt [[I M,I N,I O]]]) ((Cm [I M,I N,I O,I U,I X,I Y,jA S 0]).bind λG=>
 (Cm [I M,I N,I O,I x6,I x7,I x8,jA S 0]).bind λL=>
 (G2 [jA G 0,jA G 1,jA G 2,I M,I N,I O,jA L 0,jA L 1,jA L 2]).bind λD=>
 cond (decide (V (gA D 0+1)=V (gA D 0+1))) (cond (decide (0<=V (gA D 0+1))&&decide (V (gA D 0+1)*(↑24:Int)<=140737488355328)) ((N9 [.vC kPt (List.replicate (V (gA D 0+1)).toNat [I 0,I 0,I 0]),jA D 0,I (↑(List.replicate (V (gA D 0+1)).toNat [I 0,I 0,I 0]).length:Int),I 0,I M,I N,I O,jA G 0,jA G 1,jA G 2,jA L 0,jA L 1,jA L 2]).bind λT=>
 cond (T.1.beq 1) (some [.vC kPt (wA T.2 0)]) (none)) (none)) (none)):=by kernel_rfl
def Q3o:=Am (OV Bt KI GQ LQ)
def PD:=Ql6 Bt KI GQ LQ Q3o
theorem Q6s:Aj PG (Qdd Bt KI GQ LQ):=Ao rfl ⟨Ln,Zg9,Q4n,Zq0,trivial⟩
theorem Z6v:Al PG (Zj3 PD):=rw2 (C:=Q83 Bt KI GQ LQ Q3o) (fl fb Q6s) Q6s
def Z2u:=qa 236 Qay Qay
def Qyi:Fn:=An PG C_cncref30_SamePulses_0 64 236 Qay Qay
theorem Zoo (D G L:Int):Qyi [I D,I G,I L]=
 some [I (V (D*16)),I (V (G*16)),I (V (L*16))]:=by kernel_rfl
def Ou:=Qyi
theorem Zlc:Aj PG (C_cncref30_SamePulses_0):=Ao rfl trivial
theorem Zpp:Al PG (Z2u Ou):=rw1 (C:=C_cncref30_SamePulses_0) Zlc
def Qa2:Sk:=⟨[TS.v true (cc 13++[sb,ci,sb]++cc 5++[sb]),TS.v true (cc 13++[sb,ci,sb]++cc 5++[sb])],[],[]⟩
def Qsm:Sk:=⟨[TS.tup [(false,[sa kPt]),(false,[sa kPt])]],[],[]⟩
def Zgq:=qa 188 Qa2 Qsm
def Qgw (D G I:Fn):Cfg:=cf [Zj3 D,Z2u G,Qc7 I]
def Qi4 (D G I:Fn):Fn:=An PG (Qgw D G I) 64 188 Qa2 Qsm
theorem Ycj (Nh Oz BY:Fn) (x0 x1 x2 x3 x4 x5 x6 x7 x8 x9 L M N:Int) (O:Bool) (S:Int) (T:Bool) (U X G Y a0:Int) (a1:Bool) (a2 a3 a4 a5 a6 a7 a8 a9 b0 b1 b2 b3 b4:Int) (b5:Bool) (b6:Int) (b7:Bool) (b8 b9 c0 c1 c2:Int) (c3:Bool):Qi4 Nh Oz BY [I x0,I x1,I x2,I x3,I x4,I x5,I x6,I x7,I x8,I x9,I L,I M,I N,B O,I S,B T,I U,I X,I G,I Y,I a0,B a1,I a2,I a3,I a4,I a5,I a6,I a7,I a8,I a9,I b0,I b1,I b2,I b3,I b4,B b5,I b6,B b7,I b8,I b9,I c0,I c1,I c2,B c3]=
 (BY [I x0,I x1,I x2,I x3,I x4,I x5,I x6,I x7,I x8,I x9,I L,I M,I N,B O,I S,B T,I U,I X,I G,I Y,I a0,B a1]).bind λo4=>
 (Oz [I x5,I x6,I x7]).bind λo5=>
 (BY [I a2,I a3,I a4,I a5,I a6,I a7,I a8,I a9,I b0,I b1,I b2,I b3,I b4,B b5,I b6,B b7,I b8,I b9,I c0,I c1,I c2,B c3]).bind λo6=>
 (Nh [jA o4 0,jA o4 1,jA o4 2,jA o5 0,jA o5 1,jA o5 2,jA o6 0,jA o6 1,jA o6 2,I (V (G*16))]).bind λD=>
 cond (decide (0<=V (V ((V ((↑(wA D 0).length:Int)-1)).tdiv 2)+1))&&decide (V (V ((V ((↑(wA D 0).length:Int)-1)).tdiv 2)+1)<=(↑(wA D 0).length:Int))) (cond (decide (0<=V ((V ((↑(wA D 0).length:Int)-1)).tdiv 2))&&decide (V ((V ((↑(wA D 0).length:Int)-1)).tdiv 2)<=(↑(wA D 0).length:Int))) (some [.vC kPt (List.take (V (V ((V ((↑(wA D 0).length:Int)-1)).tdiv 2)+1)).toNat (wA D 0)), .vC kPt (List.drop (V ((V ((↑(wA D 0).length:Int)-1)).tdiv 2)).toNat (wA D 0))]) (none)) (none):=by kernel_rfl
def Rx:=Qi4 PD Ou F7
theorem Z21:Aj PG (Qgw PD Ou F7):=Ao rfl ⟨Z6v,Zpp,Qsh,trivial⟩
theorem Z5n:Al PG (Zgq Rx):=rw1 (C:=Qgw PD Ou F7) Z21
def Qgo:Sk:=⟨[TS.tup [(false,[ci]),(false,[ci]),(false,[ci]),(false,[sb])]],[],[]⟩
def Qpn:=qa 179 ZM Qgo
def Qux:Fn:=An PG C_cncref30_SamePulses_0 64 179 ZM Qgo
theorem Z48 (D:Int):Qux [I D]=
 cond (D==17) (some [I 0,I 1,I 2,B true]) (cond (D==18) (some [I 2,I 0,I 1,B true]) (cond (D==19) (some [I 1,I 2,I 0,B true]) (some [I 0,I 0,I 0,B false]))):=by kernel_rfl
def Fp:=Qux
theorem Z3w:Aj PG (C_cncref30_SamePulses_0):=Ao rfl trivial
theorem Qqb:Al PG (Qpn Fp):=rw1 (C:=C_cncref30_SamePulses_0) Z3w
def Zh6:=qa 234 XD Qay
def Qhi (D:Fn):Cfg:=cf [Qpn D]
def Qiy (D:Fn):Fn:=An PG (Qhi D) 64 234 XD Qay
abbrev UE (o1:List AC) (M:Int) (D G L:AC):Option (List AC):=
 cond (decide (gA o1 2=(↑0:Int))) (some [I M,D,G]) (cond (decide (gA o1 2=(↑(0+1):Int))) (some [L,I M,G]) (cond (decide (gA o1 2=(↑(0+1+1):Int))) (some [L,D,I M]) (none)))
abbrev SA (o1:List AC) (M N:Int) (D G L:AC):Option (List AC):=
 cond (decide (gA o1 1=(↑0:Int))) (UE o1 M D G (I N)) (cond (decide (gA o1 1=(↑(0+1):Int))) (UE o1 M (I N) G L) (cond (decide (gA o1 1=(↑(0+1+1):Int))) (UE o1 M D (I N) L) (none)))
theorem Zyj (M:Fn) (D G L N:Int):Qiy M [I D,I G,I L,I N]=
 (M [I N]).bind λo1=>
 cond (bA o1 3) (cond (decide (gA o1 0=(↑0:Int))) (SA o1 L G (I 0) (I 0) (I D)) (cond (decide (gA o1 0=(↑(0+1):Int))) (SA o1 L G (I D) (I 0) (I 0)) (cond (decide (gA o1 0=(↑(0+1+1):Int))) (SA o1 L G (I 0) (I D) (I 0)) (none)))) (some [I 0,I 0,I 0]):=by kernel_rfl
def Na:=Qiy Fp
theorem Ycu:Aj PG (Qhi Fp):=Ao rfl ⟨Qqb,trivial⟩
theorem Z6d:Al PG (Zh6 Na):=rw1 (C:=Qhi Fp) Ycu
def Qj5:Sk:=⟨[TS.tup [(false,[ci]),(false,[ci]),(false,[ci])]],[],[]⟩
def Qzb:=qa 173 Qik Qj5
def Wr (D:Fn):Cfg:=cf [Qpn D]
def VG (D:Fn):Fn:=An PG (Wr D) 64 173 Qik Qj5
abbrev SC (o1:List AC) (D:AC) (L M N:Int) (G:AC):Option (List AC):=
 cond (decide (gA o1 2=(↑0:Int))) (some [D,G,I L]) (cond (decide (gA o1 2=(↑(0+1):Int))) (some [D,G,I M]) (cond (decide (gA o1 2=(↑(0+1+1):Int))) (some [D,G,I N]) (none)))
abbrev To (o1:List AC) (G L M:Int) (D:AC):Option (List AC):=
 cond (decide (gA o1 1=(↑0:Int))) (SC o1 D G L M (I G)) (cond (decide (gA o1 1=(↑(0+1):Int))) (SC o1 D G L M (I L)) (cond (decide (gA o1 1=(↑(0+1+1):Int))) (SC o1 D G L M (I M)) (none)))
theorem Ych (M:Fn) (D G L N:Int):VG M [I D,I G,I L,I N]=
 (M [I N]).bind λo1=>
 cond (!bA o1 3) (some [I 0,I 0,I 0]) (cond (decide (gA o1 0=(↑0:Int))) (To o1 D G L (I D)) (cond (decide (gA o1 0=(↑(0+1):Int))) (To o1 D G L (I G)) (cond (decide (gA o1 0=(↑(0+1+1):Int))) (To o1 D G L (I L)) (none)))):=by kernel_rfl
def H8:=VG Fp
theorem Zko:Aj PG (Wr Fp):=Ao rfl ⟨Qqb,trivial⟩
theorem Qw8:Al PG (Qzb H8):=rw1 (C:=Wr Fp) Zko
def Zb7:=qa 231 Qay Qay
def Qu1:Fn:=An PG C_cncref30_SamePulses_0 64 231 Qay Qay
theorem Zot (D G L:Int):Qu1 [I D,I G,I L]=
 some [I (V (D*16)),I (V (G*16)),I (V (L*16))]:=by kernel_rfl
def HA:=Qu1
theorem Z5k:Aj PG (C_cncref30_SamePulses_0):=Ao rfl trivial
theorem Q81:Al PG (Zb7 HA):=rw1 (C:=C_cncref30_SamePulses_0) Z5k
def Qp6:Sk:=⟨[TS.v true [ci,ci,ci,ci],TS.v true [ci,ci,ci,ci]],[],[]⟩
def Qjx:=qa 183 Qp6 ZM
def Qwn:Fn:=An PG C_cncref30_SamePulses_0 64 183 Qp6 ZM
theorem Zox (D G N O L M S T:Int):Qwn [I D,I G,I N,I O,I L,I M,I S,I T]=
 some [I (V (V (D*M)-V (G*L)))]:=by kernel_rfl
def G0:=Qwn
theorem Z0x:Aj PG (C_cncref30_SamePulses_0):=Ao rfl trivial
theorem XC:Al PG (Qjx G0):=rw1 (C:=C_cncref30_SamePulses_0) Z0x
def Qrf:=qa 181 Qp6 ZM
def Qym:Fn:=An PG C_cncref30_SamePulses_0 64 181 Qp6 ZM
theorem Z0g (D G N O L M S T:Int):Qym [I D,I G,I N,I O,I L,I M,I S,I T]=
 some [I (V (V (D*L)+V (G*M)))]:=by kernel_rfl
def Gv:=Qym
theorem Znz:Aj PG (C_cncref30_SamePulses_0):=Ao rfl trivial
theorem Qat:Al PG (Qrf Gv):=rw1 (C:=C_cncref30_SamePulses_0) Znz
def Qnh:Sk:=⟨[TS.v true [ci,ci,ci,ci],TS.v true [ci,ci,ci,ci],tf [ci],tf [sb]],[],[]⟩
def Qes:Sk:=⟨[TS.tup [(true,[ci,ci,ci,ci]),(false,[sb])]],[],[]⟩
def Z9t:=qa 285 Qnh Qes
def Qh6 (Ch D G:Fn):Cfg:=cf [Q6e Ch,Qjx D,Qrf G]
def Qff (Ch D G:Fn):Fn:=An PG (Qh6 Ch D G) 64 285 Qnh Qes
abbrev Qb3 (Ch:Fn) (G:AC) (M N:Int) (D L:AC) (T U:Int):Option (List AC):=
 (Ch [G,I ((V (V (M+N)+1)).fdiv (2^min (Int.toNat 1) IntKind.i64.bits)),D,I 2]).bind λO=>
 (Ch [L,I ((V (V (M+N)+1)).fdiv (2^min (Int.toNat 1) IntKind.i64.bits)),D,I 2]).bind λS=>
 some [jA O 0,jA S 0,I ((V (V (M+N)+1)).fdiv (2^min (Int.toNat 1) IntKind.i64.bits)),I ((V (V (T+U)+1)).fdiv (2^min (Int.toNat 1) IntKind.i64.bits)),B true]
abbrev Rq (Ch:Fn) (O S T U:Int) (M N:Bool) (D G L:AC):Option (List AC):=
 cond (M) (cond (N) (some [I 0,I 0,I 0,I 0,B false]) (Qb3 Ch D O S G L T U)) (Qb3 Ch D O S G L T U)
abbrev Zv (x9:Bool) (Ch:Fn) (O S T U D G:Int) (B8:Fn) (L M N:Int) (CI:Fn):Option (List AC):=
 cond (x9) (Rq Ch O S T U (V (0-D)==0) (V (0-G)==0) (I (V (0-D))) (I (V (V (V (0-D)*V (0-D))+V (V (0-G)*V (0-G))))) (I (V (0-G)))) ((B8 [I D,I G,I O,I T,I L,I M,I S,I U]).bind λX=>
 cond (decide (gA X 0<=0)) (Rq Ch O S T U (V (N*V (M-G))==0) (V (N*V (D-L))==0) (I (V (N*V (M-G)))) (I (V (V (V (N*V (M-G))*V (N*V (M-G)))+V (V (N*V (D-L))*V (N*V (D-L)))))) (I (V (N*V (D-L))))) ((CI [I D,I G,I O,I T,I L,I M,I S,I U]).bind λY=>
 cond (decide (V (gA Y 0*N)<=0)) (Rq Ch O S T U (V (0-V (D+L))==0) (V (0-V (G+M))==0) (I (V (0-V (D+L)))) (I (V (V (V (0-V (D+L))*V (0-V (D+L)))+V (V (0-V (G+M))*V (0-V (G+M)))))) (I (V (0-V (G+M))))) (Rq Ch O S T U (V (D+L)==0) (V (G+M)==0) (I (V (D+L))) (I (V (V (V (D+L)*V (D+L))+V (V (G+M)*V (G+M))))) (I (V (G+M))))))
theorem Zqr (Ch G L:Fn) (M N O S T U V X D:Int) (Y:Bool):Qff Ch G L [I M,I N,I O,I S,I T,I U,I V,I X,I D,B Y]=
 cond (D !=1) (cond (D != -1) (some [I 0,I 0,I 0,I 0,B false]) (Zv Y Ch O V S X M N L T U D G)) (Zv Y Ch O V S X M N L T U D G):=by kernel_rfl
def Mz:=Qff Iy G0 Gv
theorem Z46:Aj PG (Qh6 Iy G0 Gv):=Ao rfl ⟨Qvp,XC,Qat,trivial⟩
theorem Z6q:Al PG (Z9t Mz):=rw1 (C:=Qh6 Iy G0 Gv) Z46
def Zw2:=qa 295 Zo Qjj
def Q5b:Fn:=An PG C_cncref30_SamePulses_0 64 295 Zo Qjj
theorem Z2e (D G:Int):Q5b [I D,I G]=
 some [B (decide (G<=V (V (V (8*D)*4)-64)))]:=by kernel_rfl
def Oc:=Q5b
theorem Zyr:Aj PG (C_cncref30_SamePulses_0):=Ao rfl trivial
theorem Zfr:Al PG (Zw2 Oc):=rw1 (C:=C_cncref30_SamePulses_0) Zyr
def Qe0:Sk:=⟨[tf [sc 20000 0],TS.v true [ci,ci,ci,ci],TS.v true [ci,ci,ci,ci],tf [sb]],[(20000,304,[ci,sd 20000 4])],[(20000,228,[kI,kI,kI,kI])]⟩
def Xg:Sk:=⟨[tf [sb]],[(20000,304,[ci,sd 20000 4])],[(20000,228,[kI,kI,kI,kI])]⟩
def Zm7:=qa 284 Qe0 Xg
def Qr1 (D G:Fn):Cfg:=cf [Zw2 D,Qjx G]
def Qin (D G:Fn):Fn:=An PG (Qr1 D G) 64 284 Qe0 Xg
theorem Zix (U X:Fn) (G:Rw) (L M S Y N O T x8:Int) (x9:Bool) (D:Int):Qin U X [.vC [kI,kI,kI,kI] G,I L,I M,I S,I Y,I N,I O,I T,I x8,B x9,I D]=
 cond (!x9) ((X [I L,I M,I S,I Y,I N,I O,I T,I x8]).bind λo2=>
 cond (decide (V (gA o2 0*D)>0)) ((U [I (mn S T),I (V (V (V (L-N)*V (L-N))+V (V (M-O)*V (M-O))))]).bind λo3=>
 some [.vC [kI,kI,kI,kI] G,B (bA o3 0),I D]) (some [.vC [kI,kI,kI,kI] G,B false,I D])) (some [.vC [kI,kI,kI,kI] G,B false,I D]):=by kernel_rfl
def LB:=Qin Oc G0
theorem Zwz:Aj PG (Qr1 Oc G0):=Ao rfl ⟨Zfr,XC,trivial⟩
theorem Zrm:Al PG (Zm7 LB):=rw1 (C:=Qr1 Oc G0) Zwz
def Qzx:Nat:=20
def L8:Sk:=⟨[tf [sc 20000 0],TS.v true [ci,ci,ci,ci],TS.v true [ci,ci,ci,ci],tf [sb],tf [ci]],[(20000,304,[ci,sd 20000 4])],[(20000,228,[kI,kI,kI,kI])]⟩
def Mw:Sk:=⟨[TS.tup []],[(20000,304,[ci,sd 20000 4])],[(20000,228,[kI,kI,kI,kI])]⟩
def Zem:=qa 260 L8 Mw
def Qpz (D G I:Fn):Cfg:=cp [Zem D,Z9t G,Zm7 I] [260,284]
def UY (D G I:Fn):Fn:=An PG (Qpz D G I) 64 260 L8 Mw
theorem Qtq (Fm NU Oa:Fn) (T:Rw) (U X Y x4 D G L M:Int) (x9:Bool) (N S:Int):UY Fm NU Oa [.vC [kI,kI,kI,kI] T,I U,I X,I Y,I x4,I D,I G,I L,I M,B x9,I N,I S]=
 cond (decide (N<16)) ((Oa [.vC [kI,kI,kI,kI] T,I U,I X,I Y,I x4,I D,I G,I L,I M,B x9,I S]).bind λo4=>
 cond (!bA o4 1) ((NU [I U,I X,I Y,I x4,I D,I G,I L,I M,jA o4 2,B x9]).bind λO=>
 cond (bA O 4) ((Fm [.vC [kI,kI,kI,kI] (wA o4 0),I U,I X,I Y,I x4,jA O 0,jA O 1,jA O 2,jA O 3,B false,I (V (N+1)),jA o4 2]).bind λo6=>
 (Fm [.vC [kI,kI,kI,kI] (wA o6 0),jA O 0,jA O 1,jA O 2,jA O 3,I D,I G,I L,I M,B false,I (V (N+1)),jA o6 1]).bind λo7=>
 some [.vC [kI,kI,kI,kI] (wA o7 0),jA o7 1]) (cond (((wA o4 0++[[I D,I G,I L,I M]]).length*32).ble 140737488355328) (some [.vC [kI,kI,kI,kI] (wA o4 0++[[I D,I G,I L,I M]]),jA o4 2]) (none))) (cond (((wA o4 0++[[I D,I G,I L,I M]]).length*32).ble 140737488355328) (some [.vC [kI,kI,kI,kI] (wA o4 0++[[I D,I G,I L,I M]]),jA o4 2]) (none))) (cond (((T++[[I D,I G,I L,I M]]).length*32).ble 140737488355328) (some [.vC [kI,kI,kI,kI] (T++[[I D,I G,I L,I M]]),I S]) (none)):=by kernel_rfl
def Zd7 (M:Fn):Fn:=UY M Mz LB
def Ot:Nat->Fn
 |0=>λ_=>none
 |n+1=>Zd7 (Ot n)
theorem Z2n {M:Fn} (h:Al PG (260,Ad L8 Mw M)):Aj PG (Qpz M Mz LB):=Ao rfl ⟨h,Z6q,Zrm,trivial⟩
theorem Zi3 {M:Fn} (h:Al PG (260,Ad L8 Mw M)):Al PG (260,Ad L8 Mw (Zd7 M)):=Qpy (C:=Qpz M Mz LB) (L:=64) (by kernel_rfl) (FnOK.bare rfl rfl rfl) (Z2n h) eqOk Gn (by kernel_rfl) (by kernel_rfl)
theorem Zbp:∀n,Al PG (260,Ad L8 Mw (Ot n))
 |0=>Z9z
 |n+1=>Zi3 (Zbp n)
def SU:=Ot Qzx
theorem Zzu:Al PG (Zem SU):=Zbp Qzx
def Qem:Sk:=⟨[TS.tup [(true,[ci,ci,ci,ci]),(true,[ci,ci,ci,ci])]],[],[]⟩
def Q8c:=qa 180 Qft Qem
def Qar (D G:Fn):Cfg:=cf [Qzb D,Zb7 G]
def Q3a:Sk:=⟨[td,tf [sc 1 0],tf [sc 2 0],tf [sc 3 0],tf [sc 4 0],tf [ci],tf [ci]]++dd 20++[TS.v true (cc 6),tf [ci]]++dd 27,[(1,31,cc 13++[sb,ci,sb]++cc 5++[sb]),(2,228,[ci,ci,ci,ci]),(3,228,[ci,ci,ci,ci]),(4,277,cc 8)],[]⟩
def Q0y:List (Ex×Sk):=[(Ex.exit 0,⟨[td,td,tf [sc 2 0],tf [sc 3 0],tf [sc 4 0]]++dd 51,[(2,228,[ci,ci,ci,ci]),(3,228,[ci,ci,ci,ci]),(4,277,cc 8)],[]⟩)]
def Qrl (D G:Fn):Lp:=AL PG (Qar D G) 64 4 (AK PG 180 4) Q3a Q0y
def Qwk (D G:Fn) (I:Lp):Cfg:=(Qar D G).loop 4 Q3a Q0y I
def YK (D G:Fn) (I:Lp):Fn:=An PG (Qwk D G I) 64 180 Qft Qem
abbrev Qi5 (BS B3:Fn) (G v8 v0 v1 v2 v3 v4 v5 v6 v7 v9 v10 v11 v12 L M N O S T v20 v21:Int) (v22:Bool) (U:Int) (v24:Bool) (v25 X v27 v28 Y:Int) (v30:Bool) (v31 a0 v33 a1 v35 v36 v37 v38 a5 v44 a6 v46 a7 v40 a8 v42:Int) (a2 a3 a4:AC):Option (Nat×List AC):=
 (BS [a2,a3,a4]).bind λo9=>
 (B3 [jA o9 0,jA o9 1,jA o9 2,I G]).bind λD=>
 cond (decide (v8=(↑0:Int))) (some (0,[I v0,I v1,I v2,I v3,I v4,I v5,I v6,I v7,I (V (v8+1)),I v9,I v10,I v11,I v12,I L,I M,I N,I O,I G,I S,I T,I v20,I v21,B v22,I U,B v24,I v25,I X,I v27,I v28,I Y,B v30,I v31,I a0,I v33,I a1,I v35,I v36,I v37,I v38,I (V (gA D 0-v0)),I (V (gA D 1-v1)),I 0,jA D 2,I a5,I v44,I a6,I v46])) (cond (decide (v8=(↑(0+1):Int))) (some (0,[I v0,I v1,I v2,I v3,I v4,I v5,I v6,I v7,I (V (v8+1)),I v9,I v10,I v11,I v12,I L,I M,I N,I O,I G,I S,I T,I v20,I v21,B v22,I U,B v24,I v25,I X,I v27,I v28,I Y,B v30,I v31,I a0,I v33,I a1,I v35,I v36,I v37,I v38,I a7,I v40,I a8,I v42,I (V (gA D 0-v0)),I (V (gA D 1-v1)),I 0,jA D 2])) (none))
theorem Qps (B3 BS:Fn) (v0 v1 v2 v3 v4 v5 v6 v7 v8 v9 v10 v11 v12 S T U V X Y a0 v20 v21:Int) (v22:Bool) (a1:Int) (v24:Bool) (v25 a2 v27 v28 a3:Int) (v30:Bool) (v31 D v33 G v35 v36 v37 v38 L v40 M v42 N v44 O v46:Int):Qrl B3 BS [I v0,I v1,I v2,I v3,I v4,I v5,I v6,I v7,I v8,I v9,I v10,I v11,I v12,I S,I T,I U,I V,I X,I Y,I a0,I v20,I v21,B v22,I a1,B v24,I v25,I a2,I v27,I v28,I a3,B v30,I v31,I D,I v33,I G,I v35,I v36,I v37,I v38,I L,I v40,I M,I v42,I N,I v44,I O,I v46]=
 cond (decide (v8<2)) (cond (decide (v8=(↑0:Int))) (Qi5 BS B3 X v8 v0 v1 v2 v3 v4 v5 v6 v7 v9 v10 v11 v12 S T U V Y a0 v20 v21 v22 a1 v24 v25 a2 v27 v28 a3 v30 v31 D v33 G v35 v36 v37 v38 N v44 O v46 L v40 M v42 (I v2) (I v3) (I v4)) (cond (decide (v8=(↑(0+1):Int))) (Qi5 BS B3 X v8 v0 v1 v2 v3 v4 v5 v6 v7 v9 v10 v11 v12 S T U V Y a0 v20 v21 v22 a1 v24 v25 a2 v27 v28 a3 v30 v31 D v33 G v35 v36 v37 v38 N v44 O v46 L v40 M v42 (I v5) (I v6) (I v7)) (none))) (some (1,[I v31,I D,I v33,I G,I v35,I v36,I v37,I v38,I L,I v40,I M,I v42,I N,I v44,I O,I v46])):=by kernel_rfl
theorem Zyw (B3 BS:Fn) (N4:Lp) (x0 x1 x2 x3 x4 x5 x6 x7 x8 x9 G L N:Int) (O:Bool) (S:Int) (T:Bool) (U V X Y a0:Int) (a1:Bool):YK B3 BS N4 [I x0,I x1,I x2,I x3,I x4,I x5,I x6,I x7,I x8,I x9,I G,I L,I N,B O,I S,B T,I U,I V,I X,I Y,I a0,B a1]=
 (BS [I x9,I G,I L]).bind λM=>
 (B3 [jA M 0,jA M 1,jA M 2,I x8]).bind λa2=>
 (N4 [jA a2 0,jA a2 1,I x2,I x3,I x4,I x5,I x6,I x7,I 0,I x0,I x1,I x2,I x3,I x4,I x5,I x6,I x7,I x8,I x9,I G,I L,I N,B O,I S,B T,I U,I V,I X,I Y,I a0,B a1,I 0,I 0,I 0,I 0,I 0,I 0,I 0,I 0,I 0,I 0,I 0,I 0,I 0,I 0,I 0,I 0]).bind λD=>
 cond (D.1.beq 1) (some [jA D.2 8,jA D.2 9,jA D.2 10,jA D.2 11,jA D.2 12,jA D.2 13,jA D.2 14,jA D.2 15]) (none):=by kernel_rfl
def Zdv:=Am (Qrl H8 HA)
def KR:=YK H8 HA Zdv
theorem Q6x:Aj PG (Qar H8 HA):=Ao rfl ⟨Qw8,Q81,trivial⟩
theorem Q7q:Al PG (Q8c KR):=rw2 (C:=Qwk H8 HA Zdv) (fl fb Q6x) Q6x
def Yaw:=qa 186 XD ZM
def Qlj (D G I L:Fn):Cfg:=cf [Qsx D,Up G,Qcl I,XH L]
def Qp4 (D G I L:Fn):Fn:=An PG (Qlj D G I L) 64 186 XD ZM
theorem Ze3 (DW N D O:Fn) (S T X Y:Int):Qp4 DW N D O [I S,I T,I X,I Y]=
 (O [I S,I T]).bind λo9=>
 (O [I X,I Y]).bind λG=>
 cond (gA o9 0 !=gA G 0) (cond (decide (gA o9 0<gA G 0)) (some [I (-1)]) (some [I 1])) ((D [I S]).bind λa0=>
 (D [I T]).bind λa1=>
 (N [U (gA a0 0),U (gA a1 0)]).bind λL=>
 (D [I X]).bind λa2=>
 (D [I Y]).bind λa3=>
 (N [U (gA a2 0),U (gA a3 0)]).bind λM=>
 (DW [U (gA L 0),U (gA L 1),U (gA M 0),U (gA M 1)]).bind λa4=>
 some [I (V (gA o9 0*gA a4 0))]):=by kernel_rfl
def O7:=Qp4 Ic Et Gc FO
theorem Z7t:Aj PG (Qlj Ic Et Gc FO):=Ao rfl ⟨Q0c,U9,We,Qed,trivial⟩
theorem Zul:Al PG (Yaw O7):=rw1 (C:=Qlj Ic Et Gc FO) Z7t
def Z12:=qa 182 Zo Qjj
def YS (D:Fn):Cfg:=cf [Yaw D]
def YA (D:Fn):Fn:=An PG (YS D) 64 182 Zo Qjj
theorem Zs2 (L:Fn) (D G:Int):YA L [I D,I G]=
 cond (decide (V (V (mx D G-mn D G)-16)<=0)) (some [B true]) ((L [I (V (V (mx D G-mn D G)-16)),I (V (V (mx D G-mn D G)-16)),I 64,I (mn D G)]).bind λo1=>
 some [B (decide (gA o1 0<=0))]):=by kernel_rfl
def Qk:=YA O7
theorem Zkn:Aj PG (YS O7):=Ao rfl ⟨Zul,trivial⟩
theorem Ydx:Al PG (Z12 Qk):=rw1 (C:=YS O7) Zkn
def Zoy:=qa 178 Qay Qjj
def Zd1:Fn:=An PG Qdr 64 178 Qay Qjj
theorem Zql (D G L:Int):Zd1 [I D,I G,I L]=
 cond (decide (D< -1048576)) (some [B false]) (cond (decide (D>1048576)) (some [B false]) (cond (decide (G< -1048576)) (some [B false]) (cond (decide (G>1048576)) (some [B false]) (cond (decide (L< -1048576)) (some [B false]) (cond (decide (L>1048576)) (some [B false]) (some [B true])))))):=by kernel_rfl
def NJ:=Zd1
theorem Zjc:Aj PG (Qdr):=Ao rfl trivial
theorem Zuf:Al PG (Zoy NJ):=rw1 (C:=Qdr) Zjc
def Qbx:=qa 132 Qft Qjj
def XI (D G I L M N:Fn):Cfg:=cf [Qjx D,Z12 G,Qrf I,Q8c L,Qpn M,Zoy N]
def Qpo (D G I L M N:Fn):Fn:=An PG (XI D G I L M N) 64 132 Qft Qjj
abbrev Qhw (HO:Fn) (x9 G L:Int) (EP:Fn) (x0 x1 x2 x3 x4 x5 x6 x7 x8 S:Int) (M:Bool) (T:Int) (U:Bool) (X Y a0 a1 a2:Int) (a3:Bool) (B8 JT CI:Fn):Option (List AC):=
 (HO [I x9,I G,I L]).bind λa4=>
 cond (!bA a4 0) (some [B false]) ((EP [I x0,I x1,I x2,I x3,I x4,I x5,I x6,I x7,I x8,I x9,I G,I L,I S,B M,I T,B U,I X,I Y,I a0,I a1,I a2,B a3]).bind λD=>
 (B8 [jA D 0,jA D 1,jA D 2,jA D 3,jA D 0,jA D 1,jA D 2,jA D 3]).bind λN=>
 (B8 [jA D 4,jA D 5,jA D 6,jA D 7,jA D 4,jA D 5,jA D 6,jA D 7]).bind λO=>
 cond (decide (gA N 0<V (128*128))) (some [B false]) (cond (decide (gA O 0<V (128*128))) (some [B false]) ((JT [I (V ((gA N 0).tdiv 256)),I (V ((gA O 0).tdiv 256))]).bind λa5=>
 cond (!bA a5 0) (some [B false]) (cond (M) (cond (gA D 0==gA D 4) (some [B (gA D 1==gA D 5)]) (some [B false])) ((CI [jA D 0,jA D 1,jA D 2,jA D 3,jA D 4,jA D 5,jA D 6,jA D 7]).bind λa6=>
 cond (gA a6 0 !=0) (some [B true]) ((B8 [jA D 0,jA D 1,jA D 2,jA D 3,jA D 4,jA D 5,jA D 6,jA D 7]).bind λa7=>
 some [B (decide (gA a7 0<0))]))))))
theorem Zzi (CI JT B8 EP DS HO:Fn) (x0 x1 x2 x3 x4 x5 x6 x7 x8 x9 G L D:Int) (M:Bool) (N:Int) (O:Bool) (S T U V X:Int) (Y:Bool):Qpo CI JT B8 EP DS HO [I x0,I x1,I x2,I x3,I x4,I x5,I x6,I x7,I x8,I x9,I G,I L,I D,B M,I N,B O,I S,I T,I U,I V,I X,B Y]=
 cond (decide (x0<1)) (some [B false]) (cond (decide (x0>6)) (some [B false]) ((HO [I x2,I x3,I x4]).bind λa0=>
 cond (!bA a0 0) (some [B false]) ((HO [I x5,I x6,I x7]).bind λa1=>
 cond (!bA a1 0) (some [B false]) (cond (x0 !=3) (some [B true]) ((DS [I x8]).bind λa2=>
 cond (!bA a2 3) (some [B false]) (cond (D !=1) (cond (D != -1) (some [B false]) (Qhw HO x9 G L EP x0 x1 x2 x3 x4 x5 x6 x7 x8 D M N O S T U V X Y B8 JT CI)) (Qhw HO x9 G L EP x0 x1 x2 x3 x4 x5 x6 x7 x8 D M N O S T U V X Y B8 JT CI))))))):=by kernel_rfl
def GI:=Qpo G0 Qk Gv KR Fp NJ
theorem Zhi:Aj PG (XI G0 Qk Gv KR Fp NJ):=Ao rfl ⟨XC,Ydx,Qat,Q7q,Qqb,Zuf,trivial⟩
theorem Qax:Al PG (Qbx GI):=rw1 (C:=XI G0 Qk Gv KR Fp NJ) Zhi
def Qk8:Sk:=⟨[TS.tup [(false,[sa [kI,kI,kI,kI]]),(false,[sb])]],[],[]⟩
def Zrg:=qa 233 Qft Qk8
def Wl (D G I L M:Fn):Cfg:={cp [Zem D,Qv6 G,Qrf I,Q8c L,Qbx M] [260]with rowDst:=[39]}
def Qot (D G I L M:Fn):Fn:=An PG (Wl D G I L M) 64 233 Qft Qk8
theorem Z4k (Fm Fy B8 EP Cw:Fn) (x0 x1 x2 x3 x4 x5 x6 x7 x8 x9 L M D:Int) (G:Bool) (N:Int) (O:Bool) (S T U V X:Int) (Y:Bool):Qot Fm Fy B8 EP Cw [I x0,I x1,I x2,I x3,I x4,I x5,I x6,I x7,I x8,I x9,I L,I M,I D,B G,I N,B O,I S,I T,I U,I V,I X,B Y]=
 cond (x0 !=3) (some [.vC [kI,kI,kI,kI] [],B false]) ((Cw [I x0,I x1,I x2,I x3,I x4,I x5,I x6,I x7,I x8,I x9,I L,I M,I D,B G,I N,B O,I S,I T,I U,I V,I X,B Y]).bind λo7=>
 cond (!bA o7 0) (some [.vC [kI,kI,kI,kI] [],B false]) ((EP [I x0,I x1,I x2,I x3,I x4,I x5,I x6,I x7,I x8,I x9,I L,I M,I D,B G,I N,B O,I S,I T,I U,I V,I X,B Y]).bind λo8=>
 (B8 [jA o8 0,jA o8 1,jA o8 2,jA o8 3,jA o8 0,jA o8 1,jA o8 2,jA o8 3]).bind λo9=>
 (Fy [jA o9 0,I 2]).bind λa0=>
 (B8 [jA o8 4,jA o8 5,jA o8 6,jA o8 7,jA o8 4,jA o8 5,jA o8 6,jA o8 7]).bind λa1=>
 (Fy [jA a1 0,I 2]).bind λa2=>
 (Fm [.vC [kI,kI,kI,kI] [[jA o8 0,jA o8 1,jA a0 0,jA o8 3]],jA o8 0,jA o8 1,jA a0 0,jA o8 3,jA o8 4,jA o8 5,jA a2 0,jA o8 7,B G,I 0,I D]).bind λa3=>
 some [.vC [kI,kI,kI,kI] (wA a3 0),B true])):=by kernel_rfl
def O2:=Qot SU IV Gv KR GI
theorem Z9h:Aj PG (Wl SU IV Gv KR GI):=Ao rfl ⟨Zzu,Qys,Qat,Q7q,Qax,trivial⟩
theorem Zmf:Al PG (Zrg O2):=rw1 (C:=Wl SU IV Gv KR GI) Z9h
def Qgm:Sk:=⟨[TS.tup [(false,[sa kPt]),(false,[sb])]],[],[]⟩
def Zrb:=qa 187 Qft Qgm
def Qdq (D G I L M:Fn):Cfg:=cf [Zh6 D,Qzb G,Zb7 I,Zrg L,Qbx M]
def Q1k:Sk:=⟨[td,tf [sc 1 0],td,td,td,td,tf [ci],tf [ci],td,tf [sd 41 3]]++dd 32++[tf [sa [kI,kI,kI,kI]],tf [ci],tf [ci]]++dd 22,[(1,31,cc 13++[sb,ci,sb]++cc 5++[sb])],[(41,42,kPt)]⟩
def Zbb:List (Ex×Sk):=[(Ex.exit 0,⟨dd 9++[tf [sd 41 3]]++dd 57,[],[(41,42,kPt)]⟩)]
def Oi (D G I L M:Fn):Lp:=AL PG (Qdq D G I L M) 64 9 (AK PG 187 9) Q1k Zbb
def Zej (D G I L M:Fn) (N:Lp):Cfg:=(Qdq D G I L M).loop 9 Q1k Zbb N
def UI (D G I L M:Fn) (N:Lp):Fn:=An PG (Zej D G I L M N) 64 187 Qft Qgm
theorem Q26 (Hp B3 BS Gl Cw:Fn) (v0:Rw) (v1 v2:Int) (M:Rw) (v4 D v6 v7 v8 v9 v10 v11 v12 N G O S T U:Int) (X:Bool) (v20:Int) (v21:Bool) (v22 Y v24 v25 a0:Int) (v27:Bool):Oi Hp B3 BS Gl Cw [.vC kPt v0,I v1,I v2, .vC [kI,kI,kI,kI] M,I v4,I D,I v6,I v7,I v8,I v9,I v10,I v11,I v12,I N,I G,I O,I S,I T,I U,B X,I v20,B v21,I v22,I Y,I v24,I v25,I a0,B v27]=
 cond (decide (D<v4)) (cond (decide (0<=D)&&decide (D<(M.length:Int))) ((Hp [I (V (v1+gA (nth [] M D.toNat) 0)),I (V (v2+gA (nth [] M D.toNat) 1)),jA (nth [] M D.toNat) 3,I G]).bind λL=>
 cond (decide (0<=D)&&decide (D<(v0.length:Int))) (some (0,[.vC kPt (v0.set D.toNat [jA L 0,jA L 1,jA L 2]),I v1,I v2, .vC [kI,kI,kI,kI] M,I v4,I (V (D+1)),I v6,I v7,I v8,I v9,I v10,I v11,I v12,I N,I G,I O,I S,I T,I U,B X,I v20,B v21,I v22,I Y,I v24,I v25,I a0,B v27])) (none)) (none)) (some (1,[.vC kPt v0])):=by kernel_rfl
theorem Wg (Hp B3 BS Gl Cw:Fn) (N9:Lp) (x0 x1 x2 x3 x4 x5 x6 x7 x8 x9 G L M:Int) (N:Bool) (O:Int) (S:Bool) (T U V X Y:Int) (a0:Bool):UI Hp B3 BS Gl Cw N9 [I x0,I x1,I x2,I x3,I x4,I x5,I x6,I x7,I x8,I x9,I G,I L,I M,B N,I O,B S,I T,I U,I V,I X,I Y,B a0]=
 (Cw [I x0,I x1,I x2,I x3,I x4,I x5,I x6,I x7,I x8,I x9,I G,I L,I M,B N,I O,B S,I T,I U,I V,I X,I Y,B a0]).bind λa6=>
 cond (!bA a6 0) (some [.vC kPt [],B false]) ((Gl [I x0,I x1,I x2,I x3,I x4,I x5,I x6,I x7,I x8,I x9,I G,I L,I M,B N,I O,B S,I T,I U,I V,I X,I Y,B a0]).bind λD=>
 cond (!bA D 1) ((BS [I x2,I x3,I x4]).bind λa1=>
 (BS [I x5,I x6,I x7]).bind λa2=>
 some [.vC kPt [[jA a1 0,jA a1 1,jA a1 2],[jA a2 0,jA a2 1,jA a2 2]],B true]) ((BS [I x9,I G,I L]).bind λa3=>
 (B3 [jA a3 0,jA a3 1,jA a3 2,I x8]).bind λa4=>
 cond (decide ((↑(wA D 0).length:Int)=(↑(wA D 0).length:Int))) (cond (decide (0<=(↑(wA D 0).length:Int))&&decide ((↑(wA D 0).length:Int)*(↑24:Int)<=140737488355328)) ((N9 [.vC kPt (List.replicate (↑(wA D 0).length:Int).toNat [I 0,I 0,I 0]),jA a4 0,jA a4 1, .vC [kI,kI,kI,kI] (wA D 0),I (↑(wA D 0).length:Int),I 0,I x0,I x1,I x2,I x3,I x4,I x5,I x6,I x7,I x8,I x9,I G,I L,I M,B N,I O,B S,I T,I U,I V,I X,I Y,B a0]).bind λa5=>
 cond (a5.1.beq 1) (some [.vC kPt (wA a5.2 0),B true]) (none)) (none)) (none))):=by kernel_rfl
def Zdp:=Am (Oi Na H8 HA O2 GI)
def P1:=UI Na H8 HA O2 GI Zdp
theorem Qyg:Aj PG (Qdq Na H8 HA O2 GI):=Ao rfl ⟨Z6d,Qw8,Q81,Zmf,Qax,trivial⟩
theorem Zla:Al PG (Zrb P1):=rw2 (C:=Zej Na H8 HA O2 GI Zdp) (fl fb Qyg) Qyg
def Qnx:Sk:=⟨[tf [sa Ai],tf [ci],tf [ci]],[],[]⟩
def Zkf:=qa 141 Qnx Qaz
def Qbs (D G I L M N:Fn):Cfg:=cf [Qc7 D,Qmt G,Q32 I,Zgq L,Vj M,Zrb N]
def W2 (D G I L M N:Fn):Fn:=An PG (Qbs D G I L M N) 64 141 Qnx Qaz
theorem Zn0 (Y Br BW K8 Bo NT:Fn) (G:Rw) (T x2:Int):W2 Y Br BW K8 Bo NT [.vC Ai G,I T,I x2]=
 cond (decide (0<=T)&&decide (T<(G.length:Int))) ((NT (AM Ai (nth [] G T.toNat))).bind λD=>
 (Bo (AM Ai (nth [] G T.toNat))).bind λa2=>
 cond (!bA a2 0) (some [.vC kPt (wA D 0)]) (cond (decide (0<=1)&&decide (1<=(↑(wA D 0).length:Int))) (cond (decide (0<=V ((↑(wA D 0).length:Int)-1))&&decide (V ((↑(wA D 0).length:Int)-1)<=(↑(wA D 0).length:Int))) (cond (decide (x2>=0)) (cond (decide (0<=x2)&&decide (x2<(G.length:Int))) ((K8 (AM Ai (nth [] G x2.toNat)++AM Ai (nth [] G T.toNat))).bind λS=>
 (BW [.vC Ai G,I T]).bind λa3=>
 cond (bA a3 0) ((Br [.vC Ai G,I T]).bind λU=>
 cond (decide (0<=gA U 0)&&decide (gA U 0<(G.length:Int))) ((K8 (AM Ai (nth [] G T.toNat)++AM Ai (nth [] G (gA U 0).toNat))).bind λa0=>
 cond ((([]++wA S 1).length*24).ble 140737488355328) ((Y (AM Ai (nth [] G T.toNat))).bind λL=>
 cond ((([]++wA S 1++[[jA L 0,jA L 1,jA L 2]]).length*24).ble 140737488355328) (cond ((([]++wA S 1++[[jA L 0,jA L 1,jA L 2]]++wA a0 0).length*24).ble 140737488355328) (some [.vC kPt ([]++wA S 1++[[jA L 0,jA L 1,jA L 2]]++wA a0 0)]) (none)) (none)) (none)) (none)) (cond ((([]++wA S 1).length*24).ble 140737488355328) ((Y (AM Ai (nth [] G T.toNat))).bind λM=>
 cond ((([]++wA S 1++[[jA M 0,jA M 1,jA M 2]]).length*24).ble 140737488355328) (cond ((([]++wA S 1++[[jA M 0,jA M 1,jA M 2]]++List.drop (V ((↑(wA D 0).length:Int)-1)).toNat (wA D 0)).length*24).ble 140737488355328) (some [.vC kPt ([]++wA S 1++[[jA M 0,jA M 1,jA M 2]]++List.drop (V ((↑(wA D 0).length:Int)-1)).toNat (wA D 0))]) (none)) (none)) (none))) (none)) ((BW [.vC Ai G,I T]).bind λa4=>
 cond (bA a4 0) ((Br [.vC Ai G,I T]).bind λX=>
 cond (decide (0<=gA X 0)&&decide (gA X 0<(G.length:Int))) ((K8 (AM Ai (nth [] G T.toNat)++AM Ai (nth [] G (gA X 0).toNat))).bind λa1=>
 cond ((([]++List.take (Int.toNat 1) (wA D 0)).length*24).ble 140737488355328) ((Y (AM Ai (nth [] G T.toNat))).bind λN=>
 cond ((([]++List.take (Int.toNat 1) (wA D 0)++[[jA N 0,jA N 1,jA N 2]]).length*24).ble 140737488355328) (cond ((([]++List.take (Int.toNat 1) (wA D 0)++[[jA N 0,jA N 1,jA N 2]]++wA a1 0).length*24).ble 140737488355328) (some [.vC kPt ([]++List.take (Int.toNat 1) (wA D 0)++[[jA N 0,jA N 1,jA N 2]]++wA a1 0)]) (none)) (none)) (none)) (none)) (cond ((([]++List.take (Int.toNat 1) (wA D 0)).length*24).ble 140737488355328) ((Y (AM Ai (nth [] G T.toNat))).bind λO=>
 cond ((([]++List.take (Int.toNat 1) (wA D 0)++[[jA O 0,jA O 1,jA O 2]]).length*24).ble 140737488355328) (cond ((([]++List.take (Int.toNat 1) (wA D 0)++[[jA O 0,jA O 1,jA O 2]]++List.drop (V ((↑(wA D 0).length:Int)-1)).toNat (wA D 0)).length*24).ble 140737488355328) (some [.vC kPt ([]++List.take (Int.toNat 1) (wA D 0)++[[jA O 0,jA O 1,jA O 2]]++List.drop (V ((↑(wA D 0).length:Int)-1)).toNat (wA D 0))]) (none)) (none)) (none)))) (none)) (none))) (none):=by kernel_rfl
def Nf:=W2 F7 Fa Hk Rx EM P1
theorem Z2c:Aj PG (Qbs F7 Fa Hk Rx EM P1):=Ao rfl ⟨Qsh,Qno,Qxr,Z5n,Tn,Zla,trivial⟩
theorem Z9l:Al PG (Zkf Nf):=rw1 (C:=Qbs F7 Fa Hk Rx EM P1) Z2c
def Qfa:Sk:=⟨[TS.v true (cc 13++[sb,ci,sb]++cc 5++[sb]),tf [ci]],[],[]⟩
def Zns:=qa 139 Qfa ZM
def Z5 (D:Fn):Cfg:=cf [Mn D]
def V9 (D:Fn):Fn:=An PG (Z5 D) 64 139 Qfa ZM
theorem Qzr (AH:Fn) (x0 x1 x2 x3 x4 x5 x6 x7 x8 x9 M N O:Int) (S:Bool) (D:Int) (G:Bool) (T U X Y a0:Int) (a1:Bool) (L:Int):V9 AH [I x0,I x1,I x2,I x3,I x4,I x5,I x6,I x7,I x8,I x9,I M,I N,I O,B S,I D,B G,I T,I U,I X,I Y,I a0,B a1,I L]=
 cond (x0==1) (some [I 0]) (cond (G) ((AH [I (mn (V (D*mx L 1)) 60000000),I 4096,I 60000,I 2]).bind λo2=>
 some [I (mx (gA o2 0) 1)]) ((AH [I (mn D 60000000),I 4096,I 60000,I 2]).bind λo3=>
 some [I (mx (gA o3 0) 1)])):=by kernel_rfl
def JX:=V9 Bt
theorem Zus:Aj PG (Z5 Bt):=Ao rfl ⟨Ln,trivial⟩
theorem Ybh:Al PG (Zns JX):=rw1 (C:=Z5 Bt) Zus
def Qle:Sk:=⟨[tf [sc 20000 0],tf [sa Ai],tf [ci],tf [ci]],[(20000,102,[ci,ci,ci,sd 20000 7,sd 20001 3,sb,ci,ci,ci])],[(20000,111,Ag),(20001,130,kPt)]⟩
def Qd9:Sk:=⟨[tf [sb]],[(20000,102,[ci,ci,ci,sd 20000 7,sd 20001 3,sb,ci,ci,ci])],[(20000,111,Ag),(20001,130,kPt)]⟩
def Yar:=qa 91 Qle Qd9
def Qbu (D G I L M N:Fn):Cfg:=cp [Qc7 D,Vj G,Z97 I,Zkf L,Qwu M,Zns N] [142]
def Q8v:Sk:=⟨[tf [sc 20000 0]]++dd 8++[tf [sc 9 0],tf [sc 10 0]]++dd 24++[tf [sa kPt],tf [ci],tf [ci]]++dd 30,[(9,31,cc 13++[sb,ci,sb]++cc 5++[sb]),(10,111,cc 7),(20000,102,[ci,ci,ci,sd 20000 7,sd 20001 3,sb,ci,ci,ci])],[(20000,111,Ag),(20001,130,kPt)]⟩
def Q1o:List (Ex×Sk):=[(Ex.exit 0,⟨[tf [sc 20000 0]]++dd 67,[(20000,102,[ci,ci,ci,sd 20000 7,sd 20001 3,sb,ci,ci,ci])],[(20000,111,Ag),(20001,130,kPt)]⟩)]
def Mf (D G I L M N:Fn):Lp:=AL PG (Qbu D G I L M N) 64 6 (AK PG 91 6) Q8v Q1o
def Qv4 (D G I L M N:Fn) (O:Lp):Cfg:=(Qbu D G I L M N).loop 6 Q8v Q1o O
def Qme (D G I L M N:Fn) (O:Lp):Fn:=An PG (Qv4 D G I L M N O) 64 91 Qle Qd9
theorem Zef (BY Bo Ha E5 CD Hi:Fn) (v0 v1 v2:Rw) (v3 G v5 v6 v7 v8 v9 v10 v11 v12 L M N O S:Int) (T:Bool) (U:Int) (v20:Bool) (v21 v22 X v24 v25:Int) (Y:Bool) (v27 v28 a0 v30 v31 a1 v33 a2 v35 v36:Int) (v37:Bool) (v38 a3 v40:Int):Mf BY Bo Ha E5 CD Hi [.vC Ag v0, .vC kPt v1, .vC kPt v2,I v3,I G,I v5,I v6,I v7,I v8,I v9,I v10,I v11,I v12,I L,I M,I N,I O,I S,B T,I U,B v20,I v21,I v22,I X,I v24,I v25,B Y,I v27,I v28,I a0,I v30,I v31,I a1,I v33,I a2,I v35,I v36,B v37,I v38,I a3,I v40]=
 cond (decide (G<v3)) (cond (decide (0<=G)&&decide (G<(v2.length:Int))) ((Ha [.vC Ag v0, .vC kPt v1,jA (nth [] v2 G.toNat) 0,jA (nth [] v2 G.toNat) 1,jA (nth [] v2 G.toNat) 2,I v27,I v28,I a0,I v30,I v31,I a1,I v33,I a2,I v35,I v36,B v37,I v38,I a3,I v40]).bind λD=>
 (Bo [I v5,I v6,I v7,I v8,I v9,I v10,I v11,I v12,I L,I M,I N,I O,I S,B T,I U,B v20,I v21,I v22,I X,I v24,I v25,B Y]).bind λa5=>
 cond (bA a5 0) ((BY [I v5,I v6,I v7,I v8,I v9,I v10,I v11,I v12,I L,I M,I N,I O,I S,B T,I U,B v20,I v21,I v22,I X,I v24,I v25,B Y]).bind λa4=>
 cond (gA (nth [] v2 G.toNat) 0==gA a4 0&&(gA (nth [] v2 G.toNat) 1==gA a4 1&&(gA (nth [] v2 G.toNat) 2==gA a4 2&&true))) (some (0,[.vC Ag (wA D 0), .vC kPt (wA D 1), .vC kPt v2,I v3,I (V (G+1)),I v5,I v6,I v7,I v8,I v9,I v10,I v11,I v12,I L,I M,I N,I O,I S,B T,I U,B v20,I v21,I v22,I X,I v24,I v25,B Y,I v27,I v28,I a0,I v30,I v31,I a1,I v33,jA D 2,jA D 3,jA D 4,B (bA D 5),jA D 6,jA D 7,jA D 6])) (some (0,[.vC Ag (wA D 0), .vC kPt (wA D 1), .vC kPt v2,I v3,I (V (G+1)),I v5,I v6,I v7,I v8,I v9,I v10,I v11,I v12,I L,I M,I N,I O,I S,B T,I U,B v20,I v21,I v22,I X,I v24,I v25,B Y,I v27,I v28,I a0,I v30,I v31,I a1,I v33,jA D 2,jA D 3,jA D 4,B (bA D 5),jA D 6,jA D 7,jA D 8]))) (some (0,[.vC Ag (wA D 0), .vC kPt (wA D 1), .vC kPt v2,I v3,I (V (G+1)),I v5,I v6,I v7,I v8,I v9,I v10,I v11,I v12,I L,I M,I N,I O,I S,B T,I U,B v20,I v21,I v22,I X,I v24,I v25,B Y,I v27,I v28,I a0,I v30,I v31,I a1,I v33,jA D 2,jA D 3,jA D 4,B (bA D 5),jA D 6,jA D 7,jA D 8]))) (none)) (some (1,[.vC Ag v0, .vC kPt v1,I a2,I v35,I v36,B v37,I v38,I a3,I v40])):=by kernel_rfl
abbrev Qev (U:Fn) (T:Rw) (M V:Int) (X:Lp) (Y x1:Rw) (N:List AC) (x5 x6 x7:Int) (x8:Bool) (x9 O S:Int) (G:AC):Option (List AC):=
 (U [.vC Ai T,I M,I V]).bind λL=>
 (X (.vC Ag Y:: .vC kPt x1:: .vC kPt (wA L 0)::I (↑(wA L 0).length:Int)::I 0::(AM Ai (nth [] T M.toNat)++[I 0,I 0,I 0,I 0,I M,jA N 0,G,I x5,I x6,I x7,B x8,I x9,I O,I S]))).bind λD=>
 cond (D.1.beq 1) (some [.vC Ag (wA D.2 0), .vC kPt (wA D.2 1),B (decide ((↑(wA D.2 0).length:Int)<=1048576)),jA D.2 2,jA D.2 3,jA D.2 4,B (bA D.2 5),jA D.2 6,jA D.2 7,jA D.2 8]) (none)
theorem Ydm (BY Bo Ha O CD Hi:Fn) (S:Lp) (T U L:Rw) (G X Y x6 x7:Int) (x8:Bool) (x9 D M:Int):Qme BY Bo Ha O CD Hi S [.vC Ag T, .vC kPt U, .vC Ai L,I G,I X,I Y,I x6,I x7,B x8,I x9,I D,I M]=
 cond (decide (0<=G)&&decide (G<(L.length:Int))) ((Hi (AM Ai (nth [] L G.toNat)++[I D])).bind λN=>
 (CD (AM Ai (nth [] L G.toNat))).bind λa0=>
 cond (bA a0 0) (Qev O L G X S T U N Y x6 x7 x8 x9 D M (I (mn (V (gA (nth [] L G.toNat) 14*16)) 16777216))) (Qev O L G X S T U N Y x6 x7 x8 x9 D M (I 0))) (none):=by kernel_rfl
def Qvq:=Am (Mf F7 EM Px Nf HM JX)
def Kz:=Qme F7 EM Px Nf HM JX Qvq
theorem Qyf:Aj PG (Qbu F7 EM Px Nf HM JX):=Ao rfl ⟨Qsh,Tn,Zgp,Z9l,Q49,Ybh,trivial⟩
theorem Ycv:Al PG (Yar Kz):=rw2 (C:=Qv4 F7 EM Px Nf HM JX Qvq) (fl fb Qyf) Qyf
def Z22:=qa 87 Qft ZM
def Wx (D G:Fn):Cfg:=cf [Qbx D,UL G]
def Qjd (D G:Fn):Fn:=An PG (Wx D G) 64 87 Qft ZM
abbrev Lo (L D G:Int):Option (List AC):=
 cond (L==8) (cond (decide (D<3)) (some [I 1]) (cond (decide (D>5)) (some [I 1]) (cond (decide (G<0)) (some [I 1]) (cond (decide (G>30000)) (some [I 1]) (some [I 0]))))) (some [I 0])
theorem Zrq (Cw AP:Fn) (L x1 x2 x3 x4 x5 x6 x7 x8 x9 O S T:Int) (U:Bool) (M:Int) (V:Bool) (X Y N D G:Int) (a0:Bool):Qjd Cw AP [I L,I x1,I x2,I x3,I x4,I x5,I x6,I x7,I x8,I x9,I O,I S,I T,B U,I M,B V,I X,I Y,I N,I D,I G,B a0]=
 cond (decide (L<1)) (some [I 1]) (cond (decide (L>14)) (some [I 1]) ((AP [I L]).bind λo4=>
 cond (bA o4 0) ((Cw [I L,I x1,I x2,I x3,I x4,I x5,I x6,I x7,I x8,I x9,I O,I S,I T,B U,I M,B V,I X,I Y,I N,I D,I G,B a0]).bind λo5=>
 cond (!bA o5 0) (some [I 1]) (cond (decide (N<0)) (some [I 1]) (cond (decide (N>1000)) (some [I 1]) ((AP [I L]).bind λo6=>
 cond (bA o6 0) (cond (L !=1) (cond (decide (M<1)) (some [I 1]) (cond (decide (M>60000000)) (some [I 1]) (Lo L D G))) (Lo L D G)) (Lo L D G))))) ((AP [I L]).bind λo7=>
 cond (bA o7 0) (cond (L !=1) (cond (decide (M<1)) (some [I 1]) (cond (decide (M>60000000)) (some [I 1]) (Lo L D G))) (Lo L D G)) (Lo L D G)))):=by kernel_rfl
def Jo:=Qjd GI Dz
theorem Zsl:Aj PG (Wx GI Dz):=Ao rfl ⟨Qax,S3,trivial⟩
theorem Yeo:Al PG (Z22 Jo):=rw1 (C:=Wx GI Dz) Zsl
def Qqw:Sk:=⟨[tf [sa Ai]],[],[]⟩
def Qnb:Sk:=⟨[TS.tup [(false,[sc 13 0]),(false,[ci])]],[(13,102,[ci,ci,ci,sd 1013003 7,sd 1013004 3,sb,ci,ci,ci])],[(1013003,111,Ag),(1013004,130,kPt)]⟩
def Quu:=qa 46 Qqw Qnb
def Qcj (D G I L M N:Fn):Cfg:=cp [Zhv D,Yar G,Qmt I,Q32 L,UL M,Z22 N] [92,91]
def Q8x:Sk:=⟨[tf [sa Ai],td,td,td,tf [sc 13 0],tf [ci]]++dd 12++[tf [sa Ai],tf [ci],tf [ci]]++dd 87,[(13,102,[ci,ci,ci,sd 1013003 7,sd 1013004 3,sb,ci,ci,ci])],[(1013003,111,Ag),(1013004,130,kPt)]⟩
def Quf:List (Ex×Sk):=[(Ex.ret,⟨[td,td,tf [sc 13 0],tf [ci]]++dd 104,[(13,102,[ci,ci,ci,sd 1013003 7,sd 1013004 3,sb,ci,ci,ci])],[(1013003,111,Ag),(1013004,130,kPt)]⟩),(Ex.exit 0,⟨[tf [sa Ai],td,td,td,tf [sc 13 0]]++dd 103,[(13,102,[ci,ci,ci,sd 1013003 7,sd 1013004 3,sb,ci,ci,ci])],[(1013003,111,Ag),(1013004,130,kPt)]⟩)]
def Qx (D G I L M N:Fn):Lp:=AL PG (Qcj D G I L M N) 64 6 (AK PG 46 6) Q8x Quf
def Q0u (D G I L M N:Fn) (O:Lp):Cfg:=(Qcj D G I L M N).loop 6 Q8x Quf O
def Zcn:Sk:=⟨[tf [sa Ai],td,td,td,tf [sc 13 0],tf [ci]]++dd 44++[tf [sa Ai],tf [ci],tf [ci]]++dd 55,[(13,102,[ci,ci,ci,sd 1013003 7,sd 1013004 3,sb,ci,ci,ci])],[(1013003,111,Ag),(1013004,130,kPt)]⟩
def Zdi:List (Ex×Sk):=[(Ex.ret,⟨[td,td,tf [sc 13 0],tf [ci]]++dd 104,[(13,102,[ci,ci,ci,sd 1013003 7,sd 1013004 3,sb,ci,ci,ci])],[(1013003,111,Ag),(1013004,130,kPt)]⟩),(Ex.exit 2,⟨[td,td,td,td,tf [sc 13 0]]++dd 103,[(13,102,[ci,ci,ci,sd 1013003 7,sd 1013004 3,sb,ci,ci,ci])],[(1013003,111,Ag),(1013004,130,kPt)]⟩)]
def P0 (D G I L M N:Fn) (O:Lp):Lp:=AL PG (Q0u D G I L M N O) 64 18 (AK PG 46 18) Zcn Zdi
def Q6t (G I L M N O:Fn) (S D:Lp):Cfg:=(Q0u G I L M N O S).loop 18 Zcn Zdi D
def Qlh (G I L M N O:Fn) (S D:Lp):Fn:=An PG (Q6t G I L M N O S D) 64 46 Qqw Qnb
theorem Q6n (B5 Cb Br BW AP Eg:Fn) (O S M:Rw) (N:Int) (L:Rw) (Y G T U X:Int) (v10:Bool) (v11 v12 D:Int):Qx B5 Cb Br BW AP Eg [.vC Ag O, .vC kPt S, .vC Ai M,I N, .vC Ai L,I Y,I G,I T,I U,I X,B v10,I v11,I v12,I D]=
 cond (decide (G<Y)) (cond (decide (0<=G)&&decide (G<(L.length:Int))) ((Eg (AM Ai (nth [] L G.toNat))).bind λa0=>
 cond (gA a0 0 !=0) (some (1,[.vC Ag O, .vC kPt S,jA a0 0,I T,I U,I X,B v10,I v11,I v12,I D])) ((AP [jA (nth [] L G.toNat) 0]).bind λa1=>
 cond (!bA a1 0) (some (0,[.vC Ag O, .vC kPt S, .vC Ai M,I N, .vC Ai L,I Y,I (V (G+1)),I T,I U,I X,B v10,I v11,I v12,I D])) (cond (decide (N>=0)) (cond (decide (0<=N)&&decide (N<(M.length:Int))) (cond (!(gA (nth [] M N.toNat) 5==gA (nth [] L G.toNat) 2&&(gA (nth [] M N.toNat) 6==gA (nth [] L G.toNat) 3&&(gA (nth [] M N.toNat) 7==gA (nth [] L G.toNat) 4&&true)))) (some (1,[.vC Ag O, .vC kPt S,I 13,I T,I U,I X,B v10,I v11,I v12,I D])) (some (0,[.vC Ag O, .vC kPt S, .vC Ai M,I G, .vC Ai L,I Y,I (V (G+1)),I T,I U,I X,B v10,I v11,I v12,I D]))) (none)) (some (0,[.vC Ag O, .vC kPt S, .vC Ai M,I G, .vC Ai L,I Y,I (V (G+1)),I T,I U,I X,B v10,I v11,I v12,I D]))))) (none)) (some (2,[.vC Ag O, .vC kPt S, .vC Ai M,I T,I U,I X,B v10,I v11,I v12,I D])):=by kernel_rfl
abbrev Rm (T:Fn) (U X O:Rw) (N Y v8 v9:Int) (v10:Bool) (v11:Int) (L:AC) (S:Int) (B5:Fn) (v4:Rw) (v5:Int) (M:AC):Option (Nat×List AC):=
 (T [.vC Ag U, .vC kPt X, .vC Ai O,I N,M,I Y,I v8,I v9,B v10,I v11,L,I S]).bind λD=>
 cond (!bA D 2) (some (1,[.vC Ag (wA D 0), .vC kPt (wA D 1),I 10,jA D 3,jA D 4,jA D 5,B (bA D 6),jA D 7,jA D 8,jA D 9])) ((B5 [.vC Ag (wA D 0), .vC kPt (wA D 1), .vC Ai O,I N,jA D 3,jA D 4,jA D 5,B (bA D 6),jA D 7,jA D 8,jA D 9]).bind λG=>
 some (0,[.vC Ag (wA G 0), .vC kPt (wA G 1), .vC Ai O,I N, .vC Ai v4,I v5,I (V (N+1)),jA G 2,jA G 3,jA G 4,B (bA G 5),jA G 6,jA G 7,jA G 8]))
abbrev P6 (AP:Fn) (O:Rw) (M S:Int) (BW:Fn) (N:Rw) (Cb:Fn) (T U:Rw) (X Y v9:Int) (v10:Bool) (v11 L:Int) (B5:Fn) (v5:Int) (Br:Fn) (G:AC):Option (Nat×List AC):=
 (AP [jA (nth [] O M.toNat) 0]).bind λa0=>
 cond (bA a0 0) (cond (decide (S>=0)) ((BW [.vC Ai N,I S]).bind λa1=>
 cond (!bA a1 0) (Rm Cb T U N M X Y v9 v10 v11 G L B5 O v5 (I (-1))) ((Br [.vC Ai N,I S]).bind λa2=>
 cond (gA a2 0 !=M) (Rm Cb T U N M X Y v9 v10 v11 G L B5 O v5 (I (-1))) (Rm Cb T U N M X Y v9 v10 v11 G L B5 O v5 (I S)))) (Rm Cb T U N M X Y v9 v10 v11 G L B5 O v5 (I S))) ((B5 [.vC Ag T, .vC kPt U, .vC Ai N,I M,I X,I Y,I v9,B v10,I v11,G,I L]).bind λD=>
 some (0,[.vC Ag (wA D 0), .vC kPt (wA D 1), .vC Ai N,I S, .vC Ai O,I v5,I (V (M+1)),jA D 2,jA D 3,jA D 4,B (bA D 5),jA D 6,jA D 7,jA D 8]))
theorem Q9z (V X Y BW AP Eg:Fn) (N6:Lp) (M N v2:Rw) (v3:Int) (L:Rw) (O D S T U:Int) (v10:Bool) (v11 v12 G:Int):P0 V X Y BW AP Eg N6 [.vC Ag M, .vC kPt N, .vC Ai v2,I v3, .vC Ai L,I O,I D,I S,I T,I U,B v10,I v11,I v12,I G]=
 cond (decide (D<O)) (cond (decide (0<=D)&&decide (D<(L.length:Int))) (cond (gA (nth [] L D.toNat) 0==8) (cond (gA (nth [] L D.toNat) 19==3) (P6 AP L D v3 BW v2 X M N S T U v10 v11 G V O Y (jA (nth [] L D.toNat) 20)) (cond (gA (nth [] L D.toNat) 19==4) (P6 AP L D v3 BW v2 X M N S T U v10 v11 G V O Y (jA (nth [] L D.toNat) 20)) (P6 AP L D v3 BW v2 X M N S T U v10 v11 G V O Y (I v12)))) (P6 AP L D v3 BW v2 X M N S T U v10 v11 G V O Y (I v12))) (none)) (some (2,[.vC Ag M, .vC kPt N,I S,I T,I U,B v10,I v11,I v12,I G])):=by kernel_rfl
theorem Zup (O S T U V X:Fn) (N L:Lp) (M:Rw):Qlh O S T U V X N L [.vC Ai M]=
 cond (decide ((M.length:Int)>20000)) (some [.vC Ag [], .vC kPt [],I 10,I 0,I 0,I 0,B false,I 0,I 0,I 0]) ((N [.vC Ag [], .vC kPt [], .vC Ai M,I (-1), .vC Ai M,I (M.length:Int),I 0,I 0,I 0,I 0,B false,I 0,I 0,I 0]).bind λD=>
 cond (D.1.beq 1) (some [.vC Ag (wA D.2 0), .vC kPt (wA D.2 1),jA D.2 2,jA D.2 3,jA D.2 4,jA D.2 5,B (bA D.2 6),jA D.2 7,jA D.2 8,jA D.2 9]) (cond (D.1.beq 2) ((L [.vC Ag (wA D.2 0), .vC kPt (wA D.2 1), .vC Ai (wA D.2 2),I (-1), .vC Ai (wA D.2 2),I (↑(wA D.2 2).length:Int),I 0,jA D.2 3,jA D.2 4,jA D.2 5,B (bA D.2 6),jA D.2 7,jA D.2 8,jA D.2 9]).bind λG=>
 cond (G.1.beq 1) (some [.vC Ag (wA G.2 0), .vC kPt (wA G.2 1),jA G.2 2,jA G.2 3,jA G.2 4,jA G.2 5,B (bA G.2 6),jA G.2 7,jA G.2 8,jA G.2 9]) (cond (G.1.beq 2) (some [.vC Ag (wA G.2 0), .vC kPt (wA G.2 1),I 0,jA G.2 2,jA G.2 3,jA G.2 4,B (bA G.2 5),jA G.2 6,jA G.2 7,jA G.2 8]) (none))) (none))):=by kernel_rfl
def Rj:=Am (Qx Jg Kz Fa Hk Dz Jo)
def Zd9:=Am (P0 Jg Kz Fa Hk Dz Jo Rj)
def I3:=Qlh Jg Kz Fa Hk Dz Jo Rj Zd9
theorem Qcx:Aj PG (Qcj Jg Kz Fa Hk Dz Jo):=Ao rfl ⟨Zlz,Ycv,Qno,Qxr,S3,Yeo,trivial⟩
theorem Q2s:Al PG (Quu I3):=rw2 (C:=Q6t Jg Kz Fa Hk Dz Jo Rj Zd9) (fl (fl fb Qcx) Qcx) Qcx
def Znl:=qa 149 Qqw ZM
def Qdi (D G:Fn):Cfg:=cp [Vj D,Quu G] [46]
def Zd3:Sk:=⟨[tf [sa Ai],td,td,tf [sc 100800 0],td,tf [ci]]++dd 47,[(100800,102,[ci,ci,ci,sd 100800 7,sd 100801 3,sb,ci,ci,ci])],[(100800,111,Ag),(100801,130,kPt)]⟩
def Qzc:List (Ex×Sk):=[(Ex.ret,⟨[td,td,tf [ci]]++dd 50,[],[]⟩),(Ex.exit 0,⟨[td,td,td,tf [sc 100800 0]]++dd 49,[(100800,102,[ci,ci,ci,sd 100800 7,sd 100801 3,sb,ci,ci,ci])],[(100800,111,Ag),(100801,130,kPt)]⟩)]
def PA (D G:Fn):Lp:=AL PG (Qdi D G) 64 5 (AK PG 149 5) Zd3 Qzc
def Q9g (D G:Fn) (I:Lp):Cfg:=(Qdi D G).loop 5 Zd3 Qzc I
def Qln (D G:Fn) (I:Lp):Fn:=An PG (Q9g D G I) 64 149 Qqw ZM
theorem Q9x (Y D_:Fn) (M N G:Rw) (D O S T:Int) (U:Bool) (L X v10:Int):PA Y D_ [.vC Ag M, .vC kPt N, .vC Ai G,I D,I O,I S,I T,B U,I L,I X,I v10]=
 cond (decide (D>=0)) (cond (decide (0<=D)&&decide (D<(G.length:Int))) (cond (gA (nth [] G D.toNat) 0==10) (some (0,[.vC Ag M, .vC kPt N, .vC Ai G,I (V (D-1)),I O,I S,I T,B U,I L,I X,I v10])) (cond (decide (0<=D)&&decide (D<(G.length:Int))) ((Y (AM Ai (nth [] G D.toNat))).bind λo4=>
 cond (bA o4 0) (cond (decide (0<=D)&&decide (D<(G.length:Int))) (cond (gA (nth [] G D.toNat) 18 !=0) (some (1,[I v10])) (some (1,[I L]))) (none)) (some (1,[I L]))) (none))) (none)) (some (2,[.vC Ag M, .vC kPt N,I O,I S,I T,B U,I L,I X,I v10])):=by kernel_rfl
theorem Zak (N L:Fn) (M:Lp) (G:Rw):Qln N L M [.vC Ai G]=
 (L [.vC Ai G]).bind λD=>
 cond (gA D 2 !=0) (some [I 0]) ((M [.vC Ag (wA D 0), .vC kPt (wA D 1), .vC Ai G,I (V ((G.length:Int)-1)),jA D 3,jA D 4,jA D 5,B (bA D 6),jA D 7,jA D 8,jA D 9]).bind λo6=>
 cond (o6.1.beq 1) (some [jA o6.2 0]) (cond (o6.1.beq 2) (some [jA o6.2 6]) (none))):=by kernel_rfl
def Zbz:=Am (PA EM I3)
def NC:=Qln EM I3 Zbz
theorem Qw3:Aj PG (Qdi EM I3):=Ao rfl ⟨Tn,Q2s,trivial⟩
theorem Zxs:Al PG (Znl NC):=rw2 (C:=Q9g EM I3 Zbz) (fl fb Qw3) Qw3
def Qhc:Sk:=⟨[tf [ci],tf [ci],tf [ci]],[],[]⟩
def Qj9:=qa 190 Qhc Qjj
def Qb8:Fn:=An PG C_cncref30_SamePulses_0 64 190 Qhc Qjj
theorem Zgo (D G L:Int):Qb8 [I D,I G,I L]=
 cond (decide (G<=D)) (some [B (decide (D<=L))]) (some [B false]):=by kernel_rfl
def GX:=Qb8
theorem Zl2:Aj PG (C_cncref30_SamePulses_0):=Ao rfl trivial
theorem Qn9:Al PG (Qj9 GX):=rw1 (C:=C_cncref30_SamePulses_0) Zl2
def Yac:=qa 192 Qan Qjj
def WC (D:Fn):Cfg:=cf [Qj9 D]
def Qkn (D:Fn):Fn:=An PG (WC D) 64 192 Qan Qjj
theorem Zj8 (G:Fn) (N O S T L M U V X:Int) (Y:Rw) (D:Int):Qkn G [I N,I O,I S,I T,I L,I M,I U,I V,I X, .vC Aa Y,I D]=
 (G [I D,I L,I M]).bind λo1=>
 some [B (bA o1 0)]:=by kernel_rfl
def HP:=Qkn GX
theorem Z2b:Aj PG (WC GX):=Ao rfl ⟨Qn9,trivial⟩
theorem Zya:Al PG (Yac HP):=rw1 (C:=WC GX) Z2b
def Qi2:Sk:=⟨[TS.v true (cc 9++[sa Aa]++cc 9++[sa Aa]++cc 9++[sa Aa]),TS.v true [ci,ci,ci,sa Ag,sa kPt]],[],[]⟩
def Zht:=qa 148 Qi2 Qjj
def Qra (D:Fn):Cfg:={cf [Yac D]with rowDst:=[13],unroll:=[11]}
def Q22:Sk:=⟨[td,td,tf [sc 2 0],td,td,tf [sd 13 3]]++dd 9++[tf [sa Ag],tf [ci],tf [ci]]++dd 28,[(2,34,cc 9++[sa Aa]++cc 9++[sa Aa]++cc 9++[sa Aa])],[(13,42,kPt)]⟩
def Q7p:List (Ex×Sk):=[(Ex.exit 0,⟨[td,td,tf [sc 2 0],td,td,tf [sd 13 3]]++dd 40,[(2,34,cc 9++[sa Aa]++cc 9++[sa Aa]++cc 9++[sa Aa])],[(13,42,kPt)]⟩)]
def Qz (D:Fn):Lp:=AL PG (Qra D) 64 3 (AK PG 148 3) Q22 Q7p
def Qy6 (D:Fn) (G:Lp):Cfg:=(Qra D).loop 3 Q22 Q7p G
def Q9f:Sk:=⟨[td,td,tf [sc 2 0]]++dd 24++[tf [sd 13 3],tf [ci],tf [ci]]++dd 16,[(2,34,cc 9++[sa Aa]++cc 9++[sa Aa]++cc 9++[sa Aa])],[(13,42,kPt)]⟩
def Q4z:List (Ex×Sk):=[(Ex.ret,⟨[td,td,td,td,tf [sb]]++dd 41,[],[]⟩),(Ex.exit 2,⟨[td]++dd 45,[],[]⟩)]
def U8 (D:Fn) (G:Lp):Lp:=AL PG (Qy6 D G) 64 8 (AK PG 148 8) Q9f Q4z
def Q84 (D:Fn) (G I:Lp):Cfg:=(Qy6 D G).loop 8 Q9f Q4z I
def ZR (D:Fn) (G I:Lp):Fn:=An PG (Q84 D G I) 64 148 Qi2 Qjj
theorem Zww (DP:Fn) (v0 G:Rw) (v2 D v4 v5 v6 v7 v8 v9 v10 v11 v12:Int) (L:Rw) (M N O S T U v20 v21 v22:Int) (X:Rw) (v24 v25 Y v27 v28 a0 v30 v31 a1:Int) (v33:Rw):Qz DP [.vC kPt v0, .vC Ag G,I v2,I D,I v4,I v5,I v6,I v7,I v8,I v9,I v10,I v11,I v12, .vC Aa L,I M,I N,I O,I S,I T,I U,I v20,I v21,I v22, .vC Aa X,I v24,I v25,I Y,I v27,I v28,I a0,I v30,I v31,I a1, .vC Aa v33]=
 cond (decide (D<v2)) (cond (decide (0<=D)&&decide (D<(G.length:Int))) (cond (((v0++[[jA (nth [] G D.toNat) 0,jA (nth [] G D.toNat) 1,jA (nth [] G D.toNat) 2]]).length*24).ble 140737488355328) (some (0,[.vC kPt (v0++[[jA (nth [] G D.toNat) 0,jA (nth [] G D.toNat) 1,jA (nth [] G D.toNat) 2]]), .vC Ag G,I v2,I (V (D+1)),I v4,I v5,I v6,I v7,I v8,I v9,I v10,I v11,I v12, .vC Aa L,I M,I N,I O,I S,I T,I U,I v20,I v21,I v22, .vC Aa X,I v24,I v25,I Y,I v27,I v28,I a0,I v30,I v31,I a1, .vC Aa v33])) (none)) (none)) (some (1,[.vC kPt v0,I v4,I v5,I v6,I v7,I v8,I v9,I v10,I v11,I v12, .vC Aa L,I M,I N,I O,I S,I T,I U,I v20,I v21,I v22, .vC Aa X,I v24,I v25,I Y,I v27,I v28,I a0,I v30,I v31,I a1, .vC Aa v33])):=by kernel_rfl
theorem Z0i (DP:Fn) (N3:Lp) (v0:Rw) (v1 D v3 v4 v5 v6 v7 v8 v9 v10 v11:Int) (v12:Rw) (G L M N O S T v20 v21:Int) (v22:Rw) (U v24 v25 X v27 v28 Y v30 v31:Int) (a0:Rw):U8 DP N3 [.vC kPt v0,I v1,I D,I v3,I v4,I v5,I v6,I v7,I v8,I v9,I v10,I v11, .vC Aa v12,I G,I L,I M,I N,I O,I S,I T,I v20,I v21, .vC Aa v22,I U,I v24,I v25,I X,I v27,I v28,I Y,I v30,I v31, .vC Aa a0]=
 cond (decide (D<v1)) (cond (decide (0<=D)&&decide (D<(v0.length:Int))) ((DP [I v3,I v4,I v5,I v6,I v7,I v8,I v9,I v10,I v11, .vC Aa v12,jA (nth [] v0 D.toNat) 0]).bind λo6=>
 cond (!bA o6 0) (some (1,[B false])) ((DP [I G,I L,I M,I N,I O,I S,I T,I v20,I v21, .vC Aa v22,jA (nth [] v0 D.toNat) 1]).bind λo7=>
 cond (!bA o7 0) (some (1,[B false])) ((DP [I U,I v24,I v25,I X,I v27,I v28,I Y,I v30,I v31, .vC Aa a0,jA (nth [] v0 D.toNat) 2]).bind λo8=>
 cond (!bA o8 0) (some (1,[B false])) (some (0,[.vC kPt v0,I v1,I (V (D+1)),I v3,I v4,I v5,I v6,I v7,I v8,I v9,I v10,I v11, .vC Aa v12,I G,I L,I M,I N,I O,I S,I T,I v20,I v21, .vC Aa v22,I U,I v24,I v25,I X,I v27,I v28,I Y,I v30,I v31, .vC Aa a0]))))) (none)) (some (2,[])):=by kernel_rfl
theorem Zv0 (DP:Fn) (N3 N8:Lp) (x0 x1 x2 x3 x4 x5 x6 x7 x8:Int) (x9:Rw) (M N O S T U V X Y:Int) (a0:Rw) (a1 a2 a3 a4 a5 a6 a7 a8 a9:Int) (b0:Rw) (b1 b2 b3:Int) (G b4:Rw):ZR DP N3 N8 [I x0,I x1,I x2,I x3,I x4,I x5,I x6,I x7,I x8, .vC Aa x9,I M,I N,I O,I S,I T,I U,I V,I X,I Y, .vC Aa a0,I a1,I a2,I a3,I a4,I a5,I a6,I a7,I a8,I a9, .vC Aa b0,I b1,I b2,I b3, .vC Ag G, .vC kPt b4]=
 (N3 [.vC kPt [[I b1,I b2,I b3]], .vC Ag G,I (G.length:Int),I 0,I x0,I x1,I x2,I x3,I x4,I x5,I x6,I x7,I x8, .vC Aa x9,I M,I N,I O,I S,I T,I U,I V,I X,I Y, .vC Aa a0,I a1,I a2,I a3,I a4,I a5,I a6,I a7,I a8,I a9, .vC Aa b0]).bind λD=>
 cond (D.1.beq 1) ((N8 [.vC kPt (wA D.2 0),I (↑(wA D.2 0).length:Int),I 0,jA D.2 1,jA D.2 2,jA D.2 3,jA D.2 4,jA D.2 5,jA D.2 6,jA D.2 7,jA D.2 8,jA D.2 9, .vC Aa (wA D.2 10),jA D.2 11,jA D.2 12,jA D.2 13,jA D.2 14,jA D.2 15,jA D.2 16,jA D.2 17,jA D.2 18,jA D.2 19, .vC Aa (wA D.2 20),jA D.2 21,jA D.2 22,jA D.2 23,jA D.2 24,jA D.2 25,jA D.2 26,jA D.2 27,jA D.2 28,jA D.2 29, .vC Aa (wA D.2 30)]).bind λL=>
 cond (L.1.beq 1) (some [B (bA L.2 0)]) (cond (L.1.beq 2) (some [B true]) (none))) (none):=by kernel_rfl
def Qib:=Am (Qz HP)
def Q40:=Am (U8 HP Qib)
def P7:=ZR HP Qib Q40
theorem Qgv:Aj PG (Qra HP):=Ao rfl ⟨Zya,trivial⟩
theorem Z7p:Al PG (Zht P7):=rw2 (C:=Q84 HP Qib Q40) (fl (fl fb Qgv) Qgv) Qgv
def Qp0:Sk:=⟨[TS.tup [(true,[ci,ci,ci,sa Ag,sa kPt]),(false,[ci])]],[],[]⟩
def Zez:=qa 15 Qqw Qp0
def Qfo (D:Fn):Cfg:=cp [Quu D] [46]
def Qis (D:Fn):Fn:=An PG (Qfo D) 64 15 Qqw Qp0
theorem Zxn (D:Fn) (G:Rw):Qis D [.vC Ai G]=
 (D [.vC Ai G]).bind λo1=>
 cond (gA o1 2 !=0) (some [I 0,I 0,I 0, .vC Ag [], .vC kPt [],jA o1 2]) (some [jA o1 3,jA o1 4,jA o1 5, .vC Ag (wA o1 0), .vC kPt (wA o1 1),I 0]):=by kernel_rfl
def Ny:=Qis I3
theorem Zyq:Aj PG (Qfo I3):=Ao rfl ⟨Q2s,trivial⟩
theorem Zof:Al PG (Zez Ny):=rw1 (C:=Qfo I3) Zyq
def Qmo:Sk:=⟨[tf [sc 20000 0],tf [sa Ai],tf [sb]],[(20000,179,cS)],[]⟩
def Zsx:=qa 97 Qmo Qmn
def Qfg (D G I L:Fn):Cfg:={cf [Znl D,Zah G,Zht I,Zez L]with fstore:=true}
def QK (D G I L:Fn):Fn:=An PG (Qfg D G I L) 64 97 Qmo Qmn
theorem Zi0 (G L M N:Fn) (D:Rw) (O:Bool) (K:Kf) (c:Cv):QK G L M N (.vC Ai D::B O::Ac K c)=
 (N [.vC Ai D]).bind λo4=>
 cond (gA o4 5 !=0) (some (jA o4 5::Ac K c)) ((M (AI K.x++[jA o4 0,jA o4 1,jA o4 2, .vC Ag (wA o4 3), .vC kPt (wA o4 4)])).bind λS=>
 cond (!bA S 0) (some (I 17::Ac K c)) (cond ((D.length*176).ble 140737488355328) ((L [jA o4 0,jA o4 1,jA o4 2, .vC Ag (wA o4 3), .vC kPt (wA o4 4)]).bind λo6=>
 (G [.vC Ai D]).bind λT=>
 some (I 0::Dt (Ac K c) [(35, .vC Ai D),(36,B O),(37,jA o4 0),(38,jA o4 1),(39,jA o4 2),(40, .vC Ag (wA o4 3)),(41, .vC kPt (wA o4 4)),(42,jA o6 0),(43,jA T 0)])) (none))):=by kernel_rfl
def Ug:=QK NC JK P7 Ny
theorem Zoj:Aj PG (Qfg NC JK P7 Ny):=Ao rfl ⟨Zxs,Q7x,Z7p,Zof,trivial⟩
theorem Zt1:Al PG (Zsx Ug):=rw1 (C:=Qfg NC JK P7 Ny) Zoj
def Zy3:=qa 95 Z_ Qoz
def Qgn:Fn:=An PG C_cncref30_SamePulses_0 64 95 Z_ Qoz
theorem Z7e:Qgn []=
 some [I 100,I 100,B false,B false,B false]:=by kernel_rfl
def Qn:=Qgn
theorem Zrc:Aj PG (C_cncref30_SamePulses_0):=Ao rfl trivial
theorem Z2m:Al PG (Zy3 Qn):=rw1 (C:=C_cncref30_SamePulses_0) Zrc
def WO:Sk:=⟨[TS.v true (cc 9++[sa Aa]++cc 9++[sa Aa]++cc 9++[sa Aa]++cc 5)],[],[]⟩
def Zoq:=qa 94 WO WO
def Yi:Cfg:={cf []with fstore:=true,unroll:=[2]}
def Qby:Fn:=An PG Yi 64 94 WO WO
theorem Zfd (x0 x1 x2 x3 x4 x5 x6 x7 x8:Int) (x9:Rw) (L M N O S T U V X:Int) (D:Rw) (Y a0 a1 a2 a3 a4 a5 a6 a7:Int) (G:Rw) (a8 a9 b0 b1 b2:Int):Qby [I x0,I x1,I x2,I x3,I x4,I x5,I x6,I x7,I x8, .vC Aa x9,I L,I M,I N,I O,I S,I T,I U,I V,I X, .vC Aa D,I Y,I a0,I a1,I a2,I a3,I a4,I a5,I a6,I a7, .vC Aa G,I a8,I a9,I b0,I b1,I b2]=
 cond ((x9.length*8).ble 140737488355328) (cond ((D.length*8).ble 140737488355328) (cond ((G.length*8).ble 140737488355328) (some [I x0,I x1,I x2,I x3,I x4,I x5,I x6,I x7,I x8, .vC Aa x9,I L,I M,I N,I O,I S,I T,I U,I V,I X, .vC Aa D,I Y,I a0,I a1,I a2,I a3,I a4,I a5,I a6,I a7, .vC Aa G,I a8,I a9,I b0,I b1,I b2]) (none)) (none)) (none):=by kernel_rfl
def Qs:=Qby
theorem Z5v:Aj PG (Yi):=Ao rfl trivial
theorem Zjm:Al PG (Zoq Qs):=rw1 (C:=Yi) Z5v
def Qid:Sk:=⟨[TS.v true (cc 9++[sa Aa])],[],[]⟩
def Zld:=qa 191 Qid Qjj
def Qnu (D:Fn):Cfg:=cf [Qj9 D]
def Q82:Sk:=⟨[td,tf [sc 1 0]]++dd 24++[tf [sa Aa],tf [ci],tf [ci]]++dd 29,[(1,33,cc 9++[sa Aa])],[]⟩
def Q7z:List (Ex×Sk):=[(Ex.ret,⟨[td,td,tf [sb]]++dd 55,[],[]⟩),(Ex.exit 0,⟨[td]++dd 57,[],[]⟩)]
def Qaf (D:Fn):Lp:=AL PG (Qnu D) 64 6 (AK PG 191 6) Q82 Q7z
def Q1j (D:Fn) (G:Lp):Cfg:=(Qnu D).loop 6 Q82 Q7z G
def ZX (D:Fn) (G:Lp):Fn:=An PG (Q1j D G) 64 191 Qid Qjj
theorem Zp6 (M:Fn) (G:Rw) (L D N O S T U X Y v10 v11:Int) (v12:Rw):Qaf M [.vC Aa G,I L,I D,I N,I O,I S,I T,I U,I X,I Y,I v10,I v11, .vC Aa v12]=
 cond (decide (D<L)) (cond (decide (0<=D)&&decide (D<(G.length:Int))) ((M [jA (nth [] G D.toNat) 0,I (-4096),I 4096]).bind λo7=>
 cond (!bA o7 0) (some (1,[B false])) (cond (decide (D>0)) (cond (decide (0<=V (D-1))&&decide (V (D-1)<(v12.length:Int))) ((M [I (V (gA (nth [] G D.toNat) 0-gA (nth [] v12 (V (D-1)).toNat) 0)),I (V (0-V (v11.tdiv 4))),I (V (v11.tdiv 4))]).bind λo8=>
 cond (!bA o8 0) (some (1,[B false])) (some (0,[.vC Aa G,I L,I (V (D+1)),I N,I O,I S,I T,I U,I X,I Y,I v10,I v11, .vC Aa v12]))) (none)) (some (0,[.vC Aa G,I L,I (V (D+1)),I N,I O,I S,I T,I U,I X,I Y,I v10,I v11, .vC Aa v12])))) (none)) (some (2,[])):=by kernel_rfl
theorem Zmn (L:Fn) (S:Lp) (T U V X Y x5 x6 M N:Int) (G:Rw):ZX L S [I T,I U,I V,I X,I Y,I x5,I x6,I M,I N, .vC Aa G]=
 cond ((G.length:Int)==0) (some [B true]) (cond (decide ((G.length:Int)>64)) (some [B false]) ((L [I M,I (-16777216),I 16777216]).bind λo9=>
 cond (!bA o9 0) (some [B false]) ((L [I N,I 4,I 16777216]).bind λO=>
 cond (!bA O 0) (some [B false]) ((S [.vC Aa G,I (G.length:Int),I 0,I T,I U,I V,I X,I Y,I x5,I x6,I M,I N, .vC Aa G]).bind λD=>
 cond (D.1.beq 1) (some [B (bA D.2 0)]) (cond (D.1.beq 2) (some [B true]) (none)))))):=by kernel_rfl
def Qvl:=Am (Qaf GX)
def QA:=ZX GX Qvl
theorem Zcy:Aj PG (Qnu GX):=Ao rfl ⟨Qn9,trivial⟩
theorem Zsn:Al PG (Zld QA):=rw2 (C:=Q1j GX Qvl) (fl fb Zcy) Zcy
def Yd0:=qa 145 Qid Qjj
def Qp3 (D G:Fn):Cfg:=cf [Zld D,Qj9 G]
def Qe4 (D G:Fn):Fn:=An PG (Qp3 D G) 64 145 Qid Qjj
theorem Yb8 (Y L:Fn) (M N O S D G T x7 x8:Int) (x9:Rw):Qe4 Y L [I M,I N,I O,I S,I D,I G,I T,I x7,I x8, .vC Aa x9]=
 (L [I M,I 4,I 4096]).bind λo6=>
 cond (bA o6 0) ((L [I N,I 1,I 1048576]).bind λo7=>
 cond (bA o7 0) ((L [I O,I 2,I 1048576]).bind λo8=>
 cond (bA o8 0) ((L [I S,I 4,I 1048576]).bind λU=>
 cond (decide (D>= -16777216)) (cond (decide (G<=16777216)) (cond (bA U 0) (cond (decide (D<=G)) ((L [I T,I 0,I 64]).bind λV=>
 cond (bA V 0) ((Y [I M,I N,I O,I S,I D,I G,I T,I x7,I x8, .vC Aa x9]).bind λX=>
 some [B (bA X 0)]) (some [B false])) (some [B false])) (some [B false])) (cond (bA U 0) (some [B false]) (some [B false]))) (cond (bA U 0) (some [B false]) (some [B false]))) (cond (decide (D>= -16777216)) (cond (decide (G<=16777216)) (some [B false]) (some [B false])) (some [B false]))) (cond (decide (D>= -16777216)) (cond (decide (G<=16777216)) (some [B false]) (some [B false])) (some [B false]))) (cond (decide (D>= -16777216)) (cond (decide (G<=16777216)) (some [B false]) (some [B false])) (some [B false])):=by kernel_rfl
def QT:=Qe4 QA GX
theorem Zs7:Aj PG (Qp3 QA GX):=Ao rfl ⟨Zsn,Qn9,trivial⟩
theorem Z41:Al PG (Yd0 QT):=rw1 (C:=Qp3 QA GX) Zs7
def Z7y:=qa 93 WO Qjj
def ZB (D G I:Fn):Cfg:={cf [Qhm D,YQ G,Yd0 I]with unroll:=[2]}
def WL (D G I:Fn):Fn:=An PG (ZB D G I) 64 93 WO Qjj
theorem Z2x (Dp BM Kv:Fn) (x0 x1 x2 x3 x4 x5 x6 x7 x8:Int) (x9:Rw) (L M N O S T U V X:Int) (Y:Rw) (a0 a1 a2 a3 a4 a5 a6 a7 a8:Int) (a9:Rw) (b0 b1 b2 D G:Int):WL Dp BM Kv [I x0,I x1,I x2,I x3,I x4,I x5,I x6,I x7,I x8, .vC Aa x9,I L,I M,I N,I O,I S,I T,I U,I V,I X, .vC Aa Y,I a0,I a1,I a2,I a3,I a4,I a5,I a6,I a7,I a8, .vC Aa a9,I b0,I b1,I b2,I D,I G]=
 (Kv [I x0,I x1,I x2,I x3,I x4,I x5,I x6,I x7,I x8, .vC Aa x9]).bind λo5=>
 cond (!bA o5 0) (some [B false]) ((Kv [I L,I M,I N,I O,I S,I T,I U,I V,I X, .vC Aa Y]).bind λo6=>
 cond (!bA o6 0) (some [B false]) ((Kv [I a0,I a1,I a2,I a3,I a4,I a5,I a6,I a7,I a8, .vC Aa a9]).bind λo7=>
 cond (!bA o7 0) (some [B false]) ((BM [I b0,I b1,I b2]).bind λo8=>
 cond (bA o8 0) (cond (decide (D>=1)) ((Dp [I 30000]).bind λo9=>
 cond (decide (D<=gA o9 0)) (cond (decide (G>=0)) (some [B (decide (G<=1048576))]) (some [B false])) (some [B false])) (some [B false])) (some [B false])))):=by kernel_rfl
def Ry:=WL EY EX QT
theorem Zjl:Aj PG (ZB EY EX QT):=Ao rfl ⟨Qk6,Qpp,Z41,trivial⟩
theorem Zio:Al PG (Z7y Ry):=rw1 (C:=ZB EY EX QT) Zjl
def Qit:Sk:=⟨[TS.v true (cc 9++[sa Aa]++cc 9++[sa Aa]++cc 9++[sa Aa]++cc 5),tf [sa Ai],tf [sb]],[],[]⟩
def Wh:Sk:=⟨[TS.tup [(false,[sc 19 0]),(false,[ci])]],[(19,179,cS)],[]⟩
def Zrp:=qa 54 Qit Wh
def Qfi (D G I L M N O:Fn):Cfg:={cp [Qj1 D,Qwb G,Zsx I,Qts L,Zy3 M,Zoq N,Z7y O] [97]with fstore:=true}
def Ta (D G I L M N O:Fn):Fn:=An PG (Qfi D G I L M N O) 64 54 Qit Wh
theorem Zfx (DB F2 Ps F8 Pk Pn O0:Fn) (x0 x1 x2 x3 x4 x5 x6 x7 x8:Int) (x9:Rw) (M N O S T U V X Y:Int) (a0:Rw) (a1 a2 a3 a4 a5 a6 a7 a8 a9:Int) (b0:Rw) (b1 b2 b3 b4 b5:Int) (b7:Rw) (b8:Bool):Ta DB F2 Ps F8 Pk Pn O0 [I x0,I x1,I x2,I x3,I x4,I x5,I x6,I x7,I x8, .vC Aa x9,I M,I N,I O,I S,I T,I U,I V,I X,I Y, .vC Aa a0,I a1,I a2,I a3,I a4,I a5,I a6,I a7,I a8,I a9, .vC Aa b0,I b1,I b2,I b3,I b4,I b5, .vC Ai b7,B b8]=
 (O0 [I x0,I x1,I x2,I x3,I x4,I x5,I x6,I x7,I x8, .vC Aa x9,I M,I N,I O,I S,I T,I U,I V,I X,I Y, .vC Aa a0,I a1,I a2,I a3,I a4,I a5,I a6,I a7,I a8,I a9, .vC Aa b0,I b1,I b2,I b3,I b4,I b5]).bind λo7=>
 cond (!bA o7 0) (none) ((Pn [I x0,I x1,I x2,I x3,I x4,I x5,I x6,I x7,I x8, .vC Aa x9,I M,I N,I O,I S,I T,I U,I V,I X,I Y, .vC Aa a0,I a1,I a2,I a3,I a4,I a5,I a6,I a7,I a8,I a9, .vC Aa b0,I b1,I b2,I b3,I b4,I b5]).bind λo8=>
 (Pk []).bind λo9=>
 (F8 []).bind λb6=>
 (Ps [.vC Ai b7,B b8,jA o8 0,jA o8 1,jA o8 2,jA o8 3,jA o8 4,jA o8 5,jA o8 6,jA o8 7,jA o8 8, .vC Aa (wA o8 9),jA o8 10,jA o8 11,jA o8 12,jA o8 13,jA o8 14,jA o8 15,jA o8 16,jA o8 17,jA o8 18, .vC Aa (wA o8 19),jA o8 20,jA o8 21,jA o8 22,jA o8 23,jA o8 24,jA o8 25,jA o8 26,jA o8 27,jA o8 28, .vC Aa (wA o8 29),jA o8 30,jA o8 31,jA o8 32,jA o8 33,jA o8 34, .vC Ai [],B false,I 0,I 0,I 0, .vC Ag [], .vC kPt [],I 0,I 0, .vC Ap [],I 0,I 0,I 0,I 0,I 0,I 0,I 0,I 0,I 0,I 0,I 0,jA o9 0,jA o9 1,B (bA o9 2),B (bA o9 3),B (bA o9 4),jA b6 0,jA b6 1,jA b6 2,I 1,I 0,I 0,I 0,I 0,I 0,I 0,I 0,I 0,B false,I 0,B false,I 0,B false,I 0,I (-1),I 0,I 0,I 0,I 0,I 0,I 0,I 0,B false,B false,B false]).bind λD=>
 cond (gA D 0 !=0) (none) ((F2 [jA D 38,jA D 39,jA D 40, .vC Ag (wA D 41), .vC kPt (wA D 42),jA D 1,jA D 2,jA D 3,jA D 4,jA D 5,jA D 6,jA D 7,jA D 8,jA D 9, .vC Aa (wA D 10),jA D 11,jA D 12,jA D 13,jA D 14,jA D 15,jA D 16,jA D 17,jA D 18,jA D 19, .vC Aa (wA D 20),jA D 21,jA D 22,jA D 23,jA D 24,jA D 25,jA D 26,jA D 27,jA D 28,jA D 29, .vC Aa (wA D 30),I 1,I 1,I 1,I 0,jA D 43]).bind λG=>
 (DB [I 0]).bind λL=>
 some (I 0::Dt (cR 1 D) [(44, .vC Ap (wA G 0)),(45,jA G 1),(46,jA G 2),(47,jA G 3),(48,jA G 4),(49,jA G 5),(50,jA L 0),(51,jA L 1),(52,jA L 2),(53,jA L 3),(54,jA L 4),(55,jA L 5)]))):=by kernel_rfl
def J_:=Ta Hb J0 Ug Kb Qn Qs Ry
theorem Zme:Aj PG (Qfi Hb J0 Ug Kb Qn Qs Ry):=Ao rfl ⟨WE,Qtm,Zt1,Qy0,Z2m,Zjm,Zio,trivial⟩
theorem Ya4:Al PG (Zrp J_):=rw1 (C:=Qfi Hb J0 Ug Kb Qn Qs Ry) Zme
def Ziz:=qa 53 Qaz Qjj
def Zbk:Sk:=⟨[td,td,td,tf [ci],td,td,td,td,td,tf [sa kPt],tf [ci],tf [ci]]++dd 35,[],[]⟩
def Qu3:List (Ex×Sk):=[(Ex.ret,⟨[td,td,tf [sb]]++dd 44,[],[]⟩),(Ex.exit 0,⟨[td]++dd 46,[],[]⟩)]
def Ng:Lp:=AL PG C_cncref30_SamePulses_0 64 5 (AK PG 53 5) Zbk Qu3
def Zax (D:Lp):Cfg:=C_cncref30_SamePulses_0.loop 5 Zbk Qu3 D
def Qnn (D:Lp):Fn:=An PG (Zax D) 64 53 Qaz Qjj
theorem Zc2 (M:Int) (G:Rw) (L D:Int):Ng [I M, .vC kPt G,I L,I D]=
 cond (decide (D<L)) (cond (decide (0<=D)&&decide (D<(G.length:Int))) (cond (decide (gA (nth [] G D.toNat) 0<M)) (some (1,[B false])) (cond (decide (gA (nth [] G D.toNat) 0>1073741824)) (some (1,[B false])) (cond (decide (gA (nth [] G D.toNat) 1<1)) (some (1,[B false])) (cond (decide (gA (nth [] G D.toNat) 1>13)) (some (1,[B false])) (cond (decide (gA (nth [] G D.toNat) 2< -1073741824)) (some (1,[B false])) (cond (decide (gA (nth [] G D.toNat) 2>1073741824)) (some (1,[B false])) (some (0,[jA (nth [] G D.toNat) 0, .vC kPt G,I L,I (V (D+1))])))))))) (none)) (some (2,[])):=by kernel_rfl
theorem Zz9 (G:Lp) (D:Rw):Qnn G [.vC kPt D]=
 cond (decide ((D.length:Int)>2000)) (some [B false]) ((G [I 0, .vC kPt D,I (D.length:Int),I 0]).bind λo1=>
 cond (o1.1.beq 1) (some [B (bA o1.2 0)]) (cond (o1.1.beq 2) (some [B true]) (none))):=by kernel_rfl
def Q3w:=Am (Ng)
def O6:=Qnn Q3w
theorem Qta:Aj PG (C_cncref30_SamePulses_0):=Ao rfl trivial
theorem Z59:Al PG (Ziz O6):=rw2 (C:=Zax Q3w) (fl fb Qta) Qta
def Wd:Sk:=⟨[TS.v true (cc 9++[sa Aa]++cc 9++[sa Aa]++cc 9++[sa Aa]++cc 5),tf [sa Ai],tf [sa kPt],tf [ci]],[],[]⟩
def Qm9:Sk:=⟨[TS.tup [(false,[sa [Kd.sl kPt,Kd.sl Aa,kI,kI,kI,kI,kI,kI,kI]]),(false,[ci])]],[],[]⟩
def Q53:=qa 18 Wd Qm9
def Qbg (Hq D G I:Fn):Cfg:={cp [Yei Hq,Zt2 D,Zrp G,Ziz I] [55,54]with prom:=λb=>cond (Nat.beq b 8) ([(12,61)]) ([])}
def Zc7:Sk:=⟨[td,td,tf [sa kPt],tf [ci]]++dd 6++[tf [sc 102500 0],td,tf [sd 12 9],tf [ci]]++dd 40,[(102500,179,cS)],[(12,61,[Kd.sl kPt,Kd.sl Aa,kI,kI,kI,kI,kI,kI,kI])]⟩
def Qzk:List (Ex×Sk):=[(Ex.exit 0,⟨dd 12++[tf [sd 12 9]]++dd 41,[],[(12,61,[Kd.sl kPt,Kd.sl Aa,kI,kI,kI,kI,kI,kI,kI])]⟩)]
def OO (Hq D G I:Fn):Lp:=AL PG (Qbg Hq D G I) 64 8 (AK PG 18 8) Zc7 Qzk
def Zdu (Hq D G I:Fn) (L:Lp):Cfg:=(Qbg Hq D G I).loop 8 Zc7 Qzk L
def Qka (Hq D G I:Fn) (L:Lp):Fn:=An PG (Zdu Hq D G I L) 64 18 Wd Qm9
theorem Q87 (Hq S T U:Fn) (G M:Rw) (N L:Int) (K:Kf) (c:Cv):OO Hq S T U (.vC [Kd.sl kPt,Kd.sl Aa,kI,kI,kI,kI,kI,kI,kI] G:: .vC kPt M::I N::I L::Ac K c)=
 cond (decide (L<N)) ((S [.vC kPt M,I L]).bind λO=>
 (Hq (.vC kPt (wA O 0)::Ac K c)).bind λD=>
 cond (((G++[[.vC (Aa++(Aa++(Aa++[]))) (wA D 0), .vC Aa (wA D 1),jA D 2,jA D 3,jA D 4,jA D 5,jA D 6,jA D 7,jA D 8]]).length*104).ble 140737488355328) (cond (gA D 2==7) (some (1,[.vC [Kd.sl kPt,Kd.sl Aa,kI,kI,kI,kI,kI,kI,kI] (G++[[.vC (Aa++(Aa++(Aa++[]))) (wA D 0), .vC Aa (wA D 1),jA D 2,jA D 3,jA D 4,jA D 5,jA D 6,jA D 7,jA D 8]])])) (cond (gA D 2==8) (some (1,[.vC [Kd.sl kPt,Kd.sl Aa,kI,kI,kI,kI,kI,kI,kI] (G++[[.vC (Aa++(Aa++(Aa++[]))) (wA D 0), .vC Aa (wA D 1),jA D 2,jA D 3,jA D 4,jA D 5,jA D 6,jA D 7,jA D 8]])])) (some (0,(.vC [Kd.sl kPt,Kd.sl Aa,kI,kI,kI,kI,kI,kI,kI] (G++[[.vC (Aa++(Aa++(Aa++[]))) (wA D 0), .vC Aa (wA D 1),jA D 2,jA D 3,jA D 4,jA D 5,jA D 6,jA D 7,jA D 8]]):: .vC kPt M::I N::I (V (L+1))::cR 9 D))))) (none)) (some (1,[.vC [Kd.sl kPt,Kd.sl Aa,kI,kI,kI,kI,kI,kI,kI] G])):=by kernel_rfl
theorem Zrs (Hq Hl GU G5:Fn) (N8:Lp) (x0 x1 x2 x3 x4 x5 x6 x7 x8:Int) (x9:Rw) (M N O S T U V X Y:Int) (a0:Rw) (a1 a2 a3 a4 a5 a6 a7 a8 a9:Int) (b0:Rw) (b1 b2 b3 b4 b5:Int) (b6 D:Rw) (G:Int):Qka Hq Hl GU G5 N8 [I x0,I x1,I x2,I x3,I x4,I x5,I x6,I x7,I x8, .vC Aa x9,I M,I N,I O,I S,I T,I U,I V,I X,I Y, .vC Aa a0,I a1,I a2,I a3,I a4,I a5,I a6,I a7,I a8,I a9, .vC Aa b0,I b1,I b2,I b3,I b4,I b5, .vC Ai b6, .vC kPt D,I G]=
 (G5 [.vC kPt D]).bind λb8=>
 cond (!bA b8 0) (some [.vC [Kd.sl kPt,Kd.sl Aa,kI,kI,kI,kI,kI,kI,kI] [],I 1]) (cond (decide (G>1073741824)) (some [.vC [Kd.sl kPt,Kd.sl Aa,kI,kI,kI,kI,kI,kI,kI] [],I 1]) ((GU [I x0,I x1,I x2,I x3,I x4,I x5,I x6,I x7,I x8, .vC Aa x9,I M,I N,I O,I S,I T,I U,I V,I X,I Y, .vC Aa a0,I a1,I a2,I a3,I a4,I a5,I a6,I a7,I a8,I a9, .vC Aa b0,I b1,I b2,I b3,I b4,I b5, .vC Ai b6,B true]).bind λL=>
 cond (gA L 0 !=0) (some [.vC [Kd.sl kPt,Kd.sl Aa,kI,kI,kI,kI,kI,kI,kI] [],jA L 0]) ((N8 (.vC [Kd.sl kPt,Kd.sl Aa,kI,kI,kI,kI,kI,kI,kI] []:: .vC kPt D::I G::I 0::cR 1 L)).bind λb7=>
 cond (b7.1.beq 1) (some [.vC [Kd.sl kPt,Kd.sl Aa,kI,kI,kI,kI,kI,kI,kI] (wA b7.2 0),I 0]) (none)))):=by kernel_rfl
def Q78:=Am (OO Ke Ph J_ O6)
def JP:=Qka Ke Ph J_ O6 Q78
theorem Q3i:Aj PG (Qbg Ke Ph J_ O6):=Ao rfl ⟨Z4y,Z0a,Ya4,Z59,trivial⟩
theorem Qvd:Al PG (Q53 JP):=rw2 (C:=Zdu Ke Ph J_ O6 Q78) (fl fb Q3i) Q3i
def Qyn:=qa 12 Zo ZM
def Qua:Fn:=An PG C_cncref30_SamePulses_0 64 12 Zo ZM
theorem Zvh (G D:Int):Qua [I G,I D]=
 cond (decide (D=0)) (none) (cond (decide (D=0)) (none) (some [I ((V (G.tmod D+D)).tmod D)])):=by kernel_rfl
def GC:=Qua
theorem Z1q:Aj PG (C_cncref30_SamePulses_0):=Ao rfl trivial
theorem Qu8:Al PG (Qyn GC):=rw1 (C:=C_cncref30_SamePulses_0) Z1q
def Wu:Sk:=⟨[tf [sc 20000 0],tf [ci]],[(20000,95,[sa Aa,ci])],[]⟩
def Qsg:Sk:=⟨[tf [ci]],[(20000,95,[sa Aa,ci])],[]⟩
def JO:=qa 41 Wu Qsg
def Qfq (D:Fn):Cfg:=cf [Qyn D]
def Qov (D:Fn):Fn:=An PG (Qfq D) 64 41 Wu Qsg
theorem Z0h (L:Fn) (M:Int) (G:Rw) (D:Int):Qov L [I M, .vC Aa G,I D]=
 cond (decide (D>=(G.length:Int))) (some [I 0, .vC Aa G,I D]) (cond (decide (0<=D)&&decide (D<(G.length:Int))) ((L [jA (nth [] G D.toNat) 0,I M]).bind λo1=>
 some [jA o1 0, .vC Aa G,I (V (D+1))]) (none)):=by kernel_rfl
def BD:=Qov GC
theorem Zk9:Aj PG (Qfq GC):=Ao rfl ⟨Qu8,trivial⟩
theorem I7:Al PG (JO BD):=rw1 (C:=Qfq GC) Zk9
def Qos:Sk:=⟨[TS.v true [ci,ci,ci]],[(20000,95,[sa Aa,ci])],[]⟩
def Z9n:=qa 63 Wu Qos
def Qq0 (Aq:Fn):Cfg:=cp [JO Aq] [41]
def Yo (Aq:Fn):Fn:=An PG (Qq0 Aq) 64 63 Wu Qos
abbrev RJ (Aq:Fn) (L:List AC) (M:Int) (G:AC):Option (List AC):=
 (Aq [G, .vC Aa (wA L 1),jA L 2]).bind λD=>
 some [I M,I (Af (nth .vD (nth [] [[I 4],[I 1],[I 2],[I 3],[I 4],[I 5],[I 6],[I 7],[I 4],[I 8],[I 9],[I 11],[I 12],[I 13],[I 10]] (gA L 0).toNat) 0)),I (V (gA D 0-5)), .vC Aa (wA D 1),jA D 2]
theorem Zn7 (Aq:Fn) (G:Int) (T:Rw) (U:Int):Yo Aq [I G, .vC Aa T,I U]=
 (Aq [I 15, .vC Aa T,I U]).bind λD=>
 cond (decide (0<=gA D 0)&&decide (gA D 0<(↑[[I 4],[I 1],[I 2],[I 3],[I 4],[I 5],[I 6],[I 7],[I 4],[I 8],[I 9],[I 11],[I 12],[I 13],[I 10]].length:Int))) (cond (Af (nth .vD (nth [] [[I 4],[I 1],[I 2],[I 3],[I 4],[I 5],[I 6],[I 7],[I 4],[I 8],[I 9],[I 11],[I 12],[I 13],[I 10]] (gA D 0).toNat) 0)==1) (RJ Aq D G (I 220)) (cond (Af (nth .vD (nth [] [[I 4],[I 1],[I 2],[I 3],[I 4],[I 5],[I 6],[I 7],[I 4],[I 8],[I 9],[I 11],[I 12],[I 13],[I 10]] (gA D 0).toNat) 0)==2) (RJ Aq D G (I 220)) (cond (Af (nth .vD (nth [] [[I 4],[I 1],[I 2],[I 3],[I 4],[I 5],[I 6],[I 7],[I 4],[I 8],[I 9],[I 11],[I 12],[I 13],[I 10]] (gA D 0).toNat) 0)==5) ((Aq [I 3, .vC Aa (wA D 1),jA D 2]).bind λL=>
 some [I G,I (Af (nth .vD (nth [] [[I 4],[I 1],[I 2],[I 3],[I 4],[I 5],[I 6],[I 7],[I 4],[I 8],[I 9],[I 11],[I 12],[I 13],[I 10]] (gA D 0).toNat) 0)),jA L 0, .vC Aa (wA L 1),jA L 2]) (cond (Af (nth .vD (nth [] [[I 4],[I 1],[I 2],[I 3],[I 4],[I 5],[I 6],[I 7],[I 4],[I 8],[I 9],[I 11],[I 12],[I 13],[I 10]] (gA D 0).toNat) 0)==6) ((Aq [I 3, .vC Aa (wA D 1),jA D 2]).bind λM=>
 some [I G,I (Af (nth .vD (nth [] [[I 4],[I 1],[I 2],[I 3],[I 4],[I 5],[I 6],[I 7],[I 4],[I 8],[I 9],[I 11],[I 12],[I 13],[I 10]] (gA D 0).toNat) 0)),jA M 0, .vC Aa (wA M 1),jA M 2]) (cond (Af (nth .vD (nth [] [[I 4],[I 1],[I 2],[I 3],[I 4],[I 5],[I 6],[I 7],[I 4],[I 8],[I 9],[I 11],[I 12],[I 13],[I 10]] (gA D 0).toNat) 0)==7) (RJ Aq D G (I 300)) (cond (Af (nth .vD (nth [] [[I 4],[I 1],[I 2],[I 3],[I 4],[I 5],[I 6],[I 7],[I 4],[I 8],[I 9],[I 11],[I 12],[I 13],[I 10]] (gA D 0).toNat) 0)==8) ((Aq [I 5, .vC Aa (wA D 1),jA D 2]).bind λN=>
 some [I G,I (Af (nth .vD (nth [] [[I 4],[I 1],[I 2],[I 3],[I 4],[I 5],[I 6],[I 7],[I 4],[I 8],[I 9],[I 11],[I 12],[I 13],[I 10]] (gA D 0).toNat) 0)),I (V (gA N 0-1)), .vC Aa (wA N 1),jA N 2]) (cond (Af (nth .vD (nth [] [[I 4],[I 1],[I 2],[I 3],[I 4],[I 5],[I 6],[I 7],[I 4],[I 8],[I 9],[I 11],[I 12],[I 13],[I 10]] (gA D 0).toNat) 0)==13) ((Aq [I 4, .vC Aa (wA D 1),jA D 2]).bind λO=>
 (Aq [I 60, .vC Aa (wA O 1),jA O 2]).bind λS=>
 some [I G,I (Af (nth .vD (nth [] [[I 4],[I 1],[I 2],[I 3],[I 4],[I 5],[I 6],[I 7],[I 4],[I 8],[I 9],[I 11],[I 12],[I 13],[I 10]] (gA D 0).toNat) 0)),I (V (V (gA O 0*1048576)+gA S 0)), .vC Aa (wA S 1),jA S 2]) (some [I G,I (Af (nth .vD (nth [] [[I 4],[I 1],[I 2],[I 3],[I 4],[I 5],[I 6],[I 7],[I 4],[I 8],[I 9],[I 11],[I 12],[I 13],[I 10]] (gA D 0).toNat) 0)),I 0, .vC Aa (wA D 1),jA D 2])))))))) (none):=by kernel_rfl
def Mc:=Yo BD
theorem Zni:Aj PG (Qq0 BD):=Ao rfl ⟨I7,trivial⟩
theorem Zzn:Al PG (Z9n Mc):=rw1 (C:=Qq0 BD) Zni
def Qmu:Sk:=⟨[tf [sc 20000 0]],[(20000,95,[sa Aa,ci])],[]⟩
def Qkl:Sk:=⟨[tf [sb]],[(20000,95,[sa Aa,ci])],[]⟩
def Qwp:=qa 42 Qmu Qkl
def Qx5:Fn:=An PG C_cncref30_SamePulses_0 64 42 Qmu Qkl
theorem Zhp (D:Rw) (G:Int):Qx5 [.vC Aa D,I G]=
 some [B (decide (G<(D.length:Int))), .vC Aa D,I G]:=by kernel_rfl
def FY:=Qx5
theorem Zpv:Aj PG (C_cncref30_SamePulses_0):=Ao rfl trivial
theorem Za4:Al PG (Qwp FY):=rw1 (C:=C_cncref30_SamePulses_0) Zpv
def Qlx:Sk:=⟨[tf [sc 5 0]],[(5,95,[sa Aa,ci])],[]⟩
def Rt:=qa 40 Qg9 Qlx
def Q8y:Fn:=An PG C_cncref30_SamePulses_0 64 40 Qg9 Qlx
theorem Zsa (D:Rw):Q8y [.vC Aa D]=
 some [.vC Aa D,I 0]:=by kernel_rfl
def Cu:=Q8y
theorem Zxm:Aj PG (C_cncref30_SamePulses_0):=Ao rfl trivial
theorem Rb:Al PG (Rt Cu):=rw1 (C:=C_cncref30_SamePulses_0) Zxm
def Z60:=qa 23 Qg9 Qaz
def VV (D Aq G I:Fn):Cfg:={cp [Z9n D,JO Aq,Qwp G,Rt I] [63,41,42,40]with prom:=λb=>cond (Nat.beq b 4) ([(4,65)]) ([])}
def Q0z:Sk:=⟨[td,td,td,tf [sc 100700 0],tf [sd 4 3],tf [ci]]++dd 15,[(100700,95,[sa Aa,ci])],[(4,65,kPt)]⟩
def Q73:List (Ex×Sk):=[(Ex.exit 0,⟨[td,td,td,td,tf [sd 4 3]]++dd 16,[],[(4,65,kPt)]⟩)]
def Qqe (D Aq G I:Fn):Lp:=AL PG (VV D Aq G I) 64 4 (AK PG 23 4) Q0z Q73
def Zag (D Aq G I:Fn) (L:Lp):Cfg:=(VV D Aq G I).loop 4 Q0z Q73 L
def Qf1 (D Aq G I:Fn) (L:Lp):Fn:=An PG (Zag D Aq G I L) 64 23 Qg9 Qaz
theorem Zqd (O Aq S X:Fn) (M:Rw) (N:Int) (T:Rw) (U:Int):Qqe O Aq S X [.vC kPt M,I N, .vC Aa T,I U]=
 (S [.vC Aa T,I U]).bind λL=>
 cond (bA L 0) ((Aq [I 40, .vC Aa (wA L 1),jA L 2]).bind λG=>
 (O [I (V (N+gA G 0)), .vC Aa (wA G 1),jA G 2]).bind λD=>
 cond (((M++[[jA D 0,jA D 1,jA D 2]]).length*24).ble 140737488355328) (some (0,[.vC kPt (M++[[jA D 0,jA D 1,jA D 2]]),I (V (N+gA G 0)), .vC Aa (wA D 3),jA D 4])) (none)) (some (1,[.vC kPt M])):=by kernel_rfl
theorem Ya9 (O Aq S L:Fn) (M:Lp) (N:Rw):Qf1 O Aq S L M [.vC Aa N]=
 (L [.vC Aa N]).bind λD=>
 (M [.vC kPt [],I 0, .vC Aa (wA D 0),jA D 1]).bind λG=>
 cond (G.1.beq 1) (some [.vC kPt (wA G.2 0)]) (none):=by kernel_rfl
def Q75:=Am (Qqe Mc BD FY Cu)
def NQ:=Qf1 Mc BD FY Cu Q75
theorem Zcw:Aj PG (VV Mc BD FY Cu):=Ao rfl ⟨Zzn,I7,Za4,Rb,trivial⟩
theorem Z32:Al PG (Z60 NQ):=rw2 (C:=Zag Mc BD FY Cu Q75) (fl fb Zcw) Zcw
def Zxr:=qa 137 XD Qay
def Zeb:Fn:=An PG C_cncref30_SamePulses_0 64 137 XD Qay
theorem Yag (D G L M:Int):Zeb [I D,I G,I L,I M]=
 cond (M==17) (some [I D,I G,I L]) (cond (M==18) (some [I G,I L,I D]) (cond (M==19) (some [I L,I D,I G]) (some [I 0,I 0,I 0]))):=by kernel_rfl
def Oy:=Zeb
theorem Zpx:Aj PG (C_cncref30_SamePulses_0):=Ao rfl trivial
theorem Zmg:Al PG (Zxr Oy):=rw1 (C:=C_cncref30_SamePulses_0) Zpx
def Zob:=qa 136 Zo W9
def Q0f:Fn:=An PG C_cncref30_SamePulses_0 64 136 Zo W9
theorem Zzj (D G:Int):Q0f [I D,I G]=
 cond (decide (0<=G.tmod 4)&&decide (G.tmod 4<(↑[[I D],[I 0],[I (V (0-D))],[I 0]].length:Int))) (cond (decide (0<=G.tmod 4)&&decide (G.tmod 4<(↑[[I 0],[I D],[I 0],[I (V (0-D))]].length:Int))) (some [I (Af (nth .vD (nth [] [[I D],[I 0],[I (V (0-D))],[I 0]] (G.tmod 4).toNat) 0)),I (Af (nth .vD (nth [] [[I 0],[I D],[I 0],[I (V (0-D))]] (G.tmod 4).toNat) 0))]) (none)) (none):=by kernel_rfl
def O4:=Q0f
theorem Z5o:Aj PG (C_cncref30_SamePulses_0):=Ao rfl trivial
theorem Zuk:Al PG (Zob O4):=rw1 (C:=C_cncref30_SamePulses_0) Z5o
def Z9s:=qa 135 Qik Qj5
def Qy3:Fn:=An PG C_cncref30_SamePulses_0 64 135 Qik Qj5
theorem Zrn (D G L M:Int):Qy3 [I D,I G,I L,I M]=
 cond (M==17) (some [I D,I G,I L]) (cond (M==18) (some [I L,I D,I G]) (cond (M==19) (some [I G,I L,I D]) (some [I 0,I 0,I 0]))):=by kernel_rfl
def Od:=Qy3
theorem Z8l:Aj PG (C_cncref30_SamePulses_0):=Ao rfl trivial
theorem Z49:Al PG (Z9s Od):=rw1 (C:=C_cncref30_SamePulses_0) Z8l
def Qo9:Sk:=⟨[tf [sc 20000 0],TS.v true [ci,ci,ci],tf [ci]],[(20000,95,[sa Aa,ci])],[]⟩
def X9:Sk:=⟨[TS.v true (cc 13++[sb,ci,sb]++cc 5++[sb])],[(20000,95,[sa Aa,ci])],[]⟩
def Zwp:=qa 85 Qo9 X9
def Yk (D G I Aq:Fn):Cfg:=cp [Zxr D,Zob G,Z9s I,JO Aq] [41]
def Qj8 (D G I Aq:Fn):Fn:=An PG (Yk D G I Aq) 64 85 Qo9 X9
abbrev Sy (Aq Hy:Fn) (U M:List AC) (x0 x1 x2:Int) (G X Y:List AC) (N O S T:AC):Option (List AC):=
 (Aq [I 4,N,O]).bind λD=>
 cond (decide (0<=gA D 0)&&decide (gA D 0<(↑[[I 0],[I 0],[I 7],[I (-12)]].length:Int))) ((Hy [S,T,I (V (gA U 2+Af (nth .vD (nth [] [[I 0],[I 0],[I 7],[I (-12)]] (gA D 0).toNat) 0))),I (Af (nth .vD (nth [] [[I 17],[I 18],[I 19]] (gA M 0).toNat) 0))]).bind λL=>
 some [I 3,I 0,I x0,I x1,I x2,jA L 0,jA L 1,jA L 2,I (Af (nth .vD (nth [] [[I 17],[I 18],[I 19]] (gA M 0).toNat) 0)),jA G 0,jA G 1,jA G 2,I (V (1-V (gA X 0*2))),B (gA Y 0==0),I 0,B false,I 0,I 0,I 0,I 0,I 0,B false, .vC Aa (wA D 1),jA D 2]) (none)
theorem Z1c (Hy Md NG Aq:Fn) (x0 x1 x2 x3:Int) (x4:Rw) (x5:Int):Qj8 Hy Md NG Aq [I x0,I x1,I x2,I x3, .vC Aa x4,I x5]=
 (Aq [I 3, .vC Aa x4,I x5]).bind λG=>
 cond (decide (0<=gA G 0)&&decide (gA G 0<(↑[[I 17],[I 18],[I 19]].length:Int))) ((Aq [I 2, .vC Aa (wA G 1),jA G 2]).bind λS=>
 (Aq [I x3, .vC Aa (wA S 1),jA S 2]).bind λM=>
 (Aq [I 4, .vC Aa (wA M 1),jA M 2]).bind λU=>
 (Aq [I 4, .vC Aa (wA U 1),jA U 2]).bind λL=>
 (NG [I x0,I x1,I x2,I (Af (nth .vD (nth [] [[I 17],[I 18],[I 19]] (gA G 0).toNat) 0))]).bind λD=>
 (Md [I (V (8+gA M 0)),jA U 0]).bind λN=>
 (Md [I (V (8+gA M 0)),I (V (gA U 0+gA L 0))]).bind λO=>
 (Hy [I (V (gA D 0-gA N 0)),I (V (gA D 1-gA N 1)),jA D 2,I (Af (nth .vD (nth [] [[I 17],[I 18],[I 19]] (gA G 0).toNat) 0))]).bind λX=>
 cond (decide (gA L 0>0)) ((Aq [I 3, .vC Aa (wA L 1),jA L 2]).bind λT=>
 cond (gA T 0==0) (cond (decide (V (8+gA M 0)=0)) (none) ((Aq [I 5, .vC Aa (wA T 1),jA T 2]).bind λY=>
 cond (decide (V (8+gA M 0)=0)) (none) ((Aq [I 5, .vC Aa (wA Y 1),jA Y 2]).bind λa0=>
 Sy Aq Hy D G x0 x1 x2 X S L (.vC Aa (wA a0 1)) (jA a0 2) (I (V (V (gA D 0-gA N 0)+V (gA O 0+V (V ((gA O 0).tdiv (V (8+gA M 0)))*gA Y 0))))) (I (V (V (gA D 1-gA N 1)+V (gA O 1+V (V ((gA O 1).tdiv (V (8+gA M 0)))*gA a0 0)))))))) (Sy Aq Hy D G x0 x1 x2 X S L (.vC Aa (wA T 1)) (jA T 2) (I (V (V (gA D 0-gA N 0)+gA O 0))) (I (V (V (gA D 1-gA N 1)+gA O 1))))) (Sy Aq Hy D G x0 x1 x2 X S L (.vC Aa (wA L 1)) (jA L 2) (I (V (V (gA D 0-gA N 0)+gA O 0))) (I (V (V (gA D 1-gA N 1)+gA O 1))))) (none):=by kernel_rfl
def QD:=Qj8 Oy O4 Od BD
theorem Zet:Aj PG (Yk Oy O4 Od BD):=Ao rfl ⟨Zmg,Zuk,Z49,I7,trivial⟩
theorem Z6b:Al PG (Zwp QD):=rw1 (C:=Yk Oy O4 Od BD) Zet
def Zo7:=qa 43 Qo9 X9
def Wb (Aq D:Fn):Cfg:=cp [JO Aq,Zwp D] [41,85]
def V5 (Aq D:Fn):Fn:=An PG (Wb Aq D) 64 43 Qo9 X9
abbrev Qe9 (Aq:Fn) (a9:List AC) (x3:Int) (X Y a0 a1 a2 a3 a4 a5 a6 a7 G L M N O S T U:AC):Option (List AC):=
 (Aq [I 60, .vC Aa (wA a9 1),jA a9 2]).bind λD=>
 cond (x3==6) ((Aq [I 2, .vC Aa (wA D 1),jA D 2]).bind λa8=>
 some [X,Y,a0,a1,a2,a3,a4,a5,a6,a7,G,L,M,N,I (V (1+gA D 0)),B true,O,S,I 0,I (V (3+gA a8 0)),T,U, .vC Aa (wA a8 1),jA a8 2]) (some [X,Y,a0,a1,a2,a3,a4,a5,a6,a7,G,L,M,N,I (V (1+gA D 0)),B true,O,S,I 0,I 0,T,U, .vC Aa (wA D 1),jA D 2])
abbrev WW (x3:Int) (Aq:Fn) (V X Y a0 a1 a2 a3 a4 a5 a6 D G L M b2 a7 N O b3 a8 S T b0 b1:AC):Option (List AC):=
 cond (x3==1) (some [V,X,Y,a0,a1,a2,a3,a4,a5,a6,D,G,L,M,b2,a7,N,O,b3,a8,S,T,b0,b1]) ((Aq [I 5,b0,b1]).bind λa9=>
 cond (decide (0<=gA a9 0)&&decide (gA a9 0<(↑[[I 300000],[I 1],[I 60000],[I 2000000],[I 60000000]].length:Int))) ((Aq [I 5, .vC Aa (wA a9 1),jA a9 2]).bind λU=>
 cond (decide (0<=gA U 0)&&decide (gA U 0<(↑[[I 0],[I 1],[I 2],[I 4],[I 9]].length:Int))) (cond (x3==5) (Qe9 Aq U x3 V X Y a0 a1 a2 a3 a4 a5 a6 D G L M N O S T) (cond (x3==6) (Qe9 Aq U x3 V X Y a0 a1 a2 a3 a4 a5 a6 D G L M N O S T) (cond (x3==4) (some [V,X,Y,a0,a1,a2,a3,a4,a5,a6,D,G,L,M,I (Af (nth .vD (nth [] [[I 300000],[I 1],[I 60000],[I 2000000],[I 60000000]] (gA a9 0).toNat) 0)),a7,N,O,I 0,a8,S,T, .vC Aa (wA U 1),jA U 2]) (some [V,X,Y,a0,a1,a2,a3,a4,a5,a6,D,G,L,M,I (Af (nth .vD (nth [] [[I 300000],[I 1],[I 60000],[I 2000000],[I 60000000]] (gA a9 0).toNat) 0)),a7,N,O,I (Af (nth .vD (nth [] [[I 0],[I 1],[I 2],[I 4],[I 9]] (gA U 0).toNat) 0)),a8,S,T, .vC Aa (wA U 1),jA U 2])))) (none)) (none))
theorem Z3s (Aq Pm:Fn) (T U X S:Int) (Y:Rw) (x5:Int):V5 Aq Pm [I T,I U,I X,I S, .vC Aa Y,I x5]=
 cond (S==3) ((Pm [I T,I U,I X,I 8, .vC Aa Y,I x5]).bind λD=>
 WW S Aq (jA D 0) (jA D 1) (jA D 2) (jA D 3) (jA D 4) (jA D 5) (jA D 6) (jA D 7) (jA D 8) (jA D 9) (jA D 10) (jA D 11) (jA D 12) (B (bA D 13)) (jA D 14) (B (bA D 15)) (jA D 16) (jA D 17) (jA D 18) (jA D 19) (jA D 20) (B (bA D 21)) (.vC Aa (wA D 22)) (jA D 23)) ((Aq [I 25, .vC Aa Y,I x5]).bind λG=>
 (Aq [I 25, .vC Aa (wA G 1),jA G 2]).bind λL=>
 (Aq [I 3, .vC Aa (wA L 1),jA L 2]).bind λM=>
 (Aq [I 9, .vC Aa (wA M 1),jA M 2]).bind λN=>
 (Aq [I 2, .vC Aa (wA N 1),jA N 2]).bind λO=>
 WW S Aq (I S) (I 0) (I T) (I U) (I X) (I (V (V (T+gA G 0)-12))) (I (V (V (U+gA L 0)-12))) (I (V (V (X+V (gA M 0*gA N 0))-V (8*gA O 0)))) (I 0) (I 0) (I 0) (I 0) (I 0) (B false) (I 0) (B false) (I 0) (I 0) (I 0) (I 0) (I 0) (B false) (.vC Aa (wA O 1)) (jA O 2)):=by kernel_rfl
def Lb:=V5 BD QD
theorem Ztz:Aj PG (Wb BD QD):=Ao rfl ⟨I7,Z6b,trivial⟩
theorem Zrd:Al PG (Zo7 Lb):=rw1 (C:=Wb BD QD) Ztz
def Z9q:=qa 62 Qmu X9
def Qh5 (Aq:Fn):Cfg:=cp [JO Aq] [41]
def Y9 (Aq:Fn):Fn:=An PG (Qh5 Aq) 64 62 Qmu X9
abbrev Qpr (Aq:Fn) (o8:List AC):Option (List AC):=
 (Aq [I 16, .vC Aa (wA o8 1),jA o8 2]).bind λG=>
 (Aq [I 2, .vC Aa (wA G 1),jA G 2]).bind λD=>
 some [I 10,I 0,I 0,I 0,I 0,I 0,I 0,I 0,I 0,I 0,I 0,I 0,I 0,B false,I 0,B false,I 0,I 0,I 0,jA G 0,I 0,B (gA D 0==0), .vC Aa (wA D 1),jA D 2]
theorem Zmb (Aq:Fn) (M:Rw) (N:Int):Y9 Aq [.vC Aa M,I N]=
 (Aq [I 8, .vC Aa M,I N]).bind λo8=>
 cond (gA o8 0==0) (Qpr Aq o8) (cond (gA o8 0==1) (Qpr Aq o8) (cond (gA o8 0==2) ((Aq [I 5, .vC Aa (wA o8 1),jA o8 2]).bind λD=>
 some [I 7,I 0,I 0,I 0,I 0,I 0,I 0,I 0,I 0,I 0,I 0,I 0,I 0,B false,I 0,B false,I 0,I 0,I 0,jA D 0,I 0,B false, .vC Aa (wA D 1),jA D 2]) (cond (gA o8 0==3) ((Aq [I 3, .vC Aa (wA o8 1),jA o8 2]).bind λG=>
 (Aq [I 4000, .vC Aa (wA G 1),jA G 2]).bind λL=>
 some [I 8,I 0,I 0,I 0,I 0,I 0,I 0,I 0,I 0,I 0,I 0,I 0,I 0,B false,I 0,B false,I 0,I 0,I 0,I (V (3+gA G 0)),jA L 0,B false, .vC Aa (wA L 1),jA L 2]) (cond (gA o8 0==4) (some [I 9,I 0,I 0,I 0,I 0,I 0,I 0,I 0,I 0,I 0,I 0,I 0,I 0,B false,I 0,B false,I 0,I 0,I 0,I 8,I 0,B true, .vC Aa (wA o8 1),jA o8 2]) (cond (gA o8 0==5) (some [I 13,I 0,I 0,I 0,I 0,I 0,I 0,I 0,I 0,I 0,I 0,I 0,I 0,B false,I 0,B false,I 0,I 0,I 0,I 0,I 0,B false, .vC Aa (wA o8 1),jA o8 2]) (cond (gA o8 0==6) (some [I 12,I 0,I 0,I 0,I 0,I 0,I 0,I 0,I 0,I 0,I 0,I 0,I 0,B false,I 0,B false,I 0,I 0,I 0,I 0,I 0,B false, .vC Aa (wA o8 1),jA o8 2]) (some [I 11,I 0,I 0,I 0,I 0,I 0,I 0,I 0,I 0,I 0,I 0,I 0,I 0,B false,I 0,B false,I 0,I 0,I 0,I 1,I 0,B false, .vC Aa (wA o8 1),jA o8 2]))))))):=by kernel_rfl
def L0:=Y9 BD
theorem Yd2:Aj PG (Qh5 BD):=Ao rfl ⟨I7,trivial⟩
theorem Zve:Al PG (Z9q L0):=rw1 (C:=Qh5 BD) Yd2
def Qi0:Sk:=⟨[tf [sa Aa],tf [ci],tf [sb]],[],[]⟩
def Qm7:Sk:=⟨[tf [sd 8 22]],[],[(8,31,Ai)]⟩
def Z9m:=qa 22 Qi0 Qm7
def Qmv (D Hs G Aq I:Fn):Cfg:={cp [Zo7 D,Z9q Hs,Qwp G,JO Aq,Rt I] [43,62,42,41,40]with ownRes:=true,prom:=λb=>cond (Nat.beq b 4) ([(8,31)]) ([])}
def Qya:Sk:=⟨[td,tf [ci],tf [sb],td,td,td,td,tf [sc 101300 0],tf [sd 8 22],tf [sc 9 0]]++dd 64,[(9,29,[ci,ci,ci]),(101300,95,[sa Aa,ci])],[(8,31,Ai)]⟩
def Qs1:List (Ex×Sk):=[(Ex.exit 0,⟨[td,td,tf [sb],td,td,td,td,td,tf [sd 8 22]]++dd 65,[],[(8,31,Ai)]⟩)]
def Qri (D Hs G Aq I:Fn):Lp:=AL PG (Qmv D Hs G Aq I) 64 4 (AK PG 22 4) Qya Qs1
def Zde (D Hs G Aq I:Fn) (L:Lp):Cfg:=(Qmv D Hs G Aq I).loop 4 Qya Qs1 L
def Qrw (D Hs G Aq I:Fn) (L:Lp):Fn:=An PG (Zde D Hs G Aq I L) 64 22 Qi0 Qm7
theorem Z6w (Gm Hs CO Aq A6:Fn) (M:Rw) (U:Int) (T:Bool) (X Y v5:Int) (v6:Rw) (v7:Int):Qri Gm Hs CO Aq A6 [.vC Ai M,I U,B T,I X,I Y,I v5, .vC Aa v6,I v7]=
 cond (decide ((M.length:Int)<U)) ((CO [.vC Aa v6,I v7]).bind λS=>
 cond (bA S 0) ((Aq [I 12, .vC Aa (wA S 1),jA S 2]).bind λL=>
 cond (decide (gA L 0<4)) ((Hs [.vC Aa (wA L 1),jA L 2]).bind λG=>
 cond (((M++[[jA G 0,jA G 1,jA G 2,jA G 3,jA G 4,jA G 5,jA G 6,jA G 7,jA G 8,jA G 9,jA G 10,jA G 11,jA G 12,B (bA G 13),jA G 14,B (bA G 15),jA G 16,jA G 17,jA G 18,jA G 19,jA G 20,B (bA G 21)]]).length*176).ble 140737488355328) (some (0,[.vC Ai (M++[[jA G 0,jA G 1,jA G 2,jA G 3,jA G 4,jA G 5,jA G 6,jA G 7,jA G 8,jA G 9,jA G 10,jA G 11,jA G 12,B (bA G 13),jA G 14,B (bA G 15),jA G 16,jA G 17,jA G 18,jA G 19,jA G 20,B (bA G 21)]]),I U,B T,I X,I Y,I v5, .vC Aa (wA G 22),jA G 23])) (none)) (cond (decide (0<=V (gA L 0-4))&&decide (V (gA L 0-4)<(↑[[I 2],[I 2],[I 2],[I 3],[I 1],[I 6],[I 5],[I 4]].length:Int))) ((Gm [I X,I Y,I v5,I (Af (nth .vD (nth [] [[I 2],[I 2],[I 2],[I 3],[I 1],[I 6],[I 5],[I 4]] (V (gA L 0-4)).toNat) 0)), .vC Aa (wA L 1),jA L 2]).bind λD=>
 cond (gA D 0==5) ((Aq [I 2, .vC Aa (wA D 22),jA D 23]).bind λN=>
 (Aq [I 3000, .vC Aa (wA N 1),jA N 2]).bind λO=>
 cond (((M++[[I 8,I 0,I 0,I 0,I 0,I 0,I 0,I 0,I 0,I 0,I 0,I 0,I 0,B false,I 0,B false,I 0,I 0,I 0,I (V (3+gA N 0)),I (V (200+gA O 0)),B false]]).length*176).ble 140737488355328) (cond (((M++[[I 8,I 0,I 0,I 0,I 0,I 0,I 0,I 0,I 0,I 0,I 0,I 0,I 0,B false,I 0,B false,I 0,I 0,I 0,I (V (3+gA N 0)),I (V (200+gA O 0)),B false]]++[[jA D 0,jA D 1,jA D 2,jA D 3,jA D 4,jA D 5,jA D 6,jA D 7,jA D 8,jA D 9,jA D 10,jA D 11,jA D 12,B (bA D 13),jA D 14,B (bA D 15),jA D 16,jA D 17,jA D 18,jA D 19,jA D 20,B (bA D 21)]]).length*176).ble 140737488355328) (some (0,[.vC Ai (M++[[I 8,I 0,I 0,I 0,I 0,I 0,I 0,I 0,I 0,I 0,I 0,I 0,I 0,B false,I 0,B false,I 0,I 0,I 0,I (V (3+gA N 0)),I (V (200+gA O 0)),B false]]++[[jA D 0,jA D 1,jA D 2,jA D 3,jA D 4,jA D 5,jA D 6,jA D 7,jA D 8,jA D 9,jA D 10,jA D 11,jA D 12,B (bA D 13),jA D 14,B (bA D 15),jA D 16,jA D 17,jA D 18,jA D 19,jA D 20,B (bA D 21)]]),I U,B T,jA D 5,jA D 6,jA D 7, .vC Aa (wA O 1),jA O 2])) (none)) (none)) (cond (((M++[[jA D 0,jA D 1,jA D 2,jA D 3,jA D 4,jA D 5,jA D 6,jA D 7,jA D 8,jA D 9,jA D 10,jA D 11,jA D 12,B (bA D 13),jA D 14,B (bA D 15),jA D 16,jA D 17,jA D 18,jA D 19,jA D 20,B (bA D 21)]]).length*176).ble 140737488355328) (some (0,[.vC Ai (M++[[jA D 0,jA D 1,jA D 2,jA D 3,jA D 4,jA D 5,jA D 6,jA D 7,jA D 8,jA D 9,jA D 10,jA D 11,jA D 12,B (bA D 13),jA D 14,B (bA D 15),jA D 16,jA D 17,jA D 18,jA D 19,jA D 20,B (bA D 21)]]),I U,B T,jA D 5,jA D 6,jA D 7, .vC Aa (wA D 22),jA D 23])) (none))) (none))) (some (1,[.vC Ai M,B T]))) (some (1,[.vC Ai M,B T])):=by kernel_rfl
theorem Zvs (Y Hs CO Aq O:Fn) (S:Lp) (T:Rw) (U:Int) (X:Bool):Qrw Y Hs CO Aq O S [.vC Aa T,I U,B X]=
 (O [.vC Aa T]).bind λN=>
 (Aq [I 9, .vC Aa (wA N 0),jA N 1]).bind λG=>
 (Aq [I 9, .vC Aa (wA G 1),jA G 2]).bind λL=>
 (Aq [I 9, .vC Aa (wA L 1),jA L 2]).bind λM=>
 (S [.vC Ai [],I U,B X,I (V (gA G 0-4)),I (V (gA L 0-4)),I (V (gA M 0-4)), .vC Aa (wA M 1),jA M 2]).bind λD=>
 cond (D.1.beq 1) (cond (bA D.2 1) (cond (((wA D.2 0++[[I 14,I 0,I 0,I 0,I 0,I 0,I 0,I 0,I 0,I 0,I 0,I 0,I 0,B false,I 0,B false,I 0,I 0,I 0,I 0,I 0,B false]]).length*176).ble 140737488355328) (some [.vC Ai (wA D.2 0++[[I 14,I 0,I 0,I 0,I 0,I 0,I 0,I 0,I 0,I 0,I 0,I 0,I 0,B false,I 0,B false,I 0,I 0,I 0,I 0,I 0,B false]])]) (none)) (some [.vC Ai (wA D.2 0)])) (none):=by kernel_rfl
def Qda:=Am (Qri Lb L0 FY BD Cu)
def Ma:=Qrw Lb L0 FY BD Cu Qda
theorem Q3t:Aj PG (Qmv Lb L0 FY BD Cu):=Ao rfl ⟨Zrd,Zve,Za4,I7,Rb,trivial⟩
theorem Z0l:Al PG (Z9m Ma):=rw2 (C:=Zde Lb L0 FY BD Cu Qda) (fl fb Q3t) Q3t
def Zfh:=qa 45 Qg9 Qay
def Qez (Aq D:Fn):Cfg:=cp [JO Aq,Rt D] [41,40]
def VR (Aq D:Fn):Fn:=An PG (Qez Aq D) 64 45 Qg9 Qay
theorem Z2a (Aq G:Fn) (L:Rw):VR Aq G [.vC Aa L]=
 (G [.vC Aa L]).bind λo4=>
 (Aq [I 900, .vC Aa (wA o4 0),jA o4 1]).bind λD=>
 (Aq [I 200, .vC Aa (wA D 1),jA D 2]).bind λo6=>
 (Aq [I 16000, .vC Aa (wA o6 1),jA o6 2]).bind λM=>
 some [I (V (1+gA D 0)),I (V (2+gA o6 0)),I (V (1+gA M 0))]:=by kernel_rfl
def RW:=VR BD Cu
theorem Zey:Aj PG (Qez BD Cu):=Ao rfl ⟨I7,Rb,trivial⟩
theorem Zyz:Al PG (Zfh RW):=rw1 (C:=Qez BD Cu) Zey
def Ws:Sk:=⟨[TS.v true (cc 9++[sa Aa])],[(20000,95,[sa Aa,ci])],[]⟩
def Zmy:=qa 86 Qmu Ws
def X8 (Aq:Fn):Cfg:={spec:=G6 [JO Aq],eqOk:=Km,pure:=λf=> !(AN [41] f),ownOff:=Zu9}
def Qt5:Sk:=⟨[tf [sc 20000 0],td,tf [sc 2 0],tf [sc 3 0],tf [ci],tf [ci],tf [ci]]++dd 72,[(2,33,cc 9++[sd 1002009 1]),(3,33,cc 9++[sd 1003009 1]),(20000,95,[sa Aa,ci])],[(1002009,3,Aa),(1003009,3,Aa)]⟩
def Q2a:List (Ex×Sk):=[(Ex.exit 0,⟨[td,td,tf [sc 2 0],tf [sc 3 0]]++dd 75,[(2,33,cc 9++[sd 1002009 1]),(3,33,cc 9++[sd 1003009 1]),(20000,95,[sa Aa,ci])],[(1002009,3,Aa),(1003009,3,Aa)]⟩)]
def Sl (Aq:Fn):Lp:=AL PG (X8 Aq) 64 11 (AK PG 86 11) Qt5 Q2a
def Qt4 (Aq:Fn) (D:Lp):Cfg:=(X8 Aq).loop 11 Qt5 Q2a D
def V7 (Aq:Fn) (D:Lp):Fn:=An PG (Qt4 Aq D) 64 86 Qmu Ws
theorem Q8m (Aq:Fn) (v0 X:Rw) (v2 Y v4 v5 v6 v7 v8 v9 v10 v11 v12 D G L M N O S v20 v21 v22:Int) (T:Rw) (v24:Int):Sl Aq [.vC Aa v0, .vC Aa X,I v2,I Y,I v4,I v5,I v6,I v7,I v8,I v9,I v10,I v11,I v12,I D,I G,I L,I M,I N,I O,I S,I v20,I v21,I v22, .vC Aa T,I v24]=
 cond (decide (v4<v2)) (cond (((X++[[I Y]]).length*8).ble 140737488355328) ((Aq [I (V (V (2*V (v22.tdiv 4))+1)), .vC Aa T,I v24]).bind λU=>
 some (0,[.vC Aa v0, .vC Aa (X++[[I Y]]),I v2,I (mn (mx (V (V (Y+gA U 0)-V (v22.tdiv 4))) (-4096)) 4096),I (V (v4+1)),I v5,I v6,I v7,I v8,I v9,I v10,I v11,I v12,I D,I G,I L,I M,I N,I O,I S,I v20,I v21,I v22, .vC Aa (wA U 1),jA U 2])) (none)) (some (1,[.vC Aa v0, .vC Aa X,I v5,I v6,I v7,I v8,I v9,I v10,I v11,I v12,I D,I G,I L,I M,I N,I O,I S,I v20,I v21,I v22, .vC Aa T,I v24])):=by kernel_rfl
theorem Zic (Aq:Fn) (Y:Lp) (x0:Rw) (x1:Int):V7 Aq Y [.vC Aa x0,I x1]=
 (Aq [I 6, .vC Aa x0,I x1]).bind λG=>
 cond (decide (0<=gA G 0)&&decide (gA G 0<(↑[[I 8],[I 4],[I 5],[I 16],[I 23],[I 64]].length:Int))) ((Aq [I 4, .vC Aa (wA G 1),jA G 2]).bind λL=>
 cond (decide (0<=gA L 0)&&decide (gA L 0<(↑[[I 0],[I 1],[I 3],[I 6]].length:Int))) ((Aq [I 5, .vC Aa (wA L 1),jA L 2]).bind λM=>
 cond (decide (0<=gA M 0)&&decide (gA M 0<(↑[[I 40],[I 1],[I 3],[I 9],[I 1000]].length:Int))) ((Aq [I 5, .vC Aa (wA M 1),jA M 2]).bind λN=>
 cond (decide (0<=gA N 0)&&decide (gA N 0<(↑[[I 20],[I 2],[I 3],[I 5],[I 1000]].length:Int))) ((Aq [I 5, .vC Aa (wA N 1),jA N 2]).bind λO=>
 cond (decide (0<=gA O 0)&&decide (gA O 0<(↑[[I 30],[I 4],[I 5],[I 8],[I 1000]].length:Int))) ((Aq [I 5, .vC Aa (wA O 1),jA O 2]).bind λS=>
 cond (gA S 0==0) (some [I (Af (nth .vD (nth [] [[I 8],[I 4],[I 5],[I 16],[I 23],[I 64]] (gA G 0).toNat) 0)),I (Af (nth .vD (nth [] [[I 40],[I 1],[I 3],[I 9],[I 1000]] (gA M 0).toNat) 0)),I (Af (nth .vD (nth [] [[I 20],[I 2],[I 3],[I 5],[I 1000]] (gA N 0).toNat) 0)),I (Af (nth .vD (nth [] [[I 30],[I 4],[I 5],[I 8],[I 1000]] (gA O 0).toNat) 0)),I (-16777216),I 16777216,I (Af (nth .vD (nth [] [[I 0],[I 1],[I 3],[I 6]] (gA L 0).toNat) 0)),I 0,I 0, .vC Aa [], .vC Aa (wA S 1),jA S 2]) ((Aq [I 400, .vC Aa (wA S 1),jA S 2]).bind λT=>
 (Aq [I 120, .vC Aa (wA T 1),jA T 2]).bind λU=>
 (Aq [I 9, .vC Aa (wA U 1),jA U 2]).bind λX=>
 (Y [.vC Aa [], .vC Aa [],jA S 0,I (V (gA X 0-4)),I 0,I 0,I 0,I 0,I 0,I 0,I 0,I 0,I 0,I 0,I (Af (nth .vD (nth [] [[I 8],[I 4],[I 5],[I 16],[I 23],[I 64]] (gA G 0).toNat) 0)),I (Af (nth .vD (nth [] [[I 40],[I 1],[I 3],[I 9],[I 1000]] (gA M 0).toNat) 0)),I (Af (nth .vD (nth [] [[I 20],[I 2],[I 3],[I 5],[I 1000]] (gA N 0).toNat) 0)),I (Af (nth .vD (nth [] [[I 30],[I 4],[I 5],[I 8],[I 1000]] (gA O 0).toNat) 0)),I (-16777216),I 16777216,I (Af (nth .vD (nth [] [[I 0],[I 1],[I 3],[I 6]] (gA L 0).toNat) 0)),I (V (gA T 0-200)),I (V (4+gA U 0)), .vC Aa (wA X 1),jA X 2]).bind λD=>
 cond (D.1.beq 1) (some [jA D.2 11,jA D.2 12,jA D.2 13,jA D.2 14,jA D.2 15,jA D.2 16,jA D.2 17,jA D.2 18,jA D.2 19, .vC Aa (wA D.2 1), .vC Aa (wA D.2 20),jA D.2 21]) (none))) (none)) (none)) (none)) (none)) (none):=by kernel_rfl
def Qqs:=Am (Sl BD)
def Nl:=V7 BD Qqs
theorem Qw9:Aj PG (X8 BD):=Ao rfl ⟨I7,trivial⟩
theorem Z89:Al PG (Zmy Nl):=rw2 (C:=Qt4 BD Qqs) (fl fb Qw9) Qw9
def Qll:Sk:=⟨[TS.v true (cc 9++[sa Aa]++cc 9++[sa Aa]++cc 9++[sa Aa])],[],[]⟩
def Z7f:=qa 44 Qg9 Qll
def Qex (D G:Fn):Cfg:=cp [Zmy D,Rt G] [86,40]
def Qzt (D G:Fn):Fn:=An PG (Qex D G) 64 44 Qg9 Qll
theorem Yct (I L:Fn) (M:Rw):Qzt I L [.vC Aa M]=
 (L [.vC Aa M]).bind λo4=>
 (I [.vC Aa (wA o4 0),jA o4 1]).bind λD=>
 (I [.vC Aa (wA D 10),jA D 11]).bind λo6=>
 (I [.vC Aa (wA o6 10),jA o6 11]).bind λG=>
 some [jA D 0,jA D 1,jA D 2,jA D 3,jA D 4,jA D 5,jA D 6,jA D 7,jA D 8, .vC Aa (wA D 9),jA o6 0,jA o6 1,jA o6 2,jA o6 3,jA o6 4,jA o6 5,jA o6 6,jA o6 7,jA o6 8, .vC Aa (wA o6 9),jA G 0,jA G 1,jA G 2,jA G 3,jA G 4,jA G 5,jA G 6,jA G 7,jA G 8, .vC Aa (wA G 9)]:=by kernel_rfl
def OA:=Qzt Nl Cu
theorem Ybb:Aj PG (Qex Nl Cu):=Ao rfl ⟨Z89,Rb,trivial⟩
theorem Zs6:Al PG (Z7f OA):=rw1 (C:=Qex Nl Cu) Ybb
def Qsi:Sk:=⟨[tf [sa Aa],tf [sa Aa]],[],[]⟩
def Znt:=qa 14 Qsi WO
def WG (Aq D G I:Fn):Cfg:=cp [JO Aq,Zfh D,Z7f G,Rt I] [41,40]
def Yx (Aq D G I:Fn):Fn:=An PG (WG Aq D G I) 64 14 Qsi WO
theorem Z1v (Aq L M N:Fn) (O D:Rw):Yx Aq L M N [.vC Aa O, .vC Aa D]=
 (N [.vC Aa D]).bind λS=>
 (M [.vC Aa O]).bind λo6=>
 (L [.vC Aa D]).bind λG=>
 (Aq [I 60000, .vC Aa (wA S 0),I (mn 3 (D.length:Int))]).bind λo8=>
 (Aq [I 40, .vC Aa (wA o8 1),jA o8 2]).bind λT=>
 some [jA o6 0,jA o6 1,jA o6 2,jA o6 3,jA o6 4,jA o6 5,jA o6 6,jA o6 7,jA o6 8, .vC Aa (wA o6 9),jA o6 10,jA o6 11,jA o6 12,jA o6 13,jA o6 14,jA o6 15,jA o6 16,jA o6 17,jA o6 18, .vC Aa (wA o6 19),jA o6 20,jA o6 21,jA o6 22,jA o6 23,jA o6 24,jA o6 25,jA o6 26,jA o6 27,jA o6 28, .vC Aa (wA o6 29),jA G 0,jA G 1,jA G 2,I (V (1+gA o8 0)),jA T 0]:=by kernel_rfl
def NS:=Yx BD RW OA Cu
theorem Z24:Aj PG (WG BD RW OA Cu):=Ao rfl ⟨I7,Zyz,Zs6,Rb,trivial⟩
theorem Yan:Al PG (Znt NS):=rw1 (C:=WG BD RW OA Cu) Z24
attribute [go_sem] RX Oe JS Qq6 Qgr Qd5 Yc QX UE SA SC To Qb3 Rq Zv Qi5 Qhw Qev Lo Rm P6 RJ Sy Qe9 WW Qpr
end Go.Bm
