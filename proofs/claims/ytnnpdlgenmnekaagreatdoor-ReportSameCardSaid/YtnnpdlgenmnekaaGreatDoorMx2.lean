/- functions of the program and of the references, as models -/
import Derived.Test.YtnnpdlgenmnekaaGreatDoorMx1
set_option linter.unusedSimpArgs false
set_option linter.unusedVariables false
set_option maxRecDepth 100000
noncomputable section
open Go.IntKind (wrap)
namespace Go.Bm
open Go.Proofs
def Ybj:=qa 152 Qcg Qkz
def Qg5 (D G I:Fn):Cfg:=cr [Z63 D,Sl G,PR I] [102] [102]
def Z05 (D G I:Fn):Fn:=An PG (Qg5 D G I) 64 152 Qcg Qkz
abbrev Z96 (O:Int) (S:Fn) (c:Cv) (K:Kf) (D:List AC) (G:AC):Option (List AC):=
 cond (decide (V (O.tdiv 1048576)=(↑0:Int))) ((S [I c.g0,I c.g1,I c.g2,I K.lag,jA D 0,jA D 1,jA D 2,G,jA D 1,jA D 2]).bind λL=>
 some (Ad K {c with g0:=gA L 0,g1:=gA L 1,g2:=gA L 2})) (cond (decide (V (O.tdiv 1048576)=(↑(0+1):Int))) ((S [I c.g0,I c.g1,I c.g2,I K.lag,jA D 0,jA D 1,jA D 2,jA D 0,G,jA D 2]).bind λM=>
 some (Ad K {c with g0:=gA M 0,g1:=gA M 1,g2:=gA M 2})) (cond (decide (V (O.tdiv 1048576)=(↑(0+1+1):Int))) ((S [I c.g0,I c.g1,I c.g2,I K.lag,jA D 0,jA D 1,jA D 2,jA D 0,jA D 1,G]).bind λN=>
 some (Ad K {c with g0:=gA N 0,g1:=gA N 1,g2:=gA N 2})) (none)))
def Lu:=Z05 SP El Db
theorem Z2z:Ai PG (Qg5 SP El Db):=Hx (rs:=[102]) rfl ⟨Zrf,Um,PV,trivial⟩ rfl (Ci rfl (Ci rfl (FE HG)))
theorem Zj8:Al PG (Ybj Lu):=rw1 (C:=Qg5 SP El Db) Z2z
def Zp:Sk:=⟨[],[],[]⟩
def Qr3:=qa 96 Zp ZP
def RI:Fn:=An PG C_cncref30_SamePulses_0 64 96 Zp ZP
theorem Qtr:RI []=
 some [I 0,I 0,I (-1)]:=by kernel_rfl
def JQ:=RI
theorem Znu:Ai PG (C_cncref30_SamePulses_0):=Ao rfl trivial
theorem Qxc:Al PG (Qr3 JQ):=rw1 (C:=C_cncref30_SamePulses_0) Znu
def Zpy:=qa 194 Qea ZP
def XL:Fn:=An PG C_cncref30_SamePulses_0 64 194 Qea ZP
theorem Zsw (G D L M N:Int):XL [I G,I D,I L,I M,I N]=
 cond (G==2) (some [I G,I D,I L]) (cond (D==0) (some [I 1,I M,I N]) (some [I 1,I D,I L])):=by kernel_rfl
def Qn:=XL
theorem Ztw:Ai PG (C_cncref30_SamePulses_0):=Ao rfl trivial
theorem Zwk:Al PG (Zpy Qn):=rw1 (C:=C_cncref30_SamePulses_0) Ztw
def Qbn:Sk:=⟨[TS.v true [ci,ci,ci],TS.v true [ci,ci,ci]],[],[]⟩
def Zl6:=qa 151 Qbn ZP
def Qlh (D G:Fn):Cfg:=cf [Qr3 D,Zpy G]
def Qfi (D G:Fn):Fn:=An PG (Qlh D G) 64 151 Qbn ZP
theorem Zhj (T O:Fn) (D G L U M N:Int):Qfi T O [I D,I G,I L,I U,I M,I N]=
 cond (M==10) (some [I 2,I 22,I (-1)]) (cond (M==9) ((O [I D,I G,I L,I 21,I (-1)]).bind λo3=>
 some [jA o3 0,jA o3 1,jA o3 2]) (cond (M==8) (cond (decide (N>=0)) (cond (decide (N<=2)) ((O [I D,I G,I L,I 20,I N]).bind λo4=>
 some [jA o4 0,jA o4 1,jA o4 2]) (some [I D,I G,I L])) (some [I D,I G,I L])) (cond (M==11) ((T []).bind λS=>
 some [jA S 0,jA S 1,jA S 2]) (some [I D,I G,I L])))):=by kernel_rfl
def Ul:=Qfi JQ Qn
theorem Zpx:Ai PG (Qlh JQ Qn):=Ao rfl ⟨Qxc,Zwk,trivial⟩
theorem Z0o:Al PG (Zl6 Ul):=rw1 (C:=Qlh JQ Qn) Zpx
def Qp7:Sk:=⟨[tf [sb],tf [ci]],[],[]⟩
def Zmw:=qa 193 Qp7 Qhz
def Yk:Fn:=An PG C_cncref30_SamePulses_0 64 193 Qp7 Qhz
theorem Zhp (G:Bool) (D:Int):Yk [B G,I D]=
 cond (D==0) (some [B false]) (cond (D==1) (some [B true]) (some [B G])):=by kernel_rfl
def Py:=Yk
theorem Zkj:Ai PG (C_cncref30_SamePulses_0):=Ao rfl trivial
theorem Zmn:Al PG (Zmw Py):=rw1 (C:=C_cncref30_SamePulses_0) Zkj
def Qne:Sk:=⟨[TS.v true [ci,ci,sb,sb,sb],TS.v true [ci,ci,ci]],[],[]⟩
def Qng:Sk:=⟨[TS.v true [ci,ci,sb,sb,sb]],[],[]⟩
def Zsx:=qa 150 Qne Qng
def ZB (D:Fn):Cfg:=cf [Zmw D]
def RS (D:Fn):Fn:=An PG (ZB D) 64 150 Qne Qng
theorem Q0x (T:Fn) (L M:Int) (N D G:Bool) (U S O:Int):RS T [I L,I M,B N,B D,B G,I U,I S,I O]=
 cond (S==1) (cond (decide (0<=O)) (cond (decide (O<=200)) (some [I O,I M,B N,B D,B G]) (some [I L,I M,B N,B D,B G])) (some [I L,I M,B N,B D,B G])) (cond (S==2) (cond (decide (0<=O)) (cond (decide (O<=100)) (some [I L,I O,B N,B D,B G]) (some [I L,I M,B N,B D,B G])) (some [I L,I M,B N,B D,B G])) (cond (S==3) (some [I L,I M,B true,B D,B G]) (cond (S==4) (some [I L,I M,B false,B D,B G]) (cond (S==5) ((T [B D,I O]).bind λo2=>
 some [I L,I M,B N,B (bA o2 0),B G]) (cond (S==6) ((T [B G,I O]).bind λo3=>
 some [I L,I M,B N,B D,B (bA o3 0)]) (some [I L,I M,B N,B D,B G])))))):=by kernel_rfl
def R_:=RS Py
theorem Zp7:Ai PG (ZB Py):=Ao rfl ⟨Zmn,trivial⟩
theorem Zx4:Al PG (Zsx R_):=rw1 (C:=ZB Py) Zp7
def WB:Sk:=⟨[tf [sd 20000 0],TS.v true [ci,ci,ci]],[(20000,179,cS)],[]⟩
def Zpf:=qa 99 WB Qkz
def Qnn (D G I L M:Fn):Cfg:=cp [Zlh D,Z4m G,Ybj I,Zl6 L,Zsx M] [154,153,152]
def XQ (D G I L M:Fn):Fn:=An PG (Qnn D G I L M) 64 99 WB Qkz
theorem Zln (N O S T U:Fn) (M G L:Int) (K:Kf) (c:Cv):XQ N O S T U (I M::I G::I L::Ad K c)=
 (U [I c.o0,I c.o1,B c.o2,B c.o3,B c.o4,I M,I G,I L]).bind λD=>
 (T [I c.g0,I c.g1,I c.g2,I M,I G,I L]).bind λo6=>
 cond (G==13) ((S (I L::Ad K {c with o0:=gA D 0,o1:=gA D 1,o2:=bA D 2,o3:=bA D 3,o4:=bA D 4,g0:=gA o6 0,g1:=gA o6 1,g2:=gA o6 2})).bind λV=>
 some (cR 0 V)) (cond (G==11) (some (Ad K {c with o0:=gA D 0,o1:=gA D 1,o2:=true,o3:=bA D 3,o4:=bA D 4,g0:=gA o6 0,g1:=gA o6 1,g2:=gA o6 2})) (cond (G==12) ((O (Ad K {c with o0:=gA D 0,o1:=gA D 1,o2:=bA D 2,o3:=bA D 3,o4:=bA D 4,g0:=gA o6 0,g1:=gA o6 1,g2:=gA o6 2})).bind λo8=>
 some (cR 0 o8)) (cond (G==7) ((N (I L::Ad K {c with o0:=gA D 0,o1:=gA D 1,o2:=bA D 2,o3:=bA D 3,o4:=bA D 4,g0:=gA o6 0,g1:=gA o6 1,g2:=gA o6 2})).bind λX=>
 some (cR 0 X)) (cond (G==4) (some (Ad K {c with o0:=gA D 0,o1:=gA D 1,o2:=bA D 2,o3:=bA D 3,o4:=bA D 4,g0:=gA o6 0,g1:=gA o6 1,g2:=gA o6 2,aJ:=true})) (some (Ad K {c with o0:=gA D 0,o1:=gA D 1,o2:=bA D 2,o3:=bA D 3,o4:=bA D 4,g0:=gA o6 0,g1:=gA o6 1,g2:=gA o6 2})))))):=by kernel_rfl
def Lq:=XQ TI Q3 Lu Ul R_
theorem Zto:Ai PG (Qnn TI Q3 Lu Ul R_):=Ao rfl ⟨Ya1,Zqh,Zj8,Z0o,Zx4,trivial⟩
theorem Zhw:Al PG (Zpf Lq):=rw1 (C:=Qnn TI Q3 Lu Ul R_) Zto
def Qqc:Sk:=⟨[tf [sd 20000 0],tf [sa kPt]],[(20000,179,cS)],[]⟩
def YP:Sk:=⟨[TS.v true ([sa kPt,sa Aa]++cc 7)],[(20000,179,cS)],[]⟩
def Ybi:=qa 55 Qqc YP
def Qep (D G I L M N O S T U V X:Fn):Cfg:=cr [Zvp D,Znw G,Zpg I,Zwf L,Zww M,Zph N,Zpq O,Zun S,PR T,Z98 U,Zvz V,Zpf X] [110,109,108,107,106,105,104,102,100,99] [102,100]
def Q2r:Sk:=⟨[tf [sd 20000 0],td,td,td,tf [sd 4 0]]++dd 14++[tf [sa kPt],tf [ci],tf [ci]]++dd 93,[(4,61,[sa kPt,sa Aa]++cc 7),(20000,179,cS)],[]⟩
def Zav:List (Ex×Sk):=[(Ex.exit 0,⟨[tf [sd 20000 0],td,td,td,tf [sd 4 0]]++dd 110,[(4,61,[sa kPt,sa Aa]++cc 7),(20000,179,cS)],[]⟩)]
def RA (D G I L M N O S T U V X:Fn):Lp:=AL PG (Qep D G I L M N O S T U V X) 64 3 (AN PG 55 3) Q2r Zav
def Qzi (D G I L M N O S T U V X:Fn) (Y:Lp):Cfg:=(Qep D G I L M N O S T U V X).loop 3 Q2r Zav Y
def Q7f:Sk:=⟨[tf [sd 20000 0],td,td,td,tf [sd 4 0],td,td,tf [ci],tf [sd 8 0]]++dd 81++[tf [CS.bsl 90 5],tf [ci],tf [ci]]++dd 22,[(4,61,[sa kPt,sa Aa]++cc 7),(8,61,[sa kPt,sa Aa]++cc 7),(90,186,[CS.clo 104 [(20000,0)] [],CS.clo 105 [(20000,0)] [],CS.clo 106 [(20000,0)] [],CS.clo 107 [(20000,0)] [],CS.clo 108 [(20000,0)] []]),(20000,179,cS)],[]⟩
def Q6o:List (Ex×Sk):=[(Ex.exit 2,⟨[tf [sd 20000 0],td,td,td,tf [sd 4 0],td,td,tf [ci],tf [sd 8 0]]++dd 106,[(4,61,[sa kPt,sa Aa]++cc 7),(8,61,[sa kPt,sa Aa]++cc 7),(20000,179,cS)],[]⟩)]
def IQ (D G I L M N O S T U V X:Fn) (Y:Lp):Lp:=AL PG (Qzi D G I L M N O S T U V X Y) 64 16 (AN PG 55 16) Q7f Q6o
def Qxx (G I L M N O S T U V X Y:Fn) (N3 D:Lp):Cfg:=(Qzi G I L M N O S T U V X Y N3).loop 16 Q7f Q6o D
def Qmo (G I L M N O S T U V X Y:Fn) (N3 D:Lp):Fn:=An PG (Qxx G I L M N O S T U V X Y N3 D) 64 55 Qqc YP
theorem Zpt (Co CF D8 Eg Eb D5 Ec CT A3 De Dc D0:Fn) (G:Rw) (L D:Int) (M N:Rw) (O S T U X v10 v11:Int) (K:Kf) (c:Cv):RA Co CF D8 Eg Eb D5 Ec CT A3 De Dc D0 (.vC kPt G::I L::I D:: .vC kPt M:: .vC Aa N::I O::I S::I T::I U::I X::I v10::I v11::Ad K c)=
 cond (decide (D<L)) (cond (decide (0<=D)&&decide (D<(G.length:Int))) ((D0 (jA (nth [] G D.toNat) 0::jA (nth [] G D.toNat) 1::jA (nth [] G D.toNat) 2::Ad K c)).bind λY=>
 some (0,(.vC kPt G::I L::I (V (D+1)):: .vC kPt M:: .vC Aa N::I O::I S::I T::I U::I X::I v10::I v11::cR 0 Y))) (none)) (some (1,(.vC kPt M:: .vC Aa N::I O::I S::I T::I U::I X::I v10::I v11::Ad K c))):=by kernel_rfl
abbrev NK (Y:Int) (v3 v4:Rw) (v5 v6 v7 v8 v9 v10 v11:Int) (v12 G:Rw) (L M N O S v20 v1 v2 X:Int) (T:Bool) (U:AC) (D:List AC):Option (Nat×List AC):=
 cond (T) (some (1,(I Y:: .vC kPt v3:: .vC Aa v4::I v5::I v6::I v7::I v8::I v9::I v10::I v11:: .vC kPt v12:: .vC Aa G::U::I L::I M::I N::I O::I S::I v20::D))) (some (0,(I Y::I v1::I (V (v2+1)):: .vC kPt v3:: .vC Aa v4::I v5::I v6::I v7::I v8::I v9::I v10::I v11:: .vC kPt v12:: .vC Aa G::I X::I L::I M::I N::I O::I S::I v20::D)))
theorem Z0r (Co CF D8 Eg Eb D5 Ec CT A3 De Dc D0:Fn) (N3:Lp) (U V T:Int) (X Y:Rw) (v5 v6 v7 v8 v9 v10 v11:Int) (v12 D:Rw) (G L M N O S v20:Int) (K:Kf) (c:Cv):IQ Co CF D8 Eg Eb D5 Ec CT A3 De Dc D0 N3 (I U::I V::I T:: .vC kPt X:: .vC Aa Y::I v5::I v6::I v7::I v8::I v9::I v10::I v11:: .vC kPt v12:: .vC Aa D::I G::I L::I M::I N::I O::I S::I v20::Ad K c)=
 cond (decide (T<V)) (cond (decide (T=(↑0:Int))) ((Ec (Ad K c)).bind λa0=>
 NK U X Y v5 v6 v7 v8 v9 v10 v11 v12 D L M N O S v20 V T G (bA a0 1) (jA a0 0) (cR 2 a0)) (cond (decide (T=(↑(0+1):Int))) ((D5 (Ad K c)).bind λa1=>
 NK U X Y v5 v6 v7 v8 v9 v10 v11 v12 D L M N O S v20 V T G (bA a1 1) (jA a1 0) (cR 2 a1)) (cond (decide (T=(↑(0+1+1):Int))) ((Eb (Ad K c)).bind λa2=>
 NK U X Y v5 v6 v7 v8 v9 v10 v11 v12 D L M N O S v20 V T G (bA a2 1) (jA a2 0) (cR 2 a2)) (cond (decide (T=(↑(0+1+1+1):Int))) ((Eg (Ad K c)).bind λa3=>
 NK U X Y v5 v6 v7 v8 v9 v10 v11 v12 D L M N O S v20 V T G (bA a3 1) (jA a3 0) (cR 2 a3)) (cond (decide (T=(↑(0+1+1+1+1):Int))) ((D8 (Ad K c)).bind λa4=>
 NK U X Y v5 v6 v7 v8 v9 v10 v11 v12 D L M N O S v20 V T G (bA a4 1) (jA a4 0) (cR 2 a4)) (none)))))) (some (1,(I U:: .vC kPt X:: .vC Aa Y::I v5::I v6::I v7::I v8::I v9::I v10::I v11:: .vC kPt v12:: .vC Aa D::I G::I L::I M::I N::I O::I S::I v20::Ad K c))):=by kernel_rfl
abbrev Jz (T:Lp) (M:Nat×List AC) (V U:Fn) (N:AC) (O:List AC):Option (List AC):=
 (T (N::I (↑5:Int)::I 0:: .vC kPt (wA M.2 0):: .vC Aa (wA M.2 1)::jA M.2 2::jA M.2 3::jA M.2 4::jA M.2 5::jA M.2 6::jA M.2 7::jA M.2 8:: .vC kPt []:: .vC Aa []::I 0::I 0::I 0::I 0::I 0::I 0::I 0::O)).bind λD=>
 cond (D.1.beq 1) (cond (gA D.2 12==0) ((V (cR 19 D.2)).bind λS=>
 (U (jA D.2 0::(cR 1 S++[.vC kPt (wA D.2 10), .vC Aa (wA D.2 11),jA S 0,jA D.2 13,jA D.2 14,jA D.2 15,jA D.2 16,jA D.2 17,jA D.2 18]))).bind λG=>
 some (.vC kPt (wA G 90):: .vC Aa (wA G 91)::jA G 92::jA G 93::jA G 94::jA G 95::jA G 96::jA G 97::jA G 98::cR 0 G)) ((U (jA D.2 0::(cR 19 D.2++[.vC kPt (wA D.2 10), .vC Aa (wA D.2 11),jA D.2 12,jA D.2 13,jA D.2 14,jA D.2 15,jA D.2 16,jA D.2 17,jA D.2 18]))).bind λL=>
 some (.vC kPt (wA L 90):: .vC Aa (wA L 91)::jA L 92::jA L 93::jA L 94::jA L 95::jA L 96::jA L 97::jA L 98::cR 0 L))) (none)
abbrev Qpm (Y:Fn) (D:Nat×List AC) (De T U:Fn) (I:Lp) (V X:Fn):Option (List AC):=
 (Y (DR (cR 9 D.2) [(58,B true),(86,jA D.2 76)])).bind λL=>
 cond (!bA L 0) ((De [jA D.2 73,jA D.2 74,jA D.2 75,jA D.2 76,jA D.2 42]).bind λG=>
 (T (DR (cR 9 D.2) [(58,B true),(64,jA G 0),(65,jA G 1),(66,jA G 2),(67,jA G 3),(86,jA D.2 76)])).bind λM=>
 (U [jA D.2 59,jA D.2 60,jA D.2 61,jA D.2 62,jA D.2 63,jA D.2 64]).bind λN=>
 Jz I D V X (jA M 0) (DR (cR 9 D.2) [(58,B true),(64,jA G 0),(65,jA G 1),(66,jA G 2),(67,jA G 3),(86,jA D.2 76),(88,B (bA N 0))])) ((T (DR (cR 9 D.2) [(58,B true),(86,jA D.2 76)])).bind λO=>
 (U [jA D.2 59,jA D.2 60,jA D.2 61,jA D.2 62,jA D.2 63,jA D.2 64]).bind λS=>
 Jz I D V X (jA O 0) (DR (cR 9 D.2) [(58,B true),(86,jA D.2 76),(88,B (bA S 0))]))
theorem Zqt (M N D8 Eg Eb D5 Ec O S T U D0:Fn) (N3 L:Lp) (V:Rw) (K:Kf) (c:Cv):Qmo M N D8 Eg Eb D5 Ec O S T U D0 N3 L (.vC kPt V::Ad K c)=
 (N3 (.vC kPt V::I (V.length:Int)::I 0:: .vC kPt []:: .vC Aa []::I 0::I 0::I 0::I 0::I 0::I 0::I 0::Ad K {c with aJ:=false,aL:=false})).bind λD=>
 cond (D.1.beq 1) (cond (bA D.2 86) (Qpm U D T S O L N M) (cond (gA D.2 70 !=0) (Qpm U D T S O L N M) ((U (DR (cR 9 D.2) [(86,jA D.2 76)])).bind λX=>
 cond (!bA X 0) ((T [jA D.2 73,jA D.2 74,jA D.2 75,jA D.2 76,jA D.2 42]).bind λG=>
 (S (DR (cR 9 D.2) [(64,jA G 0),(65,jA G 1),(66,jA G 2),(67,jA G 3),(86,jA D.2 76)])).bind λY=>
 (O [jA D.2 59,jA D.2 60,jA D.2 61,jA D.2 62,jA D.2 63,jA D.2 64]).bind λa0=>
 Jz L D N M (jA Y 0) (DR (cR 9 D.2) [(64,jA G 0),(65,jA G 1),(66,jA G 2),(67,jA G 3),(86,jA D.2 76),(88,B (bA a0 0))])) ((S (DR (cR 9 D.2) [(86,jA D.2 76)])).bind λa1=>
 (O [jA D.2 59,jA D.2 60,jA D.2 61,jA D.2 62,jA D.2 63,jA D.2 64]).bind λa2=>
 Jz L D N M (jA a1 0) (DR (cR 9 D.2) [(86,jA D.2 76),(88,B (bA a2 0))]))))) (none):=by kernel_rfl
def Zc:=Am (RA L_ KT KR Kg Lv Lb K_ K8 Db KX L3 Lq)
def Q6p:=Am (IQ L_ KT KR Kg Lv Lb K_ K8 Db KX L3 Lq Zc)
def JT:=Qmo L_ KT KR Kg Lv Lb K_ K8 Db KX L3 Lq Zc Q6p
theorem Yx:Ai PG (Qep L_ KT KR Kg Lv Lb K_ K8 Db KX L3 Lq):=Hx (rs:=[102,100]) rfl ⟨Zfp,Zqp,Z1s,Z21,Ze8,Zr1,Znn,Zn8,PV,Zeh,Zgd,Zhw,trivial⟩ rfl (Ci rfl (Ci rfl (Ci rfl (Ci rfl (Ci rfl (Ci rfl (Ci rfl (Ci rfl (FE (Ci rfl (FE (Ci rfl HG))))))))))))
theorem Z1t:Al PG (Ybi JT):=rw2 (C:=Qxx L_ KT KR Kg Lv Lb K_ K8 Db KX L3 Lq Zc Q6p) (fl (fl fb Yx) Yx) Yx
def Qkw:Sk:=⟨[tf [sa kPt],tf [ci]],[],[]⟩
def Zrh:=qa 56 Qkw ZQ
def C_event_At_0:Cfg:={cf []with prom:=λb=>cond (Nat.beq b 3) ([(5,65)]) ([])}
def Zcf:Sk:=⟨[td,tf [ci],td,td,td,tf [se 5 3],td,td,tf [sa kPt],tf [ci],tf [ci]]++dd 13,[],[(5,65,kPt)]⟩
def Q1f:List (Ex×Sk):=[(Ex.exit 0,⟨[td,td,td,td,td,tf [se 5 3]]++dd 18,[],[(5,65,kPt)]⟩)]
def Ur:Lp:=AL PG C_event_At_0 64 3 (AN PG 56 3) Zcf Q1f
def Qtj (D:Lp):Cfg:=C_event_At_0.loop 3 Zcf Q1f D
def Qq8 (D:Lp):Fn:=An PG (Qtj D) 64 56 Qkw ZQ
theorem Zix (L:Rw) (M:Int) (G:Rw) (N D:Int):Ur [.vC kPt L,I M, .vC kPt G,I N,I D]=
 cond (decide (D<N)) (cond (decide (0<=D)&&decide (D<(G.length:Int))) (cond (gA (nth [] G D.toNat) 0==M) (cond (((L++[[jA (nth [] G D.toNat) 0,jA (nth [] G D.toNat) 1,jA (nth [] G D.toNat) 2]]).length*24).ble 140737488355328) (some (0,[.vC kPt (L++[[jA (nth [] G D.toNat) 0,jA (nth [] G D.toNat) 1,jA (nth [] G D.toNat) 2]]),I M, .vC kPt G,I N,I (V (D+1))])) (none)) (some (0,[.vC kPt L,I M, .vC kPt G,I N,I (V (D+1))]))) (none)) (some (1,[.vC kPt L])):=by kernel_rfl
theorem Z88 (G:Lp) (D:Rw) (L:Int):Qq8 G [.vC kPt D,I L]=
 (G [.vC kPt [],I L, .vC kPt D,I (D.length:Int),I 0]).bind λo1=>
 cond (o1.1.beq 1) (some [.vC kPt (wA o1.2 0)]) (none):=by kernel_rfl
def Q0z:=Am (Ur)
def OY:=Qq8 Q0z
theorem Q2a:Ai PG (C_event_At_0):=Ao rfl trivial
theorem Zxd:Al PG (Zrh OY):=rw2 (C:=Qtj Q0z) (fl fb Q2a) Q2a
def Qeb:Sk:=⟨[TS.v true (cc 13++[sb,ci,sb]++cc 5++[sb])],[],[]⟩
def UJ:=qa 138 Qeb Qhz
def Qs8:Fn:=An PG C_cncref30_SamePulses_0 64 138 Qeb Qhz
theorem Z8s (x0 x1 x2 x3 x4 x5 x6 x7 x8 x9 D G L:Int) (M:Bool) (N:Int) (O:Bool) (S T U V X:Int) (Y:Bool):Qs8 [I x0,I x1,I x2,I x3,I x4,I x5,I x6,I x7,I x8,I x9,I D,I G,I L,B M,I N,B O,I S,I T,I U,I V,I X,B Y]=
 cond (x0==2) (some [B !(x2==x5&&(x3==x6&&(x4==x7&&true)))]) (some [B false]):=by kernel_rfl
def EH:=Qs8
theorem Zyq:Ai PG (C_cncref30_SamePulses_0):=Ao rfl trivial
theorem SN:Al PG (UJ EH):=rw1 (C:=C_cncref30_SamePulses_0) Zyq
def Ud:=qa 88 Y2 Qhz
def Qt7:Fn:=An PG C_cncref30_SamePulses_0 64 88 Y2 Qhz
theorem Z9o (D:Int):Qt7 [I D]=
 cond (decide (D>=1)) (some [B (decide (D<=6))]) (some [B false]):=by kernel_rfl
def Dy:=Qt7
theorem Z42:Ai PG (C_cncref30_SamePulses_0):=Ao rfl trivial
theorem Sx:Al PG (Ud Dy):=rw1 (C:=C_cncref30_SamePulses_0) Z42
def Qu3:=qa 140 Qeb Qhz
def Qyu:Fn:=An PG C_cncref30_SamePulses_0 64 140 Qeb Qhz
theorem Zsa (D x1 x2 x3 x4 x5 x6 x7 x8 x9 G L M:Int) (N:Bool) (O:Int) (S:Bool) (T U V X Y:Int) (a0:Bool):Qyu [I D,I x1,I x2,I x3,I x4,I x5,I x6,I x7,I x8,I x9,I G,I L,I M,B N,I O,B S,I T,I U,I V,I X,I Y,B a0]=
 cond (D==5) (some [B true]) (some [B (D==6)]):=by kernel_rfl
def Hz:=Qyu
theorem Yag:Ai PG (C_cncref30_SamePulses_0):=Ao rfl trivial
theorem Q29:Al PG (Qu3 Hz):=rw1 (C:=C_cncref30_SamePulses_0) Yag
def Qnu:Sk:=⟨[tf [sa Ah],tf [ci]],[],[]⟩
def Zpj:=qa 144 Qnu Qhz
def Wg (D G:Fn):Cfg:=cf [Ud D,Qu3 G]
def Qsp:Sk:=⟨dd 23++[tf [sa Ah],tf [ci],tf [ci]]++dd 9,[],[]⟩
def Qv6:List (Ex×Sk):=[(Ex.ret,⟨[td,td,td,td,tf [sb]]++dd 30,[],[]⟩),(Ex.exit 0,⟨[td]++dd 34,[],[]⟩)]
def KW (D G:Fn):Lp:=AL PG (Wg D G) 64 4 (AN PG 144 4) Qsp Qv6
def Q1q (D G:Fn) (I:Lp):Cfg:=(Wg D G).loop 4 Qsp Qv6 I
def Qo9 (D G:Fn) (I:Lp):Fn:=An PG (Q1q D G I) 64 144 Qnu Qhz
theorem Qxq (M N:Fn) (G:Rw) (L D:Int):KW M N [.vC Ah G,I L,I D]=
 cond (decide (D<L)) (cond (decide (0<=D)&&decide (D<(G.length:Int))) ((M [jA (nth [] G D.toNat) 0]).bind λO=>
 cond (bA O 0) ((N (AM Ah (nth [] G D.toNat))).bind λo6=>
 some (1,[B (bA o6 0)])) (some (0,[.vC Ah G,I L,I (V (D+1))]))) (none)) (some (2,[])):=by kernel_rfl
theorem Zyd (N L:Fn) (M:Lp) (G:Rw) (D:Int):Qo9 N L M [.vC Ah G,I D]=
 cond (decide (0<=D)&&decide (D<(G.length:Int))) (cond (gA (nth [] G D.toNat) 18==0) (some [B true]) (cond (decide (0<=D)&&decide (D<(G.length:Int))) ((L (AM Ah (nth [] G D.toNat))).bind λO=>
 cond (bA O 0) (some [B true]) (cond (decide (0<=V (D+1))&&decide (V (D+1)<=(G.length:Int))) ((M [.vC Ah (List.drop (V (D+1)).toNat G),I (↑(List.drop (V (D+1)).toNat G).length:Int),I 0]).bind λo8=>
 cond (o8.1.beq 1) (some [B (bA o8.2 0)]) (cond (o8.1.beq 2) (some [B false]) (none))) (none))) (none))) (none):=by kernel_rfl
def Q57:=Am (KW Dy Hz)
def Ro:=Qo9 Dy Hz Q57
theorem Qun:Ai PG (Wg Dy Hz):=Ao rfl ⟨Sx,Q29,trivial⟩
theorem Z6u:Al PG (Zpj Ro):=rw2 (C:=Q1q Dy Hz Q57) (fl fb Qun) Qun
def Qhf:Sk:=⟨[tf [sd 20000 0],tf [sa Ah],tf [ci]],[(20000,102,[ci,ci,ci,se 20000 7,se 20001 3,sb,ci,ci,ci])],[(20000,111,Aj),(20001,130,kPt)]⟩
def Qme:Sk:=⟨[TS.tup []],[(20000,102,[ci,ci,ci,se 20000 7,se 20001 3,sb,ci,ci,ci])],[(20000,111,Aj),(20001,130,kPt)]⟩
def Zfi:=qa 92 Qhf Qme
def Qdq (D G:Fn):Cfg:=cf [Zpj D,Ud G]
def Qin (D G:Fn):Fn:=An PG (Qdq D G) 64 92 Qhf Qme
abbrev Qe9 (Y:Fn) (X:Rw) (G:Int) (M:Rw) (D:Int) (N:Rw) (O S T:Int) (U:Bool) (V L:Int):Option (List AC):=
 (Y [jA (nth [] X G.toNat) 0]).bind λo6=>
 cond (bA o6 0) (cond (((M++[[I D,I 2,I G]]).length*24).ble 140737488355328) (some [.vC Aj N, .vC kPt (M++[[I D,I 2,I G]]),I O,I S,I T,B U,I D,I V,I L]) (none)) (cond (gA (nth [] X G.toNat) 0==10) (cond (((M++[[I D,I 5,I G]]).length*24).ble 140737488355328) (some [.vC Aj N, .vC kPt (M++[[I D,I 5,I G]]),I O,I S,I T,B U,I D,I V,I L]) (none)) (cond (gA (nth [] X G.toNat) 0==13) (cond (((M++[[I D,I 4,I G]]).length*24).ble 140737488355328) (some [.vC Aj N, .vC kPt (M++[[I D,I 4,I G]]),I O,I S,I T,B U,I D,I V,I L]) (none)) (cond (((M++[[I D,I 3,I G]]).length*24).ble 140737488355328) (some [.vC Aj N, .vC kPt (M++[[I D,I 3,I G]]),I O,I S,I T,B U,I D,I V,I L]) (none))))
theorem Z9r (Mn Y:Fn) (O M N:Rw) (D S T U:Int) (V:Bool) (L X G:Int):Qin Mn Y [.vC Aj O, .vC kPt M, .vC Ah N,I D,I S,I T,I U,B V,I L,I X,I G]=
 cond (decide (0<=D)&&decide (D<(N.length:Int))) (cond (gA (nth [] N D.toNat) 0==4) (cond (((M++[[I L,I 6,I D]]).length*24).ble 140737488355328) (some [.vC Aj O, .vC kPt (M++[[I L,I 6,I D]]),I S,I T,I U,B V,I L,I X,I G]) (none)) ((Y [jA (nth [] N D.toNat) 0]).bind λo4=>
 cond (bA o4 0) ((Mn [.vC Ah N,I D]).bind λo5=>
 cond (bA o5 0) (cond (((M++[[I L,I 1,I D]]).length*24).ble 140737488355328) (some [.vC Aj O, .vC kPt (M++[[I L,I 1,I D]]),I S,I T,I U,B V,I L,I X,I G]) (none)) (Qe9 Y N D M L O S T U V X G)) (Qe9 Y N D M L O S T U V X G))) (none):=by kernel_rfl
def IW:=Qin Ro Dy
theorem Zyc:Ai PG (Qdq Ro Dy):=Ao rfl ⟨Z6u,Sx,trivial⟩
theorem Zjh:Al PG (Zfi IW):=rw1 (C:=Qdq Ro Dy) Zyc
def Qbr:=qa 143 Qeb ZP
def Qx3:Fn:=An PG C_cncref30_SamePulses_0 64 143 Qeb ZP
theorem Zmx (x0 x1 x2 x3 x4 x5 x6 x7 x8 x9 D G L:Int) (M:Bool) (N:Int) (O:Bool) (S T U X Y:Int) (a0:Bool):Qx3 [I x0,I x1,I x2,I x3,I x4,I x5,I x6,I x7,I x8,I x9,I D,I G,I L,B M,I N,B O,I S,I T,I U,I X,I Y,B a0]=
 some [I (V (V (x2+x5)*8)),I (V (V (x3+x6)*8)),I (V (V (x4+x7)*8))]:=by kernel_rfl
def F4:=Qx3
theorem Z4x:Ai PG (C_cncref30_SamePulses_0):=Ao rfl trivial
theorem Qqw:Al PG (Qbr F4):=rw1 (C:=C_cncref30_SamePulses_0) Z4x
def YZ:Sk:=⟨[TS.v true [si .u64,si .u64],TS.v true [si .u64,si .u64]],[],[]⟩
def Qrb:=qa 232 YZ Y2
def Q3k:Fn:=An PG C_cncref30_SamePulses_0 64 232 YZ Y2
theorem Zja (D L G M:Int):Q3k [U D,U L,U G,U M]=
 cond (decide (D<G)) (some [I (-1)]) (cond (D==G) (cond (decide (L<M)) (some [I (-1)]) (cond (D==G&&(L==M&&true)) (some [I 0]) (some [I 1]))) (cond (D==G&&(L==M&&true)) (some [I 0]) (some [I 1]))):=by kernel_rfl
def H0:=Q3k
theorem Ztb:Ai PG (C_cncref30_SamePulses_0):=Ao rfl trivial
theorem Qyi:Al PG (Qrb H0):=rw1 (C:=C_cncref30_SamePulses_0) Ztb
def Q5v:=qa 288 Qbp Qai
def Qhq (D G:Fn):Cfg:=cf [Qrb D,TJ G]
def Q6k:Sk:=⟨[td,tf [sd 1 0],td,tf [si .u64],tf [si .u64]]++dd 16,[(1,197,[si .u64,si .u64])],[]⟩
def Q8m:List (Ex×Sk):=[(Ex.exit 0,⟨[td,td,td,tf [si .u64]]++dd 17,[],[]⟩)]
def LD (D G:Fn):Lp:=AL PG (Qhq D G) 64 3 (AN PG 288 3) Q6k Q8m
def Za9 (D G:Fn) (I:Lp):Cfg:=(Qhq D G).loop 3 Q6k Q8m I
def Qa9 (D G:Fn) (I:Lp):Fn:=An PG (Za9 D G I) 64 288 Qbp Qai
theorem Q9c (M N:Fn) (G D I L:Int):LD M N [U G,U D,U I,U L]=
 cond (decide (D>0)) ((N [U (wrap .u64 (↑(BitVec.ofInt IntKind.u64.bits G|||BitVec.ofInt IntKind.u64.bits D).toNat:Int)),U (wrap .u64 (↑(BitVec.ofInt IntKind.u64.bits G|||BitVec.ofInt IntKind.u64.bits D).toNat:Int))]).bind λo3=>
 (M [U (gA o3 0),U (gA o3 1),U I,U L]).bind λo4=>
 cond (decide (gA o4 0<=0)) (some (0,[U (wrap .u64 (↑(BitVec.ofInt IntKind.u64.bits G|||BitVec.ofInt IntKind.u64.bits D).toNat:Int)),U (D.fdiv (2^min (Int.toNat 1) IntKind.u64.bits)),U I,U L])) (some (0,[U G,U (D.fdiv (2^min (Int.toNat 1) IntKind.u64.bits)),U I,U L]))) (some (1,[U G])):=by kernel_rfl
theorem Z68 (M N:Fn) (D:Lp) (G I:Int):Qa9 M N D [U G,U I]=
 (D [U 0,U 9223372036854775808,U G,U I]).bind λL=>
 cond (L.1.beq 1) (some [U (gA L.2 0)]) (none):=by kernel_rfl
def Qxv:=Am (LD H0 Ej)
def JD:=Qa9 H0 Ej Qxv
theorem Q9f:Ai PG (Qhq H0 Ej):=Ao rfl ⟨Qyi,Uz,trivial⟩
theorem Q3n:Al PG (Q5v JD):=rw2 (C:=Za9 H0 Ej Qxv) (fl fb Q9f) Q9f
def Wz:Sk:=⟨[TS.v true [si .u64,si .u64],tf [ci]],[],[]⟩
def Z6m:=qa 264 Wz XU
def Qpj (D G I L:Fn):Cfg:=cf [Wf D,(289,Ac Q0h Q3e G),(171,Ac Zi U4 I),Q5v L]
def XI (D G I L:Fn):Fn:=An PG (Qpj D G I L) 64 264 Wz XU
abbrev Qck (T:Int) (O:List AC) (N:Fn) (D S:List AC):Option (List AC):=
 cond (T==2) (cond (decide (gA O 0>0)) ((N [U (wrap .u64 (gA D 0+1)),B false]).bind λG=>
 some [jA G 0,B (bA G 1)]) (cond (decide (gA S 0>gA D 0)) ((N [U (wrap .u64 (gA D 0+1)),B false]).bind λI=>
 some [jA I 0,B (bA I 1)]) ((N [U (gA D 0),B false]).bind λL=>
 some [jA L 0,B (bA L 1)]))) ((N [U (gA D 0),B false]).bind λM=>
 some [jA M 0,B (bA M 1)])
theorem Zyo (M V F6 FQ:Fn) (X Y T:Int):XI M V F6 FQ [U X,U Y,I T]=
 (FQ [U X,U Y]).bind λD=>
 (F6 [U (gA D 0),U (gA D 0)]).bind λN=>
 (V [U Y,U (gA N 1),U 0]).bind λG=>
 (V [U X,U (gA N 0),U (gA G 1)]).bind λL=>
 cond (T==1) (cond (decide (gA L 0>0)) ((M [U (wrap .u64 (gA D 0+1)),B false]).bind λO=>
 some [jA O 0,B (bA O 1)]) (cond (decide (gA G 0>0)) ((M [U (wrap .u64 (gA D 0+1)),B false]).bind λS=>
 some [jA S 0,B (bA S 1)]) (Qck T L M D G))) (Qck T L M D G):=by kernel_rfl
def T1:=XI EO Ke H3 JD
theorem Zp8:Ai PG (Qpj EO Ke H3 JD):=Ao rfl ⟨Qjd,Zuo,Qu4,Q3n,trivial⟩
theorem Z0e:Al PG (Z6m T1):=rw1 (C:=Qpj EO Ke H3 JD) Zp8
def Qug:=qa 237 YH XU
def X2 (D G:Fn):Cfg:=cf [Z6m D,Qo5 G]
def Zo (D G:Fn):Fn:=An PG (X2 D G) 64 237 YH XU
theorem Z1u (L M:Fn) (D G:Int):Zo L M [I D,I G]=
 cond (decide (D<0)) (some [I 0,B false]) ((M [I G]).bind λo2=>
 cond (!bA o2 0) (some [I 0,B false]) ((L [U 0,U (wrap .u64 D),I G]).bind λo3=>
 some [jA o3 0,B (bA o3 1)])):=by kernel_rfl
def IE:=Zo T1 FG
theorem Z4d:Ai PG (X2 T1 FG):=Ao rfl ⟨Z0e,Qmy,trivial⟩
theorem Qw4:Al PG (Qug IE):=rw1 (C:=X2 T1 FG) Z4d
def Qs5:=qa 189 Qbn Y2
def Qlj (D:Fn):Cfg:={cf [Qug D]with unroll:=[3]}
def Wm (D:Fn):Fn:=An PG (Qlj D) 64 189 Qbn Y2
theorem Zxa (S:Fn) (D G L M N O:Int):Wm S [I D,I G,I L,I M,I N,I O]=
 (S [I (V (V (V (0+V (V (D-M)*V (D-M)))+V (V (G-N)*V (G-N)))+V (V (L-O)*V (L-O)))),I 1]).bind λo1=>
 some [jA o1 0]:=by kernel_rfl
def I2:=Wm IE
theorem Zzm:Ai PG (Qlj IE):=Ao rfl ⟨Qw4,trivial⟩
theorem Qup:Al PG (Qs5 I2):=rw1 (C:=Qlj IE) Zzm
def Qco:Sk:=⟨[tf [sd 20000 0],TS.v true [ci,ci,ci],TS.v true (cc 7)],[(20000,102,[ci,ci,ci,se 20000 7,se 20001 3,sb,ci,ci,ci])],[(20000,111,Aj),(20001,130,kPt)]⟩
def Z65:=qa 142 Qco Qme
def Zt (D:Fn):Cfg:=cf [Qs5 D]
def SJ (D:Fn):Fn:=An PG (Zt D) 64 142 Qco Qme
abbrev Xv (D:Bool) (x0 x1:Rw) (x2 x3 x4 G L M N O S:Int) (C7:Fn) (x9 T U:Int) (X:Bool) (Y a0 a1:AC):Option (List AC):=
 cond (!D) (some [.vC Aj x0, .vC kPt x1,I x2,I x3,I x4,B true,I G,I L,I M]) (cond (X) (some [.vC Aj x0, .vC kPt x1,I N,I O,I S,B D,I G,I L,I M]) ((C7 [Y,a0,a1,I x2,I x3,I x4]).bind λo2=>
 cond (((x0++[[I x2,I x3,I x4,jA o2 0,I x9,I T,I U]]).length*56).ble 140737488355328) (some [.vC Aj (x0++[[I x2,I x3,I x4,jA o2 0,I x9,I T,I U]]), .vC kPt x1,I N,I O,I S,B D,I (V (G+gA o2 0)),I L,I M]) (none)))
theorem Q8i (C7:Fn) (D x1:Rw) (Y x3 x4 x5 x6 x7 x8 x9 N O G L M:Int) (S:Bool) (T U X:Int):SJ C7 [.vC Aj D, .vC kPt x1,I Y,I x3,I x4,I x5,I x6,I x7,I x8,I x9,I N,I O,I G,I L,I M,B S,I T,I U,I X]=
 cond (decide ((D.length:Int)>0)) (cond (decide (0<=V ((D.length:Int)-1))&&decide (V ((D.length:Int)-1)<(D.length:Int))) (Xv S D x1 Y x3 x4 T U X G L M C7 x9 N O (Y==gA (nth [] D (V ((D.length:Int)-1)).toNat) 0&&(x3==gA (nth [] D (V ((D.length:Int)-1)).toNat) 1&&(x4==gA (nth [] D (V ((D.length:Int)-1)).toNat) 2&&true))) (jA (nth [] D (V ((D.length:Int)-1)).toNat) 0) (jA (nth [] D (V ((D.length:Int)-1)).toNat) 1) (jA (nth [] D (V ((D.length:Int)-1)).toNat) 2)) (none)) (Xv S D x1 Y x3 x4 T U X G L M C7 x9 N O (Y==G&&(x3==L&&(x4==M&&true))) (I G) (I L) (I M)):=by kernel_rfl
def Pb:=SJ I2
theorem Z1q:Ai PG (Zt I2):=Ao rfl ⟨Qup,trivial⟩
theorem Zeb:Al PG (Z65 Pb):=rw1 (C:=Zt I2) Z1q
def Qk7:=qa 90 Qnu Y2
def Qzm:Sk:=⟨[tf [sa Ah],tf [ci]]++dd 20,[],[]⟩
def Q5q:List (Ex×Sk):=[(Ex.exit 0,⟨[td,tf [ci]]++dd 20,[],[]⟩)]
def PJ:Lp:=AL PG C_cncref30_SamePulses_0 64 2 (AN PG 90 2) Qzm Q5q
def Q5k (D:Lp):Cfg:=C_cncref30_SamePulses_0.loop 2 Qzm Q5q D
def Qd6 (D:Lp):Fn:=An PG (Q5k D) 64 90 Qnu Y2
theorem Q6y (G:Rw) (D:Int):PJ [.vC Ah G,I D]=
 cond (decide (D<(G.length:Int))) (cond (decide (0<=D)&&decide (D<(G.length:Int))) (cond (gA (nth [] G D.toNat) 0==10) (some (0,[.vC Ah G,I (V (D+1))])) (some (1,[I D]))) (none)) (some (1,[I D])):=by kernel_rfl
theorem Zpm (D:Lp) (G:Rw) (L:Int):Qd6 D [.vC Ah G,I L]=
 (D [.vC Ah G,I (V (L+1))]).bind λo1=>
 cond (o1.1.beq 1) (some [jA o1.2 0]) (none):=by kernel_rfl
def Q6n:=Am (PJ)
def E8:=Qd6 Q6n
theorem Qz5:Ai PG (C_cncref30_SamePulses_0):=Ao rfl trivial
theorem Ql1:Al PG (Qk7 E8):=rw2 (C:=Q5k Q6n) (fl fb Qz5) Qz5
def Q14:=qa 89 Qnu Qhz
def Qf7 (D G:Fn):Cfg:=cf [UJ D,Qk7 G]
def Xd (D G:Fn):Fn:=An PG (Qf7 D G) 64 89 Qnu Qhz
theorem Zz5 (L M:Fn) (D:Rw) (G:Int):Xd L M [.vC Ah D,I G]=
 (M [.vC Ah D,I G]).bind λo3=>
 cond (decide (0<=G)&&decide (G<(D.length:Int))) ((L (AM Ah (nth [] D G.toNat))).bind λo4=>
 cond (bA o4 0) (cond (decide (0<=G)&&decide (G<(D.length:Int))) (cond (gA (nth [] D G.toNat) 18 !=0) (cond (decide (gA o3 0<(D.length:Int))) (cond (decide (0<=gA o3 0)&&decide (gA o3 0<(D.length:Int))) ((L (AM Ah (nth [] D (gA o3 0).toNat))).bind λN=>
 some [B (bA N 0)]) (none)) (some [B false])) (some [B false])) (none)) (some [B false])) (none):=by kernel_rfl
def G7:=Xd EH E8
theorem Zf6:Ai PG (Qf7 EH E8):=Ao rfl ⟨SN,Ql1,trivial⟩
theorem Qv1:Al PG (Q14 G7):=rw1 (C:=Qf7 EH E8) Zf6
def Qkh:Sk:=⟨[TS.v true [ci,ci,ci],TS.v true [ci,ci,ci],TS.v true [ci,ci,ci]],[],[]⟩
def Qxd:=qa 286 Qkh Y2
def Q74:Fn:=An PG W8 64 286 Qkh Y2
theorem Zys (D G L M N O S T U:Int):Q74 [I D,I G,I L,I M,I N,I O,I S,I T,I U]=
 some [I (V (V (V (0+V (V (V (D+S)-V (2*M))*V (V (D+S)-V (2*M))))+V (V (V (G+T)-V (2*N))*V (V (G+T)-V (2*N))))+V (V (V (L+U)-V (2*O))*V (V (L+U)-V (2*O)))))]:=by kernel_rfl
def GP:=Q74
theorem Zhc:Ai PG (W8):=Ao rfl trivial
theorem Qxz:Al PG (Qxd GP):=rw1 (C:=W8) Zhc
def Zkq:=qa 263 Qkh Y2
def U8 (D:Fn):Cfg:=cf [Qxd D]
def Qr1:Sk:=⟨[td,td,td,tf [sd 3 0],tf [sd 4 0],tf [sd 5 0],td,tf [ci]]++dd 22,[(3,42,[ci,ci,ci]),(4,42,[ci,ci,ci]),(5,42,[ci,ci,ci])],[]⟩
def Qvn:List (Ex×Sk):=[(Ex.exit 0,⟨dd 7++[tf [ci]]++dd 22,[],[]⟩)]
def Qy (D:Fn):Lp:=AL PG (U8 D) 64 2 (AN PG 263 2) Qr1 Qvn
def Q17 (D:Fn) (G:Lp):Cfg:=(U8 D).loop 2 Qr1 Qvn G
def ZL (D:Fn) (G:Lp):Fn:=An PG (Q17 D G) 64 263 Qkh Y2
theorem Z43 (Y:Fn) (D G L M N O S T U X:Int):Qy Y [I D,I G,I L,I M,I N,I O,I S,I T,I U,I X]=
 cond (decide (D<64)) ((Y [I G,I L,I M,I N,I O,I S,I T,I U,I X]).bind λo2=>
 cond (decide (gA o2 0>V (V (V (V (V (V (16*D)*D)*D)*D)*4)*4))) (some (0,[I (V (D*2)),I G,I L,I M,I N,I O,I S,I T,I U,I X])) (some (1,[I D]))) (some (1,[I D])):=by kernel_rfl
theorem Zkf (X:Fn) (D:Lp) (G L M N O S T U V:Int):ZL X D [I G,I L,I M,I N,I O,I S,I T,I U,I V]=
 (D [I 2,I G,I L,I M,I N,I O,I S,I T,I U,I V]).bind λo3=>
 cond (o3.1.beq 1) (some [jA o3.2 0]) (none):=by kernel_rfl
def Q9l:=Am (Qy GP)
def Kl:=ZL GP Q9l
theorem Zas:Ai PG (U8 GP):=Ao rfl ⟨Qxz,trivial⟩
theorem Zeu:Al PG (Zkq Kl):=rw2 (C:=Q17 GP Q9l) (fl fb Zas) Zas
def WW:Sk:=⟨[TS.v true [si .u64,si .u64],tf [si .u64]],[],[]⟩
def Qiv:Sk:=⟨[TS.tup [(true,[si .u64,si .u64]),(false,[sb])]],[],[]⟩
def Zd7:=qa 296 WW Qiv
def Qa0 (D:Fn):Cfg:=cf [Q94 D]
def Qbo (D:Fn):Fn:=An PG (Qa0 D) 64 296 WW Qiv
theorem Zl5 (D:Fn) (I L G:Int):Qbo D [U I,U L,U G]=
 (D [U 0,U I,U G]).bind λo2=>
 (D [U (gA o2 1),U L,U G]).bind λo3=>
 some [U (gA o2 0),U (gA o3 0),B (decide (gA o3 1>0))]:=by kernel_rfl
def T3:=Qbo Gz
theorem Yav:Ai PG (Qa0 Gz):=Ao rfl ⟨Qrv,trivial⟩
theorem Zsb:Al PG (Zd7 T3):=rw1 (C:=Qa0 Gz) Yav
def Q4g:=qa 287 WY XU
def Qe2 (D G I L M N O S:Fn):Cfg:=cf [Wf D,Q3t G,W2 I,Q5v L,Zd7 M,TJ N,Qo5 O,Qa8 S]
def W6 (D G I L M N O S:Fn):Fn:=An PG (Qe2 D G I L M N O S) 64 287 WY XU
abbrev Qv (Cs:Fn) (x3:Int) (Y:Fn) (G:List AC) (L:Bool) (M D N O:AC):Option (List AC):=
 cond (L) ((Cs [I x3,M,B true,D]).bind λa0=>
 cond (bA a0 0) ((Y [U (wrap .u64 (wrap .u64 ((gA G 0).tdiv 2)+1)),D]).bind λS=>
 some [jA S 0,B (bA S 1)]) ((Y [U (wrap .u64 ((gA G 0).tdiv 2)),D]).bind λT=>
 some [jA T 0,B (bA T 1)])) ((Cs [I x3,N,O,D]).bind λa1=>
 cond (bA a1 0) ((Y [U (wrap .u64 (wrap .u64 ((gA G 0).tdiv 2)+1)),D]).bind λV=>
 some [jA V 0,B (bA V 1)]) ((Y [U (wrap .u64 ((gA G 0).tdiv 2)),D]).bind λX=>
 some [jA X 0,B (bA X 1)]))
theorem Zf2 (O S C6 FQ Nt BD Dz T:Fn) (V X x2 N:Int):W6 O S C6 FQ Nt BD Dz T [I V,I X,I x2,I N]=
 (T [I V]).bind λa2=>
 cond (decide (gA a2 0>2147483648)) (some [I 0,B false]) ((T [I X]).bind λa3=>
 cond (decide (gA a3 0>2147483648)) (some [I 0,B false]) (cond (decide (x2<1)) (some [I 0,B false]) (cond (decide (x2>4611686018427387904)) (some [I 0,B false]) ((Dz [I N]).bind λa4=>
 cond (!bA a4 0) (some [I 0,B false]) ((T [I V]).bind λY=>
 (T [I X]).bind λa0=>
 (BD [U (wrap .u64 (2*wrap .u64 (gA Y 0*gA a0 0))),U (wrap .u64 (2*wrap .u64 (gA Y 0*gA a0 0)))]).bind λa1=>
 (Nt [U (gA a1 0),U (gA a1 1),U (wrap .u64 x2)]).bind λD=>
 (FQ [U (gA D 0),U (gA D 1)]).bind λG=>
 cond (bA D 2) ((C6 [I V,I X]).bind λa5=>
 Qv S N O G ((gA G 0).tmod 2==1) (I 1) (B (decide (gA a5 0<0))) (I (-1)) (B true)) ((BD [U (gA G 0),U (gA G 0)]).bind λL=>
 (C6 [I V,I X]).bind λM=>
 cond ((gA G 0).tmod 2==1) (cond (!(gA L 0==gA D 0&&(gA L 1==gA D 1&&true))) (Qv S N O G (!(gA L 0==gA D 0&&(gA L 1==gA D 1&&true))) (I 1) (B (decide (gA M 0<0))) (I 1) (B ((gA G 0).tmod 2==1))) (Qv S N O G (!(gA L 0==gA D 0&&(gA L 1==gA D 1&&true))) (I 0) (B (decide (gA M 0<0))) (I 0) (B ((gA G 0).tmod 2==1)))) (Qv S N O G (!(gA L 0==gA D 0&&(gA L 1==gA D 1&&true))) (I (-1)) (B (decide (gA M 0<0))) (I (-1)) (B ((gA G 0).tmod 2==1))))))))):=by kernel_rfl
def Ij:=W6 EO HO FK JD T3 Ej FG F_
theorem Zge:Ai PG (Qe2 EO HO FK JD T3 Ej FG F_):=Ao rfl ⟨Qjd,Zb1,Qct,Q3n,Zsb,Uz,Qmy,VF,trivial⟩
theorem Qt0:Al PG (Q4g Ij):=rw1 (C:=Qe2 EO HO FK JD T3 Ej FG F_) Zge
def Qg3:Sk:=⟨[TS.v true [ci,ci,ci],TS.v true [ci,ci,ci],tf [ci]],[],[]⟩
def XW:Sk:=⟨[TS.tup [(true,[ci,ci,ci]),(false,[sb])]],[],[]⟩
def Qu1:=qa 262 Qg3 XW
def Qgb (D:Fn):Cfg:={cf [Q4g D]with unroll:=[5,10]}
def Qpx (D:Fn):Fn:=An PG (Qgb D) 64 262 Qg3 XW
theorem Zfv (T:Fn) (D G L M N O S:Int):Qpx T [I D,I G,I L,I M,I N,I O,I S]=
 cond (M==D&&(N==G&&(O==L&&true))) (some [I 0,I 0,I 0,B false]) (cond (decide (S<0)) (some [I 0,I 0,I 0,B false]) (cond (decide (S>33554432)) (some [I 0,I 0,I 0,B false]) ((T [I (V (M-D)),I S,I (V (V (V (0+V (V (M-D)*V (M-D)))+V (V (N-G)*V (N-G)))+V (V (O-L)*V (O-L)))),I 2]).bind λo3=>
 (T [I (V (N-G)),I S,I (V (V (V (0+V (V (M-D)*V (M-D)))+V (V (N-G)*V (N-G)))+V (V (O-L)*V (O-L)))),I 2]).bind λo4=>
 (T [I (V (O-L)),I S,I (V (V (V (0+V (V (M-D)*V (M-D)))+V (V (N-G)*V (N-G)))+V (V (O-L)*V (O-L)))),I 2]).bind λU=>
 some [I (V (D+gA o3 0)),I (V (G+gA o4 0)),I (V (L+gA U 0)),B true]))):=by kernel_rfl
def GJ:=Qpx Ij
theorem Zqe:Ai PG (Qgb Ij):=Ao rfl ⟨Qt0,trivial⟩
theorem Q2n:Al PG (Qu1 GJ):=rw1 (C:=Qgb Ij) Zqe
def Z6h:=qa 261 Qf4 Y2
def Vj (D G I:Fn):Cfg:=cf [Qxd D,Qu1 G,Qs5 I]
def Qrc:Sk:=⟨[td,td,td,tf [ci],tf [sd 4 0],tf [sd 5 0],tf [sd 6 0],td,td,tf [ci],tf [ci],tf [ci]]++dd 62,[(4,42,[ci,ci,ci]),(5,42,[ci,ci,ci]),(6,42,[ci,ci,ci])],[]⟩
def Q23:List (Ex×Sk):=[(Ex.exit 0,⟨dd 10++[tf [ci]]++dd 63,[],[]⟩)]
def Ns (D G I:Fn):Lp:=AL PG (Vj D G I) 64 6 (AN PG 261 6) Qrc Q23
def Q8q (D G I:Fn) (L:Lp):Cfg:=(Vj D G I).loop 6 Qrc Q23 L
def Qmf (D G I:Fn) (L:Lp):Fn:=An PG (Q8q D G I L) 64 261 Qf4 Y2
theorem Q44 (CI Y C7:Fn) (O S G D T U X L M N v10 v11 v12:Int):Ns CI Y C7 [I O,I S,I G,I D,I T,I U,I X,I L,I M,I N,I v10,I v11,I v12]=
 cond (decide (D>0)) (cond (decide (V (G+D)>S)) (some (0,[I O,I S,I G,I (D.fdiv (2^min (Int.toNat 1) IntKind.i64.bits)),I T,I U,I X,I L,I M,I N,I v10,I v11,I v12])) ((Y [I L,I M,I N,I T,I U,I X,I (V (G+D))]).bind λo8=>
 (Y [I L,I M,I N,I v10,I v11,I v12,I (V (G+D))]).bind λo9=>
 (CI [jA o8 0,jA o8 1,jA o8 2,I L,I M,I N,jA o9 0,jA o9 1,jA o9 2]).bind λa0=>
 cond (decide (gA a0 0<=V (V (16*O)*O))) (some (0,[I O,I S,I (V (G+D)),I (D.fdiv (2^min (Int.toNat 1) IntKind.i64.bits)),I T,I U,I X,I L,I M,I N,I v10,I v11,I v12])) (some (0,[I O,I S,I G,I (D.fdiv (2^min (Int.toNat 1) IntKind.i64.bits)),I T,I U,I X,I L,I M,I N,I v10,I v11,I v12])))) (some (1,[I G])):=by kernel_rfl
theorem Zl1 (CI Cl Y:Fn) (N6:Lp) (N O S G L M T U X x9:Int):Qmf CI Cl Y N6 [I N,I O,I S,I G,I L,I M,I T,I U,I X,I x9]=
 cond (N==G&&(O==L&&(S==M&&true))) (some [I 0]) (cond (T==G&&(U==L&&(X==M&&true))) (some [I 0]) ((Y [I N,I O,I S,I G,I L,I M]).bind λa0=>
 (Y [I G,I L,I M,I T,I U,I X]).bind λa1=>
 (N6 [I x9,I (V (mn (gA a0 0) (gA a1 0)-2)),I 0,I 16777216,I N,I O,I S,I G,I L,I M,I T,I U,I X]).bind λD=>
 cond (D.1.beq 1) (cond (decide (gA D.2 0<16)) (some [I 0]) (some [jA D.2 0])) (none))):=by kernel_rfl
def Q5o:=Am (Ns GP GJ I2)
def Lz:=Qmf GP GJ I2 Q5o
theorem Qtm:Ai PG (Vj GP GJ I2):=Ao rfl ⟨Qxz,Q2n,Qup,trivial⟩
theorem Zok:Al PG (Z6h Lz):=rw2 (C:=Q8q GP GJ I2 Q5o) (fl fb Qtm) Qtm
def Zho:=qa 235 Qf4 ZQ
def Qbw (D G I L:Fn):Cfg:={cf [L2 D,Zkq G,Qu1 I,Z6h L]with unroll:=[13]}
def Zb4:Sk:=⟨[td,td,td,td,td,tf [sd 5 0],td,td,td,td,tf [sd 10 0],td,tf [sd 12 0],td,tf [ci],tf [se 50 3]]++dd 36++[tf [ci],tf [ci]]++dd 57,[(5,42,[ci,ci,ci]),(10,42,[ci,ci,ci]),(12,42,[ci,ci,ci])],[(50,42,kPt)]⟩
def Qri:List (Ex×Sk):=[(Ex.exit 0,⟨dd 15++[tf [se 50 3]]++dd 95,[],[(50,42,kPt)]⟩)]
def Oz (D G I L:Fn):Lp:=AL PG (Qbw D G I L) 64 9 (AN PG 235 9) Zb4 Qri
def Q69 (D G I L:Fn) (M:Lp):Cfg:=(Qbw D G I L).loop 9 Zb4 Qri M
def Qkm (D G I L:Fn) (M:Lp):Fn:=An PG (Q69 D G I L M) 64 235 Qf4 ZQ
theorem Qrl (U GS Cl Gj:Fn) (G:Rw) (S X D L M N Y v8 v9 v10 v11 v12:Int):Oz U GS Cl Gj [.vC kPt G,I S,I X,I D,I L,I M,I N,I Y,I v8,I v9,I v10,I v11,I v12]=
 cond (decide (D<X)) (cond (decide (0<=D)&&decide (D<(G.length:Int))) ((U [I (V (V (V (V (S-D)*V (S-D))*V (Y-L))+V (V (D*D)*V (v10-L)))),I 1,I (V (S*S)),I 2]).bind λO=>
 cond (decide (0<=D)&&decide (D<(G.length:Int))) (cond (decide (0<=D)&&decide (D<(G.length:Int))) ((U [I (V (V (V (V (S-D)*V (S-D))*V (v8-M))+V (V (D*D)*V (v11-M)))),I 1,I (V (S*S)),I 2]).bind λT=>
 cond (decide (0<=D)&&decide (D<(G.length:Int))) (cond (decide (0<=D)&&decide (D<(G.length:Int))) ((U [I (V (V (V (V (S-D)*V (S-D))*V (v9-N))+V (V (D*D)*V (v12-N)))),I 1,I (V (S*S)),I 2]).bind λa0=>
 cond (decide (0<=D)&&decide (D<(G.length:Int))) (cond (decide (0<=D)&&decide (D<(G.length:Int))) (some (0,[.vC kPt ((((G.set D.toNat [I L,I M,I N]).set D.toNat [I (V (Af (nth .vD (nth [] (G.set D.toNat [I L,I M,I N]) D.toNat) 0)+gA O 0)),I (Af (nth .vD (nth [] (G.set D.toNat [I L,I M,I N]) D.toNat) 1)),I (Af (nth .vD (nth [] (G.set D.toNat [I L,I M,I N]) D.toNat) 2))]).set D.toNat [I (Af (nth .vD (nth [] ((G.set D.toNat [I L,I M,I N]).set D.toNat [I (V (Af (nth .vD (nth [] (G.set D.toNat [I L,I M,I N]) D.toNat) 0)+gA O 0)),I (Af (nth .vD (nth [] (G.set D.toNat [I L,I M,I N]) D.toNat) 1)),I (Af (nth .vD (nth [] (G.set D.toNat [I L,I M,I N]) D.toNat) 2))]) D.toNat) 0)),I (V (Af (nth .vD (nth [] ((G.set D.toNat [I L,I M,I N]).set D.toNat [I (V (Af (nth .vD (nth [] (G.set D.toNat [I L,I M,I N]) D.toNat) 0)+gA O 0)),I (Af (nth .vD (nth [] (G.set D.toNat [I L,I M,I N]) D.toNat) 1)),I (Af (nth .vD (nth [] (G.set D.toNat [I L,I M,I N]) D.toNat) 2))]) D.toNat) 1)+gA T 0)),I (Af (nth .vD (nth [] ((G.set D.toNat [I L,I M,I N]).set D.toNat [I (V (Af (nth .vD (nth [] (G.set D.toNat [I L,I M,I N]) D.toNat) 0)+gA O 0)),I (Af (nth .vD (nth [] (G.set D.toNat [I L,I M,I N]) D.toNat) 1)),I (Af (nth .vD (nth [] (G.set D.toNat [I L,I M,I N]) D.toNat) 2))]) D.toNat) 2))]).set D.toNat [I (Af (nth .vD (nth [] (((G.set D.toNat [I L,I M,I N]).set D.toNat [I (V (Af (nth .vD (nth [] (G.set D.toNat [I L,I M,I N]) D.toNat) 0)+gA O 0)),I (Af (nth .vD (nth [] (G.set D.toNat [I L,I M,I N]) D.toNat) 1)),I (Af (nth .vD (nth [] (G.set D.toNat [I L,I M,I N]) D.toNat) 2))]).set D.toNat [I (Af (nth .vD (nth [] ((G.set D.toNat [I L,I M,I N]).set D.toNat [I (V (Af (nth .vD (nth [] (G.set D.toNat [I L,I M,I N]) D.toNat) 0)+gA O 0)),I (Af (nth .vD (nth [] (G.set D.toNat [I L,I M,I N]) D.toNat) 1)),I (Af (nth .vD (nth [] (G.set D.toNat [I L,I M,I N]) D.toNat) 2))]) D.toNat) 0)),I (V (Af (nth .vD (nth [] ((G.set D.toNat [I L,I M,I N]).set D.toNat [I (V (Af (nth .vD (nth [] (G.set D.toNat [I L,I M,I N]) D.toNat) 0)+gA O 0)),I (Af (nth .vD (nth [] (G.set D.toNat [I L,I M,I N]) D.toNat) 1)),I (Af (nth .vD (nth [] (G.set D.toNat [I L,I M,I N]) D.toNat) 2))]) D.toNat) 1)+gA T 0)),I (Af (nth .vD (nth [] ((G.set D.toNat [I L,I M,I N]).set D.toNat [I (V (Af (nth .vD (nth [] (G.set D.toNat [I L,I M,I N]) D.toNat) 0)+gA O 0)),I (Af (nth .vD (nth [] (G.set D.toNat [I L,I M,I N]) D.toNat) 1)),I (Af (nth .vD (nth [] (G.set D.toNat [I L,I M,I N]) D.toNat) 2))]) D.toNat) 2))]) D.toNat) 0)),I (Af (nth .vD (nth [] (((G.set D.toNat [I L,I M,I N]).set D.toNat [I (V (Af (nth .vD (nth [] (G.set D.toNat [I L,I M,I N]) D.toNat) 0)+gA O 0)),I (Af (nth .vD (nth [] (G.set D.toNat [I L,I M,I N]) D.toNat) 1)),I (Af (nth .vD (nth [] (G.set D.toNat [I L,I M,I N]) D.toNat) 2))]).set D.toNat [I (Af (nth .vD (nth [] ((G.set D.toNat [I L,I M,I N]).set D.toNat [I (V (Af (nth .vD (nth [] (G.set D.toNat [I L,I M,I N]) D.toNat) 0)+gA O 0)),I (Af (nth .vD (nth [] (G.set D.toNat [I L,I M,I N]) D.toNat) 1)),I (Af (nth .vD (nth [] (G.set D.toNat [I L,I M,I N]) D.toNat) 2))]) D.toNat) 0)),I (V (Af (nth .vD (nth [] ((G.set D.toNat [I L,I M,I N]).set D.toNat [I (V (Af (nth .vD (nth [] (G.set D.toNat [I L,I M,I N]) D.toNat) 0)+gA O 0)),I (Af (nth .vD (nth [] (G.set D.toNat [I L,I M,I N]) D.toNat) 1)),I (Af (nth .vD (nth [] (G.set D.toNat [I L,I M,I N]) D.toNat) 2))]) D.toNat) 1)+gA T 0)),I (Af (nth .vD (nth [] ((G.set D.toNat [I L,I M,I N]).set D.toNat [I (V (Af (nth .vD (nth [] (G.set D.toNat [I L,I M,I N]) D.toNat) 0)+gA O 0)),I (Af (nth .vD (nth [] (G.set D.toNat [I L,I M,I N]) D.toNat) 1)),I (Af (nth .vD (nth [] (G.set D.toNat [I L,I M,I N]) D.toNat) 2))]) D.toNat) 2))]) D.toNat) 1)),I (V (Af (nth .vD (nth [] (((G.set D.toNat [I L,I M,I N]).set D.toNat [I (V (Af (nth .vD (nth [] (G.set D.toNat [I L,I M,I N]) D.toNat) 0)+gA O 0)),I (Af (nth .vD (nth [] (G.set D.toNat [I L,I M,I N]) D.toNat) 1)),I (Af (nth .vD (nth [] (G.set D.toNat [I L,I M,I N]) D.toNat) 2))]).set D.toNat [I (Af (nth .vD (nth [] ((G.set D.toNat [I L,I M,I N]).set D.toNat [I (V (Af (nth .vD (nth [] (G.set D.toNat [I L,I M,I N]) D.toNat) 0)+gA O 0)),I (Af (nth .vD (nth [] (G.set D.toNat [I L,I M,I N]) D.toNat) 1)),I (Af (nth .vD (nth [] (G.set D.toNat [I L,I M,I N]) D.toNat) 2))]) D.toNat) 0)),I (V (Af (nth .vD (nth [] ((G.set D.toNat [I L,I M,I N]).set D.toNat [I (V (Af (nth .vD (nth [] (G.set D.toNat [I L,I M,I N]) D.toNat) 0)+gA O 0)),I (Af (nth .vD (nth [] (G.set D.toNat [I L,I M,I N]) D.toNat) 1)),I (Af (nth .vD (nth [] (G.set D.toNat [I L,I M,I N]) D.toNat) 2))]) D.toNat) 1)+gA T 0)),I (Af (nth .vD (nth [] ((G.set D.toNat [I L,I M,I N]).set D.toNat [I (V (Af (nth .vD (nth [] (G.set D.toNat [I L,I M,I N]) D.toNat) 0)+gA O 0)),I (Af (nth .vD (nth [] (G.set D.toNat [I L,I M,I N]) D.toNat) 1)),I (Af (nth .vD (nth [] (G.set D.toNat [I L,I M,I N]) D.toNat) 2))]) D.toNat) 2))]) D.toNat) 2)+gA a0 0))]),I S,I X,I (V (D+1)),I L,I M,I N,I Y,I v8,I v9,I v10,I v11,I v12])) (none)) (none)) (none)) (none)) (none)) (none)) (none)) (some (1,[.vC kPt G])):=by kernel_rfl
theorem Q2v (AK GS U Gj:Fn) (N9:Lp) (X Y x2 M N O x6 x7 x8 x9:Int):Qkm AK GS U Gj N9 [I X,I Y,I x2,I M,I N,I O,I x6,I x7,I x8,I x9]=
 (Gj [I X,I Y,I x2,I M,I N,I O,I x6,I x7,I x8,I x9]).bind λS=>
 cond (gA S 0==0) (some [.vC kPt [[I M,I N,I O]]]) ((U [I M,I N,I O,I X,I Y,I x2,jA S 0]).bind λG=>
 (U [I M,I N,I O,I x6,I x7,I x8,jA S 0]).bind λL=>
 (GS [jA G 0,jA G 1,jA G 2,I M,I N,I O,jA L 0,jA L 1,jA L 2]).bind λD=>
 cond (decide (V (gA D 0+1)=V (gA D 0+1))) (cond (decide (0<=V (gA D 0+1))&&decide (V (gA D 0+1)*(↑24:Int)<=140737488355328)) ((N9 [.vC kPt (List.replicate (V (gA D 0+1)).toNat [I 0,I 0,I 0]),jA D 0,I (↑(List.replicate (V (gA D 0+1)).toNat [I 0,I 0,I 0]).length:Int),I 0,I M,I N,I O,jA G 0,jA G 1,jA G 2,jA L 0,jA L 1,jA L 2]).bind λT=>
 cond (T.1.beq 1) (some [.vC kPt (wA T.2 0)]) (none)) (none)) (none)):=by kernel_rfl
def Q1s:=Am (Oz Bw Kl GJ Lz)
def Pg:=Qkm Bw Kl GJ Lz Q1s
theorem Q4s:Ai PG (Qbw Bw Kl GJ Lz):=Ao rfl ⟨K4,Zeu,Q2n,Zok,trivial⟩
theorem Z3o:Al PG (Zho Pg):=rw2 (C:=Q69 Bw Kl GJ Lz Q1s) (fl fb Q4s) Q4s
def Zzr:=qa 236 ZP ZP
def Qwv:Fn:=An PG C_cncref30_SamePulses_0 64 236 ZP ZP
theorem Zl9 (D G L:Int):Qwv [I D,I G,I L]=
 some [I (V (D*16)),I (V (G*16)),I (V (L*16))]:=by kernel_rfl
def NX:=Qwv
theorem Ziu:Ai PG (C_cncref30_SamePulses_0):=Ao rfl trivial
theorem Zna:Al PG (Zzr NX):=rw1 (C:=C_cncref30_SamePulses_0) Ziu
def ZR:Sk:=⟨[TS.v true (cc 13++[sb,ci,sb]++cc 5++[sb]),TS.v true (cc 13++[sb,ci,sb]++cc 5++[sb])],[],[]⟩
def Qq1:Sk:=⟨[TS.tup [(false,[sa kPt]),(false,[sa kPt])]],[],[]⟩
def Zec:=qa 188 ZR Qq1
def Qfd (D G I:Fn):Cfg:=cf [Zho D,Zzr G,Qbr I]
def Qhl (D G I:Fn):Fn:=An PG (Qfd D G I) 64 188 ZR Qq1
theorem Z9k (Ms N0 BX:Fn) (x0 x1 x2 x3 x4 x5 x6 x7 x8 x9 L M N:Int) (O:Bool) (S:Int) (T:Bool) (U X G Y a0:Int) (a1:Bool) (a2 a3 a4 a5 a6 a7 a8 a9 b0 b1 b2 b3 b4:Int) (b5:Bool) (b6:Int) (b7:Bool) (b8 b9 c0 c1 c2:Int) (c3:Bool):Qhl Ms N0 BX [I x0,I x1,I x2,I x3,I x4,I x5,I x6,I x7,I x8,I x9,I L,I M,I N,B O,I S,B T,I U,I X,I G,I Y,I a0,B a1,I a2,I a3,I a4,I a5,I a6,I a7,I a8,I a9,I b0,I b1,I b2,I b3,I b4,B b5,I b6,B b7,I b8,I b9,I c0,I c1,I c2,B c3]=
 (BX [I x0,I x1,I x2,I x3,I x4,I x5,I x6,I x7,I x8,I x9,I L,I M,I N,B O,I S,B T,I U,I X,I G,I Y,I a0,B a1]).bind λo4=>
 (N0 [I x5,I x6,I x7]).bind λo5=>
 (BX [I a2,I a3,I a4,I a5,I a6,I a7,I a8,I a9,I b0,I b1,I b2,I b3,I b4,B b5,I b6,B b7,I b8,I b9,I c0,I c1,I c2,B c3]).bind λo6=>
 (Ms [jA o4 0,jA o4 1,jA o4 2,jA o5 0,jA o5 1,jA o5 2,jA o6 0,jA o6 1,jA o6 2,I (V (G*16))]).bind λD=>
 cond (decide (0<=V (V ((V ((↑(wA D 0).length:Int)-1)).tdiv 2)+1))&&decide (V (V ((V ((↑(wA D 0).length:Int)-1)).tdiv 2)+1)<=(↑(wA D 0).length:Int))) (cond (decide (0<=V ((V ((↑(wA D 0).length:Int)-1)).tdiv 2))&&decide (V ((V ((↑(wA D 0).length:Int)-1)).tdiv 2)<=(↑(wA D 0).length:Int))) (some [.vC kPt (List.take (V (V ((V ((↑(wA D 0).length:Int)-1)).tdiv 2)+1)).toNat (wA D 0)), .vC kPt (List.drop (V ((V ((↑(wA D 0).length:Int)-1)).tdiv 2)).toNat (wA D 0))]) (none)) (none):=by kernel_rfl
def Q2:=Qhl Pg NX F4
theorem Zz0:Ai PG (Qfd Pg NX F4):=Ao rfl ⟨Z3o,Zna,Qqw,trivial⟩
theorem Z2j:Al PG (Zec Q2):=rw1 (C:=Qfd Pg NX F4) Zz0
def Qe6:Sk:=⟨[TS.tup [(false,[ci]),(false,[ci]),(false,[ci]),(false,[sb])]],[],[]⟩
def Qn6:=qa 179 Y2 Qe6
def Qs9:Fn:=An PG C_cncref30_SamePulses_0 64 179 Y2 Qe6
theorem Z12 (D:Int):Qs9 [I D]=
 cond (D==17) (some [I 0,I 1,I 2,B true]) (cond (D==18) (some [I 2,I 0,I 1,B true]) (cond (D==19) (some [I 1,I 2,I 0,B true]) (some [I 0,I 0,I 0,B false]))):=by kernel_rfl
def Fh:=Qs9
theorem Z0u:Ai PG (C_cncref30_SamePulses_0):=Ao rfl trivial
theorem Qot:Al PG (Qn6 Fh):=rw1 (C:=C_cncref30_SamePulses_0) Z0u
def Zfs:=qa 234 WY ZP
def Qfy (D:Fn):Cfg:=cf [Qn6 D]
def Qhd (D:Fn):Fn:=An PG (Qfy D) 64 234 WY ZP
abbrev T6 (o1:List AC) (M:Int) (D G L:AC):Option (List AC):=
 cond (decide (gA o1 2=(↑0:Int))) (some [I M,D,G]) (cond (decide (gA o1 2=(↑(0+1):Int))) (some [L,I M,G]) (cond (decide (gA o1 2=(↑(0+1+1):Int))) (some [L,D,I M]) (none)))
abbrev R4 (o1:List AC) (M N:Int) (D G L:AC):Option (List AC):=
 cond (decide (gA o1 1=(↑0:Int))) (T6 o1 M D G (I N)) (cond (decide (gA o1 1=(↑(0+1):Int))) (T6 o1 M (I N) G L) (cond (decide (gA o1 1=(↑(0+1+1):Int))) (T6 o1 M D (I N) L) (none)))
theorem Zvq (M:Fn) (D G L N:Int):Qhd M [I D,I G,I L,I N]=
 (M [I N]).bind λo1=>
 cond (bA o1 3) (cond (decide (gA o1 0=(↑0:Int))) (R4 o1 L G (I 0) (I 0) (I D)) (cond (decide (gA o1 0=(↑(0+1):Int))) (R4 o1 L G (I D) (I 0) (I 0)) (cond (decide (gA o1 0=(↑(0+1+1):Int))) (R4 o1 L G (I 0) (I D) (I 0)) (none)))) (some [I 0,I 0,I 0]):=by kernel_rfl
def Mk:=Qhd Fh
theorem Z9v:Ai PG (Qfy Fh):=Ao rfl ⟨Qot,trivial⟩
theorem Z27:Al PG (Zfs Mk):=rw1 (C:=Qfy Fh) Z9v
def Qih:Sk:=⟨[TS.tup [(false,[ci]),(false,[ci]),(false,[ci])]],[],[]⟩
def Qxk:=qa 173 Qgz Qih
def VR (D:Fn):Cfg:=cf [Qn6 D]
def U5 (D:Fn):Fn:=An PG (VR D) 64 173 Qgz Qih
abbrev R6 (o1:List AC) (D:AC) (L M N:Int) (G:AC):Option (List AC):=
 cond (decide (gA o1 2=(↑0:Int))) (some [D,G,I L]) (cond (decide (gA o1 2=(↑(0+1):Int))) (some [D,G,I M]) (cond (decide (gA o1 2=(↑(0+1+1):Int))) (some [D,G,I N]) (none)))
abbrev SO (o1:List AC) (G L M:Int) (D:AC):Option (List AC):=
 cond (decide (gA o1 1=(↑0:Int))) (R6 o1 D G L M (I G)) (cond (decide (gA o1 1=(↑(0+1):Int))) (R6 o1 D G L M (I L)) (cond (decide (gA o1 1=(↑(0+1+1):Int))) (R6 o1 D G L M (I M)) (none)))
theorem Z9i (M:Fn) (D G L N:Int):U5 M [I D,I G,I L,I N]=
 (M [I N]).bind λo1=>
 cond (!bA o1 3) (some [I 0,I 0,I 0]) (cond (decide (gA o1 0=(↑0:Int))) (SO o1 D G L (I D)) (cond (decide (gA o1 0=(↑(0+1):Int))) (SO o1 D G L (I G)) (cond (decide (gA o1 0=(↑(0+1+1):Int))) (SO o1 D G L (I L)) (none)))):=by kernel_rfl
def HV:=U5 Fh
theorem Zh7:Ai PG (VR Fh):=Ao rfl ⟨Qot,trivial⟩
theorem Qvi:Al PG (Qxk HV):=rw1 (C:=VR Fh) Zh7
def Q91:=qa 231 ZP ZP
def Qtd:Fn:=An PG C_cncref30_SamePulses_0 64 231 ZP ZP
theorem Zme (D G L:Int):Qtd [I D,I G,I L]=
 some [I (V (D*16)),I (V (G*16)),I (V (L*16))]:=by kernel_rfl
def Hm:=Qtd
theorem Z2f:Ai PG (C_cncref30_SamePulses_0):=Ao rfl trivial
theorem Q67:Al PG (Q91 Hm):=rw1 (C:=C_cncref30_SamePulses_0) Z2f
def Qop:Sk:=⟨[TS.v true [ci,ci,ci,ci],TS.v true [ci,ci,ci,ci]],[],[]⟩
def Qic:=qa 183 Qop Y2
def Quw:Fn:=An PG C_cncref30_SamePulses_0 64 183 Qop Y2
theorem Zmh (D G N O L M S T:Int):Quw [I D,I G,I N,I O,I L,I M,I S,I T]=
 some [I (V (V (D*M)-V (G*L)))]:=by kernel_rfl
def GR:=Quw
theorem Zx0:Ai PG (C_cncref30_SamePulses_0):=Ao rfl trivial
theorem WX:Al PG (Qic GR):=rw1 (C:=C_cncref30_SamePulses_0) Zx0
def Qpw:=qa 181 Qop Y2
def Qwy:Fn:=An PG C_cncref30_SamePulses_0 64 181 Qop Y2
theorem Zxk (D G N O L M S T:Int):Qwy [I D,I G,I N,I O,I L,I M,I S,I T]=
 some [I (V (V (D*L)+V (G*M)))]:=by kernel_rfl
def Gq:=Qwy
theorem Zli:Ai PG (C_cncref30_SamePulses_0):=Ao rfl trivial
theorem ZK:Al PG (Qpw Gq):=rw1 (C:=C_cncref30_SamePulses_0) Zli
def Qlu:Sk:=⟨[TS.v true [ci,ci,ci,ci],TS.v true [ci,ci,ci,ci],tf [ci],tf [sb]],[],[]⟩
def Qc9:Sk:=⟨[TS.tup [(true,[ci,ci,ci,ci]),(false,[sb])]],[],[]⟩
def Z6q:=qa 285 Qlu Qc9
def Qgl (D G I:Fn):Cfg:=cf [Q4g D,Qic G,Qpw I]
def Qdw (D G I:Fn):Fn:=An PG (Qgl D G I) 64 285 Qlu Qc9
abbrev Qaq (T:Fn) (G:AC) (M N:Int) (D L:AC) (U X:Int):Option (List AC):=
 (T [G,I ((V (V (M+N)+1)).fdiv (2^min (Int.toNat 1) IntKind.i64.bits)),D,I 2]).bind λO=>
 (T [L,I ((V (V (M+N)+1)).fdiv (2^min (Int.toNat 1) IntKind.i64.bits)),D,I 2]).bind λS=>
 some [jA O 0,jA S 0,I ((V (V (M+N)+1)).fdiv (2^min (Int.toNat 1) IntKind.i64.bits)),I ((V (V (U+X)+1)).fdiv (2^min (Int.toNat 1) IntKind.i64.bits)),B true]
abbrev QX (O:Fn) (S T U V:Int) (M N:Bool) (D G L:AC):Option (List AC):=
 cond (M) (cond (N) (some [I 0,I 0,I 0,I 0,B false]) (Qaq O D S T G L U V)) (Qaq O D S T G L U V)
abbrev YM (x9:Bool) (X:Fn) (O S T U D G:Int) (B_:Fn) (L M N:Int) (CG:Fn):Option (List AC):=
 cond (x9) (QX X O S T U (V (0-D)==0) (V (0-G)==0) (I (V (0-D))) (I (V (V (V (0-D)*V (0-D))+V (V (0-G)*V (0-G))))) (I (V (0-G)))) ((B_ [I D,I G,I O,I T,I L,I M,I S,I U]).bind λY=>
 cond (decide (gA Y 0<=0)) (QX X O S T U (V (N*V (M-G))==0) (V (N*V (D-L))==0) (I (V (N*V (M-G)))) (I (V (V (V (N*V (M-G))*V (N*V (M-G)))+V (V (N*V (D-L))*V (N*V (D-L)))))) (I (V (N*V (D-L))))) ((CG [I D,I G,I O,I T,I L,I M,I S,I U]).bind λa0=>
 cond (decide (V (gA a0 0*N)<=0)) (QX X O S T U (V (0-V (D+L))==0) (V (0-V (G+M))==0) (I (V (0-V (D+L)))) (I (V (V (V (0-V (D+L))*V (0-V (D+L)))+V (V (0-V (G+M))*V (0-V (G+M)))))) (I (V (0-V (G+M))))) (QX X O S T U (V (D+L)==0) (V (G+M)==0) (I (V (D+L))) (I (V (V (V (D+L)*V (D+L))+V (V (G+M)*V (G+M))))) (I (V (G+M))))))
theorem Zod (G L M:Fn) (N O S T U V X Y D:Int) (x9:Bool):Qdw G L M [I N,I O,I S,I T,I U,I V,I X,I Y,I D,B x9]=
 cond (D !=1) (cond (D != -1) (some [I 0,I 0,I 0,I 0,B false]) (YM x9 G S X T Y N O M U V D L)) (YM x9 G S X T Y N O M U V D L):=by kernel_rfl
def Md:=Qdw Ij GR Gq
theorem Z10:Ai PG (Qgl Ij GR Gq):=Ao rfl ⟨Qt0,WX,ZK,trivial⟩
theorem Z3j:Al PG (Z6q Md):=rw1 (C:=Qgl Ij GR Gq) Z10
def Zue:=qa 295 YH Qhz
def Q3b:Fn:=An PG C_cncref30_SamePulses_0 64 295 YH Qhz
theorem Zzb (D G:Int):Q3b [I D,I G]=
 some [B (decide (G<=V (V (V (8*D)*4)-64)))]:=by kernel_rfl
def NI:=Q3b
theorem Zvx:Ai PG (C_cncref30_SamePulses_0):=Ao rfl trivial
theorem Zde:Al PG (Zue NI):=rw1 (C:=C_cncref30_SamePulses_0) Zvx
def Qdi:Sk:=⟨[tf [sd 20000 0],TS.v true [ci,ci,ci,ci],TS.v true [ci,ci,ci,ci],tf [sb]],[(20000,304,[ci,se 20000 4])],[(20000,228,[kI,kI,kI,kI])]⟩
def WD:Sk:=⟨[tf [sb]],[(20000,304,[ci,se 20000 4])],[(20000,228,[kI,kI,kI,kI])]⟩
def Zko:=qa 284 Qdi WD
def Qqh (D G:Fn):Cfg:=cf [Zue D,Qic G]
def Qg2 (D G:Fn):Fn:=An PG (Qqh D G) 64 284 Qdi WD
theorem Zgk (U X:Fn) (G:Rw) (L M S Y N O T x8:Int) (x9:Bool) (D:Int):Qg2 U X [.vC [kI,kI,kI,kI] G,I L,I M,I S,I Y,I N,I O,I T,I x8,B x9,I D]=
 cond (!x9) ((X [I L,I M,I S,I Y,I N,I O,I T,I x8]).bind λo2=>
 cond (decide (V (gA o2 0*D)>0)) ((U [I (mn S T),I (V (V (V (L-N)*V (L-N))+V (V (M-O)*V (M-O))))]).bind λo3=>
 some [.vC [kI,kI,kI,kI] G,B (bA o3 0),I D]) (some [.vC [kI,kI,kI,kI] G,B false,I D])) (some [.vC [kI,kI,kI,kI] G,B false,I D]):=by kernel_rfl
def Lj:=Qg2 NI GR
theorem Zub:Ai PG (Qqh NI GR):=Ao rfl ⟨Zde,WX,trivial⟩
theorem Zo4:Al PG (Zko Lj):=rw1 (C:=Qqh NI GR) Zub
def Qx2:Nat:=20
def LP:Sk:=⟨[tf [sd 20000 0],TS.v true [ci,ci,ci,ci],TS.v true [ci,ci,ci,ci],tf [sb],tf [ci]],[(20000,304,[ci,se 20000 4])],[(20000,228,[kI,kI,kI,kI])]⟩
def Ma:Sk:=⟨[TS.tup []],[(20000,304,[ci,se 20000 4])],[(20000,228,[kI,kI,kI,kI])]⟩
def Zce:=qa 260 LP Ma
def Qoi (D G I:Fn):Cfg:=cp [Zce D,Z6q G,Zko I] [260,284]
def Up (D G I:Fn):Fn:=An PG (Qoi D G I) 64 260 LP Ma
theorem Qr0 (Fe Ny NG:Fn) (T:Rw) (U X Y x4 D G L M:Int) (x9:Bool) (N S:Int):Up Fe Ny NG [.vC [kI,kI,kI,kI] T,I U,I X,I Y,I x4,I D,I G,I L,I M,B x9,I N,I S]=
 cond (decide (N<16)) ((NG [.vC [kI,kI,kI,kI] T,I U,I X,I Y,I x4,I D,I G,I L,I M,B x9,I S]).bind λo4=>
 cond (!bA o4 1) ((Ny [I U,I X,I Y,I x4,I D,I G,I L,I M,jA o4 2,B x9]).bind λO=>
 cond (bA O 4) ((Fe [.vC [kI,kI,kI,kI] (wA o4 0),I U,I X,I Y,I x4,jA O 0,jA O 1,jA O 2,jA O 3,B false,I (V (N+1)),jA o4 2]).bind λo6=>
 (Fe [.vC [kI,kI,kI,kI] (wA o6 0),jA O 0,jA O 1,jA O 2,jA O 3,I D,I G,I L,I M,B false,I (V (N+1)),jA o6 1]).bind λo7=>
 some [.vC [kI,kI,kI,kI] (wA o7 0),jA o7 1]) (cond (((wA o4 0++[[I D,I G,I L,I M]]).length*32).ble 140737488355328) (some [.vC [kI,kI,kI,kI] (wA o4 0++[[I D,I G,I L,I M]]),jA o4 2]) (none))) (cond (((wA o4 0++[[I D,I G,I L,I M]]).length*32).ble 140737488355328) (some [.vC [kI,kI,kI,kI] (wA o4 0++[[I D,I G,I L,I M]]),jA o4 2]) (none))) (cond (((T++[[I D,I G,I L,I M]]).length*32).ble 140737488355328) (some [.vC [kI,kI,kI,kI] (T++[[I D,I G,I L,I M]]),I S]) (none)):=by kernel_rfl
def Zby (M:Fn):Fn:=Up M Md Lj
def NW:Nat->Fn
 |0=>λ_=>none
 |n+1=>Zby (NW n)
theorem Zzk {M:Fn} (h:Al PG (260,Ac LP Ma M)):Ai PG (Qoi M Md Lj):=Ao rfl ⟨h,Z3j,Zo4,trivial⟩
theorem Zgq {M:Fn} (h:Al PG (260,Ac LP Ma M)):Al PG (260,Ac LP Ma (Zby M)):=Qoh (C:=Qoi M Md Lj) (L:=64) (by kernel_rfl) (FnOK.bare rfl rfl rfl) (Zzk h) eqOk Hk (by kernel_rfl) (by kernel_rfl)
theorem Q9o:∀n,Al PG (260,Ac LP Ma (NW n))
 |0=>Rk
 |n+1=>Zgq (Q9o n)
def Sj:=NW Qx2
theorem Zw2:Al PG (Zce Sj):=Q9o Qx2
def Qc3:Sk:=⟨[TS.tup [(true,[ci,ci,ci,ci]),(true,[ci,ci,ci,ci])]],[],[]⟩
def Q6j:=qa 180 Qeb Qc3
def ZI (D G:Fn):Cfg:=cf [Qxk D,Q91 G]
def Q1d:Sk:=⟨[td,tf [sd 1 0],tf [sd 2 0],tf [sd 3 0],tf [sd 4 0],tf [ci],tf [ci]]++dd 20++[TS.v true (cc 6),tf [ci]]++dd 27,[(1,31,cc 13++[sb,ci,sb]++cc 5++[sb]),(2,228,[ci,ci,ci,ci]),(3,228,[ci,ci,ci,ci]),(4,277,cc 8)],[]⟩
def Qy6:List (Ex×Sk):=[(Ex.exit 0,⟨[td,td,tf [sd 2 0],tf [sd 3 0],tf [sd 4 0]]++dd 51,[(2,228,[ci,ci,ci,ci]),(3,228,[ci,ci,ci,ci]),(4,277,cc 8)],[]⟩)]
def Qp2 (D G:Fn):Lp:=AL PG (ZI D G) 64 4 (AN PG 180 4) Q1d Qy6
def Qut (D G:Fn) (I:Lp):Cfg:=(ZI D G).loop 4 Q1d Qy6 I
def X5 (D G:Fn) (I:Lp):Fn:=An PG (Qut D G I) 64 180 Qeb Qc3
abbrev Qhm (BT B4:Fn) (G v8 v0 v1 v2 v3 v4 v5 v6 v7 v9 v10 v11 v12 L M N O S T v20 v21:Int) (v22:Bool) (U:Int) (v24:Bool) (v25 X v27 v28 Y:Int) (v30:Bool) (v31 a0 v33 a1 v35 v36 v37 v38 a5 v44 a6 v46 a7 v40 a8 v42:Int) (a2 a3 a4:AC):Option (Nat×List AC):=
 (BT [a2,a3,a4]).bind λo9=>
 (B4 [jA o9 0,jA o9 1,jA o9 2,I G]).bind λD=>
 cond (decide (v8=(↑0:Int))) (some (0,[I v0,I v1,I v2,I v3,I v4,I v5,I v6,I v7,I (V (v8+1)),I v9,I v10,I v11,I v12,I L,I M,I N,I O,I G,I S,I T,I v20,I v21,B v22,I U,B v24,I v25,I X,I v27,I v28,I Y,B v30,I v31,I a0,I v33,I a1,I v35,I v36,I v37,I v38,I (V (gA D 0-v0)),I (V (gA D 1-v1)),I 0,jA D 2,I a5,I v44,I a6,I v46])) (cond (decide (v8=(↑(0+1):Int))) (some (0,[I v0,I v1,I v2,I v3,I v4,I v5,I v6,I v7,I (V (v8+1)),I v9,I v10,I v11,I v12,I L,I M,I N,I O,I G,I S,I T,I v20,I v21,B v22,I U,B v24,I v25,I X,I v27,I v28,I Y,B v30,I v31,I a0,I v33,I a1,I v35,I v36,I v37,I v38,I a7,I v40,I a8,I v42,I (V (gA D 0-v0)),I (V (gA D 1-v1)),I 0,jA D 2])) (none))
theorem Qob (B4 BT:Fn) (v0 v1 v2 v3 v4 v5 v6 v7 v8 v9 v10 v11 v12 S T U V X Y a0 v20 v21:Int) (v22:Bool) (a1:Int) (v24:Bool) (v25 a2 v27 v28 a3:Int) (v30:Bool) (v31 D v33 G v35 v36 v37 v38 L v40 M v42 N v44 O v46:Int):Qp2 B4 BT [I v0,I v1,I v2,I v3,I v4,I v5,I v6,I v7,I v8,I v9,I v10,I v11,I v12,I S,I T,I U,I V,I X,I Y,I a0,I v20,I v21,B v22,I a1,B v24,I v25,I a2,I v27,I v28,I a3,B v30,I v31,I D,I v33,I G,I v35,I v36,I v37,I v38,I L,I v40,I M,I v42,I N,I v44,I O,I v46]=
 cond (decide (v8<2)) (cond (decide (v8=(↑0:Int))) (Qhm BT B4 X v8 v0 v1 v2 v3 v4 v5 v6 v7 v9 v10 v11 v12 S T U V Y a0 v20 v21 v22 a1 v24 v25 a2 v27 v28 a3 v30 v31 D v33 G v35 v36 v37 v38 N v44 O v46 L v40 M v42 (I v2) (I v3) (I v4)) (cond (decide (v8=(↑(0+1):Int))) (Qhm BT B4 X v8 v0 v1 v2 v3 v4 v5 v6 v7 v9 v10 v11 v12 S T U V Y a0 v20 v21 v22 a1 v24 v25 a2 v27 v28 a3 v30 v31 D v33 G v35 v36 v37 v38 N v44 O v46 L v40 M v42 (I v5) (I v6) (I v7)) (none))) (some (1,[I v31,I D,I v33,I G,I v35,I v36,I v37,I v38,I L,I v40,I M,I v42,I N,I v44,I O,I v46])):=by kernel_rfl
theorem Zv2 (B4 BT:Fn) (N4:Lp) (x0 x1 x2 x3 x4 x5 x6 x7 x8 x9 G L N:Int) (O:Bool) (S:Int) (T:Bool) (U V X Y a0:Int) (a1:Bool):X5 B4 BT N4 [I x0,I x1,I x2,I x3,I x4,I x5,I x6,I x7,I x8,I x9,I G,I L,I N,B O,I S,B T,I U,I V,I X,I Y,I a0,B a1]=
 (BT [I x9,I G,I L]).bind λM=>
 (B4 [jA M 0,jA M 1,jA M 2,I x8]).bind λa2=>
 (N4 [jA a2 0,jA a2 1,I x2,I x3,I x4,I x5,I x6,I x7,I 0,I x0,I x1,I x2,I x3,I x4,I x5,I x6,I x7,I x8,I x9,I G,I L,I N,B O,I S,B T,I U,I V,I X,I Y,I a0,B a1,I 0,I 0,I 0,I 0,I 0,I 0,I 0,I 0,I 0,I 0,I 0,I 0,I 0,I 0,I 0,I 0]).bind λD=>
 cond (D.1.beq 1) (some [jA D.2 8,jA D.2 9,jA D.2 10,jA D.2 11,jA D.2 12,jA D.2 13,jA D.2 14,jA D.2 15]) (none):=by kernel_rfl
def Zbn:=Am (Qp2 HV Hm)
def Kv:=X5 HV Hm Zbn
theorem Q40:Ai PG (ZI HV Hm):=Ao rfl ⟨Qvi,Q67,trivial⟩
theorem Q5t:Al PG (Q6j Kv):=rw2 (C:=Qut HV Hm Zbn) (fl fb Q40) Q40
def Z7r:=qa 186 WY Y2
def Qjw (D G I L:Fn):Cfg:=cf [Qrb D,TJ G,Qa8 I,W2 L]
def Qon (D G I L:Fn):Fn:=An PG (Qjw D G I L) 64 186 WY Y2
theorem Zcv (DP N D O:Fn) (S T X Y:Int):Qon DP N D O [I S,I T,I X,I Y]=
 (O [I S,I T]).bind λo9=>
 (O [I X,I Y]).bind λG=>
 cond (gA o9 0 !=gA G 0) (cond (decide (gA o9 0<gA G 0)) (some [I (-1)]) (some [I 1])) ((D [I S]).bind λa0=>
 (D [I T]).bind λa1=>
 (N [U (gA a0 0),U (gA a1 0)]).bind λL=>
 (D [I X]).bind λa2=>
 (D [I Y]).bind λa3=>
 (N [U (gA a2 0),U (gA a3 0)]).bind λM=>
 (DP [U (gA L 0),U (gA L 1),U (gA M 0),U (gA M 1)]).bind λa4=>
 some [I (V (gA o9 0*gA a4 0))]):=by kernel_rfl
def OM:=Qon H0 Ej F_ FK
theorem Z4n:Ai PG (Qjw H0 Ej F_ FK):=Ao rfl ⟨Qyi,Uz,VF,Qct,trivial⟩
theorem Zrz:Al PG (Z7r OM):=rw1 (C:=Qjw H0 Ej F_ FK) Z4n
def Zyz:=qa 182 YH Qhz
def Ye (D:Fn):Cfg:=cf [Z7r D]
def XV (D:Fn):Fn:=An PG (Ye D) 64 182 YH Qhz
theorem Zqg (L:Fn) (D G:Int):XV L [I D,I G]=
 cond (decide (V (V (mx D G-mn D G)-16)<=0)) (some [B true]) ((L [I (V (V (mx D G-mn D G)-16)),I (V (V (mx D G-mn D G)-16)),I 64,I (mn D G)]).bind λo1=>
 some [B (decide (gA o1 0<=0))]):=by kernel_rfl
def PT:=XV OM
theorem Zh6:Ai PG (Ye OM):=Ao rfl ⟨Zrz,trivial⟩
theorem Yay:Al PG (Zyz PT):=rw1 (C:=Ye OM) Zh6
def Zmi:=qa 178 ZP Qhz
def Zbs:Fn:=An PG Qb8 64 178 ZP Qhz
theorem Zn6 (D G L:Int):Zbs [I D,I G,I L]=
 cond (decide (D< -1048576)) (some [B false]) (cond (decide (D>1048576)) (some [B false]) (cond (decide (G< -1048576)) (some [B false]) (cond (decide (G>1048576)) (some [B false]) (cond (decide (L< -1048576)) (some [B false]) (cond (decide (L>1048576)) (some [B false]) (some [B true])))))):=by kernel_rfl
def Nq:=Zbs
theorem Zg1:Ai PG (Qb8):=Ao rfl trivial
theorem Zrt:Al PG (Zmi Nq):=rw1 (C:=Qb8) Zg1
def Qak:=qa 132 Qeb Qhz
def W3 (D G I L M N:Fn):Cfg:=cf [Qic D,Zyz G,Qpw I,Q6j L,Qn6 M,Zmi N]
def Qn7 (D G I L M N:Fn):Fn:=An PG (W3 D G I L M N) 64 132 Qeb Qhz
abbrev Qgd (HB:Fn) (x9 G L:Int) (EK:Fn) (x0 x1 x2 x3 x4 x5 x6 x7 x8 S:Int) (M:Bool) (T:Int) (U:Bool) (X Y a0 a1 a2:Int) (a3:Bool) (B_ JA CG:Fn):Option (List AC):=
 (HB [I x9,I G,I L]).bind λa4=>
 cond (!bA a4 0) (some [B false]) ((EK [I x0,I x1,I x2,I x3,I x4,I x5,I x6,I x7,I x8,I x9,I G,I L,I S,B M,I T,B U,I X,I Y,I a0,I a1,I a2,B a3]).bind λD=>
 (B_ [jA D 0,jA D 1,jA D 2,jA D 3,jA D 0,jA D 1,jA D 2,jA D 3]).bind λN=>
 (B_ [jA D 4,jA D 5,jA D 6,jA D 7,jA D 4,jA D 5,jA D 6,jA D 7]).bind λO=>
 cond (decide (gA N 0<V (128*128))) (some [B false]) (cond (decide (gA O 0<V (128*128))) (some [B false]) ((JA [I (V ((gA N 0).tdiv 256)),I (V ((gA O 0).tdiv 256))]).bind λa5=>
 cond (!bA a5 0) (some [B false]) (cond (M) (cond (gA D 0==gA D 4) (some [B (gA D 1==gA D 5)]) (some [B false])) ((CG [jA D 0,jA D 1,jA D 2,jA D 3,jA D 4,jA D 5,jA D 6,jA D 7]).bind λa6=>
 cond (gA a6 0 !=0) (some [B true]) ((B_ [jA D 0,jA D 1,jA D 2,jA D 3,jA D 4,jA D 5,jA D 6,jA D 7]).bind λa7=>
 some [B (decide (gA a7 0<0))]))))))
theorem Zwn (CG JA B_ EK DM HB:Fn) (x0 x1 x2 x3 x4 x5 x6 x7 x8 x9 G L D:Int) (M:Bool) (N:Int) (O:Bool) (S T U V X:Int) (Y:Bool):Qn7 CG JA B_ EK DM HB [I x0,I x1,I x2,I x3,I x4,I x5,I x6,I x7,I x8,I x9,I G,I L,I D,B M,I N,B O,I S,I T,I U,I V,I X,B Y]=
 cond (decide (x0<1)) (some [B false]) (cond (decide (x0>6)) (some [B false]) ((HB [I x2,I x3,I x4]).bind λa0=>
 cond (!bA a0 0) (some [B false]) ((HB [I x5,I x6,I x7]).bind λa1=>
 cond (!bA a1 0) (some [B false]) (cond (x0 !=3) (some [B true]) ((DM [I x8]).bind λa2=>
 cond (!bA a2 3) (some [B false]) (cond (D !=1) (cond (D != -1) (some [B false]) (Qgd HB x9 G L EK x0 x1 x2 x3 x4 x5 x6 x7 x8 D M N O S T U V X Y B_ JA CG)) (Qgd HB x9 G L EK x0 x1 x2 x3 x4 x5 x6 x7 x8 D M N O S T U V X Y B_ JA CG))))))):=by kernel_rfl
def GD:=Qn7 GR PT Gq Kv Fh Nq
theorem Ze3:Ai PG (W3 GR PT Gq Kv Fh Nq):=Ao rfl ⟨WX,Yay,ZK,Q5t,Qot,Zrt,trivial⟩
theorem ZO:Al PG (Qak GD):=rw1 (C:=W3 GR PT Gq Kv Fh Nq) Ze3
def Qjk:Sk:=⟨[TS.tup [(false,[sa [kI,kI,kI,kI]]),(false,[sb])]],[],[]⟩
def Zoz:=qa 233 Qeb Qjk
def VM (D G I L M:Fn):Cfg:={cp [Zce D,Qug G,Qpw I,Q6j L,Qak M] [260]with rowDst:=[39]}
def Qna (D G I L M:Fn):Fn:=An PG (VM D G I L M) 64 233 Qeb Qjk
theorem Z1g (Fe Fo B_ EK Cw:Fn) (x0 x1 x2 x3 x4 x5 x6 x7 x8 x9 L M D:Int) (G:Bool) (N:Int) (O:Bool) (S T U V X:Int) (Y:Bool):Qna Fe Fo B_ EK Cw [I x0,I x1,I x2,I x3,I x4,I x5,I x6,I x7,I x8,I x9,I L,I M,I D,B G,I N,B O,I S,I T,I U,I V,I X,B Y]=
 cond (x0 !=3) (some [.vC [kI,kI,kI,kI] [],B false]) ((Cw [I x0,I x1,I x2,I x3,I x4,I x5,I x6,I x7,I x8,I x9,I L,I M,I D,B G,I N,B O,I S,I T,I U,I V,I X,B Y]).bind λo7=>
 cond (!bA o7 0) (some [.vC [kI,kI,kI,kI] [],B false]) ((EK [I x0,I x1,I x2,I x3,I x4,I x5,I x6,I x7,I x8,I x9,I L,I M,I D,B G,I N,B O,I S,I T,I U,I V,I X,B Y]).bind λo8=>
 (B_ [jA o8 0,jA o8 1,jA o8 2,jA o8 3,jA o8 0,jA o8 1,jA o8 2,jA o8 3]).bind λo9=>
 (Fo [jA o9 0,I 2]).bind λa0=>
 (B_ [jA o8 4,jA o8 5,jA o8 6,jA o8 7,jA o8 4,jA o8 5,jA o8 6,jA o8 7]).bind λa1=>
 (Fo [jA a1 0,I 2]).bind λa2=>
 (Fe [.vC [kI,kI,kI,kI] [[jA o8 0,jA o8 1,jA a0 0,jA o8 3]],jA o8 0,jA o8 1,jA a0 0,jA o8 3,jA o8 4,jA o8 5,jA a2 0,jA o8 7,B G,I 0,I D]).bind λa3=>
 some [.vC [kI,kI,kI,kI] (wA a3 0),B true])):=by kernel_rfl
def OG:=Qna Sj IE Gq Kv GD
theorem Z6e:Ai PG (VM Sj IE Gq Kv GD):=Ao rfl ⟨Zw2,Qw4,ZK,Q5t,ZO,trivial⟩
theorem Zjx:Al PG (Zoz OG):=rw1 (C:=VM Sj IE Gq Kv GD) Z6e
def Qe4:Sk:=⟨[TS.tup [(false,[sa kPt]),(false,[sb])]],[],[]⟩
def Zov:=qa 187 Qeb Qe4
def Qb7 (D G I L M:Fn):Cfg:=cf [Zfs D,Qxk G,Q91 I,Zoz L,Qak M]
def Qzr:Sk:=⟨[td,tf [sd 1 0],td,td,td,td,tf [ci],tf [ci],td,tf [se 41 3]]++dd 32++[tf [sa [kI,kI,kI,kI]],tf [ci],tf [ci]]++dd 22,[(1,31,cc 13++[sb,ci,sb]++cc 5++[sb])],[(41,42,kPt)]⟩
def Q89:List (Ex×Sk):=[(Ex.exit 0,⟨dd 9++[tf [se 41 3]]++dd 57,[],[(41,42,kPt)]⟩)]
def NP (D G I L M:Fn):Lp:=AL PG (Qb7 D G I L M) 64 9 (AN PG 187 9) Qzr Q89
def Zcb (D G I L M:Fn) (N:Lp):Cfg:=(Qb7 D G I L M).loop 9 Qzr Q89 N
def Ua (D G I L M:Fn) (N:Lp):Fn:=An PG (Zcb D G I L M N) 64 187 Qeb Qe4
theorem Q1a (Ha B4 BT Gk Cw:Fn) (v0:Rw) (v1 v2:Int) (M:Rw) (v4 D v6 v7 v8 v9 v10 v11 v12 N G O S T U:Int) (X:Bool) (v20:Int) (v21:Bool) (v22 Y v24 v25 a0:Int) (v27:Bool):NP Ha B4 BT Gk Cw [.vC kPt v0,I v1,I v2, .vC [kI,kI,kI,kI] M,I v4,I D,I v6,I v7,I v8,I v9,I v10,I v11,I v12,I N,I G,I O,I S,I T,I U,B X,I v20,B v21,I v22,I Y,I v24,I v25,I a0,B v27]=
 cond (decide (D<v4)) (cond (decide (0<=D)&&decide (D<(M.length:Int))) ((Ha [I (V (v1+gA (nth [] M D.toNat) 0)),I (V (v2+gA (nth [] M D.toNat) 1)),jA (nth [] M D.toNat) 3,I G]).bind λL=>
 cond (decide (0<=D)&&decide (D<(v0.length:Int))) (some (0,[.vC kPt (v0.set D.toNat [jA L 0,jA L 1,jA L 2]),I v1,I v2, .vC [kI,kI,kI,kI] M,I v4,I (V (D+1)),I v6,I v7,I v8,I v9,I v10,I v11,I v12,I N,I G,I O,I S,I T,I U,B X,I v20,B v21,I v22,I Y,I v24,I v25,I a0,B v27])) (none)) (none)) (some (1,[.vC kPt v0])):=by kernel_rfl
theorem VH (Ha B4 BT Gk Cw:Fn) (N9:Lp) (x0 x1 x2 x3 x4 x5 x6 x7 x8 x9 G L M:Int) (N:Bool) (O:Int) (S:Bool) (T U V X Y:Int) (a0:Bool):Ua Ha B4 BT Gk Cw N9 [I x0,I x1,I x2,I x3,I x4,I x5,I x6,I x7,I x8,I x9,I G,I L,I M,B N,I O,B S,I T,I U,I V,I X,I Y,B a0]=
 (Cw [I x0,I x1,I x2,I x3,I x4,I x5,I x6,I x7,I x8,I x9,I G,I L,I M,B N,I O,B S,I T,I U,I V,I X,I Y,B a0]).bind λa6=>
 cond (!bA a6 0) (some [.vC kPt [],B false]) ((Gk [I x0,I x1,I x2,I x3,I x4,I x5,I x6,I x7,I x8,I x9,I G,I L,I M,B N,I O,B S,I T,I U,I V,I X,I Y,B a0]).bind λD=>
 cond (!bA D 1) ((BT [I x2,I x3,I x4]).bind λa1=>
 (BT [I x5,I x6,I x7]).bind λa2=>
 some [.vC kPt [[jA a1 0,jA a1 1,jA a1 2],[jA a2 0,jA a2 1,jA a2 2]],B true]) ((BT [I x9,I G,I L]).bind λa3=>
 (B4 [jA a3 0,jA a3 1,jA a3 2,I x8]).bind λa4=>
 cond (decide ((↑(wA D 0).length:Int)=(↑(wA D 0).length:Int))) (cond (decide (0<=(↑(wA D 0).length:Int))&&decide ((↑(wA D 0).length:Int)*(↑24:Int)<=140737488355328)) ((N9 [.vC kPt (List.replicate (↑(wA D 0).length:Int).toNat [I 0,I 0,I 0]),jA a4 0,jA a4 1, .vC [kI,kI,kI,kI] (wA D 0),I (↑(wA D 0).length:Int),I 0,I x0,I x1,I x2,I x3,I x4,I x5,I x6,I x7,I x8,I x9,I G,I L,I M,B N,I O,B S,I T,I U,I V,I X,I Y,B a0]).bind λa5=>
 cond (a5.1.beq 1) (some [.vC kPt (wA a5.2 0),B true]) (none)) (none)) (none))):=by kernel_rfl
def Zbi:=Am (NP Mk HV Hm OG GD)
def PC:=Ua Mk HV Hm OG GD Zbi
theorem Qws:Ai PG (Qb7 Mk HV Hm OG GD):=Ao rfl ⟨Z27,Qvi,Q67,Zjx,ZO,trivial⟩
theorem Zis:Al PG (Zov PC):=rw2 (C:=Zcb Mk HV Hm OG GD Zbi) (fl fb Qws) Qws
def Qmd:Sk:=⟨[tf [sa Ah],tf [ci],tf [ci]],[],[]⟩
def Zhx:=qa 141 Qmd ZQ
def Qae (D G I L M Nx:Fn):Cfg:=cf [Qbr D,Qk7 G,Q14 I,Zec L,UJ M,Zov Nx]
def Wn (D G I L M Nx:Fn):Fn:=An PG (Qae D G I L M Nx) 64 141 Qmd ZQ
theorem Zlj (Y Bt BW KJ Bn Nx:Fn) (G:Rw) (T x2:Int):Wn Y Bt BW KJ Bn Nx [.vC Ah G,I T,I x2]=
 cond (decide (0<=T)&&decide (T<(G.length:Int))) ((Nx (AM Ah (nth [] G T.toNat))).bind λD=>
 (Bn (AM Ah (nth [] G T.toNat))).bind λa2=>
 cond (!bA a2 0) (some [.vC kPt (wA D 0)]) (cond (decide (0<=1)&&decide (1<=(↑(wA D 0).length:Int))) (cond (decide (0<=V ((↑(wA D 0).length:Int)-1))&&decide (V ((↑(wA D 0).length:Int)-1)<=(↑(wA D 0).length:Int))) (cond (decide (x2>=0)) (cond (decide (0<=x2)&&decide (x2<(G.length:Int))) ((KJ (AM Ah (nth [] G x2.toNat)++AM Ah (nth [] G T.toNat))).bind λS=>
 (BW [.vC Ah G,I T]).bind λa3=>
 cond (bA a3 0) ((Bt [.vC Ah G,I T]).bind λU=>
 cond (decide (0<=gA U 0)&&decide (gA U 0<(G.length:Int))) ((KJ (AM Ah (nth [] G T.toNat)++AM Ah (nth [] G (gA U 0).toNat))).bind λa0=>
 cond ((([]++wA S 1).length*24).ble 140737488355328) ((Y (AM Ah (nth [] G T.toNat))).bind λL=>
 cond ((([]++wA S 1++[[jA L 0,jA L 1,jA L 2]]).length*24).ble 140737488355328) (cond ((([]++wA S 1++[[jA L 0,jA L 1,jA L 2]]++wA a0 0).length*24).ble 140737488355328) (some [.vC kPt ([]++wA S 1++[[jA L 0,jA L 1,jA L 2]]++wA a0 0)]) (none)) (none)) (none)) (none)) (cond ((([]++wA S 1).length*24).ble 140737488355328) ((Y (AM Ah (nth [] G T.toNat))).bind λM=>
 cond ((([]++wA S 1++[[jA M 0,jA M 1,jA M 2]]).length*24).ble 140737488355328) (cond ((([]++wA S 1++[[jA M 0,jA M 1,jA M 2]]++List.drop (V ((↑(wA D 0).length:Int)-1)).toNat (wA D 0)).length*24).ble 140737488355328) (some [.vC kPt ([]++wA S 1++[[jA M 0,jA M 1,jA M 2]]++List.drop (V ((↑(wA D 0).length:Int)-1)).toNat (wA D 0))]) (none)) (none)) (none))) (none)) ((BW [.vC Ah G,I T]).bind λa4=>
 cond (bA a4 0) ((Bt [.vC Ah G,I T]).bind λX=>
 cond (decide (0<=gA X 0)&&decide (gA X 0<(G.length:Int))) ((KJ (AM Ah (nth [] G T.toNat)++AM Ah (nth [] G (gA X 0).toNat))).bind λa1=>
 cond ((([]++List.take (Int.toNat 1) (wA D 0)).length*24).ble 140737488355328) ((Y (AM Ah (nth [] G T.toNat))).bind λN=>
 cond ((([]++List.take (Int.toNat 1) (wA D 0)++[[jA N 0,jA N 1,jA N 2]]).length*24).ble 140737488355328) (cond ((([]++List.take (Int.toNat 1) (wA D 0)++[[jA N 0,jA N 1,jA N 2]]++wA a1 0).length*24).ble 140737488355328) (some [.vC kPt ([]++List.take (Int.toNat 1) (wA D 0)++[[jA N 0,jA N 1,jA N 2]]++wA a1 0)]) (none)) (none)) (none)) (none)) (cond ((([]++List.take (Int.toNat 1) (wA D 0)).length*24).ble 140737488355328) ((Y (AM Ah (nth [] G T.toNat))).bind λO=>
 cond ((([]++List.take (Int.toNat 1) (wA D 0)++[[jA O 0,jA O 1,jA O 2]]).length*24).ble 140737488355328) (cond ((([]++List.take (Int.toNat 1) (wA D 0)++[[jA O 0,jA O 1,jA O 2]]++List.drop (V ((↑(wA D 0).length:Int)-1)).toNat (wA D 0)).length*24).ble 140737488355328) (some [.vC kPt ([]++List.take (Int.toNat 1) (wA D 0)++[[jA O 0,jA O 1,jA O 2]]++List.drop (V ((↑(wA D 0).length:Int)-1)).toNat (wA D 0))]) (none)) (none)) (none)))) (none)) (none))) (none):=by kernel_rfl
def Mp:=Wn F4 E8 G7 Q2 EH PC
theorem Zy9:Ai PG (Qae F4 E8 G7 Q2 EH PC):=Ao rfl ⟨Qqw,Ql1,Qv1,Z2j,SN,Zis,trivial⟩
theorem Z6i:Al PG (Zhx Mp):=rw1 (C:=Qae F4 E8 G7 Q2 EH PC) Zy9
def Qds:Sk:=⟨[TS.v true (cc 13++[sb,ci,sb]++cc 5++[sb]),tf [ci]],[],[]⟩
def Zla:=qa 139 Qds Y2
def Zj (D:Fn):Cfg:=cf [L2 D]
def Vy (D:Fn):Fn:=An PG (Zj D) 64 139 Qds Y2
theorem Qxw (AK:Fn) (x0 x1 x2 x3 x4 x5 x6 x7 x8 x9 M N O:Int) (S:Bool) (D:Int) (G:Bool) (T U X Y a0:Int) (a1:Bool) (L:Int):Vy AK [I x0,I x1,I x2,I x3,I x4,I x5,I x6,I x7,I x8,I x9,I M,I N,I O,B S,I D,B G,I T,I U,I X,I Y,I a0,B a1,I L]=
 cond (x0==1) (some [I 0]) (cond (G) ((AK [I (mn (V (D*mx L 1)) 60000000),I 4096,I 60000,I 2]).bind λo2=>
 some [I (mx (gA o2 0) 1)]) ((AK [I (mn D 60000000),I 4096,I 60000,I 2]).bind λo3=>
 some [I (mx (gA o3 0) 1)])):=by kernel_rfl
def JE:=Vy Bw
theorem Zr6:Ai PG (Zj Bw):=Ao rfl ⟨K4,trivial⟩
theorem Z8g:Al PG (Zla JE):=rw1 (C:=Zj Bw) Zr6
def Qjr:Sk:=⟨[tf [sd 20000 0],tf [sa Ah],tf [ci],tf [ci]],[(20000,102,[ci,ci,ci,se 20000 7,se 20001 3,sb,ci,ci,ci])],[(20000,111,Aj),(20001,130,kPt)]⟩
def Qcp:Sk:=⟨[tf [sb]],[(20000,102,[ci,ci,ci,se 20000 7,se 20001 3,sb,ci,ci,ci])],[(20000,111,Aj),(20001,130,kPt)]⟩
def Z7n:=qa 91 Qjr Qcp
def Qah (D G I L M N:Fn):Cfg:=cp [Qbr D,UJ G,Z65 I,Zhx L,Qu3 M,Zla N] [142]
def Q61:Sk:=⟨[tf [sd 20000 0]]++dd 8++[tf [sd 9 0],tf [sd 10 0]]++dd 24++[tf [sa kPt],tf [ci],tf [ci]]++dd 30,[(9,31,cc 13++[sb,ci,sb]++cc 5++[sb]),(10,111,cc 7),(20000,102,[ci,ci,ci,se 20000 7,se 20001 3,sb,ci,ci,ci])],[(20000,111,Aj),(20001,130,kPt)]⟩
def Qzv:List (Ex×Sk):=[(Ex.exit 0,⟨[tf [sd 20000 0]]++dd 67,[(20000,102,[ci,ci,ci,se 20000 7,se 20001 3,sb,ci,ci,ci])],[(20000,111,Aj),(20001,130,kPt)]⟩)]
def LU (D G I L M N:Fn):Lp:=AL PG (Qah D G I L M N) 64 6 (AN PG 91 6) Q61 Qzv
def Que (D G I L M N:Fn) (O:Lp):Cfg:=(Qah D G I L M N).loop 6 Q61 Qzv O
def Qku (D G I L M N:Fn) (O:Lp):Fn:=An PG (Que D G I L M N O) 64 91 Qjr Qcp
theorem Zb7 (BX Bn GY E1 CB G6:Fn) (v0 v1 v2:Rw) (v3 G v5 v6 v7 v8 v9 v10 v11 v12 L M N O S:Int) (T:Bool) (U:Int) (v20:Bool) (v21 v22 X v24 v25:Int) (Y:Bool) (v27 v28 a0 v30 v31 a1 v33 a2 v35 v36:Int) (v37:Bool) (v38 a3 v40:Int):LU BX Bn GY E1 CB G6 [.vC Aj v0, .vC kPt v1, .vC kPt v2,I v3,I G,I v5,I v6,I v7,I v8,I v9,I v10,I v11,I v12,I L,I M,I N,I O,I S,B T,I U,B v20,I v21,I v22,I X,I v24,I v25,B Y,I v27,I v28,I a0,I v30,I v31,I a1,I v33,I a2,I v35,I v36,B v37,I v38,I a3,I v40]=
 cond (decide (G<v3)) (cond (decide (0<=G)&&decide (G<(v2.length:Int))) ((GY [.vC Aj v0, .vC kPt v1,jA (nth [] v2 G.toNat) 0,jA (nth [] v2 G.toNat) 1,jA (nth [] v2 G.toNat) 2,I v27,I v28,I a0,I v30,I v31,I a1,I v33,I a2,I v35,I v36,B v37,I v38,I a3,I v40]).bind λD=>
 (Bn [I v5,I v6,I v7,I v8,I v9,I v10,I v11,I v12,I L,I M,I N,I O,I S,B T,I U,B v20,I v21,I v22,I X,I v24,I v25,B Y]).bind λa5=>
 cond (bA a5 0) ((BX [I v5,I v6,I v7,I v8,I v9,I v10,I v11,I v12,I L,I M,I N,I O,I S,B T,I U,B v20,I v21,I v22,I X,I v24,I v25,B Y]).bind λa4=>
 cond (gA (nth [] v2 G.toNat) 0==gA a4 0&&(gA (nth [] v2 G.toNat) 1==gA a4 1&&(gA (nth [] v2 G.toNat) 2==gA a4 2&&true))) (some (0,[.vC Aj (wA D 0), .vC kPt (wA D 1), .vC kPt v2,I v3,I (V (G+1)),I v5,I v6,I v7,I v8,I v9,I v10,I v11,I v12,I L,I M,I N,I O,I S,B T,I U,B v20,I v21,I v22,I X,I v24,I v25,B Y,I v27,I v28,I a0,I v30,I v31,I a1,I v33,jA D 2,jA D 3,jA D 4,B (bA D 5),jA D 6,jA D 7,jA D 6])) (some (0,[.vC Aj (wA D 0), .vC kPt (wA D 1), .vC kPt v2,I v3,I (V (G+1)),I v5,I v6,I v7,I v8,I v9,I v10,I v11,I v12,I L,I M,I N,I O,I S,B T,I U,B v20,I v21,I v22,I X,I v24,I v25,B Y,I v27,I v28,I a0,I v30,I v31,I a1,I v33,jA D 2,jA D 3,jA D 4,B (bA D 5),jA D 6,jA D 7,jA D 8]))) (some (0,[.vC Aj (wA D 0), .vC kPt (wA D 1), .vC kPt v2,I v3,I (V (G+1)),I v5,I v6,I v7,I v8,I v9,I v10,I v11,I v12,I L,I M,I N,I O,I S,B T,I U,B v20,I v21,I v22,I X,I v24,I v25,B Y,I v27,I v28,I a0,I v30,I v31,I a1,I v33,jA D 2,jA D 3,jA D 4,B (bA D 5),jA D 6,jA D 7,jA D 8]))) (none)) (some (1,[.vC Aj v0, .vC kPt v1,I a2,I v35,I v36,B v37,I v38,I a3,I v40])):=by kernel_rfl
abbrev Qdc (U:Fn) (T:Rw) (M V:Int) (X:Lp) (Y x1:Rw) (N:List AC) (x5 x6 x7:Int) (x8:Bool) (x9 O S:Int) (G:AC):Option (List AC):=
 (U [.vC Ah T,I M,I V]).bind λL=>
 (X (.vC Aj Y:: .vC kPt x1:: .vC kPt (wA L 0)::I (↑(wA L 0).length:Int)::I 0::(AM Ah (nth [] T M.toNat)++[I 0,I 0,I 0,I 0,I M,jA N 0,G,I x5,I x6,I x7,B x8,I x9,I O,I S]))).bind λD=>
 cond (D.1.beq 1) (some [.vC Aj (wA D.2 0), .vC kPt (wA D.2 1),B (decide ((↑(wA D.2 0).length:Int)<=1048576)),jA D.2 2,jA D.2 3,jA D.2 4,B (bA D.2 5),jA D.2 6,jA D.2 7,jA D.2 8]) (none)
theorem Yan (BX Bn GY O CB G6:Fn) (S:Lp) (T U L:Rw) (G X Y x6 x7:Int) (x8:Bool) (x9 D M:Int):Qku BX Bn GY O CB G6 S [.vC Aj T, .vC kPt U, .vC Ah L,I G,I X,I Y,I x6,I x7,B x8,I x9,I D,I M]=
 cond (decide (0<=G)&&decide (G<(L.length:Int))) ((G6 (AM Ah (nth [] L G.toNat)++[I D])).bind λN=>
 (CB (AM Ah (nth [] L G.toNat))).bind λa0=>
 cond (bA a0 0) (Qdc O L G X S T U N Y x6 x7 x8 x9 D M (I (mn (V (gA (nth [] L G.toNat) 14*16)) 16777216))) (Qdc O L G X S T U N Y x6 x7 x8 x9 D M (I 0))) (none):=by kernel_rfl
def Qt1:=Am (LU F4 EH Pb Mp Hz JE)
def J_:=Qku F4 EH Pb Mp Hz JE Qt1
theorem Qwr:Ai PG (Qah F4 EH Pb Mp Hz JE):=Ao rfl ⟨Qqw,SN,Zeb,Z6i,Q29,Z8g,trivial⟩
theorem Z9w:Al PG (Z7n J_):=rw2 (C:=Que F4 EH Pb Mp Hz JE Qt1) (fl fb Qwr) Qwr
def Zz1:=qa 87 Qeb Y2
def VX (D G:Fn):Cfg:=cf [Qak D,Ud G]
def Qht (D G:Fn):Fn:=An PG (VX D G) 64 87 Qeb Y2
abbrev K6 (L D G:Int):Option (List AC):=
 cond (L==8) (cond (decide (D<3)) (some [I 1]) (cond (decide (D>5)) (some [I 1]) (cond (decide (G<0)) (some [I 1]) (cond (decide (G>30000)) (some [I 1]) (some [I 0]))))) (some [I 0])
theorem Zo8 (Cw AP:Fn) (L x1 x2 x3 x4 x5 x6 x7 x8 x9 O S T:Int) (U:Bool) (M:Int) (V:Bool) (X Y N D G:Int) (a0:Bool):Qht Cw AP [I L,I x1,I x2,I x3,I x4,I x5,I x6,I x7,I x8,I x9,I O,I S,I T,B U,I M,B V,I X,I Y,I N,I D,I G,B a0]=
 cond (decide (L<1)) (some [I 1]) (cond (decide (L>14)) (some [I 1]) ((AP [I L]).bind λo4=>
 cond (bA o4 0) ((Cw [I L,I x1,I x2,I x3,I x4,I x5,I x6,I x7,I x8,I x9,I O,I S,I T,B U,I M,B V,I X,I Y,I N,I D,I G,B a0]).bind λo5=>
 cond (!bA o5 0) (some [I 1]) (cond (decide (N<0)) (some [I 1]) (cond (decide (N>1000)) (some [I 1]) ((AP [I L]).bind λo6=>
 cond (bA o6 0) (cond (L !=1) (cond (decide (M<1)) (some [I 1]) (cond (decide (M>60000000)) (some [I 1]) (K6 L D G))) (K6 L D G)) (K6 L D G))))) ((AP [I L]).bind λo7=>
 cond (bA o7 0) (cond (L !=1) (cond (decide (M<1)) (some [I 1]) (cond (decide (M>60000000)) (some [I 1]) (K6 L D G))) (K6 L D G)) (K6 L D G)))):=by kernel_rfl
def I4:=Qht GD Dy
theorem Zp1:Ai PG (VX GD Dy):=Ao rfl ⟨ZO,Sx,trivial⟩
theorem Ybn:Al PG (Zz1 I4):=rw1 (C:=VX GD Dy) Zp1
def Qpc:Sk:=⟨[tf [sa Ah]],[],[]⟩
def Qlp:Sk:=⟨[TS.tup [(false,[sd 13 0]),(false,[ci])]],[(13,102,[ci,ci,ci,se 1013003 7,se 1013004 3,sb,ci,ci,ci])],[(1013003,111,Aj),(1013004,130,kPt)]⟩
def Qs7:=qa 46 Qpc Qlp
def Qa6 (D G I L M N:Fn):Cfg:=cp [Zfi D,Z7n G,Qk7 I,Q14 L,Ud M,Zz1 N] [92,91]
def Q62:Sk:=⟨[tf [sa Ah],td,td,td,tf [sd 13 0],tf [ci]]++dd 12++[tf [sa Ah],tf [ci],tf [ci]]++dd 87,[(13,102,[ci,ci,ci,se 1013003 7,se 1013004 3,sb,ci,ci,ci])],[(1013003,111,Aj),(1013004,130,kPt)]⟩
def Qsu:List (Ex×Sk):=[(Ex.ret,⟨[td,td,tf [sd 13 0],tf [ci]]++dd 104,[(13,102,[ci,ci,ci,se 1013003 7,se 1013004 3,sb,ci,ci,ci])],[(1013003,111,Aj),(1013004,130,kPt)]⟩),(Ex.exit 0,⟨[tf [sa Ah],td,td,td,tf [sd 13 0]]++dd 103,[(13,102,[ci,ci,ci,se 1013003 7,se 1013004 3,sb,ci,ci,ci])],[(1013003,111,Aj),(1013004,130,kPt)]⟩)]
def P6 (D G I L M N:Fn):Lp:=AL PG (Qa6 D G I L M N) 64 6 (AN PG 46 6) Q62 Qsu
def Qy2 (D G I L M N:Fn) (O:Lp):Cfg:=(Qa6 D G I L M N).loop 6 Q62 Qsu O
def Zai:Sk:=⟨[tf [sa Ah],td,td,td,tf [sd 13 0],tf [ci]]++dd 44++[tf [sa Ah],tf [ci],tf [ci]]++dd 55,[(13,102,[ci,ci,ci,se 1013003 7,se 1013004 3,sb,ci,ci,ci])],[(1013003,111,Aj),(1013004,130,kPt)]⟩
def Zbc:List (Ex×Sk):=[(Ex.ret,⟨[td,td,tf [sd 13 0],tf [ci]]++dd 104,[(13,102,[ci,ci,ci,se 1013003 7,se 1013004 3,sb,ci,ci,ci])],[(1013003,111,Aj),(1013004,130,kPt)]⟩),(Ex.exit 2,⟨[td,td,td,td,tf [sd 13 0]]++dd 103,[(13,102,[ci,ci,ci,se 1013003 7,se 1013004 3,sb,ci,ci,ci])],[(1013003,111,Aj),(1013004,130,kPt)]⟩)]
def PB (D G I L M N:Fn) (O:Lp):Lp:=AL PG (Qy2 D G I L M N O) 64 18 (AN PG 46 18) Zai Zbc
def Q4t (G I L M N O:Fn) (S D:Lp):Cfg:=(Qy2 G I L M N O S).loop 18 Zai Zbc D
def Qju (G I L M N O:Fn) (S D:Lp):Fn:=An PG (Q4t G I L M N O S D) 64 46 Qpc Qlp
theorem Q4n (B6 Cb Bt BW AP D9:Fn) (O S M:Rw) (N:Int) (L:Rw) (Y G T U X:Int) (v10:Bool) (v11 v12 D:Int):P6 B6 Cb Bt BW AP D9 [.vC Aj O, .vC kPt S, .vC Ah M,I N, .vC Ah L,I Y,I G,I T,I U,I X,B v10,I v11,I v12,I D]=
 cond (decide (G<Y)) (cond (decide (0<=G)&&decide (G<(L.length:Int))) ((D9 (AM Ah (nth [] L G.toNat))).bind λa0=>
 cond (gA a0 0 !=0) (some (1,[.vC Aj O, .vC kPt S,jA a0 0,I T,I U,I X,B v10,I v11,I v12,I D])) ((AP [jA (nth [] L G.toNat) 0]).bind λa1=>
 cond (!bA a1 0) (some (0,[.vC Aj O, .vC kPt S, .vC Ah M,I N, .vC Ah L,I Y,I (V (G+1)),I T,I U,I X,B v10,I v11,I v12,I D])) (cond (decide (N>=0)) (cond (decide (0<=N)&&decide (N<(M.length:Int))) (cond (!(gA (nth [] M N.toNat) 5==gA (nth [] L G.toNat) 2&&(gA (nth [] M N.toNat) 6==gA (nth [] L G.toNat) 3&&(gA (nth [] M N.toNat) 7==gA (nth [] L G.toNat) 4&&true)))) (some (1,[.vC Aj O, .vC kPt S,I 13,I T,I U,I X,B v10,I v11,I v12,I D])) (some (0,[.vC Aj O, .vC kPt S, .vC Ah M,I G, .vC Ah L,I Y,I (V (G+1)),I T,I U,I X,B v10,I v11,I v12,I D]))) (none)) (some (0,[.vC Aj O, .vC kPt S, .vC Ah M,I G, .vC Ah L,I Y,I (V (G+1)),I T,I U,I X,B v10,I v11,I v12,I D]))))) (none)) (some (2,[.vC Aj O, .vC kPt S, .vC Ah M,I T,I U,I X,B v10,I v11,I v12,I D])):=by kernel_rfl
abbrev QU (T:Fn) (U X O:Rw) (N Y v8 v9:Int) (v10:Bool) (v11:Int) (L:AC) (S:Int) (B6:Fn) (v4:Rw) (v5:Int) (M:AC):Option (Nat×List AC):=
 (T [.vC Aj U, .vC kPt X, .vC Ah O,I N,M,I Y,I v8,I v9,B v10,I v11,L,I S]).bind λD=>
 cond (!bA D 2) (some (1,[.vC Aj (wA D 0), .vC kPt (wA D 1),I 10,jA D 3,jA D 4,jA D 5,B (bA D 6),jA D 7,jA D 8,jA D 9])) ((B6 [.vC Aj (wA D 0), .vC kPt (wA D 1), .vC Ah O,I N,jA D 3,jA D 4,jA D 5,B (bA D 6),jA D 7,jA D 8,jA D 9]).bind λG=>
 some (0,[.vC Aj (wA G 0), .vC kPt (wA G 1), .vC Ah O,I N, .vC Ah v4,I v5,I (V (N+1)),jA G 2,jA G 3,jA G 4,B (bA G 5),jA G 6,jA G 7,jA G 8]))
abbrev PH (AP:Fn) (O:Rw) (M S:Int) (BW:Fn) (N:Rw) (Cb:Fn) (T U:Rw) (X Y v9:Int) (v10:Bool) (v11 L:Int) (B6:Fn) (v5:Int) (Bt:Fn) (G:AC):Option (Nat×List AC):=
 (AP [jA (nth [] O M.toNat) 0]).bind λa0=>
 cond (bA a0 0) (cond (decide (S>=0)) ((BW [.vC Ah N,I S]).bind λa1=>
 cond (!bA a1 0) (QU Cb T U N M X Y v9 v10 v11 G L B6 O v5 (I (-1))) ((Bt [.vC Ah N,I S]).bind λa2=>
 cond (gA a2 0 !=M) (QU Cb T U N M X Y v9 v10 v11 G L B6 O v5 (I (-1))) (QU Cb T U N M X Y v9 v10 v11 G L B6 O v5 (I S)))) (QU Cb T U N M X Y v9 v10 v11 G L B6 O v5 (I S))) ((B6 [.vC Aj T, .vC kPt U, .vC Ah N,I M,I X,I Y,I v9,B v10,I v11,G,I L]).bind λD=>
 some (0,[.vC Aj (wA D 0), .vC kPt (wA D 1), .vC Ah N,I S, .vC Ah O,I v5,I (V (M+1)),jA D 2,jA D 3,jA D 4,B (bA D 5),jA D 6,jA D 7,jA D 8]))
theorem Q72 (V X Y BW AP D9:Fn) (N6:Lp) (M N v2:Rw) (v3:Int) (L:Rw) (O D S T U:Int) (v10:Bool) (v11 v12 G:Int):PB V X Y BW AP D9 N6 [.vC Aj M, .vC kPt N, .vC Ah v2,I v3, .vC Ah L,I O,I D,I S,I T,I U,B v10,I v11,I v12,I G]=
 cond (decide (D<O)) (cond (decide (0<=D)&&decide (D<(L.length:Int))) (cond (gA (nth [] L D.toNat) 0==8) (cond (gA (nth [] L D.toNat) 19==3) (PH AP L D v3 BW v2 X M N S T U v10 v11 G V O Y (jA (nth [] L D.toNat) 20)) (cond (gA (nth [] L D.toNat) 19==4) (PH AP L D v3 BW v2 X M N S T U v10 v11 G V O Y (jA (nth [] L D.toNat) 20)) (PH AP L D v3 BW v2 X M N S T U v10 v11 G V O Y (I v12)))) (PH AP L D v3 BW v2 X M N S T U v10 v11 G V O Y (I v12))) (none)) (some (2,[.vC Aj M, .vC kPt N,I S,I T,I U,B v10,I v11,I v12,I G])):=by kernel_rfl
theorem Zr3 (O S T U V X:Fn) (N L:Lp) (M:Rw):Qju O S T U V X N L [.vC Ah M]=
 cond (decide ((M.length:Int)>20000)) (some [.vC Aj [], .vC kPt [],I 10,I 0,I 0,I 0,B false,I 0,I 0,I 0]) ((N [.vC Aj [], .vC kPt [], .vC Ah M,I (-1), .vC Ah M,I (M.length:Int),I 0,I 0,I 0,I 0,B false,I 0,I 0,I 0]).bind λD=>
 cond (D.1.beq 1) (some [.vC Aj (wA D.2 0), .vC kPt (wA D.2 1),jA D.2 2,jA D.2 3,jA D.2 4,jA D.2 5,B (bA D.2 6),jA D.2 7,jA D.2 8,jA D.2 9]) (cond (D.1.beq 2) ((L [.vC Aj (wA D.2 0), .vC kPt (wA D.2 1), .vC Ah (wA D.2 2),I (-1), .vC Ah (wA D.2 2),I (↑(wA D.2 2).length:Int),I 0,jA D.2 3,jA D.2 4,jA D.2 5,B (bA D.2 6),jA D.2 7,jA D.2 8,jA D.2 9]).bind λG=>
 cond (G.1.beq 1) (some [.vC Aj (wA G.2 0), .vC kPt (wA G.2 1),jA G.2 2,jA G.2 3,jA G.2 4,jA G.2 5,B (bA G.2 6),jA G.2 7,jA G.2 8,jA G.2 9]) (cond (G.1.beq 2) (some [.vC Aj (wA G.2 0), .vC kPt (wA G.2 1),I 0,jA G.2 2,jA G.2 3,jA G.2 4,B (bA G.2 5),jA G.2 6,jA G.2 7,jA G.2 8]) (none))) (none))):=by kernel_rfl
def QS:=Am (P6 IW J_ E8 G7 Dy I4)
def Zb0:=Am (PB IW J_ E8 G7 Dy I4 QS)
def II:=Qju IW J_ E8 G7 Dy I4 QS Zb0
theorem Qbi:Ai PG (Qa6 IW J_ E8 G7 Dy I4):=Ao rfl ⟨Zjh,Z9w,Ql1,Qv1,Sx,Ybn,trivial⟩
theorem Q0v:Al PG (Qs7 II):=rw2 (C:=Q4t IW J_ E8 G7 Dy I4 QS Zb0) (fl (fl fb Qbi) Qbi) Qbi
def Zk2:=qa 149 Qpc Y2
def Qb1 (D G:Fn):Cfg:=cp [UJ D,Qs7 G] [46]
def Zbu:Sk:=⟨[tf [sa Ah],td,td,tf [sd 100800 0],td,tf [ci]]++dd 47,[(100800,102,[ci,ci,ci,se 100800 7,se 100801 3,sb,ci,ci,ci])],[(100800,111,Aj),(100801,130,kPt)]⟩
def Qxl:List (Ex×Sk):=[(Ex.ret,⟨[td,td,tf [ci]]++dd 50,[],[]⟩),(Ex.exit 0,⟨[td,td,td,tf [sd 100800 0]]++dd 49,[(100800,102,[ci,ci,ci,se 100800 7,se 100801 3,sb,ci,ci,ci])],[(100800,111,Aj),(100801,130,kPt)]⟩)]
def Pe (D G:Fn):Lp:=AL PG (Qb1 D G) 64 5 (AN PG 149 5) Zbu Qxl
def Q7l (D G:Fn) (I:Lp):Cfg:=(Qb1 D G).loop 5 Zbu Qxl I
def Qj0 (D G:Fn) (I:Lp):Fn:=An PG (Q7l D G I) 64 149 Qpc Y2
theorem Q70 (Y DY:Fn) (M N G:Rw) (D O S T:Int) (U:Bool) (L X v10:Int):Pe Y DY [.vC Aj M, .vC kPt N, .vC Ah G,I D,I O,I S,I T,B U,I L,I X,I v10]=
 cond (decide (D>=0)) (cond (decide (0<=D)&&decide (D<(G.length:Int))) (cond (gA (nth [] G D.toNat) 0==10) (some (0,[.vC Aj M, .vC kPt N, .vC Ah G,I (V (D-1)),I O,I S,I T,B U,I L,I X,I v10])) (cond (decide (0<=D)&&decide (D<(G.length:Int))) ((Y (AM Ah (nth [] G D.toNat))).bind λo4=>
 cond (bA o4 0) (cond (decide (0<=D)&&decide (D<(G.length:Int))) (cond (gA (nth [] G D.toNat) 18 !=0) (some (1,[I v10])) (some (1,[I L]))) (none)) (some (1,[I L]))) (none))) (none)) (some (2,[.vC Aj M, .vC kPt N,I O,I S,I T,B U,I L,I X,I v10])):=by kernel_rfl
theorem Q8k (N L:Fn) (M:Lp) (G:Rw):Qj0 N L M [.vC Ah G]=
 (L [.vC Ah G]).bind λD=>
 cond (gA D 2 !=0) (some [I 0]) ((M [.vC Aj (wA D 0), .vC kPt (wA D 1), .vC Ah G,I (V ((G.length:Int)-1)),jA D 3,jA D 4,jA D 5,B (bA D 6),jA D 7,jA D 8,jA D 9]).bind λo6=>
 cond (o6.1.beq 1) (some [jA o6.2 0]) (cond (o6.1.beq 2) (some [jA o6.2 6]) (none))):=by kernel_rfl
def Q9w:=Am (Pe EH II)
def Nj:=Qj0 EH II Q9w
theorem Qvc:Ai PG (Qb1 EH II):=Ao rfl ⟨SN,Q0v,trivial⟩
theorem Zu2:Al PG (Zk2 Nj):=rw2 (C:=Q7l EH II Q9w) (fl fb Qvc) Qvc
def Qfs:Sk:=⟨[tf [ci],tf [ci],tf [ci]],[],[]⟩
def Qil:=qa 190 Qfs Qhz
def Qav:Fn:=An PG C_cncref30_SamePulses_0 64 190 Qfs Qhz
theorem Zd9 (D G L:Int):Qav [I D,I G,I L]=
 cond (decide (G<=D)) (some [B (decide (D<=L))]) (some [B false]):=by kernel_rfl
def GO:=Qav
theorem Zjk:Ai PG (C_cncref30_SamePulses_0):=Ao rfl trivial
theorem Qmq:Al PG (Qil GO):=rw1 (C:=C_cncref30_SamePulses_0) Zjk
def Z69:=qa 192 ZE Qhz
def V2 (D:Fn):Cfg:=cf [Qil D]
def Qiz (D:Fn):Fn:=An PG (V2 D) 64 192 ZE Qhz
theorem Zhr (G:Fn) (N O S T L M U V X:Int) (Y:Rw) (D:Int):Qiz G [I N,I O,I S,I T,I L,I M,I U,I V,I X, .vC Aa Y,I D]=
 (G [I D,I L,I M]).bind λo1=>
 some [B (bA o1 0)]:=by kernel_rfl
def HC:=Qiz GO
theorem Zy8:Ai PG (V2 GO):=Ao rfl ⟨Qmq,trivial⟩
theorem Zvi:Al PG (Z69 HC):=rw1 (C:=V2 GO) Zy8
def Qhi:Sk:=⟨[TS.v true (cc 9++[sa Aa]++cc 9++[sa Aa]++cc 9++[sa Aa]),TS.v true [ci,ci,ci,sa Aj,sa kPt]],[],[]⟩
def Zfg:=qa 148 Qhi Qhz
def Qpr (D:Fn):Cfg:={cf [Z69 D]with rowDst:=[13],unroll:=[11]}
def Q06:Sk:=⟨[td,td,tf [sd 2 0],td,td,tf [se 13 3]]++dd 9++[tf [sa Aj],tf [ci],tf [ci]]++dd 28,[(2,34,cc 9++[sa Aa]++cc 9++[sa Aa]++cc 9++[sa Aa])],[(13,42,kPt)]⟩
def Q5s:List (Ex×Sk):=[(Ex.exit 0,⟨[td,td,tf [sd 2 0],td,td,tf [se 13 3]]++dd 40,[(2,34,cc 9++[sa Aa]++cc 9++[sa Aa]++cc 9++[sa Aa])],[(13,42,kPt)]⟩)]
def P7 (D:Fn):Lp:=AL PG (Qpr D) 64 3 (AN PG 148 3) Q06 Q5s
def Qxg (D:Fn) (G:Lp):Cfg:=(Qpr D).loop 3 Q06 Q5s G
def Q7k:Sk:=⟨[td,td,tf [sd 2 0]]++dd 24++[tf [se 13 3],tf [ci],tf [ci]]++dd 16,[(2,34,cc 9++[sa Aa]++cc 9++[sa Aa]++cc 9++[sa Aa])],[(13,42,kPt)]⟩
def Q2z:List (Ex×Sk):=[(Ex.ret,⟨[td,td,td,td,tf [sb]]++dd 41,[],[]⟩),(Ex.exit 2,⟨[td]++dd 45,[],[]⟩)]
def Uy (D:Fn) (G:Lp):Lp:=AL PG (Qxg D G) 64 8 (AN PG 148 8) Q7k Q2z
def Q7a (D:Fn) (G I:Lp):Cfg:=(Qxg D G).loop 8 Q7k Q2z I
def Y7 (D:Fn) (G I:Lp):Fn:=An PG (Q7a D G I) 64 148 Qhi Qhz
theorem Zt8 (DL:Fn) (v0 G:Rw) (v2 D v4 v5 v6 v7 v8 v9 v10 v11 v12:Int) (L:Rw) (M N O S T U v20 v21 v22:Int) (X:Rw) (v24 v25 Y v27 v28 a0 v30 v31 a1:Int) (v33:Rw):P7 DL [.vC kPt v0, .vC Aj G,I v2,I D,I v4,I v5,I v6,I v7,I v8,I v9,I v10,I v11,I v12, .vC Aa L,I M,I N,I O,I S,I T,I U,I v20,I v21,I v22, .vC Aa X,I v24,I v25,I Y,I v27,I v28,I a0,I v30,I v31,I a1, .vC Aa v33]=
 cond (decide (D<v2)) (cond (decide (0<=D)&&decide (D<(G.length:Int))) (cond (((v0++[[jA (nth [] G D.toNat) 0,jA (nth [] G D.toNat) 1,jA (nth [] G D.toNat) 2]]).length*24).ble 140737488355328) (some (0,[.vC kPt (v0++[[jA (nth [] G D.toNat) 0,jA (nth [] G D.toNat) 1,jA (nth [] G D.toNat) 2]]), .vC Aj G,I v2,I (V (D+1)),I v4,I v5,I v6,I v7,I v8,I v9,I v10,I v11,I v12, .vC Aa L,I M,I N,I O,I S,I T,I U,I v20,I v21,I v22, .vC Aa X,I v24,I v25,I Y,I v27,I v28,I a0,I v30,I v31,I a1, .vC Aa v33])) (none)) (none)) (some (1,[.vC kPt v0,I v4,I v5,I v6,I v7,I v8,I v9,I v10,I v11,I v12, .vC Aa L,I M,I N,I O,I S,I T,I U,I v20,I v21,I v22, .vC Aa X,I v24,I v25,I Y,I v27,I v28,I a0,I v30,I v31,I a1, .vC Aa v33])):=by kernel_rfl
theorem Zxm (DL:Fn) (N3:Lp) (v0:Rw) (v1 D v3 v4 v5 v6 v7 v8 v9 v10 v11:Int) (v12:Rw) (G L M N O S T v20 v21:Int) (v22:Rw) (U v24 v25 X v27 v28 Y v30 v31:Int) (a0:Rw):Uy DL N3 [.vC kPt v0,I v1,I D,I v3,I v4,I v5,I v6,I v7,I v8,I v9,I v10,I v11, .vC Aa v12,I G,I L,I M,I N,I O,I S,I T,I v20,I v21, .vC Aa v22,I U,I v24,I v25,I X,I v27,I v28,I Y,I v30,I v31, .vC Aa a0]=
 cond (decide (D<v1)) (cond (decide (0<=D)&&decide (D<(v0.length:Int))) ((DL [I v3,I v4,I v5,I v6,I v7,I v8,I v9,I v10,I v11, .vC Aa v12,jA (nth [] v0 D.toNat) 0]).bind λo6=>
 cond (!bA o6 0) (some (1,[B false])) ((DL [I G,I L,I M,I N,I O,I S,I T,I v20,I v21, .vC Aa v22,jA (nth [] v0 D.toNat) 1]).bind λo7=>
 cond (!bA o7 0) (some (1,[B false])) ((DL [I U,I v24,I v25,I X,I v27,I v28,I Y,I v30,I v31, .vC Aa a0,jA (nth [] v0 D.toNat) 2]).bind λo8=>
 cond (!bA o8 0) (some (1,[B false])) (some (0,[.vC kPt v0,I v1,I (V (D+1)),I v3,I v4,I v5,I v6,I v7,I v8,I v9,I v10,I v11, .vC Aa v12,I G,I L,I M,I N,I O,I S,I T,I v20,I v21, .vC Aa v22,I U,I v24,I v25,I X,I v27,I v28,I Y,I v30,I v31, .vC Aa a0]))))) (none)) (some (2,[])):=by kernel_rfl
theorem Zte (DL:Fn) (N3 N8:Lp) (x0 x1 x2 x3 x4 x5 x6 x7 x8:Int) (x9:Rw) (M N O S T U V X Y:Int) (a0:Rw) (a1 a2 a3 a4 a5 a6 a7 a8 a9:Int) (b0:Rw) (b1 b2 b3:Int) (G b4:Rw):Y7 DL N3 N8 [I x0,I x1,I x2,I x3,I x4,I x5,I x6,I x7,I x8, .vC Aa x9,I M,I N,I O,I S,I T,I U,I V,I X,I Y, .vC Aa a0,I a1,I a2,I a3,I a4,I a5,I a6,I a7,I a8,I a9, .vC Aa b0,I b1,I b2,I b3, .vC Aj G, .vC kPt b4]=
 (N3 [.vC kPt [[I b1,I b2,I b3]], .vC Aj G,I (G.length:Int),I 0,I x0,I x1,I x2,I x3,I x4,I x5,I x6,I x7,I x8, .vC Aa x9,I M,I N,I O,I S,I T,I U,I V,I X,I Y, .vC Aa a0,I a1,I a2,I a3,I a4,I a5,I a6,I a7,I a8,I a9, .vC Aa b0]).bind λD=>
 cond (D.1.beq 1) ((N8 [.vC kPt (wA D.2 0),I (↑(wA D.2 0).length:Int),I 0,jA D.2 1,jA D.2 2,jA D.2 3,jA D.2 4,jA D.2 5,jA D.2 6,jA D.2 7,jA D.2 8,jA D.2 9, .vC Aa (wA D.2 10),jA D.2 11,jA D.2 12,jA D.2 13,jA D.2 14,jA D.2 15,jA D.2 16,jA D.2 17,jA D.2 18,jA D.2 19, .vC Aa (wA D.2 20),jA D.2 21,jA D.2 22,jA D.2 23,jA D.2 24,jA D.2 25,jA D.2 26,jA D.2 27,jA D.2 28,jA D.2 29, .vC Aa (wA D.2 30)]).bind λL=>
 cond (L.1.beq 1) (some [B (bA L.2 0)]) (cond (L.1.beq 2) (some [B true]) (none))) (none):=by kernel_rfl
def Qgq:=Am (P7 HC)
def Q20:=Am (Uy HC Qgq)
def PI:=Y7 HC Qgq Q20
theorem Qfc:Ai PG (Qpr HC):=Ao rfl ⟨Zvi,trivial⟩
theorem Z4j:Al PG (Zfg PI):=rw2 (C:=Q7a HC Qgq Q20) (fl (fl fb Qfc) Qfc) Qfc
def Qoj:Sk:=⟨[TS.tup [(true,[ci,ci,ci,sa Aj,sa kPt]),(false,[ci])]],[],[]⟩
def Zcr:=qa 15 Qpc Qoj
def Qd5 (D:Fn):Cfg:=cp [Qs7 D] [46]
def Qg7 (D:Fn):Fn:=An PG (Qd5 D) 64 15 Qpc Qoj
theorem Zux (D:Fn) (G:Rw):Qg7 D [.vC Ah G]=
 (D [.vC Ah G]).bind λo1=>
 cond (gA o1 2 !=0) (some [I 0,I 0,I 0, .vC Aj [], .vC kPt [],jA o1 2]) (some [jA o1 3,jA o1 4,jA o1 5, .vC Aj (wA o1 0), .vC kPt (wA o1 1),I 0]):=by kernel_rfl
def Ng:=Qg7 II
theorem Zvw:Ai PG (Qd5 II):=Ao rfl ⟨Q0v,trivial⟩
theorem Zlz:Al PG (Zcr Ng):=rw1 (C:=Qd5 II) Zvw
def Qk3:Sk:=⟨[tf [sd 20000 0],tf [sa Ah],tf [sb]],[(20000,179,cS)],[]⟩
def Zqd:=qa 97 Qk3 Qk2
def Qdx (D G I L:Fn):Cfg:={cf [Zk2 D,Q8h G,Zfg I,Zcr L]with fstore:=true}
def Qi (D G I L:Fn):Fn:=An PG (Qdx D G I L) 64 97 Qk3 Qk2
theorem Zgn (G L M N:Fn) (D:Rw) (O:Bool) (K:Kf) (c:Cv):Qi G L M N (.vC Ah D::B O::Ad K c)=
 (N [.vC Ah D]).bind λo4=>
 cond (gA o4 5 !=0) (some (jA o4 5::Ad K c)) ((M (AE K.x++[jA o4 0,jA o4 1,jA o4 2, .vC Aj (wA o4 3), .vC kPt (wA o4 4)])).bind λS=>
 cond (!bA S 0) (some (I 17::Ad K c)) (cond ((D.length*176).ble 140737488355328) ((L [jA o4 0,jA o4 1,jA o4 2, .vC Aj (wA o4 3), .vC kPt (wA o4 4)]).bind λo6=>
 (G [.vC Ah D]).bind λT=>
 some (I 0::DR (Ad K c) [(35, .vC Ah D),(36,B O),(37,jA o4 0),(38,jA o4 1),(39,jA o4 2),(40, .vC Aj (wA o4 3)),(41, .vC kPt (wA o4 4)),(42,jA o6 0),(43,jA T 0)])) (none))):=by kernel_rfl
def Tv:=Qi Nj Js PI Ng
theorem Zl4:Ai PG (Qdx Nj Js PI Ng):=Ao rfl ⟨Zu2,Q54,Z4j,Zlz,trivial⟩
theorem Zrg:Al PG (Zqd Tv):=rw1 (C:=Qdx Nj Js PI Ng) Zl4
def Zv7:=qa 95 Zp Qng
def Qe5:Fn:=An PG C_cncref30_SamePulses_0 64 95 Zp Qng
theorem Z39:Qe5 []=
 some [I 100,I 100,B false,B false,B false]:=by kernel_rfl
def PX:=Qe5
theorem Zow:Ai PG (C_cncref30_SamePulses_0):=Ao rfl trivial
theorem Zzj:Al PG (Zv7 PX):=rw1 (C:=C_cncref30_SamePulses_0) Zow
def Wa:Sk:=⟨[TS.v true (cc 9++[sa Aa]++cc 9++[sa Aa]++cc 9++[sa Aa]++cc 5)],[],[]⟩
def Zmb:=qa 94 Wa Wa
def XB:Cfg:={cf []with fstore:=true,unroll:=[2]}
def Qal:Fn:=An PG XB 64 94 Wa Wa
theorem Zc2 (x0 x1 x2 x3 x4 x5 x6 x7 x8:Int) (x9:Rw) (L M N O S T U V X:Int) (D:Rw) (Y a0 a1 a2 a3 a4 a5 a6 a7:Int) (G:Rw) (a8 a9 b0 b1 b2:Int):Qal [I x0,I x1,I x2,I x3,I x4,I x5,I x6,I x7,I x8, .vC Aa x9,I L,I M,I N,I O,I S,I T,I U,I V,I X, .vC Aa D,I Y,I a0,I a1,I a2,I a3,I a4,I a5,I a6,I a7, .vC Aa G,I a8,I a9,I b0,I b1,I b2]=
 cond ((x9.length*8).ble 140737488355328) (cond ((D.length*8).ble 140737488355328) (cond ((G.length*8).ble 140737488355328) (some [I x0,I x1,I x2,I x3,I x4,I x5,I x6,I x7,I x8, .vC Aa x9,I L,I M,I N,I O,I S,I T,I U,I V,I X, .vC Aa D,I Y,I a0,I a1,I a2,I a3,I a4,I a5,I a6,I a7, .vC Aa G,I a8,I a9,I b0,I b1,I b2]) (none)) (none)) (none):=by kernel_rfl
def P1:=Qal
theorem Z2q:Ai PG (XB):=Ao rfl trivial
theorem Zha:Al PG (Zmb P1):=rw1 (C:=XB) Z2q
def Qgt:Sk:=⟨[TS.v true (cc 9++[sa Aa])],[],[]⟩
def Ziv:=qa 191 Qgt Qhz
def Ql9 (D:Fn):Cfg:=cf [Qil D]
def Q68:Sk:=⟨[td,tf [sd 1 0]]++dd 24++[tf [sa Aa],tf [ci],tf [ci]]++dd 29,[(1,33,cc 9++[sa Aa])],[]⟩
def Q56:List (Ex×Sk):=[(Ex.ret,⟨[td,td,tf [sb]]++dd 55,[],[]⟩),(Ex.exit 0,⟨[td]++dd 57,[],[]⟩)]
def Zw (D:Fn):Lp:=AL PG (Ql9 D) 64 6 (AN PG 191 6) Q68 Q56
def Qzq (D:Fn) (G:Lp):Cfg:=(Ql9 D).loop 6 Q68 Q56 G
def Zb (D:Fn) (G:Lp):Fn:=An PG (Qzq D G) 64 191 Qgt Qhz
theorem Znq (M:Fn) (G:Rw) (L D N O S T U X Y v10 v11:Int) (v12:Rw):Zw M [.vC Aa G,I L,I D,I N,I O,I S,I T,I U,I X,I Y,I v10,I v11, .vC Aa v12]=
 cond (decide (D<L)) (cond (decide (0<=D)&&decide (D<(G.length:Int))) ((M [jA (nth [] G D.toNat) 0,I (-4096),I 4096]).bind λo7=>
 cond (!bA o7 0) (some (1,[B false])) (cond (decide (D>0)) (cond (decide (0<=V (D-1))&&decide (V (D-1)<(v12.length:Int))) ((M [I (V (gA (nth [] G D.toNat) 0-gA (nth [] v12 (V (D-1)).toNat) 0)),I (V (0-V (v11.tdiv 4))),I (V (v11.tdiv 4))]).bind λo8=>
 cond (!bA o8 0) (some (1,[B false])) (some (0,[.vC Aa G,I L,I (V (D+1)),I N,I O,I S,I T,I U,I X,I Y,I v10,I v11, .vC Aa v12]))) (none)) (some (0,[.vC Aa G,I L,I (V (D+1)),I N,I O,I S,I T,I U,I X,I Y,I v10,I v11, .vC Aa v12])))) (none)) (some (2,[])):=by kernel_rfl
theorem Zj5 (L:Fn) (S:Lp) (T U V X Y x5 x6 M N:Int) (G:Rw):Zb L S [I T,I U,I V,I X,I Y,I x5,I x6,I M,I N, .vC Aa G]=
 cond ((G.length:Int)==0) (some [B true]) (cond (decide ((G.length:Int)>64)) (some [B false]) ((L [I M,I (-16777216),I 16777216]).bind λo9=>
 cond (!bA o9 0) (some [B false]) ((L [I N,I 4,I 16777216]).bind λO=>
 cond (!bA O 0) (some [B false]) ((S [.vC Aa G,I (G.length:Int),I 0,I T,I U,I V,I X,I Y,I x5,I x6,I M,I N, .vC Aa G]).bind λD=>
 cond (D.1.beq 1) (some [B (bA D.2 0)]) (cond (D.1.beq 2) (some [B true]) (none)))))):=by kernel_rfl
def Qtw:=Am (Zw GO)
def P8:=Zb GO Qtw
theorem Zau:Ai PG (Ql9 GO):=Ao rfl ⟨Qmq,trivial⟩
theorem Zp3:Al PG (Ziv P8):=rw2 (C:=Qzq GO Qtw) (fl fb Zau) Zau
def Ya2:=qa 145 Qgt Qhz
def Qom (D G:Fn):Cfg:=cf [Ziv D,Qil G]
def Qdm (D G:Fn):Fn:=An PG (Qom D G) 64 145 Qgt Qhz
theorem Z89 (Y L:Fn) (M N O S D G T x7 x8:Int) (x9:Rw):Qdm Y L [I M,I N,I O,I S,I D,I G,I T,I x7,I x8, .vC Aa x9]=
 (L [I M,I 4,I 4096]).bind λo6=>
 cond (bA o6 0) ((L [I N,I 1,I 1048576]).bind λo7=>
 cond (bA o7 0) ((L [I O,I 2,I 1048576]).bind λo8=>
 cond (bA o8 0) ((L [I S,I 4,I 1048576]).bind λU=>
 cond (decide (D>= -16777216)) (cond (decide (G<=16777216)) (cond (bA U 0) (cond (decide (D<=G)) ((L [I T,I 0,I 64]).bind λV=>
 cond (bA V 0) ((Y [I M,I N,I O,I S,I D,I G,I T,I x7,I x8, .vC Aa x9]).bind λX=>
 some [B (bA X 0)]) (some [B false])) (some [B false])) (some [B false])) (cond (bA U 0) (some [B false]) (some [B false]))) (cond (bA U 0) (some [B false]) (some [B false]))) (cond (decide (D>= -16777216)) (cond (decide (G<=16777216)) (some [B false]) (some [B false])) (some [B false]))) (cond (decide (D>= -16777216)) (cond (decide (G<=16777216)) (some [B false]) (some [B false])) (some [B false]))) (cond (decide (D>= -16777216)) (cond (decide (G<=16777216)) (some [B false]) (some [B false])) (some [B false])):=by kernel_rfl
def Qr:=Qdm P8 GO
theorem Zqm:Ai PG (Qom P8 GO):=Ao rfl ⟨Zp3,Qmq,trivial⟩
theorem Z1w:Al PG (Ya2 Qr):=rw1 (C:=Qom P8 GO) Zqm
def Z4r:=qa 93 Wa Qhz
def YS (D G I:Fn):Cfg:={cf [Qf3 D,Yb G,Ya2 I]with unroll:=[2]}
def V9 (D G I:Fn):Fn:=An PG (YS D G I) 64 93 Wa Qhz
theorem Zzw (Dk BP J7:Fn) (x0 x1 x2 x3 x4 x5 x6 x7 x8:Int) (x9:Rw) (L M N O S T U V X:Int) (Y:Rw) (a0 a1 a2 a3 a4 a5 a6 a7 a8:Int) (a9:Rw) (b0 b1 b2 D G:Int):V9 Dk BP J7 [I x0,I x1,I x2,I x3,I x4,I x5,I x6,I x7,I x8, .vC Aa x9,I L,I M,I N,I O,I S,I T,I U,I V,I X, .vC Aa Y,I a0,I a1,I a2,I a3,I a4,I a5,I a6,I a7,I a8, .vC Aa a9,I b0,I b1,I b2,I D,I G]=
 (J7 [I x0,I x1,I x2,I x3,I x4,I x5,I x6,I x7,I x8, .vC Aa x9]).bind λo5=>
 cond (!bA o5 0) (some [B false]) ((J7 [I L,I M,I N,I O,I S,I T,I U,I V,I X, .vC Aa Y]).bind λo6=>
 cond (!bA o6 0) (some [B false]) ((J7 [I a0,I a1,I a2,I a3,I a4,I a5,I a6,I a7,I a8, .vC Aa a9]).bind λo7=>
 cond (!bA o7 0) (some [B false]) ((BP [I b0,I b1,I b2]).bind λo8=>
 cond (bA o8 0) (cond (decide (D>=1)) ((Dk [I 30000]).bind λo9=>
 cond (decide (D<=gA o9 0)) (cond (decide (G>=0)) (some [B (decide (G<=1048576))]) (some [B false])) (some [B false])) (some [B false])) (some [B false])))):=by kernel_rfl
def Q4:=V9 EU ES Qr
theorem Zg9:Ai PG (YS EU ES Qr):=Ao rfl ⟨Qji,Qn8,Z1w,trivial⟩
theorem Zgb:Al PG (Z4r Q4):=rw1 (C:=YS EU ES Qr) Zg9
def Qg8:Sk:=⟨[TS.v true (cc 9++[sa Aa]++cc 9++[sa Aa]++cc 9++[sa Aa]++cc 5),tf [sa Ah],tf [sb]],[],[]⟩
def VI:Sk:=⟨[TS.tup [(false,[sd 19 0]),(false,[ci])]],[(19,179,cS)],[]⟩
def Zo7:=qa 54 Qg8 VI
def Qdz (D G I L M N O:Fn):Cfg:={cp [Q5h D,Zhl G,Zqd I,Qr3 L,Zv7 M,Zmb N,Z4r O] [97]with fstore:=true}
def SB (D G I L M N O:Fn):Fn:=An PG (Qdz D G I L M N O) 64 54 Qg8 VI
theorem Zdk (FO Nv O8 F5 O2 O4 OE:Fn) (x0 x1 x2 x3 x4 x5 x6 x7 x8:Int) (x9:Rw) (M N O S T U V X Y:Int) (a0:Rw) (a1 a2 a3 a4 a5 a6 a7 a8 a9:Int) (b0:Rw) (b1 b2 b3 b4 b5:Int) (b7:Rw) (b8:Bool):SB FO Nv O8 F5 O2 O4 OE [I x0,I x1,I x2,I x3,I x4,I x5,I x6,I x7,I x8, .vC Aa x9,I M,I N,I O,I S,I T,I U,I V,I X,I Y, .vC Aa a0,I a1,I a2,I a3,I a4,I a5,I a6,I a7,I a8,I a9, .vC Aa b0,I b1,I b2,I b3,I b4,I b5, .vC Ah b7,B b8]=
 (OE [I x0,I x1,I x2,I x3,I x4,I x5,I x6,I x7,I x8, .vC Aa x9,I M,I N,I O,I S,I T,I U,I V,I X,I Y, .vC Aa a0,I a1,I a2,I a3,I a4,I a5,I a6,I a7,I a8,I a9, .vC Aa b0,I b1,I b2,I b3,I b4,I b5]).bind λo7=>
 cond (!bA o7 0) (none) ((O4 [I x0,I x1,I x2,I x3,I x4,I x5,I x6,I x7,I x8, .vC Aa x9,I M,I N,I O,I S,I T,I U,I V,I X,I Y, .vC Aa a0,I a1,I a2,I a3,I a4,I a5,I a6,I a7,I a8,I a9, .vC Aa b0,I b1,I b2,I b3,I b4,I b5]).bind λo8=>
 (O2 []).bind λo9=>
 (F5 []).bind λb6=>
 (O8 [.vC Ah b7,B b8,jA o8 0,jA o8 1,jA o8 2,jA o8 3,jA o8 4,jA o8 5,jA o8 6,jA o8 7,jA o8 8, .vC Aa (wA o8 9),jA o8 10,jA o8 11,jA o8 12,jA o8 13,jA o8 14,jA o8 15,jA o8 16,jA o8 17,jA o8 18, .vC Aa (wA o8 19),jA o8 20,jA o8 21,jA o8 22,jA o8 23,jA o8 24,jA o8 25,jA o8 26,jA o8 27,jA o8 28, .vC Aa (wA o8 29),jA o8 30,jA o8 31,jA o8 32,jA o8 33,jA o8 34, .vC Ah [],B false,I 0,I 0,I 0, .vC Aj [], .vC kPt [],I 0,I 0, .vC As [],I 0,I 0,I 0,I 0,I 0,I 0,I 0,I 0,I 0,I 0,I 0,jA o9 0,jA o9 1,B (bA o9 2),B (bA o9 3),B (bA o9 4),jA b6 0,jA b6 1,jA b6 2,I 1,I 0,I 0,I 0,I 0,I 0,I 0,I 0,I 0,B false,I 0,B false,I 0,B false,I 0,I (-1),I 0,I 0,I 0,I 0,I 0,I 0,I 0,B false,B false,B false]).bind λD=>
 cond (gA D 0 !=0) (none) ((Nv [jA D 38,jA D 39,jA D 40, .vC Aj (wA D 41), .vC kPt (wA D 42),jA D 1,jA D 2,jA D 3,jA D 4,jA D 5,jA D 6,jA D 7,jA D 8,jA D 9, .vC Aa (wA D 10),jA D 11,jA D 12,jA D 13,jA D 14,jA D 15,jA D 16,jA D 17,jA D 18,jA D 19, .vC Aa (wA D 20),jA D 21,jA D 22,jA D 23,jA D 24,jA D 25,jA D 26,jA D 27,jA D 28,jA D 29, .vC Aa (wA D 30),I 1,I 1,I 1,I 0,jA D 43]).bind λG=>
 (FO [I 0]).bind λL=>
 some (I 0::DR (cR 1 D) [(44, .vC As (wA G 0)),(45,jA G 1),(46,jA G 2),(47,jA G 3),(48,jA G 4),(49,jA G 5),(50,jA L 0),(51,jA L 1),(52,jA L 2),(53,jA L 3),(54,jA L 4),(55,jA L 5)]))):=by kernel_rfl
def JP:=SB Je Pr Tv JQ PX P1 Q4
theorem Zjw:Ai PG (Qdz Je Pr Tv JQ PX P1 Q4):=Ao rfl ⟨Qse,Zdx,Zrg,Qxc,Zzj,Zha,Zgb,trivial⟩
theorem Z72:Al PG (Zo7 JP):=rw1 (C:=Qdz Je Pr Tv JQ PX P1 Q4) Zjw
def Zgm:=qa 53 ZQ Qhz
def Q9j:Sk:=⟨[td,td,td,tf [ci],td,td,td,td,td,tf [sa kPt],tf [ci],tf [ci]]++dd 35,[],[]⟩
def Qtf:List (Ex×Sk):=[(Ex.ret,⟨[td,td,tf [sb]]++dd 44,[],[]⟩),(Ex.exit 0,⟨[td]++dd 46,[],[]⟩)]
def Mq:Lp:=AL PG C_cncref30_SamePulses_0 64 5 (AN PG 53 5) Q9j Qtf
def Q8v (D:Lp):Cfg:=C_cncref30_SamePulses_0.loop 5 Q9j Qtf D
def Ql0 (D:Lp):Fn:=An PG (Q8v D) 64 53 ZQ Qhz
theorem Zax (M:Int) (G:Rw) (L D:Int):Mq [I M, .vC kPt G,I L,I D]=
 cond (decide (D<L)) (cond (decide (0<=D)&&decide (D<(G.length:Int))) (cond (decide (gA (nth [] G D.toNat) 0<M)) (some (1,[B false])) (cond (decide (gA (nth [] G D.toNat) 0>1073741824)) (some (1,[B false])) (cond (decide (gA (nth [] G D.toNat) 1<1)) (some (1,[B false])) (cond (decide (gA (nth [] G D.toNat) 1>13)) (some (1,[B false])) (cond (decide (gA (nth [] G D.toNat) 2< -1073741824)) (some (1,[B false])) (cond (decide (gA (nth [] G D.toNat) 2>1073741824)) (some (1,[B false])) (some (0,[jA (nth [] G D.toNat) 0, .vC kPt G,I L,I (V (D+1))])))))))) (none)) (some (2,[])):=by kernel_rfl
theorem Zxc (G:Lp) (D:Rw):Ql0 G [.vC kPt D]=
 cond (decide ((D.length:Int)>2000)) (some [B false]) ((G [I 0, .vC kPt D,I (D.length:Int),I 0]).bind λo1=>
 cond (o1.1.beq 1) (some [B (bA o1.2 0)]) (cond (o1.1.beq 2) (some [B true]) (none))):=by kernel_rfl
def Q1y:=Am (Mq)
def OL:=Ql0 Q1y
theorem Qrn:Ai PG (C_cncref30_SamePulses_0):=Ao rfl trivial
theorem Z23:Al PG (Zgm OL):=rw2 (C:=Q8v Q1y) (fl fb Qrn) Qrn
def VD:Sk:=⟨[TS.v true (cc 9++[sa Aa]++cc 9++[sa Aa]++cc 9++[sa Aa]++cc 5),tf [sa Ah],tf [sa kPt],tf [ci]],[],[]⟩
def Qln:Sk:=⟨[TS.tup [(false,[sa [Kd.sl kPt,Kd.sl Aa,kI,kI,kI,kI,kI,kI,kI]]),(false,[ci])]],[],[]⟩
def Q36:=qa 18 VD Qln
def Z3 (D G I L:Fn):Cfg:={cp [Ybi D,Zrh G,Zo7 I,Zgm L] [55,54]with prom:=λb=>cond (Nat.beq b 8) ([(12,61)]) ([])}
def Za2:Sk:=⟨[td,td,tf [sa kPt],tf [ci]]++dd 6++[tf [sd 102500 0],td,tf [se 12 9],tf [ci]]++dd 40,[(102500,179,cS)],[(12,61,[Kd.sl kPt,Kd.sl Aa,kI,kI,kI,kI,kI,kI,kI])]⟩
def Qxr:List (Ex×Sk):=[(Ex.exit 0,⟨dd 12++[tf [se 12 9]]++dd 41,[],[(12,61,[Kd.sl kPt,Kd.sl Aa,kI,kI,kI,kI,kI,kI,kI])]⟩)]
def On (D G I L:Fn):Lp:=AL PG (Z3 D G I L) 64 8 (AN PG 18 8) Za2 Qxr
def Zbm (D G I L:Fn) (M:Lp):Cfg:=(Z3 D G I L).loop 8 Za2 Qxr M
def Qim (D G I L:Fn) (M:Lp):Fn:=An PG (Zbm D G I L M) 64 18 VD Qln
theorem Q7b (S T U X:Fn) (G M:Rw) (N L:Int) (K:Kf) (c:Cv):On S T U X (.vC [Kd.sl kPt,Kd.sl Aa,kI,kI,kI,kI,kI,kI,kI] G:: .vC kPt M::I N::I L::Ad K c)=
 cond (decide (L<N)) ((T [.vC kPt M,I L]).bind λO=>
 (S (.vC kPt (wA O 0)::Ad K c)).bind λD=>
 cond (((G++[[.vC (Aa++(Aa++(Aa++[]))) (wA D 0), .vC Aa (wA D 1),jA D 2,jA D 3,jA D 4,jA D 5,jA D 6,jA D 7,jA D 8]]).length*104).ble 140737488355328) (cond (gA D 2==7) (some (1,[.vC [Kd.sl kPt,Kd.sl Aa,kI,kI,kI,kI,kI,kI,kI] (G++[[.vC (Aa++(Aa++(Aa++[]))) (wA D 0), .vC Aa (wA D 1),jA D 2,jA D 3,jA D 4,jA D 5,jA D 6,jA D 7,jA D 8]])])) (cond (gA D 2==8) (some (1,[.vC [Kd.sl kPt,Kd.sl Aa,kI,kI,kI,kI,kI,kI,kI] (G++[[.vC (Aa++(Aa++(Aa++[]))) (wA D 0), .vC Aa (wA D 1),jA D 2,jA D 3,jA D 4,jA D 5,jA D 6,jA D 7,jA D 8]])])) (some (0,(.vC [Kd.sl kPt,Kd.sl Aa,kI,kI,kI,kI,kI,kI,kI] (G++[[.vC (Aa++(Aa++(Aa++[]))) (wA D 0), .vC Aa (wA D 1),jA D 2,jA D 3,jA D 4,jA D 5,jA D 6,jA D 7,jA D 8]]):: .vC kPt M::I N::I (V (L+1))::cR 9 D))))) (none)) (some (1,[.vC [Kd.sl kPt,Kd.sl Aa,kI,kI,kI,kI,kI,kI,kI] G])):=by kernel_rfl
theorem Zpa (Hb G8 GM GU:Fn) (N8:Lp) (x0 x1 x2 x3 x4 x5 x6 x7 x8:Int) (x9:Rw) (M N O S T U V X Y:Int) (a0:Rw) (a1 a2 a3 a4 a5 a6 a7 a8 a9:Int) (b0:Rw) (b1 b2 b3 b4 b5:Int) (b6 D:Rw) (G:Int):Qim Hb G8 GM GU N8 [I x0,I x1,I x2,I x3,I x4,I x5,I x6,I x7,I x8, .vC Aa x9,I M,I N,I O,I S,I T,I U,I V,I X,I Y, .vC Aa a0,I a1,I a2,I a3,I a4,I a5,I a6,I a7,I a8,I a9, .vC Aa b0,I b1,I b2,I b3,I b4,I b5, .vC Ah b6, .vC kPt D,I G]=
 (GU [.vC kPt D]).bind λb8=>
 cond (!bA b8 0) (some [.vC [Kd.sl kPt,Kd.sl Aa,kI,kI,kI,kI,kI,kI,kI] [],I 1]) (cond (decide (G>1073741824)) (some [.vC [Kd.sl kPt,Kd.sl Aa,kI,kI,kI,kI,kI,kI,kI] [],I 1]) ((GM [I x0,I x1,I x2,I x3,I x4,I x5,I x6,I x7,I x8, .vC Aa x9,I M,I N,I O,I S,I T,I U,I V,I X,I Y, .vC Aa a0,I a1,I a2,I a3,I a4,I a5,I a6,I a7,I a8,I a9, .vC Aa b0,I b1,I b2,I b3,I b4,I b5, .vC Ah b6,B true]).bind λL=>
 cond (gA L 0 !=0) (some [.vC [Kd.sl kPt,Kd.sl Aa,kI,kI,kI,kI,kI,kI,kI] [],jA L 0]) ((N8 (.vC [Kd.sl kPt,Kd.sl Aa,kI,kI,kI,kI,kI,kI,kI] []:: .vC kPt D::I G::I 0::cR 1 L)).bind λb7=>
 cond (b7.1.beq 1) (some [.vC [Kd.sl kPt,Kd.sl Aa,kI,kI,kI,kI,kI,kI,kI] (wA b7.2 0),I 0]) (none)))):=by kernel_rfl
def Q6f:=Am (On JT OY JP OL)
def Jw:=Qim JT OY JP OL Q6f
theorem Q1l:Ai PG (Z3 JT OY JP OL):=Ao rfl ⟨Z1t,Zxd,Z72,Z23,trivial⟩
theorem Qto:Al PG (Q36 Jw):=rw2 (C:=Zbm JT OY JP OL Q6f) (fl fb Q1l) Q1l
def Qwz:=qa 12 YH Y2
def Qso:Fn:=An PG C_cncref30_SamePulses_0 64 12 YH Y2
theorem Zst (G D:Int):Qso [I G,I D]=
 cond (decide (D=0)) (none) (cond (decide (D=0)) (none) (some [I ((V (G.tmod D+D)).tmod D)])):=by kernel_rfl
def IL:=Qso
theorem Zyr:Ai PG (C_cncref30_SamePulses_0):=Ao rfl trivial
theorem Qtk:Al PG (Qwz IL):=rw1 (C:=C_cncref30_SamePulses_0) Zyr
def VU:Sk:=⟨[tf [sd 20000 0],tf [ci]],[(20000,95,[sa Aa,ci])],[]⟩
def Qqv:Sk:=⟨[tf [ci]],[(20000,95,[sa Aa,ci])],[]⟩
def Jv:=qa 41 VU Qqv
def Qd7 (D:Fn):Cfg:=cf [Qwz D]
def Qnc (D:Fn):Fn:=An PG (Qd7 D) 64 41 VU Qqv
theorem Zxl (L:Fn) (M:Int) (G:Rw) (D:Int):Qnc L [I M, .vC Aa G,I D]=
 cond (decide (D>=(G.length:Int))) (some [I 0, .vC Aa G,I D]) (cond (decide (0<=D)&&decide (D<(G.length:Int))) ((L [jA (nth [] G D.toNat) 0,I M]).bind λo1=>
 some [jA o1 0, .vC Aa G,I (V (D+1))]) (none)):=by kernel_rfl
def BE:=Qnc IL
theorem Zir:Ai PG (Qd7 IL):=Ao rfl ⟨Qtk,trivial⟩
theorem IN:Al PG (Jv BE):=rw1 (C:=Qd7 IL) Zir
def Qm9:Sk:=⟨[TS.v true [ci,ci,ci]],[(20000,95,[sa Aa,ci])],[]⟩
def Z6k:=qa 63 VU Qm9
def Qph (D:Fn):Cfg:=cp [Jv D] [41]
def XH (D:Fn):Fn:=An PG (Qph D) 64 63 VU Qm9
abbrev Rc (M:Fn) (L:List AC) (N:Int) (G:AC):Option (List AC):=
 (M [G, .vC Aa (wA L 1),jA L 2]).bind λD=>
 some [I N,I (Af (nth .vD (nth [] [[I 4],[I 1],[I 2],[I 3],[I 4],[I 5],[I 6],[I 7],[I 4],[I 8],[I 9],[I 11],[I 12],[I 13],[I 10]] (gA L 0).toNat) 0)),I (V (gA D 0-5)), .vC Aa (wA D 1),jA D 2]
theorem Zls (G:Fn) (L:Int) (U:Rw) (X:Int):XH G [I L, .vC Aa U,I X]=
 (G [I 15, .vC Aa U,I X]).bind λD=>
 cond (decide (0<=gA D 0)&&decide (gA D 0<(↑[[I 4],[I 1],[I 2],[I 3],[I 4],[I 5],[I 6],[I 7],[I 4],[I 8],[I 9],[I 11],[I 12],[I 13],[I 10]].length:Int))) (cond (Af (nth .vD (nth [] [[I 4],[I 1],[I 2],[I 3],[I 4],[I 5],[I 6],[I 7],[I 4],[I 8],[I 9],[I 11],[I 12],[I 13],[I 10]] (gA D 0).toNat) 0)==1) (Rc G D L (I 220)) (cond (Af (nth .vD (nth [] [[I 4],[I 1],[I 2],[I 3],[I 4],[I 5],[I 6],[I 7],[I 4],[I 8],[I 9],[I 11],[I 12],[I 13],[I 10]] (gA D 0).toNat) 0)==2) (Rc G D L (I 220)) (cond (Af (nth .vD (nth [] [[I 4],[I 1],[I 2],[I 3],[I 4],[I 5],[I 6],[I 7],[I 4],[I 8],[I 9],[I 11],[I 12],[I 13],[I 10]] (gA D 0).toNat) 0)==5) ((G [I 3, .vC Aa (wA D 1),jA D 2]).bind λM=>
 some [I L,I (Af (nth .vD (nth [] [[I 4],[I 1],[I 2],[I 3],[I 4],[I 5],[I 6],[I 7],[I 4],[I 8],[I 9],[I 11],[I 12],[I 13],[I 10]] (gA D 0).toNat) 0)),jA M 0, .vC Aa (wA M 1),jA M 2]) (cond (Af (nth .vD (nth [] [[I 4],[I 1],[I 2],[I 3],[I 4],[I 5],[I 6],[I 7],[I 4],[I 8],[I 9],[I 11],[I 12],[I 13],[I 10]] (gA D 0).toNat) 0)==6) ((G [I 3, .vC Aa (wA D 1),jA D 2]).bind λN=>
 some [I L,I (Af (nth .vD (nth [] [[I 4],[I 1],[I 2],[I 3],[I 4],[I 5],[I 6],[I 7],[I 4],[I 8],[I 9],[I 11],[I 12],[I 13],[I 10]] (gA D 0).toNat) 0)),jA N 0, .vC Aa (wA N 1),jA N 2]) (cond (Af (nth .vD (nth [] [[I 4],[I 1],[I 2],[I 3],[I 4],[I 5],[I 6],[I 7],[I 4],[I 8],[I 9],[I 11],[I 12],[I 13],[I 10]] (gA D 0).toNat) 0)==7) (Rc G D L (I 300)) (cond (Af (nth .vD (nth [] [[I 4],[I 1],[I 2],[I 3],[I 4],[I 5],[I 6],[I 7],[I 4],[I 8],[I 9],[I 11],[I 12],[I 13],[I 10]] (gA D 0).toNat) 0)==8) ((G [I 5, .vC Aa (wA D 1),jA D 2]).bind λO=>
 some [I L,I (Af (nth .vD (nth [] [[I 4],[I 1],[I 2],[I 3],[I 4],[I 5],[I 6],[I 7],[I 4],[I 8],[I 9],[I 11],[I 12],[I 13],[I 10]] (gA D 0).toNat) 0)),I (V (gA O 0-1)), .vC Aa (wA O 1),jA O 2]) (cond (Af (nth .vD (nth [] [[I 4],[I 1],[I 2],[I 3],[I 4],[I 5],[I 6],[I 7],[I 4],[I 8],[I 9],[I 11],[I 12],[I 13],[I 10]] (gA D 0).toNat) 0)==13) ((G [I 4, .vC Aa (wA D 1),jA D 2]).bind λS=>
 (G [I 60, .vC Aa (wA S 1),jA S 2]).bind λT=>
 some [I L,I (Af (nth .vD (nth [] [[I 4],[I 1],[I 2],[I 3],[I 4],[I 5],[I 6],[I 7],[I 4],[I 8],[I 9],[I 11],[I 12],[I 13],[I 10]] (gA D 0).toNat) 0)),I (V (V (gA S 0*1048576)+gA T 0)), .vC Aa (wA T 1),jA T 2]) (some [I L,I (Af (nth .vD (nth [] [[I 4],[I 1],[I 2],[I 3],[I 4],[I 5],[I 6],[I 7],[I 4],[I 8],[I 9],[I 11],[I 12],[I 13],[I 10]] (gA D 0).toNat) 0)),I 0, .vC Aa (wA D 1),jA D 2])))))))) (none):=by kernel_rfl
def LS:=XH BE
theorem Zkz:Ai PG (Qph BE):=Ao rfl ⟨IN,trivial⟩
theorem Zws:Al PG (Z6k LS):=rw1 (C:=Qph BE) Zkz
def Qk8:Sk:=⟨[tf [sd 20000 0]],[(20000,95,[sa Aa,ci])],[]⟩
def Qix:Sk:=⟨[tf [sb]],[(20000,95,[sa Aa,ci])],[]⟩
def Quz:=qa 42 Qk8 Qix
def Qwf:Fn:=An PG C_cncref30_SamePulses_0 64 42 Qk8 Qix
theorem Zfc (D:Rw) (G:Int):Qwf [.vC Aa D,I G]=
 some [B (decide (G<(D.length:Int))), .vC Aa D,I G]:=by kernel_rfl
def FW:=Qwf
theorem Znf:Ai PG (C_cncref30_SamePulses_0):=Ao rfl trivial
theorem Q80:Al PG (Quz FW):=rw1 (C:=C_cncref30_SamePulses_0) Znf
def Qkb:Sk:=⟨[tf [sd 5 0]],[(5,95,[sa Aa,ci])],[]⟩
def QZ:=qa 40 Qfp Qkb
def Q63:Fn:=An PG C_cncref30_SamePulses_0 64 40 Qfp Qkb
theorem Zpo (D:Rw):Q63 [.vC Aa D]=
 some [.vC Aa D,I 0]:=by kernel_rfl
def Cu:=Q63
theorem Zuw:Ai PG (C_cncref30_SamePulses_0):=Ao rfl trivial
theorem QL:Al PG (QZ Cu):=rw1 (C:=C_cncref30_SamePulses_0) Zuw
def Z3u:=qa 23 Qfp ZQ
def Vk (D G I L:Fn):Cfg:={cp [Z6k D,Jv G,Quz I,QZ L] [63,41,42,40]with prom:=λb=>cond (Nat.beq b 4) ([(4,65)]) ([])}
def Qy7:Sk:=⟨[td,td,td,tf [sd 100700 0],tf [se 4 3],tf [ci]]++dd 15,[(100700,95,[sa Aa,ci])],[(4,65,kPt)]⟩
def Q59:List (Ex×Sk):=[(Ex.exit 0,⟨[td,td,td,td,tf [se 4 3]]++dd 16,[],[(4,65,kPt)]⟩)]
def Qow (D G I L:Fn):Lp:=AL PG (Vk D G I L) 64 4 (AN PG 23 4) Qy7 Q59
def Q8g (D G I L:Fn) (M:Lp):Cfg:=(Vk D G I L).loop 4 Qy7 Q59 M
def Qej (D G I L:Fn) (M:Lp):Fn:=An PG (Q8g D G I L M) 64 23 Qfp ZQ
theorem Znx (O S T Y:Fn) (M:Rw) (N:Int) (U:Rw) (X:Int):Qow O S T Y [.vC kPt M,I N, .vC Aa U,I X]=
 (T [.vC Aa U,I X]).bind λL=>
 cond (bA L 0) ((S [I 40, .vC Aa (wA L 1),jA L 2]).bind λG=>
 (O [I (V (N+gA G 0)), .vC Aa (wA G 1),jA G 2]).bind λD=>
 cond (((M++[[jA D 0,jA D 1,jA D 2]]).length*24).ble 140737488355328) (some (0,[.vC kPt (M++[[jA D 0,jA D 1,jA D 2]]),I (V (N+gA G 0)), .vC Aa (wA D 3),jA D 4])) (none)) (some (1,[.vC kPt M])):=by kernel_rfl
theorem Z77 (O S T L:Fn) (M:Lp) (N:Rw):Qej O S T L M [.vC Aa N]=
 (L [.vC Aa N]).bind λD=>
 (M [.vC kPt [],I 0, .vC Aa (wA D 0),jA D 1]).bind λG=>
 cond (G.1.beq 1) (some [.vC kPt (wA G.2 0)]) (none):=by kernel_rfl
def Q6b:=Am (Qow LS BE FW Cu)
def Qd:=Qej LS BE FW Cu Q6b
theorem Zar:Ai PG (Vk LS BE FW Cu):=Ao rfl ⟨Zws,IN,Q80,QL,trivial⟩
theorem Z00:Al PG (Z3u Qd):=rw2 (C:=Q8g LS BE FW Cu Q6b) (fl fb Zar) Zar
def Zu1:=qa 137 WY ZP
def Zb2:Fn:=An PG C_cncref30_SamePulses_0 64 137 WY ZP
theorem Z7d (D G L M:Int):Zb2 [I D,I G,I L,I M]=
 cond (M==17) (some [I D,I G,I L]) (cond (M==18) (some [I G,I L,I D]) (cond (M==19) (some [I L,I D,I G]) (some [I 0,I 0,I 0]))):=by kernel_rfl
def NZ:=Zb2
theorem Znh:Ai PG (C_cncref30_SamePulses_0):=Ao rfl trivial
theorem Zjy:Al PG (Zu1 NZ):=rw1 (C:=C_cncref30_SamePulses_0) Znh
def Zlw:=qa 136 YH Wv
def Qym:Fn:=An PG C_cncref30_SamePulses_0 64 136 YH Wv
theorem Zwo (D G:Int):Qym [I D,I G]=
 cond (decide (0<=G.tmod 4)&&decide (G.tmod 4<(↑[[I D],[I 0],[I (V (0-D))],[I 0]].length:Int))) (cond (decide (0<=G.tmod 4)&&decide (G.tmod 4<(↑[[I 0],[I D],[I 0],[I (V (0-D))]].length:Int))) (some [I (Af (nth .vD (nth [] [[I D],[I 0],[I (V (0-D))],[I 0]] (G.tmod 4).toNat) 0)),I (Af (nth .vD (nth [] [[I 0],[I D],[I 0],[I (V (0-D))]] (G.tmod 4).toNat) 0))]) (none)) (none):=by kernel_rfl
def OI:=Qym
theorem Z2k:Ai PG (C_cncref30_SamePulses_0):=Ao rfl trivial
theorem Zry:Al PG (Zlw OI):=rw1 (C:=C_cncref30_SamePulses_0) Z2k
def Z6p:=qa 135 Qgz Qih
def Qxe:Fn:=An PG C_cncref30_SamePulses_0 64 135 Qgz Qih
theorem Zo5 (D G L M:Int):Qxe [I D,I G,I L,I M]=
 cond (M==17) (some [I D,I G,I L]) (cond (M==18) (some [I L,I D,I G]) (cond (M==19) (some [I G,I L,I D]) (some [I 0,I 0,I 0]))):=by kernel_rfl
def NJ:=Qxe
theorem Z5f:Ai PG (C_cncref30_SamePulses_0):=Ao rfl trivial
theorem Z13:Al PG (Z6p NJ):=rw1 (C:=C_cncref30_SamePulses_0) Z5f
def Qnq:Sk:=⟨[tf [sd 20000 0],TS.v true [ci,ci,ci],tf [ci]],[(20000,95,[sa Aa,ci])],[]⟩
def Xr:Sk:=⟨[TS.v true (cc 13++[sb,ci,sb]++cc 5++[sb])],[(20000,95,[sa Aa,ci])],[]⟩
def Zt1:=qa 85 Qnq Xr
def XD (D LT Nm G:Fn):Cfg:=cp [Zu1 D,Zlw LT,Z6p Nm,Jv G] [41]
def Qik (D LT Nm G:Fn):Fn:=An PG (XD D LT Nm G) 64 85 Qnq Xr
abbrev RZ (Ap Hj:Fn) (U M:List AC) (x0 x1 x2:Int) (G X Y:List AC) (N O S T:AC):Option (List AC):=
 (Ap [I 4,N,O]).bind λD=>
 cond (decide (0<=gA D 0)&&decide (gA D 0<(↑[[I 0],[I 0],[I 7],[I (-12)]].length:Int))) ((Hj [S,T,I (V (gA U 2+Af (nth .vD (nth [] [[I 0],[I 0],[I 7],[I (-12)]] (gA D 0).toNat) 0))),I (Af (nth .vD (nth [] [[I 17],[I 18],[I 19]] (gA M 0).toNat) 0))]).bind λL=>
 some [I 3,I 0,I x0,I x1,I x2,jA L 0,jA L 1,jA L 2,I (Af (nth .vD (nth [] [[I 17],[I 18],[I 19]] (gA M 0).toNat) 0)),jA G 0,jA G 1,jA G 2,I (V (1-V (gA X 0*2))),B (gA Y 0==0),I 0,B false,I 0,I 0,I 0,I 0,I 0,B false, .vC Aa (wA D 1),jA D 2]) (none)
theorem Zyf (Hj LT Nm S:Fn) (x0 x1 x2 x3:Int) (x4:Rw) (x5:Int):Qik Hj LT Nm S [I x0,I x1,I x2,I x3, .vC Aa x4,I x5]=
 (S [I 3, .vC Aa x4,I x5]).bind λG=>
 cond (decide (0<=gA G 0)&&decide (gA G 0<(↑[[I 17],[I 18],[I 19]].length:Int))) ((S [I 2, .vC Aa (wA G 1),jA G 2]).bind λT=>
 (S [I x3, .vC Aa (wA T 1),jA T 2]).bind λM=>
 (S [I 4, .vC Aa (wA M 1),jA M 2]).bind λX=>
 (S [I 4, .vC Aa (wA X 1),jA X 2]).bind λL=>
 (Nm [I x0,I x1,I x2,I (Af (nth .vD (nth [] [[I 17],[I 18],[I 19]] (gA G 0).toNat) 0))]).bind λD=>
 (LT [I (V (8+gA M 0)),jA X 0]).bind λN=>
 (LT [I (V (8+gA M 0)),I (V (gA X 0+gA L 0))]).bind λO=>
 (Hj [I (V (gA D 0-gA N 0)),I (V (gA D 1-gA N 1)),jA D 2,I (Af (nth .vD (nth [] [[I 17],[I 18],[I 19]] (gA G 0).toNat) 0))]).bind λY=>
 cond (decide (gA L 0>0)) ((S [I 3, .vC Aa (wA L 1),jA L 2]).bind λU=>
 cond (gA U 0==0) (cond (decide (V (8+gA M 0)=0)) (none) ((S [I 5, .vC Aa (wA U 1),jA U 2]).bind λa0=>
 cond (decide (V (8+gA M 0)=0)) (none) ((S [I 5, .vC Aa (wA a0 1),jA a0 2]).bind λa1=>
 RZ S Hj D G x0 x1 x2 Y T L (.vC Aa (wA a1 1)) (jA a1 2) (I (V (V (gA D 0-gA N 0)+V (gA O 0+V (V ((gA O 0).tdiv (V (8+gA M 0)))*gA a0 0))))) (I (V (V (gA D 1-gA N 1)+V (gA O 1+V (V ((gA O 1).tdiv (V (8+gA M 0)))*gA a1 0)))))))) (RZ S Hj D G x0 x1 x2 Y T L (.vC Aa (wA U 1)) (jA U 2) (I (V (V (gA D 0-gA N 0)+gA O 0))) (I (V (V (gA D 1-gA N 1)+gA O 1))))) (RZ S Hj D G x0 x1 x2 Y T L (.vC Aa (wA L 1)) (jA L 2) (I (V (V (gA D 0-gA N 0)+gA O 0))) (I (V (V (gA D 1-gA N 1)+gA O 1))))) (none):=by kernel_rfl
def P_:=Qik NZ OI NJ BE
theorem Zcm:Ai PG (XD NZ OI NJ BE):=Ao rfl ⟨Zjy,Zry,Z13,IN,trivial⟩
theorem Z25:Al PG (Zt1 P_):=rw1 (C:=XD NZ OI NJ BE) Zcm
def Zmo:=qa 43 Qnq Xr
def VB (D G:Fn):Cfg:=cp [Jv D,Zt1 G] [41,85]
def Vu (D G:Fn):Fn:=An PG (VB D G) 64 43 Qnq Xr
abbrev Qdr (Ap:Fn) (a9:List AC) (x3:Int) (X Y a0 a1 a2 a3 a4 a5 a6 a7 G L M N O S T U:AC):Option (List AC):=
 (Ap [I 60, .vC Aa (wA a9 1),jA a9 2]).bind λD=>
 cond (x3==6) ((Ap [I 2, .vC Aa (wA D 1),jA D 2]).bind λa8=>
 some [X,Y,a0,a1,a2,a3,a4,a5,a6,a7,G,L,M,N,I (V (1+gA D 0)),B true,O,S,I 0,I (V (3+gA a8 0)),T,U, .vC Aa (wA a8 1),jA a8 2]) (some [X,Y,a0,a1,a2,a3,a4,a5,a6,a7,G,L,M,N,I (V (1+gA D 0)),B true,O,S,I 0,I 0,T,U, .vC Aa (wA D 1),jA D 2])
abbrev Wh (x3:Int) (Ap:Fn) (V X Y a0 a1 a2 a3 a4 a5 a6 D G L M b2 a7 N O b3 a8 S T b0 b1:AC):Option (List AC):=
 cond (x3==1) (some [V,X,Y,a0,a1,a2,a3,a4,a5,a6,D,G,L,M,b2,a7,N,O,b3,a8,S,T,b0,b1]) ((Ap [I 5,b0,b1]).bind λa9=>
 cond (decide (0<=gA a9 0)&&decide (gA a9 0<(↑[[I 300000],[I 1],[I 60000],[I 2000000],[I 60000000]].length:Int))) ((Ap [I 5, .vC Aa (wA a9 1),jA a9 2]).bind λU=>
 cond (decide (0<=gA U 0)&&decide (gA U 0<(↑[[I 0],[I 1],[I 2],[I 4],[I 9]].length:Int))) (cond (x3==5) (Qdr Ap U x3 V X Y a0 a1 a2 a3 a4 a5 a6 D G L M N O S T) (cond (x3==6) (Qdr Ap U x3 V X Y a0 a1 a2 a3 a4 a5 a6 D G L M N O S T) (cond (x3==4) (some [V,X,Y,a0,a1,a2,a3,a4,a5,a6,D,G,L,M,I (Af (nth .vD (nth [] [[I 300000],[I 1],[I 60000],[I 2000000],[I 60000000]] (gA a9 0).toNat) 0)),a7,N,O,I 0,a8,S,T, .vC Aa (wA U 1),jA U 2]) (some [V,X,Y,a0,a1,a2,a3,a4,a5,a6,D,G,L,M,I (Af (nth .vD (nth [] [[I 300000],[I 1],[I 60000],[I 2000000],[I 60000000]] (gA a9 0).toNat) 0)),a7,N,O,I (Af (nth .vD (nth [] [[I 0],[I 1],[I 2],[I 4],[I 9]] (gA U 0).toNat) 0)),a8,S,T, .vC Aa (wA U 1),jA U 2])))) (none)) (none))
theorem Z0q (G O3:Fn) (U X Y T:Int) (x4:Rw) (x5:Int):Vu G O3 [I U,I X,I Y,I T, .vC Aa x4,I x5]=
 cond (T==3) ((O3 [I U,I X,I Y,I 8, .vC Aa x4,I x5]).bind λD=>
 Wh T G (jA D 0) (jA D 1) (jA D 2) (jA D 3) (jA D 4) (jA D 5) (jA D 6) (jA D 7) (jA D 8) (jA D 9) (jA D 10) (jA D 11) (jA D 12) (B (bA D 13)) (jA D 14) (B (bA D 15)) (jA D 16) (jA D 17) (jA D 18) (jA D 19) (jA D 20) (B (bA D 21)) (.vC Aa (wA D 22)) (jA D 23)) ((G [I 25, .vC Aa x4,I x5]).bind λL=>
 (G [I 25, .vC Aa (wA L 1),jA L 2]).bind λM=>
 (G [I 3, .vC Aa (wA M 1),jA M 2]).bind λN=>
 (G [I 9, .vC Aa (wA N 1),jA N 2]).bind λO=>
 (G [I 2, .vC Aa (wA O 1),jA O 2]).bind λS=>
 Wh T G (I T) (I 0) (I U) (I X) (I Y) (I (V (V (U+gA L 0)-12))) (I (V (V (X+gA M 0)-12))) (I (V (V (Y+V (gA N 0*gA O 0))-V (8*gA S 0)))) (I 0) (I 0) (I 0) (I 0) (I 0) (B false) (I 0) (B false) (I 0) (I 0) (I 0) (I 0) (I 0) (B false) (.vC Aa (wA S 1)) (jA S 2)):=by kernel_rfl
def KO:=Vu BE P_
theorem Zre:Ai PG (VB BE P_):=Ao rfl ⟨IN,Z25,trivial⟩
theorem Zox:Al PG (Zmo KO):=rw1 (C:=VB BE P_) Zre
def Z6n:=qa 62 Qk8 Xr
def Qgk (D:Fn):Cfg:=cp [Jv D] [41]
def Yt (D:Fn):Fn:=An PG (Qgk D) 64 62 Qk8 Xr
abbrev Qoa (L:Fn) (o8:List AC):Option (List AC):=
 (L [I 16, .vC Aa (wA o8 1),jA o8 2]).bind λG=>
 (L [I 2, .vC Aa (wA G 1),jA G 2]).bind λD=>
 some [I 10,I 0,I 0,I 0,I 0,I 0,I 0,I 0,I 0,I 0,I 0,I 0,I 0,B false,I 0,B false,I 0,I 0,I 0,jA G 0,I 0,B (gA D 0==0), .vC Aa (wA D 1),jA D 2]
theorem Zjt (D:Fn) (N:Rw) (O:Int):Yt D [.vC Aa N,I O]=
 (D [I 8, .vC Aa N,I O]).bind λo8=>
 cond (gA o8 0==0) (Qoa D o8) (cond (gA o8 0==1) (Qoa D o8) (cond (gA o8 0==2) ((D [I 5, .vC Aa (wA o8 1),jA o8 2]).bind λG=>
 some [I 7,I 0,I 0,I 0,I 0,I 0,I 0,I 0,I 0,I 0,I 0,I 0,I 0,B false,I 0,B false,I 0,I 0,I 0,jA G 0,I 0,B false, .vC Aa (wA G 1),jA G 2]) (cond (gA o8 0==3) ((D [I 3, .vC Aa (wA o8 1),jA o8 2]).bind λL=>
 (D [I 4000, .vC Aa (wA L 1),jA L 2]).bind λM=>
 some [I 8,I 0,I 0,I 0,I 0,I 0,I 0,I 0,I 0,I 0,I 0,I 0,I 0,B false,I 0,B false,I 0,I 0,I 0,I (V (3+gA L 0)),jA M 0,B false, .vC Aa (wA M 1),jA M 2]) (cond (gA o8 0==4) (some [I 9,I 0,I 0,I 0,I 0,I 0,I 0,I 0,I 0,I 0,I 0,I 0,I 0,B false,I 0,B false,I 0,I 0,I 0,I 8,I 0,B true, .vC Aa (wA o8 1),jA o8 2]) (cond (gA o8 0==5) (some [I 13,I 0,I 0,I 0,I 0,I 0,I 0,I 0,I 0,I 0,I 0,I 0,I 0,B false,I 0,B false,I 0,I 0,I 0,I 0,I 0,B false, .vC Aa (wA o8 1),jA o8 2]) (cond (gA o8 0==6) (some [I 12,I 0,I 0,I 0,I 0,I 0,I 0,I 0,I 0,I 0,I 0,I 0,I 0,B false,I 0,B false,I 0,I 0,I 0,I 0,I 0,B false, .vC Aa (wA o8 1),jA o8 2]) (some [I 11,I 0,I 0,I 0,I 0,I 0,I 0,I 0,I 0,I 0,I 0,I 0,I 0,B false,I 0,B false,I 0,I 0,I 0,I 1,I 0,B false, .vC Aa (wA o8 1),jA o8 2]))))))):=by kernel_rfl
def LI:=Yt BE
theorem Ya4:Ai PG (Qgk BE):=Ao rfl ⟨IN,trivial⟩
theorem Zsq:Al PG (Z6n LI):=rw1 (C:=Qgk BE) Ya4
def Qhg:Sk:=⟨[tf [sa Aa],tf [ci],tf [sb]],[],[]⟩
def Qll:Sk:=⟨[tf [se 8 22]],[],[(8,31,Ah)]⟩
def Z6j:=qa 22 Qhg Qll
def Qk9 (D Hd G I L:Fn):Cfg:={cp [Zmo D,Z6n Hd,Quz G,Jv I,QZ L] [43,62,42,41,40]with ownRes:=true,prom:=λb=>cond (Nat.beq b 4) ([(8,31)]) ([])}
def Qwm:Sk:=⟨[td,tf [ci],tf [sb],td,td,td,td,tf [sd 101300 0],tf [se 8 22],tf [sd 9 0]]++dd 64,[(9,29,[ci,ci,ci]),(101300,95,[sa Aa,ci])],[(8,31,Ah)]⟩
def Qrf:List (Ex×Sk):=[(Ex.exit 0,⟨[td,td,tf [sb],td,td,td,td,td,tf [se 8 22]]++dd 65,[],[(8,31,Ah)]⟩)]
def Qpz (D Hd G I L:Fn):Lp:=AL PG (Qk9 D Hd G I L) 64 4 (AN PG 22 4) Qwm Qrf
def Za8 (D Hd G I L:Fn) (M:Lp):Cfg:=(Qk9 D Hd G I L).loop 4 Qwm Qrf M
def Qqd (D Hd G I L:Fn) (M:Lp):Fn:=An PG (Za8 D Hd G I L M) 64 22 Qhg Qll
theorem Z3p (Gl Hd CK X A5:Fn) (M:Rw) (U:Int) (T:Bool) (Y v4 v5:Int) (v6:Rw) (v7:Int):Qpz Gl Hd CK X A5 [.vC Ah M,I U,B T,I Y,I v4,I v5, .vC Aa v6,I v7]=
 cond (decide ((M.length:Int)<U)) ((CK [.vC Aa v6,I v7]).bind λS=>
 cond (bA S 0) ((X [I 12, .vC Aa (wA S 1),jA S 2]).bind λL=>
 cond (decide (gA L 0<4)) ((Hd [.vC Aa (wA L 1),jA L 2]).bind λG=>
 cond (((M++[[jA G 0,jA G 1,jA G 2,jA G 3,jA G 4,jA G 5,jA G 6,jA G 7,jA G 8,jA G 9,jA G 10,jA G 11,jA G 12,B (bA G 13),jA G 14,B (bA G 15),jA G 16,jA G 17,jA G 18,jA G 19,jA G 20,B (bA G 21)]]).length*176).ble 140737488355328) (some (0,[.vC Ah (M++[[jA G 0,jA G 1,jA G 2,jA G 3,jA G 4,jA G 5,jA G 6,jA G 7,jA G 8,jA G 9,jA G 10,jA G 11,jA G 12,B (bA G 13),jA G 14,B (bA G 15),jA G 16,jA G 17,jA G 18,jA G 19,jA G 20,B (bA G 21)]]),I U,B T,I Y,I v4,I v5, .vC Aa (wA G 22),jA G 23])) (none)) (cond (decide (0<=V (gA L 0-4))&&decide (V (gA L 0-4)<(↑[[I 2],[I 2],[I 2],[I 3],[I 1],[I 6],[I 5],[I 4]].length:Int))) ((Gl [I Y,I v4,I v5,I (Af (nth .vD (nth [] [[I 2],[I 2],[I 2],[I 3],[I 1],[I 6],[I 5],[I 4]] (V (gA L 0-4)).toNat) 0)), .vC Aa (wA L 1),jA L 2]).bind λD=>
 cond (gA D 0==5) ((X [I 2, .vC Aa (wA D 22),jA D 23]).bind λN=>
 (X [I 3000, .vC Aa (wA N 1),jA N 2]).bind λO=>
 cond (((M++[[I 8,I 0,I 0,I 0,I 0,I 0,I 0,I 0,I 0,I 0,I 0,I 0,I 0,B false,I 0,B false,I 0,I 0,I 0,I (V (3+gA N 0)),I (V (200+gA O 0)),B false]]).length*176).ble 140737488355328) (cond (((M++[[I 8,I 0,I 0,I 0,I 0,I 0,I 0,I 0,I 0,I 0,I 0,I 0,I 0,B false,I 0,B false,I 0,I 0,I 0,I (V (3+gA N 0)),I (V (200+gA O 0)),B false]]++[[jA D 0,jA D 1,jA D 2,jA D 3,jA D 4,jA D 5,jA D 6,jA D 7,jA D 8,jA D 9,jA D 10,jA D 11,jA D 12,B (bA D 13),jA D 14,B (bA D 15),jA D 16,jA D 17,jA D 18,jA D 19,jA D 20,B (bA D 21)]]).length*176).ble 140737488355328) (some (0,[.vC Ah (M++[[I 8,I 0,I 0,I 0,I 0,I 0,I 0,I 0,I 0,I 0,I 0,I 0,I 0,B false,I 0,B false,I 0,I 0,I 0,I (V (3+gA N 0)),I (V (200+gA O 0)),B false]]++[[jA D 0,jA D 1,jA D 2,jA D 3,jA D 4,jA D 5,jA D 6,jA D 7,jA D 8,jA D 9,jA D 10,jA D 11,jA D 12,B (bA D 13),jA D 14,B (bA D 15),jA D 16,jA D 17,jA D 18,jA D 19,jA D 20,B (bA D 21)]]),I U,B T,jA D 5,jA D 6,jA D 7, .vC Aa (wA O 1),jA O 2])) (none)) (none)) (cond (((M++[[jA D 0,jA D 1,jA D 2,jA D 3,jA D 4,jA D 5,jA D 6,jA D 7,jA D 8,jA D 9,jA D 10,jA D 11,jA D 12,B (bA D 13),jA D 14,B (bA D 15),jA D 16,jA D 17,jA D 18,jA D 19,jA D 20,B (bA D 21)]]).length*176).ble 140737488355328) (some (0,[.vC Ah (M++[[jA D 0,jA D 1,jA D 2,jA D 3,jA D 4,jA D 5,jA D 6,jA D 7,jA D 8,jA D 9,jA D 10,jA D 11,jA D 12,B (bA D 13),jA D 14,B (bA D 15),jA D 16,jA D 17,jA D 18,jA D 19,jA D 20,B (bA D 21)]]),I U,B T,jA D 5,jA D 6,jA D 7, .vC Aa (wA D 22),jA D 23])) (none))) (none))) (some (1,[.vC Ah M,B T]))) (some (1,[.vC Ah M,B T])):=by kernel_rfl
theorem Zs4 (Gl Hd CK O S:Fn) (T:Lp) (U:Rw) (X:Int) (Y:Bool):Qqd Gl Hd CK O S T [.vC Aa U,I X,B Y]=
 (S [.vC Aa U]).bind λN=>
 (O [I 9, .vC Aa (wA N 0),jA N 1]).bind λG=>
 (O [I 9, .vC Aa (wA G 1),jA G 2]).bind λL=>
 (O [I 9, .vC Aa (wA L 1),jA L 2]).bind λM=>
 (T [.vC Ah [],I X,B Y,I (V (gA G 0-4)),I (V (gA L 0-4)),I (V (gA M 0-4)), .vC Aa (wA M 1),jA M 2]).bind λD=>
 cond (D.1.beq 1) (cond (bA D.2 1) (cond (((wA D.2 0++[[I 14,I 0,I 0,I 0,I 0,I 0,I 0,I 0,I 0,I 0,I 0,I 0,I 0,B false,I 0,B false,I 0,I 0,I 0,I 0,I 0,B false]]).length*176).ble 140737488355328) (some [.vC Ah (wA D.2 0++[[I 14,I 0,I 0,I 0,I 0,I 0,I 0,I 0,I 0,I 0,I 0,I 0,I 0,B false,I 0,B false,I 0,I 0,I 0,I 0,I 0,B false]])]) (none)) (some [.vC Ah (wA D.2 0)])) (none):=by kernel_rfl
def Qbt:=Am (Qpz KO LI FW BE Cu)
def Ot:=Qqd KO LI FW BE Cu Qbt
theorem Q1w:Ai PG (Qk9 KO LI FW BE Cu):=Ao rfl ⟨Zox,Zsq,Q80,IN,QL,trivial⟩
theorem Zxq:Al PG (Z6j Ot):=rw2 (C:=Za8 KO LI FW BE Cu Qbt) (fl fb Q1w) Q1w
def Zc6:=qa 45 Qfp ZP
def Qdh (D G:Fn):Cfg:=cp [Jv D,QZ G] [41,40]
def Vf (D G:Fn):Fn:=An PG (Qdh D G) 64 45 Qfp ZP
theorem Zy7 (D L:Fn) (M:Rw):Vf D L [.vC Aa M]=
 (L [.vC Aa M]).bind λo4=>
 (D [I 900, .vC Aa (wA o4 0),jA o4 1]).bind λG=>
 (D [I 200, .vC Aa (wA G 1),jA G 2]).bind λo6=>
 (D [I 16000, .vC Aa (wA o6 1),jA o6 2]).bind λN=>
 some [I (V (1+gA G 0)),I (V (2+gA o6 0)),I (V (1+gA N 0))]:=by kernel_rfl
def Rq:=Vf BE Cu
theorem Zcq:Ai PG (Qdh BE Cu):=Ao rfl ⟨IN,QL,trivial⟩
theorem Zv5:Al PG (Zc6 Rq):=rw1 (C:=Qdh BE Cu) Zcq
def VS:Sk:=⟨[TS.v true (cc 9++[sa Aa])],[(20000,95,[sa Aa,ci])],[]⟩
def Zke:=qa 86 Qk8 VS
def Xq (D:Fn):Cfg:={spec:=F8 [Jv D],eqOk:=J0,pure:=λf=> !(AH [41] f),ownOff:=Zsm}
def Qsi:Sk:=⟨[tf [sd 20000 0],td,tf [sd 2 0],tf [sd 3 0],tf [ci],tf [ci],tf [ci]]++dd 72,[(2,33,cc 9++[se 1002009 1]),(3,33,cc 9++[se 1003009 1]),(20000,95,[sa Aa,ci])],[(1002009,3,Aa),(1003009,3,Aa)]⟩
def Q0f:List (Ex×Sk):=[(Ex.exit 0,⟨[td,td,tf [sd 2 0],tf [sd 3 0]]++dd 75,[(2,33,cc 9++[se 1002009 1]),(3,33,cc 9++[se 1003009 1]),(20000,95,[sa Aa,ci])],[(1002009,3,Aa),(1003009,3,Aa)]⟩)]
def RP (D:Fn):Lp:=AL PG (Xq D) 64 11 (AN PG 86 11) Qsi Q0f
def Qsh (G:Fn) (D:Lp):Cfg:=(Xq G).loop 11 Qsi Q0f D
def Vw (G:Fn) (D:Lp):Fn:=An PG (Qsh G D) 64 86 Qk8 VS
theorem Q6u (Ap:Fn) (v0 X:Rw) (v2 Y v4 v5 v6 v7 v8 v9 v10 v11 v12 D G L M N O S v20 v21 v22:Int) (T:Rw) (v24:Int):RP Ap [.vC Aa v0, .vC Aa X,I v2,I Y,I v4,I v5,I v6,I v7,I v8,I v9,I v10,I v11,I v12,I D,I G,I L,I M,I N,I O,I S,I v20,I v21,I v22, .vC Aa T,I v24]=
 cond (decide (v4<v2)) (cond (((X++[[I Y]]).length*8).ble 140737488355328) ((Ap [I (V (V (2*V (v22.tdiv 4))+1)), .vC Aa T,I v24]).bind λU=>
 some (0,[.vC Aa v0, .vC Aa (X++[[I Y]]),I v2,I (mn (mx (V (V (Y+gA U 0)-V (v22.tdiv 4))) (-4096)) 4096),I (V (v4+1)),I v5,I v6,I v7,I v8,I v9,I v10,I v11,I v12,I D,I G,I L,I M,I N,I O,I S,I v20,I v21,I v22, .vC Aa (wA U 1),jA U 2])) (none)) (some (1,[.vC Aa v0, .vC Aa X,I v5,I v6,I v7,I v8,I v9,I v10,I v11,I v12,I D,I G,I L,I M,I N,I O,I S,I v20,I v21,I v22, .vC Aa T,I v24])):=by kernel_rfl
theorem Zfy (T:Fn) (a0:Lp) (x0:Rw) (x1:Int):Vw T a0 [.vC Aa x0,I x1]=
 (T [I 6, .vC Aa x0,I x1]).bind λG=>
 cond (decide (0<=gA G 0)&&decide (gA G 0<(↑[[I 8],[I 4],[I 5],[I 16],[I 23],[I 64]].length:Int))) ((T [I 4, .vC Aa (wA G 1),jA G 2]).bind λL=>
 cond (decide (0<=gA L 0)&&decide (gA L 0<(↑[[I 0],[I 1],[I 3],[I 6]].length:Int))) ((T [I 5, .vC Aa (wA L 1),jA L 2]).bind λM=>
 cond (decide (0<=gA M 0)&&decide (gA M 0<(↑[[I 40],[I 1],[I 3],[I 9],[I 1000]].length:Int))) ((T [I 5, .vC Aa (wA M 1),jA M 2]).bind λN=>
 cond (decide (0<=gA N 0)&&decide (gA N 0<(↑[[I 20],[I 2],[I 3],[I 5],[I 1000]].length:Int))) ((T [I 5, .vC Aa (wA N 1),jA N 2]).bind λO=>
 cond (decide (0<=gA O 0)&&decide (gA O 0<(↑[[I 30],[I 4],[I 5],[I 8],[I 1000]].length:Int))) ((T [I 5, .vC Aa (wA O 1),jA O 2]).bind λS=>
 cond (gA S 0==0) (some [I (Af (nth .vD (nth [] [[I 8],[I 4],[I 5],[I 16],[I 23],[I 64]] (gA G 0).toNat) 0)),I (Af (nth .vD (nth [] [[I 40],[I 1],[I 3],[I 9],[I 1000]] (gA M 0).toNat) 0)),I (Af (nth .vD (nth [] [[I 20],[I 2],[I 3],[I 5],[I 1000]] (gA N 0).toNat) 0)),I (Af (nth .vD (nth [] [[I 30],[I 4],[I 5],[I 8],[I 1000]] (gA O 0).toNat) 0)),I (-16777216),I 16777216,I (Af (nth .vD (nth [] [[I 0],[I 1],[I 3],[I 6]] (gA L 0).toNat) 0)),I 0,I 0, .vC Aa [], .vC Aa (wA S 1),jA S 2]) ((T [I 400, .vC Aa (wA S 1),jA S 2]).bind λU=>
 (T [I 120, .vC Aa (wA U 1),jA U 2]).bind λX=>
 (T [I 9, .vC Aa (wA X 1),jA X 2]).bind λY=>
 (a0 [.vC Aa [], .vC Aa [],jA S 0,I (V (gA Y 0-4)),I 0,I 0,I 0,I 0,I 0,I 0,I 0,I 0,I 0,I 0,I (Af (nth .vD (nth [] [[I 8],[I 4],[I 5],[I 16],[I 23],[I 64]] (gA G 0).toNat) 0)),I (Af (nth .vD (nth [] [[I 40],[I 1],[I 3],[I 9],[I 1000]] (gA M 0).toNat) 0)),I (Af (nth .vD (nth [] [[I 20],[I 2],[I 3],[I 5],[I 1000]] (gA N 0).toNat) 0)),I (Af (nth .vD (nth [] [[I 30],[I 4],[I 5],[I 8],[I 1000]] (gA O 0).toNat) 0)),I (-16777216),I 16777216,I (Af (nth .vD (nth [] [[I 0],[I 1],[I 3],[I 6]] (gA L 0).toNat) 0)),I (V (gA U 0-200)),I (V (4+gA X 0)), .vC Aa (wA Y 1),jA Y 2]).bind λD=>
 cond (D.1.beq 1) (some [jA D.2 11,jA D.2 12,jA D.2 13,jA D.2 14,jA D.2 15,jA D.2 16,jA D.2 17,jA D.2 18,jA D.2 19, .vC Aa (wA D.2 1), .vC Aa (wA D.2 20),jA D.2 21]) (none))) (none)) (none)) (none)) (none)) (none):=by kernel_rfl
def Qo8:=Am (RP BE)
def Mx:=Vw BE Qo8
theorem Qvj:Ai PG (Xq BE):=Ao rfl ⟨IN,trivial⟩
theorem Z56:Al PG (Zke Mx):=rw2 (C:=Qsh BE Qo8) (fl fb Qvj) Qvj
def Qjy:Sk:=⟨[TS.v true (cc 9++[sa Aa]++cc 9++[sa Aa]++cc 9++[sa Aa])],[],[]⟩
def Z4a:=qa 44 Qfp Qjy
def Qdf (D G:Fn):Cfg:=cp [Zke D,QZ G] [86,40]
def Qxy (D G:Fn):Fn:=An PG (Qdf D G) 64 44 Qfp Qjy
theorem Z9u (I L:Fn) (M:Rw):Qxy I L [.vC Aa M]=
 (L [.vC Aa M]).bind λo4=>
 (I [.vC Aa (wA o4 0),jA o4 1]).bind λD=>
 (I [.vC Aa (wA D 10),jA D 11]).bind λo6=>
 (I [.vC Aa (wA o6 10),jA o6 11]).bind λG=>
 some [jA D 0,jA D 1,jA D 2,jA D 3,jA D 4,jA D 5,jA D 6,jA D 7,jA D 8, .vC Aa (wA D 9),jA o6 0,jA o6 1,jA o6 2,jA o6 3,jA o6 4,jA o6 5,jA o6 6,jA o6 7,jA o6 8, .vC Aa (wA o6 9),jA G 0,jA G 1,jA G 2,jA G 3,jA G 4,jA G 5,jA G 6,jA G 7,jA G 8, .vC Aa (wA G 9)]:=by kernel_rfl
def N_:=Qxy Mx Cu
theorem Z79:Ai PG (Qdf Mx Cu):=Ao rfl ⟨Z56,QL,trivial⟩
theorem Zql:Al PG (Z4a N_):=rw1 (C:=Qdf Mx Cu) Z79
def Qqx:Sk:=⟨[tf [sa Aa],tf [sa Aa]],[],[]⟩
def Zlc:=qa 14 Qqx Wa
def V4 (D G I L:Fn):Cfg:=cp [Jv D,Zc6 G,Z4a I,QZ L] [41,40]
def XP (D G I L:Fn):Fn:=An PG (V4 D G I L) 64 14 Qqx Wa
theorem Zyu (G M N O:Fn) (S D:Rw):XP G M N O [.vC Aa S, .vC Aa D]=
 (O [.vC Aa D]).bind λT=>
 (N [.vC Aa S]).bind λo6=>
 (M [.vC Aa D]).bind λL=>
 (G [I 60000, .vC Aa (wA T 0),I (mn 3 (D.length:Int))]).bind λo8=>
 (G [I 40, .vC Aa (wA o8 1),jA o8 2]).bind λU=>
 some [jA o6 0,jA o6 1,jA o6 2,jA o6 3,jA o6 4,jA o6 5,jA o6 6,jA o6 7,jA o6 8, .vC Aa (wA o6 9),jA o6 10,jA o6 11,jA o6 12,jA o6 13,jA o6 14,jA o6 15,jA o6 16,jA o6 17,jA o6 18, .vC Aa (wA o6 19),jA o6 20,jA o6 21,jA o6 22,jA o6 23,jA o6 24,jA o6 25,jA o6 26,jA o6 27,jA o6 28, .vC Aa (wA o6 29),jA L 0,jA L 1,jA L 2,I (V (1+gA o8 0)),jA U 0]:=by kernel_rfl
def Qj:=XP BE Rq N_ Cu
theorem Zz4:Ai PG (V4 BE Rq N_ Cu):=Ao rfl ⟨IN,Zv5,Zql,QL,trivial⟩
theorem Z7k:Al PG (Zlc Qj):=rw1 (C:=V4 BE Rq N_ Cu) Zz4
def Qc6:Sk:=⟨[tf [sa [Kd.sl Aa]]],[],[]⟩
def Z8e:=qa 39 Qc6 Qhz
def Qz4:Sk:=⟨[td,td,td,td,td,tf [sa [Kd.sl Aa]],tf [ci],tf [ci]]++dd 7,[],[]⟩
def Qud:List (Ex×Sk):=[(Ex.ret,⟨[td,td,tf [sb]]++dd 12,[],[]⟩),(Ex.exit 0,⟨[td]++dd 14,[],[]⟩)]
def S5:Lp:=AL PG C_cncref30_SamePulses_0 64 2 (AN PG 39 2) Qz4 Qud
def Q5n (D:Lp):Cfg:=C_cncref30_SamePulses_0.loop 2 Qz4 Qud D
def VW (D:Lp):Fn:=An PG (Q5n D) 64 39 Qc6 Qhz
theorem Zzs (G:Rw) (L D:Int):S5 [.vC [Kd.sl Aa] G,I L,I D]=
 cond (decide (D<L)) (cond (decide (0<=D)&&decide (D<(G.length:Int))) (cond (decide ((↑(wA (nth [] G D.toNat) 0).length:Int)>60)) (some (1,[B false])) (some (0,[.vC [Kd.sl Aa] G,I L,I (V (D+1))]))) (none)) (some (2,[])):=by kernel_rfl
theorem Zyt (G:Lp) (D:Rw):VW G [.vC [Kd.sl Aa] D]=
 (G [.vC [Kd.sl Aa] D,I (D.length:Int),I 0]).bind λo1=>
 cond (o1.1.beq 1) (some [B (bA o1.2 0)]) (cond (o1.1.beq 2) (some [B true]) (none)):=by kernel_rfl
def Q90:=Am (S5)
def Kz:=VW Q90
theorem Zbb:Ai PG (C_cncref30_SamePulses_0):=Ao rfl trivial
theorem Zjn:Al PG (Z8e Kz):=rw2 (C:=Q5n Q90) (fl fb Zbb) Zbb
def Qc5:Sk:=⟨[tf [sa [Kd.sl kPt,Kd.sl Aa,kI,kI,kI,kI,kI,kI,kI]]],[],[]⟩
def Z9q:=qa 19 Qc5 Qhz
def YL:Fn:=An PG C_cncref30_SamePulses_0 64 19 Qc5 Qhz
theorem Zt5 (D:Rw):YL [.vC [Kd.sl kPt,Kd.sl Aa,kI,kI,kI,kI,kI,kI,kI] D]=
 cond (decide ((D.length:Int)>0)) (cond (decide (0<=V ((D.length:Int)-1))&&decide (V ((D.length:Int)-1)<(D.length:Int))) (some [B (gA (nth [] D (V ((D.length:Int)-1)).toNat) 2==7)]) (none)) (some [B false]):=by kernel_rfl
def P0:=YL
theorem Zw7:Ai PG (C_cncref30_SamePulses_0):=Ao rfl trivial
theorem Zp2:Al PG (Z9q P0):=rw1 (C:=C_cncref30_SamePulses_0) Zw7
def Zf4:=qa 26 Qc5 ZQ
def C_report_Pulses_0:Cfg:={cf []with prom:=λb=>cond (Nat.beq b 3) ([(3,125)]) ([])}
def Qvh:Sk:=⟨[td,td,td,tf [se 3 3],td,td,tf [sa [Kd.sl kPt,Kd.sl Aa,kI,kI,kI,kI,kI,kI,kI]],tf [ci],tf [ci]]++dd 9,[],[(3,125,kPt)]⟩
def Q5e:List (Ex×Sk):=[(Ex.exit 0,⟨[td,td,td,tf [se 3 3]]++dd 14,[],[(3,125,kPt)]⟩)]
def OB:Lp:=AL PG C_report_Pulses_0 64 3 (AN PG 26 3) Qvh Q5e
def Q93 (D:Lp):Cfg:=C_report_Pulses_0.loop 3 Qvh Q5e D
def Ya (D:Lp):Fn:=An PG (Q93 D) 64 26 Qc5 ZQ
theorem Q2f (L G:Rw) (M D:Int):OB [.vC kPt L, .vC [Kd.sl kPt,Kd.sl Aa,kI,kI,kI,kI,kI,kI,kI] G,I M,I D]=
 cond (decide (D<M)) (cond (decide (0<=D)&&decide (D<(G.length:Int))) (cond (((L++wA (nth [] G D.toNat) 0).length*24).ble 140737488355328) (some (0,[.vC kPt (L++wA (nth [] G D.toNat) 0), .vC [Kd.sl kPt,Kd.sl Aa,kI,kI,kI,kI,kI,kI,kI] G,I M,I (V (D+1))])) (none)) (none)) (some (1,[.vC kPt L])):=by kernel_rfl
theorem Zqk (G:Lp) (D:Rw):Ya G [.vC [Kd.sl kPt,Kd.sl Aa,kI,kI,kI,kI,kI,kI,kI] D]=
 (G [.vC kPt [], .vC [Kd.sl kPt,Kd.sl Aa,kI,kI,kI,kI,kI,kI,kI] D,I (D.length:Int),I 0]).bind λo1=>
 cond (o1.1.beq 1) (some [.vC kPt (wA o1.2 0)]) (none):=by kernel_rfl
def Q38:=Am (OB)
def QE:=Ya Q38
theorem Q95:Ai PG (C_report_Pulses_0):=Ao rfl trivial
theorem Z1o:Al PG (Zf4 QE):=rw2 (C:=Q93 Q38) (fl fb Q95) Q95
def Zku:=qa 25 ZQ ZQ
def C_cncmill_Calm_0:Cfg:={cf []with prom:=λb=>cond (Nat.beq b 3) ([(3,65)]) ([])}
def Qsr:Sk:=⟨[td,td,td,tf [se 3 3],td,td,tf [sa kPt],tf [ci],tf [ci]]++dd 12,[],[(3,65,kPt)]⟩
def Qsy:List (Ex×Sk):=[(Ex.exit 0,⟨[td,td,td,tf [se 3 3]]++dd 17,[],[(3,65,kPt)]⟩)]
def Ty:Lp:=AL PG C_cncmill_Calm_0 64 3 (AN PG 25 3) Qsr Qsy
def Qr2 (D:Lp):Cfg:=C_cncmill_Calm_0.loop 3 Qsr Qsy D
def XT (D:Lp):Fn:=An PG (Qr2 D) 64 25 ZQ ZQ
theorem Zxp (L G:Rw) (M D:Int):Ty [.vC kPt L, .vC kPt G,I M,I D]=
 cond (decide (D<M)) (cond (decide (0<=D)&&decide (D<(G.length:Int))) (cond (decide (gA (nth [] G D.toNat) 1<=6)) (cond (((L++[[jA (nth [] G D.toNat) 0,jA (nth [] G D.toNat) 1,jA (nth [] G D.toNat) 2]]).length*24).ble 140737488355328) (some (0,[.vC kPt (L++[[jA (nth [] G D.toNat) 0,jA (nth [] G D.toNat) 1,jA (nth [] G D.toNat) 2]]), .vC kPt G,I M,I (V (D+1))])) (none)) (some (0,[.vC kPt L, .vC kPt G,I M,I (V (D+1))]))) (none)) (some (1,[.vC kPt L])):=by kernel_rfl
theorem Z6c (G:Lp) (D:Rw):XT G [.vC kPt D]=
 (G [.vC kPt [], .vC kPt D,I (D.length:Int),I 0]).bind λo1=>
 cond (o1.1.beq 1) (some [.vC kPt (wA o1.2 0)]) (none):=by kernel_rfl
def Q32:=Am (Ty)
def Qe:=XT Q32
theorem Qzj:Ai PG (C_cncmill_Calm_0):=Ao rfl trivial
theorem Zje:Al PG (Zku Qe):=rw2 (C:=Qr2 Q32) (fl fb Qzj) Qzj
attribute [go_sem] Z96 NK Jz Qpm Qe9 Qck Xv Qv T6 R4 R6 SO Qaq QX YM Qhm Qgd Qdc K6 QU PH Rc RZ Qdr Wh Qoa
end Go.Bm
