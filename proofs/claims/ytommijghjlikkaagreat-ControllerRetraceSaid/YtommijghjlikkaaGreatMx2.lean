/- functions of the program and of the references, as models -/
import Derived.Test.YtommijghjlikkaaGreatMx1
set_option linter.unusedSimpArgs false
set_option linter.unusedVariables false
set_option maxRecDepth 100000
noncomputable section
open Go.IntKind (wrap)
namespace Go.Bm
open Go.Proofs
def Yaw:=qa 99 Qeo Qmq
def Qi6 (E G I:Fn):Cfg:=cr [Z6n E,Tn G,QD I] [63] [63]
def Qlc (E G I:Fn):Fn:=An PG (Qi6 E G I) 64 99 Qeo Qmq
abbrev Sl (O:Int) (S:Fn) (c:Cv) (K:Kf) (E:List AC) (G:AC):Option (List AC):=
 cond (decide (V (O.tdiv 1048576)=(↑0:Int))) ((S [I c.g0,I c.g1,I c.g2,I K.lag,jA E 0,jA E 1,jA E 2,G,jA E 1,jA E 2]).bind λJ=>
 some (Ab K {c with g0:=gA J 0,g1:=gA J 1,g2:=gA J 2})) (cond (decide (V (O.tdiv 1048576)=(↑(0+1):Int))) ((S [I c.g0,I c.g1,I c.g2,I K.lag,jA E 0,jA E 1,jA E 2,jA E 0,G,jA E 2]).bind λM=>
 some (Ab K {c with g0:=gA M 0,g1:=gA M 1,g2:=gA M 2})) (cond (decide (V (O.tdiv 1048576)=(↑(0+1+1):Int))) ((S [I c.g0,I c.g1,I c.g2,I K.lag,jA E 0,jA E 1,jA E 2,jA E 0,jA E 1,G]).bind λN=>
 some (Ab K {c with g0:=gA N 0,g1:=gA N 1,g2:=gA N 2})) (none)))
theorem Zvz (J N O:Fn) (G:Int) (K:Kf) (c:Cv):Qlc J N O (I G::Ab K c)=
 cond (decide (G<0)) (some (Ab K c)) (cond (decide (V (G.tdiv 1048576)>2)) (some (Ab K c)) ((O (Ab K c)).bind λM=>
 (N (pxt K.p K.x K.t [jA M 0])).bind λE=>
 cond (decide (V (G.tdiv 1048576)=(↑0:Int))) (Sl G J c K E (I (V (gA E 0-G.tmod 1048576)))) (cond (decide (V (G.tdiv 1048576)=(↑(0+1):Int))) (Sl G J c K E (I (V (gA E 1-G.tmod 1048576)))) (cond (decide (V (G.tdiv 1048576)=(↑(0+1+1):Int))) (Sl G J c K E (I (V (gA E 2-G.tmod 1048576)))) (none))))):=by kernel_rfl
def JH:=Qlc Oy EB Dm
theorem Z2u:Ai PG (Qi6 Oy EB Dm):=Hf (rs:=[63]) rfl ⟨Zsf,Vs,QH,trivial⟩ rfl (CK rfl (CK rfl (Fj Hx)))
theorem Zlw:Am PG (Yaw JH):=rw1 (C:=Qi6 Oy EB Dm) Z2u
def Qay:Sk:=⟨[],[],[]⟩
def Qtq:=qa 56 Qay Qbn
def Qg:Fn:=An PG Qcv 64 56 Qay Qbn
theorem XQ:Qg []=
 some [I 0,I 0,I (-1)]:=by kernel_rfl
def Kx:=Qg
theorem Qyr:Am PG (Qtq Kx):=rw1 (C:=Qcv) Zft
def Zq2:=qa 144 Qgg Qbn
def YV:Fn:=An PG Qcv 64 144 Qgg Qbn
theorem Ztz (G E J M N:Int):YV [I G,I E,I J,I M,I N]=
 cond (G==2) (some [I G,I E,I J]) (cond (E==0) (some [I 1,I M,I N]) (some [I 1,I E,I J])):=by kernel_rfl
def Q8:=YV
theorem Zw7:Am PG (Zq2 Q8):=rw1 (C:=Qcv) Zft
def Qds:Sk:=⟨[TS.v true [ci,ci,ci],TS.v true [ci,ci,ci]],[],[]⟩
def Znf:=qa 98 Qds Qbn
def Qm7 (E LE:Fn):Cfg:=cf [Qtq E,Zq2 LE]
def Qhh (E LE:Fn):Fn:=An PG (Qm7 E LE) 64 98 Qds Qbn
theorem Zi8 (S LE:Fn) (E G J T M N:Int):Qhh S LE [I E,I G,I J,I T,I M,I N]=
 cond (M==10) (some [I 2,I 22,I (-1)]) (cond (M==9) ((LE [I E,I G,I J,I 21,I (-1)]).bind λo3=>
 some [jA o3 0,jA o3 1,jA o3 2]) (cond (M==8) (cond (decide (N>=0)) (cond (decide (N<=2)) ((LE [I E,I G,I J,I 20,I N]).bind λo4=>
 some [jA o4 0,jA o4 1,jA o4 2]) (some [I E,I G,I J])) (some [I E,I G,I J])) (cond (M==11) ((S []).bind λO=>
 some [jA O 0,jA O 1,jA O 2]) (some [I E,I G,I J])))):=by kernel_rfl
def Vp:=Qhh Kx Q8
theorem Zq1:Ai PG (Qm7 Kx Q8):=Ap rfl ⟨Qyr,Zw7,trivial⟩
theorem Z0r:Am PG (Znf Vp):=rw1 (C:=Qm7 Kx Q8) Zq1
def Qrq:Sk:=⟨[tf [sb],tf [ci]],[],[]⟩
def Zn4:=qa 143 Qrq Qqn
def Zp:Fn:=An PG Qcv 64 143 Qrq Qqn
theorem Zjd (G:Bool) (E:Int):Zp [B G,I E]=
 cond (E==0) (some [B false]) (cond (E==1) (some [B true]) (some [B G])):=by kernel_rfl
def Qk:=Zp
theorem Zny:Am PG (Zn4 Qk):=rw1 (C:=Qcv) Zft
def Qoz:Sk:=⟨[TS.v true [ci,ci,sb,sb,sb],TS.v true [ci,ci,ci]],[],[]⟩
def Qo1:Sk:=⟨[TS.v true [ci,ci,sb,sb,sb]],[],[]⟩
def Zt0:=qa 97 Qoz Qo1
def Qba (E:Fn):Cfg:=cf [Zn4 E]
def SQ (E:Fn):Fn:=An PG (Qba E) 64 97 Qoz Qo1
theorem Q2t (T:Fn) (J M:Int) (N E G:Bool) (U S O:Int):SQ T [I J,I M,B N,B E,B G,I U,I S,I O]=
 cond (S==1) (cond (decide (0<=O)) (cond (decide (O<=200)) (some [I O,I M,B N,B E,B G]) (some [I J,I M,B N,B E,B G])) (some [I J,I M,B N,B E,B G])) (cond (S==2) (cond (decide (0<=O)) (cond (decide (O<=100)) (some [I J,I O,B N,B E,B G]) (some [I J,I M,B N,B E,B G])) (some [I J,I M,B N,B E,B G])) (cond (S==3) (some [I J,I M,B true,B E,B G]) (cond (S==4) (some [I J,I M,B false,B E,B G]) (cond (S==5) ((T [B E,I O]).bind λo2=>
 some [I J,I M,B N,B (bA o2 0),B G]) (cond (S==6) ((T [B G,I O]).bind λo3=>
 some [I J,I M,B N,B E,B (bA o3 0)]) (some [I J,I M,B N,B E,B G])))))):=by kernel_rfl
def S7:=SQ Qk
theorem Zq8:Ai PG (Qba Qk):=Ap rfl ⟨Zny,trivial⟩
theorem Zym:Am PG (Zt0 S7):=rw1 (C:=Qba Qk) Zq8
def XH:Sk:=⟨[tf [sd 20000 0],TS.v true [ci,ci,ci]],[(20000,119,cS)],[]⟩
def Zqk:=qa 60 XH Qmq
def Qo6 (E G I J M:Fn):Cfg:=cp [Zmw E,Z37 G,Yaw I,Znf J,Zt0 M] [101,100,99]
def S9 (E G I J M:Fn):Fn:=An PG (Qo6 E G I J M) 64 60 XH Qmq
theorem Qyb (O S T U V:Fn) (N J M:Int) (K:Kf) (c:Cv):S9 O S T U V (I N::I J::I M::Ab K c)=
 (V [I c.o0,I c.o1,B c.o2,B c.o3,B c.o4,I N,I J,I M]).bind λE=>
 (U [I c.g0,I c.g1,I c.g2,I N,I J,I M]).bind λG=>
 cond (J==13) ((T (I M::Ab K {c with o0:=gA E 0,o1:=gA E 1,o2:=bA E 2,o3:=bA E 3,o4:=bA E 4,g0:=gA G 0,g1:=gA G 1,g2:=gA G 2})).bind λX=>
 some (cR 0 X)) (cond (J==11) (some (Ab K {c with o0:=gA E 0,o1:=gA E 1,o2:=true,o3:=bA E 3,o4:=bA E 4,g0:=gA G 0,g1:=gA G 1,g2:=gA G 2})) (cond (J==12) ((S (Ab K {c with o0:=gA E 0,o1:=gA E 1,o2:=bA E 2,o3:=bA E 3,o4:=bA E 4,g0:=gA G 0,g1:=gA G 1,g2:=gA G 2})).bind λY=>
 some (cR 0 Y)) (cond (J==7) ((O (I M::Ab K {c with o0:=gA E 0,o1:=gA E 1,o2:=bA E 2,o3:=bA E 3,o4:=bA E 4,g0:=gA G 0,g1:=gA G 1,g2:=gA G 2})).bind λo9=>
 some (cR 0 o9)) (cond (J==4) (some (Ab K {c with o0:=gA E 0,o1:=gA E 1,o2:=bA E 2,o3:=bA E 3,o4:=bA E 4,g0:=gA G 0,g1:=gA G 1,g2:=gA G 2,aJ:=true})) (some (Ab K {c with o0:=gA E 0,o1:=gA E 1,o2:=bA E 2,o3:=bA E 3,o4:=bA E 4,g0:=gA G 0,g1:=gA G 1,g2:=gA G 2})))))):=by kernel_rfl
def JD:=S9 Rz Nd JH Vp S7
theorem Zuo:Ai PG (Qo6 Rz Nd JH Vp S7):=Ap rfl ⟨Yac,Zrk,Zlw,Z0r,Zym,trivial⟩
theorem Zjj:Am PG (Zqk JD):=rw1 (C:=Qo6 Rz Nd JH Vp S7) Zuo
def Qrw:Sk:=⟨[tf [sd 20000 0],tf [sa kPt]],[(20000,119,cS)],[]⟩
def Z1:Sk:=⟨[TS.v true ([sa kPt,sa Aa]++cc 7)],[(20000,119,cS)],[]⟩
def Zd6:=qa 21 Qrw Z1
def Qgq (E G I J M N O S T U V X:Fn):Cfg:=cr [Zwi E,Zo3 G,Zql I,Zw4 J,Zxg M,Zqm N,Zqx O,Q3p S,QD T,Z9j U,Zwp V,Zqk X] [71,70,69,68,67,66,65,63,61,60] [63,61]
def Q4n:Sk:=⟨[tf [sd 20000 0],td,td,td,tf [sd 4 0]]++dd 14++[tf [sa kPt],tf [ci],tf [ci]]++dd 93,[(4,46,[sa kPt,sa Aa]++cc 7),(20000,119,cS)],[]⟩
def Zcm:List (Ex×Sk):=[(Ex.exit 0,⟨[tf [sd 20000 0],td,td,td,tf [sd 4 0]]++dd 110,[(4,46,[sa kPt,sa Aa]++cc 7),(20000,119,cS)],[]⟩)]
def NC (E G I J M N O S T U V X:Fn):Lp:=A5 PG (Qgq E G I J M N O S T U V X) 64 3 (A4 PG 21 3) Q4n Zcm
def Q1d (E G I J M N O S T U V X:Fn) (Y:Lp):Cfg:=(Qgq E G I J M N O S T U V X).loop 3 Q4n Zcm Y
def Q84:Sk:=⟨[tf [sd 20000 0],td,td,td,tf [sd 4 0],td,td,tf [ci],tf [sd 8 0]]++dd 81++[tf [CS.bsl 90 5],tf [ci],tf [ci]]++dd 22,[(4,46,[sa kPt,sa Aa]++cc 7),(8,46,[sa kPt,sa Aa]++cc 7),(90,125,[CS.clo 65 [(20000,0)] [],CS.clo 66 [(20000,0)] [],CS.clo 67 [(20000,0)] [],CS.clo 68 [(20000,0)] [],CS.clo 69 [(20000,0)] []]),(20000,119,cS)],[]⟩
def Q8e:List (Ex×Sk):=[(Ex.exit 2,⟨[tf [sd 20000 0],td,td,td,tf [sd 4 0],td,td,tf [ci],tf [sd 8 0]]++dd 106,[(4,46,[sa kPt,sa Aa]++cc 7),(8,46,[sa kPt,sa Aa]++cc 7),(20000,119,cS)],[]⟩)]
def Fa (E G I J M N O S T U V X:Fn) (Y:Lp):Lp:=A5 PG (Q1d E G I J M N O S T U V X Y) 64 16 (A4 PG 21 16) Q84 Q8e
def Qzh (G I J M N O S T U V X Y:Fn) (N3 E:Lp):Cfg:=(Q1d G I J M N O S T U V X Y N3).loop 16 Q84 Q8e E
def Vy (G I J M N O S T U V X Y:Fn) (N3 E:Lp):Fn:=An PG (Qzh G I J M N O S T U V X Y N3 E) 64 21 Qrw Z1
theorem Q0f (C0 Dc ET E3 EX EQ EY Ce Bb DP DN Y:Fn) (v0:Rw) (G E:Int) (J M:Rw) (N O S T U v10 v11:Int) (K:Kf) (c:Cv):NC C0 Dc ET E3 EX EQ EY Ce Bb DP DN Y (.vC kPt v0::I G::I E:: .vC kPt J:: .vC Aa M::I N::I O::I S::I T::I U::I v10::I v11::Ab K c)=
 cond (decide (E<G)) (cond (decide (0<=E)&&decide (E<(v0.length:Int))) ((Y (jA (nth [] v0 E.toNat) 0::jA (nth [] v0 E.toNat) 1::jA (nth [] v0 E.toNat) 2::Ab K c)).bind λX=>
 some (0,(.vC kPt v0::I G::I (V (E+1)):: .vC kPt J:: .vC Aa M::I N::I O::I S::I T::I U::I v10::I v11::cR 0 X))) (none)) (some (1,(.vC kPt J:: .vC Aa M::I N::I O::I S::I T::I U::I v10::I v11::Ab K c))):=by kernel_rfl
abbrev OK (v0:Int) (Y v4:Rw) (v5 v6 v7 v8 v9 v10 v11:Int) (v12 G:Rw) (J M N O S v20 v1 v2 X:Int) (T:Bool) (U:AC) (E:List AC):Option (Nat×List AC):=
 cond (T) (some (1,(I v0:: .vC kPt Y:: .vC Aa v4::I v5::I v6::I v7::I v8::I v9::I v10::I v11:: .vC kPt v12:: .vC Aa G::U::I J::I M::I N::I O::I S::I v20::E))) (some (0,(I v0::I v1::I (V (v2+1)):: .vC kPt Y:: .vC Aa v4::I v5::I v6::I v7::I v8::I v9::I v10::I v11:: .vC kPt v12:: .vC Aa G::I X::I J::I M::I N::I O::I S::I v20::E)))
theorem Q7x (C0 Dc ET E3 EX EQ EY Ce Bb DP DN EP:Fn) (N3:Lp) (v0 U T:Int) (V X:Rw) (Y v6 v7 v8 v9 v10 v11:Int) (v12 E:Rw) (G J M N O S v20:Int) (K:Kf) (c:Cv):Fa C0 Dc ET E3 EX EQ EY Ce Bb DP DN EP N3 (I v0::I U::I T:: .vC kPt V:: .vC Aa X::I Y::I v6::I v7::I v8::I v9::I v10::I v11:: .vC kPt v12:: .vC Aa E::I G::I J::I M::I N::I O::I S::I v20::Ab K c)=
 cond (decide (T<U)) (cond (decide (T=(↑0:Int))) ((EY (Ab K c)).bind λa0=>
 OK v0 V X Y v6 v7 v8 v9 v10 v11 v12 E J M N O S v20 U T G (bA a0 1) (jA a0 0) (cR 2 a0)) (cond (decide (T=(↑(0+1):Int))) ((EQ (Ab K c)).bind λa1=>
 OK v0 V X Y v6 v7 v8 v9 v10 v11 v12 E J M N O S v20 U T G (bA a1 1) (jA a1 0) (cR 2 a1)) (cond (decide (T=(↑(0+1+1):Int))) ((EX (Ab K c)).bind λa2=>
 OK v0 V X Y v6 v7 v8 v9 v10 v11 v12 E J M N O S v20 U T G (bA a2 1) (jA a2 0) (cR 2 a2)) (cond (decide (T=(↑(0+1+1+1):Int))) ((E3 (Ab K c)).bind λa3=>
 OK v0 V X Y v6 v7 v8 v9 v10 v11 v12 E J M N O S v20 U T G (bA a3 1) (jA a3 0) (cR 2 a3)) (cond (decide (T=(↑(0+1+1+1+1):Int))) ((ET (Ab K c)).bind λa4=>
 OK v0 V X Y v6 v7 v8 v9 v10 v11 v12 E J M N O S v20 U T G (bA a4 1) (jA a4 0) (cR 2 a4)) (none)))))) (some (1,(I v0:: .vC kPt V:: .vC Aa X::I Y::I v6::I v7::I v8::I v9::I v10::I v11:: .vC kPt v12:: .vC Aa E::I G::I J::I M::I N::I O::I S::I v20::Ab K c))):=by kernel_rfl
abbrev GT (T:Lp) (M:Nat×List AC) (V U:Fn) (N:AC) (O:List AC):Option (List AC):=
 (T (N::I (↑5:Int)::I 0:: .vC kPt (wA M.2 0):: .vC Aa (wA M.2 1)::jA M.2 2::jA M.2 3::jA M.2 4::jA M.2 5::jA M.2 6::jA M.2 7::jA M.2 8:: .vC kPt []:: .vC Aa []::I 0::I 0::I 0::I 0::I 0::I 0::I 0::O)).bind λE=>
 cond (E.1.beq 1) (cond (gA E.2 12==0) ((V (cR 19 E.2)).bind λS=>
 (U (jA E.2 0::(cR 1 S++[.vC kPt (wA E.2 10), .vC Aa (wA E.2 11),jA S 0,jA E.2 13,jA E.2 14,jA E.2 15,jA E.2 16,jA E.2 17,jA E.2 18]))).bind λG=>
 some (.vC kPt (wA G 90):: .vC Aa (wA G 91)::jA G 92::jA G 93::jA G 94::jA G 95::jA G 96::jA G 97::jA G 98::cR 0 G)) ((U (jA E.2 0::(cR 19 E.2++[.vC kPt (wA E.2 10), .vC Aa (wA E.2 11),jA E.2 12,jA E.2 13,jA E.2 14,jA E.2 15,jA E.2 16,jA E.2 17,jA E.2 18]))).bind λJ=>
 some (.vC kPt (wA J 90):: .vC Aa (wA J 91)::jA J 92::jA J 93::jA J 94::jA J 95::jA J 96::jA J 97::jA J 98::cR 0 J))) (none)
abbrev Qq8 (Y:Fn) (E:Nat×List AC) (DP T U:Fn) (I:Lp) (V X:Fn):Option (List AC):=
 (Y (DY (cR 9 E.2) [(58,B true),(86,jA E.2 76)])).bind λJ=>
 cond (!bA J 0) ((DP [jA E.2 73,jA E.2 74,jA E.2 75,jA E.2 76,jA E.2 42]).bind λG=>
 (T (DY (cR 9 E.2) [(58,B true),(64,jA G 0),(65,jA G 1),(66,jA G 2),(67,jA G 3),(86,jA E.2 76)])).bind λM=>
 (U [jA E.2 59,jA E.2 60,jA E.2 61,jA E.2 62,jA E.2 63,jA E.2 64]).bind λN=>
 GT I E V X (jA M 0) (DY (cR 9 E.2) [(58,B true),(64,jA G 0),(65,jA G 1),(66,jA G 2),(67,jA G 3),(86,jA E.2 76),(88,B (bA N 0))])) ((T (DY (cR 9 E.2) [(58,B true),(86,jA E.2 76)])).bind λO=>
 (U [jA E.2 59,jA E.2 60,jA E.2 61,jA E.2 62,jA E.2 63,jA E.2 64]).bind λS=>
 GT I E V X (jA O 0) (DY (cR 9 E.2) [(58,B true),(86,jA E.2 76),(88,B (bA S 0))]))
theorem Q0y (M N ET E3 EX EQ EY O S T U EP:Fn) (N3 J:Lp) (V:Rw) (K:Kf) (c:Cv):Vy M N ET E3 EX EQ EY O S T U EP N3 J (.vC kPt V::Ab K c)=
 (N3 (.vC kPt V::I (V.length:Int)::I 0:: .vC kPt []:: .vC Aa []::I 0::I 0::I 0::I 0::I 0::I 0::I 0::Ab K {c with aJ:=false,aL:=false})).bind λE=>
 cond (E.1.beq 1) (cond (bA E.2 86) (Qq8 U E T S O J N M) (cond (gA E.2 70 !=0) (Qq8 U E T S O J N M) ((U (DY (cR 9 E.2) [(86,jA E.2 76)])).bind λX=>
 cond (!bA X 0) ((T [jA E.2 73,jA E.2 74,jA E.2 75,jA E.2 76,jA E.2 42]).bind λG=>
 (S (DY (cR 9 E.2) [(64,jA G 0),(65,jA G 1),(66,jA G 2),(67,jA G 3),(86,jA E.2 76)])).bind λY=>
 (O [jA E.2 59,jA E.2 60,jA E.2 61,jA E.2 62,jA E.2 63,jA E.2 64]).bind λa0=>
 GT J E N M (jA Y 0) (DY (cR 9 E.2) [(64,jA G 0),(65,jA G 1),(66,jA G 2),(67,jA G 3),(86,jA E.2 76),(88,B (bA a0 0))])) ((S (DY (cR 9 E.2) [(86,jA E.2 76)])).bind λa1=>
 (O [jA E.2 59,jA E.2 60,jA E.2 61,jA E.2 62,jA E.2 63,jA E.2 64]).bind λa2=>
 GT J E N M (jA a1 0) (DY (cR 9 E.2) [(86,jA E.2 76),(88,B (bA a2 0))]))))) (none):=by kernel_rfl
def Tz:=Ak (NC Ls Kr Jp KU Me LV LT HY Dm Kw Ln JD)
def Q8f:=Ak (Fa Ls Kr Jp KU Me LV LT HY Dm Kw Ln JD Tz)
def Gy:=Vy Ls Kr Jp KU Me LV LT HY Dm Kw Ln JD Tz Q8f
theorem ZI:Ai PG (Qgq Ls Kr Jp KU Me LV LT HY Dm Kw Ln JD):=Hf (rs:=[63,61]) rfl ⟨Zhk,Zrr,Z1p,Z2w,Zg5,Zs1,Zos,Qzl,QH,Zgb,Zh6,Zjj,trivial⟩ rfl (CK rfl (CK rfl (CK rfl (CK rfl (CK rfl (CK rfl (CK rfl (CK rfl (Fj (CK rfl (Fj (CK rfl Hx))))))))))))
theorem Q8g:Am PG (Zd6 Gy):=rw2 (C:=Qzh Ls Kr Jp KU Me LV LT HY Dm Kw Ln JD Tz Q8f) (fl (fl fb ZI) ZI) ZI
def Qgh:Sk:=⟨[TS.v true (cc 13++[sb,ci,sb]++cc 5++[sb])],[],[]⟩
def VM:=qa 81 Qgh Qqn
def Quv:Fn:=An PG Qcv 64 81 Qgh Qqn
theorem Z8b (x0 x1 x2 x3 x4 x5 x6 x7 x8 x9 E G J:Int) (M:Bool) (N:Int) (O:Bool) (S T U V X:Int) (Y:Bool):Quv [I x0,I x1,I x2,I x3,I x4,I x5,I x6,I x7,I x8,I x9,I E,I G,I J,B M,I N,B O,I S,I T,I U,I V,I X,B Y]=
 cond (x0==2) (some [B !(x2==x5&&(x3==x6&&(x4==x7&&true)))]) (some [B false]):=by kernel_rfl
def Fp:=Quv
theorem TY:Am PG (VM Fp):=rw1 (C:=Qcv) Zft
def Vd:=qa 123 Qae Qqn
def Qvo:Fn:=An PG Qcv 64 123 Qae Qqn
theorem Z82 (E:Int):Qvo [I E]=
 cond (decide (E>=1)) (some [B (decide (E<=6))]) (some [B false]):=by kernel_rfl
def Eh:=Qvo
theorem Ty:Am PG (Vd Eh):=rw1 (C:=Qcv) Zft
def Qwp:=qa 169 Qgh Qqn
def Q0o:Fn:=An PG Qcv 64 169 Qgh Qqn
theorem Ztc (E x1 x2 x3 x4 x5 x6 x7 x8 x9 G J M:Int) (N:Bool) (O:Int) (S:Bool) (T U V X Y:Int) (a0:Bool):Q0o [I E,I x1,I x2,I x3,I x4,I x5,I x6,I x7,I x8,I x9,I G,I J,I M,B N,I O,B S,I T,I U,I V,I X,I Y,B a0]=
 cond (E==5) (some [B true]) (some [B (E==6)]):=by kernel_rfl
def H6:=Q0o
theorem Q46:Am PG (Qwp H6):=rw1 (C:=Qcv) Zft
def Qpe:Sk:=⟨[tf [sa Aj],tf [ci]],[],[]⟩
def Zqp:=qa 173 Qpe Qqn
def Xn (E G:Fn):Cfg:=cf [Vd E,Qwp G]
def Qub:Sk:=⟨dd 23++[tf [sa Aj],tf [ci],tf [ci]]++dd 9,[],[]⟩
def Qxr:List (Ex×Sk):=[(Ex.ret,⟨[td,td,td,td,tf [sb]]++dd 30,[],[]⟩),(Ex.exit 0,⟨[td]++dd 34,[],[]⟩)]
def LF (E G:Fn):Lp:=A5 PG (Xn E G) 64 4 (A4 PG 173 4) Qub Qxr
def Q3l (E G:Fn) (I:Lp):Cfg:=(Xn E G).loop 4 Qub Qxr I
def Qqt (E G:Fn) (I:Lp):Fn:=An PG (Q3l E G I) 64 173 Qpe Qqn
theorem Qzd (J M:Fn) (v0:Rw) (G E:Int):LF J M [.vC Aj v0,I G,I E]=
 cond (decide (E<G)) (cond (decide (0<=E)&&decide (E<(v0.length:Int))) ((J [jA (nth [] v0 E.toNat) 0]).bind λN=>
 cond (bA N 0) ((M (AT Aj (nth [] v0 E.toNat))).bind λO=>
 some (1,[B (bA O 0)])) (some (0,[.vC Aj v0,I G,I (V (E+1))]))) (none)) (some (2,[])):=by kernel_rfl
theorem Zyt (O M:Fn) (N:Lp) (G:Rw) (E:Int):Qqt O M N [.vC Aj G,I E]=
 cond (decide (0<=E)&&decide (E<(G.length:Int))) (cond (gA (nth [] G E.toNat) 18==0) (some [B true]) (cond (decide (0<=E)&&decide (E<(G.length:Int))) ((M (AT Aj (nth [] G E.toNat))).bind λS=>
 cond (bA S 0) (some [B true]) (cond (decide (0<=V (E+1))&&decide (V (E+1)<=(G.length:Int))) ((N [.vC Aj (List.drop (V (E+1)).toNat G),I (↑(List.drop (V (E+1)).toNat G).length:Int),I 0]).bind λJ=>
 cond (J.1.beq 1) (some [B (bA J.2 0)]) (cond (J.1.beq 2) (some [B false]) (none))) (none))) (none))) (none):=by kernel_rfl
def Q70:=Ak (LF Eh H6)
def Sf:=Qqt Eh H6 Q70
theorem Qv7:Ai PG (Xn Eh H6):=Ap rfl ⟨Ty,Q46,trivial⟩
theorem Z6e:Am PG (Zqp Sf):=rw2 (C:=Q3l Eh H6 Q70) (fl fb Qv7) Qv7
def Qjd:Sk:=⟨[tf [sd 20000 0],tf [sa Aj],tf [ci]],[(20000,142,[ci,ci,ci,se 20000 7,se 20001 3,sb,ci,ci,ci])],[(20000,162,Ag),(20001,76,kPt)]⟩
def Qnz:Sk:=⟨[TS.tup []],[(20000,142,[ci,ci,ci,se 20000 7,se 20001 3,sb,ci,ci,ci])],[(20000,162,Ag),(20001,76,kPt)]⟩
def Zhe:=qa 127 Qjd Qnz
def Qfu (E G:Fn):Cfg:=cf [Zqp E,Vd G]
def Qkl (E G:Fn):Fn:=An PG (Qfu E G) 64 127 Qjd Qnz
abbrev Qg8 (Y:Fn) (X:Rw) (G:Int) (M:Rw) (E:Int) (N:Rw) (O S T:Int) (U:Bool) (V J:Int):Option (List AC):=
 (Y [jA (nth [] X G.toNat) 0]).bind λo6=>
 cond (bA o6 0) (cond (((M++[[I E,I 2,I G]]).length*24).ble 140737488355328) (some [.vC Ag N, .vC kPt (M++[[I E,I 2,I G]]),I O,I S,I T,B U,I E,I V,I J]) (none)) (cond (gA (nth [] X G.toNat) 0==10) (cond (((M++[[I E,I 5,I G]]).length*24).ble 140737488355328) (some [.vC Ag N, .vC kPt (M++[[I E,I 5,I G]]),I O,I S,I T,B U,I E,I V,I J]) (none)) (cond (gA (nth [] X G.toNat) 0==13) (cond (((M++[[I E,I 4,I G]]).length*24).ble 140737488355328) (some [.vC Ag N, .vC kPt (M++[[I E,I 4,I G]]),I O,I S,I T,B U,I E,I V,I J]) (none)) (cond (((M++[[I E,I 3,I G]]).length*24).ble 140737488355328) (some [.vC Ag N, .vC kPt (M++[[I E,I 3,I G]]),I O,I S,I T,B U,I E,I V,I J]) (none))))
theorem Z84 (NF Y:Fn) (O M N:Rw) (E S T U:Int) (V:Bool) (J X G:Int):Qkl NF Y [.vC Ag O, .vC kPt M, .vC Aj N,I E,I S,I T,I U,B V,I J,I X,I G]=
 cond (decide (0<=E)&&decide (E<(N.length:Int))) (cond (gA (nth [] N E.toNat) 0==4) (cond (((M++[[I J,I 6,I E]]).length*24).ble 140737488355328) (some [.vC Ag O, .vC kPt (M++[[I J,I 6,I E]]),I S,I T,I U,B V,I J,I X,I G]) (none)) ((Y [jA (nth [] N E.toNat) 0]).bind λo4=>
 cond (bA o4 0) ((NF [.vC Aj N,I E]).bind λo5=>
 cond (bA o5 0) (cond (((M++[[I J,I 1,I E]]).length*24).ble 140737488355328) (some [.vC Ag O, .vC kPt (M++[[I J,I 1,I E]]),I S,I T,I U,B V,I J,I X,I G]) (none)) (Qg8 Y N E M J O S T U V X G)) (Qg8 Y N E M J O S T U V X G))) (none):=by kernel_rfl
def JF:=Qkl Sf Eh
theorem Zys:Ai PG (Qfu Sf Eh):=Ap rfl ⟨Z6e,Ty,trivial⟩
theorem Zk9:Am PG (Zhe JF):=rw1 (C:=Qfu Sf Eh) Zys
def Qdy:=qa 172 Qgh Qbn
def Qzn:Fn:=An PG Qcv 64 172 Qgh Qbn
theorem Zn5 (x0 x1 x2 x3 x4 x5 x6 x7 x8 x9 E G J:Int) (M:Bool) (N:Int) (O:Bool) (S T U X Y:Int) (a0:Bool):Qzn [I x0,I x1,I x2,I x3,I x4,I x5,I x6,I x7,I x8,I x9,I E,I G,I J,B M,I N,B O,I S,I T,I U,I X,I Y,B a0]=
 some [I (V (V (x2+x5)*8)),I (V (V (x3+x6)*8)),I (V (V (x4+x7)*8))]:=by kernel_rfl
def GJ:=Qzn
theorem Qsi:Am PG (Qdy GJ):=rw1 (C:=Qcv) Zft
def Qab:Sk:=⟨[TS.v true [si .u64,si .u64],TS.v true [si .u64,si .u64]],[],[]⟩
def Qsz:=qa 211 Qab Qae
def Q5i:Fn:=An PG Qcv 64 211 Qab Qae
theorem Zk0 (E J G M:Int):Q5i [U E,U J,U G,U M]=
 cond (decide (E<G)) (some [I (-1)]) (cond (E==G) (cond (decide (J<M)) (some [I (-1)]) (cond (E==G&&(J==M&&true)) (some [I 0]) (some [I 1]))) (cond (E==G&&(J==M&&true)) (some [I 0]) (some [I 1]))):=by kernel_rfl
def ID:=Q5i
theorem Qz1:Am PG (Qsz ID):=rw1 (C:=Qcv) Zft
def Q7n:=qa 221 Qdv Qci
def Qjn (E G:Fn):Cfg:=cf [Qsz E,UM G]
def Q8b:Sk:=⟨[td,tf [sd 1 0],td,tf [si .u64],tf [si .u64]]++dd 16,[(1,185,[si .u64,si .u64])],[]⟩
def Zab:List (Ex×Sk):=[(Ex.exit 0,⟨[td,td,td,tf [si .u64]]++dd 17,[],[]⟩)]
def Mn (E G:Fn):Lp:=A5 PG (Qjn E G) 64 3 (A4 PG 221 3) Q8b Zab
def Zc0 (E G:Fn) (I:Lp):Cfg:=(Qjn E G).loop 3 Q8b Zab I
def Qda (E G:Fn) (I:Lp):Fn:=An PG (Zc0 E G I) 64 221 Qdv Qci
theorem Za0 (J M:Fn) (v0 E G I:Int):Mn J M [U v0,U E,U G,U I]=
 cond (decide (E>0)) ((M [U (wrap .u64 (↑(BitVec.ofInt IntKind.u64.bits v0|||BitVec.ofInt IntKind.u64.bits E).toNat:Int)),U (wrap .u64 (↑(BitVec.ofInt IntKind.u64.bits v0|||BitVec.ofInt IntKind.u64.bits E).toNat:Int))]).bind λo3=>
 (J [U (gA o3 0),U (gA o3 1),U G,U I]).bind λo4=>
 cond (decide (gA o4 0<=0)) (some (0,[U (wrap .u64 (↑(BitVec.ofInt IntKind.u64.bits v0|||BitVec.ofInt IntKind.u64.bits E).toNat:Int)),U (E.fdiv (2^min (Int.toNat 1) IntKind.u64.bits)),U G,U I])) (some (0,[U v0,U (E.fdiv (2^min (Int.toNat 1) IntKind.u64.bits)),U G,U I]))) (some (1,[U v0])):=by kernel_rfl
theorem Z6v (M N:Fn) (E:Lp) (G I:Int):Qda M N E [U G,U I]=
 (E [U 0,U 9223372036854775808,U G,U I]).bind λJ=>
 cond (J.1.beq 1) (some [U (gA J.2 0)]) (none):=by kernel_rfl
def Qzf:=Ak (Mn ID E5)
def Ke:=Qda ID E5 Qzf
theorem Za5:Ai PG (Qjn ID E5):=Ap rfl ⟨Qz1,VC,trivial⟩
theorem Q5k:Am PG (Q7n Ke):=rw2 (C:=Zc0 ID E5 Qzf) (fl fb Za5) Za5
def XF:Sk:=⟨[TS.v true [si .u64,si .u64],tf [ci]],[],[]⟩
def Z57:=qa 216 XF Y2
def Qq4 (E G I J:Fn):Cfg:=cf [Xm E,(222,Ad Q2g Q5b G),(175,Ad Qas V8 I),Q7n J]
def YT (E G I J:Fn):Fn:=An PG (Qq4 E G I J) 64 216 XF Y2
abbrev Qes (T:Int) (O:List AC) (N:Fn) (E S:List AC):Option (List AC):=
 cond (T==2) (cond (decide (gA O 0>0)) ((N [U (wrap .u64 (gA E 0+1)),B false]).bind λG=>
 some [jA G 0,B (bA G 1)]) (cond (decide (gA S 0>gA E 0)) ((N [U (wrap .u64 (gA E 0+1)),B false]).bind λI=>
 some [jA I 0,B (bA I 1)]) ((N [U (gA E 0),B false]).bind λJ=>
 some [jA J 0,B (bA J 1)]))) ((N [U (gA E 0),B false]).bind λM=>
 some [jA M 0,B (bA M 1)])
theorem Zy3 (M V GL Gv:Fn) (X Y T:Int):YT M V GL Gv [U X,U Y,I T]=
 (Gv [U X,U Y]).bind λE=>
 (GL [U (gA E 0),U (gA E 0)]).bind λN=>
 (V [U Y,U (gA N 1),U 0]).bind λG=>
 (V [U X,U (gA N 0),U (gA G 1)]).bind λJ=>
 cond (T==1) (cond (decide (gA J 0>0)) ((M [U (wrap .u64 (gA E 0+1)),B false]).bind λO=>
 some [jA O 0,B (bA O 1)]) (cond (decide (gA G 0>0)) ((M [U (wrap .u64 (gA E 0+1)),B false]).bind λS=>
 some [jA S 0,B (bA S 1)]) (Qes T J M E G))) (Qes T J M E G):=by kernel_rfl
def UZ:=YT Fz KT IJ Ke
theorem Zq9:Ai PG (Qq4 Fz KT IJ Ke):=Ap rfl ⟨Qla,Zvh,Qwq,Q5k,trivial⟩
theorem Z0i:Am PG (Z57 UZ):=rw1 (C:=Qq4 Fz KT IJ Ke) Zq9
def Qvz:=qa 210 ZS Y2
def Za (E G:Fn):Cfg:=cf [Z57 E,Qqp G]
def Qax (E G:Fn):Fn:=An PG (Za E G) 64 210 ZS Y2
theorem Z1q (J M:Fn) (E G:Int):Qax J M [I E,I G]=
 cond (decide (E<0)) (some [I 0,B false]) ((M [I G]).bind λo2=>
 cond (!bA o2 0) (some [I 0,B false]) ((J [U 0,U (wrap .u64 E),I G]).bind λo3=>
 some [jA o3 0,B (bA o3 1)])):=by kernel_rfl
def Jo:=Qax UZ Gn
theorem Z3w:Ai PG (Za UZ Gn):=Ap rfl ⟨Z0i,Qoh,trivial⟩
theorem Qyn:Am PG (Qvz Jo):=rw1 (C:=Za UZ Gn) Z3w
def Qus:=qa 195 Qds Qae
def Qm9 (E:Fn):Cfg:={cf [Qvz E]with unroll:=[3]}
def Xt (E:Fn):Fn:=An PG (Qm9 E) 64 195 Qds Qae
theorem Zxs (S:Fn) (E G J M N O:Int):Xt S [I E,I G,I J,I M,I N,I O]=
 (S [I (V (V (V (0+V (V (E-M)*V (E-M)))+V (V (G-N)*V (G-N)))+V (V (J-O)*V (J-O)))),I 1]).bind λo1=>
 some [jA o1 0]:=by kernel_rfl
def JJ:=Xt Jo
theorem Zzv:Ai PG (Qm9 Jo):=Ap rfl ⟨Qyn,trivial⟩
theorem Qv9:Am PG (Qus JJ):=rw1 (C:=Qm9 Jo) Zzv
def Qev:Sk:=⟨[tf [sd 20000 0],TS.v true [ci,ci,ci],TS.v true (cc 7)],[(20000,142,[ci,ci,ci,se 20000 7,se 20001 3,sb,ci,ci,ci])],[(20000,162,Ag),(20001,76,kPt)]⟩
def Z6p:=qa 171 Qev Qnz
def Qa1 (E:Fn):Cfg:=cf [Qus E]
def TO (E:Fn):Fn:=An PG (Qa1 E) 64 171 Qev Qnz
abbrev YH (E:Bool) (x0 x1:Rw) (x2 x3 x4 G J M N O S:Int) (DC:Fn) (x9 T U:Int) (X:Bool) (Y a0 a1:AC):Option (List AC):=
 cond (!E) (some [.vC Ag x0, .vC kPt x1,I x2,I x3,I x4,B true,I G,I J,I M]) (cond (X) (some [.vC Ag x0, .vC kPt x1,I N,I O,I S,B E,I G,I J,I M]) ((DC [Y,a0,a1,I x2,I x3,I x4]).bind λo2=>
 cond (((x0++[[I x2,I x3,I x4,jA o2 0,I x9,I T,I U]]).length*56).ble 140737488355328) (some [.vC Ag (x0++[[I x2,I x3,I x4,jA o2 0,I x9,I T,I U]]), .vC kPt x1,I N,I O,I S,B E,I (V (G+gA o2 0)),I J,I M]) (none)))
theorem Q97 (DC:Fn) (E x1:Rw) (Y x3 x4 x5 x6 x7 x8 x9 N O G J M:Int) (S:Bool) (T U X:Int):TO DC [.vC Ag E, .vC kPt x1,I Y,I x3,I x4,I x5,I x6,I x7,I x8,I x9,I N,I O,I G,I J,I M,B S,I T,I U,I X]=
 cond (decide ((E.length:Int)>0)) (cond (decide (0<=V ((E.length:Int)-1))&&decide (V ((E.length:Int)-1)<(E.length:Int))) (YH S E x1 Y x3 x4 T U X G J M DC x9 N O (Y==gA (nth [] E (V ((E.length:Int)-1)).toNat) 0&&(x3==gA (nth [] E (V ((E.length:Int)-1)).toNat) 1&&(x4==gA (nth [] E (V ((E.length:Int)-1)).toNat) 2&&true))) (jA (nth [] E (V ((E.length:Int)-1)).toNat) 0) (jA (nth [] E (V ((E.length:Int)-1)).toNat) 1) (jA (nth [] E (V ((E.length:Int)-1)).toNat) 2)) (none)) (YH S E x1 Y x3 x4 T U X G J M DC x9 N O (Y==G&&(x3==J&&(x4==M&&true))) (I G) (I J) (I M)):=by kernel_rfl
def P0:=TO JJ
theorem Z1l:Ai PG (Qa1 JJ):=Ap rfl ⟨Qv9,trivial⟩
theorem Zf4:Am PG (Z6p P0):=rw1 (C:=Qa1 JJ) Z1l
def Qmy:=qa 125 Qpe Qae
def Q1f:Sk:=⟨[tf [sa Aj],tf [ci]]++dd 20,[],[]⟩
def Q7j:List (Ex×Sk):=[(Ex.exit 0,⟨[td,tf [ci]]++dd 20,[],[]⟩)]
def Qw:Lp:=A5 PG Qcv 64 2 (A4 PG 125 2) Q1f Q7j
def Q7d (E:Lp):Cfg:=Qcv.loop 2 Q1f Q7j E
def Qgd (E:Lp):Fn:=An PG (Q7d E) 64 125 Qpe Qae
theorem Q8n (v0:Rw) (E:Int):Qw [.vC Aj v0,I E]=
 cond (decide (E<(v0.length:Int))) (cond (decide (0<=E)&&decide (E<(v0.length:Int))) (cond (gA (nth [] v0 E.toNat) 0==10) (some (0,[.vC Aj v0,I (V (E+1))])) (some (1,[I E]))) (none)) (some (1,[I E])):=by kernel_rfl
theorem Zqt (E:Lp) (G:Rw) (J:Int):Qgd E [.vC Aj G,I J]=
 (E [.vC Aj G,I (V (J+1))]).bind λo1=>
 cond (o1.1.beq 1) (some [jA o1.2 0]) (none):=by kernel_rfl
def Q8d:=Ak (Qw)
def FR:=Qgd Q8d
theorem Qnp:Am PG (Qmy FR):=rw2 (C:=Q7d Q8d) (fl fb Zft) Zft
def Q3y:=qa 124 Qpe Qqn
def Qh8 (E G:Fn):Cfg:=cf [VM E,Qmy G]
def Yk (E G:Fn):Fn:=An PG (Qh8 E G) 64 124 Qpe Qqn
theorem Zz9 (J M:Fn) (E:Rw) (G:Int):Yk J M [.vC Aj E,I G]=
 (M [.vC Aj E,I G]).bind λo3=>
 cond (decide (0<=G)&&decide (G<(E.length:Int))) ((J (AT Aj (nth [] E G.toNat))).bind λo4=>
 cond (bA o4 0) (cond (decide (0<=G)&&decide (G<(E.length:Int))) (cond (gA (nth [] E G.toNat) 18 !=0) (cond (decide (gA o3 0<(E.length:Int))) (cond (decide (0<=gA o3 0)&&decide (gA o3 0<(E.length:Int))) ((J (AT Aj (nth [] E (gA o3 0).toNat))).bind λN=>
 some [B (bA N 0)]) (none)) (some [B false])) (some [B false])) (none)) (some [B false])) (none):=by kernel_rfl
def HJ:=Yk Fp FR
theorem Zhz:Ai PG (Qh8 Fp FR):=Ap rfl ⟨TY,Qnp,trivial⟩
theorem Qxk:Am PG (Q3y HJ):=rw1 (C:=Qh8 Fp FR) Zhz
def Ql6:Sk:=⟨[TS.v true [ci,ci,ci],TS.v true [ci,ci,ci],TS.v true [ci,ci,ci]],[],[]⟩
def Qys:=qa 219 Ql6 Qae
def Q9s:Fn:=An PG Yf 64 219 Ql6 Qae
theorem Zy8 (E G J M N O S T U:Int):Q9s [I E,I G,I J,I M,I N,I O,I S,I T,I U]=
 some [I (V (V (V (0+V (V (V (E+S)-V (2*M))*V (V (E+S)-V (2*M))))+V (V (V (G+T)-V (2*N))*V (V (G+T)-V (2*N))))+V (V (V (J+U)-V (2*O))*V (V (J+U)-V (2*O)))))]:=by kernel_rfl
def Ht:=Q9s
theorem Qzj:Am PG (Qys Ht):=rw1 (C:=Yf) Zeh
def Zmc:=qa 215 Ql6 Qae
def Wc (E:Fn):Cfg:=cf [Qys E]
def Qtp:Sk:=⟨[td,td,td,tf [sd 3 0],tf [sd 4 0],tf [sd 5 0],td,tf [ci]]++dd 22,[(3,54,[ci,ci,ci]),(4,54,[ci,ci,ci]),(5,54,[ci,ci,ci])],[]⟩
def Qw4:List (Ex×Sk):=[(Ex.exit 0,⟨dd 7++[tf [ci]]++dd 22,[],[]⟩)]
def Rq (E:Fn):Lp:=A5 PG (Wc E) 64 2 (A4 PG 215 2) Qtp Qw4
def Q32 (E:Fn) (G:Lp):Cfg:=(Wc E).loop 2 Qtp Qw4 G
def Qbk (E:Fn) (G:Lp):Fn:=An PG (Q32 E G) 64 215 Ql6 Qae
theorem Z4t (X:Fn) (v0 E G J M N O S T U:Int):Rq X [I v0,I E,I G,I J,I M,I N,I O,I S,I T,I U]=
 cond (decide (v0<64)) ((X [I E,I G,I J,I M,I N,I O,I S,I T,I U]).bind λo2=>
 cond (decide (gA o2 0>V (V (V (V (V (V (16*v0)*v0)*v0)*v0)*4)*4))) (some (0,[I (V (v0*2)),I E,I G,I J,I M,I N,I O,I S,I T,I U])) (some (1,[I v0]))) (some (1,[I v0])):=by kernel_rfl
theorem Zl2 (X:Fn) (E:Lp) (G J M N O S T U V:Int):Qbk X E [I G,I J,I M,I N,I O,I S,I T,I U,I V]=
 (E [I 2,I G,I J,I M,I N,I O,I S,I T,I U,I V]).bind λo3=>
 cond (o3.1.beq 1) (some [jA o3.2 0]) (none):=by kernel_rfl
def Zba:=Ak (Rq Ht)
def K6:=Qbk Ht Zba
theorem Zcj:Ai PG (Wc Ht):=Ap rfl ⟨Qzj,trivial⟩
theorem Zgn:Am PG (Zmc K6):=rw2 (C:=Q32 Ht Zba) (fl fb Zcj) Zcj
def X2:Sk:=⟨[TS.v true [si .u64,si .u64],tf [si .u64]],[],[]⟩
def Qkt:Sk:=⟨[TS.tup [(true,[si .u64,si .u64]),(false,[sb])]],[],[]⟩
def Zf0:=qa 224 X2 Qkt
def Qc0 (E:Fn):Cfg:=cf [Zbw E]
def Qdu (E:Fn):Fn:=An PG (Qc0 E) 64 224 X2 Qkt
theorem Zne (E:Fn) (I J G:Int):Qdu E [U I,U J,U G]=
 (E [U 0,U I,U G]).bind λo2=>
 (E [U (gA o2 1),U J,U G]).bind λo3=>
 some [U (gA o2 0),U (gA o3 0),B (decide (gA o3 1>0))]:=by kernel_rfl
def U1:=Qdu Hc
theorem Z98:Ai PG (Qc0 Hc):=Ap rfl ⟨Qtj,trivial⟩
theorem Ztd:Am PG (Zf0 U1):=rw1 (C:=Qc0 Hc) Z98
def Q6b:=qa 220 X4 Y2
def Qg0 (E G I J M N O S:Fn):Cfg:=cf [Xm E,Q5q G,X9 I,Q7n J,Zf0 M,UM N,Qqp O,Qc9 S]
def Yc (E G I J M N O S:Fn):Fn:=An PG (Qg0 E G I J M N O S) 64 220 X4 Y2
abbrev Rn (C4:Fn) (x3:Int) (Y:Fn) (G:List AC) (J:Bool) (M E N O:AC):Option (List AC):=
 cond (J) ((C4 [I x3,M,B true,E]).bind λa0=>
 cond (bA a0 0) ((Y [U (wrap .u64 (wrap .u64 ((gA G 0).tdiv 2)+1)),E]).bind λS=>
 some [jA S 0,B (bA S 1)]) ((Y [U (wrap .u64 ((gA G 0).tdiv 2)),E]).bind λT=>
 some [jA T 0,B (bA T 1)])) ((C4 [I x3,N,O,E]).bind λa1=>
 cond (bA a1 0) ((Y [U (wrap .u64 (wrap .u64 ((gA G 0).tdiv 2)+1)),E]).bind λV=>
 some [jA V 0,B (bA V 1)]) ((Y [U (wrap .u64 ((gA G 0).tdiv 2)),E]).bind λX=>
 some [jA X 0,B (bA X 1)]))
theorem Zhw (O S DB Gv Oq BW Ei T:Fn) (V X x2 N:Int):Yc O S DB Gv Oq BW Ei T [I V,I X,I x2,I N]=
 (T [I V]).bind λa2=>
 cond (decide (gA a2 0>2147483648)) (some [I 0,B false]) ((T [I X]).bind λa3=>
 cond (decide (gA a3 0>2147483648)) (some [I 0,B false]) (cond (decide (x2<1)) (some [I 0,B false]) (cond (decide (x2>4611686018427387904)) (some [I 0,B false]) ((Ei [I N]).bind λa4=>
 cond (!bA a4 0) (some [I 0,B false]) ((T [I V]).bind λY=>
 (T [I X]).bind λa0=>
 (BW [U (wrap .u64 (2*wrap .u64 (gA Y 0*gA a0 0))),U (wrap .u64 (2*wrap .u64 (gA Y 0*gA a0 0)))]).bind λa1=>
 (Oq [U (gA a1 0),U (gA a1 1),U (wrap .u64 x2)]).bind λE=>
 (Gv [U (gA E 0),U (gA E 1)]).bind λG=>
 cond (bA E 2) ((DB [I V,I X]).bind λa5=>
 Rn S N O G ((gA G 0).tmod 2==1) (I 1) (B (decide (gA a5 0<0))) (I (-1)) (B true)) ((BW [U (gA G 0),U (gA G 0)]).bind λJ=>
 (DB [I V,I X]).bind λM=>
 cond ((gA G 0).tmod 2==1) (cond (!(gA J 0==gA E 0&&(gA J 1==gA E 1&&true))) (Rn S N O G (!(gA J 0==gA E 0&&(gA J 1==gA E 1&&true))) (I 1) (B (decide (gA M 0<0))) (I 1) (B ((gA G 0).tmod 2==1))) (Rn S N O G (!(gA J 0==gA E 0&&(gA J 1==gA E 1&&true))) (I 0) (B (decide (gA M 0<0))) (I 0) (B ((gA G 0).tmod 2==1)))) (Rn S N O G (!(gA J 0==gA E 0&&(gA J 1==gA E 1&&true))) (I (-1)) (B (decide (gA M 0<0))) (I (-1)) (B ((gA G 0).tmod 2==1))))))))):=by kernel_rfl
def I3:=Yc Fz Ii Gr Ke U1 E5 Gn GN
theorem Zh7:Ai PG (Qg0 Fz Ii Gr Ke U1 E5 Gn GN):=Ap rfl ⟨Qla,Zdq,Qe1,Q5k,Ztd,VC,Qoh,WG,trivial⟩
theorem Qvg:Am PG (Q6b I3):=rw1 (C:=Qg0 Fz Ii Gr Ke U1 E5 Gn GN) Zh7
def Qi5:Sk:=⟨[TS.v true [ci,ci,ci],TS.v true [ci,ci,ci],tf [ci]],[],[]⟩
def Y4:Sk:=⟨[TS.tup [(true,[ci,ci,ci]),(false,[sb])]],[],[]⟩
def Qwn:=qa 214 Qi5 Y4
def Qib (E:Fn):Cfg:={cf [Q6b E]with unroll:=[5,10]}
def Qrj (E:Fn):Fn:=An PG (Qib E) 64 214 Qi5 Y4
theorem Zhr (T:Fn) (E G J M N O S:Int):Qrj T [I E,I G,I J,I M,I N,I O,I S]=
 cond (M==E&&(N==G&&(O==J&&true))) (some [I 0,I 0,I 0,B false]) (cond (decide (S<0)) (some [I 0,I 0,I 0,B false]) (cond (decide (S>33554432)) (some [I 0,I 0,I 0,B false]) ((T [I (V (M-E)),I S,I (V (V (V (0+V (V (M-E)*V (M-E)))+V (V (N-G)*V (N-G)))+V (V (O-J)*V (O-J)))),I 2]).bind λo3=>
 (T [I (V (N-G)),I S,I (V (V (V (0+V (V (M-E)*V (M-E)))+V (V (N-G)*V (N-G)))+V (V (O-J)*V (O-J)))),I 2]).bind λo4=>
 (T [I (V (O-J)),I S,I (V (V (V (0+V (V (M-E)*V (M-E)))+V (V (N-G)*V (N-G)))+V (V (O-J)*V (O-J)))),I 2]).bind λU=>
 some [I (V (E+gA o3 0)),I (V (G+gA o4 0)),I (V (J+gA U 0)),B true]))):=by kernel_rfl
def Hi:=Qrj I3
theorem Zrg:Ai PG (Qib I3):=Ap rfl ⟨Qvg,trivial⟩
theorem Q4i:Am PG (Qwn Hi):=rw1 (C:=Qib I3) Zrg
def Z52:=qa 213 Qh5 Qae
def Wl (E G I:Fn):Cfg:=cf [Qys E,Qwn G,Qus I]
def Qs1:Sk:=⟨[td,td,td,tf [ci],tf [sd 4 0],tf [sd 5 0],tf [sd 6 0],td,td,tf [ci],tf [ci],tf [ci]]++dd 62,[(4,54,[ci,ci,ci]),(5,54,[ci,ci,ci]),(6,54,[ci,ci,ci])],[]⟩
def Q40:List (Ex×Sk):=[(Ex.exit 0,⟨dd 10++[tf [ci]]++dd 63,[],[]⟩)]
def Oo (E G I:Fn):Lp:=A5 PG (Wl E G I) 64 6 (A4 PG 213 6) Qs1 Q40
def Zaf (E G I:Fn) (J:Lp):Cfg:=(Wl E G I).loop 6 Qs1 Q40 J
def Qn0 (E G I:Fn) (J:Lp):Fn:=An PG (Zaf E G I J) 64 213 Qh5 Qae
theorem Q6z (Dg X DC:Fn) (v0 O G E S T U J M N v10 v11 v12:Int):Oo Dg X DC [I v0,I O,I G,I E,I S,I T,I U,I J,I M,I N,I v10,I v11,I v12]=
 cond (decide (E>0)) (cond (decide (V (G+E)>O)) (some (0,[I v0,I O,I G,I (E.fdiv (2^min (Int.toNat 1) IntKind.i64.bits)),I S,I T,I U,I J,I M,I N,I v10,I v11,I v12])) ((X [I J,I M,I N,I S,I T,I U,I (V (G+E))]).bind λY=>
 (X [I J,I M,I N,I v10,I v11,I v12,I (V (G+E))]).bind λo9=>
 (Dg [jA Y 0,jA Y 1,jA Y 2,I J,I M,I N,jA o9 0,jA o9 1,jA o9 2]).bind λa0=>
 cond (decide (gA a0 0<=V (V (16*v0)*v0))) (some (0,[I v0,I O,I (V (G+E)),I (E.fdiv (2^min (Int.toNat 1) IntKind.i64.bits)),I S,I T,I U,I J,I M,I N,I v10,I v11,I v12])) (some (0,[I v0,I O,I G,I (E.fdiv (2^min (Int.toNat 1) IntKind.i64.bits)),I S,I T,I U,I J,I M,I N,I v10,I v11,I v12])))) (some (1,[I G])):=by kernel_rfl
theorem Znc (Dg CZ Y:Fn) (N6:Lp) (N O S G J M T U X x9:Int):Qn0 Dg CZ Y N6 [I N,I O,I S,I G,I J,I M,I T,I U,I X,I x9]=
 cond (N==G&&(O==J&&(S==M&&true))) (some [I 0]) (cond (T==G&&(U==J&&(X==M&&true))) (some [I 0]) ((Y [I N,I O,I S,I G,I J,I M]).bind λa0=>
 (Y [I G,I J,I M,I T,I U,I X]).bind λa1=>
 (N6 [I x9,I (V (mn (gA a0 0) (gA a1 0)-2)),I 0,I 16777216,I N,I O,I S,I G,I J,I M,I T,I U,I X]).bind λE=>
 cond (E.1.beq 1) (cond (decide (gA E.2 0<16)) (some [I 0]) (some [jA E.2 0])) (none))):=by kernel_rfl
def Q7h:=Ak (Oo Ht Hi JJ)
def Mi:=Qn0 Ht Hi JJ Q7h
theorem Qu4:Ai PG (Wl Ht Hi JJ):=Ap rfl ⟨Qzj,Q4i,Qv9,trivial⟩
theorem Zpn:Am PG (Z52 Mi):=rw2 (C:=Zaf Ht Hi JJ Q7h) (fl fb Qu4) Qu4
def Zjc:=qa 208 Qh5 Qbo
def Qd2 (E G I J:Fn):Cfg:={cf [Nh E,Zmc G,Qwn I,Z52 J]with unroll:=[13]}
def Zdu:Sk:=⟨[td,td,td,td,td,tf [sd 5 0],td,td,td,td,tf [sd 10 0],td,tf [sd 12 0],td,tf [ci],tf [se 50 3]]++dd 36++[tf [ci],tf [ci]]++dd 57,[(5,54,[ci,ci,ci]),(10,54,[ci,ci,ci]),(12,54,[ci,ci,ci])],[(50,54,kPt)]⟩
def Qs6:List (Ex×Sk):=[(Ex.exit 0,⟨dd 15++[tf [se 50 3]]++dd 95,[],[(50,54,kPt)]⟩)]
def Pm (E G I J:Fn):Lp:=A5 PG (Qd2 E G I J) 64 9 (A4 PG 208 9) Zdu Qs6
def Q8z (E G I J:Fn) (M:Lp):Cfg:=(Qd2 E G I J).loop 9 Zdu Qs6 M
def Qmb (E G I J:Fn) (M:Lp):Fn:=An PG (Q8z E G I J M) 64 208 Qh5 Qbo
theorem Qta (T Hw CZ GW:Fn) (v0:Rw) (O U E G J M X Y v9 v10 v11 v12:Int):Pm T Hw CZ GW [.vC kPt v0,I O,I U,I E,I G,I J,I M,I X,I Y,I v9,I v10,I v11,I v12]=
 cond (decide (E<U)) (cond (decide (0<=E)&&decide (E<(v0.length:Int))) ((T [I (V (V (V (V (O-E)*V (O-E))*V (X-G))+V (V (E*E)*V (v10-G)))),I 1,I (V (O*O)),I 2]).bind λN=>
 cond (decide (0<=E)&&decide (E<(v0.length:Int))) (cond (decide (0<=E)&&decide (E<(v0.length:Int))) ((T [I (V (V (V (V (O-E)*V (O-E))*V (Y-J))+V (V (E*E)*V (v11-J)))),I 1,I (V (O*O)),I 2]).bind λS=>
 cond (decide (0<=E)&&decide (E<(v0.length:Int))) (cond (decide (0<=E)&&decide (E<(v0.length:Int))) ((T [I (V (V (V (V (O-E)*V (O-E))*V (v9-M))+V (V (E*E)*V (v12-M)))),I 1,I (V (O*O)),I 2]).bind λa0=>
 cond (decide (0<=E)&&decide (E<(v0.length:Int))) (cond (decide (0<=E)&&decide (E<(v0.length:Int))) (some (0,[.vC kPt ((((v0.set E.toNat [I G,I J,I M]).set E.toNat [I (V (Ah (nth .dead (nth [] (v0.set E.toNat [I G,I J,I M]) E.toNat) 0)+gA N 0)),I (Ah (nth .dead (nth [] (v0.set E.toNat [I G,I J,I M]) E.toNat) 1)),I (Ah (nth .dead (nth [] (v0.set E.toNat [I G,I J,I M]) E.toNat) 2))]).set E.toNat [I (Ah (nth .dead (nth [] ((v0.set E.toNat [I G,I J,I M]).set E.toNat [I (V (Ah (nth .dead (nth [] (v0.set E.toNat [I G,I J,I M]) E.toNat) 0)+gA N 0)),I (Ah (nth .dead (nth [] (v0.set E.toNat [I G,I J,I M]) E.toNat) 1)),I (Ah (nth .dead (nth [] (v0.set E.toNat [I G,I J,I M]) E.toNat) 2))]) E.toNat) 0)),I (V (Ah (nth .dead (nth [] ((v0.set E.toNat [I G,I J,I M]).set E.toNat [I (V (Ah (nth .dead (nth [] (v0.set E.toNat [I G,I J,I M]) E.toNat) 0)+gA N 0)),I (Ah (nth .dead (nth [] (v0.set E.toNat [I G,I J,I M]) E.toNat) 1)),I (Ah (nth .dead (nth [] (v0.set E.toNat [I G,I J,I M]) E.toNat) 2))]) E.toNat) 1)+gA S 0)),I (Ah (nth .dead (nth [] ((v0.set E.toNat [I G,I J,I M]).set E.toNat [I (V (Ah (nth .dead (nth [] (v0.set E.toNat [I G,I J,I M]) E.toNat) 0)+gA N 0)),I (Ah (nth .dead (nth [] (v0.set E.toNat [I G,I J,I M]) E.toNat) 1)),I (Ah (nth .dead (nth [] (v0.set E.toNat [I G,I J,I M]) E.toNat) 2))]) E.toNat) 2))]).set E.toNat [I (Ah (nth .dead (nth [] (((v0.set E.toNat [I G,I J,I M]).set E.toNat [I (V (Ah (nth .dead (nth [] (v0.set E.toNat [I G,I J,I M]) E.toNat) 0)+gA N 0)),I (Ah (nth .dead (nth [] (v0.set E.toNat [I G,I J,I M]) E.toNat) 1)),I (Ah (nth .dead (nth [] (v0.set E.toNat [I G,I J,I M]) E.toNat) 2))]).set E.toNat [I (Ah (nth .dead (nth [] ((v0.set E.toNat [I G,I J,I M]).set E.toNat [I (V (Ah (nth .dead (nth [] (v0.set E.toNat [I G,I J,I M]) E.toNat) 0)+gA N 0)),I (Ah (nth .dead (nth [] (v0.set E.toNat [I G,I J,I M]) E.toNat) 1)),I (Ah (nth .dead (nth [] (v0.set E.toNat [I G,I J,I M]) E.toNat) 2))]) E.toNat) 0)),I (V (Ah (nth .dead (nth [] ((v0.set E.toNat [I G,I J,I M]).set E.toNat [I (V (Ah (nth .dead (nth [] (v0.set E.toNat [I G,I J,I M]) E.toNat) 0)+gA N 0)),I (Ah (nth .dead (nth [] (v0.set E.toNat [I G,I J,I M]) E.toNat) 1)),I (Ah (nth .dead (nth [] (v0.set E.toNat [I G,I J,I M]) E.toNat) 2))]) E.toNat) 1)+gA S 0)),I (Ah (nth .dead (nth [] ((v0.set E.toNat [I G,I J,I M]).set E.toNat [I (V (Ah (nth .dead (nth [] (v0.set E.toNat [I G,I J,I M]) E.toNat) 0)+gA N 0)),I (Ah (nth .dead (nth [] (v0.set E.toNat [I G,I J,I M]) E.toNat) 1)),I (Ah (nth .dead (nth [] (v0.set E.toNat [I G,I J,I M]) E.toNat) 2))]) E.toNat) 2))]) E.toNat) 0)),I (Ah (nth .dead (nth [] (((v0.set E.toNat [I G,I J,I M]).set E.toNat [I (V (Ah (nth .dead (nth [] (v0.set E.toNat [I G,I J,I M]) E.toNat) 0)+gA N 0)),I (Ah (nth .dead (nth [] (v0.set E.toNat [I G,I J,I M]) E.toNat) 1)),I (Ah (nth .dead (nth [] (v0.set E.toNat [I G,I J,I M]) E.toNat) 2))]).set E.toNat [I (Ah (nth .dead (nth [] ((v0.set E.toNat [I G,I J,I M]).set E.toNat [I (V (Ah (nth .dead (nth [] (v0.set E.toNat [I G,I J,I M]) E.toNat) 0)+gA N 0)),I (Ah (nth .dead (nth [] (v0.set E.toNat [I G,I J,I M]) E.toNat) 1)),I (Ah (nth .dead (nth [] (v0.set E.toNat [I G,I J,I M]) E.toNat) 2))]) E.toNat) 0)),I (V (Ah (nth .dead (nth [] ((v0.set E.toNat [I G,I J,I M]).set E.toNat [I (V (Ah (nth .dead (nth [] (v0.set E.toNat [I G,I J,I M]) E.toNat) 0)+gA N 0)),I (Ah (nth .dead (nth [] (v0.set E.toNat [I G,I J,I M]) E.toNat) 1)),I (Ah (nth .dead (nth [] (v0.set E.toNat [I G,I J,I M]) E.toNat) 2))]) E.toNat) 1)+gA S 0)),I (Ah (nth .dead (nth [] ((v0.set E.toNat [I G,I J,I M]).set E.toNat [I (V (Ah (nth .dead (nth [] (v0.set E.toNat [I G,I J,I M]) E.toNat) 0)+gA N 0)),I (Ah (nth .dead (nth [] (v0.set E.toNat [I G,I J,I M]) E.toNat) 1)),I (Ah (nth .dead (nth [] (v0.set E.toNat [I G,I J,I M]) E.toNat) 2))]) E.toNat) 2))]) E.toNat) 1)),I (V (Ah (nth .dead (nth [] (((v0.set E.toNat [I G,I J,I M]).set E.toNat [I (V (Ah (nth .dead (nth [] (v0.set E.toNat [I G,I J,I M]) E.toNat) 0)+gA N 0)),I (Ah (nth .dead (nth [] (v0.set E.toNat [I G,I J,I M]) E.toNat) 1)),I (Ah (nth .dead (nth [] (v0.set E.toNat [I G,I J,I M]) E.toNat) 2))]).set E.toNat [I (Ah (nth .dead (nth [] ((v0.set E.toNat [I G,I J,I M]).set E.toNat [I (V (Ah (nth .dead (nth [] (v0.set E.toNat [I G,I J,I M]) E.toNat) 0)+gA N 0)),I (Ah (nth .dead (nth [] (v0.set E.toNat [I G,I J,I M]) E.toNat) 1)),I (Ah (nth .dead (nth [] (v0.set E.toNat [I G,I J,I M]) E.toNat) 2))]) E.toNat) 0)),I (V (Ah (nth .dead (nth [] ((v0.set E.toNat [I G,I J,I M]).set E.toNat [I (V (Ah (nth .dead (nth [] (v0.set E.toNat [I G,I J,I M]) E.toNat) 0)+gA N 0)),I (Ah (nth .dead (nth [] (v0.set E.toNat [I G,I J,I M]) E.toNat) 1)),I (Ah (nth .dead (nth [] (v0.set E.toNat [I G,I J,I M]) E.toNat) 2))]) E.toNat) 1)+gA S 0)),I (Ah (nth .dead (nth [] ((v0.set E.toNat [I G,I J,I M]).set E.toNat [I (V (Ah (nth .dead (nth [] (v0.set E.toNat [I G,I J,I M]) E.toNat) 0)+gA N 0)),I (Ah (nth .dead (nth [] (v0.set E.toNat [I G,I J,I M]) E.toNat) 1)),I (Ah (nth .dead (nth [] (v0.set E.toNat [I G,I J,I M]) E.toNat) 2))]) E.toNat) 2))]) E.toNat) 2)+gA a0 0))]),I O,I U,I (V (E+1)),I G,I J,I M,I X,I Y,I v9,I v10,I v11,I v12])) (none)) (none)) (none)) (none)) (none)) (none)) (none)) (some (1,[.vC kPt v0])):=by kernel_rfl
theorem Q4s (AQ Hw U GW:Fn) (N9:Lp) (X Y x2 M N O x6 x7 x8 x9:Int):Qmb AQ Hw U GW N9 [I X,I Y,I x2,I M,I N,I O,I x6,I x7,I x8,I x9]=
 (GW [I X,I Y,I x2,I M,I N,I O,I x6,I x7,I x8,I x9]).bind λS=>
 cond (gA S 0==0) (some [.vC kPt [[I M,I N,I O]]]) ((U [I M,I N,I O,I X,I Y,I x2,jA S 0]).bind λG=>
 (U [I M,I N,I O,I x6,I x7,I x8,jA S 0]).bind λJ=>
 (Hw [jA G 0,jA G 1,jA G 2,I M,I N,I O,jA J 0,jA J 1,jA J 2]).bind λE=>
 cond (decide (V (gA E 0+1)=V (gA E 0+1))) (cond (decide (0<=V (gA E 0+1))&&decide (V (gA E 0+1)*(↑24:Int)<=140737488355328)) ((N9 [.vC kPt (List.replicate (V (gA E 0+1)).toNat [I 0,I 0,I 0]),jA E 0,I (↑(List.replicate (V (gA E 0+1)).toNat [I 0,I 0,I 0]).length:Int),I 0,I M,I N,I O,jA G 0,jA G 1,jA G 2,jA J 0,jA J 1,jA J 2]).bind λT=>
 cond (T.1.beq 1) (some [.vC kPt (wA T.2 0)]) (none)) (none)) (none)):=by kernel_rfl
def Q3n:=Ak (Pm BM K6 Hi Mi)
def P5:=Qmb BM K6 Hi Mi Q3n
theorem Q6o:Ai PG (Qd2 BM K6 Hi Mi):=Ap rfl ⟨LN,Zgn,Q4i,Zpn,trivial⟩
theorem Z3f:Am PG (Zjc P5):=rw2 (C:=Q8z BM K6 Hi Mi Q3n) (fl fb Q6o) Q6o
def Zzz:=qa 209 Qbn Qbn
def Qyd:Fn:=An PG Qcv 64 209 Qbn Qbn
theorem Zni (E G J:Int):Qyd [I E,I G,I J]=
 some [I (V (E*16)),I (V (G*16)),I (V (J*16))]:=by kernel_rfl
def OW:=Qyd
theorem Zog:Am PG (Zzz OW):=rw1 (C:=Qcv) Zft
def Qbq:Sk:=⟨[TS.v true (cc 13++[sb,ci,sb]++cc 5++[sb]),TS.v true (cc 13++[sb,ci,sb]++cc 5++[sb])],[],[]⟩
def Qso:Sk:=⟨[TS.tup [(false,[sa kPt]),(false,[sa kPt])]],[],[]⟩
def Zf5:=qa 194 Qbq Qso
def Qhc (E G I:Fn):Cfg:=cf [Zjc E,Zzz G,Qdy I]
def Qjh (E G I:Fn):Fn:=An PG (Qhc E G I) 64 194 Qbq Qso
theorem Z8y (NI O0 Cp:Fn) (x0 x1 x2 x3 x4 x5 x6 x7 x8 x9 J M N:Int) (O:Bool) (S:Int) (T:Bool) (U X G Y a0:Int) (a1:Bool) (a2 a3 a4 a5 a6 a7 a8 a9 b0 b1 b2 b3 b4:Int) (b5:Bool) (b6:Int) (b7:Bool) (b8 b9 c0 c1 c2:Int) (c3:Bool):Qjh NI O0 Cp [I x0,I x1,I x2,I x3,I x4,I x5,I x6,I x7,I x8,I x9,I J,I M,I N,B O,I S,B T,I U,I X,I G,I Y,I a0,B a1,I a2,I a3,I a4,I a5,I a6,I a7,I a8,I a9,I b0,I b1,I b2,I b3,I b4,B b5,I b6,B b7,I b8,I b9,I c0,I c1,I c2,B c3]=
 (Cp [I x0,I x1,I x2,I x3,I x4,I x5,I x6,I x7,I x8,I x9,I J,I M,I N,B O,I S,B T,I U,I X,I G,I Y,I a0,B a1]).bind λo4=>
 (O0 [I x5,I x6,I x7]).bind λo5=>
 (Cp [I a2,I a3,I a4,I a5,I a6,I a7,I a8,I a9,I b0,I b1,I b2,I b3,I b4,B b5,I b6,B b7,I b8,I b9,I c0,I c1,I c2,B c3]).bind λo6=>
 (NI [jA o4 0,jA o4 1,jA o4 2,jA o5 0,jA o5 1,jA o5 2,jA o6 0,jA o6 1,jA o6 2,I (V (G*16))]).bind λE=>
 cond (decide (0<=V (V ((V ((↑(wA E 0).length:Int)-1)).tdiv 2)+1))&&decide (V (V ((V ((↑(wA E 0).length:Int)-1)).tdiv 2)+1)<=(↑(wA E 0).length:Int))) (cond (decide (0<=V ((V ((↑(wA E 0).length:Int)-1)).tdiv 2))&&decide (V ((V ((↑(wA E 0).length:Int)-1)).tdiv 2)<=(↑(wA E 0).length:Int))) (some [.vC kPt (List.take (V (V ((V ((↑(wA E 0).length:Int)-1)).tdiv 2)+1)).toNat (wA E 0)), .vC kPt (List.drop (V ((V ((↑(wA E 0).length:Int)-1)).tdiv 2)).toNat (wA E 0))]) (none)) (none):=by kernel_rfl
def RS:=Qjh P5 OW GJ
theorem Zz5:Ai PG (Qhc P5 OW GJ):=Ap rfl ⟨Z3f,Zog,Qsi,trivial⟩
theorem Z2f:Am PG (Zf5 RS):=rw1 (C:=Qhc P5 OW GJ) Zz5
def Qg5:Sk:=⟨[TS.tup [(false,[ci]),(false,[ci]),(false,[ci]),(false,[sb])]],[],[]⟩
def Qpo:=qa 188 Qae Qg5
def Qux:Fn:=An PG Qcv 64 188 Qae Qg5
theorem Z1y (E:Int):Qux [I E]=
 cond (E==17) (some [I 0,I 1,I 2,B true]) (cond (E==18) (some [I 2,I 0,I 1,B true]) (cond (E==19) (some [I 1,I 2,I 0,B true]) (some [I 0,I 0,I 0,B false]))):=by kernel_rfl
def F5:=Qux
theorem Qqd:Am PG (Qpo F5):=rw1 (C:=Qcv) Zft
def Zhn:=qa 207 X4 Qbn
def Qh0 (E:Fn):Cfg:=cf [Qpo E]
def Qjc (E:Fn):Fn:=An PG (Qh0 E) 64 207 X4 Qbn
abbrev U4 (o1:List AC) (M:Int) (E G J:AC):Option (List AC):=
 cond (decide (gA o1 2=(↑0:Int))) (some [I M,E,G]) (cond (decide (gA o1 2=(↑(0+1):Int))) (some [J,I M,G]) (cond (decide (gA o1 2=(↑(0+1+1):Int))) (some [J,E,I M]) (none)))
abbrev S1 (o1:List AC) (M N:Int) (E G J:AC):Option (List AC):=
 cond (decide (gA o1 1=(↑0:Int))) (U4 o1 M E G (I N)) (cond (decide (gA o1 1=(↑(0+1):Int))) (U4 o1 M (I N) G J) (cond (decide (gA o1 1=(↑(0+1+1):Int))) (U4 o1 M E (I N) J) (none)))
theorem Zwj (M:Fn) (E G J N:Int):Qjc M [I E,I G,I J,I N]=
 (M [I N]).bind λo1=>
 cond (bA o1 3) (cond (decide (gA o1 0=(↑0:Int))) (S1 o1 J G (I 0) (I 0) (I E)) (cond (decide (gA o1 0=(↑(0+1):Int))) (S1 o1 J G (I E) (I 0) (I 0)) (cond (decide (gA o1 0=(↑(0+1+1):Int))) (S1 o1 J G (I 0) (I E) (I 0)) (none)))) (some [I 0,I 0,I 0]):=by kernel_rfl
def NB:=Qjc F5
theorem Z88:Ai PG (Qh0 F5):=Ap rfl ⟨Qqd,trivial⟩
theorem Z2z:Am PG (Zhn NB):=rw1 (C:=Qh0 F5) Z88
def Qkf:Sk:=⟨[TS.tup [(false,[ci]),(false,[ci]),(false,[ci])]],[],[]⟩
def Qy6:=qa 203 Qi1 Qkf
def WT (E:Fn):Cfg:=cf [Qpo E]
def V9 (E:Fn):Fn:=An PG (WT E) 64 203 Qi1 Qkf
abbrev S3 (o1:List AC) (E:AC) (J M N:Int) (G:AC):Option (List AC):=
 cond (decide (gA o1 2=(↑0:Int))) (some [E,G,I J]) (cond (decide (gA o1 2=(↑(0+1):Int))) (some [E,G,I M]) (cond (decide (gA o1 2=(↑(0+1+1):Int))) (some [E,G,I N]) (none)))
abbrev TZ (o1:List AC) (G J M:Int) (E:AC):Option (List AC):=
 cond (decide (gA o1 1=(↑0:Int))) (S3 o1 E G J M (I G)) (cond (decide (gA o1 1=(↑(0+1):Int))) (S3 o1 E G J M (I J)) (cond (decide (gA o1 1=(↑(0+1+1):Int))) (S3 o1 E G J M (I M)) (none)))
theorem Z8x (M:Fn) (E G J N:Int):V9 M [I E,I G,I J,I N]=
 (M [I N]).bind λo1=>
 cond (!bA o1 3) (some [I 0,I 0,I 0]) (cond (decide (gA o1 0=(↑0:Int))) (TZ o1 E G J (I E)) (cond (decide (gA o1 0=(↑(0+1):Int))) (TZ o1 E G J (I G)) (cond (decide (gA o1 0=(↑(0+1+1):Int))) (TZ o1 E G J (I J)) (none)))):=by kernel_rfl
def Iq:=V9 F5
theorem Zju:Ai PG (WT F5):=Ap rfl ⟨Qqd,trivial⟩
theorem Qw0:Am PG (Qy6 Iq):=rw1 (C:=WT F5) Zju
def Zbt:=qa 204 Qbn Qbn
def Quz:Fn:=An PG Qcv 64 204 Qbn Qbn
theorem Zno (E G J:Int):Quz [I E,I G,I J]=
 some [I (V (E*16)),I (V (G*16)),I (V (J*16))]:=by kernel_rfl
def HU:=Quz
theorem Q8v:Am PG (Zbt HU):=rw1 (C:=Qcv) Zft
def Qp7:Sk:=⟨[TS.v true [ci,ci,ci,ci],TS.v true [ci,ci,ci,ci]],[],[]⟩
def Qj6:=qa 192 Qp7 Qae
def Qwj:Fn:=An PG Qcv 64 192 Qp7 Qae
theorem Znr (E G N O J M S T:Int):Qwj [I E,I G,I N,I O,I J,I M,I S,I T]=
 some [I (V (V (E*M)-V (G*J)))]:=by kernel_rfl
def Hv:=Qwj
theorem X3:Am PG (Qj6 Hv):=rw1 (C:=Qcv) Zft
def Qri:=qa 190 Qp7 Qae
def Qyg:Fn:=An PG Qcv 64 190 Qp7 Qae
theorem Zx1 (E G N O J M S T:Int):Qyg [I E,I G,I N,I O,I J,I M,I S,I T]=
 some [I (V (V (E*J)+V (G*M)))]:=by kernel_rfl
def G2:=Qyg
theorem Qbj:Am PG (Qri G2):=rw1 (C:=Qcv) Zft
def Qnj:Sk:=⟨[TS.v true [ci,ci,ci,ci],TS.v true [ci,ci,ci,ci],tf [ci],tf [sb]],[],[]⟩
def Qfc:Sk:=⟨[TS.tup [(true,[ci,ci,ci,ci]),(false,[sb])]],[],[]⟩
def Z6a:=qa 218 Qnj Qfc
def Qio (E G I:Fn):Cfg:=cf [Q6b E,Qj6 G,Qri I]
def Qf2 (E G I:Fn):Fn:=An PG (Qio E G I) 64 218 Qnj Qfc
abbrev Qcq (T:Fn) (G:AC) (M N:Int) (E J:AC) (U X:Int):Option (List AC):=
 (T [G,I ((V (V (M+N)+1)).fdiv (2^min (Int.toNat 1) IntKind.i64.bits)),E,I 2]).bind λO=>
 (T [J,I ((V (V (M+N)+1)).fdiv (2^min (Int.toNat 1) IntKind.i64.bits)),E,I 2]).bind λS=>
 some [jA O 0,jA S 0,I ((V (V (M+N)+1)).fdiv (2^min (Int.toNat 1) IntKind.i64.bits)),I ((V (V (U+X)+1)).fdiv (2^min (Int.toNat 1) IntKind.i64.bits)),B true]
abbrev RO (O:Fn) (S T U V:Int) (M N:Bool) (E G J:AC):Option (List AC):=
 cond (M) (cond (N) (some [I 0,I 0,I 0,I 0,B false]) (Qcq O E S T G J U V)) (Qcq O E S T G J U V)
abbrev ZY (x9:Bool) (X:Fn) (O S T U E G:Int) (CG:Fn) (J M N:Int) (Dd:Fn):Option (List AC):=
 cond (x9) (RO X O S T U (V (0-E)==0) (V (0-G)==0) (I (V (0-E))) (I (V (V (V (0-E)*V (0-E))+V (V (0-G)*V (0-G))))) (I (V (0-G)))) ((CG [I E,I G,I O,I T,I J,I M,I S,I U]).bind λY=>
 cond (decide (gA Y 0<=0)) (RO X O S T U (V (N*V (M-G))==0) (V (N*V (E-J))==0) (I (V (N*V (M-G)))) (I (V (V (V (N*V (M-G))*V (N*V (M-G)))+V (V (N*V (E-J))*V (N*V (E-J)))))) (I (V (N*V (E-J))))) ((Dd [I E,I G,I O,I T,I J,I M,I S,I U]).bind λa0=>
 cond (decide (V (gA a0 0*N)<=0)) (RO X O S T U (V (0-V (E+J))==0) (V (0-V (G+M))==0) (I (V (0-V (E+J)))) (I (V (V (V (0-V (E+J))*V (0-V (E+J)))+V (V (0-V (G+M))*V (0-V (G+M)))))) (I (V (0-V (G+M))))) (RO X O S T U (V (E+J)==0) (V (G+M)==0) (I (V (E+J))) (I (V (V (V (E+J)*V (E+J))+V (V (G+M)*V (G+M))))) (I (V (G+M))))))
theorem Zpg (G J M:Fn) (N O S T U V X Y E:Int) (x9:Bool):Qf2 G J M [I N,I O,I S,I T,I U,I V,I X,I Y,I E,B x9]=
 cond (E !=1) (cond (E != -1) (some [I 0,I 0,I 0,I 0,B false]) (ZY x9 G S X T Y N O M U V E J)) (ZY x9 G S X T Y N O M U V E J):=by kernel_rfl
def Nt:=Qf2 I3 Hv G2
theorem Z1w:Ai PG (Qio I3 Hv G2):=Ap rfl ⟨Qvg,X3,Qbj,trivial⟩
theorem Z3b:Am PG (Z6a Nt):=rw1 (C:=Qio I3 Hv G2) Z1w
def Zvb:=qa 223 ZS Qqn
def Q48:Fn:=An PG Qcv 64 223 ZS Qqn
theorem Zzn (E G:Int):Q48 [I E,I G]=
 some [B (decide (G<=V (V (V (8*E)*4)-64)))]:=by kernel_rfl
def OH:=Q48
theorem Ze7:Am PG (Zvb OH):=rw1 (C:=Qcv) Zft
def Qfm:Sk:=⟨[tf [sd 20000 0],TS.v true [ci,ci,ci,ci],TS.v true [ci,ci,ci,ci],tf [sb]],[(20000,254,[ci,se 20000 4])],[(20000,231,[kI,kI,kI,kI])]⟩
def XJ:Sk:=⟨[tf [sb]],[(20000,254,[ci,se 20000 4])],[(20000,231,[kI,kI,kI,kI])]⟩
def Zl9:=qa 217 Qfm XJ
def Qr2 (E G:Fn):Cfg:=cf [Zvb E,Qj6 G]
def Qi4 (E G:Fn):Fn:=An PG (Qr2 E G) 64 217 Qfm XJ
theorem Zie (U X:Fn) (G:Rw) (J M S Y N O T x8:Int) (x9:Bool) (E:Int):Qi4 U X [.vC [kI,kI,kI,kI] G,I J,I M,I S,I Y,I N,I O,I T,I x8,B x9,I E]=
 cond (!x9) ((X [I J,I M,I S,I Y,I N,I O,I T,I x8]).bind λo2=>
 cond (decide (V (gA o2 0*E)>0)) ((U [I (mn S T),I (V (V (V (J-N)*V (J-N))+V (V (M-O)*V (M-O))))]).bind λo3=>
 some [.vC [kI,kI,kI,kI] G,B (bA o3 0),I E]) (some [.vC [kI,kI,kI,kI] G,B false,I E])) (some [.vC [kI,kI,kI,kI] G,B false,I E]):=by kernel_rfl
def L3:=Qi4 OH Hv
theorem Zu9:Ai PG (Qr2 OH Hv):=Ap rfl ⟨Ze7,X3,trivial⟩
theorem Zqa:Am PG (Zl9 L3):=rw1 (C:=Qr2 OH Hv) Zu9
def Qzm:Nat:=20
def M8:Sk:=⟨[tf [sd 20000 0],TS.v true [ci,ci,ci,ci],TS.v true [ci,ci,ci,ci],tf [sb],tf [ci]],[(20000,254,[ci,se 20000 4])],[(20000,231,[kI,kI,kI,kI])]⟩
def Nq:Sk:=⟨[TS.tup []],[(20000,254,[ci,se 20000 4])],[(20000,231,[kI,kI,kI,kI])]⟩
def Zd5:=qa 212 M8 Nq
def Qpz (E G I:Fn):Cfg:=cp [Zd5 E,Z6a G,Zl9 I] [212,217]
def Vv (E G I:Fn):Fn:=An PG (Qpz E G I) 64 212 M8 Nq
theorem Qto (F4 Ox OE:Fn) (T:Rw) (U X Y x4 E G J M:Int) (x9:Bool) (N S:Int):Vv F4 Ox OE [.vC [kI,kI,kI,kI] T,I U,I X,I Y,I x4,I E,I G,I J,I M,B x9,I N,I S]=
 cond (decide (N<16)) ((OE [.vC [kI,kI,kI,kI] T,I U,I X,I Y,I x4,I E,I G,I J,I M,B x9,I S]).bind λo4=>
 cond (!bA o4 1) ((Ox [I U,I X,I Y,I x4,I E,I G,I J,I M,jA o4 2,B x9]).bind λO=>
 cond (bA O 4) ((F4 [.vC [kI,kI,kI,kI] (wA o4 0),I U,I X,I Y,I x4,jA O 0,jA O 1,jA O 2,jA O 3,B false,I (V (N+1)),jA o4 2]).bind λo6=>
 (F4 [.vC [kI,kI,kI,kI] (wA o6 0),jA O 0,jA O 1,jA O 2,jA O 3,I E,I G,I J,I M,B false,I (V (N+1)),jA o6 1]).bind λo7=>
 some [.vC [kI,kI,kI,kI] (wA o7 0),jA o7 1]) (cond (((wA o4 0++[[I E,I G,I J,I M]]).length*32).ble 140737488355328) (some [.vC [kI,kI,kI,kI] (wA o4 0++[[I E,I G,I J,I M]]),jA o4 2]) (none))) (cond (((wA o4 0++[[I E,I G,I J,I M]]).length*32).ble 140737488355328) (some [.vC [kI,kI,kI,kI] (wA o4 0++[[I E,I G,I J,I M]]),jA o4 2]) (none))) (cond (((T++[[I E,I G,I J,I M]]).length*32).ble 140737488355328) (some [.vC [kI,kI,kI,kI] (T++[[I E,I G,I J,I M]]),I S]) (none)):=by kernel_rfl
def Zdn (M:Fn):Fn:=Vv M Nt L3
def OV:Nat->Fn
 |0=>λ_=>none
 |n+1=>Zdn (OV n)
theorem Zzu {M:Fn} (h:Am PG (212,Ad M8 Nq M)):Ai PG (Qpz M Nt L3):=Ap rfl ⟨h,Z3b,Zqa,trivial⟩
theorem Zii {M:Fn} (h:Am PG (212,Ad M8 Nq M)):Am PG (212,Ad M8 Nq (Zdn M)):=Qpy (C:=Qpz M Nt L3) (L:=64) (by kernel_rfl) (FnOK.bare rfl rfl rfl) (Zzu h) eqOk FI (by kernel_rfl) (by kernel_rfl)
theorem Zbd:∀n,Am PG (212,Ad M8 Nq (OV n))
 |0=>Z6g
 |n+1=>Zii (Zbd n)
def Ti:=OV Qzm
theorem Zxk:Am PG (Zd5 Ti):=Zbd Qzm
def Qe8:Sk:=⟨[TS.tup [(true,[ci,ci,ci,ci]),(true,[ci,ci,ci,ci])]],[],[]⟩
def Q79:=qa 189 Qgh Qe8
def Qbh (E G:Fn):Cfg:=cf [Qy6 E,Zbt G]
def Q29:Sk:=⟨[td,tf [sd 1 0],tf [sd 2 0],tf [sd 3 0],tf [sd 4 0],tf [ci],tf [ci]]++dd 20++[TS.v true (cc 6),tf [ci]]++dd 27,[(1,74,cc 13++[sb,ci,sb]++cc 5++[sb]),(2,231,[ci,ci,ci,ci]),(3,231,[ci,ci,ci,ci]),(4,242,cc 8)],[]⟩
def Q02:List (Ex×Sk):=[(Ex.exit 0,⟨[td,td,tf [sd 2 0],tf [sd 3 0],tf [sd 4 0]]++dd 51,[(2,231,[ci,ci,ci,ci]),(3,231,[ci,ci,ci,ci]),(4,242,cc 8)],[]⟩)]
def Qrm (E G:Fn):Lp:=A5 PG (Qbh E G) 64 4 (A4 PG 189 4) Q29 Q02
def Qwg (E G:Fn) (I:Lp):Cfg:=(Qbh E G).loop 4 Q29 Q02 I
def Zd (E G:Fn) (I:Lp):Fn:=An PG (Qwg E G I) 64 189 Qgh Qe8
abbrev Qji (Cj CA:Fn) (G v8 v0 v1 v2 v3 v4 v5 v6 v7 v9 v10 v11 v12 J M N O S T v20 v21:Int) (v22:Bool) (U:Int) (v24:Bool) (v25 X v27 v28 Y:Int) (v30:Bool) (v31 a0 v33 a1 v35 v36 v37 v38 a5 v44 a6 v46 a7 v40 a8 v42:Int) (a2 a3 a4:AC):Option (Nat×List AC):=
 (Cj [a2,a3,a4]).bind λo9=>
 (CA [jA o9 0,jA o9 1,jA o9 2,I G]).bind λE=>
 cond (decide (v8=(↑0:Int))) (some (0,[I v0,I v1,I v2,I v3,I v4,I v5,I v6,I v7,I (V (v8+1)),I v9,I v10,I v11,I v12,I J,I M,I N,I O,I G,I S,I T,I v20,I v21,B v22,I U,B v24,I v25,I X,I v27,I v28,I Y,B v30,I v31,I a0,I v33,I a1,I v35,I v36,I v37,I v38,I (V (gA E 0-v0)),I (V (gA E 1-v1)),I 0,jA E 2,I a5,I v44,I a6,I v46])) (cond (decide (v8=(↑(0+1):Int))) (some (0,[I v0,I v1,I v2,I v3,I v4,I v5,I v6,I v7,I (V (v8+1)),I v9,I v10,I v11,I v12,I J,I M,I N,I O,I G,I S,I T,I v20,I v21,B v22,I U,B v24,I v25,I X,I v27,I v28,I Y,B v30,I v31,I a0,I v33,I a1,I v35,I v36,I v37,I v38,I a7,I v40,I a8,I v42,I (V (gA E 0-v0)),I (V (gA E 1-v1)),I 0,jA E 2])) (none))
theorem Qps (CA Cj:Fn) (v0 v1 v2 v3 v4 v5 v6 v7 v8 v9 v10 v11 v12 S T U V X Y a0 v20 v21:Int) (v22:Bool) (a1:Int) (v24:Bool) (v25 a2 v27 v28 a3:Int) (v30:Bool) (v31 E v33 G v35 v36 v37 v38 J v40 M v42 N v44 O v46:Int):Qrm CA Cj [I v0,I v1,I v2,I v3,I v4,I v5,I v6,I v7,I v8,I v9,I v10,I v11,I v12,I S,I T,I U,I V,I X,I Y,I a0,I v20,I v21,B v22,I a1,B v24,I v25,I a2,I v27,I v28,I a3,B v30,I v31,I E,I v33,I G,I v35,I v36,I v37,I v38,I J,I v40,I M,I v42,I N,I v44,I O,I v46]=
 cond (decide (v8<2)) (cond (decide (v8=(↑0:Int))) (Qji Cj CA X v8 v0 v1 v2 v3 v4 v5 v6 v7 v9 v10 v11 v12 S T U V Y a0 v20 v21 v22 a1 v24 v25 a2 v27 v28 a3 v30 v31 E v33 G v35 v36 v37 v38 N v44 O v46 J v40 M v42 (I v2) (I v3) (I v4)) (cond (decide (v8=(↑(0+1):Int))) (Qji Cj CA X v8 v0 v1 v2 v3 v4 v5 v6 v7 v9 v10 v11 v12 S T U V Y a0 v20 v21 v22 a1 v24 v25 a2 v27 v28 a3 v30 v31 E v33 G v35 v36 v37 v38 N v44 O v46 J v40 M v42 (I v5) (I v6) (I v7)) (none))) (some (1,[I v31,I E,I v33,I G,I v35,I v36,I v37,I v38,I J,I v40,I M,I v42,I N,I v44,I O,I v46])):=by kernel_rfl
theorem Zws (CA Cj:Fn) (N4:Lp) (x0 x1 x2 x3 x4 x5 x6 x7 x8 x9 G J N:Int) (O:Bool) (S:Int) (T:Bool) (U V X Y a0:Int) (a1:Bool):Zd CA Cj N4 [I x0,I x1,I x2,I x3,I x4,I x5,I x6,I x7,I x8,I x9,I G,I J,I N,B O,I S,B T,I U,I V,I X,I Y,I a0,B a1]=
 (Cj [I x9,I G,I J]).bind λM=>
 (CA [jA M 0,jA M 1,jA M 2,I x8]).bind λa2=>
 (N4 [jA a2 0,jA a2 1,I x2,I x3,I x4,I x5,I x6,I x7,I 0,I x0,I x1,I x2,I x3,I x4,I x5,I x6,I x7,I x8,I x9,I G,I J,I N,B O,I S,B T,I U,I V,I X,I Y,I a0,B a1,I 0,I 0,I 0,I 0,I 0,I 0,I 0,I 0,I 0,I 0,I 0,I 0,I 0,I 0,I 0,I 0]).bind λE=>
 cond (E.1.beq 1) (some [jA E.2 8,jA E.2 9,jA E.2 10,jA E.2 11,jA E.2 12,jA E.2 13,jA E.2 14,jA E.2 15]) (none):=by kernel_rfl
def Zdd:=Ak (Qrm Iq HU)
def Lf:=Zd Iq HU Zdd
theorem Q6s:Ai PG (Qbh Iq HU):=Ap rfl ⟨Qw0,Q8v,trivial⟩
theorem Q7m:Am PG (Q79 Lf):=rw2 (C:=Qwg Iq HU Zdd) (fl fb Q6s) Q6s
def Z7c:=qa 205 X4 Qae
def Qlq (E G I J:Fn):Cfg:=cf [Qsz E,UM G,Qc9 I,X9 J]
def Qp5 (E G I J:Fn):Fn:=An PG (Qlq E G I J) 64 205 X4 Qae
theorem Zek (ED N E O:Fn) (S T X Y:Int):Qp5 ED N E O [I S,I T,I X,I Y]=
 (O [I S,I T]).bind λo9=>
 (O [I X,I Y]).bind λG=>
 cond (gA o9 0 !=gA G 0) (cond (decide (gA o9 0<gA G 0)) (some [I (-1)]) (some [I 1])) ((E [I S]).bind λa0=>
 (E [I T]).bind λa1=>
 (N [U (gA a0 0),U (gA a1 0)]).bind λJ=>
 (E [I X]).bind λa2=>
 (E [I Y]).bind λa3=>
 (N [U (gA a2 0),U (gA a3 0)]).bind λM=>
 (ED [U (gA J 0),U (gA J 1),U (gA M 0),U (gA M 1)]).bind λa4=>
 some [I (V (gA o9 0*gA a4 0))]):=by kernel_rfl
def Py:=Qp5 ID E5 GN Gr
theorem Z39:Ai PG (Qlq ID E5 GN Gr):=Ap rfl ⟨Qz1,VC,WG,Qe1,trivial⟩
theorem Zsz:Am PG (Z7c Py):=rw1 (C:=Qlq ID E5 GN Gr) Z39
def Zzg:=qa 191 ZS Qqn
def Zk (E:Fn):Cfg:=cf [Z7c E]
def Y3 (E:Fn):Fn:=An PG (Zk E) 64 191 ZS Qqn
theorem Zrj (J:Fn) (E G:Int):Y3 J [I E,I G]=
 cond (decide (V (V (mx E G-mn E G)-16)<=0)) (some [B true]) ((J [I (V (V (mx E G-mn E G)-16)),I (V (V (mx E G-mn E G)-16)),I 64,I (mn E G)]).bind λo1=>
 some [B (decide (gA o1 0<=0))]):=by kernel_rfl
def QG:=Y3 Py
theorem Zjt:Ai PG (Zk Py):=Ap rfl ⟨Zsz,trivial⟩
theorem Yab:Am PG (Zzg QG):=rw1 (C:=Zk Py) Zjt
def Znt:=qa 187 Qbn Qqn
def Zdh:Fn:=An PG Qef 64 187 Qbn Qqn
theorem Zpc (E G J:Int):Zdh [I E,I G,I J]=
 cond (decide (E< -1048576)) (some [B false]) (cond (decide (E>1048576)) (some [B false]) (cond (decide (G< -1048576)) (some [B false]) (cond (decide (G>1048576)) (some [B false]) (cond (decide (J< -1048576)) (some [B false]) (cond (decide (J>1048576)) (some [B false]) (some [B true])))))):=by kernel_rfl
def Oi:=Zdh
theorem Zsr:Am PG (Znt Oi):=rw1 (C:=Qef) Zw3
def Qck:=qa 167 Qgh Qqn
def X_ (E G I J M N:Fn):Cfg:=cf [Qj6 E,Zzg G,Qri I,Q79 J,Qpo M,Znt N]
def Qpp (E G I J M N:Fn):Fn:=An PG (X_ E G I J M N) 64 167 Qgh Qqn
abbrev Qie (H8:Fn) (x9 G J:Int) (Fu:Fn) (x0 x1 x2 x3 x4 x5 x6 x7 x8 S:Int) (M:Bool) (T:Int) (U:Bool) (X Y a0 a1 a2:Int) (a3:Bool) (CG Ka Dd:Fn):Option (List AC):=
 (H8 [I x9,I G,I J]).bind λa4=>
 cond (!bA a4 0) (some [B false]) ((Fu [I x0,I x1,I x2,I x3,I x4,I x5,I x6,I x7,I x8,I x9,I G,I J,I S,B M,I T,B U,I X,I Y,I a0,I a1,I a2,B a3]).bind λE=>
 (CG [jA E 0,jA E 1,jA E 2,jA E 3,jA E 0,jA E 1,jA E 2,jA E 3]).bind λN=>
 (CG [jA E 4,jA E 5,jA E 6,jA E 7,jA E 4,jA E 5,jA E 6,jA E 7]).bind λO=>
 cond (decide (gA N 0<V (128*128))) (some [B false]) (cond (decide (gA O 0<V (128*128))) (some [B false]) ((Ka [I (V ((gA N 0).tdiv 256)),I (V ((gA O 0).tdiv 256))]).bind λa5=>
 cond (!bA a5 0) (some [B false]) (cond (M) (cond (gA E 0==gA E 4) (some [B (gA E 1==gA E 5)]) (some [B false])) ((Dd [jA E 0,jA E 1,jA E 2,jA E 3,jA E 4,jA E 5,jA E 6,jA E 7]).bind λa6=>
 cond (gA a6 0 !=0) (some [B true]) ((CG [jA E 0,jA E 1,jA E 2,jA E 3,jA E 4,jA E 5,jA E 6,jA E 7]).bind λa7=>
 some [B (decide (gA a7 0<0))]))))))
theorem Zxa (Dd Ka CG Fu Ey H8:Fn) (x0 x1 x2 x3 x4 x5 x6 x7 x8 x9 G J E:Int) (M:Bool) (N:Int) (O:Bool) (S T U V X:Int) (Y:Bool):Qpp Dd Ka CG Fu Ey H8 [I x0,I x1,I x2,I x3,I x4,I x5,I x6,I x7,I x8,I x9,I G,I J,I E,B M,I N,B O,I S,I T,I U,I V,I X,B Y]=
 cond (decide (x0<1)) (some [B false]) (cond (decide (x0>6)) (some [B false]) ((H8 [I x2,I x3,I x4]).bind λa0=>
 cond (!bA a0 0) (some [B false]) ((H8 [I x5,I x6,I x7]).bind λa1=>
 cond (!bA a1 0) (some [B false]) (cond (x0 !=3) (some [B true]) ((Ey [I x8]).bind λa2=>
 cond (!bA a2 3) (some [B false]) (cond (E !=1) (cond (E != -1) (some [B false]) (Qie H8 x9 G J Fu x0 x1 x2 x3 x4 x5 x6 x7 x8 E M N O S T U V X Y CG Ka Dd)) (Qie H8 x9 G J Fu x0 x1 x2 x3 x4 x5 x6 x7 x8 E M N O S T U V X Y CG Ka Dd))))))):=by kernel_rfl
def He:=Qpp Hv QG G2 Lf F5 Oi
theorem Zg0:Ai PG (X_ Hv QG G2 Lf F5 Oi):=Ap rfl ⟨X3,Yab,Qbj,Q7m,Qqd,Zsr,trivial⟩
theorem Qbm:Am PG (Qck He):=rw1 (C:=X_ Hv QG G2 Lf F5 Oi) Zg0
def Qlg:Sk:=⟨[TS.tup [(false,[sa [kI,kI,kI,kI]]),(false,[sb])]],[],[]⟩
def Zp6:=qa 206 Qgh Qlg
def WO (E G I J M:Fn):Cfg:={cp [Zd5 E,Qvz G,Qri I,Q79 J,Qck M] [212]with rowDst:=[39]}
def Qov (E G I J M:Fn):Fn:=An PG (WO E G I J M) 64 206 Qgh Qlg
theorem Z09 (F4 Gb CG Fu C5:Fn) (x0 x1 x2 x3 x4 x5 x6 x7 x8 x9 M N G:Int) (J:Bool) (O:Int) (S:Bool) (T U V X Y:Int) (a0:Bool):Qov F4 Gb CG Fu C5 [I x0,I x1,I x2,I x3,I x4,I x5,I x6,I x7,I x8,I x9,I M,I N,I G,B J,I O,B S,I T,I U,I V,I X,I Y,B a0]=
 cond (x0 !=3) (some [.vC [kI,kI,kI,kI] [],B false]) ((C5 [I x0,I x1,I x2,I x3,I x4,I x5,I x6,I x7,I x8,I x9,I M,I N,I G,B J,I O,B S,I T,I U,I V,I X,I Y,B a0]).bind λo7=>
 cond (!bA o7 0) (some [.vC [kI,kI,kI,kI] [],B false]) ((Fu [I x0,I x1,I x2,I x3,I x4,I x5,I x6,I x7,I x8,I x9,I M,I N,I G,B J,I O,B S,I T,I U,I V,I X,I Y,B a0]).bind λE=>
 (CG [jA E 0,jA E 1,jA E 2,jA E 3,jA E 0,jA E 1,jA E 2,jA E 3]).bind λo9=>
 (Gb [jA o9 0,I 2]).bind λa1=>
 (CG [jA E 4,jA E 5,jA E 6,jA E 7,jA E 4,jA E 5,jA E 6,jA E 7]).bind λa2=>
 (Gb [jA a2 0,I 2]).bind λa3=>
 (F4 [.vC [kI,kI,kI,kI] [[jA E 0,jA E 1,jA a1 0,jA E 3]],jA E 0,jA E 1,jA a1 0,jA E 3,jA E 4,jA E 5,jA a3 0,jA E 7,B J,I 0,I G]).bind λa4=>
 some [.vC [kI,kI,kI,kI] (wA a4 0),B true])):=by kernel_rfl
def Pu:=Qov Ti Jo G2 Lf He
theorem Z5z:Ai PG (WO Ti Jo G2 Lf He):=Ap rfl ⟨Zxk,Qyn,Qbj,Q7m,Qbm,trivial⟩
theorem Zll:Am PG (Zp6 Pu):=rw1 (C:=WO Ti Jo G2 Lf He) Z5z
def Qg2:Sk:=⟨[TS.tup [(false,[sa kPt]),(false,[sb])]],[],[]⟩
def Zpy:=qa 193 Qgh Qg2
def Qee (E G I J M:Fn):Cfg:=cf [Zhn E,Qy6 G,Zbt I,Zp6 J,Qck M]
def Q1m:Sk:=⟨[td,tf [sd 1 0],td,td,td,td,tf [ci],tf [ci],td,tf [se 41 3]]++dd 32++[tf [sa [kI,kI,kI,kI]],tf [ci],tf [ci]]++dd 22,[(1,74,cc 13++[sb,ci,sb]++cc 5++[sb])],[(41,54,kPt)]⟩
def Zaw:List (Ex×Sk):=[(Ex.exit 0,⟨dd 9++[tf [se 41 3]]++dd 57,[],[(41,54,kPt)]⟩)]
def OO (E G I J M:Fn):Lp:=A5 PG (Qee E G I J M) 64 9 (A4 PG 193 9) Q1m Zaw
def Zd2 (E G I J M:Fn) (N:Lp):Cfg:=(Qee E G I J M).loop 9 Q1m Zaw N
def U8 (E G I J M:Fn) (N:Lp):Fn:=An PG (Zd2 E G I J M N) 64 193 Qgh Qg2
theorem Q26 (HL CA Cj GX C5:Fn) (v0:Rw) (v1 v2:Int) (M:Rw) (v4 E v6 v7 v8 v9 v10 v11 v12 N G O S T U:Int) (X:Bool) (v20:Int) (v21:Bool) (v22 Y v24 v25 a0:Int) (v27:Bool):OO HL CA Cj GX C5 [.vC kPt v0,I v1,I v2, .vC [kI,kI,kI,kI] M,I v4,I E,I v6,I v7,I v8,I v9,I v10,I v11,I v12,I N,I G,I O,I S,I T,I U,B X,I v20,B v21,I v22,I Y,I v24,I v25,I a0,B v27]=
 cond (decide (E<v4)) (cond (decide (0<=E)&&decide (E<(M.length:Int))) ((HL [I (V (v1+gA (nth [] M E.toNat) 0)),I (V (v2+gA (nth [] M E.toNat) 1)),jA (nth [] M E.toNat) 3,I G]).bind λJ=>
 cond (decide (0<=E)&&decide (E<(v0.length:Int))) (some (0,[.vC kPt (v0.set E.toNat [jA J 0,jA J 1,jA J 2]),I v1,I v2, .vC [kI,kI,kI,kI] M,I v4,I (V (E+1)),I v6,I v7,I v8,I v9,I v10,I v11,I v12,I N,I G,I O,I S,I T,I U,B X,I v20,B v21,I v22,I Y,I v24,I v25,I a0,B v27])) (none)) (none)) (some (1,[.vC kPt v0])):=by kernel_rfl
theorem WI (HL CA Cj GX C5:Fn) (N9:Lp) (x0 x1 x2 x3 x4 x5 x6 x7 x8 x9 G J M:Int) (N:Bool) (O:Int) (S:Bool) (T U V X Y:Int) (a0:Bool):U8 HL CA Cj GX C5 N9 [I x0,I x1,I x2,I x3,I x4,I x5,I x6,I x7,I x8,I x9,I G,I J,I M,B N,I O,B S,I T,I U,I V,I X,I Y,B a0]=
 (C5 [I x0,I x1,I x2,I x3,I x4,I x5,I x6,I x7,I x8,I x9,I G,I J,I M,B N,I O,B S,I T,I U,I V,I X,I Y,B a0]).bind λa6=>
 cond (!bA a6 0) (some [.vC kPt [],B false]) ((GX [I x0,I x1,I x2,I x3,I x4,I x5,I x6,I x7,I x8,I x9,I G,I J,I M,B N,I O,B S,I T,I U,I V,I X,I Y,B a0]).bind λE=>
 cond (!bA E 1) ((Cj [I x2,I x3,I x4]).bind λa1=>
 (Cj [I x5,I x6,I x7]).bind λa2=>
 some [.vC kPt [[jA a1 0,jA a1 1,jA a1 2],[jA a2 0,jA a2 1,jA a2 2]],B true]) ((Cj [I x9,I G,I J]).bind λa3=>
 (CA [jA a3 0,jA a3 1,jA a3 2,I x8]).bind λa4=>
 cond (decide ((↑(wA E 0).length:Int)=(↑(wA E 0).length:Int))) (cond (decide (0<=(↑(wA E 0).length:Int))&&decide ((↑(wA E 0).length:Int)*(↑24:Int)<=140737488355328)) ((N9 [.vC kPt (List.replicate (↑(wA E 0).length:Int).toNat [I 0,I 0,I 0]),jA a4 0,jA a4 1, .vC [kI,kI,kI,kI] (wA E 0),I (↑(wA E 0).length:Int),I 0,I x0,I x1,I x2,I x3,I x4,I x5,I x6,I x7,I x8,I x9,I G,I J,I M,B N,I O,B S,I T,I U,I V,I X,I Y,B a0]).bind λa5=>
 cond (a5.1.beq 1) (some [.vC kPt (wA a5.2 0),B true]) (none)) (none)) (none))):=by kernel_rfl
def Zda:=Ak (OO NB Iq HU Pu He)
def Qo:=U8 NB Iq HU Pu He Zda
theorem Qx9:Ai PG (Qee NB Iq HU Pu He):=Ap rfl ⟨Z2z,Qw0,Q8v,Zll,Qbm,trivial⟩
theorem Zki:Am PG (Zpy Qo):=rw2 (C:=Zd2 NB Iq HU Pu He Zda) (fl fb Qx9) Qx9
def Qny:Sk:=⟨[tf [sa Aj],tf [ci],tf [ci]],[],[]⟩
def Zjk:=qa 170 Qny Qbo
def Qcf (E G I J M N:Fn):Cfg:=cf [Qdy E,Qmy G,Q3y I,Zf5 J,VM M,Zpy N]
def Xu (E G I J M N:Fn):Fn:=An PG (Qcf E G I J M N) 64 170 Qny Qbo
theorem Zmy (Y BJ Cn Lu BE Ow:Fn) (G:Rw) (T x2:Int):Xu Y BJ Cn Lu BE Ow [.vC Aj G,I T,I x2]=
 cond (decide (0<=T)&&decide (T<(G.length:Int))) ((Ow (AT Aj (nth [] G T.toNat))).bind λE=>
 (BE (AT Aj (nth [] G T.toNat))).bind λa2=>
 cond (!bA a2 0) (some [.vC kPt (wA E 0)]) (cond (decide (0<=1)&&decide (1<=(↑(wA E 0).length:Int))) (cond (decide (0<=V ((↑(wA E 0).length:Int)-1))&&decide (V ((↑(wA E 0).length:Int)-1)<=(↑(wA E 0).length:Int))) (cond (decide (x2>=0)) (cond (decide (0<=x2)&&decide (x2<(G.length:Int))) ((Lu (AT Aj (nth [] G x2.toNat)++AT Aj (nth [] G T.toNat))).bind λS=>
 (Cn [.vC Aj G,I T]).bind λa3=>
 cond (bA a3 0) ((BJ [.vC Aj G,I T]).bind λU=>
 cond (decide (0<=gA U 0)&&decide (gA U 0<(G.length:Int))) ((Lu (AT Aj (nth [] G T.toNat)++AT Aj (nth [] G (gA U 0).toNat))).bind λa0=>
 cond ((([]++wA S 1).length*24).ble 140737488355328) ((Y (AT Aj (nth [] G T.toNat))).bind λJ=>
 cond ((([]++wA S 1++[[jA J 0,jA J 1,jA J 2]]).length*24).ble 140737488355328) (cond ((([]++wA S 1++[[jA J 0,jA J 1,jA J 2]]++wA a0 0).length*24).ble 140737488355328) (some [.vC kPt ([]++wA S 1++[[jA J 0,jA J 1,jA J 2]]++wA a0 0)]) (none)) (none)) (none)) (none)) (cond ((([]++wA S 1).length*24).ble 140737488355328) ((Y (AT Aj (nth [] G T.toNat))).bind λM=>
 cond ((([]++wA S 1++[[jA M 0,jA M 1,jA M 2]]).length*24).ble 140737488355328) (cond ((([]++wA S 1++[[jA M 0,jA M 1,jA M 2]]++List.drop (V ((↑(wA E 0).length:Int)-1)).toNat (wA E 0)).length*24).ble 140737488355328) (some [.vC kPt ([]++wA S 1++[[jA M 0,jA M 1,jA M 2]]++List.drop (V ((↑(wA E 0).length:Int)-1)).toNat (wA E 0))]) (none)) (none)) (none))) (none)) ((Cn [.vC Aj G,I T]).bind λa4=>
 cond (bA a4 0) ((BJ [.vC Aj G,I T]).bind λX=>
 cond (decide (0<=gA X 0)&&decide (gA X 0<(G.length:Int))) ((Lu (AT Aj (nth [] G T.toNat)++AT Aj (nth [] G (gA X 0).toNat))).bind λa1=>
 cond ((([]++List.take (Int.toNat 1) (wA E 0)).length*24).ble 140737488355328) ((Y (AT Aj (nth [] G T.toNat))).bind λN=>
 cond ((([]++List.take (Int.toNat 1) (wA E 0)++[[jA N 0,jA N 1,jA N 2]]).length*24).ble 140737488355328) (cond ((([]++List.take (Int.toNat 1) (wA E 0)++[[jA N 0,jA N 1,jA N 2]]++wA a1 0).length*24).ble 140737488355328) (some [.vC kPt ([]++List.take (Int.toNat 1) (wA E 0)++[[jA N 0,jA N 1,jA N 2]]++wA a1 0)]) (none)) (none)) (none)) (none)) (cond ((([]++List.take (Int.toNat 1) (wA E 0)).length*24).ble 140737488355328) ((Y (AT Aj (nth [] G T.toNat))).bind λO=>
 cond ((([]++List.take (Int.toNat 1) (wA E 0)++[[jA O 0,jA O 1,jA O 2]]).length*24).ble 140737488355328) (cond ((([]++List.take (Int.toNat 1) (wA E 0)++[[jA O 0,jA O 1,jA O 2]]++List.drop (V ((↑(wA E 0).length:Int)-1)).toNat (wA E 0)).length*24).ble 140737488355328) (some [.vC kPt ([]++List.take (Int.toNat 1) (wA E 0)++[[jA O 0,jA O 1,jA O 2]]++List.drop (V ((↑(wA E 0).length:Int)-1)).toNat (wA E 0))]) (none)) (none)) (none)))) (none)) (none))) (none):=by kernel_rfl
def NG:=Xu GJ FR HJ RS Fp Qo
theorem Zzl:Ai PG (Qcf GJ FR HJ RS Fp Qo):=Ap rfl ⟨Qsi,Qnp,Qxk,Z2f,TY,Zki,trivial⟩
theorem Z54:Am PG (Zjk NG):=rw1 (C:=Qcf GJ FR HJ RS Fp Qo) Zzl
def Qfw:Sk:=⟨[TS.v true (cc 13++[sb,ci,sb]++cc 5++[sb]),tf [ci]],[],[]⟩
def Zmq:=qa 168 Qfw Qae
def Qat (E:Fn):Cfg:=cf [Nh E]
def WA (E:Fn):Fn:=An PG (Qat E) 64 168 Qfw Qae
theorem Qzg (AQ:Fn) (x0 x1 x2 x3 x4 x5 x6 x7 x8 x9 M N O:Int) (S:Bool) (E:Int) (G:Bool) (T U X Y a0:Int) (a1:Bool) (J:Int):WA AQ [I x0,I x1,I x2,I x3,I x4,I x5,I x6,I x7,I x8,I x9,I M,I N,I O,B S,I E,B G,I T,I U,I X,I Y,I a0,B a1,I J]=
 cond (x0==1) (some [I 0]) (cond (G) ((AQ [I (mn (V (E*mx J 1)) 60000000),I 4096,I 60000,I 2]).bind λo2=>
 some [I (mx (gA o2 0) 1)]) ((AQ [I (mn E 60000000),I 4096,I 60000,I 2]).bind λo3=>
 some [I (mx (gA o3 0) 1)])):=by kernel_rfl
def Kg:=WA BM
theorem Zs9:Ai PG (Qat BM):=Ap rfl ⟨LN,trivial⟩
theorem Z70:Am PG (Zmq Kg):=rw1 (C:=Qat BM) Zs9
def Qll:Sk:=⟨[tf [sd 20000 0],tf [sa Aj],tf [ci],tf [ci]],[(20000,142,[ci,ci,ci,se 20000 7,se 20001 3,sb,ci,ci,ci])],[(20000,162,Ag),(20001,76,kPt)]⟩
def Qew:Sk:=⟨[tf [sb]],[(20000,142,[ci,ci,ci,se 20000 7,se 20001 3,sb,ci,ci,ci])],[(20000,162,Ag),(20001,76,kPt)]⟩
def Z68:=qa 126 Qll Qew
def Qch (E G I J M N:Fn):Cfg:=cp [Qdy E,VM G,Z6p I,Zjk J,Qwp M,Zmq N] [171]
def Q8p:Sk:=⟨[tf [sd 20000 0]]++dd 8++[tf [sd 9 0],tf [sd 10 0]]++dd 24++[tf [sa kPt],tf [ci],tf [ci]]++dd 30,[(9,74,cc 13++[sb,ci,sb]++cc 5++[sb]),(10,162,cc 7),(20000,142,[ci,ci,ci,se 20000 7,se 20001 3,sb,ci,ci,ci])],[(20000,162,Ag),(20001,76,kPt)]⟩
def Q1q:List (Ex×Sk):=[(Ex.exit 0,⟨[tf [sd 20000 0]]++dd 67,[(20000,142,[ci,ci,ci,se 20000 7,se 20001 3,sb,ci,ci,ci])],[(20000,162,Ag),(20001,76,kPt)]⟩)]
def Nc (E G I J M N:Fn):Lp:=A5 PG (Qch E G I J M N) 64 6 (A4 PG 126 6) Q8p Q1q
def Qvx (E G I J M N:Fn) (O:Lp):Cfg:=(Qch E G I J M N).loop 6 Q8p Q1q O
def Qmk (E G I J M N:Fn) (O:Lp):Fn:=An PG (Qvx E G I J M N O) 64 126 Qll Qew
theorem Zdw (Cp BE Hz FK Da HI:Fn) (v0 v1 v2:Rw) (v3 G v5 v6 v7 v8 v9 v10 v11 v12 J M N O S:Int) (T:Bool) (U:Int) (v20:Bool) (v21 v22 X v24 v25:Int) (Y:Bool) (v27 v28 a0 v30 v31 a1 v33 a2 v35 v36:Int) (v37:Bool) (v38 a3 v40:Int):Nc Cp BE Hz FK Da HI [.vC Ag v0, .vC kPt v1, .vC kPt v2,I v3,I G,I v5,I v6,I v7,I v8,I v9,I v10,I v11,I v12,I J,I M,I N,I O,I S,B T,I U,B v20,I v21,I v22,I X,I v24,I v25,B Y,I v27,I v28,I a0,I v30,I v31,I a1,I v33,I a2,I v35,I v36,B v37,I v38,I a3,I v40]=
 cond (decide (G<v3)) (cond (decide (0<=G)&&decide (G<(v2.length:Int))) ((Hz [.vC Ag v0, .vC kPt v1,jA (nth [] v2 G.toNat) 0,jA (nth [] v2 G.toNat) 1,jA (nth [] v2 G.toNat) 2,I v27,I v28,I a0,I v30,I v31,I a1,I v33,I a2,I v35,I v36,B v37,I v38,I a3,I v40]).bind λE=>
 (BE [I v5,I v6,I v7,I v8,I v9,I v10,I v11,I v12,I J,I M,I N,I O,I S,B T,I U,B v20,I v21,I v22,I X,I v24,I v25,B Y]).bind λa5=>
 cond (bA a5 0) ((Cp [I v5,I v6,I v7,I v8,I v9,I v10,I v11,I v12,I J,I M,I N,I O,I S,B T,I U,B v20,I v21,I v22,I X,I v24,I v25,B Y]).bind λa4=>
 cond (gA (nth [] v2 G.toNat) 0==gA a4 0&&(gA (nth [] v2 G.toNat) 1==gA a4 1&&(gA (nth [] v2 G.toNat) 2==gA a4 2&&true))) (some (0,[.vC Ag (wA E 0), .vC kPt (wA E 1), .vC kPt v2,I v3,I (V (G+1)),I v5,I v6,I v7,I v8,I v9,I v10,I v11,I v12,I J,I M,I N,I O,I S,B T,I U,B v20,I v21,I v22,I X,I v24,I v25,B Y,I v27,I v28,I a0,I v30,I v31,I a1,I v33,jA E 2,jA E 3,jA E 4,B (bA E 5),jA E 6,jA E 7,jA E 6])) (some (0,[.vC Ag (wA E 0), .vC kPt (wA E 1), .vC kPt v2,I v3,I (V (G+1)),I v5,I v6,I v7,I v8,I v9,I v10,I v11,I v12,I J,I M,I N,I O,I S,B T,I U,B v20,I v21,I v22,I X,I v24,I v25,B Y,I v27,I v28,I a0,I v30,I v31,I a1,I v33,jA E 2,jA E 3,jA E 4,B (bA E 5),jA E 6,jA E 7,jA E 8]))) (some (0,[.vC Ag (wA E 0), .vC kPt (wA E 1), .vC kPt v2,I v3,I (V (G+1)),I v5,I v6,I v7,I v8,I v9,I v10,I v11,I v12,I J,I M,I N,I O,I S,B T,I U,B v20,I v21,I v22,I X,I v24,I v25,B Y,I v27,I v28,I a0,I v30,I v31,I a1,I v33,jA E 2,jA E 3,jA E 4,B (bA E 5),jA E 6,jA E 7,jA E 8]))) (none)) (some (1,[.vC Ag v0, .vC kPt v1,I a2,I v35,I v36,B v37,I v38,I a3,I v40])):=by kernel_rfl
abbrev Qfh (U:Fn) (T:Rw) (M V:Int) (X:Lp) (Y x1:Rw) (N:List AC) (x5 x6 x7:Int) (x8:Bool) (x9 O S:Int) (G:AC):Option (List AC):=
 (U [.vC Aj T,I M,I V]).bind λJ=>
 (X (.vC Ag Y:: .vC kPt x1:: .vC kPt (wA J 0)::I (↑(wA J 0).length:Int)::I 0::(AT Aj (nth [] T M.toNat)++[I 0,I 0,I 0,I 0,I M,jA N 0,G,I x5,I x6,I x7,B x8,I x9,I O,I S]))).bind λE=>
 cond (E.1.beq 1) (some [.vC Ag (wA E.2 0), .vC kPt (wA E.2 1),B (decide ((↑(wA E.2 0).length:Int)<=1048576)),jA E.2 2,jA E.2 3,jA E.2 4,B (bA E.2 5),jA E.2 6,jA E.2 7,jA E.2 8]) (none)
theorem Z91 (Cp BE Hz O Da HI:Fn) (S:Lp) (T U J:Rw) (G X Y x6 x7:Int) (x8:Bool) (x9 E M:Int):Qmk Cp BE Hz O Da HI S [.vC Ag T, .vC kPt U, .vC Aj J,I G,I X,I Y,I x6,I x7,B x8,I x9,I E,I M]=
 cond (decide (0<=G)&&decide (G<(J.length:Int))) ((HI (AT Aj (nth [] J G.toNat)++[I E])).bind λN=>
 (Da (AT Aj (nth [] J G.toNat))).bind λa0=>
 cond (bA a0 0) (Qfh O J G X S T U N Y x6 x7 x8 x9 E M (I (mn (V (gA (nth [] J G.toNat) 14*16)) 16777216))) (Qfh O J G X S T U N Y x6 x7 x8 x9 E M (I 0))) (none):=by kernel_rfl
def Qvh:=Ak (Nc GJ Fp P0 NG H6 Kg)
def KO:=Qmk GJ Fp P0 NG H6 Kg Qvh
theorem Qx8:Ai PG (Qch GJ Fp P0 NG H6 Kg):=Ap rfl ⟨Qsi,TY,Zf4,Z54,Q46,Z70,trivial⟩
theorem Z89:Am PG (Z68 KO):=rw2 (C:=Qvx GJ Fp P0 NG H6 Kg Qvh) (fl fb Qx8) Qx8
def Zz6:=qa 122 Qgh Qae
def W0 (E G:Fn):Cfg:=cf [Qck E,Vd G]
def Qjq (E G:Fn):Fn:=An PG (W0 E G) 64 122 Qgh Qae
abbrev LO (J E G:Int):Option (List AC):=
 cond (J==8) (cond (decide (E<3)) (some [I 1]) (cond (decide (E>5)) (some [I 1]) (cond (decide (G<0)) (some [I 1]) (cond (decide (G>30000)) (some [I 1]) (some [I 0]))))) (some [I 0])
theorem Zqd (C5 AY:Fn) (J x1 x2 x3 x4 x5 x6 x7 x8 x9 O S T:Int) (U:Bool) (M:Int) (V:Bool) (X Y N E G:Int) (a0:Bool):Qjq C5 AY [I J,I x1,I x2,I x3,I x4,I x5,I x6,I x7,I x8,I x9,I O,I S,I T,B U,I M,B V,I X,I Y,I N,I E,I G,B a0]=
 cond (decide (J<1)) (some [I 1]) (cond (decide (J>14)) (some [I 1]) ((AY [I J]).bind λo4=>
 cond (bA o4 0) ((C5 [I J,I x1,I x2,I x3,I x4,I x5,I x6,I x7,I x8,I x9,I O,I S,I T,B U,I M,B V,I X,I Y,I N,I E,I G,B a0]).bind λo5=>
 cond (!bA o5 0) (some [I 1]) (cond (decide (N<0)) (some [I 1]) (cond (decide (N>1000)) (some [I 1]) ((AY [I J]).bind λo6=>
 cond (bA o6 0) (cond (J !=1) (cond (decide (M<1)) (some [I 1]) (cond (decide (M>60000000)) (some [I 1]) (LO J E G))) (LO J E G)) (LO J E G))))) ((AY [I J]).bind λo7=>
 cond (bA o7 0) (cond (J !=1) (cond (decide (M<1)) (some [I 1]) (cond (decide (M>60000000)) (some [I 1]) (LO J E G))) (LO J E G)) (LO J E G)))):=by kernel_rfl
def JL:=Qjq He Eh
theorem Zq4:Ai PG (W0 He Eh):=Ap rfl ⟨Qbm,Ty,trivial⟩
theorem Ya1:Am PG (Zz6 JL):=rw1 (C:=W0 He Eh) Zq4
def Qqw:Sk:=⟨[tf [sa Aj]],[],[]⟩
def Qne:Sk:=⟨[TS.tup [(false,[sd 13 0]),(false,[ci])]],[(13,142,[ci,ci,ci,se 1013003 7,se 1013004 3,sb,ci,ci,ci])],[(1013003,162,Ag),(1013004,76,kPt)]⟩
def Quu:=qa 80 Qqw Qne
def Qc6 (E G I J M N:Fn):Cfg:=cp [Zhe E,Z68 G,Qmy I,Q3y J,Vd M,Zz6 N] [127,126]
def Q8q:Sk:=⟨[tf [sa Aj],td,td,td,tf [sd 13 0],tf [ci]]++dd 12++[tf [sa Aj],tf [ci],tf [ci]]++dd 87,[(13,142,[ci,ci,ci,se 1013003 7,se 1013004 3,sb,ci,ci,ci])],[(1013003,162,Ag),(1013004,76,kPt)]⟩
def Qug:List (Ex×Sk):=[(Ex.ret,⟨[td,td,tf [sd 13 0],tf [ci]]++dd 104,[(13,142,[ci,ci,ci,se 1013003 7,se 1013004 3,sb,ci,ci,ci])],[(1013003,162,Ag),(1013004,76,kPt)]⟩),(Ex.exit 0,⟨[tf [sa Aj],td,td,td,tf [sd 13 0]]++dd 103,[(13,142,[ci,ci,ci,se 1013003 7,se 1013004 3,sb,ci,ci,ci])],[(1013003,162,Ag),(1013004,76,kPt)]⟩)]
def QQ (E G I J M N:Fn):Lp:=A5 PG (Qc6 E G I J M N) 64 6 (A4 PG 80 6) Q8q Qug
def Q0w (E G I J M N:Fn) (O:Lp):Cfg:=(Qc6 E G I J M N).loop 6 Q8q Qug O
def Zb9:Sk:=⟨[tf [sa Aj],td,td,td,tf [sd 13 0],tf [ci]]++dd 44++[tf [sa Aj],tf [ci],tf [ci]]++dd 55,[(13,142,[ci,ci,ci,se 1013003 7,se 1013004 3,sb,ci,ci,ci])],[(1013003,162,Ag),(1013004,76,kPt)]⟩
def Zc3:List (Ex×Sk):=[(Ex.ret,⟨[td,td,tf [sd 13 0],tf [ci]]++dd 104,[(13,142,[ci,ci,ci,se 1013003 7,se 1013004 3,sb,ci,ci,ci])],[(1013003,162,Ag),(1013004,76,kPt)]⟩),(Ex.exit 2,⟨[td,td,td,td,tf [sd 13 0]]++dd 103,[(13,142,[ci,ci,ci,se 1013003 7,se 1013004 3,sb,ci,ci,ci])],[(1013003,162,Ag),(1013004,76,kPt)]⟩)]
def Qn (E G I J M N:Fn) (O:Lp):Lp:=A5 PG (Q0w E G I J M N O) 64 18 (A4 PG 80 18) Zb9 Zc3
def Q6p (G I J M N O:Fn) (S E:Lp):Cfg:=(Q0w G I J M N O S).loop 18 Zb9 Zc3 E
def Qlo (G I J M N O:Fn) (S E:Lp):Fn:=An PG (Q6p G I J M N O S E) 64 80 Qqw Qne
theorem Q6j (CE CM BJ Cn AY EU:Fn) (v0 O M:Rw) (N:Int) (J:Rw) (X G S T U:Int) (v10:Bool) (v11 v12 E:Int):QQ CE CM BJ Cn AY EU [.vC Ag v0, .vC kPt O, .vC Aj M,I N, .vC Aj J,I X,I G,I S,I T,I U,B v10,I v11,I v12,I E]=
 cond (decide (G<X)) (cond (decide (0<=G)&&decide (G<(J.length:Int))) ((EU (AT Aj (nth [] J G.toNat))).bind λY=>
 cond (gA Y 0 !=0) (some (1,[.vC Ag v0, .vC kPt O,jA Y 0,I S,I T,I U,B v10,I v11,I v12,I E])) ((AY [jA (nth [] J G.toNat) 0]).bind λa0=>
 cond (!bA a0 0) (some (0,[.vC Ag v0, .vC kPt O, .vC Aj M,I N, .vC Aj J,I X,I (V (G+1)),I S,I T,I U,B v10,I v11,I v12,I E])) (cond (decide (N>=0)) (cond (decide (0<=N)&&decide (N<(M.length:Int))) (cond (!(gA (nth [] M N.toNat) 5==gA (nth [] J G.toNat) 2&&(gA (nth [] M N.toNat) 6==gA (nth [] J G.toNat) 3&&(gA (nth [] M N.toNat) 7==gA (nth [] J G.toNat) 4&&true)))) (some (1,[.vC Ag v0, .vC kPt O,I 13,I S,I T,I U,B v10,I v11,I v12,I E])) (some (0,[.vC Ag v0, .vC kPt O, .vC Aj M,I G, .vC Aj J,I X,I (V (G+1)),I S,I T,I U,B v10,I v11,I v12,I E]))) (none)) (some (0,[.vC Ag v0, .vC kPt O, .vC Aj M,I G, .vC Aj J,I X,I (V (G+1)),I S,I T,I U,B v10,I v11,I v12,I E]))))) (none)) (some (2,[.vC Ag v0, .vC kPt O, .vC Aj M,I S,I T,I U,B v10,I v11,I v12,I E])):=by kernel_rfl
abbrev RL (T:Fn) (v0 U O:Rw) (N X Y v9:Int) (v10:Bool) (v11:Int) (J:AC) (S:Int) (CE:Fn) (v4:Rw) (v5:Int) (M:AC):Option (Nat×List AC):=
 (T [.vC Ag v0, .vC kPt U, .vC Aj O,I N,M,I X,I Y,I v9,B v10,I v11,J,I S]).bind λE=>
 cond (!bA E 2) (some (1,[.vC Ag (wA E 0), .vC kPt (wA E 1),I 10,jA E 3,jA E 4,jA E 5,B (bA E 6),jA E 7,jA E 8,jA E 9])) ((CE [.vC Ag (wA E 0), .vC kPt (wA E 1), .vC Aj O,I N,jA E 3,jA E 4,jA E 5,B (bA E 6),jA E 7,jA E 8,jA E 9]).bind λG=>
 some (0,[.vC Ag (wA G 0), .vC kPt (wA G 1), .vC Aj O,I N, .vC Aj v4,I v5,I (V (N+1)),jA G 2,jA G 3,jA G 4,B (bA G 5),jA G 6,jA G 7,jA G 8]))
abbrev Qu (AY:Fn) (O:Rw) (M S:Int) (Cn:Fn) (N:Rw) (CM:Fn) (v0 T:Rw) (U X Y:Int) (v10:Bool) (v11 J:Int) (CE:Fn) (v5:Int) (BJ:Fn) (G:AC):Option (Nat×List AC):=
 (AY [jA (nth [] O M.toNat) 0]).bind λa0=>
 cond (bA a0 0) (cond (decide (S>=0)) ((Cn [.vC Aj N,I S]).bind λa1=>
 cond (!bA a1 0) (RL CM v0 T N M U X Y v10 v11 G J CE O v5 (I (-1))) ((BJ [.vC Aj N,I S]).bind λa2=>
 cond (gA a2 0 !=M) (RL CM v0 T N M U X Y v10 v11 G J CE O v5 (I (-1))) (RL CM v0 T N M U X Y v10 v11 G J CE O v5 (I S)))) (RL CM v0 T N M U X Y v10 v11 G J CE O v5 (I S))) ((CE [.vC Ag v0, .vC kPt T, .vC Aj N,I M,I U,I X,I Y,B v10,I v11,G,I J]).bind λE=>
 some (0,[.vC Ag (wA E 0), .vC kPt (wA E 1), .vC Aj N,I S, .vC Aj O,I v5,I (V (M+1)),jA E 2,jA E 3,jA E 4,B (bA E 5),jA E 6,jA E 7,jA E 8]))
theorem Q9q (U V X Y AY EU:Fn) (N6:Lp) (v0 M v2:Rw) (v3:Int) (J:Rw) (N E O S T:Int) (v10:Bool) (v11 v12 G:Int):Qn U V X Y AY EU N6 [.vC Ag v0, .vC kPt M, .vC Aj v2,I v3, .vC Aj J,I N,I E,I O,I S,I T,B v10,I v11,I v12,I G]=
 cond (decide (E<N)) (cond (decide (0<=E)&&decide (E<(J.length:Int))) (cond (gA (nth [] J E.toNat) 0==8) (cond (gA (nth [] J E.toNat) 19==3) (Qu AY J E v3 Y v2 V v0 M O S T v10 v11 G U N X (jA (nth [] J E.toNat) 20)) (cond (gA (nth [] J E.toNat) 19==4) (Qu AY J E v3 Y v2 V v0 M O S T v10 v11 G U N X (jA (nth [] J E.toNat) 20)) (Qu AY J E v3 Y v2 V v0 M O S T v10 v11 G U N X (I v12)))) (Qu AY J E v3 Y v2 V v0 M O S T v10 v11 G U N X (I v12))) (none)) (some (2,[.vC Ag v0, .vC kPt M,I O,I S,I T,B v10,I v11,I v12,I G])):=by kernel_rfl
theorem Zs5 (O S T U V X:Fn) (N J:Lp) (M:Rw):Qlo O S T U V X N J [.vC Aj M]=
 cond (decide ((M.length:Int)>20000)) (some [.vC Ag [], .vC kPt [],I 10,I 0,I 0,I 0,B false,I 0,I 0,I 0]) ((N [.vC Ag [], .vC kPt [], .vC Aj M,I (-1), .vC Aj M,I (M.length:Int),I 0,I 0,I 0,I 0,B false,I 0,I 0,I 0]).bind λE=>
 cond (E.1.beq 1) (some [.vC Ag (wA E.2 0), .vC kPt (wA E.2 1),jA E.2 2,jA E.2 3,jA E.2 4,jA E.2 5,B (bA E.2 6),jA E.2 7,jA E.2 8,jA E.2 9]) (cond (E.1.beq 2) ((J [.vC Ag (wA E.2 0), .vC kPt (wA E.2 1), .vC Aj (wA E.2 2),I (-1), .vC Aj (wA E.2 2),I (↑(wA E.2 2).length:Int),I 0,jA E.2 3,jA E.2 4,jA E.2 5,B (bA E.2 6),jA E.2 7,jA E.2 8,jA E.2 9]).bind λG=>
 cond (G.1.beq 1) (some [.vC Ag (wA G.2 0), .vC kPt (wA G.2 1),jA G.2 2,jA G.2 3,jA G.2 4,jA G.2 5,B (bA G.2 6),jA G.2 7,jA G.2 8,jA G.2 9]) (cond (G.1.beq 2) (some [.vC Ag (wA G.2 0), .vC kPt (wA G.2 1),I 0,jA G.2 2,jA G.2 3,jA G.2 4,B (bA G.2 5),jA G.2 6,jA G.2 7,jA G.2 8]) (none))) (none))):=by kernel_rfl
def RI:=Ak (QQ JF KO FR HJ Eh JL)
def Zdp:=Ak (Qn JF KO FR HJ Eh JL RI)
def Js:=Qlo JF KO FR HJ Eh JL RI Zdp
theorem Qdn:Ai PG (Qc6 JF KO FR HJ Eh JL):=Ap rfl ⟨Zk9,Z89,Qnp,Qxk,Ty,Ya1,trivial⟩
theorem Q2r:Am PG (Quu Js):=rw2 (C:=Q6p JF KO FR HJ Eh JL RI Zdp) (fl (fl fb Qdn) Qdn) Qdn
def Zml:=qa 37 Qqw Qae
def Qd6 (E G:Fn):Cfg:=cp [VM E,Quu G] [80]
def Zdj:Sk:=⟨[tf [sa Aj],td,td,tf [sd 100800 0],td,tf [ci]]++dd 47,[(100800,142,[ci,ci,ci,se 100800 7,se 100801 3,sb,ci,ci,ci])],[(100800,162,Ag),(100801,76,kPt)]⟩
def Qy7:List (Ex×Sk):=[(Ex.ret,⟨[td,td,tf [ci]]++dd 50,[],[]⟩),(Ex.exit 0,⟨[td,td,td,tf [sd 100800 0]]++dd 49,[(100800,142,[ci,ci,ci,se 100800 7,se 100801 3,sb,ci,ci,ci])],[(100800,162,Ag),(100801,76,kPt)]⟩)]
def P3 (E G:Fn):Lp:=A5 PG (Qd6 E G) 64 5 (A4 PG 37 5) Zdj Qy7
def Q9a (E G:Fn) (I:Lp):Cfg:=(Qd6 E G).loop 5 Zdj Qy7 I
def Qlu (E G:Fn) (I:Lp):Fn:=An PG (Q9a E G I) 64 37 Qqw Qae
theorem Q9p (X Y:Fn) (v0 M G:Rw) (E N O S:Int) (T:Bool) (J U v10:Int):P3 X Y [.vC Ag v0, .vC kPt M, .vC Aj G,I E,I N,I O,I S,B T,I J,I U,I v10]=
 cond (decide (E>=0)) (cond (decide (0<=E)&&decide (E<(G.length:Int))) (cond (gA (nth [] G E.toNat) 0==10) (some (0,[.vC Ag v0, .vC kPt M, .vC Aj G,I (V (E-1)),I N,I O,I S,B T,I J,I U,I v10])) (cond (decide (0<=E)&&decide (E<(G.length:Int))) ((X (AT Aj (nth [] G E.toNat))).bind λo4=>
 cond (bA o4 0) (cond (decide (0<=E)&&decide (E<(G.length:Int))) (cond (gA (nth [] G E.toNat) 18 !=0) (some (1,[I v10])) (some (1,[I J]))) (none)) (some (1,[I J]))) (none))) (none)) (some (2,[.vC Ag v0, .vC kPt M,I N,I O,I S,B T,I J,I U,I v10])):=by kernel_rfl
theorem Q99 (O M:Fn) (N:Lp) (G:Rw):Qlu O M N [.vC Aj G]=
 (M [.vC Aj G]).bind λE=>
 cond (gA E 2 !=0) (some [I 0]) ((N [.vC Ag (wA E 0), .vC kPt (wA E 1), .vC Aj G,I (V ((G.length:Int)-1)),jA E 3,jA E 4,jA E 5,B (bA E 6),jA E 7,jA E 8,jA E 9]).bind λJ=>
 cond (J.1.beq 1) (some [jA J.2 0]) (cond (J.1.beq 2) (some [jA J.2 6]) (none))):=by kernel_rfl
def Zbk:=Ak (P3 Fp Js)
def Oc:=Qlu Fp Js Zbk
theorem Qwu:Ai PG (Qd6 Fp Js):=Ap rfl ⟨TY,Q2r,trivial⟩
theorem Zvw:Am PG (Zml Oc):=rw2 (C:=Q9a Fp Js Zbk) (fl fb Qwu) Qwu
def Qhv:Sk:=⟨[tf [ci],tf [ci],tf [ci]],[],[]⟩
def Qkj:=qa 140 Qhv Qqn
def Qcu:Fn:=An PG Qcv 64 140 Qhv Qqn
theorem Zf3 (E G J:Int):Qcu [I E,I G,I J]=
 cond (decide (G<=E)) (some [B (decide (E<=J))]) (some [B false]):=by kernel_rfl
def Hr:=Qcu
theorem Qoa:Am PG (Qkj Hr):=rw1 (C:=Qcv) Zft
def Z6w:=qa 142 Qbd Qqn
def W6 (E:Fn):Cfg:=cf [Qkj E]
def Qky (E:Fn):Fn:=An PG (W6 E) 64 142 Qbd Qqn
theorem Zjg (G:Fn) (N O S T J M U V X:Int) (Y:Rw) (E:Int):Qky G [I N,I O,I S,I T,I J,I M,I U,I V,I X, .vC Aa Y,I E]=
 (G [I E,I J,I M]).bind λo1=>
 some [B (bA o1 0)]:=by kernel_rfl
def H9:=Qky Hr
theorem Zzk:Ai PG (W6 Hr):=Ap rfl ⟨Qoa,trivial⟩
theorem Zwb:Am PG (Z6w H9):=rw1 (C:=W6 Hr) Zzk
def Qjf:Sk:=⟨[TS.v true (cc 9++[sa Aa]++cc 9++[sa Aa]++cc 9++[sa Aa]),TS.v true [ci,ci,ci,sa Ag,sa kPt]],[],[]⟩
def Zhb:=qa 90 Qjf Qqn
def Qrc (E:Fn):Cfg:={cf [Z6w E]with rowDst:=[13],unroll:=[11]}
def Q20:Sk:=⟨[td,td,tf [sd 2 0],td,td,tf [se 13 3]]++dd 9++[tf [sa Ag],tf [ci],tf [ci]]++dd 28,[(2,27,cc 9++[sa Aa]++cc 9++[sa Aa]++cc 9++[sa Aa])],[(13,54,kPt)]⟩
def Q7l:List (Ex×Sk):=[(Ex.exit 0,⟨[td,td,tf [sd 2 0],td,td,tf [se 13 3]]++dd 40,[(2,27,cc 9++[sa Aa]++cc 9++[sa Aa]++cc 9++[sa Aa])],[(13,54,kPt)]⟩)]
def QT (E:Fn):Lp:=A5 PG (Qrc E) 64 3 (A4 PG 90 3) Q20 Q7l
def Qy2 (E:Fn) (G:Lp):Cfg:=(Qrc E).loop 3 Q20 Q7l G
def Q89:Sk:=⟨[td,td,tf [sd 2 0]]++dd 24++[tf [se 13 3],tf [ci],tf [ci]]++dd 16,[(2,27,cc 9++[sa Aa]++cc 9++[sa Aa]++cc 9++[sa Aa])],[(13,54,kPt)]⟩
def Q4w:List (Ex×Sk):=[(Ex.ret,⟨[td,td,td,td,tf [sb]]++dd 41,[],[]⟩),(Ex.exit 2,⟨[td]++dd 45,[],[]⟩)]
def VB (E:Fn) (G:Lp):Lp:=A5 PG (Qy2 E G) 64 8 (A4 PG 90 8) Q89 Q4w
def Q80 (E:Fn) (G I:Lp):Cfg:=(Qy2 E G).loop 8 Q89 Q4w I
def Qaj (E:Fn) (G I:Lp):Fn:=An PG (Q80 E G I) 64 90 Qjf Qqn
theorem Zu6 (Ev:Fn) (v0 G:Rw) (v2 E v4 v5 v6 v7 v8 v9 v10 v11 v12:Int) (J:Rw) (M N O S T U v20 v21 v22:Int) (X:Rw) (v24 v25 Y v27 v28 a0 v30 v31 a1:Int) (v33:Rw):QT Ev [.vC kPt v0, .vC Ag G,I v2,I E,I v4,I v5,I v6,I v7,I v8,I v9,I v10,I v11,I v12, .vC Aa J,I M,I N,I O,I S,I T,I U,I v20,I v21,I v22, .vC Aa X,I v24,I v25,I Y,I v27,I v28,I a0,I v30,I v31,I a1, .vC Aa v33]=
 cond (decide (E<v2)) (cond (decide (0<=E)&&decide (E<(G.length:Int))) (cond (((v0++[[jA (nth [] G E.toNat) 0,jA (nth [] G E.toNat) 1,jA (nth [] G E.toNat) 2]]).length*24).ble 140737488355328) (some (0,[.vC kPt (v0++[[jA (nth [] G E.toNat) 0,jA (nth [] G E.toNat) 1,jA (nth [] G E.toNat) 2]]), .vC Ag G,I v2,I (V (E+1)),I v4,I v5,I v6,I v7,I v8,I v9,I v10,I v11,I v12, .vC Aa J,I M,I N,I O,I S,I T,I U,I v20,I v21,I v22, .vC Aa X,I v24,I v25,I Y,I v27,I v28,I a0,I v30,I v31,I a1, .vC Aa v33])) (none)) (none)) (some (1,[.vC kPt v0,I v4,I v5,I v6,I v7,I v8,I v9,I v10,I v11,I v12, .vC Aa J,I M,I N,I O,I S,I T,I U,I v20,I v21,I v22, .vC Aa X,I v24,I v25,I Y,I v27,I v28,I a0,I v30,I v31,I a1, .vC Aa v33])):=by kernel_rfl
theorem Zx3 (Ev:Fn) (N3:Lp) (v0:Rw) (v1 E v3 v4 v5 v6 v7 v8 v9 v10 v11:Int) (v12:Rw) (G J M N O S T v20 v21:Int) (v22:Rw) (U v24 v25 X v27 v28 Y v30 v31:Int) (a0:Rw):VB Ev N3 [.vC kPt v0,I v1,I E,I v3,I v4,I v5,I v6,I v7,I v8,I v9,I v10,I v11, .vC Aa v12,I G,I J,I M,I N,I O,I S,I T,I v20,I v21, .vC Aa v22,I U,I v24,I v25,I X,I v27,I v28,I Y,I v30,I v31, .vC Aa a0]=
 cond (decide (E<v1)) (cond (decide (0<=E)&&decide (E<(v0.length:Int))) ((Ev [I v3,I v4,I v5,I v6,I v7,I v8,I v9,I v10,I v11, .vC Aa v12,jA (nth [] v0 E.toNat) 0]).bind λo6=>
 cond (!bA o6 0) (some (1,[B false])) ((Ev [I G,I J,I M,I N,I O,I S,I T,I v20,I v21, .vC Aa v22,jA (nth [] v0 E.toNat) 1]).bind λo7=>
 cond (!bA o7 0) (some (1,[B false])) ((Ev [I U,I v24,I v25,I X,I v27,I v28,I Y,I v30,I v31, .vC Aa a0,jA (nth [] v0 E.toNat) 2]).bind λo8=>
 cond (!bA o8 0) (some (1,[B false])) (some (0,[.vC kPt v0,I v1,I (V (E+1)),I v3,I v4,I v5,I v6,I v7,I v8,I v9,I v10,I v11, .vC Aa v12,I G,I J,I M,I N,I O,I S,I T,I v20,I v21, .vC Aa v22,I U,I v24,I v25,I X,I v27,I v28,I Y,I v30,I v31, .vC Aa a0]))))) (none)) (some (2,[])):=by kernel_rfl
theorem Zuf (Ev:Fn) (N3 N8:Lp) (x0 x1 x2 x3 x4 x5 x6 x7 x8:Int) (x9:Rw) (M N O S T U V X Y:Int) (a0:Rw) (a1 a2 a3 a4 a5 a6 a7 a8 a9:Int) (b0:Rw) (b1 b2 b3:Int) (G b4:Rw):Qaj Ev N3 N8 [I x0,I x1,I x2,I x3,I x4,I x5,I x6,I x7,I x8, .vC Aa x9,I M,I N,I O,I S,I T,I U,I V,I X,I Y, .vC Aa a0,I a1,I a2,I a3,I a4,I a5,I a6,I a7,I a8,I a9, .vC Aa b0,I b1,I b2,I b3, .vC Ag G, .vC kPt b4]=
 (N3 [.vC kPt [[I b1,I b2,I b3]], .vC Ag G,I (G.length:Int),I 0,I x0,I x1,I x2,I x3,I x4,I x5,I x6,I x7,I x8, .vC Aa x9,I M,I N,I O,I S,I T,I U,I V,I X,I Y, .vC Aa a0,I a1,I a2,I a3,I a4,I a5,I a6,I a7,I a8,I a9, .vC Aa b0]).bind λE=>
 cond (E.1.beq 1) ((N8 [.vC kPt (wA E.2 0),I (↑(wA E.2 0).length:Int),I 0,jA E.2 1,jA E.2 2,jA E.2 3,jA E.2 4,jA E.2 5,jA E.2 6,jA E.2 7,jA E.2 8,jA E.2 9, .vC Aa (wA E.2 10),jA E.2 11,jA E.2 12,jA E.2 13,jA E.2 14,jA E.2 15,jA E.2 16,jA E.2 17,jA E.2 18,jA E.2 19, .vC Aa (wA E.2 20),jA E.2 21,jA E.2 22,jA E.2 23,jA E.2 24,jA E.2 25,jA E.2 26,jA E.2 27,jA E.2 28,jA E.2 29, .vC Aa (wA E.2 30)]).bind λJ=>
 cond (J.1.beq 1) (some [B (bA J.2 0)]) (cond (J.1.beq 2) (some [B true]) (none))) (none):=by kernel_rfl
def Qit:=Ak (QT H9)
def Q4x:=Ak (VB H9 Qit)
def Qv:=Qaj H9 Qit Q4x
theorem Qhb:Ai PG (Qrc H9):=Ap rfl ⟨Zwb,trivial⟩
theorem Z34:Am PG (Zhb Qv):=rw2 (C:=Q80 H9 Qit Q4x) (fl (fl fb Qhb) Qhb) Qhb
def Qp0:Sk:=⟨[TS.tup [(true,[ci,ci,ci,sa Ag,sa kPt]),(false,[ci])]],[],[]⟩
def Zeg:=qa 89 Qqw Qp0
def Qgb (E:Fn):Cfg:=cp [Quu E] [80]
def Qi8 (E:Fn):Fn:=An PG (Qgb E) 64 89 Qqw Qp0
theorem Zvr (E:Fn) (G:Rw):Qi8 E [.vC Aj G]=
 (E [.vC Aj G]).bind λo1=>
 cond (gA o1 2 !=0) (some [I 0,I 0,I 0, .vC Ag [], .vC kPt [],jA o1 2]) (some [jA o1 3,jA o1 4,jA o1 5, .vC Ag (wA o1 0), .vC kPt (wA o1 1),I 0]):=by kernel_rfl
def N0:=Qi8 Js
theorem Zwl:Ai PG (Qgb Js):=Ap rfl ⟨Q2r,trivial⟩
theorem Znb:Am PG (Zeg N0):=rw1 (C:=Qgb Js) Zwl
def Qmu:Sk:=⟨[tf [sd 20000 0],tf [sa Aj],tf [sb]],[(20000,119,cS)],[]⟩
def Zrf:=qa 57 Qmu Qmt
def Qf3 (E G I J:Fn):Cfg:={cf [Zml E,Q96 G,Zhb I,Zeg J]with fstore:=true}
def Q6 (E G I J:Fn):Fn:=An PG (Qf3 E G I J) 64 57 Qmu Qmt
theorem Zig (G J M N:Fn) (E:Rw) (O:Bool) (K:Kf) (c:Cv):Q6 G J M N (.vC Aj E::B O::Ab K c)=
 (N [.vC Aj E]).bind λo4=>
 cond (gA o4 5 !=0) (some (jA o4 5::Ab K c)) ((M (AI K.x++[jA o4 0,jA o4 1,jA o4 2, .vC Ag (wA o4 3), .vC kPt (wA o4 4)])).bind λS=>
 cond (!bA S 0) (some (I 17::Ab K c)) (cond ((E.length*176).ble 140737488355328) ((J [jA o4 0,jA o4 1,jA o4 2, .vC Ag (wA o4 3), .vC kPt (wA o4 4)]).bind λT=>
 (G [.vC Aj E]).bind λU=>
 some (I 0::DY (Ab K c) [(35, .vC Aj E),(36,B O),(37,jA o4 0),(38,jA o4 1),(39,jA o4 2),(40, .vC Ag (wA o4 3)),(41, .vC kPt (wA o4 4)),(42,jA T 0),(43,jA U 0)])) (none))):=by kernel_rfl
def UD:=Q6 Oc J4 Qv N0
theorem Znd:Ai PG (Qf3 Oc J4 Qv N0):=Ap rfl ⟨Zvw,Q7v,Z34,Znb,trivial⟩
theorem Zsg:Am PG (Zrf UD):=rw1 (C:=Qf3 Oc J4 Qv N0) Znd
def Zwy:=qa 55 Qay Qo1
def Qg3:Fn:=An PG Qcv 64 55 Qay Qo1
theorem Z3r:Qg3 []=
 some [I 100,I 100,B false,B false,B false]:=by kernel_rfl
def QI:=Qg3
theorem Zzt:Am PG (Zwy QI):=rw1 (C:=Qcv) Zft
def Xh:Sk:=⟨[TS.v true (cc 9++[sa Aa]++cc 9++[sa Aa]++cc 9++[sa Aa]++cc 5)],[],[]⟩
def Znl:=qa 54 Xh Xh
def YO:Cfg:={cf []with fstore:=true,unroll:=[2]}
def Qcl:Fn:=An PG YO 64 54 Xh Xh
theorem Zet (x0 x1 x2 x3 x4 x5 x6 x7 x8:Int) (x9:Rw) (J M N O S T U V X:Int) (E:Rw) (Y a0 a1 a2 a3 a4 a5 a6 a7:Int) (G:Rw) (a8 a9 b0 b1 b2:Int):Qcl [I x0,I x1,I x2,I x3,I x4,I x5,I x6,I x7,I x8, .vC Aa x9,I J,I M,I N,I O,I S,I T,I U,I V,I X, .vC Aa E,I Y,I a0,I a1,I a2,I a3,I a4,I a5,I a6,I a7, .vC Aa G,I a8,I a9,I b0,I b1,I b2]=
 cond ((x9.length*8).ble 140737488355328) (cond ((E.length*8).ble 140737488355328) (cond ((G.length*8).ble 140737488355328) (some [I x0,I x1,I x2,I x3,I x4,I x5,I x6,I x7,I x8, .vC Aa x9,I J,I M,I N,I O,I S,I T,I U,I V,I X, .vC Aa E,I Y,I a0,I a1,I a2,I a3,I a4,I a5,I a6,I a7, .vC Aa G,I a8,I a9,I b0,I b1,I b2]) (none)) (none)) (none):=by kernel_rfl
def QM:=Qcl
theorem Z2m:Ai PG (YO):=Ap rfl trivial
theorem Ziz:Am PG (Znl QM):=rw1 (C:=YO) Z2m
def Qiv:Sk:=⟨[TS.v true (cc 9++[sa Aa])],[],[]⟩
def Zkm:=qa 141 Qiv Qqn
def Qnv (E:Fn):Cfg:=cf [Qkj E]
def Q8y:Sk:=⟨[td,tf [sd 1 0]]++dd 24++[tf [sa Aa],tf [ci],tf [ci]]++dd 29,[(1,26,cc 9++[sa Aa])],[]⟩
def Q7z:List (Ex×Sk):=[(Ex.ret,⟨[td,td,tf [sb]]++dd 55,[],[]⟩),(Ex.exit 0,⟨[td]++dd 57,[],[]⟩)]
def Qa4 (E:Fn):Lp:=A5 PG (Qnv E) 64 6 (A4 PG 141 6) Q8y Q7z
def Q1l (E:Fn) (G:Lp):Cfg:=(Qnv E).loop 6 Q8y Q7z G
def Qan (E:Fn) (G:Lp):Fn:=An PG (Q1l E G) 64 141 Qiv Qqn
theorem Zox (J:Fn) (v0:Rw) (G E M N O S T U X v10 v11:Int) (v12:Rw):Qa4 J [.vC Aa v0,I G,I E,I M,I N,I O,I S,I T,I U,I X,I v10,I v11, .vC Aa v12]=
 cond (decide (E<G)) (cond (decide (0<=E)&&decide (E<(v0.length:Int))) ((J [jA (nth [] v0 E.toNat) 0,I (-4096),I 4096]).bind λY=>
 cond (!bA Y 0) (some (1,[B false])) (cond (decide (E>0)) (cond (decide (0<=V (E-1))&&decide (V (E-1)<(v12.length:Int))) ((J [I (V (gA (nth [] v0 E.toNat) 0-gA (nth [] v12 (V (E-1)).toNat) 0)),I (V (0-V (v11.tdiv 4))),I (V (v11.tdiv 4))]).bind λo8=>
 cond (!bA o8 0) (some (1,[B false])) (some (0,[.vC Aa v0,I G,I (V (E+1)),I M,I N,I O,I S,I T,I U,I X,I v10,I v11, .vC Aa v12]))) (none)) (some (0,[.vC Aa v0,I G,I (V (E+1)),I M,I N,I O,I S,I T,I U,I X,I v10,I v11, .vC Aa v12])))) (none)) (some (2,[])):=by kernel_rfl
theorem Zls (J:Fn) (S:Lp) (T U V X Y x5 x6 M N:Int) (G:Rw):Qan J S [I T,I U,I V,I X,I Y,I x5,I x6,I M,I N, .vC Aa G]=
 cond ((G.length:Int)==0) (some [B true]) (cond (decide ((G.length:Int)>64)) (some [B false]) ((J [I M,I (-16777216),I 16777216]).bind λo9=>
 cond (!bA o9 0) (some [B false]) ((J [I N,I 4,I 16777216]).bind λO=>
 cond (!bA O 0) (some [B false]) ((S [.vC Aa G,I (G.length:Int),I 0,I T,I U,I V,I X,I Y,I x5,I x6,I M,I N, .vC Aa G]).bind λE=>
 cond (E.1.beq 1) (some [B (bA E.2 0)]) (cond (E.1.beq 2) (some [B true]) (none)))))):=by kernel_rfl
def Qvd:=Ak (Qa4 Hr)
def QU:=Qan Hr Qvd
theorem Zcl:Ai PG (Qnv Hr):=Ap rfl ⟨Qoa,trivial⟩
theorem Zq5:Am PG (Zkm QU):=rw2 (C:=Q1l Hr Qvd) (fl fb Zcl) Zcl
def Yad:=qa 86 Qiv Qqn
def Qp4 (E G:Fn):Cfg:=cf [Zkm E,Qkj G]
def Qfr (E G:Fn):Fn:=An PG (Qp4 E G) 64 86 Qiv Qqn
theorem Z8p (Y J:Fn) (M N O S E G T x7 x8:Int) (x9:Rw):Qfr Y J [I M,I N,I O,I S,I E,I G,I T,I x7,I x8, .vC Aa x9]=
 (J [I M,I 4,I 4096]).bind λo6=>
 cond (bA o6 0) ((J [I N,I 1,I 1048576]).bind λo7=>
 cond (bA o7 0) ((J [I O,I 2,I 1048576]).bind λo8=>
 cond (bA o8 0) ((J [I S,I 4,I 1048576]).bind λU=>
 cond (decide (E>= -16777216)) (cond (decide (G<=16777216)) (cond (bA U 0) (cond (decide (E<=G)) ((J [I T,I 0,I 64]).bind λV=>
 cond (bA V 0) ((Y [I M,I N,I O,I S,I E,I G,I T,I x7,I x8, .vC Aa x9]).bind λX=>
 some [B (bA X 0)]) (some [B false])) (some [B false])) (some [B false])) (cond (bA U 0) (some [B false]) (some [B false]))) (cond (bA U 0) (some [B false]) (some [B false]))) (cond (decide (E>= -16777216)) (cond (decide (G<=16777216)) (some [B false]) (some [B false])) (some [B false]))) (cond (decide (E>= -16777216)) (cond (decide (G<=16777216)) (some [B false]) (some [B false])) (some [B false]))) (cond (decide (E>= -16777216)) (cond (decide (G<=16777216)) (some [B false]) (some [B false])) (some [B false])):=by kernel_rfl
def Rd:=Qfr QU Hr
theorem Zro:Ai PG (Qp4 QU Hr):=Ap rfl ⟨Zq5,Qoa,trivial⟩
theorem Z1s:Am PG (Yad Rd):=rw1 (C:=Qp4 QU Hr) Zro
def Z4c:=qa 53 Xh Qqn
def Z4 (E G I:Fn):Cfg:={cf [Qh4 E,Zi G,Yad I]with unroll:=[2]}
def Xf (E G I:Fn):Fn:=An PG (Z4 E G I) 64 53 Xh Qqn
theorem Zz2 (DT B_ KN:Fn) (x0 x1 x2 x3 x4 x5 x6 x7 x8:Int) (x9:Rw) (J M N O S T U V X:Int) (Y:Rw) (a0 a1 a2 a3 a4 a5 a6 a7 a8:Int) (a9:Rw) (b0 b1 b2 E G:Int):Xf DT B_ KN [I x0,I x1,I x2,I x3,I x4,I x5,I x6,I x7,I x8, .vC Aa x9,I J,I M,I N,I O,I S,I T,I U,I V,I X, .vC Aa Y,I a0,I a1,I a2,I a3,I a4,I a5,I a6,I a7,I a8, .vC Aa a9,I b0,I b1,I b2,I E,I G]=
 (KN [I x0,I x1,I x2,I x3,I x4,I x5,I x6,I x7,I x8, .vC Aa x9]).bind λo5=>
 cond (!bA o5 0) (some [B false]) ((KN [I J,I M,I N,I O,I S,I T,I U,I V,I X, .vC Aa Y]).bind λo6=>
 cond (!bA o6 0) (some [B false]) ((KN [I a0,I a1,I a2,I a3,I a4,I a5,I a6,I a7,I a8, .vC Aa a9]).bind λo7=>
 cond (!bA o7 0) (some [B false]) ((B_ [I b0,I b1,I b2]).bind λo8=>
 cond (bA o8 0) (cond (decide (E>=1)) ((DT [I 30000]).bind λo9=>
 cond (decide (E<=gA o9 0)) (cond (decide (G>=0)) (some [B (decide (G<=1048576))]) (some [B false])) (some [B false])) (some [B false])) (some [B false])))):=by kernel_rfl
def RU:=Xf FF FE Rd
theorem Ziy:Ai PG (Z4 FF FE Rd):=Ap rfl ⟨Qle,Qpq,Z1s,trivial⟩
theorem Zh4:Am PG (Z4c RU):=rw1 (C:=Z4 FF FE Rd) Ziy
def Qi9:Sk:=⟨[TS.v true (cc 9++[sa Aa]++cc 9++[sa Aa]++cc 9++[sa Aa]++cc 5),tf [sa Aj],tf [sb]],[],[]⟩
def WJ:Sk:=⟨[TS.tup [(false,[sd 19 0]),(false,[ci])]],[(19,119,cS)],[]⟩
def Qz6:=qa 20 Qi9 WJ
def Qf5 (E G I J M N O:Fn):Cfg:={cp [Qkb E,Qv6 G,Zrf I,Qtq J,Zwy M,Znl N,Z4c O] [57]with fstore:=true}
def TI (E G I J M N O:Fn):Fn:=An PG (Qf5 E G I J M N O) 64 20 Qi9 WJ
theorem Zfb (Ek GD PV GK PO PR Pr:Fn) (x0 x1 x2 x3 x4 x5 x6 x7 x8:Int) (x9:Rw) (N O S T U V X Y a0:Int) (a1:Rw) (a2 a3 a4 a5 a6 a7 a8 a9 b0:Int) (b1:Rw) (b2 b3 b4 b5 b6:Int) (b8:Rw) (b9:Bool):TI Ek GD PV GK PO PR Pr [I x0,I x1,I x2,I x3,I x4,I x5,I x6,I x7,I x8, .vC Aa x9,I N,I O,I S,I T,I U,I V,I X,I Y,I a0, .vC Aa a1,I a2,I a3,I a4,I a5,I a6,I a7,I a8,I a9,I b0, .vC Aa b1,I b2,I b3,I b4,I b5,I b6, .vC Aj b8,B b9]=
 (Pr [I x0,I x1,I x2,I x3,I x4,I x5,I x6,I x7,I x8, .vC Aa x9,I N,I O,I S,I T,I U,I V,I X,I Y,I a0, .vC Aa a1,I a2,I a3,I a4,I a5,I a6,I a7,I a8,I a9,I b0, .vC Aa b1,I b2,I b3,I b4,I b5,I b6]).bind λo7=>
 cond (!bA o7 0) (none) ((PR [I x0,I x1,I x2,I x3,I x4,I x5,I x6,I x7,I x8, .vC Aa x9,I N,I O,I S,I T,I U,I V,I X,I Y,I a0, .vC Aa a1,I a2,I a3,I a4,I a5,I a6,I a7,I a8,I a9,I b0, .vC Aa b1,I b2,I b3,I b4,I b5,I b6]).bind λG=>
 (PO []).bind λo9=>
 (GK []).bind λb7=>
 (PV [.vC Aj b8,B b9,jA G 0,jA G 1,jA G 2,jA G 3,jA G 4,jA G 5,jA G 6,jA G 7,jA G 8, .vC Aa (wA G 9),jA G 10,jA G 11,jA G 12,jA G 13,jA G 14,jA G 15,jA G 16,jA G 17,jA G 18, .vC Aa (wA G 19),jA G 20,jA G 21,jA G 22,jA G 23,jA G 24,jA G 25,jA G 26,jA G 27,jA G 28, .vC Aa (wA G 29),jA G 30,jA G 31,jA G 32,jA G 33,jA G 34, .vC Aj [],B false,I 0,I 0,I 0, .vC Ag [], .vC kPt [],I 0,I 0, .vC As [],I 0,I 0,I 0,I 0,I 0,I 0,I 0,I 0,I 0,I 0,I 0,jA o9 0,jA o9 1,B (bA o9 2),B (bA o9 3),B (bA o9 4),jA b7 0,jA b7 1,jA b7 2,I 1,I 0,I 0,I 0,I 0,I 0,I 0,I 0,I 0,B false,I 0,B false,I 0,B false,I 0,I (-1),I 0,I 0,I 0,I 0,I 0,I 0,I 0,B false,B false,B false]).bind λE=>
 cond (gA E 0 !=0) (none) ((GD [jA E 38,jA E 39,jA E 40, .vC Ag (wA E 41), .vC kPt (wA E 42),jA E 1,jA E 2,jA E 3,jA E 4,jA E 5,jA E 6,jA E 7,jA E 8,jA E 9, .vC Aa (wA E 10),jA E 11,jA E 12,jA E 13,jA E 14,jA E 15,jA E 16,jA E 17,jA E 18,jA E 19, .vC Aa (wA E 20),jA E 21,jA E 22,jA E 23,jA E 24,jA E 25,jA E 26,jA E 27,jA E 28,jA E 29, .vC Aa (wA E 30),I 1,I 1,I 1,I 0,jA E 43]).bind λJ=>
 (Ek [I 0]).bind λM=>
 some (I 0::DY (cR 1 E) [(44, .vC As (wA J 0)),(45,jA J 1),(46,jA J 2),(47,jA J 3),(48,jA J 4),(49,jA J 5),(50,jA M 0),(51,jA M 1),(52,jA M 2),(53,jA M 3),(54,jA M 4),(55,jA M 5)]))):=by kernel_rfl
def F6:=TI HA Kj UD Kx QI QM RU
theorem Zlk:Ai PG (Qf5 HA Kj UD Kx QI QM RU):=Ap rfl ⟨W8,Qtl,Zsg,Qyr,Zzt,Ziz,Zh4,trivial⟩
theorem Zb5:Am PG (Qz6 F6):=rw1 (C:=Qf5 HA Kj UD Kx QI QM RU) Zlk
def Qyi:=qa 17 ZS Qae
def Qt8:Fn:=An PG Qcv 64 17 ZS Qae
theorem Zty (G E:Int):Qt8 [I G,I E]=
 cond (decide (E=0)) (none) (cond (decide (E=0)) (none) (some [I ((V (G.tmod E+E)).tmod E)])):=by kernel_rfl
def Gz:=Qt8
theorem Qu2:Am PG (Qyi Gz):=rw1 (C:=Qcv) Zft
def WX:Sk:=⟨[tf [sd 20000 0],tf [ci]],[(20000,103,[sa Aa,ci])],[]⟩
def Qsh:Sk:=⟨[tf [ci]],[(20000,103,[sa Aa,ci])],[]⟩
def PP:=qa 48 WX Qsh
def Qge (E:Fn):Cfg:=cf [Qyi E]
def Qox (E:Fn):Fn:=An PG (Qge E) 64 48 WX Qsh
theorem Zx2 (J:Fn) (M:Int) (G:Rw) (E:Int):Qox J [I M, .vC Aa G,I E]=
 cond (decide (E>=(G.length:Int))) (some [I 0, .vC Aa G,I E]) (cond (decide (0<=E)&&decide (E<(G.length:Int))) ((J [jA (nth [] G E.toNat) 0,I M]).bind λo1=>
 some [jA o1 0, .vC Aa G,I (V (E+1))]) (none)):=by kernel_rfl
def Dv:=Qox Gz
theorem Zkh:Ai PG (Qge Gz):=Ap rfl ⟨Qu2,trivial⟩
theorem Od:Am PG (PP Dv):=rw1 (C:=Qge Gz) Zkh
abbrev Z4o (M:Fn) (J:List AC) (N:Int) (G:AC):Option (List AC):=
 (M [G, .vC Aa (wA J 1),jA J 2]).bind λE=>
 some [I N,I (Ah (nth .dead (nth [] [[I 4],[I 1],[I 2],[I 3],[I 4],[I 5],[I 6],[I 7],[I 4],[I 8],[I 9],[I 11],[I 12],[I 13],[I 10]] (gA J 0).toNat) 0)),I (V (gA E 0-5)), .vC Aa (wA E 1),jA E 2]
def Qmz:Sk:=⟨[tf [sd 20000 0]],[(20000,103,[sa Aa,ci])],[]⟩
def Qkw:Sk:=⟨[tf [sb]],[(20000,103,[sa Aa,ci])],[]⟩
def Zjx:=qa 49 Qmz Qkw
def Qx2:Fn:=An PG Qcv 64 49 Qmz Qkw
theorem Zg7 (E:Rw) (G:Int):Qx2 [.vC Aa E,I G]=
 some [B (decide (G<(E.length:Int))), .vC Aa E,I G]:=by kernel_rfl
def LM:=Qx2
theorem Z49:Am PG (Zjx LM):=rw1 (C:=Qcv) Zft
def Ql1:Sk:=⟨[tf [sd 5 0]],[(5,103,[sa Aa,ci])],[]⟩
def Vf:=qa 45 Qhr Ql1
def Q8r:Fn:=An PG Qcv 64 45 Qhr Ql1
theorem Zqv (E:Rw):Q8r [.vC Aa E]=
 some [.vC Aa E,I 0]:=by kernel_rfl
def Es:=Q8r
theorem US:Am PG (Vf Es):=rw1 (C:=Qcv) Zft
def Zvv:=qa 139 X4 Qbn
def Zdr:Fn:=An PG Qcv 64 139 X4 Qbn
theorem Z6y (E G J M:Int):Zdr [I E,I G,I J,I M]=
 cond (M==17) (some [I E,I G,I J]) (cond (M==18) (some [I G,I J,I E]) (cond (M==19) (some [I J,I E,I G]) (some [I 0,I 0,I 0]))):=by kernel_rfl
def OZ:=Zdr
theorem Zlm:Am PG (Zvv OZ):=rw1 (C:=Qcv) Zft
def Zm9:=qa 138 ZS XB
def Q0b:Fn:=An PG Qcv 64 138 ZS XB
theorem Zxb (E G:Int):Q0b [I E,I G]=
 cond (decide (0<=G.tmod 4)&&decide (G.tmod 4<(↑[[I E],[I 0],[I (V (0-E))],[I 0]].length:Int))) (cond (decide (0<=G.tmod 4)&&decide (G.tmod 4<(↑[[I 0],[I E],[I 0],[I (V (0-E))]].length:Int))) (some [I (Ah (nth .dead (nth [] [[I E],[I 0],[I (V (0-E))],[I 0]] (G.tmod 4).toNat) 0)),I (Ah (nth .dead (nth [] [[I 0],[I E],[I 0],[I (V (0-E))]] (G.tmod 4).toNat) 0))]) (none)) (none):=by kernel_rfl
def Pw:=Q0b
theorem Zsy:Am PG (Zm9 Pw):=rw1 (C:=Qcv) Zft
def Z59:=qa 137 Qi1 Qkf
def Qyw:Fn:=An PG Qcv 64 137 Qi1 Qkf
theorem Zqb (E G J M:Int):Qyw [I E,I G,I J,I M]=
 cond (M==17) (some [I E,I G,I J]) (cond (M==18) (some [I J,I E,I G]) (cond (M==19) (some [I G,I J,I E]) (some [I 0,I 0,I 0]))):=by kernel_rfl
def OJ:=Qyw
theorem Z1z:Am PG (Z59 OJ):=rw1 (C:=Qcv) Zft
def Qpa:Sk:=⟨[tf [sd 20000 0],TS.v true [ci,ci,ci],tf [ci]],[(20000,103,[sa Aa,ci])],[]⟩
def YD:Sk:=⟨[TS.v true (cc 13++[sb,ci,sb]++cc 5++[sb])],[(20000,103,[sa Aa,ci])],[]⟩
def Zu2:=qa 85 Qpa YD
def YQ (E G I J:Fn):Cfg:=cp [Zvv E,Zm9 G,Z59 I,PP J] [48]
def Qki (E G I J:Fn):Fn:=An PG (YQ E G I J) 64 85 Qpa YD
abbrev SZ (Ax HQ:Fn) (U M:List AC) (x0 x1 x2:Int) (G X Y:List AC) (N O S T:AC):Option (List AC):=
 (Ax [I 4,N,O]).bind λE=>
 cond (decide (0<=gA E 0)&&decide (gA E 0<(↑[[I 0],[I 0],[I 7],[I (-12)]].length:Int))) ((HQ [S,T,I (V (gA U 2+Ah (nth .dead (nth [] [[I 0],[I 0],[I 7],[I (-12)]] (gA E 0).toNat) 0))),I (Ah (nth .dead (nth [] [[I 17],[I 18],[I 19]] (gA M 0).toNat) 0))]).bind λJ=>
 some [I 3,I 0,I x0,I x1,I x2,jA J 0,jA J 1,jA J 2,I (Ah (nth .dead (nth [] [[I 17],[I 18],[I 19]] (gA M 0).toNat) 0)),jA G 0,jA G 1,jA G 2,I (V (1-V (gA X 0*2))),B (gA Y 0==0),I 0,B false,I 0,I 0,I 0,I 0,I 0,B false, .vC Aa (wA E 1),jA E 2]) (none)
theorem Zyw (HQ Na Of S:Fn) (x0 x1 x2 x3:Int) (x4:Rw) (x5:Int):Qki HQ Na Of S [I x0,I x1,I x2,I x3, .vC Aa x4,I x5]=
 (S [I 3, .vC Aa x4,I x5]).bind λG=>
 cond (decide (0<=gA G 0)&&decide (gA G 0<(↑[[I 17],[I 18],[I 19]].length:Int))) ((S [I 2, .vC Aa (wA G 1),jA G 2]).bind λT=>
 (S [I x3, .vC Aa (wA T 1),jA T 2]).bind λM=>
 (S [I 4, .vC Aa (wA M 1),jA M 2]).bind λX=>
 (S [I 4, .vC Aa (wA X 1),jA X 2]).bind λJ=>
 (Of [I x0,I x1,I x2,I (Ah (nth .dead (nth [] [[I 17],[I 18],[I 19]] (gA G 0).toNat) 0))]).bind λE=>
 (Na [I (V (8+gA M 0)),jA X 0]).bind λN=>
 (Na [I (V (8+gA M 0)),I (V (gA X 0+gA J 0))]).bind λO=>
 (HQ [I (V (gA E 0-gA N 0)),I (V (gA E 1-gA N 1)),jA E 2,I (Ah (nth .dead (nth [] [[I 17],[I 18],[I 19]] (gA G 0).toNat) 0))]).bind λY=>
 cond (decide (gA J 0>0)) ((S [I 3, .vC Aa (wA J 1),jA J 2]).bind λU=>
 cond (gA U 0==0) (cond (decide (V (8+gA M 0)=0)) (none) ((S [I 5, .vC Aa (wA U 1),jA U 2]).bind λa0=>
 cond (decide (V (8+gA M 0)=0)) (none) ((S [I 5, .vC Aa (wA a0 1),jA a0 2]).bind λa1=>
 SZ S HQ E G x0 x1 x2 Y T J (.vC Aa (wA a1 1)) (jA a1 2) (I (V (V (gA E 0-gA N 0)+V (gA O 0+V (V ((gA O 0).tdiv (V (8+gA M 0)))*gA a0 0))))) (I (V (V (gA E 1-gA N 1)+V (gA O 1+V (V ((gA O 1).tdiv (V (8+gA M 0)))*gA a1 0)))))))) (SZ S HQ E G x0 x1 x2 Y T J (.vC Aa (wA U 1)) (jA U 2) (I (V (V (gA E 0-gA N 0)+gA O 0))) (I (V (V (gA E 1-gA N 1)+gA O 1))))) (SZ S HQ E G x0 x1 x2 Y T J (.vC Aa (wA J 1)) (jA J 2) (I (V (V (gA E 0-gA N 0)+gA O 0))) (I (V (V (gA E 1-gA N 1)+gA O 1))))) (none):=by kernel_rfl
def QX:=Qki OZ Pw OJ Dv
theorem Zeb:Ai PG (YQ OZ Pw OJ Dv):=Ap rfl ⟨Zlm,Zsy,Z1z,Od,trivial⟩
theorem Z2y:Am PG (Zu2 QX):=rw1 (C:=YQ OZ Pw OJ Dv) Zeb
def Znz:=qa 51 Qpa YD
def WE (E G:Fn):Cfg:=cp [PP E,Zu2 G] [48,85]
def Ww (E G:Fn):Fn:=An PG (WE E G) 64 51 Qpa YD
abbrev Qfv (Ax:Fn) (a9:List AC) (x3:Int) (X Y a0 a1 a2 a3 a4 a5 a6 a7 G J M N O S T U:AC):Option (List AC):=
 (Ax [I 60, .vC Aa (wA a9 1),jA a9 2]).bind λE=>
 cond (x3==6) ((Ax [I 2, .vC Aa (wA E 1),jA E 2]).bind λa8=>
 some [X,Y,a0,a1,a2,a3,a4,a5,a6,a7,G,J,M,N,I (V (1+gA E 0)),B true,O,S,I 0,I (V (3+gA a8 0)),T,U, .vC Aa (wA a8 1),jA a8 2]) (some [X,Y,a0,a1,a2,a3,a4,a5,a6,a7,G,J,M,N,I (V (1+gA E 0)),B true,O,S,I 0,I 0,T,U, .vC Aa (wA E 1),jA E 2])
abbrev Xo (x3:Int) (Ax:Fn) (V X Y a0 a1 a2 a3 a4 a5 a6 E G J M b2 a7 N O b3 a8 S T b0 b1:AC):Option (List AC):=
 cond (x3==1) (some [V,X,Y,a0,a1,a2,a3,a4,a5,a6,E,G,J,M,b2,a7,N,O,b3,a8,S,T,b0,b1]) ((Ax [I 5,b0,b1]).bind λa9=>
 cond (decide (0<=gA a9 0)&&decide (gA a9 0<(↑[[I 300000],[I 1],[I 60000],[I 2000000],[I 60000000]].length:Int))) ((Ax [I 5, .vC Aa (wA a9 1),jA a9 2]).bind λU=>
 cond (decide (0<=gA U 0)&&decide (gA U 0<(↑[[I 0],[I 1],[I 2],[I 4],[I 9]].length:Int))) (cond (x3==5) (Qfv Ax U x3 V X Y a0 a1 a2 a3 a4 a5 a6 E G J M N O S T) (cond (x3==6) (Qfv Ax U x3 V X Y a0 a1 a2 a3 a4 a5 a6 E G J M N O S T) (cond (x3==4) (some [V,X,Y,a0,a1,a2,a3,a4,a5,a6,E,G,J,M,I (Ah (nth .dead (nth [] [[I 300000],[I 1],[I 60000],[I 2000000],[I 60000000]] (gA a9 0).toNat) 0)),a7,N,O,I 0,a8,S,T, .vC Aa (wA U 1),jA U 2]) (some [V,X,Y,a0,a1,a2,a3,a4,a5,a6,E,G,J,M,I (Ah (nth .dead (nth [] [[I 300000],[I 1],[I 60000],[I 2000000],[I 60000000]] (gA a9 0).toNat) 0)),a7,N,O,I (Ah (nth .dead (nth [] [[I 0],[I 1],[I 2],[I 4],[I 9]] (gA U 0).toNat) 0)),a8,S,T, .vC Aa (wA U 1),jA U 2])))) (none)) (none))
theorem Z0t (G PQ:Fn) (U X Y T:Int) (x4:Rw) (x5:Int):Ww G PQ [I U,I X,I Y,I T, .vC Aa x4,I x5]=
 cond (T==3) ((PQ [I U,I X,I Y,I 8, .vC Aa x4,I x5]).bind λE=>
 Xo T G (jA E 0) (jA E 1) (jA E 2) (jA E 3) (jA E 4) (jA E 5) (jA E 6) (jA E 7) (jA E 8) (jA E 9) (jA E 10) (jA E 11) (jA E 12) (B (bA E 13)) (jA E 14) (B (bA E 15)) (jA E 16) (jA E 17) (jA E 18) (jA E 19) (jA E 20) (B (bA E 21)) (.vC Aa (wA E 22)) (jA E 23)) ((G [I 25, .vC Aa x4,I x5]).bind λJ=>
 (G [I 25, .vC Aa (wA J 1),jA J 2]).bind λM=>
 (G [I 3, .vC Aa (wA M 1),jA M 2]).bind λN=>
 (G [I 9, .vC Aa (wA N 1),jA N 2]).bind λO=>
 (G [I 2, .vC Aa (wA O 1),jA O 2]).bind λS=>
 Xo T G (I T) (I 0) (I U) (I X) (I Y) (I (V (V (U+gA J 0)-12))) (I (V (V (X+gA M 0)-12))) (I (V (V (Y+V (gA N 0*gA O 0))-V (8*gA S 0)))) (I 0) (I 0) (I 0) (I 0) (I 0) (B false) (I 0) (B false) (I 0) (I 0) (I 0) (I 0) (I 0) (B false) (.vC Aa (wA S 1)) (jA S 2)):=by kernel_rfl
def NH:=Ww Dv QX
theorem Zse:Ai PG (WE Dv QX):=Ap rfl ⟨Od,Z2y,trivial⟩
theorem Zp0:Am PG (Znz NH):=rw1 (C:=WE Dv QX) Zse
abbrev Z6q (J:Fn) (M:List AC):Option (List AC):=
 (J [I 16, .vC Aa (wA M 1),jA M 2]).bind λG=>
 (J [I 2, .vC Aa (wA G 1),jA G 2]).bind λE=>
 some [I 10,I 0,I 0,I 0,I 0,I 0,I 0,I 0,I 0,I 0,I 0,I 0,I 0,B false,I 0,B false,I 0,I 0,I 0,jA G 0,I 0,B (gA E 0==0), .vC Aa (wA E 1),jA E 2]
def Zex:=qa 47 Qhr Qbn
def Qfl (E G:Fn):Cfg:=cp [PP E,Vf G] [48,45]
def Wi (E G:Fn):Fn:=An PG (Qfl E G) 64 47 Qhr Qbn
theorem Zzj (E M:Fn) (N:Rw):Wi E M [.vC Aa N]=
 (M [.vC Aa N]).bind λo4=>
 (E [I 900, .vC Aa (wA o4 0),jA o4 1]).bind λG=>
 (E [I 200, .vC Aa (wA G 1),jA G 2]).bind λJ=>
 (E [I 16000, .vC Aa (wA J 1),jA J 2]).bind λO=>
 some [I (V (1+gA G 0)),I (V (2+gA J 0)),I (V (1+gA O 0))]:=by kernel_rfl
def Si:=Wi Dv Es
theorem Zef:Ai PG (Qfl Dv Es):=Ap rfl ⟨Od,US,trivial⟩
theorem Zwv:Am PG (Zex Si):=rw1 (C:=Qfl Dv Es) Zef
def WU:Sk:=⟨[TS.v true (cc 9++[sa Aa])],[(20000,103,[sa Aa,ci])],[]⟩
def Zl1:=qa 84 Qmz WU
def YC (E:Fn):Cfg:={spec:=I5 [PP E],eqOk:=KD,pure:=λf=> !(AW [48] f),ownOff:=Ztq}
def Qt4:Sk:=⟨[tf [sd 20000 0],td,tf [sd 2 0],tf [sd 3 0],tf [ci],tf [ci],tf [ci]]++dd 72,[(2,26,cc 9++[se 1002009 1]),(3,26,cc 9++[se 1003009 1]),(20000,103,[sa Aa,ci])],[(1002009,3,Aa),(1003009,3,Aa)]⟩
def Q2c:List (Ex×Sk):=[(Ex.exit 0,⟨[td,td,tf [sd 2 0],tf [sd 3 0]]++dd 75,[(2,26,cc 9++[se 1002009 1]),(3,26,cc 9++[se 1003009 1]),(20000,103,[sa Aa,ci])],[(1002009,3,Aa),(1003009,3,Aa)]⟩)]
def SM (E:Fn):Lp:=A5 PG (YC E) 64 11 (A4 PG 84 11) Qt4 Q2c
def Qt2 (G:Fn) (E:Lp):Cfg:=(YC G).loop 11 Qt4 Q2c E
def Wy (G:Fn) (E:Lp):Fn:=An PG (Qt2 G E) 64 84 Qmz WU
theorem Q8k (Ax:Fn) (v0 X:Rw) (v2 Y v4 v5 v6 v7 v8 v9 v10 v11 v12 E G J M N O S v20 v21 v22:Int) (T:Rw) (v24:Int):SM Ax [.vC Aa v0, .vC Aa X,I v2,I Y,I v4,I v5,I v6,I v7,I v8,I v9,I v10,I v11,I v12,I E,I G,I J,I M,I N,I O,I S,I v20,I v21,I v22, .vC Aa T,I v24]=
 cond (decide (v4<v2)) (cond (((X++[[I Y]]).length*8).ble 140737488355328) ((Ax [I (V (V (2*V (v22.tdiv 4))+1)), .vC Aa T,I v24]).bind λU=>
 some (0,[.vC Aa v0, .vC Aa (X++[[I Y]]),I v2,I (mn (mx (V (V (Y+gA U 0)-V (v22.tdiv 4))) (-4096)) 4096),I (V (v4+1)),I v5,I v6,I v7,I v8,I v9,I v10,I v11,I v12,I E,I G,I J,I M,I N,I O,I S,I v20,I v21,I v22, .vC Aa (wA U 1),jA U 2])) (none)) (some (1,[.vC Aa v0, .vC Aa X,I v5,I v6,I v7,I v8,I v9,I v10,I v11,I v12,I E,I G,I J,I M,I N,I O,I S,I v20,I v21,I v22, .vC Aa T,I v24])):=by kernel_rfl
theorem Zhu (T:Fn) (a0:Lp) (x0:Rw) (x1:Int):Wy T a0 [.vC Aa x0,I x1]=
 (T [I 6, .vC Aa x0,I x1]).bind λG=>
 cond (decide (0<=gA G 0)&&decide (gA G 0<(↑[[I 8],[I 4],[I 5],[I 16],[I 23],[I 64]].length:Int))) ((T [I 4, .vC Aa (wA G 1),jA G 2]).bind λJ=>
 cond (decide (0<=gA J 0)&&decide (gA J 0<(↑[[I 0],[I 1],[I 3],[I 6]].length:Int))) ((T [I 5, .vC Aa (wA J 1),jA J 2]).bind λM=>
 cond (decide (0<=gA M 0)&&decide (gA M 0<(↑[[I 40],[I 1],[I 3],[I 9],[I 1000]].length:Int))) ((T [I 5, .vC Aa (wA M 1),jA M 2]).bind λN=>
 cond (decide (0<=gA N 0)&&decide (gA N 0<(↑[[I 20],[I 2],[I 3],[I 5],[I 1000]].length:Int))) ((T [I 5, .vC Aa (wA N 1),jA N 2]).bind λO=>
 cond (decide (0<=gA O 0)&&decide (gA O 0<(↑[[I 30],[I 4],[I 5],[I 8],[I 1000]].length:Int))) ((T [I 5, .vC Aa (wA O 1),jA O 2]).bind λS=>
 cond (gA S 0==0) (some [I (Ah (nth .dead (nth [] [[I 8],[I 4],[I 5],[I 16],[I 23],[I 64]] (gA G 0).toNat) 0)),I (Ah (nth .dead (nth [] [[I 40],[I 1],[I 3],[I 9],[I 1000]] (gA M 0).toNat) 0)),I (Ah (nth .dead (nth [] [[I 20],[I 2],[I 3],[I 5],[I 1000]] (gA N 0).toNat) 0)),I (Ah (nth .dead (nth [] [[I 30],[I 4],[I 5],[I 8],[I 1000]] (gA O 0).toNat) 0)),I (-16777216),I 16777216,I (Ah (nth .dead (nth [] [[I 0],[I 1],[I 3],[I 6]] (gA J 0).toNat) 0)),I 0,I 0, .vC Aa [], .vC Aa (wA S 1),jA S 2]) ((T [I 400, .vC Aa (wA S 1),jA S 2]).bind λU=>
 (T [I 120, .vC Aa (wA U 1),jA U 2]).bind λX=>
 (T [I 9, .vC Aa (wA X 1),jA X 2]).bind λY=>
 (a0 [.vC Aa [], .vC Aa [],jA S 0,I (V (gA Y 0-4)),I 0,I 0,I 0,I 0,I 0,I 0,I 0,I 0,I 0,I 0,I (Ah (nth .dead (nth [] [[I 8],[I 4],[I 5],[I 16],[I 23],[I 64]] (gA G 0).toNat) 0)),I (Ah (nth .dead (nth [] [[I 40],[I 1],[I 3],[I 9],[I 1000]] (gA M 0).toNat) 0)),I (Ah (nth .dead (nth [] [[I 20],[I 2],[I 3],[I 5],[I 1000]] (gA N 0).toNat) 0)),I (Ah (nth .dead (nth [] [[I 30],[I 4],[I 5],[I 8],[I 1000]] (gA O 0).toNat) 0)),I (-16777216),I 16777216,I (Ah (nth .dead (nth [] [[I 0],[I 1],[I 3],[I 6]] (gA J 0).toNat) 0)),I (V (gA U 0-200)),I (V (4+gA X 0)), .vC Aa (wA Y 1),jA Y 2]).bind λE=>
 cond (E.1.beq 1) (some [jA E.2 11,jA E.2 12,jA E.2 13,jA E.2 14,jA E.2 15,jA E.2 16,jA E.2 17,jA E.2 18,jA E.2 19, .vC Aa (wA E.2 1), .vC Aa (wA E.2 20),jA E.2 21]) (none))) (none)) (none)) (none)) (none)) (none):=by kernel_rfl
def Qqs:=Ak (SM Dv)
def NN:=Wy Dv Qqs
theorem Qw1:Ai PG (YC Dv):=Ap rfl ⟨Od,trivial⟩
theorem Z5s:Am PG (Zl1 NN):=rw2 (C:=Qt2 Dv Qqs) (fl fb Qw1) Qw1
def Qlt:Sk:=⟨[TS.v true (cc 9++[sa Aa]++cc 9++[sa Aa]++cc 9++[sa Aa])],[],[]⟩
def Z3s:=qa 46 Qhr Qlt
def Qfj (E G:Fn):Cfg:=cp [Zl1 E,Vf G] [84,45]
def Qzi (E G:Fn):Fn:=An PG (Qfj E G) 64 46 Qhr Qlt
theorem Z87 (J M:Fn) (N:Rw):Qzi J M [.vC Aa N]=
 (M [.vC Aa N]).bind λo4=>
 (J [.vC Aa (wA o4 0),jA o4 1]).bind λE=>
 (J [.vC Aa (wA E 10),jA E 11]).bind λG=>
 (J [.vC Aa (wA G 10),jA G 11]).bind λI=>
 some [jA E 0,jA E 1,jA E 2,jA E 3,jA E 4,jA E 5,jA E 6,jA E 7,jA E 8, .vC Aa (wA E 9),jA G 0,jA G 1,jA G 2,jA G 3,jA G 4,jA G 5,jA G 6,jA G 7,jA G 8, .vC Aa (wA G 9),jA I 0,jA I 1,jA I 2,jA I 3,jA I 4,jA I 5,jA I 6,jA I 7,jA I 8, .vC Aa (wA I 9)]:=by kernel_rfl
def O1:=Qzi NN Es
theorem Z7s:Ai PG (Qfj NN Es):=Ap rfl ⟨Z5s,US,trivial⟩
theorem Zrn:Am PG (Z3s O1):=rw1 (C:=Qfj NN Es) Z7s
def Qsj:Sk:=⟨[tf [sa Aa],tf [sa Aa]],[],[]⟩
def Zmr:=qa 15 Qsj Xh
def Xa (E G I J:Fn):Cfg:=cp [PP E,Zex G,Z3s I,Vf J] [48,45]
def YZ (E G I J:Fn):Fn:=An PG (Xa E G I J) 64 15 Qsj Xh
theorem Zzc (J O S T:Fn) (U G:Rw):YZ J O S T [.vC Aa U, .vC Aa G]=
 (T [.vC Aa G]).bind λX=>
 (S [.vC Aa U]).bind λE=>
 (O [.vC Aa G]).bind λM=>
 (J [I 60000, .vC Aa (wA X 0),I (mn 3 (G.length:Int))]).bind λN=>
 (J [I 40, .vC Aa (wA N 1),jA N 2]).bind λY=>
 some [jA E 0,jA E 1,jA E 2,jA E 3,jA E 4,jA E 5,jA E 6,jA E 7,jA E 8, .vC Aa (wA E 9),jA E 10,jA E 11,jA E 12,jA E 13,jA E 14,jA E 15,jA E 16,jA E 17,jA E 18, .vC Aa (wA E 19),jA E 20,jA E 21,jA E 22,jA E 23,jA E 24,jA E 25,jA E 26,jA E 27,jA E 28, .vC Aa (wA E 29),jA M 0,jA M 1,jA M 2,I (V (1+gA N 0)),jA Y 0]:=by kernel_rfl
def IM:=YZ Dv Si O1 Es
theorem Zz8:Ai PG (Xa Dv Si O1 Es):=Ap rfl ⟨Od,Zwv,Zrn,US,trivial⟩
theorem Z64:Am PG (Zmr IM):=rw1 (C:=Xa Dv Si O1 Es) Zz8
def Qfa:Sk:=⟨[tf [sa [Kd.sl Aa]]],[],[]⟩
def Z7w:=qa 44 Qfa Qqn
def Q13:Sk:=⟨[td,td,td,td,td,tf [sa [Kd.sl Aa]],tf [ci],tf [ci]]++dd 7,[],[]⟩
def Qvw:List (Ex×Sk):=[(Ex.ret,⟨[td,td,tf [sb]]++dd 12,[],[]⟩),(Ex.exit 0,⟨[td]++dd 14,[],[]⟩)]
def Ud:Lp:=A5 PG Qcv 64 2 (A4 PG 44 2) Q13 Qvw
def Q7g (E:Lp):Cfg:=Qcv.loop 2 Q13 Qvw E
def WZ (E:Lp):Fn:=An PG (Q7g E) 64 44 Qfa Qqn
theorem Zz0 (v0:Rw) (G E:Int):Ud [.vC [Kd.sl Aa] v0,I G,I E]=
 cond (decide (E<G)) (cond (decide (0<=E)&&decide (E<(v0.length:Int))) (cond (decide ((↑(wA (nth [] v0 E.toNat) 0).length:Int)>60)) (some (1,[B false])) (some (0,[.vC [Kd.sl Aa] v0,I G,I (V (E+1))]))) (none)) (some (2,[])):=by kernel_rfl
theorem Zy9 (G:Lp) (E:Rw):WZ G [.vC [Kd.sl Aa] E]=
 (G [.vC [Kd.sl Aa] E,I (E.length:Int),I 0]).bind λo1=>
 cond (o1.1.beq 1) (some [B (bA o1.2 0)]) (cond (o1.1.beq 2) (some [B true]) (none)):=by kernel_rfl
def Zbs:=Ak (Ud)
def Lh:=WZ Zbs
theorem Zlf:Am PG (Z7w Lh):=rw2 (C:=Q7g Zbs) (fl fb Zft) Zft
def Qp2:Sk:=⟨[TS.v true [ci,ci,sb,sb,sb]],[(20000,119,cS)],[]⟩
def Zk5:=qa 40 Qo8 Qp2
def Q3d:Fn:=An PG Qcv 64 40 Qo8 Qp2
theorem Z8t (K:Kf) (c:Cv):Q3d (Ab K c)=
 some (I c.o0::I c.o1::B c.o2::B c.o3::B c.o4::Ab K c):=by kernel_rfl
def Jy:=Q3d
theorem Z7z:Am PG (Zk5 Jy):=rw1 (C:=Qcv) Zft
def Qdl:Sk:=⟨[tf [se 6 22]],[],[(6,74,Aj)]⟩
def Zp5:=qa 41 Qj3 Qdl
def ZC (E G I J:Fn):Cfg:={cp [Znz E,Zjx G,PP I,Vf J] [51,49,48,45]with ownRes:=true,prom:=λb=>cond (Nat.beq b 4) ([(6,74)]) ([])}
def Zar:Sk:=⟨[td,tf [ci],td,td,td,tf [sd 101000 0],tf [se 6 22],tf [sd 7 0]]++dd 36,[(7,72,[ci,ci,ci]),(101000,103,[sa Aa,ci])],[(6,74,Aj)]⟩
def Zb1:List (Ex×Sk):=[(Ex.exit 0,⟨dd 6++[tf [se 6 22]]++dd 37,[],[(6,74,Aj)]⟩)]
def Qnc (E G I J:Fn):Lp:=A5 PG (ZC E G I J) 64 4 (A4 PG 41 4) Zar Zb1
def Qui (E G I J:Fn) (M:Lp):Cfg:=(ZC E G I J).loop 4 Zar Zb1 M
def Qip (E G I J:Fn) (M:Lp):Fn:=An PG (Qui E G I J M) 64 41 Qj3 Qdl
theorem Zza (N O S B3:Fn) (v0:Rw) (M T U V:Int) (X:Rw) (Y:Int):Qnc N O S B3 [.vC Aj v0,I M,I T,I U,I V, .vC Aa X,I Y]=
 cond (decide ((v0.length:Int)<M)) ((O [.vC Aa X,I Y]).bind λJ=>
 cond (bA J 0) ((S [I 5, .vC Aa (wA J 1),jA J 2]).bind λG=>
 cond (decide (0<=gA G 0)&&decide (gA G 0<(↑[[I 2],[I 2],[I 2],[I 3],[I 1]].length:Int))) ((N [I T,I U,I V,I (Ah (nth .dead (nth [] [[I 2],[I 2],[I 2],[I 3],[I 1]] (gA G 0).toNat) 0)), .vC Aa (wA G 1),jA G 2]).bind λE=>
 cond (((v0++[[jA E 0,jA E 1,jA E 2,jA E 3,jA E 4,jA E 5,jA E 6,jA E 7,jA E 8,jA E 9,jA E 10,jA E 11,jA E 12,B (bA E 13),jA E 14,B (bA E 15),jA E 16,jA E 17,jA E 18,jA E 19,jA E 20,B (bA E 21)]]).length*176).ble 140737488355328) (some (0,[.vC Aj (v0++[[jA E 0,jA E 1,jA E 2,jA E 3,jA E 4,jA E 5,jA E 6,jA E 7,jA E 8,jA E 9,jA E 10,jA E 11,jA E 12,B (bA E 13),jA E 14,B (bA E 15),jA E 16,jA E 17,jA E 18,jA E 19,jA E 20,B (bA E 21)]]),I M,jA E 5,jA E 6,jA E 7, .vC Aa (wA E 22),jA E 23])) (none)) (none)) (some (1,[.vC Aj v0]))) (some (1,[.vC Aj v0])):=by kernel_rfl
theorem Zkp (Y Hm O S:Fn) (T:Lp) (U:Rw) (X:Int):Qip Y Hm O S T [.vC Aa U,I X]=
 (S [.vC Aa U]).bind λM=>
 (O [I 9, .vC Aa (wA M 0),jA M 1]).bind λE=>
 (O [I 9, .vC Aa (wA E 1),jA E 2]).bind λG=>
 (O [I 9, .vC Aa (wA G 1),jA G 2]).bind λJ=>
 (T [.vC Aj [],I X,I (V (gA E 0-4)),I (V (gA G 0-4)),I (V (gA J 0-4)), .vC Aa (wA J 1),jA J 2]).bind λN=>
 cond (N.1.beq 1) (some [.vC Aj (wA N.2 0)]) (none):=by kernel_rfl
def Qyu:=Ak (Qnc NH LM Dv Es)
def Iy:=Qip NH LM Dv Es Qyu
theorem Q0a:Ai PG (ZC NH LM Dv Es):=Ap rfl ⟨Zp0,Z49,Od,US,trivial⟩
theorem Z7r:Am PG (Zp5 Iy):=rw2 (C:=Qui NH LM Dv Es Qyu) (fl fb Q0a) Q0a
attribute [go_sem] Sl OK GT Qq8 Qg8 Qes YH Rn U4 S1 S3 TZ Qcq RO ZY Qji Qie Qfh LO RL Qu Z4o SZ Qfv Xo Z6q
end Go.Bm
