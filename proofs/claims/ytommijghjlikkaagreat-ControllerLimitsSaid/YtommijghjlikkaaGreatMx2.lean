/- functions of the program and of the references, as models -/
import Derived.Test.YtommijghjlikkaaGreatMx1
set_option linter.unusedSimpArgs false
set_option linter.unusedVariables false
set_option maxRecDepth 100000
noncomputable section
open Go.IntKind (wrap)
namespace Go.Bm
open Go.Proofs
def Yct:=qa 99 Qe8 Qnf
def Qjr (D E G:Fn):Cfg:=cr [Z8s D,QO E,QQ G] [63] [63]
def Ql1 (D E G:Fn):Fn:=Ao PG (Qjr D E G) 64 99 Qe8 Qnf
abbrev Sz (M:Int) (N:Fn) (c:Cv) (K:Kf) (D:List AC) (E:AC):Option (List AC):=
 cond (decide (V (M.tdiv 1048576)=(↑0:Int))) ((N [I c.g0,I c.g1,I c.g2,I K.lag,jA D 0,jA D 1,jA D 2,E,jA D 1,jA D 2]).bind λG=>
 some (Ab K {c with g0:=gA G 0,g1:=gA G 1,g2:=gA G 2})) (cond (decide (V (M.tdiv 1048576)=(↑(0+1):Int))) ((N [I c.g0,I c.g1,I c.g2,I K.lag,jA D 0,jA D 1,jA D 2,jA D 0,E,jA D 2]).bind λJ=>
 some (Ab K {c with g0:=gA J 0,g1:=gA J 1,g2:=gA J 2})) (cond (decide (V (M.tdiv 1048576)=(↑(0+1+1):Int))) ((N [I c.g0,I c.g1,I c.g2,I K.lag,jA D 0,jA D 1,jA D 2,jA D 0,jA D 1,E]).bind λL=>
 some (Ab K {c with g0:=gA L 0,g1:=gA L 1,g2:=gA L 2})) (none)))
theorem Zxz (G L M:Fn) (E:Int) (K:Kf) (c:Cv):Ql1 G L M (I E::Ab K c)=
 cond (decide (E<0)) (some (Ab K c)) (cond (decide (V (E.tdiv 1048576)>2)) (some (Ab K c)) ((M (Ab K c)).bind λJ=>
 (L (pxt K.p K.x K.t [jA J 0])).bind λD=>
 cond (decide (V (E.tdiv 1048576)=(↑0:Int))) (Sz E G c K D (I (V (gA D 0-E.tmod 1048576)))) (cond (decide (V (E.tdiv 1048576)=(↑(0+1):Int))) (Sz E G c K D (I (V (gA D 1-E.tmod 1048576)))) (cond (decide (V (E.tdiv 1048576)=(↑(0+1+1):Int))) (Sz E G c K D (I (V (gA D 2-E.tmod 1048576)))) (none))))):=by kernel_rfl
def JL:=Ql1 ON Dh Ds
theorem Z41:Aj PG (Qjr ON Dh Ds):=Ho (rs:=[63]) rfl ⟨Zuc,R5,QT,trivial⟩ rfl (CH rfl (CH rfl (Fx HF)))
theorem Znw:An PG (Yct JL):=rw1 (C:=Qjr ON Dh Ds) Z41
def Qbe:Sk:=⟨[],[],[]⟩
def Quw:=qa 56 Qbe Qb6
def Qs:Fn:=Ao PG Qdd 64 56 Qbe Qb6
theorem X1:Qs []=
 some [I 0,I 0,I (-1)]:=by kernel_rfl
def KD:=Qs
theorem Qz3:An PG (Quw KD):=rw1 (C:=Qdd) Zhu
def Zsv:=qa 144 Qg1 Qb6
def Y8:Fn:=Ao PG Qdd 64 144 Qg1 Qb6
theorem Zvv (E D G J L:Int):Y8 [I E,I D,I G,I J,I L]=
 cond (E==2) (some [I E,I D,I G]) (cond (D==0) (some [I 1,I J,I L]) (some [I 1,I D,I G])):=by kernel_rfl
def Ri:=Y8
theorem Zza:An PG (Zsv Ri):=rw1 (C:=Qdd) Zhu
def Qd9:Sk:=⟨[TS.v true [ci,ci,ci],TS.v true [ci,ci,ci]],[],[]⟩
def Zph:=qa 98 Qd9 Qb6
def Qnx (D E:Fn):Cfg:=cf [Quw D,Zsv E]
def Qh3 (D E:Fn):Fn:=Ao PG (Qnx D E) 64 98 Qd9 Qb6
theorem Zk7 (O M:Fn) (D E G S J L:Int):Qh3 O M [I D,I E,I G,I S,I J,I L]=
 cond (J==10) (some [I 2,I 22,I (-1)]) (cond (J==9) ((M [I D,I E,I G,I 21,I (-1)]).bind λo3=>
 some [jA o3 0,jA o3 1,jA o3 2]) (cond (J==8) (cond (decide (L>=0)) (cond (decide (L<=2)) ((M [I D,I E,I G,I 20,I L]).bind λo4=>
 some [jA o4 0,jA o4 1,jA o4 2]) (some [I D,I E,I G])) (some [I D,I E,I G])) (cond (J==11) ((O []).bind λN=>
 some [jA N 0,jA N 1,jA N 2]) (some [I D,I E,I G])))):=by kernel_rfl
def Vt:=Qh3 KD Ri
theorem Zsu:Aj PG (Qnx KD Ri):=Ap rfl ⟨Qz3,Zza,trivial⟩
theorem Z2w:An PG (Zph Vt):=rw1 (C:=Qnx KD Ri) Zsu
def Qsx:Sk:=⟨[tf [sb],tf [ci]],[],[]⟩
def Zp6:=qa 143 Qsx Qrs
def ZC:Fn:=Ao PG Qdd 64 143 Qsx Qrs
theorem Zle (E:Bool) (D:Int):ZC [B E,I D]=
 cond (D==0) (some [B false]) (cond (D==1) (some [B true]) (some [B E])):=by kernel_rfl
def Qw:=ZC
theorem Zp0:An PG (Zp6 Qw):=rw1 (C:=Qdd) Zhu
def Qpw:Sk:=⟨[TS.v true [ci,ci,sb,sb,sb],TS.v true [ci,ci,ci]],[],[]⟩
def Qpy:Sk:=⟨[TS.v true [ci,ci,sb,sb,sb]],[],[]⟩
def Zvw:=qa 97 Qpw Qpy
def Qbq (D:Fn):Cfg:=cf [Zp6 D]
def S2 (D:Fn):Fn:=Ao PG (Qbq D) 64 97 Qpw Qpy
theorem Q34 (O:Fn) (G J:Int) (L D E:Bool) (S N M:Int):S2 O [I G,I J,B L,B D,B E,I S,I N,I M]=
 cond (N==1) (cond (decide (0<=M)) (cond (decide (M<=200)) (some [I M,I J,B L,B D,B E]) (some [I G,I J,B L,B D,B E])) (some [I G,I J,B L,B D,B E])) (cond (N==2) (cond (decide (0<=M)) (cond (decide (M<=100)) (some [I G,I M,B L,B D,B E]) (some [I G,I J,B L,B D,B E])) (some [I G,I J,B L,B D,B E])) (cond (N==3) (some [I G,I J,B true,B D,B E]) (cond (N==4) (some [I G,I J,B false,B D,B E]) (cond (N==5) ((O [B D,I M]).bind λo2=>
 some [I G,I J,B L,B (bA o2 0),B E]) (cond (N==6) ((O [B E,I M]).bind λo3=>
 some [I G,I J,B L,B D,B (bA o3 0)]) (some [I G,I J,B L,B D,B E])))))):=by kernel_rfl
def To:=S2 Qw
theorem Zs1:Aj PG (Qbq Qw):=Ap rfl ⟨Zp0,trivial⟩
theorem Z0u:An PG (Zvw To):=rw1 (C:=Qbq Qw) Zs1
def XS:Sk:=⟨[tf [sd 20000 0],TS.v true [ci,ci,ci]],[(20000,119,cS)],[]⟩
def Zse:=qa 60 XS Qnf
def Qp3 (D E G I J:Fn):Cfg:=cp [Zov D,Z6f E,Yct G,Zph I,Zvw J] [101,100,99]
def Tr (D E G I J:Fn):Fn:=Ao PG (Qp3 D E G I J) 64 60 XS Qnf
theorem Qzn (M N O S T:Fn) (L G J:Int) (K:Kf) (c:Cv):Tr M N O S T (I L::I G::I J::Ab K c)=
 (T [I c.o0,I c.o1,B c.o2,B c.o3,B c.o4,I L,I G,I J]).bind λD=>
 (S [I c.g0,I c.g1,I c.g2,I L,I G,I J]).bind λE=>
 cond (G==13) ((O (I J::Ab K {c with o0:=gA D 0,o1:=gA D 1,o2:=bA D 2,o3:=bA D 3,o4:=bA D 4,g0:=gA E 0,g1:=gA E 1,g2:=gA E 2})).bind λU=>
 some (cR 0 U)) (cond (G==11) (some (Ab K {c with o0:=gA D 0,o1:=gA D 1,o2:=true,o3:=bA D 3,o4:=bA D 4,g0:=gA E 0,g1:=gA E 1,g2:=gA E 2})) (cond (G==12) ((N (Ab K {c with o0:=gA D 0,o1:=gA D 1,o2:=bA D 2,o3:=bA D 3,o4:=bA D 4,g0:=gA E 0,g1:=gA E 1,g2:=gA E 2})).bind λV=>
 some (cR 0 V)) (cond (G==7) ((M (I J::Ab K {c with o0:=gA D 0,o1:=gA D 1,o2:=bA D 2,o3:=bA D 3,o4:=bA D 4,g0:=gA E 0,g1:=gA E 1,g2:=gA E 2})).bind λX=>
 some (cR 0 X)) (cond (G==4) (some (Ab K {c with o0:=gA D 0,o1:=gA D 1,o2:=bA D 2,o3:=bA D 3,o4:=bA D 4,g0:=gA E 0,g1:=gA E 1,g2:=gA E 2,aJ:=true})) (some (Ab K {c with o0:=gA D 0,o1:=gA D 1,o2:=bA D 2,o3:=bA D 3,o4:=bA D 4,g0:=gA E 0,g1:=gA E 1,g2:=gA E 2})))))):=by kernel_rfl
def JI:=Tr RJ Ns JL Vt To
theorem Zwk:Aj PG (Qp3 RJ Ns JL Vt To):=Ap rfl ⟨Ycb,Ztf,Znw,Z2w,Z0u,trivial⟩
theorem Zll:An PG (Zse JI):=rw1 (C:=Qp3 RJ Ns JL Vt To) Zwk
def Qs3:Sk:=⟨[tf [sd 20000 0],tf [sa kPt]],[(20000,119,cS)],[]⟩
def Qad:Sk:=⟨[TS.v true ([sa kPt,sa Aa]++cc 7)],[(20000,119,cS)],[]⟩
def Zf5:=qa 21 Qs3 Qad
def Qhc (D E G I J L M N O S T U:Fn):Cfg:=cr [Zyk D,Zq1 E,Zsf G,Zy7 I,Zzm J,Zsg L,Zsp M,Q4y N,QQ O,Ybg S,Zys T,Zse U] [71,70,69,68,67,66,65,63,61,60] [63,61]
def Q5v:Sk:=⟨[tf [sd 20000 0],td,td,td,tf [sd 4 0]]++dd 14++[tf [sa kPt],tf [ci],tf [ci]]++dd 93,[(4,46,[sa kPt,sa Aa]++cc 7),(20000,119,cS)],[]⟩
def Zee:List (Ex×Sk):=[(Ex.exit 0,⟨[tf [sd 20000 0],td,td,td,tf [sd 4 0]]++dd 110,[(4,46,[sa kPt,sa Aa]++cc 7),(20000,119,cS)],[]⟩)]
def NS (D E G I J L M N O S T U:Fn):Lp:=A9 PG (Qhc D E G I J L M N O S T U) 64 3 (A8 PG 21 3) Q5v Zee
def Q2p (D E G I J L M N O S T U:Fn) (V:Lp):Cfg:=(Qhc D E G I J L M N O S T U).loop 3 Q5v Zee V
def Zav:Sk:=⟨[tf [sd 20000 0],td,td,td,tf [sd 4 0],td,td,tf [ci],tf [sd 8 0]]++dd 81++[tf [CS.bsl 90 5],tf [ci],tf [ci]]++dd 22,[(4,46,[sa kPt,sa Aa]++cc 7),(8,46,[sa kPt,sa Aa]++cc 7),(90,125,[CS.clo 65 [(20000,0)] [],CS.clo 66 [(20000,0)] [],CS.clo 67 [(20000,0)] [],CS.clo 68 [(20000,0)] [],CS.clo 69 [(20000,0)] []]),(20000,119,cS)],[]⟩
def Q94:List (Ex×Sk):=[(Ex.exit 2,⟨[tf [sd 20000 0],td,td,td,tf [sd 4 0],td,td,tf [ci],tf [sd 8 0]]++dd 106,[(4,46,[sa kPt,sa Aa]++cc 7),(8,46,[sa kPt,sa Aa]++cc 7),(20000,119,cS)],[]⟩)]
def Fl (D E G I J L M N O S T U:Fn) (V:Lp):Lp:=A9 PG (Q2p D E G I J L M N O S T U V) 64 16 (A8 PG 21 16) Zav Q94
def Q0t (E G I J L M N O S T U V:Fn) (X D:Lp):Cfg:=(Q2p E G I J L M N O S T U V X).loop 16 Zav Q94 D
def VB (E G I J L M N O S T U V:Fn) (X D:Lp):Fn:=Ao PG (Q0t E G I J L M N O S T U V X D) 64 21 Qs3 Qad
theorem Q1s (X Y EX Fa E4 EU E6 Cf Be DO DN U:Fn) (v0:Rw) (E D:Int) (G J:Rw) (L M N O S v10 v11:Int) (K:Kf) (c:Cv):NS X Y EX Fa E4 EU E6 Cf Be DO DN U (.vC kPt v0::I E::I D:: .vC kPt G:: .vC Aa J::I L::I M::I N::I O::I S::I v10::I v11::Ab K c)=
 cond (decide (D<E)) (cond (decide (0<=D)&&decide (D<(v0.length:Int))) ((U (jA (nth [] v0 D.toNat) 0::jA (nth [] v0 D.toNat) 1::jA (nth [] v0 D.toNat) 2::Ab K c)).bind λT=>
 some (0,(.vC kPt v0::I E::I (V (D+1)):: .vC kPt G:: .vC Aa J::I L::I M::I N::I O::I S::I v10::I v11::cR 0 T))) (none)) (some (1,(.vC kPt G:: .vC Aa J::I L::I M::I N::I O::I S::I v10::I v11::Ab K c))):=by kernel_rfl
abbrev OY (v0:Int) (U X:Rw) (Y v6 v7 v8 v9 v10 v11:Int) (v12 E:Rw) (G J L M N v20 v1 v2 T:Int) (O:Bool) (S:AC) (D:List AC):Option (Nat×List AC):=
 cond (O) (some (1,(I v0:: .vC kPt U:: .vC Aa X::I Y::I v6::I v7::I v8::I v9::I v10::I v11:: .vC kPt v12:: .vC Aa E::S::I G::I J::I L::I M::I N::I v20::D))) (some (0,(I v0::I v1::I (V (v2+1)):: .vC kPt U:: .vC Aa X::I Y::I v6::I v7::I v8::I v9::I v10::I v11:: .vC kPt v12:: .vC Aa E::I T::I G::I J::I L::I M::I N::I v20::D)))
theorem Q9k (C0 Df EX Fa E4 EU E6 Cf Be DO DN ET:Fn) (N3:Lp) (v0 S O:Int) (T U:Rw) (V X Y v8 v9 v10 v11:Int) (v12 D:Rw) (E G J L M N v20:Int) (K:Kf) (c:Cv):Fl C0 Df EX Fa E4 EU E6 Cf Be DO DN ET N3 (I v0::I S::I O:: .vC kPt T:: .vC Aa U::I V::I X::I Y::I v8::I v9::I v10::I v11:: .vC kPt v12:: .vC Aa D::I E::I G::I J::I L::I M::I N::I v20::Ab K c)=
 cond (decide (O<S)) (cond (decide (O=(↑0:Int))) ((E6 (Ab K c)).bind λa0=>
 OY v0 T U V X Y v8 v9 v10 v11 v12 D G J L M N v20 S O E (bA a0 1) (jA a0 0) (cR 2 a0)) (cond (decide (O=(↑(0+1):Int))) ((EU (Ab K c)).bind λa1=>
 OY v0 T U V X Y v8 v9 v10 v11 v12 D G J L M N v20 S O E (bA a1 1) (jA a1 0) (cR 2 a1)) (cond (decide (O=(↑(0+1+1):Int))) ((E4 (Ab K c)).bind λa2=>
 OY v0 T U V X Y v8 v9 v10 v11 v12 D G J L M N v20 S O E (bA a2 1) (jA a2 0) (cR 2 a2)) (cond (decide (O=(↑(0+1+1+1):Int))) ((Fa (Ab K c)).bind λa3=>
 OY v0 T U V X Y v8 v9 v10 v11 v12 D G J L M N v20 S O E (bA a3 1) (jA a3 0) (cR 2 a3)) (cond (decide (O=(↑(0+1+1+1+1):Int))) ((EX (Ab K c)).bind λa4=>
 OY v0 T U V X Y v8 v9 v10 v11 v12 D G J L M N v20 S O E (bA a4 1) (jA a4 0) (cR 2 a4)) (none)))))) (some (1,(I v0:: .vC kPt T:: .vC Aa U::I V::I X::I Y::I v8::I v9::I v10::I v11:: .vC kPt v12:: .vC Aa D::I E::I G::I J::I L::I M::I N::I v20::Ab K c))):=by kernel_rfl
abbrev G1 (O:Lp) (J:Nat×List AC) (T S:Fn) (L:AC) (M:List AC):Option (List AC):=
 (O (L::I (↑5:Int)::I 0:: .vC kPt (wA J.2 0):: .vC Aa (wA J.2 1)::jA J.2 2::jA J.2 3::jA J.2 4::jA J.2 5::jA J.2 6::jA J.2 7::jA J.2 8:: .vC kPt []:: .vC Aa []::I 0::I 0::I 0::I 0::I 0::I 0::I 0::M)).bind λD=>
 cond (D.1.beq 1) (cond (gA D.2 12==0) ((T (cR 19 D.2)).bind λN=>
 (S (jA D.2 0::(cR 1 N++[.vC kPt (wA D.2 10), .vC Aa (wA D.2 11),jA N 0,jA D.2 13,jA D.2 14,jA D.2 15,jA D.2 16,jA D.2 17,jA D.2 18]))).bind λE=>
 some (.vC kPt (wA E 90):: .vC Aa (wA E 91)::jA E 92::jA E 93::jA E 94::jA E 95::jA E 96::jA E 97::jA E 98::cR 0 E)) ((S (jA D.2 0::(cR 19 D.2++[.vC kPt (wA D.2 10), .vC Aa (wA D.2 11),jA D.2 12,jA D.2 13,jA D.2 14,jA D.2 15,jA D.2 16,jA D.2 17,jA D.2 18]))).bind λG=>
 some (.vC kPt (wA G 90):: .vC Aa (wA G 91)::jA G 92::jA G 93::jA G 94::jA G 95::jA G 96::jA G 97::jA G 98::cR 0 G))) (none)
abbrev Qse (V:Fn) (D:Nat×List AC) (X O S:Fn) (G:Lp) (T U:Fn):Option (List AC):=
 (V (DY (cR 9 D.2) [(58,B true),(86,jA D.2 76)])).bind λI=>
 cond (!bA I 0) ((X [jA D.2 73,jA D.2 74,jA D.2 75,jA D.2 76,jA D.2 42]).bind λE=>
 (O (DY (cR 9 D.2) [(58,B true),(64,jA E 0),(65,jA E 1),(66,jA E 2),(67,jA E 3),(86,jA D.2 76)])).bind λJ=>
 (S [jA D.2 59,jA D.2 60,jA D.2 61,jA D.2 62,jA D.2 63,jA D.2 64]).bind λL=>
 G1 G D T U (jA J 0) (DY (cR 9 D.2) [(58,B true),(64,jA E 0),(65,jA E 1),(66,jA E 2),(67,jA E 3),(86,jA D.2 76),(88,B (bA L 0))])) ((O (DY (cR 9 D.2) [(58,B true),(86,jA D.2 76)])).bind λM=>
 (S [jA D.2 59,jA D.2 60,jA D.2 61,jA D.2 62,jA D.2 63,jA D.2 64]).bind λN=>
 G1 G D T U (jA M 0) (DY (cR 9 D.2) [(58,B true),(86,jA D.2 76),(88,B (bA N 0))]))
theorem Q19 (J L EX Fa E4 EU E6 M N O S ET:Fn) (N3 G:Lp) (T:Rw) (K:Kf) (c:Cv):VB J L EX Fa E4 EU E6 M N O S ET N3 G (.vC kPt T::Ab K c)=
 (N3 (.vC kPt T::I (T.length:Int)::I 0:: .vC kPt []:: .vC Aa []::I 0::I 0::I 0::I 0::I 0::I 0::I 0::Ab K {c with aJ:=false,aL:=false})).bind λD=>
 cond (D.1.beq 1) (cond (bA D.2 86) (Qse S D O N M G L J) (cond (gA D.2 70 !=0) (Qse S D O N M G L J) ((S (DY (cR 9 D.2) [(86,jA D.2 76)])).bind λU=>
 cond (!bA U 0) ((O [jA D.2 73,jA D.2 74,jA D.2 75,jA D.2 76,jA D.2 42]).bind λE=>
 (N (DY (cR 9 D.2) [(64,jA E 0),(65,jA E 1),(66,jA E 2),(67,jA E 3),(86,jA D.2 76)])).bind λV=>
 (M [jA D.2 59,jA D.2 60,jA D.2 61,jA D.2 62,jA D.2 63,jA D.2 64]).bind λX=>
 G1 G D L J (jA V 0) (DY (cR 9 D.2) [(64,jA E 0),(65,jA E 1),(66,jA E 2),(67,jA E 3),(86,jA D.2 76),(88,B (bA X 0))])) ((N (DY (cR 9 D.2) [(86,jA D.2 76)])).bind λY=>
 (M [jA D.2 59,jA D.2 60,jA D.2 61,jA D.2 62,jA D.2 63,jA D.2 64]).bind λa0=>
 G1 G D L J (jA Y 0) (DY (cR 9 D.2) [(86,jA D.2 76),(88,B (bA a0 0))]))))) (none):=by kernel_rfl
def TL:=Am (NS LC Kw Jx K6 Mu L8 L6 Ic Ds KC Ly JI)
def Q95:=Am (Fl LC Kw Jx K6 Mu L8 L6 Ic Ds KC Ly JI TL)
def Hi:=VB LC Kw Jx K6 Mu L8 L6 Ic Ds KC Ly JI TL Q95
theorem ZV:Aj PG (Qhc LC Kw Jx K6 Mu L8 L6 Ic Ds KC Ly JI):=Ho (rs:=[63,61]) rfl ⟨Zjh,Ztm,Z3v,Z43,Zi2,Zu0,Zqr,Q0y,QT,Zic,Zj3,Zll,trivial⟩ rfl (CH rfl (CH rfl (CH rfl (CH rfl (CH rfl (CH rfl (CH rfl (CH rfl (Fx (CH rfl (Fx (CH rfl HF))))))))))))
theorem Q96:An PG (Zf5 Hi):=rw2 (C:=Q0t LC Kw Jx K6 Mu L8 L6 Ic Ds KC Ly JI TL Q95) (fl (fl fb ZV) ZV) ZV
def XQ:Sk:=⟨[TS.v true ([sa At]++cc 5)],[(20000,119,cS)],[]⟩
def Z5m:=qa 27 Qp5 XQ
def Q6y:Fn:=Ao PG Qdd 64 27 Qp5 XQ
theorem Zx5 (K:Kf) (c:Cv):Q6y (Ab K c)=
 cond (((K.t.aE.map AM).length*80).ble 140737488355328) (some (A4 K.t++Ab K c)) (none):=by kernel_rfl
def LW:=Q6y
theorem Zo3:An PG (Z5m LW):=rw1 (C:=Qdd) Zhu
def Qk7:Sk:=⟨[TS.v true [ci,ci,ci,sa Ag,sa kPt]],[(20000,119,cS)],[]⟩
def Yam:=qa 26 Qp5 Qk7
def Q5i:Fn:=Ao PG Qdd 64 26 Qp5 Qk7
theorem Zzk (K:Kf) (c:Cv):Q5i (Ab K c)=
 cond (((K.p.aF.map Ax).length*56).ble 140737488355328) (cond (((K.p.aD.map Aw).length*24).ble 140737488355328) (some (Bv K.p++Ab K c)) (none)) (none):=by kernel_rfl
def LR:=Q5i
theorem Znq:An PG (Yam LR):=rw1 (C:=Qdd) Zhu
def Qg2:Sk:=⟨[TS.v true (cc 13++[sb,ci,sb]++cc 5++[sb])],[],[]⟩
def VR:=qa 81 Qg2 Qrs
def Qvw:Fn:=Ao PG Qdd 64 81 Qg2 Qrs
theorem Z97 (X x1 Y x3 x4 x5 x6 x7 x8 x9 D E G:Int) (J:Bool) (L:Int) (M:Bool) (N O S T U:Int) (V:Bool):Qvw [I X,I x1,I Y,I x3,I x4,I x5,I x6,I x7,I x8,I x9,I D,I E,I G,B J,I L,B M,I N,I O,I S,I T,I U,B V]=
 cond (X==2) (some [B !(Y==x5&&(x3==x6&&(x4==x7&&true)))]) (some [B false]):=by kernel_rfl
def FB:=Qvw
theorem T7:An PG (VR FB):=rw1 (C:=Qdd) Zhu
def Vk:=qa 123 Qar Qrs
def Qwu:Fn:=Ao PG Qdd 64 123 Qar Qrs
theorem Yaz (D:Int):Qwu [I D]=
 cond (decide (D>=1)) (some [B (decide (D<=6))]) (some [B false]):=by kernel_rfl
def Eh:=Qwu
theorem TK:An PG (Vk Eh):=rw1 (C:=Qdd) Zhu
def Qxu:=qa 169 Qg2 Qrs
def Q1z:Fn:=Ao PG Qdd 64 169 Qg2 Qrs
theorem Zu8 (D Y x2 x3 x4 x5 x6 x7 x8 x9 E G J:Int) (L:Bool) (M:Int) (N:Bool) (O S T U V:Int) (X:Bool):Q1z [I D,I Y,I x2,I x3,I x4,I x5,I x6,I x7,I x8,I x9,I E,I G,I J,B L,I M,B N,I O,I S,I T,I U,I V,B X]=
 cond (D==5) (some [B true]) (some [B (D==6)]):=by kernel_rfl
def Im:=Q1z
theorem Q6f:An PG (Qxu Im):=rw1 (C:=Qdd) Zhu
def Qqb:Sk:=⟨[tf [sa Ak],tf [ci]],[],[]⟩
def Zsi:=qa 173 Qqb Qrs
def Xw (D E:Fn):Cfg:=cf [Vk D,Qxu E]
def Qvf:Sk:=⟨dd 23++[tf [sa Ak],tf [ci],tf [ci]]++dd 9,[],[]⟩
def Qyz:List (Ex×Sk):=[(Ex.ret,⟨[td,td,td,td,tf [sb]]++dd 30,[],[]⟩),(Ex.exit 0,⟨[td]++dd 34,[],[]⟩)]
def LT (D E:Fn):Lp:=A9 PG (Xw D E) 64 4 (A8 PG 173 4) Qvf Qyz
def Q4u (D E:Fn) (G:Lp):Cfg:=(Xw D E).loop 4 Qvf Qyz G
def Qry (D E:Fn) (G:Lp):Fn:=Ao PG (Q4u D E G) 64 173 Qqb Qrs
theorem Q0p (G J:Fn) (v0:Rw) (E D:Int):LT G J [.vC Ak v0,I E,I D]=
 cond (decide (D<E)) (cond (decide (0<=D)&&decide (D<(v0.length:Int))) ((G [jA (nth [] v0 D.toNat) 0]).bind λL=>
 cond (bA L 0) ((J (AV Ak (nth [] v0 D.toNat))).bind λM=>
 some (1,[B (bA M 0)])) (some (0,[.vC Ak v0,I E,I (V (D+1))]))) (none)) (some (2,[])):=by kernel_rfl
theorem Z01 (M J:Fn) (L:Lp) (E:Rw) (D:Int):Qry M J L [.vC Ak E,I D]=
 cond (decide (0<=D)&&decide (D<(E.length:Int))) (cond (gA (nth [] E D.toNat) 18==0) (some [B true]) (cond (decide (0<=D)&&decide (D<(E.length:Int))) ((J (AV Ak (nth [] E D.toNat))).bind λN=>
 cond (bA N 0) (some [B true]) (cond (decide (0<=V (D+1))&&decide (V (D+1)<=(E.length:Int))) ((L [.vC Ak (List.drop (V (D+1)).toNat E),I (↑(List.drop (V (D+1)).toNat E).length:Int),I 0]).bind λG=>
 cond (G.1.beq 1) (some [B (bA G.2 0)]) (cond (G.1.beq 2) (some [B false]) (none))) (none))) (none))) (none):=by kernel_rfl
def Q9n:=Am (LT Eh Im)
def Sw:=Qry Eh Im Q9n
theorem Qxb:Aj PG (Xw Eh Im):=Ap rfl ⟨TK,Q6f,trivial⟩
theorem Z8i:An PG (Zsi Sw):=rw2 (C:=Q4u Eh Im Q9n) (fl fb Qxb) Qxb
def Qjy:Sk:=⟨[tf [sd 20000 0],tf [sa Ak],tf [ci]],[(20000,142,[ci,ci,ci,se 20000 7,se 20001 3,sb,ci,ci,ci])],[(20000,162,Ag),(20001,76,kPt)]⟩
def Qop:Sk:=⟨[TS.tup []],[(20000,142,[ci,ci,ci,se 20000 7,se 20001 3,sb,ci,ci,ci])],[(20000,162,Ag),(20001,76,kPt)]⟩
def Zjb:=qa 127 Qjy Qop
def Qgd (D E:Fn):Cfg:=cf [Zsi D,Vk E]
def Qk9 (D E:Fn):Fn:=Ao PG (Qgd D E) 64 127 Qjy Qop
abbrev Qhv (V:Fn) (U:Rw) (E:Int) (J:Rw) (D:Int) (L:Rw) (M N O:Int) (S:Bool) (T G:Int):Option (List AC):=
 (V [jA (nth [] U E.toNat) 0]).bind λX=>
 cond (bA X 0) (cond (((J++[[I D,I 2,I E]]).length*24).ble 140737488355328) (some [.vC Ag L, .vC kPt (J++[[I D,I 2,I E]]),I M,I N,I O,B S,I D,I T,I G]) (none)) (cond (gA (nth [] U E.toNat) 0==10) (cond (((J++[[I D,I 5,I E]]).length*24).ble 140737488355328) (some [.vC Ag L, .vC kPt (J++[[I D,I 5,I E]]),I M,I N,I O,B S,I D,I T,I G]) (none)) (cond (gA (nth [] U E.toNat) 0==13) (cond (((J++[[I D,I 4,I E]]).length*24).ble 140737488355328) (some [.vC Ag L, .vC kPt (J++[[I D,I 4,I E]]),I M,I N,I O,B S,I D,I T,I G]) (none)) (cond (((J++[[I D,I 3,I E]]).length*24).ble 140737488355328) (some [.vC Ag L, .vC kPt (J++[[I D,I 3,I E]]),I M,I N,I O,B S,I D,I T,I G]) (none))))
theorem Ya1 (X V:Fn) (M J L:Rw) (D N O S:Int) (T:Bool) (G U E:Int):Qk9 X V [.vC Ag M, .vC kPt J, .vC Ak L,I D,I N,I O,I S,B T,I G,I U,I E]=
 cond (decide (0<=D)&&decide (D<(L.length:Int))) (cond (gA (nth [] L D.toNat) 0==4) (cond (((J++[[I G,I 6,I D]]).length*24).ble 140737488355328) (some [.vC Ag M, .vC kPt (J++[[I G,I 6,I D]]),I N,I O,I S,B T,I G,I U,I E]) (none)) ((V [jA (nth [] L D.toNat) 0]).bind λo4=>
 cond (bA o4 0) ((X [.vC Ak L,I D]).bind λY=>
 cond (bA Y 0) (cond (((J++[[I G,I 1,I D]]).length*24).ble 140737488355328) (some [.vC Ag M, .vC kPt (J++[[I G,I 1,I D]]),I N,I O,I S,B T,I G,I U,I E]) (none)) (Qhv V L D J G M N O S T U E)) (Qhv V L D J G M N O S T U E))) (none):=by kernel_rfl
def JJ:=Qk9 Sw Eh
theorem Z00:Aj PG (Qgd Sw Eh):=Ap rfl ⟨Z8i,TK,trivial⟩
theorem Zm9:An PG (Zjb JJ):=rw1 (C:=Qgd Sw Eh) Z00
def Qef:=qa 172 Qg2 Qb6
def Q00:Fn:=Ao PG Qdd 64 172 Qg2 Qb6
theorem Zp7 (x0 x1 Y x3 x4 x5 x6 x7 x8 x9 D E G:Int) (J:Bool) (L:Int) (M:Bool) (N O S T U:Int) (X:Bool):Q00 [I x0,I x1,I Y,I x3,I x4,I x5,I x6,I x7,I x8,I x9,I D,I E,I G,B J,I L,B M,I N,I O,I S,I T,I U,B X]=
 some [I (V (V (Y+x5)*8)),I (V (V (x3+x6)*8)),I (V (V (x4+x7)*8))]:=by kernel_rfl
def GP:=Q00
theorem Qtp:An PG (Qef GP):=rw1 (C:=Qdd) Zhu
def Qan:Sk:=⟨[TS.v true [si .u64,si .u64],TS.v true [si .u64,si .u64]],[],[]⟩
def Qt5:=qa 211 Qan Qar
def Q6t:Fn:=Ao PG Qdd 64 211 Qan Qar
theorem Zm3 (D G E J:Int):Q6t [U D,U G,U E,U J]=
 cond (decide (D<E)) (some [I (-1)]) (cond (D==E) (cond (decide (G<J)) (some [I (-1)]) (cond (D==E&&(G==J&&true)) (some [I 0]) (some [I 1]))) (cond (D==E&&(G==J&&true)) (some [I 0]) (some [I 1]))):=by kernel_rfl
def IT:=Q6t
theorem Q1h:An PG (Qt5 IT):=rw1 (C:=Qdd) Zhu
def Q85:=qa 221 Qec Qc0
def Qj8 (D E:Fn):Cfg:=cf [Qt5 D,UU E]
def Q90:Sk:=⟨[td,tf [sd 1 0],td,tf [si .u64],tf [si .u64]]++dd 16,[(1,185,[si .u64,si .u64])],[]⟩
def Zb4:List (Ex×Sk):=[(Ex.exit 0,⟨[td,td,td,tf [si .u64]]++dd 17,[],[]⟩)]
def Na (D E:Fn):Lp:=A9 PG (Qj8 D E) 64 3 (A8 PG 221 3) Q90 Zb4
def Zet (D E:Fn) (G:Lp):Cfg:=(Qj8 D E).loop 3 Q90 Zb4 G
def Qdr (D E:Fn) (G:Lp):Fn:=Ao PG (Zet D E G) 64 221 Qec Qc0
theorem Zcv (I J:Fn) (v0 D E G:Int):Na I J [U v0,U D,U E,U G]=
 cond (decide (D>0)) ((J [U (wrap .u64 (↑(BitVec.ofInt IntKind.u64.bits v0|||BitVec.ofInt IntKind.u64.bits D).toNat:Int)),U (wrap .u64 (↑(BitVec.ofInt IntKind.u64.bits v0|||BitVec.ofInt IntKind.u64.bits D).toNat:Int))]).bind λo3=>
 (I [U (gA o3 0),U (gA o3 1),U E,U G]).bind λo4=>
 cond (decide (gA o4 0<=0)) (some (0,[U (wrap .u64 (↑(BitVec.ofInt IntKind.u64.bits v0|||BitVec.ofInt IntKind.u64.bits D).toNat:Int)),U (D.fdiv (2^min (Int.toNat 1) IntKind.u64.bits)),U E,U G])) (some (0,[U v0,U (D.fdiv (2^min (Int.toNat 1) IntKind.u64.bits)),U E,U G]))) (some (1,[U v0])):=by kernel_rfl
theorem Z8x (J L:Fn) (D:Lp) (E G:Int):Qdr J L D [U E,U G]=
 (D [U 0,U 9223372036854775808,U E,U G]).bind λI=>
 cond (I.1.beq 1) (some [U (gA I.2 0)]) (none):=by kernel_rfl
def Q0r:=Am (Na IT Ff)
def Kk:=Qdr IT Ff Q0r
theorem Zcz:Aj PG (Qj8 IT Ff):=Ap rfl ⟨Q1h,VF,trivial⟩
theorem Q6v:An PG (Q85 Kk):=rw2 (C:=Zet IT Ff Q0r) (fl fb Zcz) Zcz
def XP:Sk:=⟨[TS.v true [si .u64,si .u64],tf [ci]],[],[]⟩
def Z8a:=qa 216 XP Zd
def Qsa (D E G I:Fn):Cfg:=cf [Xv D,(222,Ad Q3q Q6m E),(175,Ad Qa9 Wd G),Q85 I]
def Y6 (D E G I:Fn):Fn:=Ao PG (Qsa D E G I) 64 216 XP Zd
abbrev Qfc (O:Int) (M:List AC) (L:Fn) (D N:List AC):Option (List AC):=
 cond (O==2) (cond (decide (gA M 0>0)) ((L [U (wrap .u64 (gA D 0+1)),B false]).bind λE=>
 some [jA E 0,B (bA E 1)]) (cond (decide (gA N 0>gA D 0)) ((L [U (wrap .u64 (gA D 0+1)),B false]).bind λG=>
 some [jA G 0,B (bA G 1)]) ((L [U (gA D 0),B false]).bind λI=>
 some [jA I 0,B (bA I 1)]))) ((L [U (gA D 0),B false]).bind λJ=>
 some [jA J 0,B (bA J 1)])
theorem Z1b (J S X Y:Fn) (T V O:Int):Y6 J S X Y [U T,U V,I O]=
 (Y [U T,U V]).bind λD=>
 (X [U (gA D 0),U (gA D 0)]).bind λL=>
 (S [U V,U (gA L 1),U 0]).bind λE=>
 (S [U T,U (gA L 0),U (gA E 1)]).bind λG=>
 cond (O==1) (cond (decide (gA G 0>0)) ((J [U (wrap .u64 (gA D 0+1)),B false]).bind λM=>
 some [jA M 0,B (bA M 1)]) (cond (decide (gA E 0>0)) ((J [U (wrap .u64 (gA D 0+1)),B false]).bind λN=>
 some [jA N 0,B (bA N 1)]) (Qfc O G J D E))) (Qfc O G J D E):=by kernel_rfl
def U6:=Y6 FK K5 I2 Kk
theorem Zs2:Aj PG (Qsa FK K5 I2 Kk):=Ap rfl ⟨Qlz,Zxg,Qxv,Q6v,trivial⟩
theorem Z2n:An PG (Z8a U6):=rw1 (C:=Qsa FK K5 I2 Kk) Zs2
def Qw5:=qa 210 Z5 Zd
def Zm (D E:Fn):Cfg:=cf [Z8a D,Qru E]
def Qbd (D E:Fn):Fn:=Ao PG (Zm D E) 64 210 Z5 Zd
theorem Z3w (G J:Fn) (D E:Int):Qbd G J [I D,I E]=
 cond (decide (D<0)) (some [I 0,B false]) ((J [I E]).bind λo2=>
 cond (!bA o2 0) (some [I 0,B false]) ((G [U 0,U (wrap .u64 D),I E]).bind λo3=>
 some [jA o3 0,B (bA o3 1)])):=by kernel_rfl
def Jw:=Qbd U6 Gw
theorem Z56:Aj PG (Zm U6 Gw):=Ap rfl ⟨Z2n,Qpa,trivial⟩
theorem Qzz:An PG (Qw5 Jw):=rw1 (C:=Zm U6 Gw) Z56
def Qvt:=qa 195 Qd9 Qar
def Qnz (D:Fn):Cfg:={cf [Qw5 D]with unroll:=[3]}
def XD (D:Fn):Fn:=Ao PG (Qnz D) 64 195 Qd9 Qar
theorem Zzy (N:Fn) (D E G J L M:Int):XD N [I D,I E,I G,I J,I L,I M]=
 (N [I (V (V (V (0+V (V (D-J)*V (D-J)))+V (V (E-L)*V (E-L)))+V (V (G-M)*V (G-M)))),I 1]).bind λo1=>
 some [jA o1 0]:=by kernel_rfl
def JO:=XD Jw
theorem Z14:Aj PG (Qnz Jw):=Ap rfl ⟨Qzz,trivial⟩
theorem Qxd:An PG (Qvt JO):=rw1 (C:=Qnz Jw) Z14
def Qfe:Sk:=⟨[tf [sd 20000 0],TS.v true [ci,ci,ci],TS.v true (cc 7)],[(20000,142,[ci,ci,ci,se 20000 7,se 20001 3,sb,ci,ci,ci])],[(20000,162,Ag),(20001,76,kPt)]⟩
def Z8u:=qa 171 Qfe Qop
def Qbh (D:Fn):Cfg:=cf [Qvt D]
def T2 (D:Fn):Fn:=Ao PG (Qbh D) 64 171 Qfe Qop
abbrev YT (D:Bool) (x0 x1:Rw) (x2 x3 x4 E G J L M N:Int) (DE:Fn) (x9 O S:Int) (T:Bool) (U X Y:AC):Option (List AC):=
 cond (!D) (some [.vC Ag x0, .vC kPt x1,I x2,I x3,I x4,B true,I E,I G,I J]) (cond (T) (some [.vC Ag x0, .vC kPt x1,I L,I M,I N,B D,I E,I G,I J]) ((DE [U,X,Y,I x2,I x3,I x4]).bind λo2=>
 cond (((x0++[[I x2,I x3,I x4,jA o2 0,I x9,I O,I S]]).length*56).ble 140737488355328) (some [.vC Ag (x0++[[I x2,I x3,I x4,jA o2 0,I x9,I O,I S]]), .vC kPt x1,I L,I M,I N,B D,I (V (E+gA o2 0)),I G,I J]) (none)))
theorem Zb0 (DE:Fn) (D x1:Rw) (U X Y x5 x6 x7 x8 x9 L M E G J:Int) (N:Bool) (O S T:Int):T2 DE [.vC Ag D, .vC kPt x1,I U,I X,I Y,I x5,I x6,I x7,I x8,I x9,I L,I M,I E,I G,I J,B N,I O,I S,I T]=
 cond (decide ((D.length:Int)>0)) (cond (decide (0<=V ((D.length:Int)-1))&&decide (V ((D.length:Int)-1)<(D.length:Int))) (YT N D x1 U X Y O S T E G J DE x9 L M (U==gA (nth [] D (V ((D.length:Int)-1)).toNat) 0&&(X==gA (nth [] D (V ((D.length:Int)-1)).toNat) 1&&(Y==gA (nth [] D (V ((D.length:Int)-1)).toNat) 2&&true))) (jA (nth [] D (V ((D.length:Int)-1)).toNat) 0) (jA (nth [] D (V ((D.length:Int)-1)).toNat) 1) (jA (nth [] D (V ((D.length:Int)-1)).toNat) 2)) (none)) (YT N D x1 U X Y O S T E G J DE x9 L M (U==E&&(X==G&&(Y==J&&true))) (I E) (I G) (I J)):=by kernel_rfl
def Qb:=T2 JO
theorem Z3r:Aj PG (Qbh JO):=Ap rfl ⟨Qxd,trivial⟩
theorem Zh5:An PG (Z8u Qb):=rw1 (C:=Qbh JO) Z3r
def Qnn:=qa 125 Qqb Qar
def Q2r:Sk:=⟨[tf [sa Ak],tf [ci]]++dd 20,[],[]⟩
def Q81:List (Ex×Sk):=[(Ex.exit 0,⟨[td,tf [ci]]++dd 20,[],[]⟩)]
def QG:Lp:=A9 PG Qdd 64 2 (A8 PG 125 2) Q2r Q81
def Q8v (D:Lp):Cfg:=Qdd.loop 2 Q2r Q81 D
def Qgy (D:Lp):Fn:=Ao PG (Q8v D) 64 125 Qqb Qar
theorem Zae (v0:Rw) (D:Int):QG [.vC Ak v0,I D]=
 cond (decide (D<(v0.length:Int))) (cond (decide (0<=D)&&decide (D<(v0.length:Int))) (cond (gA (nth [] v0 D.toNat) 0==10) (some (0,[.vC Ak v0,I (V (D+1))])) (some (1,[I D]))) (none)) (some (1,[I D])):=by kernel_rfl
theorem Zsl (D:Lp) (E:Rw) (G:Int):Qgy D [.vC Ak E,I G]=
 (D [.vC Ak E,I (V (G+1))]).bind λo1=>
 cond (o1.1.beq 1) (some [jA o1.2 0]) (none):=by kernel_rfl
def Q92:=Am (QG)
def F2:=Qgy Q92
theorem Qof:An PG (Qnn F2):=rw2 (C:=Q8v Q92) (fl fb Zhu) Zhu
def Q47:=qa 124 Qqb Qrs
def Qiu (D E:Fn):Cfg:=cf [VR D,Qnn E]
def Yw (D E:Fn):Fn:=Ao PG (Qiu D E) 64 124 Qqb Qrs
theorem Z2h (G J:Fn) (D:Rw) (E:Int):Yw G J [.vC Ak D,I E]=
 (J [.vC Ak D,I E]).bind λo3=>
 cond (decide (0<=E)&&decide (E<(D.length:Int))) ((G (AV Ak (nth [] D E.toNat))).bind λo4=>
 cond (bA o4 0) (cond (decide (0<=E)&&decide (E<(D.length:Int))) (cond (gA (nth [] D E.toNat) 18 !=0) (cond (decide (gA o3 0<(D.length:Int))) (cond (decide (0<=gA o3 0)&&decide (gA o3 0<(D.length:Int))) ((G (AV Ak (nth [] D (gA o3 0).toNat))).bind λL=>
 some [B (bA L 0)]) (none)) (some [B false])) (some [B false])) (none)) (some [B false])) (none):=by kernel_rfl
def HT:=Yw FB F2
theorem Zjv:Aj PG (Qiu FB F2):=Ap rfl ⟨T7,Qof,trivial⟩
theorem Qyr:An PG (Q47 HT):=rw1 (C:=Qiu FB F2) Zjv
def Qmx:Sk:=⟨[TS.v true [ci,ci,ci],TS.v true [ci,ci,ci],TS.v true [ci,ci,ci]],[],[]⟩
def Qz4:=qa 219 Qmx Qar
def Zbj:Fn:=Ao PG Yp 64 219 Qmx Qar
theorem Z1g (D E G J L M N O S:Int):Zbj [I D,I E,I G,I J,I L,I M,I N,I O,I S]=
 some [I (V (V (V (0+V (V (V (D+N)-V (2*J))*V (V (D+N)-V (2*J))))+V (V (V (E+O)-V (2*L))*V (V (E+O)-V (2*L))))+V (V (V (G+S)-V (2*M))*V (V (G+S)-V (2*M)))))]:=by kernel_rfl
def HB:=Zbj
theorem Q0v:An PG (Qz4 HB):=rw1 (C:=Yp) Zgh
def Zoc:=qa 215 Qmx Qar
def Wh (D:Fn):Cfg:=cf [Qz4 D]
def Quv:Sk:=⟨[td,td,td,tf [sd 3 0],tf [sd 4 0],tf [sd 5 0],td,tf [ci]]++dd 22,[(3,54,[ci,ci,ci]),(4,54,[ci,ci,ci]),(5,54,[ci,ci,ci])],[]⟩
def Qyb:List (Ex×Sk):=[(Ex.exit 0,⟨dd 7++[tf [ci]]++dd 22,[],[]⟩)]
def RB (D:Fn):Lp:=A9 PG (Wh D) 64 2 (A8 PG 215 2) Quv Qyb
def Q5b (D:Fn) (E:Lp):Cfg:=(Wh D).loop 2 Quv Qyb E
def Qb2 (D:Fn) (E:Lp):Fn:=Ao PG (Q5b D E) 64 215 Qmx Qar
theorem Z6x (T:Fn) (v0 D E G J L M N O S:Int):RB T [I v0,I D,I E,I G,I J,I L,I M,I N,I O,I S]=
 cond (decide (v0<64)) ((T [I D,I E,I G,I J,I L,I M,I N,I O,I S]).bind λo2=>
 cond (decide (gA o2 0>V (V (V (V (V (V (16*v0)*v0)*v0)*v0)*4)*4))) (some (0,[I (V (v0*2)),I D,I E,I G,I J,I L,I M,I N,I O,I S])) (some (1,[I v0]))) (some (1,[I v0])):=by kernel_rfl
theorem Zn2 (U:Fn) (D:Lp) (E G J L M N O S T:Int):Qb2 U D [I E,I G,I J,I L,I M,I N,I O,I S,I T]=
 (D [I 2,I E,I G,I J,I L,I M,I N,I O,I S,I T]).bind λo3=>
 cond (o3.1.beq 1) (some [jA o3.2 0]) (none):=by kernel_rfl
def Zc2:=Am (RB HB)
def Ld:=Qb2 HB Zc2
theorem Zea:Aj PG (Wh HB):=Ap rfl ⟨Q0v,trivial⟩
theorem Zin:An PG (Zoc Ld):=rw2 (C:=Q5b HB Zc2) (fl fb Zea) Zea
def Yc:Sk:=⟨[TS.v true [si .u64,si .u64],tf [si .u64]],[],[]⟩
def Qlh:Sk:=⟨[TS.tup [(true,[si .u64,si .u64]),(false,[sb])]],[],[]⟩
def Zh1:=qa 224 Yc Qlh
def Qdh (D:Fn):Cfg:=cf [Zdp D]
def Qeb (D:Fn):Fn:=Ao PG (Qdh D) 64 224 Yc Qlh
theorem Zpg (D:Fn) (G I E:Int):Qeb D [U G,U I,U E]=
 (D [U 0,U G,U E]).bind λo2=>
 (D [U (gA o2 1),U I,U E]).bind λo3=>
 some [U (gA o2 0),U (gA o3 0),B (decide (gA o3 1>0))]:=by kernel_rfl
def U9:=Qeb Hl
theorem Yb7:Aj PG (Qdh Hl):=Ap rfl ⟨Qup,trivial⟩
theorem Zu9:An PG (Zh1 U9):=rw1 (C:=Qdh Hl) Yb7
def Q7t:=qa 220 Ye Zd
def Qhm (D E G I J L M N:Fn):Cfg:=cf [Xv D,Q65 E,Yi G,Q85 I,Zh1 J,UU L,Qru M,Qdp N]
def Ym (D E G I J L M N:Fn):Fn:=Ao PG (Qhm D E G I J L M N) 64 220 Ye Zd
abbrev Rx (C5:Fn) (x3:Int) (V:Fn) (E:List AC) (G:Bool) (J D L M:AC):Option (List AC):=
 cond (G) ((C5 [I x3,J,B true,D]).bind λX=>
 cond (bA X 0) ((V [U (wrap .u64 (wrap .u64 ((gA E 0).tdiv 2)+1)),D]).bind λN=>
 some [jA N 0,B (bA N 1)]) ((V [U (wrap .u64 ((gA E 0).tdiv 2)),D]).bind λO=>
 some [jA O 0,B (bA O 1)])) ((C5 [I x3,L,M,D]).bind λY=>
 cond (bA Y 0) ((V [U (wrap .u64 (wrap .u64 ((gA E 0).tdiv 2)+1)),D]).bind λS=>
 some [jA S 0,B (bA S 1)]) ((V [U (wrap .u64 ((gA E 0).tdiv 2)),D]).bind λT=>
 some [jA T 0,B (bA T 1)]))
theorem Zjs (M N DD GC OI BV Ei O:Fn) (S T x2 L:Int):Ym M N DD GC OI BV Ei O [I S,I T,I x2,I L]=
 (O [I S]).bind λa0=>
 cond (decide (gA a0 0>2147483648)) (some [I 0,B false]) ((O [I T]).bind λa1=>
 cond (decide (gA a1 0>2147483648)) (some [I 0,B false]) (cond (decide (x2<1)) (some [I 0,B false]) (cond (decide (x2>4611686018427387904)) (some [I 0,B false]) ((Ei [I L]).bind λa2=>
 cond (!bA a2 0) (some [I 0,B false]) ((O [I S]).bind λV=>
 (O [I T]).bind λX=>
 (BV [U (wrap .u64 (2*wrap .u64 (gA V 0*gA X 0))),U (wrap .u64 (2*wrap .u64 (gA V 0*gA X 0)))]).bind λY=>
 (OI [U (gA Y 0),U (gA Y 1),U (wrap .u64 x2)]).bind λD=>
 (GC [U (gA D 0),U (gA D 1)]).bind λE=>
 cond (bA D 2) ((DD [I S,I T]).bind λa3=>
 Rx N L M E ((gA E 0).tmod 2==1) (I 1) (B (decide (gA a3 0<0))) (I (-1)) (B true)) ((BV [U (gA E 0),U (gA E 0)]).bind λG=>
 (DD [I S,I T]).bind λJ=>
 cond ((gA E 0).tmod 2==1) (cond (!(gA G 0==gA D 0&&(gA G 1==gA D 1&&true))) (Rx N L M E (!(gA G 0==gA D 0&&(gA G 1==gA D 1&&true))) (I 1) (B (decide (gA J 0<0))) (I 1) (B ((gA E 0).tmod 2==1))) (Rx N L M E (!(gA G 0==gA D 0&&(gA G 1==gA D 1&&true))) (I 0) (B (decide (gA J 0<0))) (I 0) (B ((gA E 0).tmod 2==1)))) (Rx N L M E (!(gA G 0==gA D 0&&(gA G 1==gA D 1&&true))) (I (-1)) (B (decide (gA J 0<0))) (I (-1)) (B ((gA E 0).tmod 2==1))))))))):=by kernel_rfl
def Jf:=Ym FK ID Gy Kk U9 Ff Gw GS
theorem Zj4:Aj PG (Qhm FK ID Gy Kk U9 Ff Gw GS):=Ap rfl ⟨Qlz,Zfo,Qfk,Q6v,Zu9,VF,Qpa,WN,trivial⟩
theorem Qwl:An PG (Q7t Jf):=rw1 (C:=Qhm FK ID Gy Kk U9 Ff Gw GS) Zj4
def Qjq:Sk:=⟨[TS.v true [ci,ci,ci],TS.v true [ci,ci,ci],tf [ci]],[],[]⟩
def Zf:Sk:=⟨[TS.tup [(true,[ci,ci,ci]),(false,[sb])]],[],[]⟩
def Qxs:=qa 214 Qjq Zf
def Qiy (D:Fn):Cfg:={cf [Q7t D]with unroll:=[5,10]}
def Qso (D:Fn):Fn:=Ao PG (Qiy D) 64 214 Qjq Zf
theorem Zjn (O:Fn) (D E G J L M N:Int):Qso O [I D,I E,I G,I J,I L,I M,I N]=
 cond (J==D&&(L==E&&(M==G&&true))) (some [I 0,I 0,I 0,B false]) (cond (decide (N<0)) (some [I 0,I 0,I 0,B false]) (cond (decide (N>33554432)) (some [I 0,I 0,I 0,B false]) ((O [I (V (J-D)),I N,I (V (V (V (0+V (V (J-D)*V (J-D)))+V (V (L-E)*V (L-E)))+V (V (M-G)*V (M-G)))),I 2]).bind λo3=>
 (O [I (V (L-E)),I N,I (V (V (V (0+V (V (J-D)*V (J-D)))+V (V (L-E)*V (L-E)))+V (V (M-G)*V (M-G)))),I 2]).bind λo4=>
 (O [I (V (M-G)),I N,I (V (V (V (0+V (V (J-D)*V (J-D)))+V (V (L-E)*V (L-E)))+V (V (M-G)*V (M-G)))),I 2]).bind λS=>
 some [I (V (D+gA o3 0)),I (V (E+gA o4 0)),I (V (G+gA S 0)),B true]))):=by kernel_rfl
def Hu:=Qso Jf
theorem Zs9:Aj PG (Qiy Jf):=Ap rfl ⟨Qwl,trivial⟩
theorem Q5q:An PG (Qxs Hu):=rw1 (C:=Qiy Jf) Zs9
def Z73:=qa 213 Qiq Qar
def Wr (D E G:Fn):Cfg:=cf [Qz4 D,Qxs E,Qvt G]
def Qt6:Sk:=⟨[td,td,td,tf [ci],tf [sd 4 0],tf [sd 5 0],tf [sd 6 0],td,td,tf [ci],tf [ci],tf [ci]]++dd 62,[(4,54,[ci,ci,ci]),(5,54,[ci,ci,ci]),(6,54,[ci,ci,ci])],[]⟩
def Q57:List (Ex×Sk):=[(Ex.exit 0,⟨dd 10++[tf [ci]]++dd 63,[],[]⟩)]
def OH (D E G:Fn):Lp:=A9 PG (Wr D E G) 64 6 (A8 PG 213 6) Qt6 Q57
def Zb8 (D E G:Fn) (I:Lp):Cfg:=(Wr D E G).loop 6 Qt6 Q57 I
def Qoq (D E G:Fn) (I:Lp):Fn:=Ao PG (Zb8 D E G I) 64 213 Qiq Qar
theorem Q8h (Dj T DE:Fn) (v0 M E D N O S G J L v10 v11 v12:Int):OH Dj T DE [I v0,I M,I E,I D,I N,I O,I S,I G,I J,I L,I v10,I v11,I v12]=
 cond (decide (D>0)) (cond (decide (V (E+D)>M)) (some (0,[I v0,I M,I E,I (D.fdiv (2^min (Int.toNat 1) IntKind.i64.bits)),I N,I O,I S,I G,I J,I L,I v10,I v11,I v12])) ((T [I G,I J,I L,I N,I O,I S,I (V (E+D))]).bind λU=>
 (T [I G,I J,I L,I v10,I v11,I v12,I (V (E+D))]).bind λX=>
 (Dj [jA U 0,jA U 1,jA U 2,I G,I J,I L,jA X 0,jA X 1,jA X 2]).bind λY=>
 cond (decide (gA Y 0<=V (V (16*v0)*v0))) (some (0,[I v0,I M,I (V (E+D)),I (D.fdiv (2^min (Int.toNat 1) IntKind.i64.bits)),I N,I O,I S,I G,I J,I L,I v10,I v11,I v12])) (some (0,[I v0,I M,I E,I (D.fdiv (2^min (Int.toNat 1) IntKind.i64.bits)),I N,I O,I S,I G,I J,I L,I v10,I v11,I v12])))) (some (1,[I E])):=by kernel_rfl
theorem Zpe (Dj CY U:Fn) (N6:Lp) (L M N E G J O S T x9:Int):Qoq Dj CY U N6 [I L,I M,I N,I E,I G,I J,I O,I S,I T,I x9]=
 cond (L==E&&(M==G&&(N==J&&true))) (some [I 0]) (cond (O==E&&(S==G&&(T==J&&true))) (some [I 0]) ((U [I L,I M,I N,I E,I G,I J]).bind λX=>
 (U [I E,I G,I J,I O,I S,I T]).bind λY=>
 (N6 [I x9,I (V (mn (gA X 0) (gA Y 0)-2)),I 0,I 16777216,I L,I M,I N,I E,I G,I J,I O,I S,I T]).bind λD=>
 cond (D.1.beq 1) (cond (decide (gA D.2 0<16)) (some [I 0]) (some [jA D.2 0])) (none))):=by kernel_rfl
def Q8z:=Am (OH HB Hu JO)
def Mx:=Qoq HB Hu JO Q8z
theorem Qv9:Aj PG (Wr HB Hu JO):=Ap rfl ⟨Q0v,Q5q,Qxd,trivial⟩
theorem Zrk:An PG (Z73 Mx):=rw2 (C:=Zb8 HB Hu JO Q8z) (fl fb Qv9) Qv9
def Zld:=qa 208 Qiq Qb8
def Qel (D E G I:Fn):Cfg:={cf [Nw D,Zoc E,Qxs G,Z73 I]with unroll:=[13]}
def Zft:Sk:=⟨[td,td,td,td,td,tf [sd 5 0],td,td,td,td,tf [sd 10 0],td,tf [sd 12 0],td,tf [ci],tf [se 50 3]]++dd 36++[tf [ci],tf [ci]]++dd 57,[(5,54,[ci,ci,ci]),(10,54,[ci,ci,ci]),(12,54,[ci,ci,ci])],[(50,54,kPt)]⟩
def Qub:List (Ex×Sk):=[(Ex.exit 0,⟨dd 15++[tf [se 50 3]]++dd 95,[],[(50,54,kPt)]⟩)]
def PB (D E G I:Fn):Lp:=A9 PG (Qel D E G I) 64 9 (A8 PG 208 9) Zft Qub
def Zaq (D E G I:Fn) (J:Lp):Cfg:=(Qel D E G I).loop 9 Zft Qub J
def Qm1 (D E G I:Fn) (J:Lp):Fn:=Ao PG (Zaq D E G I J) 64 208 Qiq Qb8
theorem Quf (O HE CY G3:Fn) (v0:Rw) (M S D E G J T U X v10 v11 v12:Int):PB O HE CY G3 [.vC kPt v0,I M,I S,I D,I E,I G,I J,I T,I U,I X,I v10,I v11,I v12]=
 cond (decide (D<S)) (cond (decide (0<=D)&&decide (D<(v0.length:Int))) ((O [I (V (V (V (V (M-D)*V (M-D))*V (T-E))+V (V (D*D)*V (v10-E)))),I 1,I (V (M*M)),I 2]).bind λL=>
 cond (decide (0<=D)&&decide (D<(v0.length:Int))) (cond (decide (0<=D)&&decide (D<(v0.length:Int))) ((O [I (V (V (V (V (M-D)*V (M-D))*V (U-G))+V (V (D*D)*V (v11-G)))),I 1,I (V (M*M)),I 2]).bind λN=>
 cond (decide (0<=D)&&decide (D<(v0.length:Int))) (cond (decide (0<=D)&&decide (D<(v0.length:Int))) ((O [I (V (V (V (V (M-D)*V (M-D))*V (X-J))+V (V (D*D)*V (v12-J)))),I 1,I (V (M*M)),I 2]).bind λY=>
 cond (decide (0<=D)&&decide (D<(v0.length:Int))) (cond (decide (0<=D)&&decide (D<(v0.length:Int))) (some (0,[.vC kPt ((((v0.set D.toNat [I E,I G,I J]).set D.toNat [I (V (Af (nth .vD (nth [] (v0.set D.toNat [I E,I G,I J]) D.toNat) 0)+gA L 0)),I (Af (nth .vD (nth [] (v0.set D.toNat [I E,I G,I J]) D.toNat) 1)),I (Af (nth .vD (nth [] (v0.set D.toNat [I E,I G,I J]) D.toNat) 2))]).set D.toNat [I (Af (nth .vD (nth [] ((v0.set D.toNat [I E,I G,I J]).set D.toNat [I (V (Af (nth .vD (nth [] (v0.set D.toNat [I E,I G,I J]) D.toNat) 0)+gA L 0)),I (Af (nth .vD (nth [] (v0.set D.toNat [I E,I G,I J]) D.toNat) 1)),I (Af (nth .vD (nth [] (v0.set D.toNat [I E,I G,I J]) D.toNat) 2))]) D.toNat) 0)),I (V (Af (nth .vD (nth [] ((v0.set D.toNat [I E,I G,I J]).set D.toNat [I (V (Af (nth .vD (nth [] (v0.set D.toNat [I E,I G,I J]) D.toNat) 0)+gA L 0)),I (Af (nth .vD (nth [] (v0.set D.toNat [I E,I G,I J]) D.toNat) 1)),I (Af (nth .vD (nth [] (v0.set D.toNat [I E,I G,I J]) D.toNat) 2))]) D.toNat) 1)+gA N 0)),I (Af (nth .vD (nth [] ((v0.set D.toNat [I E,I G,I J]).set D.toNat [I (V (Af (nth .vD (nth [] (v0.set D.toNat [I E,I G,I J]) D.toNat) 0)+gA L 0)),I (Af (nth .vD (nth [] (v0.set D.toNat [I E,I G,I J]) D.toNat) 1)),I (Af (nth .vD (nth [] (v0.set D.toNat [I E,I G,I J]) D.toNat) 2))]) D.toNat) 2))]).set D.toNat [I (Af (nth .vD (nth [] (((v0.set D.toNat [I E,I G,I J]).set D.toNat [I (V (Af (nth .vD (nth [] (v0.set D.toNat [I E,I G,I J]) D.toNat) 0)+gA L 0)),I (Af (nth .vD (nth [] (v0.set D.toNat [I E,I G,I J]) D.toNat) 1)),I (Af (nth .vD (nth [] (v0.set D.toNat [I E,I G,I J]) D.toNat) 2))]).set D.toNat [I (Af (nth .vD (nth [] ((v0.set D.toNat [I E,I G,I J]).set D.toNat [I (V (Af (nth .vD (nth [] (v0.set D.toNat [I E,I G,I J]) D.toNat) 0)+gA L 0)),I (Af (nth .vD (nth [] (v0.set D.toNat [I E,I G,I J]) D.toNat) 1)),I (Af (nth .vD (nth [] (v0.set D.toNat [I E,I G,I J]) D.toNat) 2))]) D.toNat) 0)),I (V (Af (nth .vD (nth [] ((v0.set D.toNat [I E,I G,I J]).set D.toNat [I (V (Af (nth .vD (nth [] (v0.set D.toNat [I E,I G,I J]) D.toNat) 0)+gA L 0)),I (Af (nth .vD (nth [] (v0.set D.toNat [I E,I G,I J]) D.toNat) 1)),I (Af (nth .vD (nth [] (v0.set D.toNat [I E,I G,I J]) D.toNat) 2))]) D.toNat) 1)+gA N 0)),I (Af (nth .vD (nth [] ((v0.set D.toNat [I E,I G,I J]).set D.toNat [I (V (Af (nth .vD (nth [] (v0.set D.toNat [I E,I G,I J]) D.toNat) 0)+gA L 0)),I (Af (nth .vD (nth [] (v0.set D.toNat [I E,I G,I J]) D.toNat) 1)),I (Af (nth .vD (nth [] (v0.set D.toNat [I E,I G,I J]) D.toNat) 2))]) D.toNat) 2))]) D.toNat) 0)),I (Af (nth .vD (nth [] (((v0.set D.toNat [I E,I G,I J]).set D.toNat [I (V (Af (nth .vD (nth [] (v0.set D.toNat [I E,I G,I J]) D.toNat) 0)+gA L 0)),I (Af (nth .vD (nth [] (v0.set D.toNat [I E,I G,I J]) D.toNat) 1)),I (Af (nth .vD (nth [] (v0.set D.toNat [I E,I G,I J]) D.toNat) 2))]).set D.toNat [I (Af (nth .vD (nth [] ((v0.set D.toNat [I E,I G,I J]).set D.toNat [I (V (Af (nth .vD (nth [] (v0.set D.toNat [I E,I G,I J]) D.toNat) 0)+gA L 0)),I (Af (nth .vD (nth [] (v0.set D.toNat [I E,I G,I J]) D.toNat) 1)),I (Af (nth .vD (nth [] (v0.set D.toNat [I E,I G,I J]) D.toNat) 2))]) D.toNat) 0)),I (V (Af (nth .vD (nth [] ((v0.set D.toNat [I E,I G,I J]).set D.toNat [I (V (Af (nth .vD (nth [] (v0.set D.toNat [I E,I G,I J]) D.toNat) 0)+gA L 0)),I (Af (nth .vD (nth [] (v0.set D.toNat [I E,I G,I J]) D.toNat) 1)),I (Af (nth .vD (nth [] (v0.set D.toNat [I E,I G,I J]) D.toNat) 2))]) D.toNat) 1)+gA N 0)),I (Af (nth .vD (nth [] ((v0.set D.toNat [I E,I G,I J]).set D.toNat [I (V (Af (nth .vD (nth [] (v0.set D.toNat [I E,I G,I J]) D.toNat) 0)+gA L 0)),I (Af (nth .vD (nth [] (v0.set D.toNat [I E,I G,I J]) D.toNat) 1)),I (Af (nth .vD (nth [] (v0.set D.toNat [I E,I G,I J]) D.toNat) 2))]) D.toNat) 2))]) D.toNat) 1)),I (V (Af (nth .vD (nth [] (((v0.set D.toNat [I E,I G,I J]).set D.toNat [I (V (Af (nth .vD (nth [] (v0.set D.toNat [I E,I G,I J]) D.toNat) 0)+gA L 0)),I (Af (nth .vD (nth [] (v0.set D.toNat [I E,I G,I J]) D.toNat) 1)),I (Af (nth .vD (nth [] (v0.set D.toNat [I E,I G,I J]) D.toNat) 2))]).set D.toNat [I (Af (nth .vD (nth [] ((v0.set D.toNat [I E,I G,I J]).set D.toNat [I (V (Af (nth .vD (nth [] (v0.set D.toNat [I E,I G,I J]) D.toNat) 0)+gA L 0)),I (Af (nth .vD (nth [] (v0.set D.toNat [I E,I G,I J]) D.toNat) 1)),I (Af (nth .vD (nth [] (v0.set D.toNat [I E,I G,I J]) D.toNat) 2))]) D.toNat) 0)),I (V (Af (nth .vD (nth [] ((v0.set D.toNat [I E,I G,I J]).set D.toNat [I (V (Af (nth .vD (nth [] (v0.set D.toNat [I E,I G,I J]) D.toNat) 0)+gA L 0)),I (Af (nth .vD (nth [] (v0.set D.toNat [I E,I G,I J]) D.toNat) 1)),I (Af (nth .vD (nth [] (v0.set D.toNat [I E,I G,I J]) D.toNat) 2))]) D.toNat) 1)+gA N 0)),I (Af (nth .vD (nth [] ((v0.set D.toNat [I E,I G,I J]).set D.toNat [I (V (Af (nth .vD (nth [] (v0.set D.toNat [I E,I G,I J]) D.toNat) 0)+gA L 0)),I (Af (nth .vD (nth [] (v0.set D.toNat [I E,I G,I J]) D.toNat) 1)),I (Af (nth .vD (nth [] (v0.set D.toNat [I E,I G,I J]) D.toNat) 2))]) D.toNat) 2))]) D.toNat) 2)+gA Y 0))]),I M,I S,I (V (D+1)),I E,I G,I J,I T,I U,I X,I v10,I v11,I v12])) (none)) (none)) (none)) (none)) (none)) (none)) (none)) (some (1,[.vC kPt v0])):=by kernel_rfl
theorem Q5z (AS HE S G3:Fn) (N9:Lp) (T U X J L M Y x7 x8 x9:Int):Qm1 AS HE S G3 N9 [I T,I U,I X,I J,I L,I M,I Y,I x7,I x8,I x9]=
 (G3 [I T,I U,I X,I J,I L,I M,I Y,I x7,I x8,I x9]).bind λN=>
 cond (gA N 0==0) (some [.vC kPt [[I J,I L,I M]]]) ((S [I J,I L,I M,I T,I U,I X,jA N 0]).bind λE=>
 (S [I J,I L,I M,I Y,I x7,I x8,jA N 0]).bind λG=>
 (HE [jA E 0,jA E 1,jA E 2,I J,I L,I M,jA G 0,jA G 1,jA G 2]).bind λD=>
 cond (decide (V (gA D 0+1)=V (gA D 0+1))) (cond (decide (0<=V (gA D 0+1))&&decide (V (gA D 0+1)*(↑24:Int)<=140737488355328)) ((N9 [.vC kPt (List.replicate (V (gA D 0+1)).toNat [I 0,I 0,I 0]),jA D 0,I (↑(List.replicate (V (gA D 0+1)).toNat [I 0,I 0,I 0]).length:Int),I 0,I J,I L,I M,jA E 0,jA E 1,jA E 2,jA G 0,jA G 1,jA G 2]).bind λO=>
 cond (O.1.beq 1) (some [.vC kPt (wA O.2 0)]) (none)) (none)) (none)):=by kernel_rfl
def Q4w:=Am (PB BO Ld Hu Mx)
def Qh:=Qm1 BO Ld Hu Mx Q4w
theorem Q76:Aj PG (Qel BO Ld Hu Mx):=Ap rfl ⟨L0,Zin,Q5q,Zrk,trivial⟩
theorem Z5n:An PG (Zld Qh):=rw2 (C:=Zaq BO Ld Hu Mx Q4w) (fl fb Q76) Q76
def Z17:=qa 209 Qb6 Qb6
def Qzo:Fn:=Ao PG Qdd 64 209 Qb6 Qb6
theorem Zpk (D E G:Int):Qzo [I D,I E,I G]=
 some [I (V (D*16)),I (V (E*16)),I (V (G*16))]:=by kernel_rfl
def Pa:=Qzo
theorem Zqg:An PG (Z17 Pa):=rw1 (C:=Qdd) Zhu
def Qca:Sk:=⟨[TS.v true (cc 13++[sb,ci,sb]++cc 5++[sb]),TS.v true (cc 13++[sb,ci,sb]++cc 5++[sb])],[],[]⟩
def Qtt:Sk:=⟨[TS.tup [(false,[sa kPt]),(false,[sa kPt])]],[],[]⟩
def Zh6:=qa 194 Qca Qtt
def Qhz (D E G:Fn):Cfg:=cf [Zld D,Z17 E,Qef G]
def Qj3 (D E G:Fn):Fn:=Ao PG (Qhz D E G) 64 194 Qca Qtt
theorem Yav (NX Pd Cp:Fn) (x0 x1 x2 x3 x4 x5 x6 x7 x8 x9 G J L:Int) (M:Bool) (N:Int) (O:Bool) (S T E U X:Int) (Y:Bool) (a0 a1 a2 a3 a4 a5 a6 a7 a8 a9 b0 b1 b2:Int) (b3:Bool) (b4:Int) (b5:Bool) (b6 b7 b8 b9 c0:Int) (c1:Bool):Qj3 NX Pd Cp [I x0,I x1,I x2,I x3,I x4,I x5,I x6,I x7,I x8,I x9,I G,I J,I L,B M,I N,B O,I S,I T,I E,I U,I X,B Y,I a0,I a1,I a2,I a3,I a4,I a5,I a6,I a7,I a8,I a9,I b0,I b1,I b2,B b3,I b4,B b5,I b6,I b7,I b8,I b9,I c0,B c1]=
 (Cp [I x0,I x1,I x2,I x3,I x4,I x5,I x6,I x7,I x8,I x9,I G,I J,I L,B M,I N,B O,I S,I T,I E,I U,I X,B Y]).bind λo4=>
 (Pd [I x5,I x6,I x7]).bind λo5=>
 (Cp [I a0,I a1,I a2,I a3,I a4,I a5,I a6,I a7,I a8,I a9,I b0,I b1,I b2,B b3,I b4,B b5,I b6,I b7,I b8,I b9,I c0,B c1]).bind λo6=>
 (NX [jA o4 0,jA o4 1,jA o4 2,jA o5 0,jA o5 1,jA o5 2,jA o6 0,jA o6 1,jA o6 2,I (V (E*16))]).bind λD=>
 cond (decide (0<=V (V ((V ((↑(wA D 0).length:Int)-1)).tdiv 2)+1))&&decide (V (V ((V ((↑(wA D 0).length:Int)-1)).tdiv 2)+1)<=(↑(wA D 0).length:Int))) (cond (decide (0<=V ((V ((↑(wA D 0).length:Int)-1)).tdiv 2))&&decide (V ((V ((↑(wA D 0).length:Int)-1)).tdiv 2)<=(↑(wA D 0).length:Int))) (some [.vC kPt (List.take (V (V ((V ((↑(wA D 0).length:Int)-1)).tdiv 2)+1)).toNat (wA D 0)), .vC kPt (List.drop (V ((V ((↑(wA D 0).length:Int)-1)).tdiv 2)).toNat (wA D 0))]) (none)) (none):=by kernel_rfl
def R3:=Qj3 Qh Pa GP
theorem Z2d:Aj PG (Qhz Qh Pa GP):=Ap rfl ⟨Z5n,Zqg,Qtp,trivial⟩
theorem Z4l:An PG (Zh6 R3):=rw1 (C:=Qhz Qh Pa GP) Z2d
def Qhs:Sk:=⟨[TS.tup [(false,[ci]),(false,[ci]),(false,[ci]),(false,[sb])]],[],[]⟩
def Qqm:=qa 188 Qar Qhs
def Qv0:Fn:=Ao PG Qdd 64 188 Qar Qhs
theorem Z35 (D:Int):Qv0 [I D]=
 cond (D==17) (some [I 0,I 1,I 2,B true]) (cond (D==18) (some [I 2,I 0,I 1,B true]) (cond (D==19) (some [I 1,I 2,I 0,B true]) (some [I 0,I 0,I 0,B false]))):=by kernel_rfl
def Gf:=Qv0
theorem Qrd:An PG (Qqm Gf):=rw1 (C:=Qdd) Zhu
def Zjj:=qa 207 Ye Qb6
def Qil (D:Fn):Cfg:=cf [Qqm D]
def Qjx (D:Fn):Fn:=Ao PG (Qil D) 64 207 Ye Qb6
abbrev Vb (o1:List AC) (J:Int) (D E G:AC):Option (List AC):=
 cond (decide (gA o1 2=(↑0:Int))) (some [I J,D,E]) (cond (decide (gA o1 2=(↑(0+1):Int))) (some [G,I J,E]) (cond (decide (gA o1 2=(↑(0+1+1):Int))) (some [G,D,I J]) (none)))
abbrev Tf (o1:List AC) (J L:Int) (D E G:AC):Option (List AC):=
 cond (decide (gA o1 1=(↑0:Int))) (Vb o1 J D E (I L)) (cond (decide (gA o1 1=(↑(0+1):Int))) (Vb o1 J (I L) E G) (cond (decide (gA o1 1=(↑(0+1+1):Int))) (Vb o1 J D (I L) G) (none)))
theorem Zym (J:Fn) (D E G L:Int):Qjx J [I D,I E,I G,I L]=
 (J [I L]).bind λo1=>
 cond (bA o1 3) (cond (decide (gA o1 0=(↑0:Int))) (Tf o1 G E (I 0) (I 0) (I D)) (cond (decide (gA o1 0=(↑(0+1):Int))) (Tf o1 G E (I D) (I 0) (I 0)) (cond (decide (gA o1 0=(↑(0+1+1):Int))) (Tf o1 G E (I 0) (I D) (I 0)) (none)))) (some [I 0,I 0,I 0]):=by kernel_rfl
def NR:=Qjx Gf
theorem Ya5:Aj PG (Qil Gf):=Ap rfl ⟨Qrd,trivial⟩
theorem Z46:An PG (Zjj NR):=rw1 (C:=Qil Gf) Ya5
def Qk0:Sk:=⟨[TS.tup [(false,[ci]),(false,[ci]),(false,[ci])]],[],[]⟩
def Q0h:=qa 203 Qjm Qk0
def W0 (D:Fn):Cfg:=cf [Qqm D]
def We (D:Fn):Fn:=Ao PG (W0 D) 64 203 Qjm Qk0
abbrev Th (o1:List AC) (D:AC) (G J L:Int) (E:AC):Option (List AC):=
 cond (decide (gA o1 2=(↑0:Int))) (some [D,E,I G]) (cond (decide (gA o1 2=(↑(0+1):Int))) (some [D,E,I J]) (cond (decide (gA o1 2=(↑(0+1+1):Int))) (some [D,E,I L]) (none)))
abbrev T8 (o1:List AC) (E G J:Int) (D:AC):Option (List AC):=
 cond (decide (gA o1 1=(↑0:Int))) (Th o1 D E G J (I E)) (cond (decide (gA o1 1=(↑(0+1):Int))) (Th o1 D E G J (I G)) (cond (decide (gA o1 1=(↑(0+1+1):Int))) (Th o1 D E G J (I J)) (none)))
theorem Yat (J:Fn) (D E G L:Int):We J [I D,I E,I G,I L]=
 (J [I L]).bind λo1=>
 cond (!bA o1 3) (some [I 0,I 0,I 0]) (cond (decide (gA o1 0=(↑0:Int))) (T8 o1 D E G (I D)) (cond (decide (gA o1 0=(↑(0+1):Int))) (T8 o1 D E G (I E)) (cond (decide (gA o1 0=(↑(0+1+1):Int))) (T8 o1 D E G (I G)) (none)))):=by kernel_rfl
def IK:=We Gf
theorem Zly:Aj PG (W0 Gf):=Ap rfl ⟨Qrd,trivial⟩
theorem Qx6:An PG (Q0h IK):=rw1 (C:=W0 Gf) Zly
def Zdm:=qa 204 Qb6 Qb6
def Qv2:Fn:=Ao PG Qdd 64 204 Qb6 Qb6
theorem Zpo (D E G:Int):Qv2 [I D,I E,I G]=
 some [I (V (D*16)),I (V (E*16)),I (V (G*16))]:=by kernel_rfl
def H6:=Qv2
theorem Zan:An PG (Zdm H6):=rw1 (C:=Qdd) Zhu
def Qq7:Sk:=⟨[TS.v true [ci,ci,ci,ci],TS.v true [ci,ci,ci,ci]],[],[]⟩
def Qkr:=qa 192 Qq7 Qar
def Qxm:Fn:=Ao PG Qdd 64 192 Qq7 Qar
theorem Zpr (D E L M G J N O:Int):Qxm [I D,I E,I L,I M,I G,I J,I N,I O]=
 some [I (V (V (D*J)-V (E*G)))]:=by kernel_rfl
def HD:=Qxm
theorem Yd:An PG (Qkr HD):=rw1 (C:=Qdd) Zhu
def Qsn:=qa 190 Qq7 Qar
def Qzr:Fn:=Ao PG Qdd 64 190 Qq7 Qar
theorem Zz7 (D E L M G J N O:Int):Qzr [I D,I E,I L,I M,I G,I J,I N,I O]=
 some [I (V (V (D*G)+V (E*J)))]:=by kernel_rfl
def G_:=Qzr
theorem Qb1:An PG (Qsn G_):=rw1 (C:=Qdd) Zhu
def Qoa:Sk:=⟨[TS.v true [ci,ci,ci,ci],TS.v true [ci,ci,ci,ci],tf [ci],tf [sb]],[],[]⟩
def Qfw:Sk:=⟨[TS.tup [(true,[ci,ci,ci,ci]),(false,[sb])]],[],[]⟩
def Z8e:=qa 218 Qoa Qfw
def Qja (D E G:Fn):Cfg:=cf [Q7t D,Qkr E,Qsn G]
def Qgl (D E G:Fn):Fn:=Ao PG (Qja D E G) 64 218 Qoa Qfw
abbrev Qc8 (O:Fn) (E:AC) (J L:Int) (D G:AC) (S T:Int):Option (List AC):=
 (O [E,I ((V (V (J+L)+1)).fdiv (2^min (Int.toNat 1) IntKind.i64.bits)),D,I 2]).bind λM=>
 (O [G,I ((V (V (J+L)+1)).fdiv (2^min (Int.toNat 1) IntKind.i64.bits)),D,I 2]).bind λN=>
 some [jA M 0,jA N 0,I ((V (V (J+L)+1)).fdiv (2^min (Int.toNat 1) IntKind.i64.bits)),I ((V (V (S+T)+1)).fdiv (2^min (Int.toNat 1) IntKind.i64.bits)),B true]
abbrev RY (M:Fn) (N O S T:Int) (J L:Bool) (D E G:AC):Option (List AC):=
 cond (J) (cond (L) (some [I 0,I 0,I 0,I 0,B false]) (Qc8 M D N O E G S T)) (Qc8 M D N O E G S T)
abbrev Qaa (Y:Bool) (T:Fn) (M N O S D E:Int) (CE:Fn) (G J L:Int) (Dg:Fn):Option (List AC):=
 cond (Y) (RY T M N O S (V (0-D)==0) (V (0-E)==0) (I (V (0-D))) (I (V (V (V (0-D)*V (0-D))+V (V (0-E)*V (0-E))))) (I (V (0-E)))) ((CE [I D,I E,I M,I O,I G,I J,I N,I S]).bind λU=>
 cond (decide (gA U 0<=0)) (RY T M N O S (V (L*V (J-E))==0) (V (L*V (D-G))==0) (I (V (L*V (J-E)))) (I (V (V (V (L*V (J-E))*V (L*V (J-E)))+V (V (L*V (D-G))*V (L*V (D-G)))))) (I (V (L*V (D-G))))) ((Dg [I D,I E,I M,I O,I G,I J,I N,I S]).bind λX=>
 cond (decide (V (gA X 0*L)<=0)) (RY T M N O S (V (0-V (D+G))==0) (V (0-V (E+J))==0) (I (V (0-V (D+G)))) (I (V (V (V (0-V (D+G))*V (0-V (D+G)))+V (V (0-V (E+J))*V (0-V (E+J)))))) (I (V (0-V (E+J))))) (RY T M N O S (V (D+G)==0) (V (E+J)==0) (I (V (D+G))) (I (V (V (V (D+G)*V (D+G))+V (V (E+J)*V (E+J))))) (I (V (E+J))))))
theorem Zrd (E G J:Fn) (L M N O S T U V D:Int) (X:Bool):Qgl E G J [I L,I M,I N,I O,I S,I T,I U,I V,I D,B X]=
 cond (D !=1) (cond (D != -1) (some [I 0,I 0,I 0,I 0,B false]) (Qaa X E N U O V L M J S T D G)) (Qaa X E N U O V L M J S T D G):=by kernel_rfl
def NK:=Qgl Jf HD G_
theorem Z33:Aj PG (Qja Jf HD G_):=Ap rfl ⟨Qwl,Yd,Qb1,trivial⟩
theorem Z5i:An PG (Z8e NK):=rw1 (C:=Qja Jf HD G_) Z33
def Zxa:=qa 223 Z5 Qrs
def Q6h:Fn:=Ao PG Qdd 64 223 Z5 Qrs
theorem Z1w (D E:Int):Q6h [I D,I E]=
 some [B (decide (E<=V (V (V (8*D)*4)-64)))]:=by kernel_rfl
def OW:=Q6h
theorem Zg9:An PG (Zxa OW):=rw1 (C:=Qdd) Zhu
def Qf5:Sk:=⟨[tf [sd 20000 0],TS.v true [ci,ci,ci,ci],TS.v true [ci,ci,ci,ci],tf [sb]],[(20000,254,[ci,se 20000 4])],[(20000,231,[kI,kI,kI,kI])]⟩
def XU:Sk:=⟨[tf [sb]],[(20000,254,[ci,se 20000 4])],[(20000,231,[kI,kI,kI,kI])]⟩
def Zn9:=qa 217 Qf5 XU
def Qs9 (D E:Fn):Cfg:=cf [Zxa D,Qkr E]
def Qjp (D E:Fn):Fn:=Ao PG (Qs9 D E) 64 217 Qf5 XU
theorem Zka (S T:Fn) (E:Rw) (G J N U L M O X:Int) (Y:Bool) (D:Int):Qjp S T [.vC [kI,kI,kI,kI] E,I G,I J,I N,I U,I L,I M,I O,I X,B Y,I D]=
 cond (!Y) ((T [I G,I J,I N,I U,I L,I M,I O,I X]).bind λo2=>
 cond (decide (V (gA o2 0*D)>0)) ((S [I (mn N O),I (V (V (V (G-L)*V (G-L))+V (V (J-M)*V (J-M))))]).bind λo3=>
 some [.vC [kI,kI,kI,kI] E,B (bA o3 0),I D]) (some [.vC [kI,kI,kI,kI] E,B false,I D])) (some [.vC [kI,kI,kI,kI] E,B false,I D]):=by kernel_rfl
def Md:=Qjp OW HD
theorem Zw8:Aj PG (Qs9 OW HD):=Ap rfl ⟨Zg9,Yd,trivial⟩
theorem Zr4:An PG (Zn9 Md):=rw1 (C:=Qs9 OW HD) Zw8
def Q0z:Nat:=20
def Nl:Sk:=⟨[tf [sd 20000 0],TS.v true [ci,ci,ci,ci],TS.v true [ci,ci,ci,ci],tf [sb],tf [ci]],[(20000,254,[ci,se 20000 4])],[(20000,231,[kI,kI,kI,kI])]⟩
def NG:Sk:=⟨[TS.tup []],[(20000,254,[ci,se 20000 4])],[(20000,231,[kI,kI,kI,kI])]⟩
def Zf4:=qa 212 Nl NG
def Qq0 (D E G:Fn):Cfg:=cp [Zf4 D,Z8e E,Zn9 G] [212,217]
def Vx (D E G:Fn):Fn:=Ao PG (Qq0 D E G) 64 212 Nl NG
theorem Quu (Y OM OU:Fn) (O:Rw) (S T U X D E G J:Int) (x9:Bool) (L N:Int):Vx Y OM OU [.vC [kI,kI,kI,kI] O,I S,I T,I U,I X,I D,I E,I G,I J,B x9,I L,I N]=
 cond (decide (L<16)) ((OU [.vC [kI,kI,kI,kI] O,I S,I T,I U,I X,I D,I E,I G,I J,B x9,I N]).bind λo4=>
 cond (!bA o4 1) ((OM [I S,I T,I U,I X,I D,I E,I G,I J,jA o4 2,B x9]).bind λM=>
 cond (bA M 4) ((Y [.vC [kI,kI,kI,kI] (wA o4 0),I S,I T,I U,I X,jA M 0,jA M 1,jA M 2,jA M 3,B false,I (V (L+1)),jA o4 2]).bind λo6=>
 (Y [.vC [kI,kI,kI,kI] (wA o6 0),jA M 0,jA M 1,jA M 2,jA M 3,I D,I E,I G,I J,B false,I (V (L+1)),jA o6 1]).bind λo7=>
 some [.vC [kI,kI,kI,kI] (wA o7 0),jA o7 1]) (cond (((wA o4 0++[[I D,I E,I G,I J]]).length*32).ble 140737488355328) (some [.vC [kI,kI,kI,kI] (wA o4 0++[[I D,I E,I G,I J]]),jA o4 2]) (none))) (cond (((wA o4 0++[[I D,I E,I G,I J]]).length*32).ble 140737488355328) (some [.vC [kI,kI,kI,kI] (wA o4 0++[[I D,I E,I G,I J]]),jA o4 2]) (none))) (cond (((O++[[I D,I E,I G,I J]]).length*32).ble 140737488355328) (some [.vC [kI,kI,kI,kI] (O++[[I D,I E,I G,I J]]),I N]) (none)):=by kernel_rfl
def Zfl (M:Fn):Fn:=Vx M NK Md
def O_:Nat->Fn
 |0=>λ_=>none
 |n+1=>Zfl (O_ n)
theorem Z13 {M:Fn} (h:An PG (212,Ad Nl NG M)):Aj PG (Qq0 M NK Md):=Ap rfl ⟨h,Z5i,Zr4,trivial⟩
theorem Zkf {M:Fn} (h:An PG (212,Ad Nl NG M)):An PG (212,Ad Nl NG (Zfl M)):=Qqz (C:=Qq0 M NK Md) (L:=64) (by kernel_rfl) (FnOK.bare rfl rfl rfl) (Z13 h) eqOk GA (by kernel_rfl) (by kernel_rfl)
theorem Zc6:∀n,An PG (212,Ad Nl NG (O_ n))
 |0=>Z8k
 |n+1=>Zkf (Zc6 n)
def Ty:=O_ Q0z
theorem Zzq:An PG (Zf4 Ty):=Zc6 Q0z
def Qfs:Sk:=⟨[TS.tup [(true,[ci,ci,ci,ci]),(true,[ci,ci,ci,ci])]],[],[]⟩
def Q9y:=qa 189 Qg2 Qfs
def Qbz (D E:Fn):Cfg:=cf [Q0h D,Zdm E]
def Q4j:Sk:=⟨[td,tf [sd 1 0],tf [sd 2 0],tf [sd 3 0],tf [sd 4 0],tf [ci],tf [ci]]++dd 20++[TS.v true (cc 6),tf [ci]]++dd 27,[(1,74,cc 13++[sb,ci,sb]++cc 5++[sb]),(2,231,[ci,ci,ci,ci]),(3,231,[ci,ci,ci,ci]),(4,242,cc 8)],[]⟩
def Q2d:List (Ex×Sk):=[(Ex.exit 0,⟨[td,td,tf [sd 2 0],tf [sd 3 0],tf [sd 4 0]]++dd 51,[(2,231,[ci,ci,ci,ci]),(3,231,[ci,ci,ci,ci]),(4,242,cc 8)],[]⟩)]
def Qst (D E:Fn):Lp:=A9 PG (Qbz D E) 64 4 (A8 PG 189 4) Q4j Q2d
def Qxj (D E:Fn) (G:Lp):Cfg:=(Qbz D E).loop 4 Q4j Q2d G
def Zp (D E:Fn) (G:Lp):Fn:=Ao PG (Qxj D E G) 64 189 Qg2 Qfs
abbrev Qj4 (Cj Cz:Fn) (E v8 v0 v1 v2 v3 v4 v5 v6 v7 v9 v10 v11 v12 G J L M N O v20 v21:Int) (v22:Bool) (S:Int) (v24:Bool) (v25 T v27 v28 U:Int) (v30:Bool) (v31 X v33 Y v35 v36 v37 v38 a3 v44 a4 v46 a5 v40 a6 v42:Int) (a0 a1 a2:AC):Option (Nat×List AC):=
 (Cj [a0,a1,a2]).bind λo9=>
 (Cz [jA o9 0,jA o9 1,jA o9 2,I E]).bind λD=>
 cond (decide (v8=(↑0:Int))) (some (0,[I v0,I v1,I v2,I v3,I v4,I v5,I v6,I v7,I (V (v8+1)),I v9,I v10,I v11,I v12,I G,I J,I L,I M,I E,I N,I O,I v20,I v21,B v22,I S,B v24,I v25,I T,I v27,I v28,I U,B v30,I v31,I X,I v33,I Y,I v35,I v36,I v37,I v38,I (V (gA D 0-v0)),I (V (gA D 1-v1)),I 0,jA D 2,I a3,I v44,I a4,I v46])) (cond (decide (v8=(↑(0+1):Int))) (some (0,[I v0,I v1,I v2,I v3,I v4,I v5,I v6,I v7,I (V (v8+1)),I v9,I v10,I v11,I v12,I G,I J,I L,I M,I E,I N,I O,I v20,I v21,B v22,I S,B v24,I v25,I T,I v27,I v28,I U,B v30,I v31,I X,I v33,I Y,I v35,I v36,I v37,I v38,I a5,I v40,I a6,I v42,I (V (gA D 0-v0)),I (V (gA D 1-v1)),I 0,jA D 2])) (none))
theorem Qqs (Cz Cj:Fn) (v0 v1 v2 v3 v4 v5 v6 v7 v8 v9 v10 v11 v12 N O S T U V X v20 v21:Int) (v22:Bool) (Y:Int) (v24:Bool) (v25 a0 v27 v28 a1:Int) (v30:Bool) (v31 D v33 E v35 v36 v37 v38 G v40 J v42 L v44 M v46:Int):Qst Cz Cj [I v0,I v1,I v2,I v3,I v4,I v5,I v6,I v7,I v8,I v9,I v10,I v11,I v12,I N,I O,I S,I T,I U,I V,I X,I v20,I v21,B v22,I Y,B v24,I v25,I a0,I v27,I v28,I a1,B v30,I v31,I D,I v33,I E,I v35,I v36,I v37,I v38,I G,I v40,I J,I v42,I L,I v44,I M,I v46]=
 cond (decide (v8<2)) (cond (decide (v8=(↑0:Int))) (Qj4 Cj Cz U v8 v0 v1 v2 v3 v4 v5 v6 v7 v9 v10 v11 v12 N O S T V X v20 v21 v22 Y v24 v25 a0 v27 v28 a1 v30 v31 D v33 E v35 v36 v37 v38 L v44 M v46 G v40 J v42 (I v2) (I v3) (I v4)) (cond (decide (v8=(↑(0+1):Int))) (Qj4 Cj Cz U v8 v0 v1 v2 v3 v4 v5 v6 v7 v9 v10 v11 v12 N O S T V X v20 v21 v22 Y v24 v25 a0 v27 v28 a1 v30 v31 D v33 E v35 v36 v37 v38 L v44 M v46 G v40 J v42 (I v5) (I v6) (I v7)) (none))) (some (1,[I v31,I D,I v33,I E,I v35,I v36,I v37,I v38,I G,I v40,I J,I v42,I L,I v44,I M,I v46])):=by kernel_rfl
theorem Zyv (Cz Cj:Fn) (N4:Lp) (x0 x1 x2 x3 x4 x5 x6 x7 x8 x9 E G L:Int) (M:Bool) (N:Int) (O:Bool) (S T U V X:Int) (Y:Bool):Zp Cz Cj N4 [I x0,I x1,I x2,I x3,I x4,I x5,I x6,I x7,I x8,I x9,I E,I G,I L,B M,I N,B O,I S,I T,I U,I V,I X,B Y]=
 (Cj [I x9,I E,I G]).bind λJ=>
 (Cz [jA J 0,jA J 1,jA J 2,I x8]).bind λa0=>
 (N4 [jA a0 0,jA a0 1,I x2,I x3,I x4,I x5,I x6,I x7,I 0,I x0,I x1,I x2,I x3,I x4,I x5,I x6,I x7,I x8,I x9,I E,I G,I L,B M,I N,B O,I S,I T,I U,I V,I X,B Y,I 0,I 0,I 0,I 0,I 0,I 0,I 0,I 0,I 0,I 0,I 0,I 0,I 0,I 0,I 0,I 0]).bind λD=>
 cond (D.1.beq 1) (some [jA D.2 8,jA D.2 9,jA D.2 10,jA D.2 11,jA D.2 12,jA D.2 13,jA D.2 14,jA D.2 15]) (none):=by kernel_rfl
def Ze9:=Am (Qst IK H6)
def Ln:=Zp IK H6 Ze9
theorem Q8a:Aj PG (Qbz IK H6):=Ap rfl ⟨Qx6,Zan,trivial⟩
theorem Q84:An PG (Q9y Ln):=rw2 (C:=Qxj IK H6 Ze9) (fl fb Q8a) Q8a
def Z9e:=qa 205 Ye Qar
def Qmh (D E G I:Fn):Cfg:=cf [Qt5 D,UU E,Qdp G,Yi I]
def Qq5 (D E G I:Fn):Fn:=Ao PG (Qmh D E G I) 64 205 Ye Qar
theorem Zgk (EE L D M:Fn) (N O S T:Int):Qq5 EE L D M [I N,I O,I S,I T]=
 (M [I N,I O]).bind λX=>
 (M [I S,I T]).bind λE=>
 cond (gA X 0 !=gA E 0) (cond (decide (gA X 0<gA E 0)) (some [I (-1)]) (some [I 1])) ((D [I N]).bind λY=>
 (D [I O]).bind λa0=>
 (L [U (gA Y 0),U (gA a0 0)]).bind λG=>
 (D [I S]).bind λa1=>
 (D [I T]).bind λa2=>
 (L [U (gA a1 0),U (gA a2 0)]).bind λJ=>
 (EE [U (gA G 0),U (gA G 1),U (gA J 0),U (gA J 1)]).bind λa3=>
 some [I (V (gA X 0*gA a3 0))]):=by kernel_rfl
def PN:=Qq5 IT Ff GS Gy
theorem Z6g:Aj PG (Qmh IT Ff GS Gy):=Ap rfl ⟨Q1h,VF,WN,Qfk,trivial⟩
theorem Zuy:An PG (Z9e PN):=rw1 (C:=Qmh IT Ff GS Gy) Z6g
def Z1p:=qa 191 Z5 Qrs
def Zx (D:Fn):Cfg:=cf [Z9e D]
def Ze (D:Fn):Fn:=Ao PG (Zx D) 64 191 Z5 Qrs
theorem Zte (G:Fn) (D E:Int):Ze G [I D,I E]=
 cond (decide (V (V (mx D E-mn D E)-16)<=0)) (some [B true]) ((G [I (V (V (mx D E-mn D E)-16)),I (V (V (mx D E-mn D E)-16)),I 64,I (mn D E)]).bind λo1=>
 some [B (decide (gA o1 0<=0))]):=by kernel_rfl
def QS:=Ze PN
theorem Zlx:Aj PG (Zx PN):=Ap rfl ⟨Zuy,trivial⟩
theorem Yca:An PG (Z1p QS):=rw1 (C:=Zx PN) Zlx
def Zps:=qa 187 Qb6 Qrs
def Zfd:Fn:=Ao PG Qez 64 187 Qb6 Qrs
theorem Zq9 (D E G:Int):Zfd [I D,I E,I G]=
 cond (decide (D< -1048576)) (some [B false]) (cond (decide (D>1048576)) (some [B false]) (cond (decide (E< -1048576)) (some [B false]) (cond (decide (E>1048576)) (some [B false]) (cond (decide (G< -1048576)) (some [B false]) (cond (decide (G>1048576)) (some [B false]) (some [B true])))))):=by kernel_rfl
def OC:=Zfd
theorem Zuo:An PG (Zps OC):=rw1 (C:=Qez) Zy5
def Qc2:=qa 167 Qg2 Qrs
def Yj (D E G I J L:Fn):Cfg:=cf [Qkr D,Z1p E,Qsn G,Q9y I,Qqm J,Zps L]
def Qqn (D E G I J L:Fn):Fn:=Ao PG (Yj D E G I J L) 64 167 Qg2 Qrs
abbrev Qi0 (Io:Fn) (x9 E G:Int) (FF:Fn) (x0 x1 x2 x3 x4 x5 x6 x7 x8 N:Int) (J:Bool) (O:Int) (S:Bool) (T U X Y a0:Int) (a1:Bool) (CE Ki Dg:Fn):Option (List AC):=
 (Io [I x9,I E,I G]).bind λa2=>
 cond (!bA a2 0) (some [B false]) ((FF [I x0,I x1,I x2,I x3,I x4,I x5,I x6,I x7,I x8,I x9,I E,I G,I N,B J,I O,B S,I T,I U,I X,I Y,I a0,B a1]).bind λD=>
 (CE [jA D 0,jA D 1,jA D 2,jA D 3,jA D 0,jA D 1,jA D 2,jA D 3]).bind λL=>
 (CE [jA D 4,jA D 5,jA D 6,jA D 7,jA D 4,jA D 5,jA D 6,jA D 7]).bind λM=>
 cond (decide (gA L 0<V (128*128))) (some [B false]) (cond (decide (gA M 0<V (128*128))) (some [B false]) ((Ki [I (V ((gA L 0).tdiv 256)),I (V ((gA M 0).tdiv 256))]).bind λa3=>
 cond (!bA a3 0) (some [B false]) (cond (J) (cond (gA D 0==gA D 4) (some [B (gA D 1==gA D 5)]) (some [B false])) ((Dg [jA D 0,jA D 1,jA D 2,jA D 3,jA D 4,jA D 5,jA D 6,jA D 7]).bind λa4=>
 cond (gA a4 0 !=0) (some [B true]) ((CE [jA D 0,jA D 1,jA D 2,jA D 3,jA D 4,jA D 5,jA D 6,jA D 7]).bind λa5=>
 some [B (decide (gA a5 0<0))]))))))
theorem Zze (Dg Ki CE FF EA Y:Fn) (X x1 x2 x3 x4 x5 x6 x7 x8 x9 E G D:Int) (J:Bool) (L:Int) (M:Bool) (N O S T U:Int) (V:Bool):Qqn Dg Ki CE FF EA Y [I X,I x1,I x2,I x3,I x4,I x5,I x6,I x7,I x8,I x9,I E,I G,I D,B J,I L,B M,I N,I O,I S,I T,I U,B V]=
 cond (decide (X<1)) (some [B false]) (cond (decide (X>6)) (some [B false]) ((Y [I x2,I x3,I x4]).bind λa0=>
 cond (!bA a0 0) (some [B false]) ((Y [I x5,I x6,I x7]).bind λa1=>
 cond (!bA a1 0) (some [B false]) (cond (X !=3) (some [B true]) ((EA [I x8]).bind λa2=>
 cond (!bA a2 3) (some [B false]) (cond (D !=1) (cond (D != -1) (some [B false]) (Qi0 Y x9 E G FF X x1 x2 x3 x4 x5 x6 x7 x8 D J L M N O S T U V CE Ki Dg)) (Qi0 Y x9 E G FF X x1 x2 x3 x4 x5 x6 x7 x8 D J L M N O S T U V CE Ki Dg))))))):=by kernel_rfl
def Hn:=Qqn HD QS G_ Ln Gf OC
theorem Zix:Aj PG (Yj HD QS G_ Ln Gf OC):=Ap rfl ⟨Yd,Yca,Qb1,Q84,Qrd,Zuo,trivial⟩
theorem Qb5:An PG (Qc2 Hn):=rw1 (C:=Yj HD QS G_ Ln Gf OC) Zix
def Ql6:Sk:=⟨[TS.tup [(false,[sa [kI,kI,kI,kI]]),(false,[sb])]],[],[]⟩
def Zr0:=qa 206 Qg2 Ql6
def WV (D E G I J:Fn):Cfg:={cp [Zf4 D,Qw5 E,Qsn G,Q9y I,Qc2 J] [212]with rowDst:=[39]}
def Qpr (D E G I J:Fn):Fn:=Ao PG (WV D E G I J) 64 206 Qg2 Ql6
theorem Z3g (Ge Gl CE FF C7:Fn) (x0 x1 x2 x3 x4 x5 x6 x7 x8 x9 J L E:Int) (G:Bool) (M:Int) (N:Bool) (O S T U V:Int) (X:Bool):Qpr Ge Gl CE FF C7 [I x0,I x1,I x2,I x3,I x4,I x5,I x6,I x7,I x8,I x9,I J,I L,I E,B G,I M,B N,I O,I S,I T,I U,I V,B X]=
 cond (x0 !=3) (some [.vC [kI,kI,kI,kI] [],B false]) ((C7 [I x0,I x1,I x2,I x3,I x4,I x5,I x6,I x7,I x8,I x9,I J,I L,I E,B G,I M,B N,I O,I S,I T,I U,I V,B X]).bind λo7=>
 cond (!bA o7 0) (some [.vC [kI,kI,kI,kI] [],B false]) ((FF [I x0,I x1,I x2,I x3,I x4,I x5,I x6,I x7,I x8,I x9,I J,I L,I E,B G,I M,B N,I O,I S,I T,I U,I V,B X]).bind λD=>
 (CE [jA D 0,jA D 1,jA D 2,jA D 3,jA D 0,jA D 1,jA D 2,jA D 3]).bind λo9=>
 (Gl [jA o9 0,I 2]).bind λY=>
 (CE [jA D 4,jA D 5,jA D 6,jA D 7,jA D 4,jA D 5,jA D 6,jA D 7]).bind λa0=>
 (Gl [jA a0 0,I 2]).bind λa1=>
 (Ge [.vC [kI,kI,kI,kI] [[jA D 0,jA D 1,jA Y 0,jA D 3]],jA D 0,jA D 1,jA Y 0,jA D 3,jA D 4,jA D 5,jA a1 0,jA D 7,B G,I 0,I E]).bind λa2=>
 some [.vC [kI,kI,kI,kI] (wA a2 0),B true])):=by kernel_rfl
def PJ:=Qpr Ty Jw G_ Ln Hn
theorem Z70:Aj PG (WV Ty Jw G_ Ln Hn):=Ap rfl ⟨Zzq,Qzz,Qb1,Q84,Qb5,trivial⟩
theorem Znl:An PG (Zr0 PJ):=rw1 (C:=WV Ty Jw G_ Ln Hn) Z70
def Qhp:Sk:=⟨[TS.tup [(false,[sa kPt]),(false,[sb])]],[],[]⟩
def Zrt:=qa 193 Qg2 Qhp
def Qey (D E G I J:Fn):Cfg:=cf [Zjj D,Q0h E,Zdm G,Zr0 I,Qc2 J]
def Q2y:Sk:=⟨[td,tf [sd 1 0],td,td,td,td,tf [ci],tf [ci],td,tf [se 41 3]]++dd 32++[tf [sa [kI,kI,kI,kI]],tf [ci],tf [ci]]++dd 22,[(1,74,cc 13++[sb,ci,sb]++cc 5++[sb])],[(41,54,kPt)]⟩
def Zcr:List (Ex×Sk):=[(Ex.exit 0,⟨dd 9++[tf [se 41 3]]++dd 57,[],[(41,54,kPt)]⟩)]
def O2 (D E G I J:Fn):Lp:=A9 PG (Qey D E G I J) 64 9 (A8 PG 193 9) Q2y Zcr
def Zf0 (D E G I J:Fn) (L:Lp):Cfg:=(Qey D E G I J).loop 9 Q2y Zcr L
def Vg (D E G I J:Fn) (L:Lp):Fn:=Ao PG (Zf0 D E G I J L) 64 193 Qg2 Qhp
theorem Q4f (HU Cz Cj G4 C7:Fn) (v0:Rw) (Y v2:Int) (J:Rw) (v4 D v6 v7 v8 v9 v10 v11 v12 L E M N O S:Int) (T:Bool) (v20:Int) (v21:Bool) (v22 U v24 v25 X:Int) (v27:Bool):O2 HU Cz Cj G4 C7 [.vC kPt v0,I Y,I v2, .vC [kI,kI,kI,kI] J,I v4,I D,I v6,I v7,I v8,I v9,I v10,I v11,I v12,I L,I E,I M,I N,I O,I S,B T,I v20,B v21,I v22,I U,I v24,I v25,I X,B v27]=
 cond (decide (D<v4)) (cond (decide (0<=D)&&decide (D<(J.length:Int))) ((HU [I (V (Y+gA (nth [] J D.toNat) 0)),I (V (v2+gA (nth [] J D.toNat) 1)),jA (nth [] J D.toNat) 3,I E]).bind λG=>
 cond (decide (0<=D)&&decide (D<(v0.length:Int))) (some (0,[.vC kPt (v0.set D.toNat [jA G 0,jA G 1,jA G 2]),I Y,I v2, .vC [kI,kI,kI,kI] J,I v4,I (V (D+1)),I v6,I v7,I v8,I v9,I v10,I v11,I v12,I L,I E,I M,I N,I O,I S,B T,I v20,B v21,I v22,I U,I v24,I v25,I X,B v27])) (none)) (none)) (some (1,[.vC kPt v0])):=by kernel_rfl
theorem WP (HU Cz Cj G4 C7:Fn) (N9:Lp) (x0 x1 x2 x3 x4 x5 x6 x7 x8 x9 E G J:Int) (L:Bool) (M:Int) (N:Bool) (O S T U V:Int) (X:Bool):Vg HU Cz Cj G4 C7 N9 [I x0,I x1,I x2,I x3,I x4,I x5,I x6,I x7,I x8,I x9,I E,I G,I J,B L,I M,B N,I O,I S,I T,I U,I V,B X]=
 (C7 [I x0,I x1,I x2,I x3,I x4,I x5,I x6,I x7,I x8,I x9,I E,I G,I J,B L,I M,B N,I O,I S,I T,I U,I V,B X]).bind λa4=>
 cond (!bA a4 0) (some [.vC kPt [],B false]) ((G4 [I x0,I x1,I x2,I x3,I x4,I x5,I x6,I x7,I x8,I x9,I E,I G,I J,B L,I M,B N,I O,I S,I T,I U,I V,B X]).bind λD=>
 cond (!bA D 1) ((Cj [I x2,I x3,I x4]).bind λY=>
 (Cj [I x5,I x6,I x7]).bind λa0=>
 some [.vC kPt [[jA Y 0,jA Y 1,jA Y 2],[jA a0 0,jA a0 1,jA a0 2]],B true]) ((Cj [I x9,I E,I G]).bind λa1=>
 (Cz [jA a1 0,jA a1 1,jA a1 2,I x8]).bind λa2=>
 cond (decide ((↑(wA D 0).length:Int)=(↑(wA D 0).length:Int))) (cond (decide (0<=(↑(wA D 0).length:Int))&&decide ((↑(wA D 0).length:Int)*(↑24:Int)<=140737488355328)) ((N9 [.vC kPt (List.replicate (↑(wA D 0).length:Int).toNat [I 0,I 0,I 0]),jA a2 0,jA a2 1, .vC [kI,kI,kI,kI] (wA D 0),I (↑(wA D 0).length:Int),I 0,I x0,I x1,I x2,I x3,I x4,I x5,I x6,I x7,I x8,I x9,I E,I G,I J,B L,I M,B N,I O,I S,I T,I U,I V,B X]).bind λa3=>
 cond (a3.1.beq 1) (some [.vC kPt (wA a3.2 0),B true]) (none)) (none)) (none))):=by kernel_rfl
def Ze4:=Am (O2 NR IK H6 PJ Hn)
def QB:=Vg NR IK H6 PJ Hn Ze4
theorem Qzm:Aj PG (Qey NR IK H6 PJ Hn):=Ap rfl ⟨Z46,Qx6,Zan,Znl,Qb5,trivial⟩
theorem Zmn:An PG (Zrt QB):=rw2 (C:=Zf0 NR IK H6 PJ Hn Ze4) (fl fb Qzm) Qzm
def Qoo:Sk:=⟨[tf [sa Ak],tf [ci],tf [ci]],[],[]⟩
def Zlm:=qa 170 Qoo Qb8
def Qcx (D E G I J L:Fn):Cfg:=cf [Qef D,Qnn E,Q47 G,Zh6 I,VR J,Zrt L]
def XE (D E G I J L:Fn):Fn:=Ao PG (Qcx D E G I J L) 64 170 Qoo Qb8
theorem Zox (U BN Cn LF BJ OL:Fn) (E:Rw) (O X:Int):XE U BN Cn LF BJ OL [.vC Ak E,I O,I X]=
 cond (decide (0<=O)&&decide (O<(E.length:Int))) ((OL (AV Ak (nth [] E O.toNat))).bind λD=>
 (BJ (AV Ak (nth [] E O.toNat))).bind λa1=>
 cond (!bA a1 0) (some [.vC kPt (wA D 0)]) (cond (decide (0<=1)&&decide (1<=(↑(wA D 0).length:Int))) (cond (decide (0<=V ((↑(wA D 0).length:Int)-1))&&decide (V ((↑(wA D 0).length:Int)-1)<=(↑(wA D 0).length:Int))) (cond (decide (X>=0)) (cond (decide (0<=X)&&decide (X<(E.length:Int))) ((LF (AV Ak (nth [] E X.toNat)++AV Ak (nth [] E O.toNat))).bind λN=>
 (Cn [.vC Ak E,I O]).bind λa2=>
 cond (bA a2 0) ((BN [.vC Ak E,I O]).bind λS=>
 cond (decide (0<=gA S 0)&&decide (gA S 0<(E.length:Int))) ((LF (AV Ak (nth [] E O.toNat)++AV Ak (nth [] E (gA S 0).toNat))).bind λY=>
 cond ((([]++wA N 1).length*24).ble 140737488355328) ((U (AV Ak (nth [] E O.toNat))).bind λG=>
 cond ((([]++wA N 1++[[jA G 0,jA G 1,jA G 2]]).length*24).ble 140737488355328) (cond ((([]++wA N 1++[[jA G 0,jA G 1,jA G 2]]++wA Y 0).length*24).ble 140737488355328) (some [.vC kPt ([]++wA N 1++[[jA G 0,jA G 1,jA G 2]]++wA Y 0)]) (none)) (none)) (none)) (none)) (cond ((([]++wA N 1).length*24).ble 140737488355328) ((U (AV Ak (nth [] E O.toNat))).bind λJ=>
 cond ((([]++wA N 1++[[jA J 0,jA J 1,jA J 2]]).length*24).ble 140737488355328) (cond ((([]++wA N 1++[[jA J 0,jA J 1,jA J 2]]++List.drop (V ((↑(wA D 0).length:Int)-1)).toNat (wA D 0)).length*24).ble 140737488355328) (some [.vC kPt ([]++wA N 1++[[jA J 0,jA J 1,jA J 2]]++List.drop (V ((↑(wA D 0).length:Int)-1)).toNat (wA D 0))]) (none)) (none)) (none))) (none)) ((Cn [.vC Ak E,I O]).bind λa3=>
 cond (bA a3 0) ((BN [.vC Ak E,I O]).bind λT=>
 cond (decide (0<=gA T 0)&&decide (gA T 0<(E.length:Int))) ((LF (AV Ak (nth [] E O.toNat)++AV Ak (nth [] E (gA T 0).toNat))).bind λa0=>
 cond ((([]++List.take (Int.toNat 1) (wA D 0)).length*24).ble 140737488355328) ((U (AV Ak (nth [] E O.toNat))).bind λL=>
 cond ((([]++List.take (Int.toNat 1) (wA D 0)++[[jA L 0,jA L 1,jA L 2]]).length*24).ble 140737488355328) (cond ((([]++List.take (Int.toNat 1) (wA D 0)++[[jA L 0,jA L 1,jA L 2]]++wA a0 0).length*24).ble 140737488355328) (some [.vC kPt ([]++List.take (Int.toNat 1) (wA D 0)++[[jA L 0,jA L 1,jA L 2]]++wA a0 0)]) (none)) (none)) (none)) (none)) (cond ((([]++List.take (Int.toNat 1) (wA D 0)).length*24).ble 140737488355328) ((U (AV Ak (nth [] E O.toNat))).bind λM=>
 cond ((([]++List.take (Int.toNat 1) (wA D 0)++[[jA M 0,jA M 1,jA M 2]]).length*24).ble 140737488355328) (cond ((([]++List.take (Int.toNat 1) (wA D 0)++[[jA M 0,jA M 1,jA M 2]]++List.drop (V ((↑(wA D 0).length:Int)-1)).toNat (wA D 0)).length*24).ble 140737488355328) (some [.vC kPt ([]++List.take (Int.toNat 1) (wA D 0)++[[jA M 0,jA M 1,jA M 2]]++List.drop (V ((↑(wA D 0).length:Int)-1)).toNat (wA D 0))]) (none)) (none)) (none)))) (none)) (none))) (none):=by kernel_rfl
def NW:=XE GP F2 HT R3 FB QB
theorem Z1u:Aj PG (Qcx GP F2 HT R3 FB QB):=Ap rfl ⟨Qtp,Qof,Qyr,Z4l,T7,Zmn,trivial⟩
theorem Z75:An PG (Zlm NW):=rw1 (C:=Qcx GP F2 HT R3 FB QB) Z1u
def Qgf:Sk:=⟨[TS.v true (cc 13++[sb,ci,sb]++cc 5++[sb]),tf [ci]],[],[]⟩
def Zop:=qa 168 Qgf Qar
def Qba (D:Fn):Cfg:=cf [Nw D]
def WH (D:Fn):Fn:=Ao PG (Qba D) 64 168 Qgf Qar
theorem Q0s (AS:Fn) (x0 x1 x2 x3 x4 x5 x6 x7 x8 x9 J L M:Int) (N:Bool) (D:Int) (E:Bool) (O S T U X:Int) (Y:Bool) (G:Int):WH AS [I x0,I x1,I x2,I x3,I x4,I x5,I x6,I x7,I x8,I x9,I J,I L,I M,B N,I D,B E,I O,I S,I T,I U,I X,B Y,I G]=
 cond (x0==1) (some [I 0]) (cond (E) ((AS [I (mn (V (D*mx G 1)) 60000000),I 4096,I 60000,I 2]).bind λo2=>
 some [I (mx (gA o2 0) 1)]) ((AS [I (mn D 60000000),I 4096,I 60000,I 2]).bind λo3=>
 some [I (mx (gA o3 0) 1)])):=by kernel_rfl
def Kl:=WH BO
theorem Zu6:Aj PG (Qba BO):=Ap rfl ⟨L0,trivial⟩
theorem Z9y:An PG (Zop Kl):=rw1 (C:=Qba BO) Zu6
def Qmc:Sk:=⟨[tf [sd 20000 0],tf [sa Ak],tf [ci],tf [ci]],[(20000,142,[ci,ci,ci,se 20000 7,se 20001 3,sb,ci,ci,ci])],[(20000,162,Ag),(20001,76,kPt)]⟩
def Qff:Sk:=⟨[tf [sb]],[(20000,142,[ci,ci,ci,se 20000 7,se 20001 3,sb,ci,ci,ci])],[(20000,162,Ag),(20001,76,kPt)]⟩
def Z9a:=qa 126 Qmc Qff
def Qcz (D E G I J L:Fn):Cfg:=cp [Qef D,VR E,Z8u G,Zlm I,Qxu J,Zop L] [171]
def Zah:Sk:=⟨[tf [sd 20000 0]]++dd 8++[tf [sd 9 0],tf [sd 10 0]]++dd 24++[tf [sa kPt],tf [ci],tf [ci]]++dd 30,[(9,74,cc 13++[sb,ci,sb]++cc 5++[sb]),(10,162,cc 7),(20000,142,[ci,ci,ci,se 20000 7,se 20001 3,sb,ci,ci,ci])],[(20000,162,Ag),(20001,76,kPt)]⟩
def Q21:List (Ex×Sk):=[(Ex.exit 0,⟨[tf [sd 20000 0]]++dd 67,[(20000,142,[ci,ci,ci,se 20000 7,se 20001 3,sb,ci,ci,ci])],[(20000,162,Ag),(20001,76,kPt)]⟩)]
def Nr (D E G I J L:Fn):Lp:=A9 PG (Qcz D E G I J L) 64 6 (A8 PG 126 6) Zah Q21
def Qw3 (D E G I J L:Fn) (M:Lp):Cfg:=(Qcz D E G I J L).loop 6 Zah Q21 M
def Qm9 (D E G I J L:Fn) (M:Lp):Fn:=Ao PG (Qw3 D E G I J L M) 64 126 Qmc Qff
theorem Zfw (Cp BJ HJ FU Dc HS:Fn) (v0 v1 X:Rw) (v3 E v5 v6 v7 v8 v9 v10 v11 v12 G J L M N:Int) (O:Bool) (S:Int) (v20:Bool) (v21 v22 T v24 v25:Int) (U:Bool) (v27 v28 Y v30 v31 a0 v33 a1 v35 v36:Int) (v37:Bool) (v38 a2 v40:Int):Nr Cp BJ HJ FU Dc HS [.vC Ag v0, .vC kPt v1, .vC kPt X,I v3,I E,I v5,I v6,I v7,I v8,I v9,I v10,I v11,I v12,I G,I J,I L,I M,I N,B O,I S,B v20,I v21,I v22,I T,I v24,I v25,B U,I v27,I v28,I Y,I v30,I v31,I a0,I v33,I a1,I v35,I v36,B v37,I v38,I a2,I v40]=
 cond (decide (E<v3)) (cond (decide (0<=E)&&decide (E<(X.length:Int))) ((HJ [.vC Ag v0, .vC kPt v1,jA (nth [] X E.toNat) 0,jA (nth [] X E.toNat) 1,jA (nth [] X E.toNat) 2,I v27,I v28,I Y,I v30,I v31,I a0,I v33,I a1,I v35,I v36,B v37,I v38,I a2,I v40]).bind λD=>
 (BJ [I v5,I v6,I v7,I v8,I v9,I v10,I v11,I v12,I G,I J,I L,I M,I N,B O,I S,B v20,I v21,I v22,I T,I v24,I v25,B U]).bind λa4=>
 cond (bA a4 0) ((Cp [I v5,I v6,I v7,I v8,I v9,I v10,I v11,I v12,I G,I J,I L,I M,I N,B O,I S,B v20,I v21,I v22,I T,I v24,I v25,B U]).bind λa3=>
 cond (gA (nth [] X E.toNat) 0==gA a3 0&&(gA (nth [] X E.toNat) 1==gA a3 1&&(gA (nth [] X E.toNat) 2==gA a3 2&&true))) (some (0,[.vC Ag (wA D 0), .vC kPt (wA D 1), .vC kPt X,I v3,I (V (E+1)),I v5,I v6,I v7,I v8,I v9,I v10,I v11,I v12,I G,I J,I L,I M,I N,B O,I S,B v20,I v21,I v22,I T,I v24,I v25,B U,I v27,I v28,I Y,I v30,I v31,I a0,I v33,jA D 2,jA D 3,jA D 4,B (bA D 5),jA D 6,jA D 7,jA D 6])) (some (0,[.vC Ag (wA D 0), .vC kPt (wA D 1), .vC kPt X,I v3,I (V (E+1)),I v5,I v6,I v7,I v8,I v9,I v10,I v11,I v12,I G,I J,I L,I M,I N,B O,I S,B v20,I v21,I v22,I T,I v24,I v25,B U,I v27,I v28,I Y,I v30,I v31,I a0,I v33,jA D 2,jA D 3,jA D 4,B (bA D 5),jA D 6,jA D 7,jA D 8]))) (some (0,[.vC Ag (wA D 0), .vC kPt (wA D 1), .vC kPt X,I v3,I (V (E+1)),I v5,I v6,I v7,I v8,I v9,I v10,I v11,I v12,I G,I J,I L,I M,I N,B O,I S,B v20,I v21,I v22,I T,I v24,I v25,B U,I v27,I v28,I Y,I v30,I v31,I a0,I v33,jA D 2,jA D 3,jA D 4,B (bA D 5),jA D 6,jA D 7,jA D 8]))) (none)) (some (1,[.vC Ag v0, .vC kPt v1,I a1,I v35,I v36,B v37,I v38,I a2,I v40])):=by kernel_rfl
abbrev Qf0 (S:Fn) (O:Rw) (J T:Int) (U:Lp) (V X:Rw) (L:List AC) (Y x6 x7:Int) (x8:Bool) (x9 M N:Int) (E:AC):Option (List AC):=
 (S [.vC Ak O,I J,I T]).bind λG=>
 (U (.vC Ag V:: .vC kPt X:: .vC kPt (wA G 0)::I (↑(wA G 0).length:Int)::I 0::(AV Ak (nth [] O J.toNat)++[I 0,I 0,I 0,I 0,I J,jA L 0,E,I Y,I x6,I x7,B x8,I x9,I M,I N]))).bind λD=>
 cond (D.1.beq 1) (some [.vC Ag (wA D.2 0), .vC kPt (wA D.2 1),B (decide ((↑(wA D.2 0).length:Int)<=1048576)),jA D.2 2,jA D.2 3,jA D.2 4,B (bA D.2 5),jA D.2 6,jA D.2 7,jA D.2 8]) (none)
theorem Yb0 (Cp BJ HJ M Dc HS:Fn) (N:Lp) (O S G:Rw) (E T U X Y:Int) (x8:Bool) (x9 D J:Int):Qm9 Cp BJ HJ M Dc HS N [.vC Ag O, .vC kPt S, .vC Ak G,I E,I T,I U,I X,I Y,B x8,I x9,I D,I J]=
 cond (decide (0<=E)&&decide (E<(G.length:Int))) ((HS (AV Ak (nth [] G E.toNat)++[I D])).bind λL=>
 (Dc (AV Ak (nth [] G E.toNat))).bind λa0=>
 cond (bA a0 0) (Qf0 M G E T N O S L U X Y x8 x9 D J (I (mn (V (gA (nth [] G E.toNat) 14*16)) 16777216))) (Qf0 M G E T N O S L U X Y x8 x9 D J (I 0))) (none):=by kernel_rfl
def Qwn:=Am (Nr GP FB Qb NW Im Kl)
def KY:=Qm9 GP FB Qb NW Im Kl Qwn
theorem Qzl:Aj PG (Qcz GP FB Qb NW Im Kl):=Ap rfl ⟨Qtp,T7,Zh5,Z75,Q6f,Z9y,trivial⟩
theorem Ya6:An PG (Z9a KY):=rw2 (C:=Qw3 GP FB Qb NW Im Kl Qwn) (fl fb Qzl) Qzl
def Z2e:=qa 122 Qg2 Qar
def W8 (D E:Fn):Cfg:=cf [Qc2 D,Vk E]
def Qkb (D E:Fn):Fn:=Ao PG (W8 D E) 64 122 Qg2 Qar
abbrev L1 (G D E:Int):Option (List AC):=
 cond (G==8) (cond (decide (D<3)) (some [I 1]) (cond (decide (D>5)) (some [I 1]) (cond (decide (E<0)) (some [I 1]) (cond (decide (E>30000)) (some [I 1]) (some [I 0]))))) (some [I 0])
theorem Zr7 (C7 Y:Fn) (G x1 x2 x3 x4 x5 x6 x7 x8 x9 M N O:Int) (S:Bool) (J:Int) (T:Bool) (U V L D E:Int) (X:Bool):Qkb C7 Y [I G,I x1,I x2,I x3,I x4,I x5,I x6,I x7,I x8,I x9,I M,I N,I O,B S,I J,B T,I U,I V,I L,I D,I E,B X]=
 cond (decide (G<1)) (some [I 1]) (cond (decide (G>14)) (some [I 1]) ((Y [I G]).bind λo4=>
 cond (bA o4 0) ((C7 [I G,I x1,I x2,I x3,I x4,I x5,I x6,I x7,I x8,I x9,I M,I N,I O,B S,I J,B T,I U,I V,I L,I D,I E,B X]).bind λo5=>
 cond (!bA o5 0) (some [I 1]) (cond (decide (L<0)) (some [I 1]) (cond (decide (L>1000)) (some [I 1]) ((Y [I G]).bind λo6=>
 cond (bA o6 0) (cond (G !=1) (cond (decide (J<1)) (some [I 1]) (cond (decide (J>60000000)) (some [I 1]) (L1 G D E))) (L1 G D E)) (L1 G D E))))) ((Y [I G]).bind λo7=>
 cond (bA o7 0) (cond (G !=1) (cond (decide (J<1)) (some [I 1]) (cond (decide (J>60000000)) (some [I 1]) (L1 G D E))) (L1 G D E)) (L1 G D E)))):=by kernel_rfl
def JQ:=Qkb Hn Eh
theorem Zsx:Aj PG (W8 Hn Eh):=Ap rfl ⟨Qb5,TK,trivial⟩
theorem Ycy:An PG (Z2e JQ):=rw1 (C:=W8 Hn Eh) Zsx
def Qr1:Sk:=⟨[tf [sa Ak]],[],[]⟩
def Qn4:Sk:=⟨[TS.tup [(false,[sd 13 0]),(false,[ci])]],[(13,142,[ci,ci,ci,se 1013003 7,se 1013004 3,sb,ci,ci,ci])],[(1013003,162,Ag),(1013004,76,kPt)]⟩
def Qvv:=qa 80 Qr1 Qn4
def Qdm (D E G I J L:Fn):Cfg:=cp [Zjb D,Z9a E,Qnn G,Q47 I,Vk J,Z2e L] [127,126]
def Zai:Sk:=⟨[tf [sa Ak],td,td,td,tf [sd 13 0],tf [ci]]++dd 12++[tf [sa Ak],tf [ci],tf [ci]]++dd 87,[(13,142,[ci,ci,ci,se 1013003 7,se 1013004 3,sb,ci,ci,ci])],[(1013003,162,Ag),(1013004,76,kPt)]⟩
def Qvj:List (Ex×Sk):=[(Ex.ret,⟨[td,td,tf [sd 13 0],tf [ci]]++dd 104,[(13,142,[ci,ci,ci,se 1013003 7,se 1013004 3,sb,ci,ci,ci])],[(1013003,162,Ag),(1013004,76,kPt)]⟩),(Ex.exit 0,⟨[tf [sa Ak],td,td,td,tf [sd 13 0]]++dd 103,[(13,142,[ci,ci,ci,se 1013003 7,se 1013004 3,sb,ci,ci,ci])],[(1013003,162,Ag),(1013004,76,kPt)]⟩)]
def Q1 (D E G I J L:Fn):Lp:=A9 PG (Qdm D E G I J L) 64 6 (A8 PG 80 6) Zai Qvj
def Q17 (D E G I J L:Fn) (M:Lp):Cfg:=(Qdm D E G I J L).loop 6 Zai Qvj M
def Zd1:Sk:=⟨[tf [sa Ak],td,td,td,tf [sd 13 0],tf [ci]]++dd 44++[tf [sa Ak],tf [ci],tf [ci]]++dd 55,[(13,142,[ci,ci,ci,se 1013003 7,se 1013004 3,sb,ci,ci,ci])],[(1013003,162,Ag),(1013004,76,kPt)]⟩
def Zew:List (Ex×Sk):=[(Ex.ret,⟨[td,td,tf [sd 13 0],tf [ci]]++dd 104,[(13,142,[ci,ci,ci,se 1013003 7,se 1013004 3,sb,ci,ci,ci])],[(1013003,162,Ag),(1013004,76,kPt)]⟩),(Ex.exit 2,⟨[td,td,td,td,tf [sd 13 0]]++dd 103,[(13,142,[ci,ci,ci,se 1013003 7,se 1013004 3,sb,ci,ci,ci])],[(1013003,162,Ag),(1013004,76,kPt)]⟩)]
def QA (D E G I J L:Fn) (M:Lp):Lp:=A9 PG (Q17 D E G I J L M) 64 18 (A8 PG 80 18) Zd1 Zew
def Q77 (E G I J L M:Fn) (N D:Lp):Cfg:=(Q17 E G I J L M N).loop 18 Zd1 Zew D
def Qmf (E G I J L M:Fn) (N D:Lp):Fn:=Ao PG (Q77 E G I J L M N D) 64 80 Qr1 Qn4
theorem Q70 (CB CI BN Cn Y EZ:Fn) (v0 M J:Rw) (L:Int) (G:Rw) (T E N O S:Int) (v10:Bool) (v11 v12 D:Int):Q1 CB CI BN Cn Y EZ [.vC Ag v0, .vC kPt M, .vC Ak J,I L, .vC Ak G,I T,I E,I N,I O,I S,B v10,I v11,I v12,I D]=
 cond (decide (E<T)) (cond (decide (0<=E)&&decide (E<(G.length:Int))) ((EZ (AV Ak (nth [] G E.toNat))).bind λU=>
 cond (gA U 0 !=0) (some (1,[.vC Ag v0, .vC kPt M,jA U 0,I N,I O,I S,B v10,I v11,I v12,I D])) ((Y [jA (nth [] G E.toNat) 0]).bind λX=>
 cond (!bA X 0) (some (0,[.vC Ag v0, .vC kPt M, .vC Ak J,I L, .vC Ak G,I T,I (V (E+1)),I N,I O,I S,B v10,I v11,I v12,I D])) (cond (decide (L>=0)) (cond (decide (0<=L)&&decide (L<(J.length:Int))) (cond (!(gA (nth [] J L.toNat) 5==gA (nth [] G E.toNat) 2&&(gA (nth [] J L.toNat) 6==gA (nth [] G E.toNat) 3&&(gA (nth [] J L.toNat) 7==gA (nth [] G E.toNat) 4&&true)))) (some (1,[.vC Ag v0, .vC kPt M,I 13,I N,I O,I S,B v10,I v11,I v12,I D])) (some (0,[.vC Ag v0, .vC kPt M, .vC Ak J,I E, .vC Ak G,I T,I (V (E+1)),I N,I O,I S,B v10,I v11,I v12,I D]))) (none)) (some (0,[.vC Ag v0, .vC kPt M, .vC Ak J,I E, .vC Ak G,I T,I (V (E+1)),I N,I O,I S,B v10,I v11,I v12,I D]))))) (none)) (some (2,[.vC Ag v0, .vC kPt M, .vC Ak J,I N,I O,I S,B v10,I v11,I v12,I D])):=by kernel_rfl
abbrev RV (O:Fn) (v0 S M:Rw) (L T U X:Int) (v10:Bool) (v11:Int) (G:AC) (N:Int) (Y:Fn) (v4:Rw) (v5:Int) (J:AC):Option (Nat×List AC):=
 (O [.vC Ag v0, .vC kPt S, .vC Ak M,I L,J,I T,I U,I X,B v10,I v11,G,I N]).bind λD=>
 cond (!bA D 2) (some (1,[.vC Ag (wA D 0), .vC kPt (wA D 1),I 10,jA D 3,jA D 4,jA D 5,B (bA D 6),jA D 7,jA D 8,jA D 9])) ((Y [.vC Ag (wA D 0), .vC kPt (wA D 1), .vC Ak M,I L,jA D 3,jA D 4,jA D 5,B (bA D 6),jA D 7,jA D 8,jA D 9]).bind λE=>
 some (0,[.vC Ag (wA E 0), .vC kPt (wA E 1), .vC Ak M,I L, .vC Ak v4,I v5,I (V (L+1)),jA E 2,jA E 3,jA E 4,B (bA E 5),jA E 6,jA E 7,jA E 8]))
abbrev QE (AZ:Fn) (M:Rw) (J N:Int) (Cn:Fn) (L:Rw) (CI:Fn) (v0 O:Rw) (S T U:Int) (v10:Bool) (v11 G:Int) (X:Fn) (Y:Int) (BN:Fn) (E:AC):Option (Nat×List AC):=
 (AZ [jA (nth [] M J.toNat) 0]).bind λa0=>
 cond (bA a0 0) (cond (decide (N>=0)) ((Cn [.vC Ak L,I N]).bind λa1=>
 cond (!bA a1 0) (RV CI v0 O L J S T U v10 v11 E G X M Y (I (-1))) ((BN [.vC Ak L,I N]).bind λa2=>
 cond (gA a2 0 !=J) (RV CI v0 O L J S T U v10 v11 E G X M Y (I (-1))) (RV CI v0 O L J S T U v10 v11 E G X M Y (I N)))) (RV CI v0 O L J S T U v10 v11 E G X M Y (I N))) ((X [.vC Ag v0, .vC kPt O, .vC Ak L,I J,I S,I T,I U,B v10,I v11,E,I G]).bind λD=>
 some (0,[.vC Ag (wA D 0), .vC kPt (wA D 1), .vC Ak L,I N, .vC Ak M,I Y,I (V (J+1)),jA D 2,jA D 3,jA D 4,B (bA D 5),jA D 6,jA D 7,jA D 8]))
theorem Zbh (S T U V X EZ:Fn) (N6:Lp) (v0 J Y:Rw) (v3:Int) (G:Rw) (L D M N O:Int) (v10:Bool) (v11 v12 E:Int):QA S T U V X EZ N6 [.vC Ag v0, .vC kPt J, .vC Ak Y,I v3, .vC Ak G,I L,I D,I M,I N,I O,B v10,I v11,I v12,I E]=
 cond (decide (D<L)) (cond (decide (0<=D)&&decide (D<(G.length:Int))) (cond (gA (nth [] G D.toNat) 0==8) (cond (gA (nth [] G D.toNat) 19==3) (QE X G D v3 V Y T v0 J M N O v10 v11 E S L U (jA (nth [] G D.toNat) 20)) (cond (gA (nth [] G D.toNat) 19==4) (QE X G D v3 V Y T v0 J M N O v10 v11 E S L U (jA (nth [] G D.toNat) 20)) (QE X G D v3 V Y T v0 J M N O v10 v11 E S L U (I v12)))) (QE X G D v3 V Y T v0 J M N O v10 v11 E S L U (I v12))) (none)) (some (2,[.vC Ag v0, .vC kPt J,I M,I N,I O,B v10,I v11,I v12,I E])):=by kernel_rfl
theorem Zu3 (M N O S T U:Fn) (L G:Lp) (J:Rw):Qmf M N O S T U L G [.vC Ak J]=
 cond (decide ((J.length:Int)>20000)) (some [.vC Ag [], .vC kPt [],I 10,I 0,I 0,I 0,B false,I 0,I 0,I 0]) ((L [.vC Ag [], .vC kPt [], .vC Ak J,I (-1), .vC Ak J,I (J.length:Int),I 0,I 0,I 0,I 0,B false,I 0,I 0,I 0]).bind λD=>
 cond (D.1.beq 1) (some [.vC Ag (wA D.2 0), .vC kPt (wA D.2 1),jA D.2 2,jA D.2 3,jA D.2 4,jA D.2 5,B (bA D.2 6),jA D.2 7,jA D.2 8,jA D.2 9]) (cond (D.1.beq 2) ((G [.vC Ag (wA D.2 0), .vC kPt (wA D.2 1), .vC Ak (wA D.2 2),I (-1), .vC Ak (wA D.2 2),I (↑(wA D.2 2).length:Int),I 0,jA D.2 3,jA D.2 4,jA D.2 5,B (bA D.2 6),jA D.2 7,jA D.2 8,jA D.2 9]).bind λE=>
 cond (E.1.beq 1) (some [.vC Ag (wA E.2 0), .vC kPt (wA E.2 1),jA E.2 2,jA E.2 3,jA E.2 4,jA E.2 5,B (bA E.2 6),jA E.2 7,jA E.2 8,jA E.2 9]) (cond (E.1.beq 2) (some [.vC Ag (wA E.2 0), .vC kPt (wA E.2 1),I 0,jA E.2 2,jA E.2 3,jA E.2 4,B (bA E.2 5),jA E.2 6,jA E.2 7,jA E.2 8]) (none))) (none))):=by kernel_rfl
def RS:=Am (Q1 JJ KY F2 HT Eh JQ)
def Zfn:=Am (QA JJ KY F2 HT Eh JQ RS)
def JA:=Qmf JJ KY F2 HT Eh JQ RS Zfn
theorem Qd4:Aj PG (Qdm JJ KY F2 HT Eh JQ):=Ap rfl ⟨Zm9,Ya6,Qof,Qyr,TK,Ycy,trivial⟩
theorem Q32:An PG (Qvv JA):=rw2 (C:=Q77 JJ KY F2 HT Eh JQ RS Zfn) (fl (fl fb Qd4) Qd4) Qd4
def Zol:=qa 37 Qr1 Qar
def Qep (D E:Fn):Cfg:=cp [VR D,Qvv E] [80]
def Zff:Sk:=⟨[tf [sa Ak],td,td,tf [sd 100800 0],td,tf [ci]]++dd 47,[(100800,142,[ci,ci,ci,se 100800 7,se 100801 3,sb,ci,ci,ci])],[(100800,162,Ag),(100801,76,kPt)]⟩
def Q0i:List (Ex×Sk):=[(Ex.ret,⟨[td,td,tf [ci]]++dd 50,[],[]⟩),(Ex.exit 0,⟨[td,td,td,tf [sd 100800 0]]++dd 49,[(100800,142,[ci,ci,ci,se 100800 7,se 100801 3,sb,ci,ci,ci])],[(100800,162,Ag),(100801,76,kPt)]⟩)]
def Qe (D E:Fn):Lp:=A9 PG (Qep D E) 64 5 (A8 PG 37 5) Zff Q0i
def Za1 (D E:Fn) (G:Lp):Cfg:=(Qep D E).loop 5 Zff Q0i G
def Qml (D E:Fn) (G:Lp):Fn:=Ao PG (Za1 D E G) 64 37 Qr1 Qar
theorem Zbg (T U:Fn) (v0 J E:Rw) (D L M N:Int) (O:Bool) (G S v10:Int):Qe T U [.vC Ag v0, .vC kPt J, .vC Ak E,I D,I L,I M,I N,B O,I G,I S,I v10]=
 cond (decide (D>=0)) (cond (decide (0<=D)&&decide (D<(E.length:Int))) (cond (gA (nth [] E D.toNat) 0==10) (some (0,[.vC Ag v0, .vC kPt J, .vC Ak E,I (V (D-1)),I L,I M,I N,B O,I G,I S,I v10])) (cond (decide (0<=D)&&decide (D<(E.length:Int))) ((T (AV Ak (nth [] E D.toNat))).bind λo4=>
 cond (bA o4 0) (cond (decide (0<=D)&&decide (D<(E.length:Int))) (cond (gA (nth [] E D.toNat) 18 !=0) (some (1,[I v10])) (some (1,[I G]))) (none)) (some (1,[I G]))) (none))) (none)) (some (2,[.vC Ag v0, .vC kPt J,I L,I M,I N,B O,I G,I S,I v10])):=by kernel_rfl
theorem Zb2 (M J:Fn) (L:Lp) (E:Rw):Qml M J L [.vC Ak E]=
 (J [.vC Ak E]).bind λD=>
 cond (gA D 2 !=0) (some [I 0]) ((L [.vC Ag (wA D 0), .vC kPt (wA D 1), .vC Ak E,I (V ((E.length:Int)-1)),jA D 3,jA D 4,jA D 5,B (bA D 6),jA D 7,jA D 8,jA D 9]).bind λG=>
 cond (G.1.beq 1) (some [jA G.2 0]) (cond (G.1.beq 2) (some [jA G.2 6]) (none))):=by kernel_rfl
def Zdd:=Am (Qe FB JA)
def Ot:=Qml FB JA Zdd
theorem Qx0:Aj PG (Qep FB JA):=Ap rfl ⟨T7,Q32,trivial⟩
theorem Zxw:An PG (Zol Ot):=rw2 (C:=Za1 FB JA Zdd) (fl fb Qx0) Qx0
def Qig:Sk:=⟨[tf [ci],tf [ci],tf [ci]],[],[]⟩
def Qk5:=qa 140 Qig Qrs
def Qdc:Fn:=Ao PG Qdd 64 140 Qig Qrs
theorem Zh4 (D E G:Int):Qdc [I D,I E,I G]=
 cond (decide (E<=D)) (some [B (decide (D<=G))]) (some [B false]):=by kernel_rfl
def HA:=Qdc
theorem Qo2:An PG (Qk5 HA):=rw1 (C:=Qdd) Zhu
def Z8y:=qa 142 Qbu Qrs
def Xb (D:Fn):Cfg:=cf [Qk5 D]
def Qll (D:Fn):Fn:=Ao PG (Xb D) 64 142 Qbu Qrs
theorem Zlh (E:Fn) (L M N O G J S T U:Int) (V:Rw) (D:Int):Qll E [I L,I M,I N,I O,I G,I J,I S,I T,I U, .vC Aa V,I D]=
 (E [I D,I G,I J]).bind λo1=>
 some [B (bA o1 0)]:=by kernel_rfl
def Iq:=Qll HA
theorem Z1t:Aj PG (Xb HA):=Ap rfl ⟨Qo2,trivial⟩
theorem Zyb:An PG (Z8y Iq):=rw1 (C:=Xb HA) Z1t
def Qj1:Sk:=⟨[TS.v true (cc 9++[sa Aa]++cc 9++[sa Aa]++cc 9++[sa Aa]),TS.v true [ci,ci,ci,sa Ag,sa kPt]],[],[]⟩
def Zi9:=qa 90 Qj1 Qrs
def Qsh (D:Fn):Cfg:={cf [Z8y D]with rowDst:=[13],unroll:=[11]}
def Q4a:Sk:=⟨[td,td,tf [sd 2 0],td,td,tf [se 13 3]]++dd 9++[tf [sa Ag],tf [ci],tf [ci]]++dd 28,[(2,27,cc 9++[sa Aa]++cc 9++[sa Aa]++cc 9++[sa Aa])],[(13,54,kPt)]⟩
def Q83:List (Ex×Sk):=[(Ex.exit 0,⟨[td,td,tf [sd 2 0],td,td,tf [se 13 3]]++dd 40,[(2,27,cc 9++[sa Aa]++cc 9++[sa Aa]++cc 9++[sa Aa])],[(13,54,kPt)]⟩)]
def Q3 (D:Fn):Lp:=A9 PG (Qsh D) 64 3 (A8 PG 90 3) Q4a Q83
def Q0d (D:Fn) (E:Lp):Cfg:=(Qsh D).loop 3 Q4a Q83 E
def Za0:Sk:=⟨[td,td,tf [sd 2 0]]++dd 24++[tf [se 13 3],tf [ci],tf [ci]]++dd 16,[(2,27,cc 9++[sa Aa]++cc 9++[sa Aa]++cc 9++[sa Aa])],[(13,54,kPt)]⟩
def Q53:List (Ex×Sk):=[(Ex.ret,⟨[td,td,td,td,tf [sb]]++dd 41,[],[]⟩),(Ex.exit 2,⟨[td]++dd 45,[],[]⟩)]
def VE (D:Fn) (E:Lp):Lp:=A9 PG (Q0d D E) 64 8 (A8 PG 90 8) Za0 Q53
def Zar (D:Fn) (E G:Lp):Cfg:=(Q0d D E).loop 8 Za0 Q53 G
def Qax (D:Fn) (E G:Lp):Fn:=Ao PG (Zar D E G) 64 90 Qj1 Qrs
theorem Zw5 (Ey:Fn) (v0 E:Rw) (v2 D v4 v5 v6 v7 v8 v9 v10 v11 v12:Int) (G:Rw) (J L M N O S v20 v21 v22:Int) (T:Rw) (v24 v25 U v27 v28 X v30 v31 Y:Int) (v33:Rw):Q3 Ey [.vC kPt v0, .vC Ag E,I v2,I D,I v4,I v5,I v6,I v7,I v8,I v9,I v10,I v11,I v12, .vC Aa G,I J,I L,I M,I N,I O,I S,I v20,I v21,I v22, .vC Aa T,I v24,I v25,I U,I v27,I v28,I X,I v30,I v31,I Y, .vC Aa v33]=
 cond (decide (D<v2)) (cond (decide (0<=D)&&decide (D<(E.length:Int))) (cond (((v0++[[jA (nth [] E D.toNat) 0,jA (nth [] E D.toNat) 1,jA (nth [] E D.toNat) 2]]).length*24).ble 140737488355328) (some (0,[.vC kPt (v0++[[jA (nth [] E D.toNat) 0,jA (nth [] E D.toNat) 1,jA (nth [] E D.toNat) 2]]), .vC Ag E,I v2,I (V (D+1)),I v4,I v5,I v6,I v7,I v8,I v9,I v10,I v11,I v12, .vC Aa G,I J,I L,I M,I N,I O,I S,I v20,I v21,I v22, .vC Aa T,I v24,I v25,I U,I v27,I v28,I X,I v30,I v31,I Y, .vC Aa v33])) (none)) (none)) (some (1,[.vC kPt v0,I v4,I v5,I v6,I v7,I v8,I v9,I v10,I v11,I v12, .vC Aa G,I J,I L,I M,I N,I O,I S,I v20,I v21,I v22, .vC Aa T,I v24,I v25,I U,I v27,I v28,I X,I v30,I v31,I Y, .vC Aa v33])):=by kernel_rfl
theorem Zz9 (Y:Fn) (N3:Lp) (v0:Rw) (v1 D v3 v4 v5 v6 v7 v8 v9 v10 v11:Int) (v12:Rw) (E G J L M N O v20 v21:Int) (v22:Rw) (S v24 v25 T v27 v28 U v30 v31:Int) (X:Rw):VE Y N3 [.vC kPt v0,I v1,I D,I v3,I v4,I v5,I v6,I v7,I v8,I v9,I v10,I v11, .vC Aa v12,I E,I G,I J,I L,I M,I N,I O,I v20,I v21, .vC Aa v22,I S,I v24,I v25,I T,I v27,I v28,I U,I v30,I v31, .vC Aa X]=
 cond (decide (D<v1)) (cond (decide (0<=D)&&decide (D<(v0.length:Int))) ((Y [I v3,I v4,I v5,I v6,I v7,I v8,I v9,I v10,I v11, .vC Aa v12,jA (nth [] v0 D.toNat) 0]).bind λo6=>
 cond (!bA o6 0) (some (1,[B false])) ((Y [I E,I G,I J,I L,I M,I N,I O,I v20,I v21, .vC Aa v22,jA (nth [] v0 D.toNat) 1]).bind λo7=>
 cond (!bA o7 0) (some (1,[B false])) ((Y [I S,I v24,I v25,I T,I v27,I v28,I U,I v30,I v31, .vC Aa X,jA (nth [] v0 D.toNat) 2]).bind λo8=>
 cond (!bA o8 0) (some (1,[B false])) (some (0,[.vC kPt v0,I v1,I (V (D+1)),I v3,I v4,I v5,I v6,I v7,I v8,I v9,I v10,I v11, .vC Aa v12,I E,I G,I J,I L,I M,I N,I O,I v20,I v21, .vC Aa v22,I S,I v24,I v25,I T,I v27,I v28,I U,I v30,I v31, .vC Aa X]))))) (none)) (some (2,[])):=by kernel_rfl
theorem Zwa (Ey:Fn) (N3 N8:Lp) (x0 x1 x2 x3 x4 x5 x6 x7 x8:Int) (x9:Rw) (J L M N O S T U V:Int) (X:Rw) (Y a0 a1 a2 a3 a4 a5 a6 a7:Int) (a8:Rw) (a9 b0 b1:Int) (E b2:Rw):Qax Ey N3 N8 [I x0,I x1,I x2,I x3,I x4,I x5,I x6,I x7,I x8, .vC Aa x9,I J,I L,I M,I N,I O,I S,I T,I U,I V, .vC Aa X,I Y,I a0,I a1,I a2,I a3,I a4,I a5,I a6,I a7, .vC Aa a8,I a9,I b0,I b1, .vC Ag E, .vC kPt b2]=
 (N3 [.vC kPt [[I a9,I b0,I b1]], .vC Ag E,I (E.length:Int),I 0,I x0,I x1,I x2,I x3,I x4,I x5,I x6,I x7,I x8, .vC Aa x9,I J,I L,I M,I N,I O,I S,I T,I U,I V, .vC Aa X,I Y,I a0,I a1,I a2,I a3,I a4,I a5,I a6,I a7, .vC Aa a8]).bind λD=>
 cond (D.1.beq 1) ((N8 [.vC kPt (wA D.2 0),I (↑(wA D.2 0).length:Int),I 0,jA D.2 1,jA D.2 2,jA D.2 3,jA D.2 4,jA D.2 5,jA D.2 6,jA D.2 7,jA D.2 8,jA D.2 9, .vC Aa (wA D.2 10),jA D.2 11,jA D.2 12,jA D.2 13,jA D.2 14,jA D.2 15,jA D.2 16,jA D.2 17,jA D.2 18,jA D.2 19, .vC Aa (wA D.2 20),jA D.2 21,jA D.2 22,jA D.2 23,jA D.2 24,jA D.2 25,jA D.2 26,jA D.2 27,jA D.2 28,jA D.2 29, .vC Aa (wA D.2 30)]).bind λG=>
 cond (G.1.beq 1) (some [B (bA G.2 0)]) (cond (G.1.beq 2) (some [B true]) (none))) (none):=by kernel_rfl
def Qje:=Am (Q3 Iq)
def Q54:=Am (VE Iq Qje)
def QF:=Qax Iq Qje Q54
theorem Qhy:Aj PG (Qsh Iq):=Ap rfl ⟨Zyb,trivial⟩
theorem Z6c:An PG (Zi9 QF):=rw2 (C:=Zar Iq Qje Q54) (fl (fl fb Qhy) Qhy) Qhy
def Qq1:Sk:=⟨[TS.tup [(true,[ci,ci,ci,sa Ag,sa kPt]),(false,[ci])]],[],[]⟩
def Zgf:=qa 89 Qr1 Qq1
def Qgu (D:Fn):Cfg:=cp [Qvv D] [80]
def Qjt (D:Fn):Fn:=Ao PG (Qgu D) 64 89 Qr1 Qq1
theorem Zxr (D:Fn) (E:Rw):Qjt D [.vC Ak E]=
 (D [.vC Ak E]).bind λo1=>
 cond (gA o1 2 !=0) (some [I 0,I 0,I 0, .vC Ag [], .vC kPt [],jA o1 2]) (some [jA o1 3,jA o1 4,jA o1 5, .vC Ag (wA o1 0), .vC kPt (wA o1 1),I 0]):=by kernel_rfl
def On:=Qjt JA
theorem Zyp:Aj PG (Qgu JA):=Ap rfl ⟨Q32,trivial⟩
theorem Zpd:An PG (Zgf On):=rw1 (C:=Qgu JA) Zyp
def Qnj:Sk:=⟨[tf [sd 20000 0],tf [sa Ak],tf [sb]],[(20000,119,cS)],[]⟩
def Zs8:=qa 57 Qnj Qni
def Qgm (D E G I:Fn):Cfg:={cf [Zol D,Zbz E,Zi9 G,Zgf I]with fstore:=true}
def Rf (D E G I:Fn):Fn:=Ao PG (Qgm D E G I) 64 57 Qnj Qni
theorem Zkd (E G J L:Fn) (D:Rw) (M:Bool) (K:Kf) (c:Cv):Rf E G J L (.vC Ak D::B M::Ab K c)=
 (L [.vC Ak D]).bind λo4=>
 cond (gA o4 5 !=0) (some (jA o4 5::Ab K c)) ((J (AL K.x++[jA o4 0,jA o4 1,jA o4 2, .vC Ag (wA o4 3), .vC kPt (wA o4 4)])).bind λN=>
 cond (!bA N 0) (some (I 17::Ab K c)) (cond ((D.length*176).ble 140737488355328) ((G [jA o4 0,jA o4 1,jA o4 2, .vC Ag (wA o4 3), .vC kPt (wA o4 4)]).bind λO=>
 (E [.vC Ak D]).bind λS=>
 some (I 0::DY (Ab K c) [(35, .vC Ak D),(36,B M),(37,jA o4 0),(38,jA o4 1),(39,jA o4 2),(40, .vC Ag (wA o4 3)),(41, .vC kPt (wA o4 4)),(42,jA O 0),(43,jA S 0)])) (none))):=by kernel_rfl
def UK:=Rf Ot J_ QF On
theorem Zpf:Aj PG (Qgm Ot J_ QF On):=Ap rfl ⟨Zxw,Q9i,Z6c,Zpd,trivial⟩
theorem Zud:An PG (Zs8 UK):=rw1 (C:=Qgm Ot J_ QF On) Zpf
def Zy1:=qa 55 Qbe Qpy
def Qhq:Fn:=Ao PG Qdd 64 55 Qbe Qpy
theorem Z51:Qhq []=
 some [I 100,I 100,B false,B false,B false]:=by kernel_rfl
def QU:=Qhq
theorem Z12:An PG (Zy1 QU):=rw1 (C:=Qdd) Zhu
def Xq:Sk:=⟨[TS.v true (cc 9++[sa Aa]++cc 9++[sa Aa]++cc 9++[sa Aa]++cc 5)],[],[]⟩
def Zpl:=qa 54 Xq Xq
def YZ:Cfg:={cf []with fstore:=true,unroll:=[2]}
def Qc3:Fn:=Ao PG YZ 64 54 Xq Xq
theorem Zgu (x0 x1 x2 x3 x4 x5 x6 x7 x8:Int) (x9:Rw) (G J L M N O S T U:Int) (D:Rw) (V X Y a0 a1 a2 a3 a4 a5:Int) (E:Rw) (a6 a7 a8 a9 b0:Int):Qc3 [I x0,I x1,I x2,I x3,I x4,I x5,I x6,I x7,I x8, .vC Aa x9,I G,I J,I L,I M,I N,I O,I S,I T,I U, .vC Aa D,I V,I X,I Y,I a0,I a1,I a2,I a3,I a4,I a5, .vC Aa E,I a6,I a7,I a8,I a9,I b0]=
 cond ((x9.length*8).ble 140737488355328) (cond ((D.length*8).ble 140737488355328) (cond ((E.length*8).ble 140737488355328) (some [I x0,I x1,I x2,I x3,I x4,I x5,I x6,I x7,I x8, .vC Aa x9,I G,I J,I L,I M,I N,I O,I S,I T,I U, .vC Aa D,I V,I X,I Y,I a0,I a1,I a2,I a3,I a4,I a5, .vC Aa E,I a6,I a7,I a8,I a9,I b0]) (none)) (none)) (none):=by kernel_rfl
def QY:=Qc3
theorem Z4r:Aj PG (YZ):=Ap rfl trivial
theorem Zky:An PG (Zpl QY):=rw1 (C:=YZ) Z4r
def Qjg:Sk:=⟨[TS.v true (cc 9++[sa Aa])],[],[]⟩
def Zmr:=qa 141 Qjg Qrs
def Qol (D:Fn):Cfg:=cf [Qk5 D]
def Zap:Sk:=⟨[td,tf [sd 1 0]]++dd 24++[tf [sa Aa],tf [ci],tf [ci]]++dd 29,[(1,26,cc 9++[sa Aa])],[]⟩
def Q9m:List (Ex×Sk):=[(Ex.ret,⟨[td,td,tf [sb]]++dd 55,[],[]⟩),(Ex.exit 0,⟨[td]++dd 57,[],[]⟩)]
def Qbk (D:Fn):Lp:=A9 PG (Qol D) 64 6 (A8 PG 141 6) Zap Q9m
def Q2x (D:Fn) (E:Lp):Cfg:=(Qol D).loop 6 Zap Q9m E
def Qa3 (D:Fn) (E:Lp):Fn:=Ao PG (Q2x D E) 64 141 Qjg Qrs
theorem Zqv (G:Fn) (v0:Rw) (E D J L M N O S T v10 v11:Int) (v12:Rw):Qbk G [.vC Aa v0,I E,I D,I J,I L,I M,I N,I O,I S,I T,I v10,I v11, .vC Aa v12]=
 cond (decide (D<E)) (cond (decide (0<=D)&&decide (D<(v0.length:Int))) ((G [jA (nth [] v0 D.toNat) 0,I (-4096),I 4096]).bind λU=>
 cond (!bA U 0) (some (1,[B false])) (cond (decide (D>0)) (cond (decide (0<=V (D-1))&&decide (V (D-1)<(v12.length:Int))) ((G [I (V (gA (nth [] v0 D.toNat) 0-gA (nth [] v12 (V (D-1)).toNat) 0)),I (V (0-V (v11.tdiv 4))),I (V (v11.tdiv 4))]).bind λX=>
 cond (!bA X 0) (some (1,[B false])) (some (0,[.vC Aa v0,I E,I (V (D+1)),I J,I L,I M,I N,I O,I S,I T,I v10,I v11, .vC Aa v12]))) (none)) (some (0,[.vC Aa v0,I E,I (V (D+1)),I J,I L,I M,I N,I O,I S,I T,I v10,I v11, .vC Aa v12])))) (none)) (some (2,[])):=by kernel_rfl
theorem Znt (G:Fn) (N:Lp) (O S T U V X Y J L:Int) (E:Rw):Qa3 G N [I O,I S,I T,I U,I V,I X,I Y,I J,I L, .vC Aa E]=
 cond ((E.length:Int)==0) (some [B true]) (cond (decide ((E.length:Int)>64)) (some [B false]) ((G [I J,I (-16777216),I 16777216]).bind λo9=>
 cond (!bA o9 0) (some [B false]) ((G [I L,I 4,I 16777216]).bind λM=>
 cond (!bA M 0) (some [B false]) ((N [.vC Aa E,I (E.length:Int),I 0,I O,I S,I T,I U,I V,I X,I Y,I J,I L, .vC Aa E]).bind λD=>
 cond (D.1.beq 1) (some [B (bA D.2 0)]) (cond (D.1.beq 2) (some [B true]) (none)))))):=by kernel_rfl
def Qwi:=Am (Qbk HA)
def Q5:=Qa3 HA Qwi
theorem Zed:Aj PG (Qol HA):=Ap rfl ⟨Qo2,trivial⟩
theorem Zsy:An PG (Zmr Q5):=rw2 (C:=Q2x HA Qwi) (fl fb Zed) Zed
def Ycc:=qa 86 Qjg Qrs
def Qq4 (D E:Fn):Cfg:=cf [Zmr D,Qk5 E]
def Qga (D E:Fn):Fn:=Ao PG (Qq4 D E) 64 86 Qjg Qrs
theorem Yak (V G:Fn) (J L M N D E O X Y:Int) (x9:Rw):Qga V G [I J,I L,I M,I N,I D,I E,I O,I X,I Y, .vC Aa x9]=
 (G [I J,I 4,I 4096]).bind λo6=>
 cond (bA o6 0) ((G [I L,I 1,I 1048576]).bind λo7=>
 cond (bA o7 0) ((G [I M,I 2,I 1048576]).bind λo8=>
 cond (bA o8 0) ((G [I N,I 4,I 1048576]).bind λS=>
 cond (decide (D>= -16777216)) (cond (decide (E<=16777216)) (cond (bA S 0) (cond (decide (D<=E)) ((G [I O,I 0,I 64]).bind λT=>
 cond (bA T 0) ((V [I J,I L,I M,I N,I D,I E,I O,I X,I Y, .vC Aa x9]).bind λU=>
 some [B (bA U 0)]) (some [B false])) (some [B false])) (some [B false])) (cond (bA S 0) (some [B false]) (some [B false]))) (cond (bA S 0) (some [B false]) (some [B false]))) (cond (decide (D>= -16777216)) (cond (decide (E<=16777216)) (some [B false]) (some [B false])) (some [B false]))) (cond (decide (D>= -16777216)) (cond (decide (E<=16777216)) (some [B false]) (some [B false])) (some [B false]))) (cond (decide (D>= -16777216)) (cond (decide (E<=16777216)) (some [B false]) (some [B false])) (some [B false])):=by kernel_rfl
def Rn:=Qga Q5 HA
theorem Ztj:Aj PG (Qq4 Q5 HA):=Ap rfl ⟨Zsy,Qo2,trivial⟩
theorem Z3y:An PG (Ycc Rn):=rw1 (C:=Qq4 Q5 HA) Ztj
def Z6j:=qa 53 Xq Qrs
def Qag (D E G:Fn):Cfg:={cf [Qip D,Zv E,Ycc G]with unroll:=[2]}
def Xm (D E G:Fn):Fn:=Ao PG (Qag D E G) 64 53 Xq Qrs
theorem Z2a (DT Cb KX:Fn) (x0 x1 x2 x3 x4 x5 x6 x7 x8:Int) (x9:Rw) (G J L M N O S T U:Int) (V:Rw) (X Y a0 a1 a2 a3 a4 a5 a6:Int) (a7:Rw) (a8 a9 b0 D E:Int):Xm DT Cb KX [I x0,I x1,I x2,I x3,I x4,I x5,I x6,I x7,I x8, .vC Aa x9,I G,I J,I L,I M,I N,I O,I S,I T,I U, .vC Aa V,I X,I Y,I a0,I a1,I a2,I a3,I a4,I a5,I a6, .vC Aa a7,I a8,I a9,I b0,I D,I E]=
 (KX [I x0,I x1,I x2,I x3,I x4,I x5,I x6,I x7,I x8, .vC Aa x9]).bind λo5=>
 cond (!bA o5 0) (some [B false]) ((KX [I G,I J,I L,I M,I N,I O,I S,I T,I U, .vC Aa V]).bind λo6=>
 cond (!bA o6 0) (some [B false]) ((KX [I X,I Y,I a0,I a1,I a2,I a3,I a4,I a5,I a6, .vC Aa a7]).bind λo7=>
 cond (!bA o7 0) (some [B false]) ((Cb [I a8,I a9,I b0]).bind λo8=>
 cond (bA o8 0) (cond (decide (D>=1)) ((DT [I 30000]).bind λo9=>
 cond (decide (D<=gA o9 0)) (cond (decide (E>=0)) (some [B (decide (E<=1048576))]) (some [B false])) (some [B false])) (some [B false])) (some [B false])))):=by kernel_rfl
def R6:=Xm FP FO Rn
theorem Zkw:Aj PG (Qag FP FO Rn):=Ap rfl ⟨Ql4,Qqo,Z3y,trivial⟩
theorem Zj1:An PG (Z6j R6):=rw1 (C:=Qag FP FO Rn) Zkw
def Qju:Sk:=⟨[TS.v true (cc 9++[sa Aa]++cc 9++[sa Aa]++cc 9++[sa Aa]++cc 5),tf [sa Ak],tf [sb]],[],[]⟩
def WQ:Sk:=⟨[TS.tup [(false,[sd 19 0]),(false,[ci])]],[(19,119,cS)],[]⟩
def Q1k:=qa 20 Qju WQ
def Qgo (D E G I J L M:Fn):Cfg:={cp [Qkw D,Qxa E,Zs8 G,Quw I,Zy1 J,Zpl L,Z6j M] [57]with fstore:=true}
def TW (D E G I J L M:Fn):Fn:=Ao PG (Qgo D E G I J L M) 64 20 Qju WQ
theorem Zhd (Ek GL P7 GQ P1 P3 PH:Fn) (x0 x1 x2 x3 x4 x5 x6 x7 x8:Int) (x9:Rw) (L M N O S T U V X:Int) (Y:Rw) (a0 a1 a2 a3 a4 a5 a6 a7 a8:Int) (a9:Rw) (b0 b1 b2 b3 b4:Int) (b6:Rw) (b7:Bool):TW Ek GL P7 GQ P1 P3 PH [I x0,I x1,I x2,I x3,I x4,I x5,I x6,I x7,I x8, .vC Aa x9,I L,I M,I N,I O,I S,I T,I U,I V,I X, .vC Aa Y,I a0,I a1,I a2,I a3,I a4,I a5,I a6,I a7,I a8, .vC Aa a9,I b0,I b1,I b2,I b3,I b4, .vC Ak b6,B b7]=
 (PH [I x0,I x1,I x2,I x3,I x4,I x5,I x6,I x7,I x8, .vC Aa x9,I L,I M,I N,I O,I S,I T,I U,I V,I X, .vC Aa Y,I a0,I a1,I a2,I a3,I a4,I a5,I a6,I a7,I a8, .vC Aa a9,I b0,I b1,I b2,I b3,I b4]).bind λo7=>
 cond (!bA o7 0) (none) ((P3 [I x0,I x1,I x2,I x3,I x4,I x5,I x6,I x7,I x8, .vC Aa x9,I L,I M,I N,I O,I S,I T,I U,I V,I X, .vC Aa Y,I a0,I a1,I a2,I a3,I a4,I a5,I a6,I a7,I a8, .vC Aa a9,I b0,I b1,I b2,I b3,I b4]).bind λE=>
 (P1 []).bind λo9=>
 (GQ []).bind λb5=>
 (P7 [.vC Ak b6,B b7,jA E 0,jA E 1,jA E 2,jA E 3,jA E 4,jA E 5,jA E 6,jA E 7,jA E 8, .vC Aa (wA E 9),jA E 10,jA E 11,jA E 12,jA E 13,jA E 14,jA E 15,jA E 16,jA E 17,jA E 18, .vC Aa (wA E 19),jA E 20,jA E 21,jA E 22,jA E 23,jA E 24,jA E 25,jA E 26,jA E 27,jA E 28, .vC Aa (wA E 29),jA E 30,jA E 31,jA E 32,jA E 33,jA E 34, .vC Ak [],B false,I 0,I 0,I 0, .vC Ag [], .vC kPt [],I 0,I 0, .vC At [],I 0,I 0,I 0,I 0,I 0,I 0,I 0,I 0,I 0,I 0,I 0,jA o9 0,jA o9 1,B (bA o9 2),B (bA o9 3),B (bA o9 4),jA b5 0,jA b5 1,jA b5 2,I 1,I 0,I 0,I 0,I 0,I 0,I 0,I 0,I 0,B false,I 0,B false,I 0,B false,I 0,I (-1),I 0,I 0,I 0,I 0,I 0,I 0,I 0,B false,B false,B false]).bind λD=>
 cond (gA D 0 !=0) (none) ((GL [jA D 38,jA D 39,jA D 40, .vC Ag (wA D 41), .vC kPt (wA D 42),jA D 1,jA D 2,jA D 3,jA D 4,jA D 5,jA D 6,jA D 7,jA D 8,jA D 9, .vC Aa (wA D 10),jA D 11,jA D 12,jA D 13,jA D 14,jA D 15,jA D 16,jA D 17,jA D 18,jA D 19, .vC Aa (wA D 20),jA D 21,jA D 22,jA D 23,jA D 24,jA D 25,jA D 26,jA D 27,jA D 28,jA D 29, .vC Aa (wA D 30),I 1,I 1,I 1,I 0,jA D 43]).bind λG=>
 (Ek [I 0]).bind λJ=>
 some (I 0::DY (cR 1 D) [(44, .vC At (wA G 0)),(45,jA G 1),(46,jA G 2),(47,jA G 3),(48,jA G 4),(49,jA G 5),(50,jA J 0),(51,jA J 1),(52,jA J 2),(53,jA J 3),(54,jA J 4),(55,jA J 5)]))):=by kernel_rfl
def Hb:=TW HK Ko UK KD QU QY R6
theorem Znj:Aj PG (Qgo HK Ko UK KD QU QY R6):=Ap rfl ⟨Xd,Qur,Zud,Qz3,Z12,Zky,Zj1,trivial⟩
theorem Zdx:An PG (Q1k Hb):=rw1 (C:=Qgo HK Ko UK KD QU QY R6) Znj
def Qzt:=qa 17 Z5 Qar
def Qvd:Fn:=Ao PG Qdd 64 17 Z5 Qar
theorem Zvu (E D:Int):Qvd [I E,I D]=
 cond (decide (D=0)) (none) (cond (decide (D=0)) (none) (some [I ((V (E.tmod D+D)).tmod D)])):=by kernel_rfl
def H_:=Qvd
theorem Qv6:An PG (Qzt H_):=rw1 (C:=Qdd) Zhu
def W5:Sk:=⟨[tf [sd 20000 0],tf [ci]],[(20000,103,[sa Aa,ci])],[]⟩
def Qto:Sk:=⟨[tf [ci]],[(20000,103,[sa Aa,ci])],[]⟩
def Kb:=qa 48 W5 Qto
def Qgz (D:Fn):Cfg:=cf [Qzt D]
def Qpu (D:Fn):Fn:=Ao PG (Qgz D) 64 48 W5 Qto
theorem Zz8 (G:Fn) (J:Int) (E:Rw) (D:Int):Qpu G [I J, .vC Aa E,I D]=
 cond (decide (D>=(E.length:Int))) (some [I 0, .vC Aa E,I D]) (cond (decide (0<=D)&&decide (D<(E.length:Int))) ((G [jA (nth [] E D.toNat) 0,I J]).bind λo1=>
 some [jA o1 0, .vC Aa E,I (V (D+1))]) (none)):=by kernel_rfl
def BY:=Qpu H_
theorem Zmm:Aj PG (Qgz H_):=Ap rfl ⟨Qv6,trivial⟩
theorem JE:An PG (Kb BY):=rw1 (C:=Qgz H_) Zmm
def Qpq:Sk:=⟨[TS.v true [ci,ci,ci]],[(20000,103,[sa Aa,ci])],[]⟩
def Z77:=qa 52 W5 Qpq
def Qr7 (D:Fn):Cfg:=cp [Kb D] [48]
def Y5 (D:Fn):Fn:=Ao PG (Qr7 D) 64 52 W5 Qpq
abbrev Se (J:Fn) (G:List AC) (L:Int) (E:AC):Option (List AC):=
 (J [E, .vC Aa (wA G 1),jA G 2]).bind λD=>
 some [I L,I (Af (nth .vD (nth [] [[I 4],[I 1],[I 2],[I 3],[I 4],[I 5],[I 6],[I 7],[I 4],[I 8],[I 9],[I 11],[I 12],[I 13],[I 10]] (gA G 0).toNat) 0)),I (V (gA D 0-5)), .vC Aa (wA D 1),jA D 2]
theorem Zo7 (E:Fn) (G:Int) (S:Rw) (T:Int):Y5 E [I G, .vC Aa S,I T]=
 (E [I 15, .vC Aa S,I T]).bind λD=>
 cond (decide (0<=gA D 0)&&decide (gA D 0<(↑[[I 4],[I 1],[I 2],[I 3],[I 4],[I 5],[I 6],[I 7],[I 4],[I 8],[I 9],[I 11],[I 12],[I 13],[I 10]].length:Int))) (cond (Af (nth .vD (nth [] [[I 4],[I 1],[I 2],[I 3],[I 4],[I 5],[I 6],[I 7],[I 4],[I 8],[I 9],[I 11],[I 12],[I 13],[I 10]] (gA D 0).toNat) 0)==1) (Se E D G (I 220)) (cond (Af (nth .vD (nth [] [[I 4],[I 1],[I 2],[I 3],[I 4],[I 5],[I 6],[I 7],[I 4],[I 8],[I 9],[I 11],[I 12],[I 13],[I 10]] (gA D 0).toNat) 0)==2) (Se E D G (I 220)) (cond (Af (nth .vD (nth [] [[I 4],[I 1],[I 2],[I 3],[I 4],[I 5],[I 6],[I 7],[I 4],[I 8],[I 9],[I 11],[I 12],[I 13],[I 10]] (gA D 0).toNat) 0)==5) ((E [I 3, .vC Aa (wA D 1),jA D 2]).bind λJ=>
 some [I G,I (Af (nth .vD (nth [] [[I 4],[I 1],[I 2],[I 3],[I 4],[I 5],[I 6],[I 7],[I 4],[I 8],[I 9],[I 11],[I 12],[I 13],[I 10]] (gA D 0).toNat) 0)),jA J 0, .vC Aa (wA J 1),jA J 2]) (cond (Af (nth .vD (nth [] [[I 4],[I 1],[I 2],[I 3],[I 4],[I 5],[I 6],[I 7],[I 4],[I 8],[I 9],[I 11],[I 12],[I 13],[I 10]] (gA D 0).toNat) 0)==6) ((E [I 3, .vC Aa (wA D 1),jA D 2]).bind λL=>
 some [I G,I (Af (nth .vD (nth [] [[I 4],[I 1],[I 2],[I 3],[I 4],[I 5],[I 6],[I 7],[I 4],[I 8],[I 9],[I 11],[I 12],[I 13],[I 10]] (gA D 0).toNat) 0)),jA L 0, .vC Aa (wA L 1),jA L 2]) (cond (Af (nth .vD (nth [] [[I 4],[I 1],[I 2],[I 3],[I 4],[I 5],[I 6],[I 7],[I 4],[I 8],[I 9],[I 11],[I 12],[I 13],[I 10]] (gA D 0).toNat) 0)==7) (Se E D G (I 300)) (cond (Af (nth .vD (nth [] [[I 4],[I 1],[I 2],[I 3],[I 4],[I 5],[I 6],[I 7],[I 4],[I 8],[I 9],[I 11],[I 12],[I 13],[I 10]] (gA D 0).toNat) 0)==8) ((E [I 5, .vC Aa (wA D 1),jA D 2]).bind λM=>
 some [I G,I (Af (nth .vD (nth [] [[I 4],[I 1],[I 2],[I 3],[I 4],[I 5],[I 6],[I 7],[I 4],[I 8],[I 9],[I 11],[I 12],[I 13],[I 10]] (gA D 0).toNat) 0)),I (V (gA M 0-1)), .vC Aa (wA M 1),jA M 2]) (cond (Af (nth .vD (nth [] [[I 4],[I 1],[I 2],[I 3],[I 4],[I 5],[I 6],[I 7],[I 4],[I 8],[I 9],[I 11],[I 12],[I 13],[I 10]] (gA D 0).toNat) 0)==13) ((E [I 4, .vC Aa (wA D 1),jA D 2]).bind λN=>
 (E [I 60, .vC Aa (wA N 1),jA N 2]).bind λO=>
 some [I G,I (Af (nth .vD (nth [] [[I 4],[I 1],[I 2],[I 3],[I 4],[I 5],[I 6],[I 7],[I 4],[I 8],[I 9],[I 11],[I 12],[I 13],[I 10]] (gA D 0).toNat) 0)),I (V (V (gA N 0*1048576)+gA O 0)), .vC Aa (wA O 1),jA O 2]) (some [I G,I (Af (nth .vD (nth [] [[I 4],[I 1],[I 2],[I 3],[I 4],[I 5],[I 6],[I 7],[I 4],[I 8],[I 9],[I 11],[I 12],[I 13],[I 10]] (gA D 0).toNat) 0)),I 0, .vC Aa (wA D 1),jA D 2])))))))) (none):=by kernel_rfl
def No:=Y5 BY
theorem Zoh:Aj PG (Qr7 BY):=Ap rfl ⟨JE,trivial⟩
theorem Zzj:An PG (Z77 No):=rw1 (C:=Qr7 BY) Zoh
def Qno:Sk:=⟨[tf [sd 20000 0]],[(20000,103,[sa Aa,ci])],[]⟩
def Qlj:Sk:=⟨[tf [sb]],[(20000,103,[sa Aa,ci])],[]⟩
def Qxp:=qa 49 Qno Qlj
def Qzb:Fn:=Ao PG Qdd 64 49 Qno Qlj
theorem Zi5 (D:Rw) (E:Int):Qzb [.vC Aa D,I E]=
 some [B (decide (E<(D.length:Int))), .vC Aa D,I E]:=by kernel_rfl
def GH:=Qzb
theorem Zci:An PG (Qxp GH):=rw1 (C:=Qdd) Zhu
def Qms:Sk:=⟨[tf [sd 5 0]],[(5,103,[sa Aa,ci])],[]⟩
def R0:=qa 45 Qic Qms
def Zaj:Fn:=Ao PG Qdd 64 45 Qic Qms
theorem Zsn (D:Rw):Zaj [.vC Aa D]=
 some [.vC Aa D,I 0]:=by kernel_rfl
def C6:=Zaj
theorem RM:An PG (R0 C6):=rw1 (C:=Qdd) Zhu
def Z5q:=qa 19 Qic Qb8
def Wt (D E G I:Fn):Cfg:={cp [Z77 D,Kb E,Qxp G,R0 I] [52,48,49,45]with prom:=λb=>cond (Nat.beq b 4) ([(4,69)]) ([])}
def Q2e:Sk:=⟨[td,td,td,tf [sd 100700 0],tf [se 4 3],tf [ci]]++dd 15,[(100700,103,[sa Aa,ci])],[(4,69,kPt)]⟩
def Q9q:List (Ex×Sk):=[(Ex.exit 0,⟨[td,td,td,td,tf [se 4 3]]++dd 16,[],[(4,69,kPt)]⟩)]
def Qrh (D E G I:Fn):Lp:=A9 PG (Wt D E G I) 64 4 (A8 PG 19 4) Q2e Q9q
def Zby (D E G I:Fn) (J:Lp):Cfg:=(Wt D E G I).loop 4 Q2e Q9q J
def Qg6 (D E G I:Fn) (J:Lp):Fn:=Ao PG (Zby D E G I J) 64 19 Qic Qb8
theorem Zq2 (L M N T:Fn) (v0:Rw) (J:Int) (O:Rw) (S:Int):Qrh L M N T [.vC kPt v0,I J, .vC Aa O,I S]=
 (N [.vC Aa O,I S]).bind λG=>
 cond (bA G 0) ((M [I 40, .vC Aa (wA G 1),jA G 2]).bind λE=>
 (L [I (V (J+gA E 0)), .vC Aa (wA E 1),jA E 2]).bind λD=>
 cond (((v0++[[jA D 0,jA D 1,jA D 2]]).length*24).ble 140737488355328) (some (0,[.vC kPt (v0++[[jA D 0,jA D 1,jA D 2]]),I (V (J+gA E 0)), .vC Aa (wA D 3),jA D 4])) (none)) (some (1,[.vC kPt v0])):=by kernel_rfl
theorem Z9q (M N O G:Fn) (J:Lp) (L:Rw):Qg6 M N O G J [.vC Aa L]=
 (G [.vC Aa L]).bind λD=>
 (J [.vC kPt [],I 0, .vC Aa (wA D 0),jA D 1]).bind λE=>
 cond (E.1.beq 1) (some [.vC kPt (wA E.2 0)]) (none):=by kernel_rfl
def Q9s:=Am (Qrh No BY GH C6)
def Me:=Qg6 No BY GH C6 Q9s
theorem Zd9:Aj PG (Wt No BY GH C6):=Ap rfl ⟨Zzj,JE,Zci,RM,trivial⟩
theorem Z25:An PG (Z5q Me):=rw2 (C:=Zby No BY GH C6 Q9s) (fl fb Zd9) Zd9
def Zxv:=qa 139 Ye Qb6
def Zfq:Fn:=Ao PG Qdd 64 139 Ye Qb6
theorem Z81 (D E G J:Int):Zfq [I D,I E,I G,I J]=
 cond (J==17) (some [I D,I E,I G]) (cond (J==18) (some [I E,I G,I D]) (cond (J==19) (some [I G,I D,I E]) (some [I 0,I 0,I 0]))):=by kernel_rfl
def Pc:=Zfq
theorem Znm:An PG (Zxv Pc):=rw1 (C:=Qdd) Zhu
def Zpa:=qa 138 Z5 XL
def Q1p:Fn:=Ao PG Qdd 64 138 Z5 XL
theorem Zzf (D E:Int):Q1p [I D,I E]=
 cond (decide (0<=E.tmod 4)&&decide (E.tmod 4<(↑[[I D],[I 0],[I (V (0-D))],[I 0]].length:Int))) (cond (decide (0<=E.tmod 4)&&decide (E.tmod 4<(↑[[I 0],[I D],[I 0],[I (V (0-D))]].length:Int))) (some [I (Af (nth .vD (nth [] [[I D],[I 0],[I (V (0-D))],[I 0]] (E.tmod 4).toNat) 0)),I (Af (nth .vD (nth [] [[I 0],[I D],[I 0],[I (V (0-D))]] (E.tmod 4).toNat) 0))]) (none)) (none):=by kernel_rfl
def PL:=Q1p
theorem Zuw:An PG (Zpa PL):=rw1 (C:=Qdd) Zhu
def Z8d:=qa 137 Qjm Qk0
def Qz7:Fn:=Ao PG Qdd 64 137 Qjm Qk0
theorem Zr5 (D E G J:Int):Qz7 [I D,I E,I G,I J]=
 cond (J==17) (some [I D,I E,I G]) (cond (J==18) (some [I G,I D,I E]) (cond (J==19) (some [I E,I G,I D]) (some [I 0,I 0,I 0]))):=by kernel_rfl
def OX:=Qz7
theorem Z36:An PG (Z8d OX):=rw1 (C:=Qdd) Zhu
def Qp7:Sk:=⟨[tf [sd 20000 0],TS.v true [ci,ci,ci],tf [ci]],[(20000,103,[sa Aa,ci])],[]⟩
def YP:Sk:=⟨[TS.v true (cc 13++[sb,ci,sb]++cc 5++[sb])],[(20000,103,[sa Aa,ci])],[]⟩
def Zw0:=qa 85 Qp7 YP
def Y1 (D E G I:Fn):Cfg:=cp [Zxv D,Zpa E,Z8d G,Kb I] [48]
def Qk4 (D E G I:Fn):Fn:=Ao PG (Y1 D E G I) 64 85 Qp7 YP
abbrev Tc (X Y:Fn) (S J:List AC) (x0 x1 x2:Int) (E T U:List AC) (L M N O:AC):Option (List AC):=
 (X [I 4,L,M]).bind λD=>
 cond (decide (0<=gA D 0)&&decide (gA D 0<(↑[[I 0],[I 0],[I 7],[I (-12)]].length:Int))) ((Y [N,O,I (V (gA S 2+Af (nth .vD (nth [] [[I 0],[I 0],[I 7],[I (-12)]] (gA D 0).toNat) 0))),I (Af (nth .vD (nth [] [[I 17],[I 18],[I 19]] (gA J 0).toNat) 0))]).bind λG=>
 some [I 3,I 0,I x0,I x1,I x2,jA G 0,jA G 1,jA G 2,I (Af (nth .vD (nth [] [[I 17],[I 18],[I 19]] (gA J 0).toNat) 0)),jA E 0,jA E 1,jA E 2,I (V (1-V (gA T 0*2))),B (gA U 0==0),I 0,B false,I 0,I 0,I 0,I 0,I 0,B false, .vC Aa (wA D 1),jA D 2]) (none)
theorem Z04 (H2 Np Ox N:Fn) (x0 x1 x2 x3:Int) (x4:Rw) (x5:Int):Qk4 H2 Np Ox N [I x0,I x1,I x2,I x3, .vC Aa x4,I x5]=
 (N [I 3, .vC Aa x4,I x5]).bind λE=>
 cond (decide (0<=gA E 0)&&decide (gA E 0<(↑[[I 17],[I 18],[I 19]].length:Int))) ((N [I 2, .vC Aa (wA E 1),jA E 2]).bind λO=>
 (N [I x3, .vC Aa (wA O 1),jA O 2]).bind λJ=>
 (N [I 4, .vC Aa (wA J 1),jA J 2]).bind λT=>
 (N [I 4, .vC Aa (wA T 1),jA T 2]).bind λG=>
 (Ox [I x0,I x1,I x2,I (Af (nth .vD (nth [] [[I 17],[I 18],[I 19]] (gA E 0).toNat) 0))]).bind λD=>
 (Np [I (V (8+gA J 0)),jA T 0]).bind λL=>
 (Np [I (V (8+gA J 0)),I (V (gA T 0+gA G 0))]).bind λM=>
 (H2 [I (V (gA D 0-gA L 0)),I (V (gA D 1-gA L 1)),jA D 2,I (Af (nth .vD (nth [] [[I 17],[I 18],[I 19]] (gA E 0).toNat) 0))]).bind λU=>
 cond (decide (gA G 0>0)) ((N [I 3, .vC Aa (wA G 1),jA G 2]).bind λS=>
 cond (gA S 0==0) (cond (decide (V (8+gA J 0)=0)) (none) ((N [I 5, .vC Aa (wA S 1),jA S 2]).bind λX=>
 cond (decide (V (8+gA J 0)=0)) (none) ((N [I 5, .vC Aa (wA X 1),jA X 2]).bind λY=>
 Tc N H2 D E x0 x1 x2 U O G (.vC Aa (wA Y 1)) (jA Y 2) (I (V (V (gA D 0-gA L 0)+V (gA M 0+V (V ((gA M 0).tdiv (V (8+gA J 0)))*gA X 0))))) (I (V (V (gA D 1-gA L 1)+V (gA M 1+V (V ((gA M 1).tdiv (V (8+gA J 0)))*gA Y 0)))))))) (Tc N H2 D E x0 x1 x2 U O G (.vC Aa (wA S 1)) (jA S 2) (I (V (V (gA D 0-gA L 0)+gA M 0))) (I (V (V (gA D 1-gA L 1)+gA M 1))))) (Tc N H2 D E x0 x1 x2 U O G (.vC Aa (wA G 1)) (jA G 2) (I (V (V (gA D 0-gA L 0)+gA M 0))) (I (V (V (gA D 1-gA L 1)+gA M 1))))) (none):=by kernel_rfl
def Q8:=Qk4 Pc PL OX BY
theorem Zga:Aj PG (Y1 Pc PL OX BY):=Ap rfl ⟨Znm,Zuw,Z36,JE,trivial⟩
theorem Z45:An PG (Zw0 Q8):=rw1 (C:=Y1 Pc PL OX BY) Zga
def Zp1:=qa 51 Qp7 YP
def WL (D E:Fn):Cfg:=cp [Kb D,Zw0 E] [48,85]
def WE (D E:Fn):Fn:=Ao PG (WL D E) 64 51 Qp7 YP
abbrev Qge (Au:Fn) (a7:List AC) (x3:Int) (T U X Y a0 a1 a2 a3 a4 a5 E G J L M N O S:AC):Option (List AC):=
 (Au [I 60, .vC Aa (wA a7 1),jA a7 2]).bind λD=>
 cond (x3==6) ((Au [I 2, .vC Aa (wA D 1),jA D 2]).bind λa6=>
 some [T,U,X,Y,a0,a1,a2,a3,a4,a5,E,G,J,L,I (V (1+gA D 0)),B true,M,N,I 0,I (V (3+gA a6 0)),O,S, .vC Aa (wA a6 1),jA a6 2]) (some [T,U,X,Y,a0,a1,a2,a3,a4,a5,E,G,J,L,I (V (1+gA D 0)),B true,M,N,I 0,I 0,O,S, .vC Aa (wA D 1),jA D 2])
abbrev Xy (x3:Int) (Au:Fn) (T U V X Y a0 a1 a2 a3 a4 D E G J b0 a5 L M b1 a6 N O a8 a9:AC):Option (List AC):=
 cond (x3==1) (some [T,U,V,X,Y,a0,a1,a2,a3,a4,D,E,G,J,b0,a5,L,M,b1,a6,N,O,a8,a9]) ((Au [I 5,a8,a9]).bind λa7=>
 cond (decide (0<=gA a7 0)&&decide (gA a7 0<(↑[[I 300000],[I 1],[I 60000],[I 2000000],[I 60000000]].length:Int))) ((Au [I 5, .vC Aa (wA a7 1),jA a7 2]).bind λS=>
 cond (decide (0<=gA S 0)&&decide (gA S 0<(↑[[I 0],[I 1],[I 2],[I 4],[I 9]].length:Int))) (cond (x3==5) (Qge Au S x3 T U V X Y a0 a1 a2 a3 a4 D E G J L M N O) (cond (x3==6) (Qge Au S x3 T U V X Y a0 a1 a2 a3 a4 D E G J L M N O) (cond (x3==4) (some [T,U,V,X,Y,a0,a1,a2,a3,a4,D,E,G,J,I (Af (nth .vD (nth [] [[I 300000],[I 1],[I 60000],[I 2000000],[I 60000000]] (gA a7 0).toNat) 0)),a5,L,M,I 0,a6,N,O, .vC Aa (wA S 1),jA S 2]) (some [T,U,V,X,Y,a0,a1,a2,a3,a4,D,E,G,J,I (Af (nth .vD (nth [] [[I 300000],[I 1],[I 60000],[I 2000000],[I 60000000]] (gA a7 0).toNat) 0)),a5,L,M,I (Af (nth .vD (nth [] [[I 0],[I 1],[I 2],[I 4],[I 9]] (gA S 0).toNat) 0)),a6,N,O, .vC Aa (wA S 1),jA S 2])))) (none)) (none))
theorem Z2y (E P2:Fn) (S T U O:Int) (X:Rw) (Y:Int):WE E P2 [I S,I T,I U,I O, .vC Aa X,I Y]=
 cond (O==3) ((P2 [I S,I T,I U,I 8, .vC Aa X,I Y]).bind λD=>
 Xy O E (jA D 0) (jA D 1) (jA D 2) (jA D 3) (jA D 4) (jA D 5) (jA D 6) (jA D 7) (jA D 8) (jA D 9) (jA D 10) (jA D 11) (jA D 12) (B (bA D 13)) (jA D 14) (B (bA D 15)) (jA D 16) (jA D 17) (jA D 18) (jA D 19) (jA D 20) (B (bA D 21)) (.vC Aa (wA D 22)) (jA D 23)) ((E [I 25, .vC Aa X,I Y]).bind λG=>
 (E [I 25, .vC Aa (wA G 1),jA G 2]).bind λJ=>
 (E [I 3, .vC Aa (wA J 1),jA J 2]).bind λL=>
 (E [I 9, .vC Aa (wA L 1),jA L 2]).bind λM=>
 (E [I 2, .vC Aa (wA M 1),jA M 2]).bind λN=>
 Xy O E (I O) (I 0) (I S) (I T) (I U) (I (V (V (S+gA G 0)-12))) (I (V (V (T+gA J 0)-12))) (I (V (V (U+V (gA L 0*gA M 0))-V (8*gA N 0)))) (I 0) (I 0) (I 0) (I 0) (I 0) (B false) (I 0) (B false) (I 0) (I 0) (I 0) (I 0) (I 0) (B false) (.vC Aa (wA N 1)) (jA N 2)):=by kernel_rfl
def LK:=WE BY Q8
theorem Zub:Aj PG (WL BY Q8):=Ap rfl ⟨JE,Z45,trivial⟩
theorem Zrx:An PG (Zp1 LK):=rw1 (C:=WL BY Q8) Zub
def Z8b:=qa 50 Qno YP
def Qi9 (D:Fn):Cfg:=cp [Kb D] [48]
def ZQ (D:Fn):Fn:=Ao PG (Qi9 D) 64 50 Qno YP
abbrev Qqr (G:Fn) (J:List AC):Option (List AC):=
 (G [I 16, .vC Aa (wA J 1),jA J 2]).bind λE=>
 (G [I 2, .vC Aa (wA E 1),jA E 2]).bind λD=>
 some [I 10,I 0,I 0,I 0,I 0,I 0,I 0,I 0,I 0,I 0,I 0,I 0,I 0,B false,I 0,B false,I 0,I 0,I 0,jA E 0,I 0,B (gA D 0==0), .vC Aa (wA D 1),jA D 2]
theorem Zng (E:Fn) (M:Rw) (N:Int):ZQ E [.vC Aa M,I N]=
 (E [I 8, .vC Aa M,I N]).bind λD=>
 cond (gA D 0==0) (Qqr E D) (cond (gA D 0==1) (Qqr E D) (cond (gA D 0==2) ((E [I 5, .vC Aa (wA D 1),jA D 2]).bind λG=>
 some [I 7,I 0,I 0,I 0,I 0,I 0,I 0,I 0,I 0,I 0,I 0,I 0,I 0,B false,I 0,B false,I 0,I 0,I 0,jA G 0,I 0,B false, .vC Aa (wA G 1),jA G 2]) (cond (gA D 0==3) ((E [I 3, .vC Aa (wA D 1),jA D 2]).bind λJ=>
 (E [I 4000, .vC Aa (wA J 1),jA J 2]).bind λL=>
 some [I 8,I 0,I 0,I 0,I 0,I 0,I 0,I 0,I 0,I 0,I 0,I 0,I 0,B false,I 0,B false,I 0,I 0,I 0,I (V (3+gA J 0)),jA L 0,B false, .vC Aa (wA L 1),jA L 2]) (cond (gA D 0==4) (some [I 9,I 0,I 0,I 0,I 0,I 0,I 0,I 0,I 0,I 0,I 0,I 0,I 0,B false,I 0,B false,I 0,I 0,I 0,I 8,I 0,B true, .vC Aa (wA D 1),jA D 2]) (cond (gA D 0==5) (some [I 13,I 0,I 0,I 0,I 0,I 0,I 0,I 0,I 0,I 0,I 0,I 0,I 0,B false,I 0,B false,I 0,I 0,I 0,I 0,I 0,B false, .vC Aa (wA D 1),jA D 2]) (cond (gA D 0==6) (some [I 12,I 0,I 0,I 0,I 0,I 0,I 0,I 0,I 0,I 0,I 0,I 0,I 0,B false,I 0,B false,I 0,I 0,I 0,I 0,I 0,B false, .vC Aa (wA D 1),jA D 2]) (some [I 11,I 0,I 0,I 0,I 0,I 0,I 0,I 0,I 0,I 0,I 0,I 0,I 0,B false,I 0,B false,I 0,I 0,I 0,I 1,I 0,B false, .vC Aa (wA D 1),jA D 2]))))))):=by kernel_rfl
def Ng:=ZQ BY
theorem Yce:Aj PG (Qi9 BY):=Ap rfl ⟨JE,trivial⟩
theorem Zvr:An PG (Z8b Ng):=rw1 (C:=Qi9 BY) Yce
def Qjz:Sk:=⟨[tf [sa Aa],tf [ci],tf [sb]],[],[]⟩
def Z76:=qa 16 Qjz Qr1
def Qnp (D E G I J:Fn):Cfg:={cp [Zp1 D,Z8b E,Qxp G,Kb I,R0 J] [51,50,49,48,45]with prom:=λb=>cond (Nat.beq b 4) ([(8,74)]) ([])}
def Qzh:Sk:=⟨[td,tf [ci],tf [sb],td,td,td,td,tf [sd 101300 0],tf [se 8 22],tf [sd 9 0]]++dd 64,[(9,72,[ci,ci,ci]),(101300,103,[sa Aa,ci])],[(8,74,Ak)]⟩
def Qt9:List (Ex×Sk):=[(Ex.exit 0,⟨[td,td,tf [sb],td,td,td,td,td,tf [se 8 22]]++dd 65,[],[(8,74,Ak)]⟩)]
def Qsr (D E G I J:Fn):Lp:=A9 PG (Qnp D E G I J) 64 4 (A8 PG 16 4) Qzh Qt9
def Zes (D E G I J:Fn) (L:Lp):Cfg:=(Qnp D E G I J).loop 4 Qzh Qt9 L
def Qs4 (D E G I J:Fn) (L:Lp):Fn:=Ao PG (Zes D E G I J L) 64 16 Qjz Qr1
theorem Z5o (Y HV Dk S Bt:Fn) (v0:Rw) (O:Int) (N:Bool) (T U X:Int) (v6:Rw) (v7:Int):Qsr Y HV Dk S Bt [.vC Ak v0,I O,B N,I T,I U,I X, .vC Aa v6,I v7]=
 cond (decide ((v0.length:Int)<O)) ((Dk [.vC Aa v6,I v7]).bind λM=>
 cond (bA M 0) ((S [I 12, .vC Aa (wA M 1),jA M 2]).bind λG=>
 cond (decide (gA G 0<4)) ((HV [.vC Aa (wA G 1),jA G 2]).bind λE=>
 cond (((v0++[[jA E 0,jA E 1,jA E 2,jA E 3,jA E 4,jA E 5,jA E 6,jA E 7,jA E 8,jA E 9,jA E 10,jA E 11,jA E 12,B (bA E 13),jA E 14,B (bA E 15),jA E 16,jA E 17,jA E 18,jA E 19,jA E 20,B (bA E 21)]]).length*176).ble 140737488355328) (some (0,[.vC Ak (v0++[[jA E 0,jA E 1,jA E 2,jA E 3,jA E 4,jA E 5,jA E 6,jA E 7,jA E 8,jA E 9,jA E 10,jA E 11,jA E 12,B (bA E 13),jA E 14,B (bA E 15),jA E 16,jA E 17,jA E 18,jA E 19,jA E 20,B (bA E 21)]]),I O,B N,I T,I U,I X, .vC Aa (wA E 22),jA E 23])) (none)) (cond (decide (0<=V (gA G 0-4))&&decide (V (gA G 0-4)<(↑[[I 2],[I 2],[I 2],[I 3],[I 1],[I 6],[I 5],[I 4]].length:Int))) ((Y [I T,I U,I X,I (Af (nth .vD (nth [] [[I 2],[I 2],[I 2],[I 3],[I 1],[I 6],[I 5],[I 4]] (V (gA G 0-4)).toNat) 0)), .vC Aa (wA G 1),jA G 2]).bind λD=>
 cond (gA D 0==5) ((S [I 2, .vC Aa (wA D 22),jA D 23]).bind λJ=>
 (S [I 3000, .vC Aa (wA J 1),jA J 2]).bind λL=>
 cond (((v0++[[I 8,I 0,I 0,I 0,I 0,I 0,I 0,I 0,I 0,I 0,I 0,I 0,I 0,B false,I 0,B false,I 0,I 0,I 0,I (V (3+gA J 0)),I (V (200+gA L 0)),B false]]).length*176).ble 140737488355328) (cond (((v0++[[I 8,I 0,I 0,I 0,I 0,I 0,I 0,I 0,I 0,I 0,I 0,I 0,I 0,B false,I 0,B false,I 0,I 0,I 0,I (V (3+gA J 0)),I (V (200+gA L 0)),B false]]++[[jA D 0,jA D 1,jA D 2,jA D 3,jA D 4,jA D 5,jA D 6,jA D 7,jA D 8,jA D 9,jA D 10,jA D 11,jA D 12,B (bA D 13),jA D 14,B (bA D 15),jA D 16,jA D 17,jA D 18,jA D 19,jA D 20,B (bA D 21)]]).length*176).ble 140737488355328) (some (0,[.vC Ak (v0++[[I 8,I 0,I 0,I 0,I 0,I 0,I 0,I 0,I 0,I 0,I 0,I 0,I 0,B false,I 0,B false,I 0,I 0,I 0,I (V (3+gA J 0)),I (V (200+gA L 0)),B false]]++[[jA D 0,jA D 1,jA D 2,jA D 3,jA D 4,jA D 5,jA D 6,jA D 7,jA D 8,jA D 9,jA D 10,jA D 11,jA D 12,B (bA D 13),jA D 14,B (bA D 15),jA D 16,jA D 17,jA D 18,jA D 19,jA D 20,B (bA D 21)]]),I O,B N,jA D 5,jA D 6,jA D 7, .vC Aa (wA L 1),jA L 2])) (none)) (none)) (cond (((v0++[[jA D 0,jA D 1,jA D 2,jA D 3,jA D 4,jA D 5,jA D 6,jA D 7,jA D 8,jA D 9,jA D 10,jA D 11,jA D 12,B (bA D 13),jA D 14,B (bA D 15),jA D 16,jA D 17,jA D 18,jA D 19,jA D 20,B (bA D 21)]]).length*176).ble 140737488355328) (some (0,[.vC Ak (v0++[[jA D 0,jA D 1,jA D 2,jA D 3,jA D 4,jA D 5,jA D 6,jA D 7,jA D 8,jA D 9,jA D 10,jA D 11,jA D 12,B (bA D 13),jA D 14,B (bA D 15),jA D 16,jA D 17,jA D 18,jA D 19,jA D 20,B (bA D 21)]]),I O,B N,jA D 5,jA D 6,jA D 7, .vC Aa (wA D 22),jA D 23])) (none))) (none))) (some (1,[.vC Ak v0,B N]))) (some (1,[.vC Ak v0,B N])):=by kernel_rfl
theorem Zv2 (X Y Dk M N:Fn) (O:Lp) (S:Rw) (T:Int) (U:Bool):Qs4 X Y Dk M N O [.vC Aa S,I T,B U]=
 (N [.vC Aa S]).bind λL=>
 (M [I 9, .vC Aa (wA L 0),jA L 1]).bind λE=>
 (M [I 9, .vC Aa (wA E 1),jA E 2]).bind λG=>
 (M [I 9, .vC Aa (wA G 1),jA G 2]).bind λJ=>
 (O [.vC Ak [],I T,B U,I (V (gA E 0-4)),I (V (gA G 0-4)),I (V (gA J 0-4)), .vC Aa (wA J 1),jA J 2]).bind λD=>
 cond (D.1.beq 1) (cond (bA D.2 1) (cond (((wA D.2 0++[[I 14,I 0,I 0,I 0,I 0,I 0,I 0,I 0,I 0,I 0,I 0,I 0,I 0,B false,I 0,B false,I 0,I 0,I 0,I 0,I 0,B false]]).length*176).ble 140737488355328) (some [.vC Ak (wA D.2 0++[[I 14,I 0,I 0,I 0,I 0,I 0,I 0,I 0,I 0,I 0,I 0,I 0,I 0,B false,I 0,B false,I 0,I 0,I 0,I 0,I 0,B false]])]) (none)) (some [.vC Ak (wA D.2 0)])) (none):=by kernel_rfl
def Qej:=Am (Qsr LK Ng GH BY C6)
def Lt:=Qs4 LK Ng GH BY C6 Qej
theorem Q40:Aj PG (Qnp LK Ng GH BY C6):=Ap rfl ⟨Zrx,Zvr,Zci,JE,RM,trivial⟩
theorem Z0d:An PG (Z76 Lt):=rw2 (C:=Zes LK Ng GH BY C6 Qej) (fl fb Q40) Q40
def Zgz:=qa 47 Qic Qb6
def Qf4 (D E:Fn):Cfg:=cp [Kb D,R0 E] [48,45]
def Wo (D E:Fn):Fn:=Ao PG (Qf4 D E) 64 47 Qic Qb6
theorem Z1s (D J:Fn) (L:Rw):Wo D J [.vC Aa L]=
 (J [.vC Aa L]).bind λo4=>
 (D [I 900, .vC Aa (wA o4 0),jA o4 1]).bind λE=>
 (D [I 200, .vC Aa (wA E 1),jA E 2]).bind λG=>
 (D [I 16000, .vC Aa (wA G 1),jA G 2]).bind λM=>
 some [I (V (1+gA E 0)),I (V (2+gA G 0)),I (V (1+gA M 0))]:=by kernel_rfl
def Sy:=Wo BY C6
theorem Zge:Aj PG (Qf4 BY C6):=Ap rfl ⟨JE,RM,trivial⟩
theorem Zyy:An PG (Zgz Sy):=rw1 (C:=Qf4 BY C6) Zge
def W1:Sk:=⟨[TS.v true (cc 9++[sa Aa])],[(20000,103,[sa Aa,ci])],[]⟩
def Zn1:=qa 84 Qno W1
def YO (D:Fn):Cfg:={spec:=Jh [Kb D],eqOk:=KM,pure:=λf=> !(AW [48] f),ownOff:=Zvm}
def Qu9:Sk:=⟨[tf [sd 20000 0],td,tf [sd 2 0],tf [sd 3 0],tf [ci],tf [ci],tf [ci]]++dd 72,[(2,26,cc 9++[se 1002009 1]),(3,26,cc 9++[se 1003009 1]),(20000,103,[sa Aa,ci])],[(1002009,3,Aa),(1003009,3,Aa)]⟩
def Q3l:List (Ex×Sk):=[(Ex.exit 0,⟨[td,td,tf [sd 2 0],tf [sd 3 0]]++dd 75,[(2,26,cc 9++[se 1002009 1]),(3,26,cc 9++[se 1003009 1]),(20000,103,[sa Aa,ci])],[(1002009,3,Aa),(1003009,3,Aa)]⟩)]
def SZ (D:Fn):Lp:=A9 PG (YO D) 64 11 (A8 PG 84 11) Qu9 Q3l
def Qu7 (E:Fn) (D:Lp):Cfg:=(YO E).loop 11 Qu9 Q3l D
def WF (E:Fn) (D:Lp):Fn:=Ao PG (Qu7 E D) 64 84 Qno W1
theorem Zab (Au:Fn) (v0 T:Rw) (X U Y v5 v6 v7 v8 v9 v10 v11 v12 D E G J L M N v20 v21 v22:Int) (O:Rw) (v24:Int):SZ Au [.vC Aa v0, .vC Aa T,I X,I U,I Y,I v5,I v6,I v7,I v8,I v9,I v10,I v11,I v12,I D,I E,I G,I J,I L,I M,I N,I v20,I v21,I v22, .vC Aa O,I v24]=
 cond (decide (Y<X)) (cond (((T++[[I U]]).length*8).ble 140737488355328) ((Au [I (V (V (2*V (v22.tdiv 4))+1)), .vC Aa O,I v24]).bind λS=>
 some (0,[.vC Aa v0, .vC Aa (T++[[I U]]),I X,I (mn (mx (V (V (U+gA S 0)-V (v22.tdiv 4))) (-4096)) 4096),I (V (Y+1)),I v5,I v6,I v7,I v8,I v9,I v10,I v11,I v12,I D,I E,I G,I J,I L,I M,I N,I v20,I v21,I v22, .vC Aa (wA S 1),jA S 2])) (none)) (some (1,[.vC Aa v0, .vC Aa T,I v5,I v6,I v7,I v8,I v9,I v10,I v11,I v12,I D,I E,I G,I J,I L,I M,I N,I v20,I v21,I v22, .vC Aa O,I v24])):=by kernel_rfl
theorem Zjp (O:Fn) (X:Lp) (Y:Rw) (x1:Int):WF O X [.vC Aa Y,I x1]=
 (O [I 6, .vC Aa Y,I x1]).bind λE=>
 cond (decide (0<=gA E 0)&&decide (gA E 0<(↑[[I 8],[I 4],[I 5],[I 16],[I 23],[I 64]].length:Int))) ((O [I 4, .vC Aa (wA E 1),jA E 2]).bind λG=>
 cond (decide (0<=gA G 0)&&decide (gA G 0<(↑[[I 0],[I 1],[I 3],[I 6]].length:Int))) ((O [I 5, .vC Aa (wA G 1),jA G 2]).bind λJ=>
 cond (decide (0<=gA J 0)&&decide (gA J 0<(↑[[I 40],[I 1],[I 3],[I 9],[I 1000]].length:Int))) ((O [I 5, .vC Aa (wA J 1),jA J 2]).bind λL=>
 cond (decide (0<=gA L 0)&&decide (gA L 0<(↑[[I 20],[I 2],[I 3],[I 5],[I 1000]].length:Int))) ((O [I 5, .vC Aa (wA L 1),jA L 2]).bind λM=>
 cond (decide (0<=gA M 0)&&decide (gA M 0<(↑[[I 30],[I 4],[I 5],[I 8],[I 1000]].length:Int))) ((O [I 5, .vC Aa (wA M 1),jA M 2]).bind λN=>
 cond (gA N 0==0) (some [I (Af (nth .vD (nth [] [[I 8],[I 4],[I 5],[I 16],[I 23],[I 64]] (gA E 0).toNat) 0)),I (Af (nth .vD (nth [] [[I 40],[I 1],[I 3],[I 9],[I 1000]] (gA J 0).toNat) 0)),I (Af (nth .vD (nth [] [[I 20],[I 2],[I 3],[I 5],[I 1000]] (gA L 0).toNat) 0)),I (Af (nth .vD (nth [] [[I 30],[I 4],[I 5],[I 8],[I 1000]] (gA M 0).toNat) 0)),I (-16777216),I 16777216,I (Af (nth .vD (nth [] [[I 0],[I 1],[I 3],[I 6]] (gA G 0).toNat) 0)),I 0,I 0, .vC Aa [], .vC Aa (wA N 1),jA N 2]) ((O [I 400, .vC Aa (wA N 1),jA N 2]).bind λS=>
 (O [I 120, .vC Aa (wA S 1),jA S 2]).bind λT=>
 (O [I 9, .vC Aa (wA T 1),jA T 2]).bind λU=>
 (X [.vC Aa [], .vC Aa [],jA N 0,I (V (gA U 0-4)),I 0,I 0,I 0,I 0,I 0,I 0,I 0,I 0,I 0,I 0,I (Af (nth .vD (nth [] [[I 8],[I 4],[I 5],[I 16],[I 23],[I 64]] (gA E 0).toNat) 0)),I (Af (nth .vD (nth [] [[I 40],[I 1],[I 3],[I 9],[I 1000]] (gA J 0).toNat) 0)),I (Af (nth .vD (nth [] [[I 20],[I 2],[I 3],[I 5],[I 1000]] (gA L 0).toNat) 0)),I (Af (nth .vD (nth [] [[I 30],[I 4],[I 5],[I 8],[I 1000]] (gA M 0).toNat) 0)),I (-16777216),I 16777216,I (Af (nth .vD (nth [] [[I 0],[I 1],[I 3],[I 6]] (gA G 0).toNat) 0)),I (V (gA S 0-200)),I (V (4+gA T 0)), .vC Aa (wA U 1),jA U 2]).bind λD=>
 cond (D.1.beq 1) (some [jA D.2 11,jA D.2 12,jA D.2 13,jA D.2 14,jA D.2 15,jA D.2 16,jA D.2 17,jA D.2 18,jA D.2 19, .vC Aa (wA D.2 1), .vC Aa (wA D.2 20),jA D.2 21]) (none))) (none)) (none)) (none)) (none)) (none):=by kernel_rfl
def Qrx:=Am (SZ BY)
def Oa:=WF BY Qrx
theorem Qx8:Aj PG (YO BY):=Ap rfl ⟨JE,trivial⟩
theorem Z7s:An PG (Zn1 Oa):=rw2 (C:=Qu7 BY Qrx) (fl fb Qx8) Qx8
def Qmk:Sk:=⟨[TS.v true (cc 9++[sa Aa]++cc 9++[sa Aa]++cc 9++[sa Aa])],[],[]⟩
def Z52:=qa 46 Qic Qmk
def Qf2 (D E:Fn):Cfg:=cp [Zn1 D,R0 E] [84,45]
def Q0u (D E:Fn):Fn:=Ao PG (Qf2 D E) 64 46 Qic Qmk
theorem Ya4 (I J:Fn) (L:Rw):Q0u I J [.vC Aa L]=
 (J [.vC Aa L]).bind λo4=>
 (I [.vC Aa (wA o4 0),jA o4 1]).bind λD=>
 (I [.vC Aa (wA D 10),jA D 11]).bind λE=>
 (I [.vC Aa (wA E 10),jA E 11]).bind λG=>
 some [jA D 0,jA D 1,jA D 2,jA D 3,jA D 4,jA D 5,jA D 6,jA D 7,jA D 8, .vC Aa (wA D 9),jA E 0,jA E 1,jA E 2,jA E 3,jA E 4,jA E 5,jA E 6,jA E 7,jA E 8, .vC Aa (wA E 9),jA G 0,jA G 1,jA G 2,jA G 3,jA G 4,jA G 5,jA G 6,jA G 7,jA G 8, .vC Aa (wA G 9)]:=by kernel_rfl
def Pe:=Q0u Oa C6
theorem Z9r:Aj PG (Qf2 Oa C6):=Ap rfl ⟨Z7s,RM,trivial⟩
theorem Zti:An PG (Z52 Pe):=rw1 (C:=Qf2 Oa C6) Z9r
def Qtq:Sk:=⟨[tf [sa Aa],tf [sa Aa]],[],[]⟩
def Zoq:=qa 15 Qtq Xq
def Xh (D E G I:Fn):Cfg:=cp [Kb D,Zgz E,Z52 G,R0 I] [48,45]
def Za (D E G I:Fn):Fn:=Ao PG (Xh D E G I) 64 15 Qtq Xq
theorem Z1l (G M N O:Fn) (S E:Rw):Za G M N O [.vC Aa S, .vC Aa E]=
 (O [.vC Aa E]).bind λT=>
 (N [.vC Aa S]).bind λD=>
 (M [.vC Aa E]).bind λJ=>
 (G [I 60000, .vC Aa (wA T 0),I (mn 3 (E.length:Int))]).bind λL=>
 (G [I 40, .vC Aa (wA L 1),jA L 2]).bind λU=>
 some [jA D 0,jA D 1,jA D 2,jA D 3,jA D 4,jA D 5,jA D 6,jA D 7,jA D 8, .vC Aa (wA D 9),jA D 10,jA D 11,jA D 12,jA D 13,jA D 14,jA D 15,jA D 16,jA D 17,jA D 18, .vC Aa (wA D 19),jA D 20,jA D 21,jA D 22,jA D 23,jA D 24,jA D 25,jA D 26,jA D 27,jA D 28, .vC Aa (wA D 29),jA J 0,jA J 1,jA J 2,I (V (1+gA L 0)),jA U 0]:=by kernel_rfl
def KU:=Za BY Sy Pe C6
theorem Z2g:Aj PG (Xh BY Sy Pe C6):=Ap rfl ⟨JE,Zyy,Zti,RM,trivial⟩
theorem Z87:An PG (Zoq KU):=rw1 (C:=Xh BY Sy Pe C6) Z2g
def Qfu:Sk:=⟨[tf [sa [Kd.sl Aa]]],[],[]⟩
def Z9v:=qa 44 Qfu Qrs
def Q3c:Sk:=⟨[td,td,td,td,td,tf [sa [Kd.sl Aa]],tf [ci],tf [ci]]++dd 7,[],[]⟩
def Qw2:List (Ex×Sk):=[(Ex.ret,⟨[td,td,tf [sb]]++dd 12,[],[]⟩),(Ex.exit 0,⟨[td]++dd 14,[],[]⟩)]
def Uj:Lp:=A9 PG Qdd 64 2 (A8 PG 44 2) Q3c Qw2
def Q8y (D:Lp):Cfg:=Qdd.loop 2 Q3c Qw2 D
def W7 (D:Lp):Fn:=Ao PG (Q8y D) 64 44 Qfu Qrs
theorem Z18 (v0:Rw) (E D:Int):Uj [.vC [Kd.sl Aa] v0,I E,I D]=
 cond (decide (D<E)) (cond (decide (0<=D)&&decide (D<(v0.length:Int))) (cond (decide ((↑(wA (nth [] v0 D.toNat) 0).length:Int)>60)) (some (1,[B false])) (some (0,[.vC [Kd.sl Aa] v0,I E,I (V (D+1))]))) (none)) (some (2,[])):=by kernel_rfl
theorem Z1i (E:Lp) (D:Rw):W7 E [.vC [Kd.sl Aa] D]=
 (E [.vC [Kd.sl Aa] D,I (D.length:Int),I 0]).bind λo1=>
 cond (o1.1.beq 1) (some [B (bA o1.2 0)]) (cond (o1.1.beq 2) (some [B true]) (none)):=by kernel_rfl
def Zdl:=Am (Uj)
def Ls:=W7 Zdl
theorem Znc:An PG (Z9v Ls):=rw2 (C:=Q8y Zdl) (fl fb Zhu) Zhu
abbrev Q8j (D:Int) (E:Fn) (G J L M N O S T U:Int) (V:Rw) (X Y a0:Int):Option (List AC):=
 cond (decide (D=(↑0:Int))) ((E [I G,I J,I L,I M,I N,I O,I S,I T,I U, .vC Aa V,I X]).bind λa1=>
 some [jA a1 0]) (cond (decide (D=(↑(0+1):Int))) ((E [I G,I J,I L,I M,I N,I O,I S,I T,I U, .vC Aa V,I Y]).bind λa2=>
 some [jA a2 0]) (cond (decide (D=(↑(0+1+1):Int))) ((E [I G,I J,I L,I M,I N,I O,I S,I T,I U, .vC Aa V,I a0]).bind λa3=>
 some [jA a3 0]) (none)))
abbrev TX (D E J:Int) (G:Bool):Option (List AC):=
 cond (G) (some [I (V (0-mn (V (D-E)) J))]) (some [I (V (mn (V (D-E)) J-J))])
abbrev Vu (D:Int) (O:Fn) (S T U V X Y N x7 x8:Int) (x9:Rw) (I J L E G:Int) (M:Bool):Option (List AC):=
 cond (M) (Q8j D O S T U V X Y N x7 x8 x9 I J L) (cond (decide (D=(↑0:Int))) (TX E G N (I== -1)) (cond (decide (D=(↑(0+1):Int))) (TX E G N (J== -1)) (cond (decide (D=(↑(0+1+1):Int))) (TX E G N (L== -1)) (none))))
abbrev Zz3 (D:Int) (S:Fn) (T U V X Y x5 x6 x7 x8:Int) (x9:Rw) (E G I J L:Int) (M N O:Bool):Option (List AC):=
 cond (decide (D=(↑0:Int))) (Vu D S T U V X Y x5 x6 x7 x8 x9 E G I J L M) (cond (decide (D=(↑(0+1):Int))) (Vu D S T U V X Y x5 x6 x7 x8 x9 E G I J L N) (cond (decide (D=(↑(0+1+1):Int))) (Vu D S T U V X Y x5 x6 x7 x8 x9 E G I J L O) (none)))
attribute [go_sem] Sz OY G1 Qse Qhv Qfc YT Rx Vb Tf Th T8 Qc8 RY Qaa Qj4 Qi0 Qf0 L1 RV QE Se Tc Qge Xy Qqr Q8j TX Vu Zz3
end Go.Bm
