/- functions of the program and of the references, as models -/
import Derived.Test.YtommijghjlikkaaGreatMx1
set_option linter.unusedSimpArgs false
set_option linter.unusedVariables false
set_option maxRecDepth 100000
noncomputable section
open Go.IntKind (wrap)
namespace Go.Bm
open Go.Proofs
def Z9u (M:Fn):Nat×Spec:=(99,Ad Qdd Qll M)
def Qhw (D E G:Fn):Cfg:=cr [Z5q D,SF E,Qd G] [63] [63]
def Qj6 (D E G:Fn):Fn:=An PG (Qhw D E G) 64 99 Qdd Qll
abbrev RN (M:Int) (N:Fn) (c:Cv) (K:Kf) (D:List AC) (E:AC):Option (List AC):=
 bif decide (wrap .i64 (M.tdiv 1048576)=(↑0:Int))then
 (N [I c.g0,I c.g1,I c.g2,I K.lag,jA D 0,jA D 1,jA D 2,E,jA D 1,jA D 2]).bind λG=>
 some (Ab K {c with g0:=gA G 0,g1:=gA G 1,g2:=gA G 2})
 else
 bif decide (wrap .i64 (M.tdiv 1048576)=(↑(0+1):Int))then
 (N [I c.g0,I c.g1,I c.g2,I K.lag,jA D 0,jA D 1,jA D 2,jA D 0,E,jA D 2]).bind λJ=>
 some (Ab K {c with g0:=gA J 0,g1:=gA J 1,g2:=gA J 2})
 else
 bif decide (wrap .i64 (M.tdiv 1048576)=(↑(0+1+1):Int))then
 (N [I c.g0,I c.g1,I c.g2,I K.lag,jA D 0,jA D 1,jA D 2,jA D 0,jA D 1,E]).bind λL=>
 some (Ab K {c with g0:=gA L 0,g1:=gA L 1,g2:=gA L 2})
 else
 none
theorem Zuz (G L M:Fn) (E:Int) (K:Kf) (c:Cv):Qj6 G L M (I E::Ab K c)=
 bif decide (E<0)then
 some (Ab K c)
 else
 bif decide (wrap .i64 (E.tdiv 1048576)>2)then
 some (Ab K c)
 else
 (M (Ab K c)).bind λJ=>
 (L (pxt K.p K.x K.t [jA J 0])).bind λD=>
 bif decide (wrap .i64 (E.tdiv 1048576)=(↑0:Int))then
 RN E G c K D (I (wrap .i64 (gA D 0-E.tmod 1048576)))
 else
 bif decide (wrap .i64 (E.tdiv 1048576)=(↑(0+1):Int))then
 RN E G c K D (I (wrap .i64 (gA D 1-E.tmod 1048576)))
 else
 bif decide (wrap .i64 (E.tdiv 1048576)=(↑(0+1+1):Int))then
 RN E G c K D (I (wrap .i64 (gA D 2-E.tmod 1048576)))
 else
 none:=by kernel_rfl
def Jv:=Qj6 Oe Et Dj
theorem Z11:Aj PG (Qhw Oe Et Dj):=Hb (rs:=[63]) rfl ⟨Zrf,UD,Qh,trivial⟩ rfl (CA rfl (CA rfl (Fg Hs)))
theorem Zku:Am PG (99,Ad Qdd Qll Jv):=rw1 (C:=(Qhw Oe Et Dj)) Z11
def ZS:Sk:=⟨[],[],[]⟩
def Qsw (M:Fn):Nat×Spec:=(56,Ad ZS Qah M)
def PR:Fn:=An PG Qbm 64 56 ZS Qah
theorem W3:PR []=
 some [I 0,I 0,I (-1)]:=by kernel_rfl
def Kq:=PR
theorem Qxu:Am PG (56,Ad ZS Qah Kq):=rw1 (C:=Qbm) Zes
def Zpy (M:Fn):Nat×Spec:=(144,Ad Qe5 Qah M)
def Ya:Fn:=An PG Qbm 64 144 Qe5 Qah
theorem Zsz (E D G J L:Int):Ya [I E,I D,I G,I J,I L]=
 bif E==2 then
 some [I E,I D,I G]
 else
 bif D==0 then
 some [I 1,I J,I L]
 else
 some [I 1,I D,I G]:=by kernel_rfl
def QH:=Ya
theorem Zv7:Am PG (144,Ad Qe5 Qah QH):=rw1 (C:=Qbm) Zes
def Qcg:Sk:=⟨[TS.v true [ci,ci,ci],TS.v true [ci,ci,ci]],[],[]⟩
def Zmg (M:Fn):Nat×Spec:=(98,Ad Qcg Qah M)
def Ql3 (D E:Fn):Cfg:=cf [Qsw D,Zpy E]
def Qf9 (D E:Fn):Fn:=An PG (Ql3 D E) 64 98 Qcg Qah
theorem Zh5 (O M:Fn) (D E G S J L:Int):Qf9 O M [I D,I E,I G,I S,I J,I L]=
 bif J==10 then
 some [I 2,I 22,I (-1)]
 else
 bif J==9 then
 (M [I D,I E,I G,I 21,I (-1)]).bind λo3=>
 some [jA o3 0,jA o3 1,jA o3 2]
 else
 bif J==8 then
 bif decide (L>=0)then
 bif decide (L<=2)then
 (M [I D,I E,I G,I 20,I L]).bind λo4=>
 some [jA o4 0,jA o4 1,jA o4 2]
 else
 some [I D,I E,I G]
 else
 some [I D,I E,I G]
 else
 bif J==11 then
 (O []).bind λN=>
 some [jA N 0,jA N 1,jA N 2]
 else
 some [I D,I E,I G]:=by kernel_rfl
def UA:=Qf9 Kq QH
theorem Zpx:Aj PG (Ql3 Kq QH):=Ap rfl ⟨Qxu,Zv7,trivial⟩
theorem Zzz:Am PG (98,Ad Qcg Qah UA):=rw1 (C:=(Ql3 Kq QH)) Zpx
def Qqv:Sk:=⟨[tf [CS.bool],tf [ci]],[],[]⟩
def Zm4 (M:Fn):Nat×Spec:=(143,Ad Qqv Qpq M)
def YI:Fn:=An PG Qbm 64 143 Qqv Qpq
theorem Zic (E:Bool) (D:Int):YI [B E,I D]=
 bif D==0 then
 some [B false]
 else
 bif D==1 then
 some [B true]
 else
 some [B E]:=by kernel_rfl
def PW:=YI
theorem Zmy:Am PG (143,Ad Qqv Qpq PW):=rw1 (C:=Qbm) Zes
def Qnw:Sk:=⟨[TS.v true [ci,ci,CS.bool,CS.bool,CS.bool],TS.v true [ci,ci,ci]],[],[]⟩
def Qny:Sk:=⟨[TS.v true [ci,ci,CS.bool,CS.bool,CS.bool]],[],[]⟩
def Zs0 (M:Fn):Nat×Spec:=(97,Ad Qnw Qny M)
def Z4 (D:Fn):Cfg:=cf [Zm4 D]
def Sb (D:Fn):Fn:=An PG (Z4 D) 64 97 Qnw Qny
theorem Q1o (O:Fn) (G J:Int) (L D E:Bool) (S N M:Int):Sb O [I G,I J,B L,B D,B E,I S,I N,I M]=
 bif N==1 then
 bif decide (0<=M)then
 bif decide (M<=200)then
 some [I M,I J,B L,B D,B E]
 else
 some [I G,I J,B L,B D,B E]
 else
 some [I G,I J,B L,B D,B E]
 else
 bif N==2 then
 bif decide (0<=M)then
 bif decide (M<=100)then
 some [I G,I M,B L,B D,B E]
 else
 some [I G,I J,B L,B D,B E]
 else
 some [I G,I J,B L,B D,B E]
 else
 bif N==3 then
 some [I G,I J,B true,B D,B E]
 else
 bif N==4 then
 some [I G,I J,B false,B D,B E]
 else
 bif N==5 then
 (O [B D,I M]).bind λo2=>
 some [I G,I J,B L,B (bA o2 0),B E]
 else
 bif N==6 then
 (O [B E,I M]).bind λo3=>
 some [I G,I J,B L,B D,B (bA o3 0)]
 else
 some [I G,I J,B L,B D,B E]:=by kernel_rfl
def Sw:=Sb PW
theorem Zp4:Aj PG (Z4 PW):=Ap rfl ⟨Zmy,trivial⟩
theorem Zxt:Am PG (97,Ad Qnw Qny Sw):=rw1 (C:=(Z4 PW)) Zp4
def WT:Sk:=⟨[tf [CS.ptr 20000 0],TS.v true [ci,ci,ci]],[(20000,119,cS)],[]⟩
def Zpg (M:Fn):Nat×Spec:=(60,Ad WT Qll M)
def Qn3 (D E G I J:Fn):Cfg:=cp [Zlv D,Z3c E,Z9u G,Zmg I,Zs0 J] [101,100,99]
def Sx (D E G I J:Fn):Fn:=An PG (Qn3 D E G I J) 64 60 WT Qll
theorem Qxe (M N O S T:Fn) (L G J:Int) (K:Kf) (c:Cv):Sx M N O S T (I L::I G::I J::Ab K c)=
 (T [I c.o0,I c.o1,B c.o2,B c.o3,B c.o4,I L,I G,I J]).bind λD=>
 (S [I c.g0,I c.g1,I c.g2,I L,I G,I J]).bind λE=>
 bif G==13 then
 (O (I J::Ab K {c with o0:=gA D 0,o1:=gA D 1,o2:=bA D 2,o3:=bA D 3,o4:=bA D 4,g0:=gA E 0,g1:=gA E 1,g2:=gA E 2})).bind λU=>
 some (cR 0 U)
 else
 bif G==11 then
 some (Ab K {c with o0:=gA D 0,o1:=gA D 1,o2:=true,o3:=bA D 3,o4:=bA D 4,g0:=gA E 0,g1:=gA E 1,g2:=gA E 2})
 else
 bif G==12 then
 (N (Ab K {c with o0:=gA D 0,o1:=gA D 1,o2:=bA D 2,o3:=bA D 3,o4:=bA D 4,g0:=gA E 0,g1:=gA E 1,g2:=gA E 2})).bind λV=>
 some (cR 0 V)
 else
 bif G==7 then
 (M (I J::Ab K {c with o0:=gA D 0,o1:=gA D 1,o2:=bA D 2,o3:=bA D 3,o4:=bA D 4,g0:=gA E 0,g1:=gA E 1,g2:=gA E 2})).bind λX=>
 some (cR 0 X)
 else
 bif G==4 then
 some (Ab K {c with o0:=gA D 0,o1:=gA D 1,o2:=bA D 2,o3:=bA D 3,o4:=bA D 4,g0:=gA E 0,g1:=gA E 1,g2:=gA E 2,aI:=true})
 else
 some (Ab K {c with o0:=gA D 0,o1:=gA D 1,o2:=bA D 2,o3:=bA D 3,o4:=bA D 4,g0:=gA E 0,g1:=gA E 1,g2:=gA E 2}):=by kernel_rfl
def Jr:=Sx Q3 Ms Jv UA Sw
theorem Zto:Aj PG (Qn3 Q3 Ms Jv UA Sw):=Ap rfl ⟨Z9a,Zqk,Zku,Zzz,Zxt,trivial⟩
theorem Zik:Am PG (60,Ad WT Qll Jr):=rw1 (C:=(Qn3 Q3 Ms Jv UA Sw)) Zto
def Qq1:Sk:=⟨[tf [CS.ptr 20000 0],tf [CS.sl kPt]],[(20000,119,cS)],[]⟩
def Zi:Sk:=⟨[TS.v true ([CS.sl kPt,CS.sl Aa]++cc 7)],[(20000,119,cS)],[]⟩
def Zc5 (M:Fn):Nat×Spec:=(21,Ad Qq1 Zi M)
def Qfg (D E G I J L M N O S T U:Fn):Cfg:=cr [Zvi D,Zn0 E,Zph G,Zv4 I,Zwj J,Zpi L,Zpr M,Q2g N,Qd O,Z8i S,Zvo T,Zpg U] [71,70,69,68,67,66,65,63,61,60] [63,61]
def Q3f:Sk:=⟨[tf [CS.ptr 20000 0],td,td,td,tf [CS.ptr 4 0]]++dd 14++[tf [CS.sl kPt],tf [ci],tf [ci]]++dd 93,[(4,46,[CS.sl kPt,CS.sl Aa]++cc 7),(20000,119,cS)],[]⟩
def Zbo:List (Ex×Sk):=[(Ex.exit 0,⟨[tf [CS.ptr 20000 0],td,td,td,tf [CS.ptr 4 0]]++dd 110,[(4,46,[CS.sl kPt,CS.sl Aa]++cc 7),(20000,119,cS)],[]⟩)]
def Nq (D E G I J L M N O S T U:Fn):Lp:=AW PG (Qfg D E G I J L M N O S T U) 64 3 (AV PG 21 3) Q3f Zbo
def Qz8 (D E G I J L M N O S T U:Fn) (V:Lp):Cfg:=(Qfg D E G I J L M N O S T U).loop 3 Q3f Zbo V
def Q75:Sk:=⟨[tf [CS.ptr 20000 0],td,td,td,tf [CS.ptr 4 0],td,td,tf [ci],tf [CS.ptr 8 0]]++dd 81++[tf [CS.bsl 90 5],tf [ci],tf [ci]]++dd 22,[(4,46,[CS.sl kPt,CS.sl Aa]++cc 7),(8,46,[CS.sl kPt,CS.sl Aa]++cc 7),(90,125,[CS.clo 65 [(20000,0)] [],CS.clo 66 [(20000,0)] [],CS.clo 67 [(20000,0)] [],CS.clo 68 [(20000,0)] [],CS.clo 69 [(20000,0)] []]),(20000,119,cS)],[]⟩
def Q7d:List (Ex×Sk):=[(Ex.exit 2,⟨[tf [CS.ptr 20000 0],td,td,td,tf [CS.ptr 4 0],td,td,tf [ci],tf [CS.ptr 8 0]]++dd 106,[(4,46,[CS.sl kPt,CS.sl Aa]++cc 7),(8,46,[CS.sl kPt,CS.sl Aa]++cc 7),(20000,119,cS)],[]⟩)]
def E7 (D E G I J L M N O S T U:Fn) (V:Lp):Lp:=AW PG (Qz8 D E G I J L M N O S T U V) 64 16 (AV PG 21 16) Q75 Q7d
def Qyh (E G I J L M N O S T U V:Fn) (X D:Lp):Cfg:=(Qz8 E G I J L M N O S T U V X).loop 16 Q75 Q7d D
def UK (E G I J L M N O S T U V:Fn) (X D:Lp):Fn:=An PG (Qyh E G I J L M N O S T U V X D) 64 21 Qq1 Zi
theorem Qzb (V X Y EY ET EO EU B7 A5 DJ DI U:Fn) (v0:Rw) (E D:Int) (G J:Rw) (L M N O S v10 v11:Int) (K:Kf) (c:Cv):Nq V X Y EY ET EO EU B7 A5 DJ DI U (.view kPt v0::I E::I D:: .view kPt G:: .view Aa J::I L::I M::I N::I O::I S::I v10::I v11::Ab K c)=
 bif decide (D<E)then
 bif decide (0<=D)&&decide (D<(v0.length:Int))then
 (U (jA (nth [] v0 D.toNat) 0::jA (nth [] v0 D.toNat) 1::jA (nth [] v0 D.toNat) 2::Ab K c)).bind λT=>
 some (0,(.view kPt v0::I E::I (wrap .i64 (D+1)):: .view kPt G:: .view Aa J::I L::I M::I N::I O::I S::I v10::I v11::cR 0 T))
 else
 none
 else
 some (1,(.view kPt G:: .view Aa J::I L::I M::I N::I O::I S::I v10::I v11::Ab K c)):=by kernel_rfl
abbrev Ou (v0:Int) (U V:Rw) (X Y v7 v8 v9 v10 v11:Int) (v12 E:Rw) (G J L M N v20 v1 v2 T:Int) (O:Bool) (S:AC) (D:List AC):Option (Nat×List AC):=
 bif O then
 some (1,(I v0:: .view kPt U:: .view Aa V::I X::I Y::I v7::I v8::I v9::I v10::I v11:: .view kPt v12:: .view Aa E::S::I G::I J::I L::I M::I N::I v20::D))
 else
 some (0,(I v0::I v1::I (wrap .i64 (v2+1)):: .view kPt U:: .view Aa V::I X::I Y::I v7::I v8::I v9::I v10::I v11:: .view kPt v12:: .view Aa E::I T::I G::I J::I L::I M::I N::I v20::D))
theorem Q6s (CR C6 EQ EY ET EO EU B7 A5 DJ DI EM:Fn) (N3:Lp) (v0 S O:Int) (T U:Rw) (V X Y v8 v9 v10 v11:Int) (v12 D:Rw) (E G J L M N v20:Int) (K:Kf) (c:Cv):E7 CR C6 EQ EY ET EO EU B7 A5 DJ DI EM N3 (I v0::I S::I O:: .view kPt T:: .view Aa U::I V::I X::I Y::I v8::I v9::I v10::I v11:: .view kPt v12:: .view Aa D::I E::I G::I J::I L::I M::I N::I v20::Ab K c)=
 bif decide (O<S)then
 bif decide (O=(↑0:Int))then
 (EU (Ab K c)).bind λa0=>
 Ou v0 T U V X Y v8 v9 v10 v11 v12 D G J L M N v20 S O E (bA a0 1) (jA a0 0) (cR 2 a0)
 else
 bif decide (O=(↑(0+1):Int))then
 (EO (Ab K c)).bind λa1=>
 Ou v0 T U V X Y v8 v9 v10 v11 v12 D G J L M N v20 S O E (bA a1 1) (jA a1 0) (cR 2 a1)
 else
 bif decide (O=(↑(0+1+1):Int))then
 (ET (Ab K c)).bind λa2=>
 Ou v0 T U V X Y v8 v9 v10 v11 v12 D G J L M N v20 S O E (bA a2 1) (jA a2 0) (cR 2 a2)
 else
 bif decide (O=(↑(0+1+1+1):Int))then
 (EY (Ab K c)).bind λa3=>
 Ou v0 T U V X Y v8 v9 v10 v11 v12 D G J L M N v20 S O E (bA a3 1) (jA a3 0) (cR 2 a3)
 else
 bif decide (O=(↑(0+1+1+1+1):Int))then
 (EQ (Ab K c)).bind λa4=>
 Ou v0 T U V X Y v8 v9 v10 v11 v12 D G J L M N v20 S O E (bA a4 1) (jA a4 0) (cR 2 a4)
 else
 none
 else
 some (1,(I v0:: .view kPt T:: .view Aa U::I V::I X::I Y::I v8::I v9::I v10::I v11:: .view kPt v12:: .view Aa D::I E::I G::I J::I L::I M::I N::I v20::Ab K c)):=by kernel_rfl
abbrev GQ (O:Lp) (J:Nat×List AC) (T S:Fn) (L:AC) (M:List AC):Option (List AC):=
 (O (L::I (↑5:Int)::I 0:: .view kPt (wA J.2 0):: .view Aa (wA J.2 1)::jA J.2 2::jA J.2 3::jA J.2 4::jA J.2 5::jA J.2 6::jA J.2 7::jA J.2 8:: .view kPt []:: .view Aa []::I 0::I 0::I 0::I 0::I 0::I 0::I 0::M)).bind λD=>
 bif D.1.beq 1 then
 bif gA D.2 12==0 then
 (T (cR 19 D.2)).bind λN=>
 (S (jA D.2 0::(cR 1 N++[.view kPt (wA D.2 10), .view Aa (wA D.2 11),jA N 0,jA D.2 13,jA D.2 14,jA D.2 15,jA D.2 16,jA D.2 17,jA D.2 18]))).bind λE=>
 some (.view kPt (wA E 90):: .view Aa (wA E 91)::jA E 92::jA E 93::jA E 94::jA E 95::jA E 96::jA E 97::jA E 98::cR 0 E)
 else
 (S (jA D.2 0::(cR 19 D.2++[.view kPt (wA D.2 10), .view Aa (wA D.2 11),jA D.2 12,jA D.2 13,jA D.2 14,jA D.2 15,jA D.2 16,jA D.2 17,jA D.2 18]))).bind λG=>
 some (.view kPt (wA G 90):: .view Aa (wA G 91)::jA G 92::jA G 93::jA G 94::jA G 95::jA G 96::jA G 97::jA G 98::cR 0 G)
 else
 none
abbrev Qqc (V:Fn) (D:Nat×List AC) (X O S:Fn) (G:Lp) (T U:Fn):Option (List AC):=
 (V (DQ (cR 9 D.2) [(58,B true),(86,jA D.2 76)])).bind λI=>
 bif !bA I 0 then
 (X [jA D.2 73,jA D.2 74,jA D.2 75,jA D.2 76,jA D.2 42]).bind λE=>
 (O (DQ (cR 9 D.2) [(58,B true),(64,jA E 0),(65,jA E 1),(66,jA E 2),(67,jA E 3),(86,jA D.2 76)])).bind λJ=>
 (S [jA D.2 59,jA D.2 60,jA D.2 61,jA D.2 62,jA D.2 63,jA D.2 64]).bind λL=>
 GQ G D T U (jA J 0) (DQ (cR 9 D.2) [(58,B true),(64,jA E 0),(65,jA E 1),(66,jA E 2),(67,jA E 3),(86,jA D.2 76),(88,B (bA L 0))])
 else
 (O (DQ (cR 9 D.2) [(58,B true),(86,jA D.2 76)])).bind λM=>
 (S [jA D.2 59,jA D.2 60,jA D.2 61,jA D.2 62,jA D.2 63,jA D.2 64]).bind λN=>
 GQ G D T U (jA M 0) (DQ (cR 9 D.2) [(58,B true),(86,jA D.2 76),(88,B (bA N 0))])
theorem Qzr (J L EQ EY ET EO EU M N O S EM:Fn) (N3 G:Lp) (T:Rw) (K:Kf) (c:Cv):UK J L EQ EY ET EO EU M N O S EM N3 G (.view kPt T::Ab K c)=
 (N3 (.view kPt T::I (T.length:Int)::I 0:: .view kPt []:: .view Aa []::I 0::I 0::I 0::I 0::I 0::I 0::I 0::Ab K {c with aI:=false,aK:=false})).bind λD=>
 bif D.1.beq 1 then
 bif bA D.2 86 then
 Qqc S D O N M G L J
 else
 bif gA D.2 70 !=0 then
 Qqc S D O N M G L J
 else
 (S (DQ (cR 9 D.2) [(86,jA D.2 76)])).bind λU=>
 bif !bA U 0 then
 (O [jA D.2 73,jA D.2 74,jA D.2 75,jA D.2 76,jA D.2 42]).bind λE=>
 (N (DQ (cR 9 D.2) [(64,jA E 0),(65,jA E 1),(66,jA E 2),(67,jA E 3),(86,jA D.2 76)])).bind λV=>
 (M [jA D.2 59,jA D.2 60,jA D.2 61,jA D.2 62,jA D.2 63,jA D.2 64]).bind λX=>
 GQ G D L J (jA V 0) (DQ (cR 9 D.2) [(64,jA E 0),(65,jA E 1),(66,jA E 2),(67,jA E 3),(86,jA D.2 76),(88,B (bA X 0))])
 else
 (N (DQ (cR 9 D.2) [(86,jA D.2 76)])).bind λY=>
 (M [jA D.2 59,jA D.2 60,jA D.2 61,jA D.2 62,jA D.2 63,jA D.2 64]).bind λa0=>
 GQ G D L J (jA Y 0) (DQ (cR 9 D.2) [(86,jA D.2 76),(88,B (bA a0 0))])
 else
 none:=by kernel_rfl
def SO:=Al (Nq Li Ki Jc KQ L3 LN LL HW Dj Ko Lf Jr)
def Q7e:=Al (E7 Li Ki Jc KQ L3 LN LL HW Dj Ko Lf Jr SO)
def Gy:=UK Li Ki Jc KQ L3 LN LL HW Dj Ko Lf Jr SO Q7e
theorem Y1:Aj PG (Qfg Li Ki Jc KQ L3 LN LL HW Dj Ko Lf Jr):=Hb (rs:=[63,61]) rfl ⟨Zgh,Zqs,Z0y,Z13,Zf0,Zr2,Znq,Qyl,Qh,Zfb,Zg1,Zik,trivial⟩ rfl (CA rfl (CA rfl (CA rfl (CA rfl (CA rfl (CA rfl (CA rfl (CA rfl (Fg (CA rfl (Fg (CA rfl Hs))))))))))))
theorem Q7f:Am PG (21,Ad Qq1 Zi Gy):=rw2 (C:=(Qyh Li Ki Jc KQ L3 LN LL HW Dj Ko Lf Jr SO Q7e)) (fl (fl fb Y1) Y1) Y1
def Qjd:Sk:=⟨[TS.v true [ci,ci,ci,CS.sl Ah,CS.sl kPt]],[(20000,119,cS)],[]⟩
def Z7q (M:Fn):Nat×Spec:=(26,Ad Qn5 Qjd M)
def Q20:Fn:=An PG Qbm 64 26 Qn5 Qjd
theorem Zwh (K:Kf) (c:Cv):Q20 (Ab K c)=
 bif((K.p.aE.map Av).length*56).ble 140737488355328 then
 bif((K.p.aC.map At).length*24).ble 140737488355328 then
 some (Br K.p++Ab K c)
 else
 none
 else
 none:=by kernel_rfl
def Km:=Q20
theorem Zkm:Am PG (26,Ad Qn5 Qjd Km):=rw1 (C:=Qbm) Zes
def Qe6:Sk:=⟨[TS.v true (cc 13++[CS.bool,ci,CS.bool]++cc 5++[CS.bool])],[],[]⟩
def U1 (M:Fn):Nat×Spec:=(81,Ad Qe6 Qpq M)
def Qt0:Fn:=An PG Qbm 64 81 Qe6 Qpq
theorem Z68 (X x1 Y x3 x4 x5 x6 x7 x8 x9 D E G:Int) (J:Bool) (L:Int) (M:Bool) (N O S T U:Int) (V:Bool):Qt0 [I X,I x1,I Y,I x3,I x4,I x5,I x6,I x7,I x8,I x9,I D,I E,I G,B J,I L,B M,I N,I O,I S,I T,I U,B V]=
 bif X==2 then
 some [B !(Y==x5&&(x3==x6&&(x4==x7&&true)))]
 else
 some [B false]:=by kernel_rfl
def Fm:=Qt0
theorem S6:Am PG (81,Ad Qe6 Qpq Fm):=rw1 (C:=Qbm) Zes
def Us (M:Fn):Nat×Spec:=(123,Ad Zv Qpq M)
def Quu:Fn:=An PG Qbm 64 123 Zv Qpq
theorem Z71 (D:Int):Quu [I D]=
 bif decide (D>=1)then
 some [B (decide (D<=6))]
 else
 some [B false]:=by kernel_rfl
def D7:=Quu
theorem SM:Am PG (123,Ad Zv Qpq D7):=rw1 (C:=Qbm) Zes
def Qvu (M:Fn):Nat×Spec:=(169,Ad Qe6 Qpq M)
def Qzi:Fn:=An PG Qbm 64 169 Qe6 Qpq
theorem Zsa (D Y x2 x3 x4 x5 x6 x7 x8 x9 E G J:Int) (L:Bool) (M:Int) (N:Bool) (O S T U V:Int) (X:Bool):Qzi [I D,I Y,I x2,I x3,I x4,I x5,I x6,I x7,I x8,I x9,I E,I G,I J,B L,I M,B N,I O,I S,I T,I U,I V,B X]=
 bif D==5 then
 some [B true]
 else
 some [B (D==6)]:=by kernel_rfl
def H4:=Qzi
theorem Q3w:Am PG (169,Ad Qe6 Qpq H4):=rw1 (C:=Qbm) Zes
def Qob:Sk:=⟨[tf [CS.sl Ai],tf [ci]],[],[]⟩
def Zpk (M:Fn):Nat×Spec:=(173,Ad Qob Qpq M)
def Wz (D E:Fn):Cfg:=cf [Us D,Qvu E]
def Qth:Sk:=⟨dd 23++[tf [CS.sl Ai],tf [ci],tf [ci]]++dd 9,[],[]⟩
def Qws:List (Ex×Sk):=[(Ex.ret,⟨[td,td,td,td,tf [CS.bool]]++dd 30,[],[]⟩),(Ex.exit 0,⟨[td]++dd 34,[],[]⟩)]
def Lw (D E:Fn):Lp:=AW PG (Wz D E) 64 4 (AV PG 173 4) Qth Qws
def Q2c (D E:Fn) (G:Lp):Cfg:=(Wz D E).loop 4 Qth Qws G
def Qpw (D E:Fn) (G:Lp):Fn:=An PG (Q2c D E G) 64 173 Qob Qpq
theorem Qyd (G J:Fn) (v0:Rw) (E D:Int):Lw G J [.view Ai v0,I E,I D]=
 bif decide (D<E)then
 bif decide (0<=D)&&decide (D<(v0.length:Int))then
 (G [jA (nth [] v0 D.toNat) 0]).bind λL=>
 bif bA L 0 then
 (J (AT Ai (nth [] v0 D.toNat))).bind λM=>
 some (1,[B (bA M 0)])
 else
 some (0,[.view Ai v0,I E,I (wrap .i64 (D+1))])
 else
 none
 else
 some (2,[]):=by kernel_rfl
theorem Zx0 (M J:Fn) (L:Lp) (E:Rw) (D:Int):Qpw M J L [.view Ai E,I D]=
 bif decide (0<=D)&&decide (D<(E.length:Int))then
 bif gA (nth [] E D.toNat) 18==0 then
 some [B true]
 else
 bif decide (0<=D)&&decide (D<(E.length:Int))then
 (J (AT Ai (nth [] E D.toNat))).bind λN=>
 bif bA N 0 then
 some [B true]
 else
 bif decide (0<=wrap .i64 (D+1))&&decide (wrap .i64 (D+1)<=(E.length:Int))then
 (L [.view Ai (List.drop (wrap .i64 (D+1)).toNat E),I (↑(List.drop (wrap .i64 (D+1)).toNat E).length:Int),I 0]).bind λG=>
 bif G.1.beq 1 then
 some [B (bA G.2 0)]
 else
 bif G.1.beq 2 then
 some [B false]
 else
 none
 else
 none
 else
 none
 else
 none:=by kernel_rfl
def Q6v:=Al (Lw D7 H4)
def RJ:=Qpw D7 H4 Q6v
theorem Qvc:Aj PG (Wz D7 H4):=Ap rfl ⟨SM,Q3w,trivial⟩
theorem Z5h:Am PG (173,Ad Qob Qpq RJ):=rw2 (C:=(Q2c D7 H4 Q6v)) (fl fb Qvc) Qvc
def Qh5:Sk:=⟨[tf [CS.ptr 20000 0],tf [CS.sl Ai],tf [ci]],[(20000,142,[ci,ci,ci,CS.own 20000 7,CS.own 20001 3,CS.bool,ci,ci,ci])],[(20000,162,Ah),(20001,76,kPt)]⟩
def Qmu:Sk:=⟨[TS.tup []],[(20000,142,[ci,ci,ci,CS.own 20000 7,CS.own 20001 3,CS.bool,ci,ci,ci])],[(20000,162,Ah),(20001,76,kPt)]⟩
def Zf9 (M:Fn):Nat×Spec:=(127,Ad Qh5 Qmu M)
def Qej (D E:Fn):Cfg:=cf [Zpk D,Us E]
def Qjf (D E:Fn):Fn:=An PG (Qej D E) 64 127 Qh5 Qmu
abbrev Qfz (V:Fn) (U:Rw) (E:Int) (J:Rw) (D:Int) (L:Rw) (M N O:Int) (S:Bool) (T G:Int):Option (List AC):=
 (V [jA (nth [] U E.toNat) 0]).bind λX=>
 bif bA X 0 then
 bif((J++[[I D,I 2,I E]]).length*24).ble 140737488355328 then
 some [.view Ah L, .view kPt (J++[[I D,I 2,I E]]),I M,I N,I O,B S,I D,I T,I G]
 else
 none
 else
 bif gA (nth [] U E.toNat) 0==10 then
 bif((J++[[I D,I 5,I E]]).length*24).ble 140737488355328 then
 some [.view Ah L, .view kPt (J++[[I D,I 5,I E]]),I M,I N,I O,B S,I D,I T,I G]
 else
 none
 else
 bif gA (nth [] U E.toNat) 0==13 then
 bif((J++[[I D,I 4,I E]]).length*24).ble 140737488355328 then
 some [.view Ah L, .view kPt (J++[[I D,I 4,I E]]),I M,I N,I O,B S,I D,I T,I G]
 else
 none
 else
 bif((J++[[I D,I 3,I E]]).length*24).ble 140737488355328 then
 some [.view Ah L, .view kPt (J++[[I D,I 3,I E]]),I M,I N,I O,B S,I D,I T,I G]
 else
 none
theorem Z73 (X V:Fn) (M J L:Rw) (D N O S:Int) (T:Bool) (G U E:Int):Qjf X V [.view Ah M, .view kPt J, .view Ai L,I D,I N,I O,I S,B T,I G,I U,I E]=
 bif decide (0<=D)&&decide (D<(L.length:Int))then
 bif gA (nth [] L D.toNat) 0==4 then
 bif((J++[[I G,I 6,I D]]).length*24).ble 140737488355328 then
 some [.view Ah M, .view kPt (J++[[I G,I 6,I D]]),I N,I O,I S,B T,I G,I U,I E]
 else
 none
 else
 (V [jA (nth [] L D.toNat) 0]).bind λo4=>
 bif bA o4 0 then
 (X [.view Ai L,I D]).bind λY=>
 bif bA Y 0 then
 bif((J++[[I G,I 1,I D]]).length*24).ble 140737488355328 then
 some [.view Ah M, .view kPt (J++[[I G,I 1,I D]]),I N,I O,I S,B T,I G,I U,I E]
 else
 none
 else
 Qfz V L D J G M N O S T U E
 else
 Qfz V L D J G M N O S T U E
 else
 none:=by kernel_rfl
def Js:=Qjf RJ D7
theorem Zxz:Aj PG (Qej RJ D7):=Ap rfl ⟨Z5h,SM,trivial⟩
theorem Zj6:Am PG (127,Ad Qh5 Qmu Js):=rw1 (C:=(Qej RJ D7)) Zxz
def Qcm (M:Fn):Nat×Spec:=(172,Ad Qe6 Qah M)
def Qyn:Fn:=An PG Qbm 64 172 Qe6 Qah
theorem Zm5 (x0 x1 X Y x4 x5 x6 x7 x8 x9 D E G:Int) (J:Bool) (L:Int) (M:Bool) (N O S T U:Int) (V:Bool):Qyn [I x0,I x1,I X,I Y,I x4,I x5,I x6,I x7,I x8,I x9,I D,I E,I G,B J,I L,B M,I N,I O,I S,I T,I U,B V]=
 some [I (wrap .i64 (wrap .i64 (X+x5)*8)),I (wrap .i64 (wrap .i64 (Y+x6)*8)),I (wrap .i64 (wrap .i64 (x4+x7)*8))]:=by kernel_rfl
def GF:=Qyn
theorem Qrp:Am PG (172,Ad Qe6 Qah GF):=rw1 (C:=Qbm) Zes
def Zs:Sk:=⟨[TS.v true [CS.int .u64,CS.int .u64],TS.v true [CS.int .u64,CS.int .u64]],[],[]⟩
def Qr4 (M:Fn):Nat×Spec:=(211,Ad Zs Zv M)
def Q4a:Fn:=An PG Qbm 64 211 Zs Zv
theorem Zj0 (D G E J:Int):Q4a [U D,U G,U E,U J]=
 bif decide (D<E)then
 some [I (-1)]
 else
 bif D==E then
 bif decide (G<J)then
 some [I (-1)]
 else
 bif D==E&&(G==J&&true)then
 some [I 0]
 else
 some [I 1]
 else
 bif D==E&&(G==J&&true)then
 some [I 0]
 else
 some [I 1]:=by kernel_rfl
def IB:=Q4a
theorem Qy1:Am PG (211,Ad Zs Zv IB):=rw1 (C:=Qbm) Zes
def Q6i (M:Fn):Nat×Spec:=(221,Ad Qcj Qba M)
def Qif (D E:Fn):Cfg:=cf [Qr4 D,T4 E]
def Q68:Sk:=⟨[td,tf [CS.ptr 1 0],td,tf [CS.int .u64],tf [CS.int .u64]]++dd 16,[(1,185,[CS.int .u64,CS.int .u64])],[]⟩
def Q9c:List (Ex×Sk):=[(Ex.exit 0,⟨[td,td,td,tf [CS.int .u64]]++dd 17,[],[]⟩)]
def Ma (D E:Fn):Lp:=AW PG (Qif D E) 64 3 (AV PG 221 3) Q68 Q9c
def Zb0 (D E:Fn) (G:Lp):Cfg:=(Qif D E).loop 3 Q68 Q9c G
def Qb0 (D E:Fn) (G:Lp):Fn:=An PG (Zb0 D E G) 64 221 Qcj Qba
theorem Q93 (I J:Fn) (v0 D E G:Int):Ma I J [U v0,U D,U E,U G]=
 bif decide (D>0)then
 (J [U (wrap .u64 (↑(BitVec.ofInt IntKind.u64.bits v0|||BitVec.ofInt IntKind.u64.bits D).toNat:Int)),U (wrap .u64 (↑(BitVec.ofInt IntKind.u64.bits v0|||BitVec.ofInt IntKind.u64.bits D).toNat:Int))]).bind λo3=>
 (I [U (gA o3 0),U (gA o3 1),U E,U G]).bind λo4=>
 bif decide (gA o4 0<=0)then
 some (0,[U (wrap .u64 (↑(BitVec.ofInt IntKind.u64.bits v0|||BitVec.ofInt IntKind.u64.bits D).toNat:Int)),U (D.fdiv (2^min (Int.toNat 1) IntKind.u64.bits)),U E,U G])
 else
 some (0,[U v0,U (D.fdiv (2^min (Int.toNat 1) IntKind.u64.bits)),U E,U G])
 else
 some (1,[U v0]):=by kernel_rfl
theorem Z5x (J L:Fn) (D:Lp) (E G:Int):Qb0 J L D [U E,U G]=
 (D [U 0,U 9223372036854775808,U E,U G]).bind λI=>
 bif I.1.beq 1 then
 some [U (gA I.2 0)]
 else
 none:=by kernel_rfl
def Qyf:=Al (Ma IB E2)
def J5:=Qb0 IB E2 Qyf
theorem Q97:Aj PG (Qif IB E2):=Ap rfl ⟨Qy1,UP,trivial⟩
theorem Q4c:Am PG (221,Ad Qcj Qba J5):=rw2 (C:=(Zb0 IB E2 Qyf)) (fl fb Q97) Q97
def WR:Sk:=⟨[TS.v true [CS.int .u64,CS.int .u64],tf [ci]],[],[]⟩
def Z49 (M:Fn):Nat×Spec:=(216,Ad WR Yi M)
def Qp8 (D E G I:Fn):Cfg:=cf [Wy D,(222,Ad Q09 Q33 E),(175,Ad ZL Vi G),Q6i I]
def X9 (D E G I:Fn):Fn:=An PG (Qp8 D E G I) 64 216 WR Yi
abbrev Qdh (O:Int) (M:List AC) (L:Fn) (D N:List AC):Option (List AC):=
 bif O==2 then
 bif decide (gA M 0>0)then
 (L [U (wrap .u64 (gA D 0+1)),B false]).bind λE=>
 some [jA E 0,B (bA E 1)]
 else
 bif decide (gA N 0>gA D 0)then
 (L [U (wrap .u64 (gA D 0+1)),B false]).bind λG=>
 some [jA G 0,B (bA G 1)]
 else
 (L [U (gA D 0),B false]).bind λI=>
 some [jA I 0,B (bA I 1)]
 else
 (L [U (gA D 0),B false]).bind λJ=>
 some [jA J 0,B (bA J 1)]
theorem Zx9 (J S X Y:Fn) (T V O:Int):X9 J S X Y [U T,U V,I O]=
 (Y [U T,U V]).bind λD=>
 (X [U (gA D 0),U (gA D 0)]).bind λL=>
 (S [U V,U (gA L 1),U 0]).bind λE=>
 (S [U T,U (gA L 0),U (gA E 1)]).bind λG=>
 bif O==1 then
 bif decide (gA G 0>0)then
 (J [U (wrap .u64 (gA D 0+1)),B false]).bind λM=>
 some [jA M 0,B (bA M 1)]
 else
 bif decide (gA E 0>0)then
 (J [U (wrap .u64 (gA D 0+1)),B false]).bind λN=>
 some [jA N 0,B (bA N 1)]
 else
 Qdh O G J D E
 else
 Qdh O G J D E:=by kernel_rfl
def Uf:=X9 FA KP II J5
theorem Zp6:Aj PG (Qp8 FA KP II J5):=Ap rfl ⟨Qj4,Zuh,Qvv,Q4c,trivial⟩
theorem Zzp:Am PG (216,Ad WR Yi Uf):=rw1 (C:=(Qp8 FA KP II J5)) Zp6
def Qu6 (M:Fn):Nat×Spec:=(210,Ad Za Yi M)
def Yr (D E:Fn):Cfg:=cf [Z49 D,Qps E]
def ZR (D E:Fn):Fn:=An PG (Yr D E) 64 210 Za Yi
theorem Z0z (G J:Fn) (D E:Int):ZR G J [I D,I E]=
 bif decide (D<0)then
 some [I 0,B false]
 else
 (J [I E]).bind λo2=>
 bif !bA o2 0 then
 some [I 0,B false]
 else
 (G [U 0,U (wrap .u64 D),I E]).bind λo3=>
 some [jA o3 0,B (bA o3 1)]:=by kernel_rfl
def Jb:=ZR Uf Gm
theorem Z23:Aj PG (Yr Uf Gm):=Ap rfl ⟨Zzp,Qne,trivial⟩
theorem Qxp:Am PG (210,Ad Za Yi Jb):=rw1 (C:=(Yr Uf Gm)) Z23
def Qtx (M:Fn):Nat×Spec:=(195,Ad Qcg Zv M)
def Ql5 (D:Fn):Cfg:={cf [Qu6 D]with unroll:=[3]}
def WF (D:Fn):Fn:=An PG (Ql5 D) 64 195 Qcg Zv
theorem Zwx (N:Fn) (D E G J L M:Int):WF N [I D,I E,I G,I J,I L,I M]=
 (N [I (wrap .i64 (wrap .i64 (wrap .i64 (0+wrap .i64 (wrap .i64 (D-J)*wrap .i64 (D-J)))+wrap .i64 (wrap .i64 (E-L)*wrap .i64 (E-L)))+wrap .i64 (wrap .i64 (G-M)*wrap .i64 (G-M)))),I 1]).bind λo1=>
 some [jA o1 0]:=by kernel_rfl
def Jy:=WF Jb
theorem Zy2:Aj PG (Ql5 Jb):=Ap rfl ⟨Qxp,trivial⟩
theorem Qve:Am PG (195,Ad Qcg Zv Jy):=rw1 (C:=(Ql5 Jb)) Zy2
def Qdk:Sk:=⟨[tf [CS.ptr 20000 0],TS.v true [ci,ci,ci],TS.v true (cc 7)],[(20000,142,[ci,ci,ci,CS.own 20000 7,CS.own 20001 3,CS.bool,ci,ci,ci])],[(20000,162,Ah),(20001,76,kPt)]⟩
def Z5s (M:Fn):Nat×Spec:=(171,Ad Qdk Qmu M)
def ZV (D:Fn):Cfg:=cf [Qtx D]
def S0 (D:Fn):Fn:=An PG (ZV D) 64 171 Qdk Qmu
abbrev XV (D:Bool) (Y x1:Rw) (x2 x3 x4 E G J L M N:Int) (DC:Fn) (x9 O S:Int) (T:Bool) (U V X:AC):Option (List AC):=
 bif !D then
 some [.view Ah Y, .view kPt x1,I x2,I x3,I x4,B true,I E,I G,I J]
 else
 bif T then
 some [.view Ah Y, .view kPt x1,I L,I M,I N,B D,I E,I G,I J]
 else
 (DC [U,V,X,I x2,I x3,I x4]).bind λo2=>
 bif((Y++[[I x2,I x3,I x4,jA o2 0,I x9,I O,I S]]).length*56).ble 140737488355328 then
 some [.view Ah (Y++[[I x2,I x3,I x4,jA o2 0,I x9,I O,I S]]), .view kPt x1,I L,I M,I N,B D,I (wrap .i64 (E+gA o2 0)),I G,I J]
 else
 none
theorem Q88 (Y:Fn) (D x1:Rw) (U V X x5 x6 x7 x8 x9 L M E G J:Int) (N:Bool) (O S T:Int):S0 Y [.view Ah D, .view kPt x1,I U,I V,I X,I x5,I x6,I x7,I x8,I x9,I L,I M,I E,I G,I J,B N,I O,I S,I T]=
 bif decide ((D.length:Int)>0)then
 bif decide (0<=wrap .i64 ((D.length:Int)-1))&&decide (wrap .i64 ((D.length:Int)-1)<(D.length:Int))then
 XV N D x1 U V X O S T E G J Y x9 L M (U==gA (nth [] D (wrap .i64 ((D.length:Int)-1)).toNat) 0&&(V==gA (nth [] D (wrap .i64 ((D.length:Int)-1)).toNat) 1&&(X==gA (nth [] D (wrap .i64 ((D.length:Int)-1)).toNat) 2&&true))) (jA (nth [] D (wrap .i64 ((D.length:Int)-1)).toNat) 0) (jA (nth [] D (wrap .i64 ((D.length:Int)-1)).toNat) 1) (jA (nth [] D (wrap .i64 ((D.length:Int)-1)).toNat) 2)
 else
 none
 else
 XV N D x1 U V X O S T E G J Y x9 L M (U==E&&(V==G&&(X==J&&true))) (I E) (I G) (I J):=by kernel_rfl
def PB:=S0 Jy
theorem Z0u:Aj PG (ZV Jy):=Ap rfl ⟨Qve,trivial⟩
theorem Ze4:Am PG (171,Ad Qdk Qmu PB):=rw1 (C:=(ZV Jy)) Z0u
def Qlt (M:Fn):Nat×Spec:=(125,Ad Qob Zv M)
def Q0a:Sk:=⟨[tf [CS.sl Ai],tf [ci]]++dd 20,[],[]⟩
def Q6e:List (Ex×Sk):=[(Ex.exit 0,⟨[td,tf [ci]]++dd 20,[],[]⟩)]
def P8:Lp:=AW PG Qbm 64 2 (AV PG 125 2) Q0a Q6e
def Q55 (D:Lp):Cfg:=Qbm.loop 2 Q0a Q6e D
def Qe2 (D:Lp):Fn:=An PG (Q55 D) 64 125 Qob Zv
theorem Q7o (v0:Rw) (D:Int):P8 [.view Ai v0,I D]=
 bif decide (D<(v0.length:Int))then
 bif decide (0<=D)&&decide (D<(v0.length:Int))then
 bif gA (nth [] v0 D.toNat) 0==10 then
 some (0,[.view Ai v0,I (wrap .i64 (D+1))])
 else
 some (1,[I D])
 else
 none
 else
 some (1,[I D]):=by kernel_rfl
theorem Zpn (D:Lp) (E:Rw) (G:Int):Qe2 D [.view Ai E,I G]=
 (D [.view Ai E,I (wrap .i64 (G+1))]).bind λo1=>
 bif o1.1.beq 1 then
 some [jA o1.2 0]
 else
 none:=by kernel_rfl
def Q7a:=Al (P8)
def FQ:=Qe2 Q7a
theorem Qmk:Am PG (125,Ad Qob Zv FQ):=rw2 (C:=(Q55 Q7a)) (fl fb Zes) Zes
def Q2q (M:Fn):Nat×Spec:=(124,Ad Qob Qpq M)
def Qgy (D E:Fn):Cfg:=cf [U1 D,Qlt E]
def Xy (D E:Fn):Fn:=An PG (Qgy D E) 64 124 Qob Qpq
theorem Zzg (G J:Fn) (D:Rw) (E:Int):Xy G J [.view Ai D,I E]=
 (J [.view Ai D,I E]).bind λo3=>
 bif decide (0<=E)&&decide (E<(D.length:Int))then
 (G (AT Ai (nth [] D E.toNat))).bind λo4=>
 bif bA o4 0 then
 bif decide (0<=E)&&decide (E<(D.length:Int))then
 bif gA (nth [] D E.toNat) 18 !=0 then
 bif decide (gA o3 0<(D.length:Int))then
 bif decide (0<=gA o3 0)&&decide (gA o3 0<(D.length:Int))then
 (G (AT Ai (nth [] D (gA o3 0).toNat))).bind λL=>
 some [B (bA L 0)]
 else
 none
 else
 some [B false]
 else
 some [B false]
 else
 none
 else
 some [B false]
 else
 none:=by kernel_rfl
def HD:=Xy Fm FQ
theorem Zgu:Aj PG (Qgy Fm FQ):=Ap rfl ⟨S6,Qmk,trivial⟩
theorem Qwl:Am PG (124,Ad Qob Qpq HD):=rw1 (C:=(Qgy Fm FQ)) Zgu
def Qk3:Sk:=⟨[TS.v true [ci,ci,ci],TS.v true [ci,ci,ci],TS.v true [ci,ci,ci]],[],[]⟩
def Qxv (M:Fn):Nat×Spec:=(219,Ad Qk3 Zv M)
def Q8r:Fn:=An PG Xs 64 219 Qk3 Zv
theorem Zye (D E G J L M N O S:Int):Q8r [I D,I E,I G,I J,I L,I M,I N,I O,I S]=
 some [I (wrap .i64 (wrap .i64 (wrap .i64 (0+wrap .i64 (wrap .i64 (wrap .i64 (D+N)-wrap .i64 (2*J))*wrap .i64 (wrap .i64 (D+N)-wrap .i64 (2*J))))+wrap .i64 (wrap .i64 (wrap .i64 (E+O)-wrap .i64 (2*L))*wrap .i64 (wrap .i64 (E+O)-wrap .i64 (2*L))))+wrap .i64 (wrap .i64 (wrap .i64 (G+S)-wrap .i64 (2*M))*wrap .i64 (wrap .i64 (G+S)-wrap .i64 (2*M)))))]:=by kernel_rfl
def Hn:=Q8r
theorem Qyj:Am PG (219,Ad Qk3 Zv Hn):=rw1 (C:=Xs) Zdh
def Zlb (M:Fn):Nat×Spec:=(215,Ad Qk3 Zv M)
def Vm (D:Fn):Cfg:=cf [Qxv D]
def Qsu:Sk:=⟨[td,td,td,tf [CS.ptr 3 0],tf [CS.ptr 4 0],tf [CS.ptr 5 0],td,tf [ci]]++dd 22,[(3,54,[ci,ci,ci]),(4,54,[ci,ci,ci]),(5,54,[ci,ci,ci])],[]⟩
def Qv6:List (Ex×Sk):=[(Ex.exit 0,⟨dd 7++[tf [ci]]++dd 22,[],[]⟩)]
def QW (D:Fn):Lp:=AW PG (Vm D) 64 2 (AV PG 215 2) Qsu Qv6
def Q2t (D:Fn) (E:Lp):Cfg:=(Vm D).loop 2 Qsu Qv6 E
def Qae (D:Fn) (E:Lp):Fn:=An PG (Q2t D E) 64 215 Qk3 Zv
theorem Z3v (T:Fn) (v0 D E G J L M N O S:Int):QW T [I v0,I D,I E,I G,I J,I L,I M,I N,I O,I S]=
 bif decide (v0<64)then
 (T [I D,I E,I G,I J,I L,I M,I N,I O,I S]).bind λo2=>
 bif decide (gA o2 0>wrap .i64 (wrap .i64 (wrap .i64 (wrap .i64 (wrap .i64 (wrap .i64 (16*v0)*v0)*v0)*v0)*4)*4))then
 some (0,[I (wrap .i64 (v0*2)),I D,I E,I G,I J,I L,I M,I N,I O,I S])
 else
 some (1,[I v0])
 else
 some (1,[I v0]):=by kernel_rfl
theorem Zk1 (U:Fn) (D:Lp) (E G J L M N O S T:Int):Qae U D [I E,I G,I J,I L,I M,I N,I O,I S,I T]=
 (D [I 2,I E,I G,I J,I L,I M,I N,I O,I S,I T]).bind λo3=>
 bif o3.1.beq 1 then
 some [jA o3.2 0]
 else
 none:=by kernel_rfl
def Zaa:=Al (QW Hn)
def KY:=Qae Hn Zaa
theorem Zbl:Aj PG (Vm Hn):=Ap rfl ⟨Qyj,trivial⟩
theorem Zfl:Am PG (215,Ad Qk3 Zv KY):=rw2 (C:=(Q2t Hn Zaa)) (fl fb Zbl) Zbl
def Xf:Sk:=⟨[TS.v true [CS.int .u64,CS.int .u64],tf [CS.int .u64]],[],[]⟩
def Qjn:Sk:=⟨[TS.tup [(true,[CS.int .u64,CS.int .u64]),(false,[CS.bool])]],[],[]⟩
def Ze0 (M:Fn):Nat×Spec:=(224,Ad Xf Qjn M)
def Qbq (D:Fn):Cfg:=cf [Zax D]
def Qci (D:Fn):Fn:=An PG (Qbq D) 64 224 Xf Qjn
theorem Zmf (D:Fn) (G I E:Int):Qci D [U G,U I,U E]=
 (D [U 0,U G,U E]).bind λo2=>
 (D [U (gA o2 1),U I,U E]).bind λo3=>
 some [U (gA o2 0),U (gA o3 0),B (decide (gA o3 1>0))]:=by kernel_rfl
def Uh:=Qci G9
theorem Z86:Aj PG (Qbq G9):=Ap rfl ⟨Qso,trivial⟩
theorem Zsb:Am PG (224,Ad Xf Qjn Uh):=rw1 (C:=(Qbq G9)) Z86
def Q43 (M:Fn):Nat×Spec:=(220,Ad Xh Yi M)
def Qfq (D E G I J L M N:Fn):Cfg:=cf [Wy D,Q4j E,Xl G,Q6i I,Ze0 J,T4 L,Qps M,Qby N]
def Xp (D E G I J L M N:Fn):Fn:=An PG (Qfq D E G I J L M N) 64 220 Xh Yi
abbrev QT (CV:Fn) (x3:Int) (V:Fn) (E:List AC) (G:Bool) (J D L M:AC):Option (List AC):=
 bif G then
 (CV [I x3,J,B true,D]).bind λX=>
 bif bA X 0 then
 (V [U (wrap .u64 (wrap .u64 ((gA E 0).tdiv 2)+1)),D]).bind λN=>
 some [jA N 0,B (bA N 1)]
 else
 (V [U (wrap .u64 ((gA E 0).tdiv 2)),D]).bind λO=>
 some [jA O 0,B (bA O 1)]
 else
 (CV [I x3,L,M,D]).bind λY=>
 bif bA Y 0 then
 (V [U (wrap .u64 (wrap .u64 ((gA E 0).tdiv 2)+1)),D]).bind λS=>
 some [jA S 0,B (bA S 1)]
 else
 (V [U (wrap .u64 ((gA E 0).tdiv 2)),D]).bind λT=>
 some [jA T 0,B (bA T 1)]
theorem Zgs (M N DA Gt N_ BM D8 O:Fn) (S T x2 L:Int):Xp M N DA Gt N_ BM D8 O [I S,I T,I x2,I L]=
 (O [I S]).bind λa0=>
 bif decide (gA a0 0>2147483648)then
 some [I 0,B false]
 else
 (O [I T]).bind λa1=>
 bif decide (gA a1 0>2147483648)then
 some [I 0,B false]
 else
 bif decide (x2<1)then
 some [I 0,B false]
 else
 bif decide (x2>4611686018427387904)then
 some [I 0,B false]
 else
 (D8 [I L]).bind λa2=>
 bif !bA a2 0 then
 some [I 0,B false]
 else
 (O [I S]).bind λV=>
 (O [I T]).bind λX=>
 (BM [U (wrap .u64 (2*wrap .u64 (gA V 0*gA X 0))),U (wrap .u64 (2*wrap .u64 (gA V 0*gA X 0)))]).bind λY=>
 (N_ [U (gA Y 0),U (gA Y 1),U (wrap .u64 x2)]).bind λD=>
 (Gt [U (gA D 0),U (gA D 1)]).bind λE=>
 bif bA D 2 then
 (DA [I S,I T]).bind λa3=>
 QT N L M E ((gA E 0).tmod 2==1) (I 1) (B (decide (gA a3 0<0))) (I (-1)) (B true)
 else
 (BM [U (gA E 0),U (gA E 0)]).bind λG=>
 (DA [I S,I T]).bind λJ=>
 bif(gA E 0).tmod 2==1 then
 bif !(gA G 0==gA D 0&&(gA G 1==gA D 1&&true))then
 QT N L M E (!(gA G 0==gA D 0&&(gA G 1==gA D 1&&true))) (I 1) (B (decide (gA J 0<0))) (I 1) (B ((gA E 0).tmod 2==1))
 else
 QT N L M E (!(gA G 0==gA D 0&&(gA G 1==gA D 1&&true))) (I 0) (B (decide (gA J 0<0))) (I 0) (B ((gA E 0).tmod 2==1))
 else
 QT N L M E (!(gA G 0==gA D 0&&(gA G 1==gA D 1&&true))) (I (-1)) (B (decide (gA J 0<0))) (I (-1)) (B ((gA E 0).tmod 2==1)):=by kernel_rfl
def IW:=Xp FA If Gp J5 Uh E2 Gm GI
theorem Zg2:Aj PG (Qfq FA If Gp J5 Uh E2 Gm GI):=Ap rfl ⟨Qj4,Zcq,Qdq,Q4c,Zsb,UP,Qne,VR,trivial⟩
theorem Qum:Am PG (220,Ad Xh Yi IW):=rw1 (C:=(Qfq FA If Gp J5 Uh E2 Gm GI)) Zg2
def Qhv:Sk:=⟨[TS.v true [ci,ci,ci],TS.v true [ci,ci,ci],tf [ci]],[],[]⟩
def Yk:Sk:=⟨[TS.tup [(true,[ci,ci,ci]),(false,[CS.bool])]],[],[]⟩
def Qvs (M:Fn):Nat×Spec:=(214,Ad Qhv Yk M)
def Qg1 (D:Fn):Cfg:={cf [Q43 D]with unroll:=[5,10]}
def Qqn (D:Fn):Fn:=An PG (Qg1 D) 64 214 Qhv Yk
theorem Zgn (O:Fn) (D E G J L M N:Int):Qqn O [I D,I E,I G,I J,I L,I M,I N]=
 bif J==D&&(L==E&&(M==G&&true))then
 some [I 0,I 0,I 0,B false]
 else
 bif decide (N<0)then
 some [I 0,I 0,I 0,B false]
 else
 bif decide (N>33554432)then
 some [I 0,I 0,I 0,B false]
 else
 (O [I (wrap .i64 (J-D)),I N,I (wrap .i64 (wrap .i64 (wrap .i64 (0+wrap .i64 (wrap .i64 (J-D)*wrap .i64 (J-D)))+wrap .i64 (wrap .i64 (L-E)*wrap .i64 (L-E)))+wrap .i64 (wrap .i64 (M-G)*wrap .i64 (M-G)))),I 2]).bind λo3=>
 (O [I (wrap .i64 (L-E)),I N,I (wrap .i64 (wrap .i64 (wrap .i64 (0+wrap .i64 (wrap .i64 (J-D)*wrap .i64 (J-D)))+wrap .i64 (wrap .i64 (L-E)*wrap .i64 (L-E)))+wrap .i64 (wrap .i64 (M-G)*wrap .i64 (M-G)))),I 2]).bind λo4=>
 (O [I (wrap .i64 (M-G)),I N,I (wrap .i64 (wrap .i64 (wrap .i64 (0+wrap .i64 (wrap .i64 (J-D)*wrap .i64 (J-D)))+wrap .i64 (wrap .i64 (L-E)*wrap .i64 (L-E)))+wrap .i64 (wrap .i64 (M-G)*wrap .i64 (M-G)))),I 2]).bind λS=>
 some [I (wrap .i64 (D+gA o3 0)),I (wrap .i64 (E+gA o4 0)),I (wrap .i64 (G+gA S 0)),B true]:=by kernel_rfl
def Hg:=Qqn IW
theorem Zqe:Aj PG (Qg1 IW):=Ap rfl ⟨Qum,trivial⟩
theorem Q3a:Am PG (214,Ad Qhv Yk Hg):=rw1 (C:=(Qg1 IW)) Zqe
def Z42 (M:Fn):Nat×Spec:=(213,Ad Qgu Zv M)
def Vw (D E G:Fn):Cfg:=cf [Qxv D,Qvs E,Qtx G]
def Qr5:Sk:=⟨[td,td,td,tf [ci],tf [CS.ptr 4 0],tf [CS.ptr 5 0],tf [CS.ptr 6 0],td,td,tf [ci],tf [ci],tf [ci]]++dd 62,[(4,54,[ci,ci,ci]),(5,54,[ci,ci,ci]),(6,54,[ci,ci,ci])],[]⟩
def Q3q:List (Ex×Sk):=[(Ex.exit 0,⟨dd 10++[tf [ci]]++dd 63,[],[]⟩)]
def N0 (D E G:Fn):Lp:=AW PG (Vw D E G) 64 6 (AV PG 213 6) Qr5 Q3q
def Q9g (D E G:Fn) (I:Lp):Cfg:=(Vw D E G).loop 6 Qr5 Q3q I
def Qmv (D E G:Fn) (I:Lp):Fn:=An PG (Q9g D E G I) 64 213 Qgu Zv
theorem Q5s (Y T DC:Fn) (v0 M E D N O S G J L v10 v11 v12:Int):N0 Y T DC [I v0,I M,I E,I D,I N,I O,I S,I G,I J,I L,I v10,I v11,I v12]=
 bif decide (D>0)then
 bif decide (wrap .i64 (E+D)>M)then
 some (0,[I v0,I M,I E,I (D.fdiv (2^min (Int.toNat 1) IntKind.i64.bits)),I N,I O,I S,I G,I J,I L,I v10,I v11,I v12])
 else
 (T [I G,I J,I L,I N,I O,I S,I (wrap .i64 (E+D))]).bind λU=>
 (T [I G,I J,I L,I v10,I v11,I v12,I (wrap .i64 (E+D))]).bind λV=>
 (Y [jA U 0,jA U 1,jA U 2,I G,I J,I L,jA V 0,jA V 1,jA V 2]).bind λX=>
 bif decide (gA X 0<=wrap .i64 (wrap .i64 (16*v0)*v0))then
 some (0,[I v0,I M,I (wrap .i64 (E+D)),I (D.fdiv (2^min (Int.toNat 1) IntKind.i64.bits)),I N,I O,I S,I G,I J,I L,I v10,I v11,I v12])
 else
 some (0,[I v0,I M,I E,I (D.fdiv (2^min (Int.toNat 1) IntKind.i64.bits)),I N,I O,I S,I G,I J,I L,I v10,I v11,I v12])
 else
 some (1,[I E]):=by kernel_rfl
theorem Zmd (C9 CO U:Fn) (Y:Lp) (L M N E G J O S T x9:Int):Qmv C9 CO U Y [I L,I M,I N,I E,I G,I J,I O,I S,I T,I x9]=
 bif L==E&&(M==G&&(N==J&&true))then
 some [I 0]
 else
 bif O==E&&(S==G&&(T==J&&true))then
 some [I 0]
 else
 (U [I L,I M,I N,I E,I G,I J]).bind λV=>
 (U [I E,I G,I J,I O,I S,I T]).bind λX=>
 (Y [I x9,I (wrap .i64 (mn (gA V 0) (gA X 0)-2)),I 0,I 16777216,I L,I M,I N,I E,I G,I J,I O,I S,I T]).bind λD=>
 bif D.1.beq 1 then
 bif decide (gA D.2 0<16)then
 some [I 0]
 else
 some [jA D.2 0]
 else
 none:=by kernel_rfl
def Q6c:=Al (N0 Hn Hg Jy)
def L6:=Qmv Hn Hg Jy Q6c
theorem Qt9:Aj PG (Vw Hn Hg Jy):=Ap rfl ⟨Qyj,Q3a,Qve,trivial⟩
theorem Zom:Am PG (213,Ad Qgu Zv L6):=rw2 (C:=(Q9g Hn Hg Jy Q6c)) (fl fb Qt9) Qt9
def Zib (M:Fn):Nat×Spec:=(208,Ad Qgu Qai M)
def Qcr (D E G I:Fn):Cfg:={cf [My D,Zlb E,Qvs G,Z42 I]with unroll:=[13]}
def Zcu:Sk:=⟨[td,td,td,td,td,tf [CS.ptr 5 0],td,td,td,td,tf [CS.ptr 10 0],td,tf [CS.ptr 12 0],td,tf [ci],tf [CS.own 50 3]]++dd 36++[tf [ci],tf [ci]]++dd 57,[(5,54,[ci,ci,ci]),(10,54,[ci,ci,ci]),(12,54,[ci,ci,ci])],[(50,54,kPt)]⟩
def Qsa:List (Ex×Sk):=[(Ex.exit 0,⟨dd 15++[tf [CS.own 50 3]]++dd 95,[],[(50,54,kPt)]⟩)]
def O3 (D E G I:Fn):Lp:=AW PG (Qcr D E G I) 64 9 (AV PG 208 9) Zcu Qsa
def Q70 (D E G I:Fn) (J:Lp):Cfg:=(Qcr D E G I).loop 9 Zcu Qsa J
def Qk7 (D E G I:Fn) (J:Lp):Fn:=An PG (Q70 D E G I J) 64 208 Qgu Qai
theorem Qse (O Y CO GS:Fn) (v0:Rw) (M S D E G J T U V v10 v11 v12:Int):O3 O Y CO GS [.view kPt v0,I M,I S,I D,I E,I G,I J,I T,I U,I V,I v10,I v11,I v12]=
 bif decide (D<S)then
 bif decide (0<=D)&&decide (D<(v0.length:Int))then
 (O [I (wrap .i64 (wrap .i64 (wrap .i64 (wrap .i64 (M-D)*wrap .i64 (M-D))*wrap .i64 (T-E))+wrap .i64 (wrap .i64 (D*D)*wrap .i64 (v10-E)))),I 1,I (wrap .i64 (M*M)),I 2]).bind λL=>
 bif decide (0<=D)&&decide (D<(v0.length:Int))then
 bif decide (0<=D)&&decide (D<(v0.length:Int))then
 (O [I (wrap .i64 (wrap .i64 (wrap .i64 (wrap .i64 (M-D)*wrap .i64 (M-D))*wrap .i64 (U-G))+wrap .i64 (wrap .i64 (D*D)*wrap .i64 (v11-G)))),I 1,I (wrap .i64 (M*M)),I 2]).bind λN=>
 bif decide (0<=D)&&decide (D<(v0.length:Int))then
 bif decide (0<=D)&&decide (D<(v0.length:Int))then
 (O [I (wrap .i64 (wrap .i64 (wrap .i64 (wrap .i64 (M-D)*wrap .i64 (M-D))*wrap .i64 (V-J))+wrap .i64 (wrap .i64 (D*D)*wrap .i64 (v12-J)))),I 1,I (wrap .i64 (M*M)),I 2]).bind λX=>
 bif decide (0<=D)&&decide (D<(v0.length:Int))then
 bif decide (0<=D)&&decide (D<(v0.length:Int))then
 some (0,[.view kPt ((((v0.set D.toNat [I E,I G,I J]).set D.toNat [I (wrap .i64 (Af (nth .dead (nth [] (v0.set D.toNat [I E,I G,I J]) D.toNat) 0)+gA L 0)),I (Af (nth .dead (nth [] (v0.set D.toNat [I E,I G,I J]) D.toNat) 1)),I (Af (nth .dead (nth [] (v0.set D.toNat [I E,I G,I J]) D.toNat) 2))]).set D.toNat [I (Af (nth .dead (nth [] ((v0.set D.toNat [I E,I G,I J]).set D.toNat [I (wrap .i64 (Af (nth .dead (nth [] (v0.set D.toNat [I E,I G,I J]) D.toNat) 0)+gA L 0)),I (Af (nth .dead (nth [] (v0.set D.toNat [I E,I G,I J]) D.toNat) 1)),I (Af (nth .dead (nth [] (v0.set D.toNat [I E,I G,I J]) D.toNat) 2))]) D.toNat) 0)),I (wrap .i64 (Af (nth .dead (nth [] ((v0.set D.toNat [I E,I G,I J]).set D.toNat [I (wrap .i64 (Af (nth .dead (nth [] (v0.set D.toNat [I E,I G,I J]) D.toNat) 0)+gA L 0)),I (Af (nth .dead (nth [] (v0.set D.toNat [I E,I G,I J]) D.toNat) 1)),I (Af (nth .dead (nth [] (v0.set D.toNat [I E,I G,I J]) D.toNat) 2))]) D.toNat) 1)+gA N 0)),I (Af (nth .dead (nth [] ((v0.set D.toNat [I E,I G,I J]).set D.toNat [I (wrap .i64 (Af (nth .dead (nth [] (v0.set D.toNat [I E,I G,I J]) D.toNat) 0)+gA L 0)),I (Af (nth .dead (nth [] (v0.set D.toNat [I E,I G,I J]) D.toNat) 1)),I (Af (nth .dead (nth [] (v0.set D.toNat [I E,I G,I J]) D.toNat) 2))]) D.toNat) 2))]).set D.toNat [I (Af (nth .dead (nth [] (((v0.set D.toNat [I E,I G,I J]).set D.toNat [I (wrap .i64 (Af (nth .dead (nth [] (v0.set D.toNat [I E,I G,I J]) D.toNat) 0)+gA L 0)),I (Af (nth .dead (nth [] (v0.set D.toNat [I E,I G,I J]) D.toNat) 1)),I (Af (nth .dead (nth [] (v0.set D.toNat [I E,I G,I J]) D.toNat) 2))]).set D.toNat [I (Af (nth .dead (nth [] ((v0.set D.toNat [I E,I G,I J]).set D.toNat [I (wrap .i64 (Af (nth .dead (nth [] (v0.set D.toNat [I E,I G,I J]) D.toNat) 0)+gA L 0)),I (Af (nth .dead (nth [] (v0.set D.toNat [I E,I G,I J]) D.toNat) 1)),I (Af (nth .dead (nth [] (v0.set D.toNat [I E,I G,I J]) D.toNat) 2))]) D.toNat) 0)),I (wrap .i64 (Af (nth .dead (nth [] ((v0.set D.toNat [I E,I G,I J]).set D.toNat [I (wrap .i64 (Af (nth .dead (nth [] (v0.set D.toNat [I E,I G,I J]) D.toNat) 0)+gA L 0)),I (Af (nth .dead (nth [] (v0.set D.toNat [I E,I G,I J]) D.toNat) 1)),I (Af (nth .dead (nth [] (v0.set D.toNat [I E,I G,I J]) D.toNat) 2))]) D.toNat) 1)+gA N 0)),I (Af (nth .dead (nth [] ((v0.set D.toNat [I E,I G,I J]).set D.toNat [I (wrap .i64 (Af (nth .dead (nth [] (v0.set D.toNat [I E,I G,I J]) D.toNat) 0)+gA L 0)),I (Af (nth .dead (nth [] (v0.set D.toNat [I E,I G,I J]) D.toNat) 1)),I (Af (nth .dead (nth [] (v0.set D.toNat [I E,I G,I J]) D.toNat) 2))]) D.toNat) 2))]) D.toNat) 0)),I (Af (nth .dead (nth [] (((v0.set D.toNat [I E,I G,I J]).set D.toNat [I (wrap .i64 (Af (nth .dead (nth [] (v0.set D.toNat [I E,I G,I J]) D.toNat) 0)+gA L 0)),I (Af (nth .dead (nth [] (v0.set D.toNat [I E,I G,I J]) D.toNat) 1)),I (Af (nth .dead (nth [] (v0.set D.toNat [I E,I G,I J]) D.toNat) 2))]).set D.toNat [I (Af (nth .dead (nth [] ((v0.set D.toNat [I E,I G,I J]).set D.toNat [I (wrap .i64 (Af (nth .dead (nth [] (v0.set D.toNat [I E,I G,I J]) D.toNat) 0)+gA L 0)),I (Af (nth .dead (nth [] (v0.set D.toNat [I E,I G,I J]) D.toNat) 1)),I (Af (nth .dead (nth [] (v0.set D.toNat [I E,I G,I J]) D.toNat) 2))]) D.toNat) 0)),I (wrap .i64 (Af (nth .dead (nth [] ((v0.set D.toNat [I E,I G,I J]).set D.toNat [I (wrap .i64 (Af (nth .dead (nth [] (v0.set D.toNat [I E,I G,I J]) D.toNat) 0)+gA L 0)),I (Af (nth .dead (nth [] (v0.set D.toNat [I E,I G,I J]) D.toNat) 1)),I (Af (nth .dead (nth [] (v0.set D.toNat [I E,I G,I J]) D.toNat) 2))]) D.toNat) 1)+gA N 0)),I (Af (nth .dead (nth [] ((v0.set D.toNat [I E,I G,I J]).set D.toNat [I (wrap .i64 (Af (nth .dead (nth [] (v0.set D.toNat [I E,I G,I J]) D.toNat) 0)+gA L 0)),I (Af (nth .dead (nth [] (v0.set D.toNat [I E,I G,I J]) D.toNat) 1)),I (Af (nth .dead (nth [] (v0.set D.toNat [I E,I G,I J]) D.toNat) 2))]) D.toNat) 2))]) D.toNat) 1)),I (wrap .i64 (Af (nth .dead (nth [] (((v0.set D.toNat [I E,I G,I J]).set D.toNat [I (wrap .i64 (Af (nth .dead (nth [] (v0.set D.toNat [I E,I G,I J]) D.toNat) 0)+gA L 0)),I (Af (nth .dead (nth [] (v0.set D.toNat [I E,I G,I J]) D.toNat) 1)),I (Af (nth .dead (nth [] (v0.set D.toNat [I E,I G,I J]) D.toNat) 2))]).set D.toNat [I (Af (nth .dead (nth [] ((v0.set D.toNat [I E,I G,I J]).set D.toNat [I (wrap .i64 (Af (nth .dead (nth [] (v0.set D.toNat [I E,I G,I J]) D.toNat) 0)+gA L 0)),I (Af (nth .dead (nth [] (v0.set D.toNat [I E,I G,I J]) D.toNat) 1)),I (Af (nth .dead (nth [] (v0.set D.toNat [I E,I G,I J]) D.toNat) 2))]) D.toNat) 0)),I (wrap .i64 (Af (nth .dead (nth [] ((v0.set D.toNat [I E,I G,I J]).set D.toNat [I (wrap .i64 (Af (nth .dead (nth [] (v0.set D.toNat [I E,I G,I J]) D.toNat) 0)+gA L 0)),I (Af (nth .dead (nth [] (v0.set D.toNat [I E,I G,I J]) D.toNat) 1)),I (Af (nth .dead (nth [] (v0.set D.toNat [I E,I G,I J]) D.toNat) 2))]) D.toNat) 1)+gA N 0)),I (Af (nth .dead (nth [] ((v0.set D.toNat [I E,I G,I J]).set D.toNat [I (wrap .i64 (Af (nth .dead (nth [] (v0.set D.toNat [I E,I G,I J]) D.toNat) 0)+gA L 0)),I (Af (nth .dead (nth [] (v0.set D.toNat [I E,I G,I J]) D.toNat) 1)),I (Af (nth .dead (nth [] (v0.set D.toNat [I E,I G,I J]) D.toNat) 2))]) D.toNat) 2))]) D.toNat) 2)+gA X 0))]),I M,I S,I (wrap .i64 (D+1)),I E,I G,I J,I T,I U,I V,I v10,I v11,I v12])
 else
 none
 else
 none
 else
 none
 else
 none
 else
 none
 else
 none
 else
 none
 else
 some (1,[.view kPt v0]):=by kernel_rfl
theorem Q3j (AL Hq S GS:Fn) (N9:Lp) (T U V J L M X Y x8 x9:Int):Qk7 AL Hq S GS N9 [I T,I U,I V,I J,I L,I M,I X,I Y,I x8,I x9]=
 (GS [I T,I U,I V,I J,I L,I M,I X,I Y,I x8,I x9]).bind λN=>
 bif gA N 0==0 then
 some [.view kPt [[I J,I L,I M]]]
 else
 (S [I J,I L,I M,I T,I U,I V,jA N 0]).bind λE=>
 (S [I J,I L,I M,I X,I Y,I x8,jA N 0]).bind λG=>
 (Hq [jA E 0,jA E 1,jA E 2,I J,I L,I M,jA G 0,jA G 1,jA G 2]).bind λD=>
 bif decide (wrap .i64 (gA D 0+1)=wrap .i64 (gA D 0+1))then
 bif decide (0<=wrap .i64 (gA D 0+1))&&decide (wrap .i64 (gA D 0+1)*(↑24:Int)<=140737488355328)then
 (N9 [.view kPt (List.replicate (wrap .i64 (gA D 0+1)).toNat [I 0,I 0,I 0]),jA D 0,I (↑(List.replicate (wrap .i64 (gA D 0+1)).toNat [I 0,I 0,I 0]).length:Int),I 0,I J,I L,I M,jA E 0,jA E 1,jA E 2,jA G 0,jA G 1,jA G 2]).bind λO=>
 bif O.1.beq 1 then
 some [.view kPt (wA O.2 0)]
 else
 none
 else
 none
 else
 none:=by kernel_rfl
def Q2e:=Al (O3 BE KY Hg L6)
def PI:=Qk7 BE KY Hg L6 Q2e
theorem Q5h:Aj PG (Qcr BE KY Hg L6):=Ap rfl ⟨LE,Zfl,Q3a,Zom,trivial⟩
theorem Z2k:Am PG (208,Ad Qgu Qai PI):=rw2 (C:=(Q70 BE KY Hg L6 Q2e)) (fl fb Q5h) Q5h
def Zy6 (M:Fn):Nat×Spec:=(209,Ad Qah Qah M)
def Qxg:Fn:=An PG Qbm 64 209 Qah Qah
theorem Zmj (D E G:Int):Qxg [I D,I E,I G]=
 some [I (wrap .i64 (D*16)),I (wrap .i64 (E*16)),I (wrap .i64 (G*16))]:=by kernel_rfl
def OF:=Qxg
theorem Znf:Am PG (209,Ad Qah Qah OF):=rw1 (C:=Qbm) Zes
def Qak:Sk:=⟨[TS.v true (cc 13++[CS.bool,ci,CS.bool]++cc 5++[CS.bool]),TS.v true (cc 13++[CS.bool,ci,CS.bool]++cc 5++[CS.bool])],[],[]⟩
def Qrt:Sk:=⟨[TS.tup [(false,[CS.sl kPt]),(false,[CS.sl kPt])]],[],[]⟩
def Ze5 (M:Fn):Nat×Spec:=(194,Ad Qak Qrt M)
def Qf3 (D E G:Fn):Cfg:=cf [Zib D,Zy6 E,Qcm G]
def Qia (D E G:Fn):Fn:=An PG (Qf3 D E G) 64 194 Qak Qrt
theorem Z7x (Nv OI Cf:Fn) (x0 x1 x2 x3 x4 x5 x6 x7 x8 x9 G J L:Int) (M:Bool) (N:Int) (O:Bool) (S T E U V:Int) (X:Bool) (Y a0 a1 a2 a3 a4 a5 a6 a7 a8 a9 b0 b1:Int) (b2:Bool) (b3:Int) (b4:Bool) (b5 b6 b7 b8 b9:Int) (c0:Bool):Qia Nv OI Cf [I x0,I x1,I x2,I x3,I x4,I x5,I x6,I x7,I x8,I x9,I G,I J,I L,B M,I N,B O,I S,I T,I E,I U,I V,B X,I Y,I a0,I a1,I a2,I a3,I a4,I a5,I a6,I a7,I a8,I a9,I b0,I b1,B b2,I b3,B b4,I b5,I b6,I b7,I b8,I b9,B c0]=
 (Cf [I x0,I x1,I x2,I x3,I x4,I x5,I x6,I x7,I x8,I x9,I G,I J,I L,B M,I N,B O,I S,I T,I E,I U,I V,B X]).bind λo4=>
 (OI [I x5,I x6,I x7]).bind λo5=>
 (Cf [I Y,I a0,I a1,I a2,I a3,I a4,I a5,I a6,I a7,I a8,I a9,I b0,I b1,B b2,I b3,B b4,I b5,I b6,I b7,I b8,I b9,B c0]).bind λo6=>
 (Nv [jA o4 0,jA o4 1,jA o4 2,jA o5 0,jA o5 1,jA o5 2,jA o6 0,jA o6 1,jA o6 2,I (wrap .i64 (E*16))]).bind λD=>
 bif decide (0<=wrap .i64 (wrap .i64 ((wrap .i64 ((↑(wA D 0).length:Int)-1)).tdiv 2)+1))&&decide (wrap .i64 (wrap .i64 ((wrap .i64 ((↑(wA D 0).length:Int)-1)).tdiv 2)+1)<=(↑(wA D 0).length:Int))then
 bif decide (0<=wrap .i64 ((wrap .i64 ((↑(wA D 0).length:Int)-1)).tdiv 2))&&decide (wrap .i64 ((wrap .i64 ((↑(wA D 0).length:Int)-1)).tdiv 2)<=(↑(wA D 0).length:Int))then
 some [.view kPt (List.take (wrap .i64 (wrap .i64 ((wrap .i64 ((↑(wA D 0).length:Int)-1)).tdiv 2)+1)).toNat (wA D 0)), .view kPt (List.drop (wrap .i64 ((wrap .i64 ((↑(wA D 0).length:Int)-1)).tdiv 2)).toNat (wA D 0))]
 else
 none
 else
 none:=by kernel_rfl
def Rn:=Qia PI OF GF
theorem Zzc:Aj PG (Qf3 PI OF GF):=Ap rfl ⟨Z2k,Znf,Qrp,trivial⟩
theorem Z1m:Am PG (194,Ad Qak Qrt Rn):=rw1 (C:=(Qf3 PI OF GF)) Zzc
def Qfw:Sk:=⟨[TS.tup [(false,[ci]),(false,[ci]),(false,[ci]),(false,[CS.bool])]],[],[]⟩
def Qon (M:Fn):Nat×Spec:=(188,Ad Zv Qfw M)
def Qt2:Fn:=An PG Qbm 64 188 Zv Qfw
theorem Z07 (D:Int):Qt2 [I D]=
 bif D==17 then
 some [I 0,I 1,I 2,B true]
 else
 bif D==18 then
 some [I 2,I 0,I 1,B true]
 else
 bif D==19 then
 some [I 1,I 2,I 0,B true]
 else
 some [I 0,I 0,I 0,B false]:=by kernel_rfl
def F2:=Qt2
theorem Qpd:Am PG (188,Ad Zv Qfw F2):=rw1 (C:=Qbm) Zes
def Zgj (M:Fn):Nat×Spec:=(207,Ad Xh Qah M)
def Qgp (D:Fn):Cfg:=cf [Qon D]
def Qh4 (D:Fn):Fn:=An PG (Qgp D) 64 207 Xh Qah
abbrev Uk (o1:List AC) (J:Int) (D E G:AC):Option (List AC):=
 bif decide (gA o1 2=(↑0:Int))then
 some [I J,D,E]
 else
 bif decide (gA o1 2=(↑(0+1):Int))then
 some [G,I J,E]
 else
 bif decide (gA o1 2=(↑(0+1+1):Int))then
 some [G,D,I J]
 else
 none
abbrev So (o1:List AC) (J L:Int) (D E G:AC):Option (List AC):=
 bif decide (gA o1 1=(↑0:Int))then
 Uk o1 J D E (I L)
 else
 bif decide (gA o1 1=(↑(0+1):Int))then
 Uk o1 J (I L) E G
 else
 bif decide (gA o1 1=(↑(0+1+1):Int))then
 Uk o1 J D (I L) G
 else
 none
theorem Zvj (J:Fn) (D E G L:Int):Qh4 J [I D,I E,I G,I L]=
 (J [I L]).bind λo1=>
 bif bA o1 3 then
 bif decide (gA o1 0=(↑0:Int))then
 So o1 G E (I 0) (I 0) (I D)
 else
 bif decide (gA o1 0=(↑(0+1):Int))then
 So o1 G E (I D) (I 0) (I 0)
 else
 bif decide (gA o1 0=(↑(0+1+1):Int))then
 So o1 G E (I 0) (I D) (I 0)
 else
 none
 else
 some [I 0,I 0,I 0]:=by kernel_rfl
def Np:=Qh4 F2
theorem Z77:Aj PG (Qgp F2):=Ap rfl ⟨Qpd,trivial⟩
theorem Z16:Am PG (207,Ad Xh Qah Np):=rw1 (C:=(Qgp F2)) Z77
def Qi8:Sk:=⟨[TS.tup [(false,[ci]),(false,[ci]),(false,[ci])]],[],[]⟩
def Qx5 (M:Fn):Nat×Spec:=(203,Ad Qhr Qi8 M)
def V6 (D:Fn):Cfg:=cf [Qon D]
def Vj (D:Fn):Fn:=An PG (V6 D) 64 203 Qhr Qi8
abbrev Sr (o1:List AC) (D:AC) (G J L:Int) (E:AC):Option (List AC):=
 bif decide (gA o1 2=(↑0:Int))then
 some [D,E,I G]
 else
 bif decide (gA o1 2=(↑(0+1):Int))then
 some [D,E,I J]
 else
 bif decide (gA o1 2=(↑(0+1+1):Int))then
 some [D,E,I L]
 else
 none
abbrev S7 (o1:List AC) (E G J:Int) (D:AC):Option (List AC):=
 bif decide (gA o1 1=(↑0:Int))then
 Sr o1 D E G J (I E)
 else
 bif decide (gA o1 1=(↑(0+1):Int))then
 Sr o1 D E G J (I G)
 else
 bif decide (gA o1 1=(↑(0+1+1):Int))then
 Sr o1 D E G J (I J)
 else
 none
theorem Z7w (J:Fn) (D E G L:Int):Vj J [I D,I E,I G,I L]=
 (J [I L]).bind λo1=>
 bif !bA o1 3 then
 some [I 0,I 0,I 0]
 else
 bif decide (gA o1 0=(↑0:Int))then
 S7 o1 D E G (I D)
 else
 bif decide (gA o1 0=(↑(0+1):Int))then
 S7 o1 D E G (I E)
 else
 bif decide (gA o1 0=(↑(0+1+1):Int))then
 S7 o1 D E G (I G)
 else
 none:=by kernel_rfl
def Ir:=Vj F2
theorem Ziy:Aj PG (V6 F2):=Ap rfl ⟨Qpd,trivial⟩
theorem Qv2:Am PG (203,Ad Qhr Qi8 Ir):=rw1 (C:=(V6 F2)) Ziy
def Zau (M:Fn):Nat×Spec:=(204,Ad Qah Qah M)
def Qt4:Fn:=An PG Qbm 64 204 Qah Qah
theorem Zmo (D E G:Int):Qt4 [I D,I E,I G]=
 some [I (wrap .i64 (D*16)),I (wrap .i64 (E*16)),I (wrap .i64 (G*16))]:=by kernel_rfl
def HQ:=Qt4
theorem Q7x:Am PG (204,Ad Qah Qah HQ):=rw1 (C:=Qbm) Zes
def Qo8:Sk:=⟨[TS.v true [ci,ci,ci,ci],TS.v true [ci,ci,ci,ci]],[],[]⟩
def Qiz (M:Fn):Nat×Spec:=(192,Ad Qo8 Zv M)
def Qvn:Fn:=An PG Qbm 64 192 Qo8 Zv
theorem Zmr (D E L M G J N O:Int):Qvn [I D,I E,I L,I M,I G,I J,I N,I O]=
 some [I (wrap .i64 (wrap .i64 (D*J)-wrap .i64 (E*G)))]:=by kernel_rfl
def Hp:=Qvn
theorem Xg:Am PG (192,Ad Qo8 Zv Hp):=rw1 (C:=Qbm) Zes
def Qqm (M:Fn):Nat×Spec:=(190,Ad Qo8 Zv M)
def Qxj:Fn:=An PG Qbm 64 190 Qo8 Zv
theorem Zw5 (D E L M G J N O:Int):Qxj [I D,I E,I L,I M,I G,I J,I N,I O]=
 some [I (wrap .i64 (wrap .i64 (D*G)+wrap .i64 (E*J)))]:=by kernel_rfl
def GY:=Qxj
theorem Qad:Am PG (190,Ad Qo8 Zv GY):=rw1 (C:=Qbm) Zes
def Qmf:Sk:=⟨[TS.v true [ci,ci,ci,ci],TS.v true [ci,ci,ci,ci],tf [ci],tf [CS.bool]],[],[]⟩
def Qd2:Sk:=⟨[TS.tup [(true,[ci,ci,ci,ci]),(false,[CS.bool])]],[],[]⟩
def Z5d (M:Fn):Nat×Spec:=(218,Ad Qmf Qd2 M)
def Qhe (D E G:Fn):Cfg:=cf [Q43 D,Qiz E,Qqm G]
def Qer (D E G:Fn):Fn:=An PG (Qhe D E G) 64 218 Qmf Qd2
abbrev Qbh (O:Fn) (E:AC) (J L:Int) (D G:AC) (S T:Int):Option (List AC):=
 (O [E,I ((wrap .i64 (wrap .i64 (J+L)+1)).fdiv (2^min (Int.toNat 1) IntKind.i64.bits)),D,I 2]).bind λM=>
 (O [G,I ((wrap .i64 (wrap .i64 (J+L)+1)).fdiv (2^min (Int.toNat 1) IntKind.i64.bits)),D,I 2]).bind λN=>
 some [jA M 0,jA N 0,I ((wrap .i64 (wrap .i64 (J+L)+1)).fdiv (2^min (Int.toNat 1) IntKind.i64.bits)),I ((wrap .i64 (wrap .i64 (S+T)+1)).fdiv (2^min (Int.toNat 1) IntKind.i64.bits)),B true]
abbrev Rh (M:Fn) (N O S T:Int) (J L:Bool) (D E G:AC):Option (List AC):=
 bif J then
 bif L then
 some [I 0,I 0,I 0,I 0,B false]
 else
 Qbh M D N O E G S T
 else
 Qbh M D N O E G S T
abbrev Zf (X:Bool) (T:Fn) (M N O S D E:Int) (Y:Fn) (G J L:Int) (C7:Fn):Option (List AC):=
 bif X then
 Rh T M N O S (wrap .i64 (0-D)==0) (wrap .i64 (0-E)==0) (I (wrap .i64 (0-D))) (I (wrap .i64 (wrap .i64 (wrap .i64 (0-D)*wrap .i64 (0-D))+wrap .i64 (wrap .i64 (0-E)*wrap .i64 (0-E))))) (I (wrap .i64 (0-E)))
 else
 (Y [I D,I E,I M,I O,I G,I J,I N,I S]).bind λU=>
 bif decide (gA U 0<=0)then
 Rh T M N O S (wrap .i64 (L*wrap .i64 (J-E))==0) (wrap .i64 (L*wrap .i64 (D-G))==0) (I (wrap .i64 (L*wrap .i64 (J-E)))) (I (wrap .i64 (wrap .i64 (wrap .i64 (L*wrap .i64 (J-E))*wrap .i64 (L*wrap .i64 (J-E)))+wrap .i64 (wrap .i64 (L*wrap .i64 (D-G))*wrap .i64 (L*wrap .i64 (D-G)))))) (I (wrap .i64 (L*wrap .i64 (D-G))))
 else
 (C7 [I D,I E,I M,I O,I G,I J,I N,I S]).bind λV=>
 bif decide (wrap .i64 (gA V 0*L)<=0)then
 Rh T M N O S (wrap .i64 (0-wrap .i64 (D+G))==0) (wrap .i64 (0-wrap .i64 (E+J))==0) (I (wrap .i64 (0-wrap .i64 (D+G)))) (I (wrap .i64 (wrap .i64 (wrap .i64 (0-wrap .i64 (D+G))*wrap .i64 (0-wrap .i64 (D+G)))+wrap .i64 (wrap .i64 (0-wrap .i64 (E+J))*wrap .i64 (0-wrap .i64 (E+J)))))) (I (wrap .i64 (0-wrap .i64 (E+J))))
 else
 Rh T M N O S (wrap .i64 (D+G)==0) (wrap .i64 (E+J)==0) (I (wrap .i64 (D+G))) (I (wrap .i64 (wrap .i64 (wrap .i64 (D+G)*wrap .i64 (D+G))+wrap .i64 (wrap .i64 (E+J)*wrap .i64 (E+J))))) (I (wrap .i64 (E+J)))
theorem Zoe (E G J:Fn) (L M N O S T U V D:Int) (X:Bool):Qer E G J [I L,I M,I N,I O,I S,I T,I U,I V,I D,B X]=
 bif D !=1 then
 bif D != -1 then
 some [I 0,I 0,I 0,I 0,B false]
 else
 Zf X E N U O V L M J S T D G
 else
 Zf X E N U O V L M J S T D G:=by kernel_rfl
def Ni:=Qer IW Hp GY
theorem Z05:Aj PG (Qhe IW Hp GY):=Ap rfl ⟨Qum,Xg,Qad,trivial⟩
theorem Z2h:Am PG (218,Ad Qmf Qd2 Ni):=rw1 (C:=(Qhe IW Hp GY)) Z05
def Zub (M:Fn):Nat×Spec:=(223,Ad Za Qpq M)
def Q3y:Fn:=An PG Qbm 64 223 Za Qpq
theorem Zyu (D E:Int):Q3y [I D,I E]=
 some [B (decide (E<=wrap .i64 (wrap .i64 (wrap .i64 (8*D)*4)-64)))]:=by kernel_rfl
def Oo:=Q3y
theorem Zd7:Am PG (223,Ad Za Qpq Oo):=rw1 (C:=Qbm) Zes
def Qeb:Sk:=⟨[tf [CS.ptr 20000 0],TS.v true [ci,ci,ci,ci],TS.v true [ci,ci,ci,ci],tf [CS.bool]],[(20000,254,[ci,CS.own 20000 4])],[(20000,231,[kI,kI,kI,kI])]⟩
def WV:Sk:=⟨[tf [CS.bool]],[(20000,254,[ci,CS.own 20000 4])],[(20000,231,[kI,kI,kI,kI])]⟩
def Zk8 (M:Fn):Nat×Spec:=(217,Ad Qeb WV M)
def Qq8 (D E:Fn):Cfg:=cf [Zub D,Qiz E]
def Qhu (D E:Fn):Fn:=An PG (Qq8 D E) 64 217 Qeb WV
theorem Zg8 (S T:Fn) (E:Rw) (G J N U L M O V:Int) (X:Bool) (D:Int):Qhu S T [.view [kI,kI,kI,kI] E,I G,I J,I N,I U,I L,I M,I O,I V,B X,I D]=
 bif !X then
 (T [I G,I J,I N,I U,I L,I M,I O,I V]).bind λo2=>
 bif decide (wrap .i64 (gA o2 0*D)>0)then
 (S [I (mn N O),I (wrap .i64 (wrap .i64 (wrap .i64 (G-L)*wrap .i64 (G-L))+wrap .i64 (wrap .i64 (J-M)*wrap .i64 (J-M))))]).bind λo3=>
 some [.view [kI,kI,kI,kI] E,B (bA o3 0),I D]
 else
 some [.view [kI,kI,kI,kI] E,B false,I D]
 else
 some [.view [kI,kI,kI,kI] E,B false,I D]:=by kernel_rfl
def LS:=Qhu Oo Hp
theorem Zt9:Aj PG (Qq8 Oo Hp):=Ap rfl ⟨Zd7,Xg,trivial⟩
theorem Zo6:Am PG (217,Ad Qeb WV LS):=rw1 (C:=(Qq8 Oo Hp)) Zt9
def Qym:Nat:=20
def Ml:Sk:=⟨[tf [CS.ptr 20000 0],TS.v true [ci,ci,ci,ci],TS.v true [ci,ci,ci,ci],tf [CS.bool],tf [ci]],[(20000,254,[ci,CS.own 20000 4])],[(20000,231,[kI,kI,kI,kI])]⟩
def Nf:Sk:=⟨[TS.tup []],[(20000,254,[ci,CS.own 20000 4])],[(20000,231,[kI,kI,kI,kI])]⟩
def Zc4 (M:Fn):Nat×Spec:=(212,Ad Ml Nf M)
def Qo0 (D E G:Fn):Cfg:=cp [Zc4 D,Z5d E,Zk8 G] [212,217]
def UG (D E G:Fn):Fn:=An PG (Qo0 D E G) 64 212 Ml Nf
theorem Qst (X Od Om:Fn) (O:Rw) (S T U V D E G J:Int) (Y:Bool) (L N:Int):UG X Od Om [.view [kI,kI,kI,kI] O,I S,I T,I U,I V,I D,I E,I G,I J,B Y,I L,I N]=
 bif decide (L<16)then
 (Om [.view [kI,kI,kI,kI] O,I S,I T,I U,I V,I D,I E,I G,I J,B Y,I N]).bind λo4=>
 bif !bA o4 1 then
 (Od [I S,I T,I U,I V,I D,I E,I G,I J,jA o4 2,B Y]).bind λM=>
 bif bA M 4 then
 (X [.view [kI,kI,kI,kI] (wA o4 0),I S,I T,I U,I V,jA M 0,jA M 1,jA M 2,jA M 3,B false,I (wrap .i64 (L+1)),jA o4 2]).bind λo6=>
 (X [.view [kI,kI,kI,kI] (wA o6 0),jA M 0,jA M 1,jA M 2,jA M 3,I D,I E,I G,I J,B false,I (wrap .i64 (L+1)),jA o6 1]).bind λo7=>
 some [.view [kI,kI,kI,kI] (wA o7 0),jA o7 1]
 else
 bif((wA o4 0++[[I D,I E,I G,I J]]).length*32).ble 140737488355328 then
 some [.view [kI,kI,kI,kI] (wA o4 0++[[I D,I E,I G,I J]]),jA o4 2]
 else
 none
 else
 bif((wA o4 0++[[I D,I E,I G,I J]]).length*32).ble 140737488355328 then
 some [.view [kI,kI,kI,kI] (wA o4 0++[[I D,I E,I G,I J]]),jA o4 2]
 else
 none
 else
 bif((O++[[I D,I E,I G,I J]]).length*32).ble 140737488355328 then
 some [.view [kI,kI,kI,kI] (O++[[I D,I E,I G,I J]]),I N]
 else
 none:=by kernel_rfl
def Zcn (M:Fn):Fn:=UG M Ni LS
def OE:Nat->Fn
 |0=>λ_=>none
 |n+1=>Zcn (OE n)
theorem Zy1 {M:Fn} (h:Am PG (212,Ad Ml Nf M)):Aj PG (Qo0 M Ni LS):=Ap rfl ⟨h,Z2h,Zo6,trivial⟩
theorem Zhc {M:Fn} (h:Am PG (212,Ad Ml Nf M)):Am PG (212,Ad Ml Nf (Zcn M)):=Qoz (C:=(Qo0 M Ni LS)) (L:=64) (by kernel_rfl) (FnOK.bare rfl rfl rfl) (Zy1 h) eqOk F1 (by kernel_rfl) (by kernel_rfl)
theorem Zae:∀n,Am PG (212,Ad Ml Nf (OE n))
 |0=>Z5j
 |n+1=>Zhc (Zae n)
def SE:=OE Qym
theorem Zwn:Am PG (212,Ad Ml Nf SE):=Zae Qym
def Qdy:Sk:=⟨[TS.tup [(true,[ci,ci,ci,ci]),(true,[ci,ci,ci,ci])]],[],[]⟩
def Q66 (M:Fn):Nat×Spec:=(189,Ad Qe6 Qdy M)
def Qab (D E:Fn):Cfg:=cf [Qx5 D,Zau E]
def Q12:Sk:=⟨[td,tf [CS.ptr 1 0],tf [CS.ptr 2 0],tf [CS.ptr 3 0],tf [CS.ptr 4 0],tf [ci],tf [ci]]++dd 20++[TS.v true (cc 6),tf [ci]]++dd 27,[(1,74,cc 13++[CS.bool,ci,CS.bool]++cc 5++[CS.bool]),(2,231,[ci,ci,ci,ci]),(3,231,[ci,ci,ci,ci]),(4,242,cc 8)],[]⟩
def Qzv:List (Ex×Sk):=[(Ex.exit 0,⟨[td,td,tf [CS.ptr 2 0],tf [CS.ptr 3 0],tf [CS.ptr 4 0]]++dd 51,[(2,231,[ci,ci,ci,ci]),(3,231,[ci,ci,ci,ci]),(4,242,cc 8)],[]⟩)]
def Qqr (D E:Fn):Lp:=AW PG (Qab D E) 64 4 (AV PG 189 4) Q12 Qzv
def Qvk (D E:Fn) (G:Lp):Cfg:=(Qab D E).loop 4 Q12 Qzv G
def Yu (D E:Fn) (G:Lp):Fn:=An PG (Qvk D E G) 64 189 Qe6 Qdy
abbrev Qib (B_ Cn:Fn) (E v8 v0 v1 v2 v3 v4 v5 v6 v7 v9 v10 v11 v12 G J L M N O v20 v21:Int) (v22:Bool) (S:Int) (v24:Bool) (v25 T v27 v28 U:Int) (v30:Bool) (v31 V v33 X v35 v36 v37 v38 a2 v44 a3 v46 a4 v40 a5 v42:Int) (Y a0 a1:AC):Option (Nat×List AC):=
 (B_ [Y,a0,a1]).bind λo9=>
 (Cn [jA o9 0,jA o9 1,jA o9 2,I E]).bind λD=>
 bif decide (v8=(↑0:Int))then
 some (0,[I v0,I v1,I v2,I v3,I v4,I v5,I v6,I v7,I (wrap .i64 (v8+1)),I v9,I v10,I v11,I v12,I G,I J,I L,I M,I E,I N,I O,I v20,I v21,B v22,I S,B v24,I v25,I T,I v27,I v28,I U,B v30,I v31,I V,I v33,I X,I v35,I v36,I v37,I v38,I (wrap .i64 (gA D 0-v0)),I (wrap .i64 (gA D 1-v1)),I 0,jA D 2,I a2,I v44,I a3,I v46])
 else
 bif decide (v8=(↑(0+1):Int))then
 some (0,[I v0,I v1,I v2,I v3,I v4,I v5,I v6,I v7,I (wrap .i64 (v8+1)),I v9,I v10,I v11,I v12,I G,I J,I L,I M,I E,I N,I O,I v20,I v21,B v22,I S,B v24,I v25,I T,I v27,I v28,I U,B v30,I v31,I V,I v33,I X,I v35,I v36,I v37,I v38,I a4,I v40,I a5,I v42,I (wrap .i64 (gA D 0-v0)),I (wrap .i64 (gA D 1-v1)),I 0,jA D 2])
 else
 none
theorem Qos (Cn B_:Fn) (v0 v1 v2 v3 v4 v5 v6 v7 v8 v9 v10 v11 v12 N O S T U V X v20 v21:Int) (v22:Bool) (Y:Int) (v24:Bool) (v25 a0 v27 v28 a1:Int) (v30:Bool) (v31 D v33 E v35 v36 v37 v38 G v40 J v42 L v44 M v46:Int):Qqr Cn B_ [I v0,I v1,I v2,I v3,I v4,I v5,I v6,I v7,I v8,I v9,I v10,I v11,I v12,I N,I O,I S,I T,I U,I V,I X,I v20,I v21,B v22,I Y,B v24,I v25,I a0,I v27,I v28,I a1,B v30,I v31,I D,I v33,I E,I v35,I v36,I v37,I v38,I G,I v40,I J,I v42,I L,I v44,I M,I v46]=
 bif decide (v8<2)then
 bif decide (v8=(↑0:Int))then
 Qib B_ Cn U v8 v0 v1 v2 v3 v4 v5 v6 v7 v9 v10 v11 v12 N O S T V X v20 v21 v22 Y v24 v25 a0 v27 v28 a1 v30 v31 D v33 E v35 v36 v37 v38 L v44 M v46 G v40 J v42 (I v2) (I v3) (I v4)
 else
 bif decide (v8=(↑(0+1):Int))then
 Qib B_ Cn U v8 v0 v1 v2 v3 v4 v5 v6 v7 v9 v10 v11 v12 N O S T V X v20 v21 v22 Y v24 v25 a0 v27 v28 a1 v30 v31 D v33 E v35 v36 v37 v38 L v44 M v46 G v40 J v42 (I v5) (I v6) (I v7)
 else
 none
 else
 some (1,[I v31,I D,I v33,I E,I v35,I v36,I v37,I v38,I G,I v40,I J,I v42,I L,I v44,I M,I v46]):=by kernel_rfl
theorem Zvr (Cn B_:Fn) (N4:Lp) (x0 x1 x2 x3 x4 x5 x6 x7 x8 x9 E G L:Int) (M:Bool) (N:Int) (O:Bool) (S T U V X:Int) (Y:Bool):Yu Cn B_ N4 [I x0,I x1,I x2,I x3,I x4,I x5,I x6,I x7,I x8,I x9,I E,I G,I L,B M,I N,B O,I S,I T,I U,I V,I X,B Y]=
 (B_ [I x9,I E,I G]).bind λJ=>
 (Cn [jA J 0,jA J 1,jA J 2,I x8]).bind λa0=>
 (N4 [jA a0 0,jA a0 1,I x2,I x3,I x4,I x5,I x6,I x7,I 0,I x0,I x1,I x2,I x3,I x4,I x5,I x6,I x7,I x8,I x9,I E,I G,I L,B M,I N,B O,I S,I T,I U,I V,I X,B Y,I 0,I 0,I 0,I 0,I 0,I 0,I 0,I 0,I 0,I 0,I 0,I 0,I 0,I 0,I 0,I 0]).bind λD=>
 bif D.1.beq 1 then
 some [jA D.2 8,jA D.2 9,jA D.2 10,jA D.2 11,jA D.2 12,jA D.2 13,jA D.2 14,jA D.2 15]
 else
 none:=by kernel_rfl
def Zce:=Al (Qqr Ir HQ)
def K9:=Yu Ir HQ Zce
theorem Q5l:Aj PG (Qab Ir HQ):=Ap rfl ⟨Qv2,Q7x,trivial⟩
theorem Q6h:Am PG (189,Ad Qe6 Qdy K9):=rw2 (C:=(Qvk Ir HQ Zce)) (fl fb Q5l) Q5l
def Z6d (M:Fn):Nat×Spec:=(205,Ad Xh Zv M)
def Qkm (D E G I:Fn):Cfg:=cf [Qr4 D,T4 E,Qby G,Xl I]
def Qo5 (D E G I:Fn):Fn:=An PG (Qkm D E G I) 64 205 Xh Zv
theorem Zdk (Ev L D M:Fn) (N O S T:Int):Qo5 Ev L D M [I N,I O,I S,I T]=
 (M [I N,I O]).bind λV=>
 (M [I S,I T]).bind λE=>
 bif gA V 0 !=gA E 0 then
 bif decide (gA V 0<gA E 0)then
 some [I (-1)]
 else
 some [I 1]
 else
 (D [I N]).bind λX=>
 (D [I O]).bind λY=>
 (L [U (gA X 0),U (gA Y 0)]).bind λG=>
 (D [I S]).bind λa0=>
 (D [I T]).bind λa1=>
 (L [U (gA a0 0),U (gA a1 0)]).bind λJ=>
 (Ev [U (gA G 0),U (gA G 1),U (gA J 0),U (gA J 1)]).bind λa2=>
 some [I (wrap .i64 (gA V 0*gA a2 0))]:=by kernel_rfl
def Pe:=Qo5 IB E2 GI Gp
theorem Z3d:Aj PG (Qkm IB E2 GI Gp):=Ap rfl ⟨Qy1,UP,VR,Qdq,trivial⟩
theorem Zr0:Am PG (205,Ad Xh Zv Pe):=rw1 (C:=(Qkm IB E2 GI Gp)) Z3d
def Zyn (M:Fn):Nat×Spec:=(191,Ad Za Qpq M)
def YC (D:Fn):Cfg:=cf [Z6d D]
def Yj (D:Fn):Fn:=An PG (YC D) 64 191 Za Qpq
theorem Zqj (G:Fn) (D E:Int):Yj G [I D,I E]=
 bif decide (wrap .i64 (wrap .i64 (mx D E-mn D E)-16)<=0)then
 some [B true]
 else
 (G [I (wrap .i64 (wrap .i64 (mx D E-mn D E)-16)),I (wrap .i64 (wrap .i64 (mx D E-mn D E)-16)),I 64,I (mn D E)]).bind λo1=>
 some [B (decide (gA o1 0<=0))]:=by kernel_rfl
def Qg:=Yj Pe
theorem Zix:Aj PG (YC Pe):=Ap rfl ⟨Zr0,trivial⟩
theorem Z89:Am PG (191,Ad Za Qpq Qg):=rw1 (C:=(YC Pe)) Zix
def Zms (M:Fn):Nat×Spec:=(187,Ad Qah Qpq M)
def Zci:Fn:=An PG Qc4 64 187 Qah Qpq
theorem Zoa (D E G:Int):Zci [I D,I E,I G]=
 bif decide (D< -1048576)then
 some [B false]
 else
 bif decide (D>1048576)then
 some [B false]
 else
 bif decide (E< -1048576)then
 some [B false]
 else
 bif decide (E>1048576)then
 some [B false]
 else
 bif decide (G< -1048576)then
 some [B false]
 else
 bif decide (G>1048576)then
 some [B false]
 else
 some [B true]:=by kernel_rfl
def NW:=Zci
theorem Zrs:Am PG (187,Ad Qah Qpq NW):=rw1 (C:=Qc4) Zv2
def Qbc (M:Fn):Nat×Spec:=(167,Ad Qe6 Qpq M)
def Xm (D E G I J L:Fn):Cfg:=cf [Qiz D,Zyn E,Qqm G,Q66 I,Qon J,Zms L]
def Qoo (D E G I J L:Fn):Fn:=An PG (Xm D E G I J L) 64 167 Qe6 Qpq
abbrev Qg3 (H6:Fn) (x9 E G:Int) (Fs:Fn) (x0 x1 x2 x3 x4 x5 x6 x7 x8 N:Int) (J:Bool) (O:Int) (S:Bool) (T U V X Y:Int) (a0:Bool) (Cu J3 C7:Fn):Option (List AC):=
 (H6 [I x9,I E,I G]).bind λa1=>
 bif !bA a1 0 then
 some [B false]
 else
 (Fs [I x0,I x1,I x2,I x3,I x4,I x5,I x6,I x7,I x8,I x9,I E,I G,I N,B J,I O,B S,I T,I U,I V,I X,I Y,B a0]).bind λD=>
 (Cu [jA D 0,jA D 1,jA D 2,jA D 3,jA D 0,jA D 1,jA D 2,jA D 3]).bind λL=>
 (Cu [jA D 4,jA D 5,jA D 6,jA D 7,jA D 4,jA D 5,jA D 6,jA D 7]).bind λM=>
 bif decide (gA L 0<wrap .i64 (128*128))then
 some [B false]
 else
 bif decide (gA M 0<wrap .i64 (128*128))then
 some [B false]
 else
 (J3 [I (wrap .i64 ((gA L 0).tdiv 256)),I (wrap .i64 ((gA M 0).tdiv 256))]).bind λa2=>
 bif !bA a2 0 then
 some [B false]
 else
 bif J then
 bif gA D 0==gA D 4 then
 some [B (gA D 1==gA D 5)]
 else
 some [B false]
 else
 (C7 [jA D 0,jA D 1,jA D 2,jA D 3,jA D 4,jA D 5,jA D 6,jA D 7]).bind λa3=>
 bif gA a3 0 !=0 then
 some [B true]
 else
 (Cu [jA D 0,jA D 1,jA D 2,jA D 3,jA D 4,jA D 5,jA D 6,jA D 7]).bind λa4=>
 some [B (decide (gA a4 0<0))]
theorem Zwb (C7 J3 Cu Fs Ep Y:Fn) (X x1 x2 x3 x4 x5 x6 x7 x8 x9 E G D:Int) (J:Bool) (L:Int) (M:Bool) (N O S T U:Int) (V:Bool):Qoo C7 J3 Cu Fs Ep Y [I X,I x1,I x2,I x3,I x4,I x5,I x6,I x7,I x8,I x9,I E,I G,I D,B J,I L,B M,I N,I O,I S,I T,I U,B V]=
 bif decide (X<1)then
 some [B false]
 else
 bif decide (X>6)then
 some [B false]
 else
 (Y [I x2,I x3,I x4]).bind λa0=>
 bif !bA a0 0 then
 some [B false]
 else
 (Y [I x5,I x6,I x7]).bind λa1=>
 bif !bA a1 0 then
 some [B false]
 else
 bif X !=3 then
 some [B true]
 else
 (Ep [I x8]).bind λa2=>
 bif !bA a2 3 then
 some [B false]
 else
 bif D !=1 then
 bif D != -1 then
 some [B false]
 else
 Qg3 Y x9 E G Fs X x1 x2 x3 x4 x5 x6 x7 x8 D J L M N O S T U V Cu J3 C7
 else
 Qg3 Y x9 E G Fs X x1 x2 x3 x4 x5 x6 x7 x8 D J L M N O S T U V Cu J3 C7:=by kernel_rfl
def Ha:=Qoo Hp Qg GY K9 F2 NW
theorem Zfv:Aj PG (Xm Hp Qg GY K9 F2 NW):=Ap rfl ⟨Xg,Z89,Qad,Q6h,Qpd,Zrs,trivial⟩
theorem Qag:Am PG (167,Ad Qe6 Qpq Ha):=rw1 (C:=(Xm Hp Qg GY K9 F2 NW)) Zfv
def Qkb:Sk:=⟨[TS.tup [(false,[CS.sl [kI,kI,kI,kI]]),(false,[CS.bool])]],[],[]⟩
def Zo2 (M:Fn):Nat×Spec:=(206,Ad Qe6 Qkb M)
def VZ (D E G I J:Fn):Cfg:={cp [Zc4 D,Qu6 E,Qqm G,Q66 I,Qbc J] [212]with rowDst:=[39]}
def Qns (D E G I J:Fn):Fn:=An PG (VZ D E G I J) 64 206 Qe6 Qkb
theorem Z0h (F0 F7 Cu Fs CX:Fn) (x0 x1 x2 x3 x4 x5 x6 x7 x8 x9 J L E:Int) (G:Bool) (M:Int) (N:Bool) (O S T U V:Int) (X:Bool):Qns F0 F7 Cu Fs CX [I x0,I x1,I x2,I x3,I x4,I x5,I x6,I x7,I x8,I x9,I J,I L,I E,B G,I M,B N,I O,I S,I T,I U,I V,B X]=
 bif x0 !=3 then
 some [.view [kI,kI,kI,kI] [],B false]
 else
 (CX [I x0,I x1,I x2,I x3,I x4,I x5,I x6,I x7,I x8,I x9,I J,I L,I E,B G,I M,B N,I O,I S,I T,I U,I V,B X]).bind λo7=>
 bif !bA o7 0 then
 some [.view [kI,kI,kI,kI] [],B false]
 else
 (Fs [I x0,I x1,I x2,I x3,I x4,I x5,I x6,I x7,I x8,I x9,I J,I L,I E,B G,I M,B N,I O,I S,I T,I U,I V,B X]).bind λD=>
 (Cu [jA D 0,jA D 1,jA D 2,jA D 3,jA D 0,jA D 1,jA D 2,jA D 3]).bind λo9=>
 (F7 [jA o9 0,I 2]).bind λY=>
 (Cu [jA D 4,jA D 5,jA D 6,jA D 7,jA D 4,jA D 5,jA D 6,jA D 7]).bind λa0=>
 (F7 [jA a0 0,I 2]).bind λa1=>
 (F0 [.view [kI,kI,kI,kI] [[jA D 0,jA D 1,jA Y 0,jA D 3]],jA D 0,jA D 1,jA Y 0,jA D 3,jA D 4,jA D 5,jA a1 0,jA D 7,B G,I 0,I E]).bind λa2=>
 some [.view [kI,kI,kI,kI] (wA a2 0),B true]:=by kernel_rfl
def Pa:=Qns SE Jb GY K9 Ha
theorem Z4z:Aj PG (VZ SE Jb GY K9 Ha):=Ap rfl ⟨Zwn,Qxp,Qad,Q6h,Qag,trivial⟩
theorem Zkh:Am PG (206,Ad Qe6 Qkb Pa):=rw1 (C:=(VZ SE Jb GY K9 Ha)) Z4z
def Qft:Sk:=⟨[TS.tup [(false,[CS.sl kPt]),(false,[CS.bool])]],[],[]⟩
def Zov (M:Fn):Nat×Spec:=(193,Ad Qe6 Qft M)
def Qc3 (D E G GT I:Fn):Cfg:=cf [Zgj D,Qx5 E,Zau G,Zo2 GT,Qbc I]
def Q0h:Sk:=⟨[td,tf [CS.ptr 1 0],td,td,td,td,tf [ci],tf [ci],td,tf [CS.own 41 3]]++dd 32++[tf [CS.sl [kI,kI,kI,kI]],tf [ci],tf [ci]]++dd 22,[(1,74,cc 13++[CS.bool,ci,CS.bool]++cc 5++[CS.bool])],[(41,54,kPt)]⟩
def Q9z:List (Ex×Sk):=[(Ex.exit 0,⟨dd 9++[tf [CS.own 41 3]]++dd 57,[],[(41,54,kPt)]⟩)]
def Oy (D E G GT I:Fn):Lp:=AW PG (Qc3 D E G GT I) 64 9 (AV PG 193 9) Q0h Q9z
def Zc1 (D E G GT I:Fn) (J:Lp):Cfg:=(Qc3 D E G GT I).loop 9 Q0h Q9z J
def Up (D E G GT I:Fn) (J:Lp):Fn:=An PG (Zc1 D E G GT I J) 64 193 Qe6 Qft
theorem Q1y (HE Cn B_ GT CX:Fn) (v0:Rw) (X Y:Int) (J:Rw) (v4 D v6 v7 v8 v9 v10 v11 v12 L E M N O S:Int) (T:Bool) (v20:Int) (v21:Bool) (v22 U v24 v25 V:Int) (v27:Bool):Oy HE Cn B_ GT CX [.view kPt v0,I X,I Y, .view [kI,kI,kI,kI] J,I v4,I D,I v6,I v7,I v8,I v9,I v10,I v11,I v12,I L,I E,I M,I N,I O,I S,B T,I v20,B v21,I v22,I U,I v24,I v25,I V,B v27]=
 bif decide (D<v4)then
 bif decide (0<=D)&&decide (D<(J.length:Int))then
 (HE [I (wrap .i64 (X+gA (nth [] J D.toNat) 0)),I (wrap .i64 (Y+gA (nth [] J D.toNat) 1)),jA (nth [] J D.toNat) 3,I E]).bind λG=>
 bif decide (0<=D)&&decide (D<(v0.length:Int))then
 some (0,[.view kPt (v0.set D.toNat [jA G 0,jA G 1,jA G 2]),I X,I Y, .view [kI,kI,kI,kI] J,I v4,I (wrap .i64 (D+1)),I v6,I v7,I v8,I v9,I v10,I v11,I v12,I L,I E,I M,I N,I O,I S,B T,I v20,B v21,I v22,I U,I v24,I v25,I V,B v27])
 else
 none
 else
 none
 else
 some (1,[.view kPt v0]):=by kernel_rfl
theorem VT (HE Cn B_ GT CX:Fn) (N9:Lp) (x0 x1 x2 x3 x4 x5 x6 x7 x8 x9 E G J:Int) (L:Bool) (M:Int) (N:Bool) (O S T U V:Int) (X:Bool):Up HE Cn B_ GT CX N9 [I x0,I x1,I x2,I x3,I x4,I x5,I x6,I x7,I x8,I x9,I E,I G,I J,B L,I M,B N,I O,I S,I T,I U,I V,B X]=
 (CX [I x0,I x1,I x2,I x3,I x4,I x5,I x6,I x7,I x8,I x9,I E,I G,I J,B L,I M,B N,I O,I S,I T,I U,I V,B X]).bind λa4=>
 bif !bA a4 0 then
 some [.view kPt [],B false]
 else
 (GT [I x0,I x1,I x2,I x3,I x4,I x5,I x6,I x7,I x8,I x9,I E,I G,I J,B L,I M,B N,I O,I S,I T,I U,I V,B X]).bind λD=>
 bif !bA D 1 then
 (B_ [I x2,I x3,I x4]).bind λY=>
 (B_ [I x5,I x6,I x7]).bind λa0=>
 some [.view kPt [[jA Y 0,jA Y 1,jA Y 2],[jA a0 0,jA a0 1,jA a0 2]],B true]
 else
 (B_ [I x9,I E,I G]).bind λa1=>
 (Cn [jA a1 0,jA a1 1,jA a1 2,I x8]).bind λa2=>
 bif decide ((↑(wA D 0).length:Int)=(↑(wA D 0).length:Int))then
 bif decide (0<=(↑(wA D 0).length:Int))&&decide ((↑(wA D 0).length:Int)*(↑24:Int)<=140737488355328)then
 (N9 [.view kPt (List.replicate (↑(wA D 0).length:Int).toNat [I 0,I 0,I 0]),jA a2 0,jA a2 1, .view [kI,kI,kI,kI] (wA D 0),I (↑(wA D 0).length:Int),I 0,I x0,I x1,I x2,I x3,I x4,I x5,I x6,I x7,I x8,I x9,I E,I G,I J,B L,I M,B N,I O,I S,I T,I U,I V,B X]).bind λa3=>
 bif a3.1.beq 1 then
 some [.view kPt (wA a3.2 0),B true]
 else
 none
 else
 none
 else
 none:=by kernel_rfl
def Zca:=Al (Oy Np Ir HQ Pa Ha)
def P1:=Up Np Ir HQ Pa Ha Zca
theorem Qxd:Aj PG (Qc3 Np Ir HQ Pa Ha):=Ap rfl ⟨Z16,Qv2,Q7x,Zkh,Qag,trivial⟩
theorem Zjj:Am PG (193,Ad Qe6 Qft P1):=rw2 (C:=(Zc1 Np Ir HQ Pa Ha Zca)) (fl fb Qxd) Qxd
def Qmt:Sk:=⟨[tf [CS.sl Ai],tf [ci],tf [ci]],[],[]⟩
def Zil (M:Fn):Nat×Spec:=(170,Ad Qmt Qai M)
def Qa7 (D E G I J L:Fn):Cfg:=cf [Qcm D,Qlt E,Q2q G,Ze5 I,U1 J,Zov L]
def WG (D E G I J L:Fn):Fn:=An PG (Qa7 D E G I J L) 64 170 Qmt Qai
theorem Zlx (U BD Cd Ll BA Oc:Fn) (E:Rw) (O V:Int):WG U BD Cd Ll BA Oc [.view Ai E,I O,I V]=
 bif decide (0<=O)&&decide (O<(E.length:Int))then
 (Oc (AT Ai (nth [] E O.toNat))).bind λD=>
 (BA (AT Ai (nth [] E O.toNat))).bind λa0=>
 bif !bA a0 0 then
 some [.view kPt (wA D 0)]
 else
 bif decide (0<=1)&&decide (1<=(↑(wA D 0).length:Int))then
 bif decide (0<=wrap .i64 ((↑(wA D 0).length:Int)-1))&&decide (wrap .i64 ((↑(wA D 0).length:Int)-1)<=(↑(wA D 0).length:Int))then
 bif decide (V>=0)then
 bif decide (0<=V)&&decide (V<(E.length:Int))then
 (Ll (AT Ai (nth [] E V.toNat)++AT Ai (nth [] E O.toNat))).bind λN=>
 (Cd [.view Ai E,I O]).bind λa1=>
 bif bA a1 0 then
 (BD [.view Ai E,I O]).bind λS=>
 bif decide (0<=gA S 0)&&decide (gA S 0<(E.length:Int))then
 (Ll (AT Ai (nth [] E O.toNat)++AT Ai (nth [] E (gA S 0).toNat))).bind λX=>
 bif(([]++wA N 1).length*24).ble 140737488355328 then
 (U (AT Ai (nth [] E O.toNat))).bind λG=>
 bif(([]++wA N 1++[[jA G 0,jA G 1,jA G 2]]).length*24).ble 140737488355328 then
 bif(([]++wA N 1++[[jA G 0,jA G 1,jA G 2]]++wA X 0).length*24).ble 140737488355328 then
 some [.view kPt ([]++wA N 1++[[jA G 0,jA G 1,jA G 2]]++wA X 0)]
 else
 none
 else
 none
 else
 none
 else
 none
 else
 bif(([]++wA N 1).length*24).ble 140737488355328 then
 (U (AT Ai (nth [] E O.toNat))).bind λJ=>
 bif(([]++wA N 1++[[jA J 0,jA J 1,jA J 2]]).length*24).ble 140737488355328 then
 bif(([]++wA N 1++[[jA J 0,jA J 1,jA J 2]]++List.drop (wrap .i64 ((↑(wA D 0).length:Int)-1)).toNat (wA D 0)).length*24).ble 140737488355328 then
 some [.view kPt ([]++wA N 1++[[jA J 0,jA J 1,jA J 2]]++List.drop (wrap .i64 ((↑(wA D 0).length:Int)-1)).toNat (wA D 0))]
 else
 none
 else
 none
 else
 none
 else
 none
 else
 (Cd [.view Ai E,I O]).bind λa2=>
 bif bA a2 0 then
 (BD [.view Ai E,I O]).bind λT=>
 bif decide (0<=gA T 0)&&decide (gA T 0<(E.length:Int))then
 (Ll (AT Ai (nth [] E O.toNat)++AT Ai (nth [] E (gA T 0).toNat))).bind λY=>
 bif(([]++List.take (Int.toNat 1) (wA D 0)).length*24).ble 140737488355328 then
 (U (AT Ai (nth [] E O.toNat))).bind λL=>
 bif(([]++List.take (Int.toNat 1) (wA D 0)++[[jA L 0,jA L 1,jA L 2]]).length*24).ble 140737488355328 then
 bif(([]++List.take (Int.toNat 1) (wA D 0)++[[jA L 0,jA L 1,jA L 2]]++wA Y 0).length*24).ble 140737488355328 then
 some [.view kPt ([]++List.take (Int.toNat 1) (wA D 0)++[[jA L 0,jA L 1,jA L 2]]++wA Y 0)]
 else
 none
 else
 none
 else
 none
 else
 none
 else
 bif(([]++List.take (Int.toNat 1) (wA D 0)).length*24).ble 140737488355328 then
 (U (AT Ai (nth [] E O.toNat))).bind λM=>
 bif(([]++List.take (Int.toNat 1) (wA D 0)++[[jA M 0,jA M 1,jA M 2]]).length*24).ble 140737488355328 then
 bif(([]++List.take (Int.toNat 1) (wA D 0)++[[jA M 0,jA M 1,jA M 2]]++List.drop (wrap .i64 ((↑(wA D 0).length:Int)-1)).toNat (wA D 0)).length*24).ble 140737488355328 then
 some [.view kPt ([]++List.take (Int.toNat 1) (wA D 0)++[[jA M 0,jA M 1,jA M 2]]++List.drop (wrap .i64 ((↑(wA D 0).length:Int)-1)).toNat (wA D 0))]
 else
 none
 else
 none
 else
 none
 else
 none
 else
 none
 else
 none:=by kernel_rfl
def Nu:=WG GF FQ HD Rn Fm P1
theorem Zys:Aj PG (Qa7 GF FQ HD Rn Fm P1):=Ap rfl ⟨Qrp,Qmk,Qwl,Z1m,S6,Zjj,trivial⟩
theorem Z44:Am PG (170,Ad Qmt Qai Nu):=rw1 (C:=(Qa7 GF FQ HD Rn Fm P1)) Zys
def Qel:Sk:=⟨[TS.v true (cc 13++[CS.bool,ci,CS.bool]++cc 5++[CS.bool]),tf [ci]],[],[]⟩
def Zlp (M:Fn):Nat×Spec:=(168,Ad Qel Zv M)
def ZM (D:Fn):Cfg:=cf [My D]
def VL (D:Fn):Fn:=An PG (ZM D) 64 168 Qel Zv
theorem Qyg (AL:Fn) (Y x1 x2 x3 x4 x5 x6 x7 x8 x9 J L M:Int) (N:Bool) (D:Int) (E:Bool) (O S T U V:Int) (X:Bool) (G:Int):VL AL [I Y,I x1,I x2,I x3,I x4,I x5,I x6,I x7,I x8,I x9,I J,I L,I M,B N,I D,B E,I O,I S,I T,I U,I V,B X,I G]=
 bif Y==1 then
 some [I 0]
 else
 bif E then
 (AL [I (mn (wrap .i64 (D*mx G 1)) 60000000),I 4096,I 60000,I 2]).bind λo2=>
 some [I (mx (gA o2 0) 1)]
 else
 (AL [I (mn D 60000000),I 4096,I 60000,I 2]).bind λo3=>
 some [I (mx (gA o3 0) 1)]:=by kernel_rfl
def J6:=VL BE
theorem Zr8:Aj PG (ZM BE):=Ap rfl ⟨LE,trivial⟩
theorem Z6y:Am PG (168,Ad Qel Zv J6):=rw1 (C:=(ZM BE)) Zr8
def Qkh:Sk:=⟨[tf [CS.ptr 20000 0],tf [CS.sl Ai],tf [ci],tf [ci]],[(20000,142,[ci,ci,ci,CS.own 20000 7,CS.own 20001 3,CS.bool,ci,ci,ci])],[(20000,162,Ah),(20001,76,kPt)]⟩
def Qdl:Sk:=⟨[tf [CS.bool]],[(20000,142,[ci,ci,ci,CS.own 20000 7,CS.own 20001 3,CS.bool,ci,ci,ci])],[(20000,162,Ah),(20001,76,kPt)]⟩
def Z59 (M:Fn):Nat×Spec:=(126,Ad Qkh Qdl M)
def Qa9 (D E G I J L:Fn):Cfg:=cp [Qcm D,U1 E,Z5s G,Zil I,Qvu J,Zlp L] [171]
def Q7r:Sk:=⟨[tf [CS.ptr 20000 0]]++dd 8++[tf [CS.ptr 9 0],tf [CS.ptr 10 0]]++dd 24++[tf [CS.sl kPt],tf [ci],tf [ci]]++dd 30,[(9,74,cc 13++[CS.bool,ci,CS.bool]++cc 5++[CS.bool]),(10,162,cc 7),(20000,142,[ci,ci,ci,CS.own 20000 7,CS.own 20001 3,CS.bool,ci,ci,ci])],[(20000,162,Ah),(20001,76,kPt)]⟩
def Q0k:List (Ex×Sk):=[(Ex.exit 0,⟨[tf [CS.ptr 20000 0]]++dd 67,[(20000,142,[ci,ci,ci,CS.own 20000 7,CS.own 20001 3,CS.bool,ci,ci,ci])],[(20000,162,Ah),(20001,76,kPt)]⟩)]
def Mr (D E G I J L:Fn):Lp:=AW PG (Qa9 D E G I J L) 64 6 (AV PG 126 6) Q7r Q0k
def Qu4 (D E G I J L:Fn) (M:Lp):Cfg:=(Qa9 D E G I J L).loop 6 Q7r Q0k M
def Qlf (D E G I J L:Fn) (M:Lp):Fn:=An PG (Qu4 D E G I J L M) 64 126 Qkh Qdl
theorem Zcx (Cf BA Hv FI C2 HC:Fn) (v0 v1 V:Rw) (v3 E v5 v6 v7 v8 v9 v10 v11 v12 G J L M N:Int) (O:Bool) (S:Int) (v20:Bool) (v21 v22 T v24 v25:Int) (U:Bool) (v27 v28 X v30 v31 Y v33 a0 v35 v36:Int) (v37:Bool) (v38 a1 v40:Int):Mr Cf BA Hv FI C2 HC [.view Ah v0, .view kPt v1, .view kPt V,I v3,I E,I v5,I v6,I v7,I v8,I v9,I v10,I v11,I v12,I G,I J,I L,I M,I N,B O,I S,B v20,I v21,I v22,I T,I v24,I v25,B U,I v27,I v28,I X,I v30,I v31,I Y,I v33,I a0,I v35,I v36,B v37,I v38,I a1,I v40]=
 bif decide (E<v3)then
 bif decide (0<=E)&&decide (E<(V.length:Int))then
 (Hv [.view Ah v0, .view kPt v1,jA (nth [] V E.toNat) 0,jA (nth [] V E.toNat) 1,jA (nth [] V E.toNat) 2,I v27,I v28,I X,I v30,I v31,I Y,I v33,I a0,I v35,I v36,B v37,I v38,I a1,I v40]).bind λD=>
 (BA [I v5,I v6,I v7,I v8,I v9,I v10,I v11,I v12,I G,I J,I L,I M,I N,B O,I S,B v20,I v21,I v22,I T,I v24,I v25,B U]).bind λa3=>
 bif bA a3 0 then
 (Cf [I v5,I v6,I v7,I v8,I v9,I v10,I v11,I v12,I G,I J,I L,I M,I N,B O,I S,B v20,I v21,I v22,I T,I v24,I v25,B U]).bind λa2=>
 bif gA (nth [] V E.toNat) 0==gA a2 0&&(gA (nth [] V E.toNat) 1==gA a2 1&&(gA (nth [] V E.toNat) 2==gA a2 2&&true))then
 some (0,[.view Ah (wA D 0), .view kPt (wA D 1), .view kPt V,I v3,I (wrap .i64 (E+1)),I v5,I v6,I v7,I v8,I v9,I v10,I v11,I v12,I G,I J,I L,I M,I N,B O,I S,B v20,I v21,I v22,I T,I v24,I v25,B U,I v27,I v28,I X,I v30,I v31,I Y,I v33,jA D 2,jA D 3,jA D 4,B (bA D 5),jA D 6,jA D 7,jA D 6])
 else
 some (0,[.view Ah (wA D 0), .view kPt (wA D 1), .view kPt V,I v3,I (wrap .i64 (E+1)),I v5,I v6,I v7,I v8,I v9,I v10,I v11,I v12,I G,I J,I L,I M,I N,B O,I S,B v20,I v21,I v22,I T,I v24,I v25,B U,I v27,I v28,I X,I v30,I v31,I Y,I v33,jA D 2,jA D 3,jA D 4,B (bA D 5),jA D 6,jA D 7,jA D 8])
 else
 some (0,[.view Ah (wA D 0), .view kPt (wA D 1), .view kPt V,I v3,I (wrap .i64 (E+1)),I v5,I v6,I v7,I v8,I v9,I v10,I v11,I v12,I G,I J,I L,I M,I N,B O,I S,B v20,I v21,I v22,I T,I v24,I v25,B U,I v27,I v28,I X,I v30,I v31,I Y,I v33,jA D 2,jA D 3,jA D 4,B (bA D 5),jA D 6,jA D 7,jA D 8])
 else
 none
 else
 some (1,[.view Ah v0, .view kPt v1,I a0,I v35,I v36,B v37,I v38,I a1,I v40]):=by kernel_rfl
abbrev Qd6 (S:Fn) (O:Rw) (J T:Int) (U:Lp) (V X:Rw) (L:List AC) (Y x6 x7:Int) (x8:Bool) (x9 M N:Int) (E:AC):Option (List AC):=
 (S [.view Ai O,I J,I T]).bind λG=>
 (U (.view Ah V:: .view kPt X:: .view kPt (wA G 0)::I (↑(wA G 0).length:Int)::I 0::(AT Ai (nth [] O J.toNat)++[I 0,I 0,I 0,I 0,I J,jA L 0,E,I Y,I x6,I x7,B x8,I x9,I M,I N]))).bind λD=>
 bif D.1.beq 1 then
 some [.view Ah (wA D.2 0), .view kPt (wA D.2 1),B (decide ((↑(wA D.2 0).length:Int)<=1048576)),jA D.2 2,jA D.2 3,jA D.2 4,B (bA D.2 5),jA D.2 6,jA D.2 7,jA D.2 8]
 else
 none
theorem Z8y (Cf BA Hv M C2 HC:Fn) (N:Lp) (O S G:Rw) (E T U V X:Int) (Y:Bool) (x9 D J:Int):Qlf Cf BA Hv M C2 HC N [.view Ah O, .view kPt S, .view Ai G,I E,I T,I U,I V,I X,B Y,I x9,I D,I J]=
 bif decide (0<=E)&&decide (E<(G.length:Int))then
 (HC (AT Ai (nth [] G E.toNat)++[I D])).bind λL=>
 (C2 (AT Ai (nth [] G E.toNat))).bind λa0=>
 bif bA a0 0 then
 Qd6 M G E T N O S L U V X Y x9 D J (I (mn (wrap .i64 (gA (nth [] G E.toNat) 14*16)) 16777216))
 else
 Qd6 M G E T N O S L U V X Y x9 D J (I 0)
 else
 none:=by kernel_rfl
def Qun:=Al (Mr GF Fm PB Nu H4 J6)
def KK:=Qlf GF Fm PB Nu H4 J6 Qun
theorem Qxc:Aj PG (Qa9 GF Fm PB Nu H4 J6):=Ap rfl ⟨Qrp,S6,Ze4,Z44,Q3w,Z6y,trivial⟩
theorem Z78:Am PG (126,Ad Qkh Qdl KK):=rw2 (C:=(Qu4 GF Fm PB Nu H4 J6 Qun)) (fl fb Qxc) Qxc
def Zzd (M:Fn):Nat×Spec:=(122,Ad Qe6 Zv M)
def Wb (D E:Fn):Cfg:=cf [Qbc D,Us E]
def Qii (D E:Fn):Fn:=An PG (Wb D E) 64 122 Qe6 Zv
abbrev LF (G D E:Int):Option (List AC):=
 bif G==8 then
 bif decide (D<3)then
 some [I 1]
 else
 bif decide (D>5)then
 some [I 1]
 else
 bif decide (E<0)then
 some [I 1]
 else
 bif decide (E>30000)then
 some [I 1]
 else
 some [I 0]
 else
 some [I 0]
theorem Zo9 (CX Y:Fn) (G x1 x2 x3 x4 x5 x6 x7 x8 x9 M N O:Int) (S:Bool) (J:Int) (T:Bool) (U V L D E:Int) (X:Bool):Qii CX Y [I G,I x1,I x2,I x3,I x4,I x5,I x6,I x7,I x8,I x9,I M,I N,I O,B S,I J,B T,I U,I V,I L,I D,I E,B X]=
 bif decide (G<1)then
 some [I 1]
 else
 bif decide (G>14)then
 some [I 1]
 else
 (Y [I G]).bind λo4=>
 bif bA o4 0 then
 (CX [I G,I x1,I x2,I x3,I x4,I x5,I x6,I x7,I x8,I x9,I M,I N,I O,B S,I J,B T,I U,I V,I L,I D,I E,B X]).bind λo5=>
 bif !bA o5 0 then
 some [I 1]
 else
 bif decide (L<0)then
 some [I 1]
 else
 bif decide (L>1000)then
 some [I 1]
 else
 (Y [I G]).bind λo6=>
 bif bA o6 0 then
 bif G !=1 then
 bif decide (J<1)then
 some [I 1]
 else
 bif decide (J>60000000)then
 some [I 1]
 else
 LF G D E
 else
 LF G D E
 else
 LF G D E
 else
 (Y [I G]).bind λo7=>
 bif bA o7 0 then
 bif G !=1 then
 bif decide (J<1)then
 some [I 1]
 else
 bif decide (J>60000000)then
 some [I 1]
 else
 LF G D E
 else
 LF G D E
 else
 LF G D E:=by kernel_rfl
def JA:=Qii Ha D7
theorem Zp0:Aj PG (Wb Ha D7):=Ap rfl ⟨Qag,SM,trivial⟩
theorem Z9z:Am PG (122,Ad Qe6 Zv JA):=rw1 (C:=(Wb Ha D7)) Zp0
def Qpz:Sk:=⟨[tf [CS.sl Ai]],[],[]⟩
def Qmb:Sk:=⟨[TS.tup [(false,[CS.ptr 13 0]),(false,[ci])]],[(13,142,[ci,ci,ci,CS.own 1013003 7,CS.own 1013004 3,CS.bool,ci,ci,ci])],[(1013003,162,Ah),(1013004,76,kPt)]⟩
def Qtz (M:Fn):Nat×Spec:=(80,Ad Qpz Qmb M)
def Qbv (D E G I J L:Fn):Cfg:=cp [Zf9 D,Z59 E,Qlt G,Q2q I,Us J,Zzd L] [127,126]
def Q7s:Sk:=⟨[tf [CS.sl Ai],td,td,td,tf [CS.ptr 13 0],tf [ci]]++dd 12++[tf [CS.sl Ai],tf [ci],tf [ci]]++dd 87,[(13,142,[ci,ci,ci,CS.own 1013003 7,CS.own 1013004 3,CS.bool,ci,ci,ci])],[(1013003,162,Ah),(1013004,76,kPt)]⟩
def Qtl:List (Ex×Sk):=[(Ex.ret,⟨[td,td,tf [CS.ptr 13 0],tf [ci]]++dd 104,[(13,142,[ci,ci,ci,CS.own 1013003 7,CS.own 1013004 3,CS.bool,ci,ci,ci])],[(1013003,162,Ah),(1013004,76,kPt)]⟩),(Ex.exit 0,⟨[tf [CS.sl Ai],td,td,td,tf [CS.ptr 13 0]]++dd 103,[(13,142,[ci,ci,ci,CS.own 1013003 7,CS.own 1013004 3,CS.bool,ci,ci,ci])],[(1013003,162,Ah),(1013004,76,kPt)]⟩)]
def Qq (D E G I J L:Fn):Lp:=AW PG (Qbv D E G I J L) 64 6 (AV PG 80 6) Q7s Qtl
def Qzp (D E G I J L:Fn) (M:Lp):Cfg:=(Qbv D E G I J L).loop 6 Q7s Qtl M
def Zbb:Sk:=⟨[tf [CS.sl Ai],td,td,td,tf [CS.ptr 13 0],tf [ci]]++dd 44++[tf [CS.sl Ai],tf [ci],tf [ci]]++dd 55,[(13,142,[ci,ci,ci,CS.own 1013003 7,CS.own 1013004 3,CS.bool,ci,ci,ci])],[(1013003,162,Ah),(1013004,76,kPt)]⟩
def Zb3:List (Ex×Sk):=[(Ex.ret,⟨[td,td,tf [CS.ptr 13 0],tf [ci]]++dd 104,[(13,142,[ci,ci,ci,CS.own 1013003 7,CS.own 1013004 3,CS.bool,ci,ci,ci])],[(1013003,162,Ah),(1013004,76,kPt)]⟩),(Ex.exit 2,⟨[td,td,td,td,tf [CS.ptr 13 0]]++dd 103,[(13,142,[ci,ci,ci,CS.own 1013003 7,CS.own 1013004 3,CS.bool,ci,ci,ci])],[(1013003,162,Ah),(1013004,76,kPt)]⟩)]
def P0 (D E G I J L:Fn) (M:Lp):Lp:=AW PG (Qzp D E G I J L M) 64 18 (AV PG 80 18) Zbb Zb3
def Q5i (E G I J L M:Fn) (N D:Lp):Cfg:=(Qzp E G I J L M N).loop 18 Zbb Zb3 D
def Qkk (E G I J L M:Fn) (N D:Lp):Fn:=An PG (Q5i E G I J L M N D) 64 80 Qpz Qmb
theorem Q5b (Cr CB BD Cd X Y:Fn) (v0 M J:Rw) (L:Int) (G:Rw) (T E N O S:Int) (v10:Bool) (v11 v12 D:Int):Qq Cr CB BD Cd X Y [.view Ah v0, .view kPt M, .view Ai J,I L, .view Ai G,I T,I E,I N,I O,I S,B v10,I v11,I v12,I D]=
 bif decide (E<T)then
 bif decide (0<=E)&&decide (E<(G.length:Int))then
 (Y (AT Ai (nth [] G E.toNat))).bind λU=>
 bif gA U 0 !=0 then
 some (1,[.view Ah v0, .view kPt M,jA U 0,I N,I O,I S,B v10,I v11,I v12,I D])
 else
 (X [jA (nth [] G E.toNat) 0]).bind λV=>
 bif !bA V 0 then
 some (0,[.view Ah v0, .view kPt M, .view Ai J,I L, .view Ai G,I T,I (wrap .i64 (E+1)),I N,I O,I S,B v10,I v11,I v12,I D])
 else
 bif decide (L>=0)then
 bif decide (0<=L)&&decide (L<(J.length:Int))then
 bif !(gA (nth [] J L.toNat) 5==gA (nth [] G E.toNat) 2&&(gA (nth [] J L.toNat) 6==gA (nth [] G E.toNat) 3&&(gA (nth [] J L.toNat) 7==gA (nth [] G E.toNat) 4&&true)))then
 some (1,[.view Ah v0, .view kPt M,I 13,I N,I O,I S,B v10,I v11,I v12,I D])
 else
 some (0,[.view Ah v0, .view kPt M, .view Ai J,I E, .view Ai G,I T,I (wrap .i64 (E+1)),I N,I O,I S,B v10,I v11,I v12,I D])
 else
 none
 else
 some (0,[.view Ah v0, .view kPt M, .view Ai J,I E, .view Ai G,I T,I (wrap .i64 (E+1)),I N,I O,I S,B v10,I v11,I v12,I D])
 else
 none
 else
 some (2,[.view Ah v0, .view kPt M, .view Ai J,I N,I O,I S,B v10,I v11,I v12,I D]):=by kernel_rfl
abbrev Re (O:Fn) (v0 S M:Rw) (L T U V:Int) (v10:Bool) (v11:Int) (G:AC) (N:Int) (X:Fn) (Y:Rw) (v5:Int) (J:AC):Option (Nat×List AC):=
 (O [.view Ah v0, .view kPt S, .view Ai M,I L,J,I T,I U,I V,B v10,I v11,G,I N]).bind λD=>
 bif !bA D 2 then
 some (1,[.view Ah (wA D 0), .view kPt (wA D 1),I 10,jA D 3,jA D 4,jA D 5,B (bA D 6),jA D 7,jA D 8,jA D 9])
 else
 (X [.view Ah (wA D 0), .view kPt (wA D 1), .view Ai M,I L,jA D 3,jA D 4,jA D 5,B (bA D 6),jA D 7,jA D 8,jA D 9]).bind λE=>
 some (0,[.view Ah (wA E 0), .view kPt (wA E 1), .view Ai M,I L, .view Ai Y,I v5,I (wrap .i64 (L+1)),jA E 2,jA E 3,jA E 4,B (bA E 5),jA E 6,jA E 7,jA E 8])
abbrev P6 (AS:Fn) (M:Rw) (J N:Int) (Cd:Fn) (L:Rw) (Y:Fn) (v0 O:Rw) (S T U:Int) (v10:Bool) (v11 G:Int) (V:Fn) (X:Int) (BD:Fn) (E:AC):Option (Nat×List AC):=
 (AS [jA (nth [] M J.toNat) 0]).bind λa0=>
 bif bA a0 0 then
 bif decide (N>=0)then
 (Cd [.view Ai L,I N]).bind λa1=>
 bif !bA a1 0 then
 Re Y v0 O L J S T U v10 v11 E G V M X (I (-1))
 else
 (BD [.view Ai L,I N]).bind λa2=>
 bif gA a2 0 !=J then
 Re Y v0 O L J S T U v10 v11 E G V M X (I (-1))
 else
 Re Y v0 O L J S T U v10 v11 E G V M X (I N)
 else
 Re Y v0 O L J S T U v10 v11 E G V M X (I N)
 else
 (V [.view Ah v0, .view kPt O, .view Ai L,I J,I S,I T,I U,B v10,I v11,E,I G]).bind λD=>
 some (0,[.view Ah (wA D 0), .view kPt (wA D 1), .view Ai L,I N, .view Ai M,I X,I (wrap .i64 (J+1)),jA D 2,jA D 3,jA D 4,B (bA D 5),jA D 6,jA D 7,jA D 8])
theorem Q8p (S T U V X ER:Fn) (N6:Lp) (v0 J Y:Rw) (v3:Int) (G:Rw) (L D M N O:Int) (v10:Bool) (v11 v12 E:Int):P0 S T U V X ER N6 [.view Ah v0, .view kPt J, .view Ai Y,I v3, .view Ai G,I L,I D,I M,I N,I O,B v10,I v11,I v12,I E]=
 bif decide (D<L)then
 bif decide (0<=D)&&decide (D<(G.length:Int))then
 bif gA (nth [] G D.toNat) 0==8 then
 bif gA (nth [] G D.toNat) 19==3 then
 P6 X G D v3 V Y T v0 J M N O v10 v11 E S L U (jA (nth [] G D.toNat) 20)
 else
 bif gA (nth [] G D.toNat) 19==4 then
 P6 X G D v3 V Y T v0 J M N O v10 v11 E S L U (jA (nth [] G D.toNat) 20)
 else
 P6 X G D v3 V Y T v0 J M N O v10 v11 E S L U (I v12)
 else
 P6 X G D v3 V Y T v0 J M N O v10 v11 E S L U (I v12)
 else
 none
 else
 some (2,[.view Ah v0, .view kPt J,I M,I N,I O,B v10,I v11,I v12,I E]):=by kernel_rfl
theorem Zr5 (M N O S T U:Fn) (L G:Lp) (J:Rw):Qkk M N O S T U L G [.view Ai J]=
 bif decide ((J.length:Int)>20000)then
 some [.view Ah [], .view kPt [],I 10,I 0,I 0,I 0,B false,I 0,I 0,I 0]
 else
 (L [.view Ah [], .view kPt [], .view Ai J,I (-1), .view Ai J,I (J.length:Int),I 0,I 0,I 0,I 0,B false,I 0,I 0,I 0]).bind λD=>
 bif D.1.beq 1 then
 some [.view Ah (wA D.2 0), .view kPt (wA D.2 1),jA D.2 2,jA D.2 3,jA D.2 4,jA D.2 5,B (bA D.2 6),jA D.2 7,jA D.2 8,jA D.2 9]
 else
 bif D.1.beq 2 then
 (G [.view Ah (wA D.2 0), .view kPt (wA D.2 1), .view Ai (wA D.2 2),I (-1), .view Ai (wA D.2 2),I (↑(wA D.2 2).length:Int),I 0,jA D.2 3,jA D.2 4,jA D.2 5,B (bA D.2 6),jA D.2 7,jA D.2 8,jA D.2 9]).bind λE=>
 bif E.1.beq 1 then
 some [.view Ah (wA E.2 0), .view kPt (wA E.2 1),jA E.2 2,jA E.2 3,jA E.2 4,jA E.2 5,B (bA E.2 6),jA E.2 7,jA E.2 8,jA E.2 9]
 else
 bif E.1.beq 2 then
 some [.view Ah (wA E.2 0), .view kPt (wA E.2 1),I 0,jA E.2 2,jA E.2 3,jA E.2 4,B (bA E.2 5),jA E.2 6,jA E.2 7,jA E.2 8]
 else
 none
 else
 none:=by kernel_rfl
def Rb:=Al (Qq Js KK FQ HD D7 JA)
def Zcp:=Al (P0 Js KK FQ HD D7 JA Rb)
def Jf:=Qkk Js KK FQ HD D7 JA Rb Zcp
theorem Qcb:Aj PG (Qbv Js KK FQ HD D7 JA):=Ap rfl ⟨Zj6,Z78,Qmk,Qwl,SM,Z9z,trivial⟩
theorem Q1m:Am PG (80,Ad Qpz Qmb Jf):=rw2 (C:=(Q5i Js KK FQ HD D7 JA Rb Zcp)) (fl (fl fb Qcb) Qcb) Qcb
def Zll (M:Fn):Nat×Spec:=(37,Ad Qpz Zv M)
def Qcv (D E:Fn):Cfg:=cp [U1 D,Qtz E] [80]
def Zck:Sk:=⟨[tf [CS.sl Ai],td,td,tf [CS.ptr 100800 0],td,tf [ci]]++dd 47,[(100800,142,[ci,ci,ci,CS.own 100800 7,CS.own 100801 3,CS.bool,ci,ci,ci])],[(100800,162,Ah),(100801,76,kPt)]⟩
def Qx6:List (Ex×Sk):=[(Ex.ret,⟨[td,td,tf [ci]]++dd 50,[],[]⟩),(Ex.exit 0,⟨[td,td,td,tf [CS.ptr 100800 0]]++dd 49,[(100800,142,[ci,ci,ci,CS.own 100800 7,CS.own 100801 3,CS.bool,ci,ci,ci])],[(100800,162,Ah),(100801,76,kPt)]⟩)]
def PE (D E:Fn):Lp:=AW PG (Qcv D E) 64 5 (AV PG 37 5) Zck Qx6
def Q8b (D E:Fn) (G:Lp):Cfg:=(Qcv D E).loop 5 Zck Qx6 G
def Qkp (D E:Fn) (G:Lp):Fn:=An PG (Q8b D E G) 64 37 Qpz Zv
theorem Q8o (T U:Fn) (v0 J E:Rw) (D L M N:Int) (O:Bool) (G S v10:Int):PE T U [.view Ah v0, .view kPt J, .view Ai E,I D,I L,I M,I N,B O,I G,I S,I v10]=
 bif decide (D>=0)then
 bif decide (0<=D)&&decide (D<(E.length:Int))then
 bif gA (nth [] E D.toNat) 0==10 then
 some (0,[.view Ah v0, .view kPt J, .view Ai E,I (wrap .i64 (D-1)),I L,I M,I N,B O,I G,I S,I v10])
 else
 bif decide (0<=D)&&decide (D<(E.length:Int))then
 (T (AT Ai (nth [] E D.toNat))).bind λo4=>
 bif bA o4 0 then
 bif decide (0<=D)&&decide (D<(E.length:Int))then
 bif gA (nth [] E D.toNat) 18 !=0 then
 some (1,[I v10])
 else
 some (1,[I G])
 else
 none
 else
 some (1,[I G])
 else
 none
 else
 none
 else
 some (2,[.view Ah v0, .view kPt J,I L,I M,I N,B O,I G,I S,I v10]):=by kernel_rfl
theorem Q9a (M J:Fn) (L:Lp) (E:Rw):Qkp M J L [.view Ai E]=
 (J [.view Ai E]).bind λD=>
 bif gA D 2 !=0 then
 some [I 0]
 else
 (L [.view Ah (wA D 0), .view kPt (wA D 1), .view Ai E,I (wrap .i64 ((E.length:Int)-1)),jA D 3,jA D 4,jA D 5,B (bA D 6),jA D 7,jA D 8,jA D 9]).bind λG=>
 bif G.1.beq 1 then
 some [jA G.2 0]
 else
 bif G.1.beq 2 then
 some [jA G.2 6]
 else
 none:=by kernel_rfl
def Zal:=Al (PE Fm Jf)
def NP:=Qkp Fm Jf Zal
theorem Qvy:Aj PG (Qcv Fm Jf):=Ap rfl ⟨S6,Q1m,trivial⟩
theorem Zuw:Am PG (37,Ad Qpz Zv NP):=rw2 (C:=(Q8b Fm Jf Zal)) (fl fb Qvy) Qvy
def Qgk:Sk:=⟨[tf [ci],tf [ci],tf [ci]],[],[]⟩
def Qjc (M:Fn):Nat×Spec:=(140,Ad Qgk Qpq M)
def Qbl:Fn:=An PG Qbm 64 140 Qgk Qpq
theorem Ze3 (D E G:Int):Qbl [I D,I E,I G]=
 bif decide (E<=D)then
 some [B (decide (D<=G))]
 else
 some [B false]:=by kernel_rfl
def Hm:=Qbl
theorem Qm7:Am PG (140,Ad Qgk Qpq Hm):=rw1 (C:=Qbm) Zes
def Z5y (M:Fn):Nat×Spec:=(142,Ad Z8 Qpq M)
def Wf (D:Fn):Cfg:=cf [Qjc D]
def Qjr (D:Fn):Fn:=An PG (Wf D) 64 142 Z8 Qpq
theorem Zif (E:Fn) (L M N O G J S T U:Int) (V:Rw) (D:Int):Qjr E [I L,I M,I N,I O,I G,I J,I S,I T,I U, .view Aa V,I D]=
 (E [I D,I G,I J]).bind λo1=>
 some [B (bA o1 0)]:=by kernel_rfl
def H7:=Qjr Hm
theorem Zyr:Aj PG (Wf Hm):=Ap rfl ⟨Qm7,trivial⟩
theorem Zva:Am PG (142,Ad Z8 Qpq H7):=rw1 (C:=(Wf Hm)) Zyr
def Qh8:Sk:=⟨[TS.v true (cc 9++[CS.sl Aa]++cc 9++[CS.sl Aa]++cc 9++[CS.sl Aa]),TS.v true [ci,ci,ci,CS.sl Ah,CS.sl kPt]],[],[]⟩
def Zf7 (M:Fn):Nat×Spec:=(90,Ad Qh8 Qpq M)
def Qqg (D:Fn):Cfg:={cf [Z5y D]with rowDst:=[13],unroll:=[11]}
def Q1t:Sk:=⟨[td,td,tf [CS.ptr 2 0],td,td,tf [CS.own 13 3]]++dd 9++[tf [CS.sl Ah],tf [ci],tf [ci]]++dd 28,[(2,27,cc 9++[CS.sl Aa]++cc 9++[CS.sl Aa]++cc 9++[CS.sl Aa])],[(13,54,kPt)]⟩
def Q6g:List (Ex×Sk):=[(Ex.exit 0,⟨[td,td,tf [CS.ptr 2 0],td,td,tf [CS.own 13 3]]++dd 40,[(2,27,cc 9++[CS.sl Aa]++cc 9++[CS.sl Aa]++cc 9++[CS.sl Aa])],[(13,54,kPt)]⟩)]
def Qs (D:Fn):Lp:=AW PG (Qqg D) 64 3 (AV PG 90 3) Q1t Q6g
def Qx2 (D:Fn) (E:Lp):Cfg:=(Qqg D).loop 3 Q1t Q6g E
def Q8a:Sk:=⟨[td,td,tf [CS.ptr 2 0]]++dd 24++[tf [CS.own 13 3],tf [ci],tf [ci]]++dd 16,[(2,27,cc 9++[CS.sl Aa]++cc 9++[CS.sl Aa]++cc 9++[CS.sl Aa])],[(13,54,kPt)]⟩
def Q3m:List (Ex×Sk):=[(Ex.ret,⟨[td,td,td,td,tf [CS.bool]]++dd 41,[],[]⟩),(Ex.exit 2,⟨[td]++dd 45,[],[]⟩)]
def UO (D:Fn) (E:Lp):Lp:=AW PG (Qx2 D E) 64 8 (AV PG 90 8) Q8a Q3m
def Q71 (D:Fn) (E G:Lp):Cfg:=(Qx2 D E).loop 8 Q8a Q3m G
def ZB (D:Fn) (E G:Lp):Fn:=An PG (Q71 D E G) 64 90 Qh8 Qpq
theorem Zt6 (Em:Fn) (v0 E:Rw) (Y D v4 v5 v6 v7 v8 v9 v10 v11 v12:Int) (G:Rw) (J L M N O S v20 v21 v22:Int) (T:Rw) (v24 v25 U v27 v28 V v30 v31 X:Int) (v33:Rw):Qs Em [.view kPt v0, .view Ah E,I Y,I D,I v4,I v5,I v6,I v7,I v8,I v9,I v10,I v11,I v12, .view Aa G,I J,I L,I M,I N,I O,I S,I v20,I v21,I v22, .view Aa T,I v24,I v25,I U,I v27,I v28,I V,I v30,I v31,I X, .view Aa v33]=
 bif decide (D<Y)then
 bif decide (0<=D)&&decide (D<(E.length:Int))then
 bif((v0++[[jA (nth [] E D.toNat) 0,jA (nth [] E D.toNat) 1,jA (nth [] E D.toNat) 2]]).length*24).ble 140737488355328 then
 some (0,[.view kPt (v0++[[jA (nth [] E D.toNat) 0,jA (nth [] E D.toNat) 1,jA (nth [] E D.toNat) 2]]), .view Ah E,I Y,I (wrap .i64 (D+1)),I v4,I v5,I v6,I v7,I v8,I v9,I v10,I v11,I v12, .view Aa G,I J,I L,I M,I N,I O,I S,I v20,I v21,I v22, .view Aa T,I v24,I v25,I U,I v27,I v28,I V,I v30,I v31,I X, .view Aa v33])
 else
 none
 else
 none
 else
 some (1,[.view kPt v0,I v4,I v5,I v6,I v7,I v8,I v9,I v10,I v11,I v12, .view Aa G,I J,I L,I M,I N,I O,I S,I v20,I v21,I v22, .view Aa T,I v24,I v25,I U,I v27,I v28,I V,I v30,I v31,I X, .view Aa v33]):=by kernel_rfl
theorem Zw7 (X:Fn) (N3:Lp) (v0:Rw) (Y D v3 v4 v5 v6 v7 v8 v9 v10 v11:Int) (v12:Rw) (E G J L M N O v20 v21:Int) (v22:Rw) (S v24 v25 T v27 v28 U v30 v31:Int) (V:Rw):UO X N3 [.view kPt v0,I Y,I D,I v3,I v4,I v5,I v6,I v7,I v8,I v9,I v10,I v11, .view Aa v12,I E,I G,I J,I L,I M,I N,I O,I v20,I v21, .view Aa v22,I S,I v24,I v25,I T,I v27,I v28,I U,I v30,I v31, .view Aa V]=
 bif decide (D<Y)then
 bif decide (0<=D)&&decide (D<(v0.length:Int))then
 (X [I v3,I v4,I v5,I v6,I v7,I v8,I v9,I v10,I v11, .view Aa v12,jA (nth [] v0 D.toNat) 0]).bind λo6=>
 bif !bA o6 0 then
 some (1,[B false])
 else
 (X [I E,I G,I J,I L,I M,I N,I O,I v20,I v21, .view Aa v22,jA (nth [] v0 D.toNat) 1]).bind λo7=>
 bif !bA o7 0 then
 some (1,[B false])
 else
 (X [I S,I v24,I v25,I T,I v27,I v28,I U,I v30,I v31, .view Aa V,jA (nth [] v0 D.toNat) 2]).bind λo8=>
 bif !bA o8 0 then
 some (1,[B false])
 else
 some (0,[.view kPt v0,I Y,I (wrap .i64 (D+1)),I v3,I v4,I v5,I v6,I v7,I v8,I v9,I v10,I v11, .view Aa v12,I E,I G,I J,I L,I M,I N,I O,I v20,I v21, .view Aa v22,I S,I v24,I v25,I T,I v27,I v28,I U,I v30,I v31, .view Aa V])
 else
 none
 else
 some (2,[]):=by kernel_rfl
theorem Zte (Em:Fn) (N3 N8:Lp) (x0 x1 x2 x3 x4 x5 x6 x7 x8:Int) (x9:Rw) (J L M N O S T U V:Int) (X:Rw) (Y a0 a1 a2 a3 a4 a5 a6 a7:Int) (a8:Rw) (a9 b0 b1:Int) (E b2:Rw):ZB Em N3 N8 [I x0,I x1,I x2,I x3,I x4,I x5,I x6,I x7,I x8, .view Aa x9,I J,I L,I M,I N,I O,I S,I T,I U,I V, .view Aa X,I Y,I a0,I a1,I a2,I a3,I a4,I a5,I a6,I a7, .view Aa a8,I a9,I b0,I b1, .view Ah E, .view kPt b2]=
 (N3 [.view kPt [[I a9,I b0,I b1]], .view Ah E,I (E.length:Int),I 0,I x0,I x1,I x2,I x3,I x4,I x5,I x6,I x7,I x8, .view Aa x9,I J,I L,I M,I N,I O,I S,I T,I U,I V, .view Aa X,I Y,I a0,I a1,I a2,I a3,I a4,I a5,I a6,I a7, .view Aa a8]).bind λD=>
 bif D.1.beq 1 then
 (N8 [.view kPt (wA D.2 0),I (↑(wA D.2 0).length:Int),I 0,jA D.2 1,jA D.2 2,jA D.2 3,jA D.2 4,jA D.2 5,jA D.2 6,jA D.2 7,jA D.2 8,jA D.2 9, .view Aa (wA D.2 10),jA D.2 11,jA D.2 12,jA D.2 13,jA D.2 14,jA D.2 15,jA D.2 16,jA D.2 17,jA D.2 18,jA D.2 19, .view Aa (wA D.2 20),jA D.2 21,jA D.2 22,jA D.2 23,jA D.2 24,jA D.2 25,jA D.2 26,jA D.2 27,jA D.2 28,jA D.2 29, .view Aa (wA D.2 30)]).bind λG=>
 bif G.1.beq 1 then
 some [B (bA G.2 0)]
 else
 bif G.1.beq 2 then
 some [B true]
 else
 none
 else
 none:=by kernel_rfl
def Qhi:=Al (Qs H7)
def Q3n:=Al (UO H7 Qhi)
def P7:=ZB H7 Qhi Q3n
theorem Qf2:Aj PG (Qqg H7):=Ap rfl ⟨Zva,trivial⟩
theorem Z29:Am PG (90,Ad Qh8 Qpq P7):=rw2 (C:=(Q71 H7 Qhi Q3n)) (fl (fl fb Qf2) Qf2) Qf2
def Qo1:Sk:=⟨[TS.tup [(true,[ci,ci,ci,CS.sl Ah,CS.sl kPt]),(false,[ci])]],[],[]⟩
def Zdf (M:Fn):Nat×Spec:=(89,Ad Qpz Qo1 M)
def Qe0 (D:Fn):Cfg:=cp [Qtz D] [80]
def Qhy (D:Fn):Fn:=An PG (Qe0 D) 64 89 Qpz Qo1
theorem Zur (D:Fn) (E:Rw):Qhy D [.view Ai E]=
 (D [.view Ai E]).bind λo1=>
 bif gA o1 2 !=0 then
 some [I 0,I 0,I 0, .view Ah [], .view kPt [],jA o1 2]
 else
 some [jA o1 3,jA o1 4,jA o1 5, .view Ah (wA o1 0), .view kPt (wA o1 1),I 0]:=by kernel_rfl
def NM:=Qhy Jf
theorem Zvl:Aj PG (Qe0 Jf):=Ap rfl ⟨Q1m,trivial⟩
theorem Zmc:Am PG (89,Ad Qpz Qo1 NM):=rw1 (C:=(Qe0 Jf)) Zvl
def Qlp:Sk:=⟨[tf [CS.ptr 20000 0],tf [CS.sl Ai],tf [CS.bool]],[(20000,119,cS)],[]⟩
def Zqc (M:Fn):Nat×Spec:=(57,Ad Qlp Qlo M)
def Qes (D E G I:Fn):Cfg:={cf [Zll D,Q87 E,Zf7 G,Zdf I]with fstore:=true}
def QD (D E G I:Fn):Fn:=An PG (Qes D E G I) 64 57 Qlp Qlo
theorem Zha (E G J L:Fn) (D:Rw) (M:Bool) (K:Kf) (c:Cv):QD E G J L (.view Ai D::B M::Ab K c)=
 (L [.view Ai D]).bind λo4=>
 bif gA o4 5 !=0 then
 some (jA o4 5::Ab K c)
 else
 (J (AM K.x++[jA o4 0,jA o4 1,jA o4 2, .view Ah (wA o4 3), .view kPt (wA o4 4)])).bind λN=>
 bif !bA N 0 then
 some (I 17::Ab K c)
 else
 bif(D.length*176).ble 140737488355328 then
 (G [jA o4 0,jA o4 1,jA o4 2, .view Ah (wA o4 3), .view kPt (wA o4 4)]).bind λO=>
 (E [.view Ai D]).bind λS=>
 some (I 0::DQ (Ab K c) [(35, .view Ai D),(36,B M),(37,jA o4 0),(38,jA o4 1),(39,jA o4 2),(40, .view Ah (wA o4 3)),(41, .view kPt (wA o4 4)),(42,jA O 0),(43,jA S 0)])
 else
 none:=by kernel_rfl
def TO:=QD NP JV P7 NM
theorem Zme:Aj PG (Qes NP JV P7 NM):=Ap rfl ⟨Zuw,Q6q,Z29,Zmc,trivial⟩
theorem Zrg:Am PG (57,Ad Qlp Qlo TO):=rw1 (C:=(Qes NP JV P7 NM)) Zme
def Zvx (M:Fn):Nat×Spec:=(55,Ad ZS Qny M)
def Qfu:Fn:=An PG Qbm 64 55 ZS Qny
theorem Z2z:Qfu []=
 some [I 100,I 100,B false,B false,B false]:=by kernel_rfl
def Qi:=Qfu
theorem Zy0:Am PG (55,Ad ZS Qny Qi):=rw1 (C:=Qbm) Zes
def Wt:Sk:=⟨[TS.v true (cc 9++[CS.sl Aa]++cc 9++[CS.sl Aa]++cc 9++[CS.sl Aa]++cc 5)],[],[]⟩
def Zml (M:Fn):Nat×Spec:=(54,Ad Wt Wt M)
def X1:Cfg:={cf []with fstore:=true,unroll:=[2]}
def Qbd:Fn:=An PG X1 64 54 Wt Wt
theorem Zdu (x0 x1 x2 x3 x4 x5 x6 x7 x8:Int) (x9:Rw) (G J L M N O S T U:Int) (D:Rw) (V X Y a0 a1 a2 a3 a4 a5:Int) (E:Rw) (a6 a7 a8 a9 b0:Int):Qbd [I x0,I x1,I x2,I x3,I x4,I x5,I x6,I x7,I x8, .view Aa x9,I G,I J,I L,I M,I N,I O,I S,I T,I U, .view Aa D,I V,I X,I Y,I a0,I a1,I a2,I a3,I a4,I a5, .view Aa E,I a6,I a7,I a8,I a9,I b0]=
 bif(x9.length*8).ble 140737488355328 then
 bif(D.length*8).ble 140737488355328 then
 bif(E.length*8).ble 140737488355328 then
 some [I x0,I x1,I x2,I x3,I x4,I x5,I x6,I x7,I x8, .view Aa x9,I G,I J,I L,I M,I N,I O,I S,I T,I U, .view Aa D,I V,I X,I Y,I a0,I a1,I a2,I a3,I a4,I a5, .view Aa E,I a6,I a7,I a8,I a9,I b0]
 else
 none
 else
 none
 else
 none:=by kernel_rfl
def Ql:=Qbd
theorem Z1s:Aj PG (X1):=Ap rfl trivial
theorem Zhw:Am PG (54,Ad Wt Wt Ql):=rw1 (C:=X1) Z1s
def Qhk:Sk:=⟨[TS.v true (cc 9++[CS.sl Aa])],[],[]⟩
def Zjn (M:Fn):Nat×Spec:=(141,Ad Qhk Qpq M)
def Qmq (D:Fn):Cfg:=cf [Qjc D]
def Q7z:Sk:=⟨[td,tf [CS.ptr 1 0]]++dd 24++[tf [CS.sl Aa],tf [ci],tf [ci]]++dd 29,[(1,26,cc 9++[CS.sl Aa])],[]⟩
def Q6u:List (Ex×Sk):=[(Ex.ret,⟨[td,td,tf [CS.bool]]++dd 55,[],[]⟩),(Ex.exit 0,⟨[td]++dd 57,[],[]⟩)]
def ZY (D:Fn):Lp:=AW PG (Qmq D) 64 6 (AV PG 141 6) Q7z Q6u
def Q0g (D:Fn) (E:Lp):Cfg:=(Qmq D).loop 6 Q7z Q6u E
def ZG (D:Fn) (E:Lp):Fn:=An PG (Q0g D E) 64 141 Qhk Qpq
theorem Znu (G:Fn) (v0:Rw) (E D J L M N O S T v10 v11:Int) (v12:Rw):ZY G [.view Aa v0,I E,I D,I J,I L,I M,I N,I O,I S,I T,I v10,I v11, .view Aa v12]=
 bif decide (D<E)then
 bif decide (0<=D)&&decide (D<(v0.length:Int))then
 (G [jA (nth [] v0 D.toNat) 0,I (-4096),I 4096]).bind λU=>
 bif !bA U 0 then
 some (1,[B false])
 else
 bif decide (D>0)then
 bif decide (0<=wrap .i64 (D-1))&&decide (wrap .i64 (D-1)<(v12.length:Int))then
 (G [I (wrap .i64 (gA (nth [] v0 D.toNat) 0-gA (nth [] v12 (wrap .i64 (D-1)).toNat) 0)),I (wrap .i64 (0-wrap .i64 (v11.tdiv 4))),I (wrap .i64 (v11.tdiv 4))]).bind λV=>
 bif !bA V 0 then
 some (1,[B false])
 else
 some (0,[.view Aa v0,I E,I (wrap .i64 (D+1)),I J,I L,I M,I N,I O,I S,I T,I v10,I v11, .view Aa v12])
 else
 none
 else
 some (0,[.view Aa v0,I E,I (wrap .i64 (D+1)),I J,I L,I M,I N,I O,I S,I T,I v10,I v11, .view Aa v12])
 else
 none
 else
 some (2,[]):=by kernel_rfl
theorem Zkq (G:Fn) (N:Lp) (O S T U V X Y J L:Int) (E:Rw):ZG G N [I O,I S,I T,I U,I V,I X,I Y,I J,I L, .view Aa E]=
 bif(E.length:Int)==0 then
 some [B true]
 else
 bif decide ((E.length:Int)>64)then
 some [B false]
 else
 (G [I J,I (-16777216),I 16777216]).bind λo9=>
 bif !bA o9 0 then
 some [B false]
 else
 (G [I L,I 4,I 16777216]).bind λM=>
 bif !bA M 0 then
 some [B false]
 else
 (N [.view Aa E,I (E.length:Int),I 0,I O,I S,I T,I U,I V,I X,I Y,I J,I L, .view Aa E]).bind λD=>
 bif D.1.beq 1 then
 some [B (bA D.2 0)]
 else
 bif D.1.beq 2 then
 some [B true]
 else
 none:=by kernel_rfl
def Quj:=Al (ZY Hm)
def Qt:=ZG Hm Quj
theorem Zbn:Aj PG (Qmq Hm):=Ap rfl ⟨Qm7,trivial⟩
theorem Zp1:Am PG (141,Ad Qhk Qpq Qt):=rw2 (C:=(Q0g Hm Quj)) (fl fb Zbn) Zbn
def Z9b (M:Fn):Nat×Spec:=(86,Ad Qhk Qpq M)
def Qo4 (D E:Fn):Cfg:=cf [Zjn D,Qjc E]
def Qeg (D E:Fn):Fn:=An PG (Qo4 D E) 64 86 Qhk Qpq
theorem Z7o (V G:Fn) (J L M N D E O X Y:Int) (x9:Rw):Qeg V G [I J,I L,I M,I N,I D,I E,I O,I X,I Y, .view Aa x9]=
 (G [I J,I 4,I 4096]).bind λo6=>
 bif bA o6 0 then
 (G [I L,I 1,I 1048576]).bind λo7=>
 bif bA o7 0 then
 (G [I M,I 2,I 1048576]).bind λo8=>
 bif bA o8 0 then
 (G [I N,I 4,I 1048576]).bind λS=>
 bif decide (D>= -16777216)then
 bif decide (E<=16777216)then
 bif bA S 0 then
 bif decide (D<=E)then
 (G [I O,I 0,I 64]).bind λT=>
 bif bA T 0 then
 (V [I J,I L,I M,I N,I D,I E,I O,I X,I Y, .view Aa x9]).bind λU=>
 some [B (bA U 0)]
 else
 some [B false]
 else
 some [B false]
 else
 some [B false]
 else
 bif bA S 0 then
 some [B false]
 else
 some [B false]
 else
 bif bA S 0 then
 some [B false]
 else
 some [B false]
 else
 bif decide (D>= -16777216)then
 bif decide (E<=16777216)then
 some [B false]
 else
 some [B false]
 else
 some [B false]
 else
 bif decide (D>= -16777216)then
 bif decide (E<=16777216)then
 some [B false]
 else
 some [B false]
 else
 some [B false]
 else
 bif decide (D>= -16777216)then
 bif decide (E<=16777216)then
 some [B false]
 else
 some [B false]
 else
 some [B false]:=by kernel_rfl
def QM:=Qeg Qt Hm
theorem Zqo:Aj PG (Qo4 Qt Hm):=Ap rfl ⟨Zp1,Qm7,trivial⟩
theorem Z01:Am PG (86,Ad Qhk Qpq QM):=rw1 (C:=(Qo4 Qt Hm)) Zqo
def Z3g (M:Fn):Nat×Spec:=(53,Ad Wt Qpq M)
def Zl (D E G:Fn):Cfg:={cf [Qgt D,YA E,Z9b G]with unroll:=[2]}
def Wq (D E G:Fn):Fn:=An PG (Zl D E G) 64 53 Wt Qpq
theorem Zy9 (DM B3 KJ:Fn) (x0 x1 x2 x3 x4 x5 x6 x7 x8:Int) (x9:Rw) (G J L M N O S T U:Int) (V:Rw) (X Y a0 a1 a2 a3 a4 a5 a6:Int) (a7:Rw) (a8 a9 b0 D E:Int):Wq DM B3 KJ [I x0,I x1,I x2,I x3,I x4,I x5,I x6,I x7,I x8, .view Aa x9,I G,I J,I L,I M,I N,I O,I S,I T,I U, .view Aa V,I X,I Y,I a0,I a1,I a2,I a3,I a4,I a5,I a6, .view Aa a7,I a8,I a9,I b0,I D,I E]=
 (KJ [I x0,I x1,I x2,I x3,I x4,I x5,I x6,I x7,I x8, .view Aa x9]).bind λo5=>
 bif !bA o5 0 then
 some [B false]
 else
 (KJ [I G,I J,I L,I M,I N,I O,I S,I T,I U, .view Aa V]).bind λo6=>
 bif !bA o6 0 then
 some [B false]
 else
 (KJ [I X,I Y,I a0,I a1,I a2,I a3,I a4,I a5,I a6, .view Aa a7]).bind λo7=>
 bif !bA o7 0 then
 some [B false]
 else
 (B3 [I a8,I a9,I b0]).bind λo8=>
 bif bA o8 0 then
 bif decide (D>=1)then
 (DM [I 30000]).bind λo9=>
 bif decide (D<=gA o9 0)then
 bif decide (E>=0)then
 some [B (decide (E<=1048576))]
 else
 some [B false]
 else
 some [B false]
 else
 some [B false]
 else
 some [B false]:=by kernel_rfl
def Ro:=Wq FE FD QM
theorem Zhv:Aj PG (Zl FE FD QM):=Ap rfl ⟨Qj9,Qop,Z01,trivial⟩
theorem Zgz:Am PG (53,Ad Wt Qpq Ro):=rw1 (C:=(Zl FE FD QM)) Zhv
def Qhz:Sk:=⟨[TS.v true (cc 9++[CS.sl Aa]++cc 9++[CS.sl Aa]++cc 9++[CS.sl Aa]++cc 5),tf [CS.sl Ai],tf [CS.bool]],[],[]⟩
def VU:Sk:=⟨[TS.tup [(false,[CS.ptr 19 0]),(false,[ci])]],[(19,119,cS)],[]⟩
def Qy4 (M:Fn):Nat×Spec:=(20,Ad Qhz VU M)
def Qeu (D E G I J L M:Fn):Cfg:={cp [Qi4 D,Qva E,Zqc G,Qsw I,Zvx J,Zml L,Z3g M] [57]with fstore:=true}
def SU (D E G I J L M:Fn):Fn:=An PG (Qeu D E G I J L M) 64 20 Qhz VU
theorem Zeb (D_ GB Px GG Pq Ps O9:Fn) (x0 x1 x2 x3 x4 x5 x6 x7 x8:Int) (x9:Rw) (L M N O S T U V X:Int) (Y:Rw) (a0 a1 a2 a3 a4 a5 a6 a7 a8:Int) (a9:Rw) (b0 b1 b2 b3 b4:Int) (b6:Rw) (b7:Bool):SU D_ GB Px GG Pq Ps O9 [I x0,I x1,I x2,I x3,I x4,I x5,I x6,I x7,I x8, .view Aa x9,I L,I M,I N,I O,I S,I T,I U,I V,I X, .view Aa Y,I a0,I a1,I a2,I a3,I a4,I a5,I a6,I a7,I a8, .view Aa a9,I b0,I b1,I b2,I b3,I b4, .view Ai b6,B b7]=
 (O9 [I x0,I x1,I x2,I x3,I x4,I x5,I x6,I x7,I x8, .view Aa x9,I L,I M,I N,I O,I S,I T,I U,I V,I X, .view Aa Y,I a0,I a1,I a2,I a3,I a4,I a5,I a6,I a7,I a8, .view Aa a9,I b0,I b1,I b2,I b3,I b4]).bind λo7=>
 bif !bA o7 0 then
 none
 else
 (Ps [I x0,I x1,I x2,I x3,I x4,I x5,I x6,I x7,I x8, .view Aa x9,I L,I M,I N,I O,I S,I T,I U,I V,I X, .view Aa Y,I a0,I a1,I a2,I a3,I a4,I a5,I a6,I a7,I a8, .view Aa a9,I b0,I b1,I b2,I b3,I b4]).bind λE=>
 (Pq []).bind λo9=>
 (GG []).bind λb5=>
 (Px [.view Ai b6,B b7,jA E 0,jA E 1,jA E 2,jA E 3,jA E 4,jA E 5,jA E 6,jA E 7,jA E 8, .view Aa (wA E 9),jA E 10,jA E 11,jA E 12,jA E 13,jA E 14,jA E 15,jA E 16,jA E 17,jA E 18, .view Aa (wA E 19),jA E 20,jA E 21,jA E 22,jA E 23,jA E 24,jA E 25,jA E 26,jA E 27,jA E 28, .view Aa (wA E 29),jA E 30,jA E 31,jA E 32,jA E 33,jA E 34, .view Ai [],B false,I 0,I 0,I 0, .view Ah [], .view kPt [],I 0,I 0, .view Aq [],I 0,I 0,I 0,I 0,I 0,I 0,I 0,I 0,I 0,I 0,I 0,jA o9 0,jA o9 1,B (bA o9 2),B (bA o9 3),B (bA o9 4),jA b5 0,jA b5 1,jA b5 2,I 1,I 0,I 0,I 0,I 0,I 0,I 0,I 0,I 0,B false,I 0,B false,I 0,B false,I 0,I (-1),I 0,I 0,I 0,I 0,I 0,I 0,I 0,B false,B false,B false]).bind λD=>
 bif gA D 0 !=0 then
 none
 else
 (GB [jA D 38,jA D 39,jA D 40, .view Ah (wA D 41), .view kPt (wA D 42),jA D 1,jA D 2,jA D 3,jA D 4,jA D 5,jA D 6,jA D 7,jA D 8,jA D 9, .view Aa (wA D 10),jA D 11,jA D 12,jA D 13,jA D 14,jA D 15,jA D 16,jA D 17,jA D 18,jA D 19, .view Aa (wA D 20),jA D 21,jA D 22,jA D 23,jA D 24,jA D 25,jA D 26,jA D 27,jA D 28,jA D 29, .view Aa (wA D 30),I 1,I 1,I 1,I 0,jA D 43]).bind λG=>
 (D_ [I 0]).bind λJ=>
 some (I 0::DQ (cR 1 D) [(44, .view Aq (wA G 0)),(45,jA G 1),(46,jA G 2),(47,jA G 3),(48,jA G 4),(49,jA G 5),(50,jA J 0),(51,jA J 1),(52,jA J 2),(53,jA J 3),(54,jA J 4),(55,jA J 5)]):=by kernel_rfl
def Gw:=SU Hw J9 TO Kq Qi Ql Ro
theorem Zkg:Aj PG (Qeu Hw J9 TO Kq Qi Ql Ro):=Ap rfl ⟨Wh,Qsq,Zrg,Qxu,Zy0,Zhw,Zgz,trivial⟩
theorem Za7:Am PG (20,Ad Qhz VU Gw):=rw1 (C:=(Qeu Hw J9 TO Kq Qi Ql Ro)) Zkg
def Qxk (M:Fn):Nat×Spec:=(17,Ad Za Zv M)
def Qte:Fn:=An PG Qbm 64 17 Za Zv
theorem Zsy (E D:Int):Qte [I E,I D]=
 bif decide (D=0)then
 none
 else
 bif decide (D=0)then
 none
 else
 some [I ((wrap .i64 (E.tmod D+D)).tmod D)]:=by kernel_rfl
def G6:=Qte
theorem Qt7:Am PG (17,Ad Za Zv G6):=rw1 (C:=Qbm) Zes
def V9:Sk:=⟨[tf [CS.ptr 20000 0],tf [ci]],[(20000,103,[CS.sl Aa,ci])],[]⟩
def Qro:Sk:=⟨[tf [ci]],[(20000,103,[CS.sl Aa,ci])],[]⟩
def JX (M:Fn):Nat×Spec:=(48,Ad V9 Qro M)
def Qe3 (D:Fn):Cfg:=cf [Qxk D]
def Qnu (D:Fn):Fn:=An PG (Qe3 D) 64 48 V9 Qro
theorem Zw6 (G:Fn) (J:Int) (E:Rw) (D:Int):Qnu G [I J, .view Aa E,I D]=
 bif decide (D>=(E.length:Int))then
 some [I 0, .view Aa E,I D]
 else
 bif decide (0<=D)&&decide (D<(E.length:Int))then
 (G [jA (nth [] E D.toNat) 0,I J]).bind λo1=>
 some [jA o1 0, .view Aa E,I (wrap .i64 (D+1))]
 else
 none:=by kernel_rfl
def BP:=Qnu G6
theorem Zji:Aj PG (Qe3 G6):=Ap rfl ⟨Qt7,trivial⟩
theorem Jj:Am PG (48,Ad V9 Qro BP):=rw1 (C:=(Qe3 G6)) Zji
def Qnr:Sk:=⟨[TS.v true [ci,ci,ci]],[(20000,103,[CS.sl Aa,ci])],[]⟩
def Z46 (M:Fn):Nat×Spec:=(52,Ad V9 Qnr M)
def Qp5 (D:Fn):Cfg:=cp [JX D] [48]
def X7 (D:Fn):Fn:=An PG (Qp5 D) 64 52 V9 Qnr
abbrev Rz (J:Fn) (G:List AC) (L:Int) (E:AC):Option (List AC):=
 (J [E, .view Aa (wA G 1),jA G 2]).bind λD=>
 some [I L,I (Af (nth .dead (nth [] [[I 4],[I 1],[I 2],[I 3],[I 4],[I 5],[I 6],[I 7],[I 4],[I 8],[I 9],[I 11],[I 12],[I 13],[I 10]] (gA G 0).toNat) 0)),I (wrap .i64 (gA D 0-5)), .view Aa (wA D 1),jA D 2]
theorem Zl6 (E:Fn) (G:Int) (S:Rw) (T:Int):X7 E [I G, .view Aa S,I T]=
 (E [I 15, .view Aa S,I T]).bind λD=>
 bif decide (0<=gA D 0)&&decide (gA D 0<(↑[[I 4],[I 1],[I 2],[I 3],[I 4],[I 5],[I 6],[I 7],[I 4],[I 8],[I 9],[I 11],[I 12],[I 13],[I 10]].length:Int))then
 bif Af (nth .dead (nth [] [[I 4],[I 1],[I 2],[I 3],[I 4],[I 5],[I 6],[I 7],[I 4],[I 8],[I 9],[I 11],[I 12],[I 13],[I 10]] (gA D 0).toNat) 0)==1 then
 Rz E D G (I 220)
 else
 bif Af (nth .dead (nth [] [[I 4],[I 1],[I 2],[I 3],[I 4],[I 5],[I 6],[I 7],[I 4],[I 8],[I 9],[I 11],[I 12],[I 13],[I 10]] (gA D 0).toNat) 0)==2 then
 Rz E D G (I 220)
 else
 bif Af (nth .dead (nth [] [[I 4],[I 1],[I 2],[I 3],[I 4],[I 5],[I 6],[I 7],[I 4],[I 8],[I 9],[I 11],[I 12],[I 13],[I 10]] (gA D 0).toNat) 0)==5 then
 (E [I 3, .view Aa (wA D 1),jA D 2]).bind λJ=>
 some [I G,I (Af (nth .dead (nth [] [[I 4],[I 1],[I 2],[I 3],[I 4],[I 5],[I 6],[I 7],[I 4],[I 8],[I 9],[I 11],[I 12],[I 13],[I 10]] (gA D 0).toNat) 0)),jA J 0, .view Aa (wA J 1),jA J 2]
 else
 bif Af (nth .dead (nth [] [[I 4],[I 1],[I 2],[I 3],[I 4],[I 5],[I 6],[I 7],[I 4],[I 8],[I 9],[I 11],[I 12],[I 13],[I 10]] (gA D 0).toNat) 0)==6 then
 (E [I 3, .view Aa (wA D 1),jA D 2]).bind λL=>
 some [I G,I (Af (nth .dead (nth [] [[I 4],[I 1],[I 2],[I 3],[I 4],[I 5],[I 6],[I 7],[I 4],[I 8],[I 9],[I 11],[I 12],[I 13],[I 10]] (gA D 0).toNat) 0)),jA L 0, .view Aa (wA L 1),jA L 2]
 else
 bif Af (nth .dead (nth [] [[I 4],[I 1],[I 2],[I 3],[I 4],[I 5],[I 6],[I 7],[I 4],[I 8],[I 9],[I 11],[I 12],[I 13],[I 10]] (gA D 0).toNat) 0)==7 then
 Rz E D G (I 300)
 else
 bif Af (nth .dead (nth [] [[I 4],[I 1],[I 2],[I 3],[I 4],[I 5],[I 6],[I 7],[I 4],[I 8],[I 9],[I 11],[I 12],[I 13],[I 10]] (gA D 0).toNat) 0)==8 then
 (E [I 5, .view Aa (wA D 1),jA D 2]).bind λM=>
 some [I G,I (Af (nth .dead (nth [] [[I 4],[I 1],[I 2],[I 3],[I 4],[I 5],[I 6],[I 7],[I 4],[I 8],[I 9],[I 11],[I 12],[I 13],[I 10]] (gA D 0).toNat) 0)),I (wrap .i64 (gA M 0-1)), .view Aa (wA M 1),jA M 2]
 else
 bif Af (nth .dead (nth [] [[I 4],[I 1],[I 2],[I 3],[I 4],[I 5],[I 6],[I 7],[I 4],[I 8],[I 9],[I 11],[I 12],[I 13],[I 10]] (gA D 0).toNat) 0)==13 then
 (E [I 4, .view Aa (wA D 1),jA D 2]).bind λN=>
 (E [I 60, .view Aa (wA N 1),jA N 2]).bind λO=>
 some [I G,I (Af (nth .dead (nth [] [[I 4],[I 1],[I 2],[I 3],[I 4],[I 5],[I 6],[I 7],[I 4],[I 8],[I 9],[I 11],[I 12],[I 13],[I 10]] (gA D 0).toNat) 0)),I (wrap .i64 (wrap .i64 (gA N 0*1048576)+gA O 0)), .view Aa (wA O 1),jA O 2]
 else
 some [I G,I (Af (nth .dead (nth [] [[I 4],[I 1],[I 2],[I 3],[I 4],[I 5],[I 6],[I 7],[I 4],[I 8],[I 9],[I 11],[I 12],[I 13],[I 10]] (gA D 0).toNat) 0)),I 0, .view Aa (wA D 1),jA D 2]
 else
 none:=by kernel_rfl
def Mp:=X7 BP
theorem Zlh:Aj PG (Qp5 BP):=Ap rfl ⟨Jj,trivial⟩
theorem Zwg:Am PG (52,Ad V9 Qnr Mp):=rw1 (C:=(Qp5 BP)) Zlh
def Qlu:Sk:=⟨[tf [CS.ptr 20000 0]],[(20000,103,[CS.sl Aa,ci])],[]⟩
def Qjp:Sk:=⟨[tf [CS.bool]],[(20000,103,[CS.sl Aa,ci])],[]⟩
def Qvp (M:Fn):Nat×Spec:=(49,Ad Qlu Qjp M)
def Qw4:Fn:=An PG Qbm 64 49 Qlu Qjp
theorem Zf3 (D:Rw) (E:Int):Qw4 [.view Aa D,I E]=
 some [B (decide (E<(D.length:Int))), .view Aa D,I E]:=by kernel_rfl
def Gx:=Qw4
theorem Q9r:Am PG (49,Ad Qlu Qjp Gx):=rw1 (C:=Qbm) Zes
def Qky:Sk:=⟨[tf [CS.ptr 5 0]],[(5,103,[CS.sl Aa,ci])],[]⟩
def Rj (M:Fn):Nat×Spec:=(45,Ad Qgg Qky M)
def Q7t:Fn:=An PG Qbm 64 45 Qgg Qky
theorem Zpp (D:Rw):Q7t [.view Aa D]=
 some [.view Aa D,I 0]:=by kernel_rfl
def CW:=Q7t
theorem Q6:Am PG (45,Ad Qgg Qky CW):=rw1 (C:=Qbm) Zes
def Z2n (M:Fn):Nat×Spec:=(19,Ad Qgg Qai M)
def Vx (D E G I:Fn):Cfg:={cp [Z46 D,JX E,Qvp G,Rj I] [52,48,49,45]with prom:=λb=>bif Nat.beq b 4 then [(4,69)]else []}
def Qzw:Sk:=⟨[td,td,td,tf [CS.ptr 100700 0],tf [CS.own 4 3],tf [ci]]++dd 15,[(100700,103,[CS.sl Aa,ci])],[(4,69,kPt)]⟩
def Q6y:List (Ex×Sk):=[(Ex.exit 0,⟨[td,td,td,td,tf [CS.own 4 3]]++dd 16,[],[(4,69,kPt)]⟩)]
def Qpf (D E G I:Fn):Lp:=AW PG (Vx D E G I) 64 4 (AV PG 19 4) Qzw Q6y
def Q85 (D E G I:Fn) (J:Lp):Cfg:=(Vx D E G I).loop 4 Qzw Q6y J
def Qfa (D E G I:Fn) (J:Lp):Fn:=An PG (Q85 D E G I J) 64 19 Qgg Qai
theorem Zn1 (L M N T:Fn) (v0:Rw) (J:Int) (O:Rw) (S:Int):Qpf L M N T [.view kPt v0,I J, .view Aa O,I S]=
 (N [.view Aa O,I S]).bind λG=>
 bif bA G 0 then
 (M [I 40, .view Aa (wA G 1),jA G 2]).bind λE=>
 (L [I (wrap .i64 (J+gA E 0)), .view Aa (wA E 1),jA E 2]).bind λD=>
 bif((v0++[[jA D 0,jA D 1,jA D 2]]).length*24).ble 140737488355328 then
 some (0,[.view kPt (v0++[[jA D 0,jA D 1,jA D 2]]),I (wrap .i64 (J+gA E 0)), .view Aa (wA D 3),jA D 4])
 else
 none
 else
 some (1,[.view kPt v0]):=by kernel_rfl
theorem Z6q (M N O G:Fn) (J:Lp) (L:Rw):Qfa M N O G J [.view Aa L]=
 (G [.view Aa L]).bind λD=>
 (J [.view kPt [],I 0, .view Aa (wA D 0),jA D 1]).bind λE=>
 bif E.1.beq 1 then
 some [.view kPt (wA E.2 0)]
 else
 none:=by kernel_rfl
def Q60:=Al (Qpf Mp BP Gx CW)
def KF:=Qfa Mp BP Gx CW Q60
theorem Zbk:Aj PG (Vx Mp BP Gx CW):=Ap rfl ⟨Zwg,Jj,Q9r,Q6,trivial⟩
theorem Zz8:Am PG (19,Ad Qgg Qai KF):=rw2 (C:=(Q85 Mp BP Gx CW Q60)) (fl fb Zbk) Zbk
def Zuv (M:Fn):Nat×Spec:=(139,Ad Xh Qah M)
def Zcr:Fn:=An PG Qbm 64 139 Xh Qah
theorem Z50 (D E G J:Int):Zcr [I D,I E,I G,I J]=
 bif J==17 then
 some [I D,I E,I G]
 else
 bif J==18 then
 some [I E,I G,I D]
 else
 bif J==19 then
 some [I G,I D,I E]
 else
 some [I 0,I 0,I 0]:=by kernel_rfl
def OH:=Zcr
theorem Zki:Am PG (139,Ad Xh Qah OH):=rw1 (C:=Qbm) Zes
def Zl9 (M:Fn):Nat×Spec:=(138,Ad Za WN M)
def Qy8:Fn:=An PG Qbm 64 138 Za WN
theorem Zwc (D E:Int):Qy8 [I D,I E]=
 bif decide (0<=E.tmod 4)&&decide (E.tmod 4<(↑[[I D],[I 0],[I (wrap .i64 (0-D))],[I 0]].length:Int))then
 bif decide (0<=E.tmod 4)&&decide (E.tmod 4<(↑[[I 0],[I D],[I 0],[I (wrap .i64 (0-D))]].length:Int))then
 some [I (Af (nth .dead (nth [] [[I D],[I 0],[I (wrap .i64 (0-D))],[I 0]] (E.tmod 4).toNat) 0)),I (Af (nth .dead (nth [] [[I 0],[I D],[I 0],[I (wrap .i64 (0-D))]] (E.tmod 4).toNat) 0))]
 else
 none
 else
 none:=by kernel_rfl
def Pc:=Qy8
theorem Zrz:Am PG (138,Ad Za WN Pc):=rw1 (C:=Qbm) Zes
def Z5c (M:Fn):Nat×Spec:=(137,Ad Qhr Qi8 M)
def Qxx:Fn:=An PG Qbm 64 137 Qhr Qi8
theorem Zo7 (D E G J:Int):Qxx [I D,I E,I G,I J]=
 bif J==17 then
 some [I D,I E,I G]
 else
 bif J==18 then
 some [I G,I D,I E]
 else
 bif J==19 then
 some [I E,I G,I D]
 else
 some [I 0,I 0,I 0]:=by kernel_rfl
def Ot:=Qxx
theorem Z08:Am PG (137,Ad Qhr Qi8 Ot):=rw1 (C:=Qbm) Zes
def Qn7:Sk:=⟨[tf [CS.ptr 20000 0],TS.v true [ci,ci,ci],tf [ci]],[(20000,103,[CS.sl Aa,ci])],[]⟩
def XR:Sk:=⟨[TS.v true (cc 13++[CS.bool,ci,CS.bool]++cc 5++[CS.bool])],[(20000,103,[CS.sl Aa,ci])],[]⟩
def Zt1 (M:Fn):Nat×Spec:=(85,Ad Qn7 XR M)
def X3 (D E G I:Fn):Cfg:=cp [Zuv D,Zl9 E,Z5c G,JX I] [48]
def Qjb (D E G I:Fn):Fn:=An PG (X3 D E G I) 64 85 Qn7 XR
abbrev Sl (V X:Fn) (S J:List AC) (Y x1 x2:Int) (E T U:List AC) (L M N O:AC):Option (List AC):=
 (V [I 4,L,M]).bind λD=>
 bif decide (0<=gA D 0)&&decide (gA D 0<(↑[[I 0],[I 0],[I 7],[I (-12)]].length:Int))then
 (X [N,O,I (wrap .i64 (gA S 2+Af (nth .dead (nth [] [[I 0],[I 0],[I 7],[I (-12)]] (gA D 0).toNat) 0))),I (Af (nth .dead (nth [] [[I 17],[I 18],[I 19]] (gA J 0).toNat) 0))]).bind λG=>
 some [I 3,I 0,I Y,I x1,I x2,jA G 0,jA G 1,jA G 2,I (Af (nth .dead (nth [] [[I 17],[I 18],[I 19]] (gA J 0).toNat) 0)),jA E 0,jA E 1,jA E 2,I (wrap .i64 (1-wrap .i64 (gA T 0*2))),B (gA U 0==0),I 0,B false,I 0,I 0,I 0,I 0,I 0,B false, .view Aa (wA D 1),jA D 2]
 else
 none
theorem Zx3 (Y Mq NR N:Fn) (x0 x1 x2 x3:Int) (x4:Rw) (x5:Int):Qjb Y Mq NR N [I x0,I x1,I x2,I x3, .view Aa x4,I x5]=
 (N [I 3, .view Aa x4,I x5]).bind λE=>
 bif decide (0<=gA E 0)&&decide (gA E 0<(↑[[I 17],[I 18],[I 19]].length:Int))then
 (N [I 2, .view Aa (wA E 1),jA E 2]).bind λO=>
 (N [I x3, .view Aa (wA O 1),jA O 2]).bind λJ=>
 (N [I 4, .view Aa (wA J 1),jA J 2]).bind λT=>
 (N [I 4, .view Aa (wA T 1),jA T 2]).bind λG=>
 (NR [I x0,I x1,I x2,I (Af (nth .dead (nth [] [[I 17],[I 18],[I 19]] (gA E 0).toNat) 0))]).bind λD=>
 (Mq [I (wrap .i64 (8+gA J 0)),jA T 0]).bind λL=>
 (Mq [I (wrap .i64 (8+gA J 0)),I (wrap .i64 (gA T 0+gA G 0))]).bind λM=>
 (Y [I (wrap .i64 (gA D 0-gA L 0)),I (wrap .i64 (gA D 1-gA L 1)),jA D 2,I (Af (nth .dead (nth [] [[I 17],[I 18],[I 19]] (gA E 0).toNat) 0))]).bind λU=>
 bif decide (gA G 0>0)then
 (N [I 3, .view Aa (wA G 1),jA G 2]).bind λS=>
 bif gA S 0==0 then
 bif decide (wrap .i64 (8+gA J 0)=0)then
 none
 else
 (N [I 5, .view Aa (wA S 1),jA S 2]).bind λV=>
 bif decide (wrap .i64 (8+gA J 0)=0)then
 none
 else
 (N [I 5, .view Aa (wA V 1),jA V 2]).bind λX=>
 Sl N Y D E x0 x1 x2 U O G (.view Aa (wA X 1)) (jA X 2) (I (wrap .i64 (wrap .i64 (gA D 0-gA L 0)+wrap .i64 (gA M 0+wrap .i64 (wrap .i64 ((gA M 0).tdiv (wrap .i64 (8+gA J 0)))*gA V 0))))) (I (wrap .i64 (wrap .i64 (gA D 1-gA L 1)+wrap .i64 (gA M 1+wrap .i64 (wrap .i64 ((gA M 1).tdiv (wrap .i64 (8+gA J 0)))*gA X 0)))))
 else
 Sl N Y D E x0 x1 x2 U O G (.view Aa (wA S 1)) (jA S 2) (I (wrap .i64 (wrap .i64 (gA D 0-gA L 0)+gA M 0))) (I (wrap .i64 (wrap .i64 (gA D 1-gA L 1)+gA M 1)))
 else
 Sl N Y D E x0 x1 x2 U O G (.view Aa (wA G 1)) (jA G 2) (I (wrap .i64 (wrap .i64 (gA D 0-gA L 0)+gA M 0))) (I (wrap .i64 (wrap .i64 (gA D 1-gA L 1)+gA M 1)))
 else
 none:=by kernel_rfl
def Qw:=Qjb OH Pc Ot BP
theorem Zda:Aj PG (X3 OH Pc Ot BP):=Ap rfl ⟨Zki,Zrz,Z08,Jj,trivial⟩
theorem Z15:Am PG (85,Ad Qn7 XR Qw):=rw1 (C:=(X3 OH Pc Ot BP)) Zda
def Zmz (M:Fn):Nat×Spec:=(51,Ad Qn7 XR M)
def VP (D E:Fn):Cfg:=cp [JX D,Zt1 E] [48,85]
def VH (D E:Fn):Fn:=An PG (VP D E) 64 51 Qn7 XR
abbrev Qek (As:Fn) (a6:List AC) (x3:Int) (T U V X Y a0 a1 a2 a3 a4 E G J L M N O S:AC):Option (List AC):=
 (As [I 60, .view Aa (wA a6 1),jA a6 2]).bind λD=>
 bif x3==6 then
 (As [I 2, .view Aa (wA D 1),jA D 2]).bind λa5=>
 some [T,U,V,X,Y,a0,a1,a2,a3,a4,E,G,J,L,I (wrap .i64 (1+gA D 0)),B true,M,N,I 0,I (wrap .i64 (3+gA a5 0)),O,S, .view Aa (wA a5 1),jA a5 2]
 else
 some [T,U,V,X,Y,a0,a1,a2,a3,a4,E,G,J,L,I (wrap .i64 (1+gA D 0)),B true,M,N,I 0,I 0,O,S, .view Aa (wA D 1),jA D 2]
abbrev WA (x3:Int) (As:Fn) (T U V X Y a0 a1 a2 a3 a4 D E G J b0 a5 L M b1 a6 N O a8 a9:AC):Option (List AC):=
 bif x3==1 then
 some [T,U,V,X,Y,a0,a1,a2,a3,a4,D,E,G,J,b0,a5,L,M,b1,a6,N,O,a8,a9]
 else
 (As [I 5,a8,a9]).bind λa7=>
 bif decide (0<=gA a7 0)&&decide (gA a7 0<(↑[[I 300000],[I 1],[I 60000],[I 2000000],[I 60000000]].length:Int))then
 (As [I 5, .view Aa (wA a7 1),jA a7 2]).bind λS=>
 bif decide (0<=gA S 0)&&decide (gA S 0<(↑[[I 0],[I 1],[I 2],[I 4],[I 9]].length:Int))then
 bif x3==5 then
 Qek As S x3 T U V X Y a0 a1 a2 a3 a4 D E G J L M N O
 else
 bif x3==6 then
 Qek As S x3 T U V X Y a0 a1 a2 a3 a4 D E G J L M N O
 else
 bif x3==4 then
 some [T,U,V,X,Y,a0,a1,a2,a3,a4,D,E,G,J,I (Af (nth .dead (nth [] [[I 300000],[I 1],[I 60000],[I 2000000],[I 60000000]] (gA a7 0).toNat) 0)),a5,L,M,I 0,a6,N,O, .view Aa (wA S 1),jA S 2]
 else
 some [T,U,V,X,Y,a0,a1,a2,a3,a4,D,E,G,J,I (Af (nth .dead (nth [] [[I 300000],[I 1],[I 60000],[I 2000000],[I 60000000]] (gA a7 0).toNat) 0)),a5,L,M,I (Af (nth .dead (nth [] [[I 0],[I 1],[I 2],[I 4],[I 9]] (gA S 0).toNat) 0)),a6,N,O, .view Aa (wA S 1),jA S 2]
 else
 none
 else
 none
theorem Zz1 (E Y:Fn) (S T U O:Int) (V:Rw) (X:Int):VH E Y [I S,I T,I U,I O, .view Aa V,I X]=
 bif O==3 then
 (Y [I S,I T,I U,I 8, .view Aa V,I X]).bind λD=>
 WA O E (jA D 0) (jA D 1) (jA D 2) (jA D 3) (jA D 4) (jA D 5) (jA D 6) (jA D 7) (jA D 8) (jA D 9) (jA D 10) (jA D 11) (jA D 12) (B (bA D 13)) (jA D 14) (B (bA D 15)) (jA D 16) (jA D 17) (jA D 18) (jA D 19) (jA D 20) (B (bA D 21)) (.view Aa (wA D 22)) (jA D 23)
 else
 (E [I 25, .view Aa V,I X]).bind λG=>
 (E [I 25, .view Aa (wA G 1),jA G 2]).bind λJ=>
 (E [I 3, .view Aa (wA J 1),jA J 2]).bind λL=>
 (E [I 9, .view Aa (wA L 1),jA L 2]).bind λM=>
 (E [I 2, .view Aa (wA M 1),jA M 2]).bind λN=>
 WA O E (I O) (I 0) (I S) (I T) (I U) (I (wrap .i64 (wrap .i64 (S+gA G 0)-12))) (I (wrap .i64 (wrap .i64 (T+gA J 0)-12))) (I (wrap .i64 (wrap .i64 (U+wrap .i64 (gA L 0*gA M 0))-wrap .i64 (8*gA N 0)))) (I 0) (I 0) (I 0) (I 0) (I 0) (B false) (I 0) (B false) (I 0) (I 0) (I 0) (I 0) (I 0) (B false) (.view Aa (wA N 1)) (jA N 2):=by kernel_rfl
def Lq:=VH BP Qw
theorem Zre:Aj PG (VP BP Qw):=Ap rfl ⟨Jj,Z15,trivial⟩
theorem Zoz:Am PG (51,Ad Qn7 XR Lq):=rw1 (C:=(VP BP Qw)) Zre
def Z5a (M:Fn):Nat×Spec:=(50,Ad Qlu XR M)
def Qhd (D:Fn):Cfg:=cp [JX D] [48]
def YU (D:Fn):Fn:=An PG (Qhd D) 64 50 Qlu XR
abbrev Qor (G:Fn) (J:List AC):Option (List AC):=
 (G [I 16, .view Aa (wA J 1),jA J 2]).bind λE=>
 (G [I 2, .view Aa (wA E 1),jA E 2]).bind λD=>
 some [I 10,I 0,I 0,I 0,I 0,I 0,I 0,I 0,I 0,I 0,I 0,I 0,I 0,B false,I 0,B false,I 0,I 0,I 0,jA E 0,I 0,B (gA D 0==0), .view Aa (wA D 1),jA D 2]
theorem Zke (E:Fn) (M:Rw) (N:Int):YU E [.view Aa M,I N]=
 (E [I 8, .view Aa M,I N]).bind λD=>
 bif gA D 0==0 then
 Qor E D
 else
 bif gA D 0==1 then
 Qor E D
 else
 bif gA D 0==2 then
 (E [I 5, .view Aa (wA D 1),jA D 2]).bind λG=>
 some [I 7,I 0,I 0,I 0,I 0,I 0,I 0,I 0,I 0,I 0,I 0,I 0,I 0,B false,I 0,B false,I 0,I 0,I 0,jA G 0,I 0,B false, .view Aa (wA G 1),jA G 2]
 else
 bif gA D 0==3 then
 (E [I 3, .view Aa (wA D 1),jA D 2]).bind λJ=>
 (E [I 4000, .view Aa (wA J 1),jA J 2]).bind λL=>
 some [I 8,I 0,I 0,I 0,I 0,I 0,I 0,I 0,I 0,I 0,I 0,I 0,I 0,B false,I 0,B false,I 0,I 0,I 0,I (wrap .i64 (3+gA J 0)),jA L 0,B false, .view Aa (wA L 1),jA L 2]
 else
 bif gA D 0==4 then
 some [I 9,I 0,I 0,I 0,I 0,I 0,I 0,I 0,I 0,I 0,I 0,I 0,I 0,B false,I 0,B false,I 0,I 0,I 0,I 8,I 0,B true, .view Aa (wA D 1),jA D 2]
 else
 bif gA D 0==5 then
 some [I 13,I 0,I 0,I 0,I 0,I 0,I 0,I 0,I 0,I 0,I 0,I 0,I 0,B false,I 0,B false,I 0,I 0,I 0,I 0,I 0,B false, .view Aa (wA D 1),jA D 2]
 else
 bif gA D 0==6 then
 some [I 12,I 0,I 0,I 0,I 0,I 0,I 0,I 0,I 0,I 0,I 0,I 0,I 0,B false,I 0,B false,I 0,I 0,I 0,I 0,I 0,B false, .view Aa (wA D 1),jA D 2]
 else
 some [I 11,I 0,I 0,I 0,I 0,I 0,I 0,I 0,I 0,I 0,I 0,I 0,I 0,B false,I 0,B false,I 0,I 0,I 0,I 1,I 0,B false, .view Aa (wA D 1),jA D 2]:=by kernel_rfl
def Mf:=YU BP
theorem Z9e:Aj PG (Qhd BP):=Ap rfl ⟨Jj,trivial⟩
theorem Zsv:Am PG (50,Ad Qlu XR Mf):=rw1 (C:=(Qhd BP)) Z9e
def Qh6:Sk:=⟨[tf [CS.sl Aa],tf [ci],tf [CS.bool]],[],[]⟩
def Z45 (M:Fn):Nat×Spec:=(16,Ad Qh6 Qpz M)
def Qlv (D E G I J:Fn):Cfg:={cp [Zmz D,Z5a E,Qvp G,JX I,Rj J] [51,50,49,48,45]with prom:=λb=>bif Nat.beq b 4 then [(8,74)]else []}
def Qw8:Sk:=⟨[td,tf [ci],tf [CS.bool],td,td,td,td,tf [CS.ptr 101300 0],tf [CS.own 8 22],tf [CS.ptr 9 0]]++dd 64,[(9,72,[ci,ci,ci]),(101300,103,[CS.sl Aa,ci])],[(8,74,Ai)]⟩
def Qr8:List (Ex×Sk):=[(Ex.exit 0,⟨[td,td,tf [CS.bool],td,td,td,td,td,tf [CS.own 8 22]]++dd 65,[],[(8,74,Ai)]⟩)]
def Qqp (D E G I J:Fn):Lp:=AW PG (Qlv D E G I J) 64 4 (AV PG 16 4) Qw8 Qr8
def Zbz (D E G I J:Fn) (L:Lp):Cfg:=(Qlv D E G I J).loop 4 Qw8 Qr8 L
def Qq2 (D E G I J:Fn) (L:Lp):Fn:=An PG (Zbz D E G I J L) 64 16 Qh6 Qpz
theorem Z2l (X Y Db S Bi:Fn) (v0:Rw) (O:Int) (N:Bool) (T U V:Int) (v6:Rw) (v7:Int):Qqp X Y Db S Bi [.view Ai v0,I O,B N,I T,I U,I V, .view Aa v6,I v7]=
 bif decide ((v0.length:Int)<O)then
 (Db [.view Aa v6,I v7]).bind λM=>
 bif bA M 0 then
 (S [I 12, .view Aa (wA M 1),jA M 2]).bind λG=>
 bif decide (gA G 0<4)then
 (Y [.view Aa (wA G 1),jA G 2]).bind λE=>
 bif((v0++[[jA E 0,jA E 1,jA E 2,jA E 3,jA E 4,jA E 5,jA E 6,jA E 7,jA E 8,jA E 9,jA E 10,jA E 11,jA E 12,B (bA E 13),jA E 14,B (bA E 15),jA E 16,jA E 17,jA E 18,jA E 19,jA E 20,B (bA E 21)]]).length*176).ble 140737488355328 then
 some (0,[.view Ai (v0++[[jA E 0,jA E 1,jA E 2,jA E 3,jA E 4,jA E 5,jA E 6,jA E 7,jA E 8,jA E 9,jA E 10,jA E 11,jA E 12,B (bA E 13),jA E 14,B (bA E 15),jA E 16,jA E 17,jA E 18,jA E 19,jA E 20,B (bA E 21)]]),I O,B N,I T,I U,I V, .view Aa (wA E 22),jA E 23])
 else
 none
 else
 bif decide (0<=wrap .i64 (gA G 0-4))&&decide (wrap .i64 (gA G 0-4)<(↑[[I 2],[I 2],[I 2],[I 3],[I 1],[I 6],[I 5],[I 4]].length:Int))then
 (X [I T,I U,I V,I (Af (nth .dead (nth [] [[I 2],[I 2],[I 2],[I 3],[I 1],[I 6],[I 5],[I 4]] (wrap .i64 (gA G 0-4)).toNat) 0)), .view Aa (wA G 1),jA G 2]).bind λD=>
 bif gA D 0==5 then
 (S [I 2, .view Aa (wA D 22),jA D 23]).bind λJ=>
 (S [I 3000, .view Aa (wA J 1),jA J 2]).bind λL=>
 bif((v0++[[I 8,I 0,I 0,I 0,I 0,I 0,I 0,I 0,I 0,I 0,I 0,I 0,I 0,B false,I 0,B false,I 0,I 0,I 0,I (wrap .i64 (3+gA J 0)),I (wrap .i64 (200+gA L 0)),B false]]).length*176).ble 140737488355328 then
 bif((v0++[[I 8,I 0,I 0,I 0,I 0,I 0,I 0,I 0,I 0,I 0,I 0,I 0,I 0,B false,I 0,B false,I 0,I 0,I 0,I (wrap .i64 (3+gA J 0)),I (wrap .i64 (200+gA L 0)),B false]]++[[jA D 0,jA D 1,jA D 2,jA D 3,jA D 4,jA D 5,jA D 6,jA D 7,jA D 8,jA D 9,jA D 10,jA D 11,jA D 12,B (bA D 13),jA D 14,B (bA D 15),jA D 16,jA D 17,jA D 18,jA D 19,jA D 20,B (bA D 21)]]).length*176).ble 140737488355328 then
 some (0,[.view Ai (v0++[[I 8,I 0,I 0,I 0,I 0,I 0,I 0,I 0,I 0,I 0,I 0,I 0,I 0,B false,I 0,B false,I 0,I 0,I 0,I (wrap .i64 (3+gA J 0)),I (wrap .i64 (200+gA L 0)),B false]]++[[jA D 0,jA D 1,jA D 2,jA D 3,jA D 4,jA D 5,jA D 6,jA D 7,jA D 8,jA D 9,jA D 10,jA D 11,jA D 12,B (bA D 13),jA D 14,B (bA D 15),jA D 16,jA D 17,jA D 18,jA D 19,jA D 20,B (bA D 21)]]),I O,B N,jA D 5,jA D 6,jA D 7, .view Aa (wA L 1),jA L 2])
 else
 none
 else
 none
 else
 bif((v0++[[jA D 0,jA D 1,jA D 2,jA D 3,jA D 4,jA D 5,jA D 6,jA D 7,jA D 8,jA D 9,jA D 10,jA D 11,jA D 12,B (bA D 13),jA D 14,B (bA D 15),jA D 16,jA D 17,jA D 18,jA D 19,jA D 20,B (bA D 21)]]).length*176).ble 140737488355328 then
 some (0,[.view Ai (v0++[[jA D 0,jA D 1,jA D 2,jA D 3,jA D 4,jA D 5,jA D 6,jA D 7,jA D 8,jA D 9,jA D 10,jA D 11,jA D 12,B (bA D 13),jA D 14,B (bA D 15),jA D 16,jA D 17,jA D 18,jA D 19,jA D 20,B (bA D 21)]]),I O,B N,jA D 5,jA D 6,jA D 7, .view Aa (wA D 22),jA D 23])
 else
 none
 else
 none
 else
 some (1,[.view Ai v0,B N])
 else
 some (1,[.view Ai v0,B N]):=by kernel_rfl
theorem Zs6 (V X Y M N:Fn) (O:Lp) (S:Rw) (T:Int) (U:Bool):Qq2 V X Y M N O [.view Aa S,I T,B U]=
 (N [.view Aa S]).bind λL=>
 (M [I 9, .view Aa (wA L 0),jA L 1]).bind λE=>
 (M [I 9, .view Aa (wA E 1),jA E 2]).bind λG=>
 (M [I 9, .view Aa (wA G 1),jA G 2]).bind λJ=>
 (O [.view Ai [],I T,B U,I (wrap .i64 (gA E 0-4)),I (wrap .i64 (gA G 0-4)),I (wrap .i64 (gA J 0-4)), .view Aa (wA J 1),jA J 2]).bind λD=>
 bif D.1.beq 1 then
 bif bA D.2 1 then
 bif((wA D.2 0++[[I 14,I 0,I 0,I 0,I 0,I 0,I 0,I 0,I 0,I 0,I 0,I 0,I 0,B false,I 0,B false,I 0,I 0,I 0,I 0,I 0,B false]]).length*176).ble 140737488355328 then
 some [.view Ai (wA D.2 0++[[I 14,I 0,I 0,I 0,I 0,I 0,I 0,I 0,I 0,I 0,I 0,I 0,I 0,B false,I 0,B false,I 0,I 0,I 0,I 0,I 0,B false]])]
 else
 none
 else
 some [.view Ai (wA D.2 0)]
 else
 none:=by kernel_rfl
def Qcp:=Al (Qqp Lq Mf Gx BP CW)
def JJ:=Qq2 Lq Mf Gx BP CW Qcp
theorem Q2i:Aj PG (Qlv Lq Mf Gx BP CW):=Ap rfl ⟨Zoz,Zsv,Q9r,Jj,Q6,trivial⟩
theorem Zxb:Am PG (16,Ad Qh6 Qpz JJ):=rw2 (C:=(Zbz Lq Mf Gx BP CW Qcp)) (fl fb Q2i) Q2i
def Zdy (M:Fn):Nat×Spec:=(47,Ad Qgg Qah M)
def Qea (D E:Fn):Cfg:=cp [JX D,Rj E] [48,45]
def Vt (D E:Fn):Fn:=An PG (Qea D E) 64 47 Qgg Qah
theorem Zyq (D J:Fn) (L:Rw):Vt D J [.view Aa L]=
 (J [.view Aa L]).bind λo4=>
 (D [I 900, .view Aa (wA o4 0),jA o4 1]).bind λE=>
 (D [I 200, .view Aa (wA E 1),jA E 2]).bind λG=>
 (D [I 16000, .view Aa (wA G 1),jA G 2]).bind λM=>
 some [I (wrap .i64 (1+gA E 0)),I (wrap .i64 (2+gA G 0)),I (wrap .i64 (1+gA M 0))]:=by kernel_rfl
def RM:=Vt BP CW
theorem Zde:Aj PG (Qea BP CW):=Ap rfl ⟨Jj,Q6,trivial⟩
theorem Zvu:Am PG (47,Ad Qgg Qah RM):=rw1 (C:=(Qea BP CW)) Zde
def V7:Sk:=⟨[TS.v true (cc 9++[CS.sl Aa])],[(20000,103,[CS.sl Aa,ci])],[]⟩
def Zk0 (M:Fn):Nat×Spec:=(84,Ad Qlu V7 M)
def XQ (D:Fn):Cfg:={spec:=IZ [JX D],eqOk:=Kv,pure:=λf=> !(AP [48] f),ownOff:=Zsp}
def Qta:Sk:=⟨[tf [CS.ptr 20000 0],td,tf [CS.ptr 2 0],tf [CS.ptr 3 0],tf [ci],tf [ci],tf [ci]]++dd 72,[(2,26,cc 9++[CS.own 1002009 1]),(3,26,cc 9++[CS.own 1003009 1]),(20000,103,[CS.sl Aa,ci])],[(1002009,3,Aa),(1003009,3,Aa)]⟩
def Q05:List (Ex×Sk):=[(Ex.exit 0,⟨[td,td,tf [CS.ptr 2 0],tf [CS.ptr 3 0]]++dd 75,[(2,26,cc 9++[CS.own 1002009 1]),(3,26,cc 9++[CS.own 1003009 1]),(20000,103,[CS.sl Aa,ci])],[(1002009,3,Aa),(1003009,3,Aa)]⟩)]
def R9 (D:Fn):Lp:=AW PG (XQ D) 64 11 (AV PG 84 11) Qta Q05
def Qs8 (E:Fn) (D:Lp):Cfg:=(XQ E).loop 11 Qta Q05 D
def VJ (E:Fn) (D:Lp):Fn:=An PG (Qs8 E D) 64 84 Qlu V7
theorem Q7l (As:Fn) (v0 T:Rw) (V U X Y v6 v7 v8 v9 v10 v11 v12 D E G J L M N v20 v21 v22:Int) (O:Rw) (v24:Int):R9 As [.view Aa v0, .view Aa T,I V,I U,I X,I Y,I v6,I v7,I v8,I v9,I v10,I v11,I v12,I D,I E,I G,I J,I L,I M,I N,I v20,I v21,I v22, .view Aa O,I v24]=
 bif decide (X<V)then
 bif((T++[[I U]]).length*8).ble 140737488355328 then
 (As [I (wrap .i64 (wrap .i64 (2*wrap .i64 (v22.tdiv 4))+1)), .view Aa O,I v24]).bind λS=>
 some (0,[.view Aa v0, .view Aa (T++[[I U]]),I V,I (mn (mx (wrap .i64 (wrap .i64 (U+gA S 0)-wrap .i64 (v22.tdiv 4))) (-4096)) 4096),I (wrap .i64 (X+1)),I Y,I v6,I v7,I v8,I v9,I v10,I v11,I v12,I D,I E,I G,I J,I L,I M,I N,I v20,I v21,I v22, .view Aa (wA S 1),jA S 2])
 else
 none
 else
 some (1,[.view Aa v0, .view Aa T,I Y,I v6,I v7,I v8,I v9,I v10,I v11,I v12,I D,I E,I G,I J,I L,I M,I N,I v20,I v21,I v22, .view Aa O,I v24]):=by kernel_rfl
theorem Zgq (O:Fn) (V:Lp) (X:Rw) (Y:Int):VJ O V [.view Aa X,I Y]=
 (O [I 6, .view Aa X,I Y]).bind λE=>
 bif decide (0<=gA E 0)&&decide (gA E 0<(↑[[I 8],[I 4],[I 5],[I 16],[I 23],[I 64]].length:Int))then
 (O [I 4, .view Aa (wA E 1),jA E 2]).bind λG=>
 bif decide (0<=gA G 0)&&decide (gA G 0<(↑[[I 0],[I 1],[I 3],[I 6]].length:Int))then
 (O [I 5, .view Aa (wA G 1),jA G 2]).bind λJ=>
 bif decide (0<=gA J 0)&&decide (gA J 0<(↑[[I 40],[I 1],[I 3],[I 9],[I 1000]].length:Int))then
 (O [I 5, .view Aa (wA J 1),jA J 2]).bind λL=>
 bif decide (0<=gA L 0)&&decide (gA L 0<(↑[[I 20],[I 2],[I 3],[I 5],[I 1000]].length:Int))then
 (O [I 5, .view Aa (wA L 1),jA L 2]).bind λM=>
 bif decide (0<=gA M 0)&&decide (gA M 0<(↑[[I 30],[I 4],[I 5],[I 8],[I 1000]].length:Int))then
 (O [I 5, .view Aa (wA M 1),jA M 2]).bind λN=>
 bif gA N 0==0 then
 some [I (Af (nth .dead (nth [] [[I 8],[I 4],[I 5],[I 16],[I 23],[I 64]] (gA E 0).toNat) 0)),I (Af (nth .dead (nth [] [[I 40],[I 1],[I 3],[I 9],[I 1000]] (gA J 0).toNat) 0)),I (Af (nth .dead (nth [] [[I 20],[I 2],[I 3],[I 5],[I 1000]] (gA L 0).toNat) 0)),I (Af (nth .dead (nth [] [[I 30],[I 4],[I 5],[I 8],[I 1000]] (gA M 0).toNat) 0)),I (-16777216),I 16777216,I (Af (nth .dead (nth [] [[I 0],[I 1],[I 3],[I 6]] (gA G 0).toNat) 0)),I 0,I 0, .view Aa [], .view Aa (wA N 1),jA N 2]
 else
 (O [I 400, .view Aa (wA N 1),jA N 2]).bind λS=>
 (O [I 120, .view Aa (wA S 1),jA S 2]).bind λT=>
 (O [I 9, .view Aa (wA T 1),jA T 2]).bind λU=>
 (V [.view Aa [], .view Aa [],jA N 0,I (wrap .i64 (gA U 0-4)),I 0,I 0,I 0,I 0,I 0,I 0,I 0,I 0,I 0,I 0,I (Af (nth .dead (nth [] [[I 8],[I 4],[I 5],[I 16],[I 23],[I 64]] (gA E 0).toNat) 0)),I (Af (nth .dead (nth [] [[I 40],[I 1],[I 3],[I 9],[I 1000]] (gA J 0).toNat) 0)),I (Af (nth .dead (nth [] [[I 20],[I 2],[I 3],[I 5],[I 1000]] (gA L 0).toNat) 0)),I (Af (nth .dead (nth [] [[I 30],[I 4],[I 5],[I 8],[I 1000]] (gA M 0).toNat) 0)),I (-16777216),I 16777216,I (Af (nth .dead (nth [] [[I 0],[I 1],[I 3],[I 6]] (gA G 0).toNat) 0)),I (wrap .i64 (gA S 0-200)),I (wrap .i64 (4+gA T 0)), .view Aa (wA U 1),jA U 2]).bind λD=>
 bif D.1.beq 1 then
 some [jA D.2 11,jA D.2 12,jA D.2 13,jA D.2 14,jA D.2 15,jA D.2 16,jA D.2 17,jA D.2 18,jA D.2 19, .view Aa (wA D.2 1), .view Aa (wA D.2 20),jA D.2 21]
 else
 none
 else
 none
 else
 none
 else
 none
 else
 none
 else
 none:=by kernel_rfl
def Qpv:=Al (R9 BP)
def NA:=VJ BP Qpv
theorem Qv3:Aj PG (XQ BP):=Ap rfl ⟨Jj,trivial⟩
theorem Z4r:Am PG (84,Ad Qlu V7 NA):=rw2 (C:=(Qs8 BP Qpv)) (fl fb Qv3) Qv3
def Qko:Sk:=⟨[TS.v true (cc 9++[CS.sl Aa]++cc 9++[CS.sl Aa]++cc 9++[CS.sl Aa])],[],[]⟩
def Z20 (M:Fn):Nat×Spec:=(46,Ad Qgg Qko M)
def Qd8 (D E:Fn):Cfg:=cp [Zk0 D,Rj E] [84,45]
def Qyi (D E:Fn):Fn:=An PG (Qd8 D E) 64 46 Qgg Qko
theorem Z76 (I J:Fn) (L:Rw):Qyi I J [.view Aa L]=
 (J [.view Aa L]).bind λo4=>
 (I [.view Aa (wA o4 0),jA o4 1]).bind λD=>
 (I [.view Aa (wA D 10),jA D 11]).bind λE=>
 (I [.view Aa (wA E 10),jA E 11]).bind λG=>
 some [jA D 0,jA D 1,jA D 2,jA D 3,jA D 4,jA D 5,jA D 6,jA D 7,jA D 8, .view Aa (wA D 9),jA E 0,jA E 1,jA E 2,jA E 3,jA E 4,jA E 5,jA E 6,jA E 7,jA E 8, .view Aa (wA E 9),jA G 0,jA G 1,jA G 2,jA G 3,jA G 4,jA G 5,jA G 6,jA G 7,jA G 8, .view Aa (wA G 9)]:=by kernel_rfl
def OJ:=Qyi NA CW
theorem Z6r:Aj PG (Qd8 NA CW):=Ap rfl ⟨Z4r,Q6,trivial⟩
theorem Zqn:Am PG (46,Ad Qgg Qko OJ):=rw1 (C:=(Qd8 NA CW)) Z6r
def Qrq:Sk:=⟨[tf [CS.sl Aa],tf [CS.sl Aa]],[],[]⟩
def Zlq (M:Fn):Nat×Spec:=(15,Ad Qrq Wt M)
def Wl (D E G I:Fn):Cfg:=cp [JX D,Zdy E,Z20 G,Rj I] [48,45]
def Ye (D E G I:Fn):Fn:=An PG (Wl D E G I) 64 15 Qrq Wt
theorem Zyj (G M N O:Fn) (S E:Rw):Ye G M N O [.view Aa S, .view Aa E]=
 (O [.view Aa E]).bind λT=>
 (N [.view Aa S]).bind λD=>
 (M [.view Aa E]).bind λJ=>
 (G [I 60000, .view Aa (wA T 0),I (mn 3 (E.length:Int))]).bind λL=>
 (G [I 40, .view Aa (wA L 1),jA L 2]).bind λU=>
 some [jA D 0,jA D 1,jA D 2,jA D 3,jA D 4,jA D 5,jA D 6,jA D 7,jA D 8, .view Aa (wA D 9),jA D 10,jA D 11,jA D 12,jA D 13,jA D 14,jA D 15,jA D 16,jA D 17,jA D 18, .view Aa (wA D 19),jA D 20,jA D 21,jA D 22,jA D 23,jA D 24,jA D 25,jA D 26,jA D 27,jA D 28, .view Aa (wA D 29),jA J 0,jA J 1,jA J 2,I (wrap .i64 (1+gA L 0)),jA U 0]:=by kernel_rfl
def Jq:=Ye BP RM OJ CW
theorem Zzf:Aj PG (Wl BP RM OJ CW):=Ap rfl ⟨Jj,Zvu,Zqn,Q6,trivial⟩
theorem Z56:Am PG (15,Ad Qrq Wt Jq):=rw1 (C:=(Wl BP RM OJ CW)) Zzf
def Qd0:Sk:=⟨[tf [CS.sl [Kd.sl Aa]]],[],[]⟩
def Z6v (M:Fn):Nat×Spec:=(44,Ad Qd0 Qpq M)
def Q0v:Sk:=⟨[td,td,td,td,td,tf [CS.sl [Kd.sl Aa]],tf [ci],tf [ci]]++dd 7,[],[]⟩
def Qu3:List (Ex×Sk):=[(Ex.ret,⟨[td,td,tf [CS.bool]]++dd 12,[],[]⟩),(Ex.exit 0,⟨[td]++dd 14,[],[]⟩)]
def Tj:Lp:=AW PG Qbm 64 2 (AV PG 44 2) Q0v Qu3
def Q6b (D:Lp):Cfg:=Qbm.loop 2 Q0v Qu3 D
def Wa (D:Lp):Fn:=An PG (Q6b D) 64 44 Qd0 Qpq
theorem Zy7 (v0:Rw) (E D:Int):Tj [.view [Kd.sl Aa] v0,I E,I D]=
 bif decide (D<E)then
 bif decide (0<=D)&&decide (D<(v0.length:Int))then
 bif decide ((↑(wA (nth [] v0 D.toNat) 0).length:Int)>60)then
 some (1,[B false])
 else
 some (0,[.view [Kd.sl Aa] v0,I E,I (wrap .i64 (D+1))])
 else
 none
 else
 some (2,[]):=by kernel_rfl
theorem Zyg (E:Lp) (D:Rw):Wa E [.view [Kd.sl Aa] D]=
 (E [.view [Kd.sl Aa] D,I (D.length:Int),I 0]).bind λo1=>
 bif o1.1.beq 1 then
 some [B (bA o1.2 0)]
 else
 bif o1.1.beq 2 then
 some [B true]
 else
 none:=by kernel_rfl
def Zat:=Al (Tj)
def La:=Wa Zat
theorem Zka:Am PG (44,Ad Qd0 Qpq La):=rw2 (C:=(Q6b Zat)) (fl fb Zes) Zes
def Z0x (M:Fn):Nat×Spec:=(32,Ad Qn5 Qlo M)
def Qkw:Fn:=An PG Qbm 64 32 Qn5 Qlo
theorem Z5u (K:Kf) (c:Cv):Qkw (Ab K c)=
 some (I c.outs::Ab K c):=by kernel_rfl
def Kc:=Qkw
theorem Z1t:Am PG (32,Ad Qn5 Qlo Kc):=rw1 (C:=Qbm) Zes
abbrev Q5u (D:Int) (E:Fn) (G J L M N O S T U:Int) (V:Rw) (X Y a0:Int):Option (List AC):=
 bif decide (D=(↑0:Int))then
 (E [I G,I J,I L,I M,I N,I O,I S,I T,I U, .view Aa V,I X]).bind λa1=>
 some [jA a1 0]
 else
 bif decide (D=(↑(0+1):Int))then
 (E [I G,I J,I L,I M,I N,I O,I S,I T,I U, .view Aa V,I Y]).bind λa2=>
 some [jA a2 0]
 else
 bif decide (D=(↑(0+1+1):Int))then
 (E [I G,I J,I L,I M,I N,I O,I S,I T,I U, .view Aa V,I a0]).bind λa3=>
 some [jA a3 0]
 else
 none
abbrev SX (D E J:Int) (G:Bool):Option (List AC):=
 bif G then
 some [I (wrap .i64 (0-mn (wrap .i64 (D-E)) J))]
 else
 some [I (wrap .i64 (mn (wrap .i64 (D-E)) J-J))]
abbrev UB (D:Int) (O:Fn) (S T U V X Y N x7 x8:Int) (x9:Rw) (I J L E G:Int) (M:Bool):Option (List AC):=
 bif M then
 Q5u D O S T U V X Y N x7 x8 x9 I J L
 else
 bif decide (D=(↑0:Int))then
 SX E G N (I== -1)
 else
 bif decide (D=(↑(0+1):Int))then
 SX E G N (J== -1)
 else
 bif decide (D=(↑(0+1+1):Int))then
 SX E G N (L== -1)
 else
 none
abbrev Zw1 (D:Int) (S:Fn) (T U V X Y x5 x6 x7 x8:Int) (x9:Rw) (E G I J L:Int) (M N O:Bool):Option (List AC):=
 bif decide (D=(↑0:Int))then
 UB D S T U V X Y x5 x6 x7 x8 x9 E G I J L M
 else
 bif decide (D=(↑(0+1):Int))then
 UB D S T U V X Y x5 x6 x7 x8 x9 E G I J L N
 else
 bif decide (D=(↑(0+1+1):Int))then
 UB D S T U V X Y x5 x6 x7 x8 x9 E G I J L O
 else
 none
attribute [go_sem] RN Ou GQ Qqc Qfz Qdh XV QT Uk So Sr S7 Qbh Rh Zf Qib Qg3 Qd6 LF Re P6 Rz Sl Qek WA Qor Q5u SX UB Zw1
end Go.Bm
