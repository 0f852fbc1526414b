/- functions of the program and of the references, as models -/
import Derived.Test.YtnnpdlgenmnekaaGreatDoorMx1
set_option linter.unusedSimpArgs false
set_option linter.unusedVariables false
set_option linter.defProp false
set_option maxRecDepth 100000
noncomputable section
open Go.IntKind (wrap)
namespace Go.Bm
open Go.Proofs
variable {Z:Lp} {a b c d e f g h i j k l m n o p q r s t u v w x y z α β:Int} {G H J K M N P Q R S L:Fn} {X Y:Bool} {A C E F:Rw}
def Qrh:=qa 196 Q13 Zel
def Zl3:Sk:=⟨[td,tf [ci],td,td,td,tf [ci]]++dd 6++[tf [sa Ai],tf [ci],tf [ci]]++dd 13,[(20000,179,cS)],[]⟩
def Qn3:List (Ex×Sk):=[(Ex.exit 0,⟨[td,td,td,td,td,tf [ci]]++dd 22,[(20000,179,cS)],[]⟩)]
def VP:Lp:=sL Qy3 196 3 Zl3 Qn3
def Zi5 (D:Lp):Cfg:=Qy3.loop 3 Zl3 Qn3 D
def Qcf (D:Lp):Fn:=mF (Zi5 D) 196 Q13 Zel
def Z9j (M L:Int) (G:Rw) (N D:Int) (K:Kf) (c:Cv):VP (I M::I L:: .vC Ai G::I N::I D::Ac K c)=
 cond (decide (D<N)) (cond (decide (0<=D)&&decide (D<(G.length:Int))) (cond (gA (nth [] G D.toNat) 4==M) (some (1,(I L::Ac K c))) (some (0,(I M::I (O (L+gA (nth [] G D.toNat) 3)):: .vC Ai G::I N::I (O (D+1))::Ac K c)))) (none)) (some (1,(I L::Ac K c))):=by kernel_rfl
theorem Zrz (K:Kf) (c:Cv):Qcf Z (I a::Ac K c)=
 (Z (I a::I 0:: .vC Ai (K.p.aF.map At)::I ((K.p.aF.map At).length:Int)::I 0::Ac K c)).bind λo1=>
 cond (o1.1.beq 1) (some (jA o1.2 0::cR 1 o1.2)) (none):=by kernel_rfl
def Qq4:=Ak (VP)
def Sd:=Qcf Qq4
instance r_controller_Controller_beginning:RI (Qrh Sd):=rw2 (Zi5 Qq4) (fl fb)
def Zgq:=qa 153 Qic Zee
def Qj3 (Pi D G:Fn):Cfg:=cr [Qrh Pi,Ok D,Su G] [196,163,155] [163,155]
def Qgr (Pi D G:Fn):Fn:=mF (Qj3 Pi D G) 153 Qic Zee
theorem Zpf (K:Kf) (c:Cv):Qgr G H J (Ac K c)=
 (J (Ac K c)).bind λo3=>
 cond (bA o3 7) (cond (c.way==0) (cond (decide (0<=gA o3 4)&&decide (gA o3 4<((K.aA.map Ag).length:Int))) (cond (gA (nth [] (K.aA.map Ag) (gA o3 4).toNat) 0==4) ((H (Ac K c)).bind λo4=>
 (G (jA o3 4::Ac K c)).bind λD=>
 cond (gA o4 0 !=gA D 0) (some (DQ (cR 1 D) [(77,B true)])) (some (cR 1 D))) (some (Ac K c))) (none)) (some (Ac K c))) (some (Ac K c)):=by kernel_rfl
def N0:=Qgr Sd De ER
def Ycs:AK PG (Qj3 Sd De ER):=G_ (rs:=[163,155]) rfl ⟨r_controller_Controller_beginning.out,Oz,SH,trivial⟩ rfl (Cu rfl (E6 (E6 Hu)))
def Zyt:Bx PG (Zgq N0):=(rw1 (Qj3 Sd De ER) Ycs).out
instance:RI (Zgq N0):=⟨Zyt⟩
def Zm4:Sk:=⟨[tT [ci,ci,ci],tf [ci],tT [ci,ci,ci],tT [ci,ci,ci]],[],[]⟩
def Zi8:=qa 195 Zm4 Qwz
def Zau:Cfg:={cf []with unroll:=[4]}
def Qg5:Fn:=mF Zau 195 Zm4 Qwz
theorem Z3j:Qg5 [I a,I b,I c,I d,I e,I f,I g,I h,I i,I j]=
 cond (a !=0) (some [I a,I b,I c]) (cond (decide (O (e-h)>d)) (some [I 1,I 19,I 0]) (cond (decide (O (0-O (e-h))>d)) (some [I 1,I 19,I 0]) (cond (decide (O (f-i)>d)) (some [I 1,I 19,I (O (0+1))]) (cond (decide (O (0-O (f-i))>d)) (some [I 1,I 19,I (O (0+1))]) (cond (decide (O (g-j)>d)) (some [I 1,I 19,I (O (O (0+1)+1))]) (cond (decide (O (0-O (g-j))>d)) (some [I 1,I 19,I (O (O (0+1)+1))]) (some [I a,I b,I c]))))))):=by kernel_rfl
def R4:=Qg5
instance r_guard_Check:RI (Zi8 R4):=rw1 Zau
def Zni:=qa 152 Q13 Zee
def Qet (D G I:Fn):Cfg:=cr [Zi8 D,RD G,O8 I] [102] [102]
def Qf3 (D G I:Fn):Fn:=mF (Qet D G I) 152 Q13 Zee
abbrev XM (U:Int) (V:Fn) (c:Cv) (K:Kf) (D:List AC) (G:AC):Option (List AC):=
 cond (decide (O (U.tdiv 1048576)=(↑0:Int))) ((V [I c.g0,I c.g1,I c.g2,I K.lag,jA D 0,jA D 1,jA D 2,G,jA D 1,jA D 2]).bind λL=>
 some (Ac K {c with g0:=gA L 0,g1:=gA L 1,g2:=gA L 2})) (cond (decide (O (U.tdiv 1048576)=(↑(0+1):Int))) ((V [I c.g0,I c.g1,I c.g2,I K.lag,jA D 0,jA D 1,jA D 2,jA D 0,G,jA D 2]).bind λM=>
 some (Ac K {c with g0:=gA M 0,g1:=gA M 1,g2:=gA M 2})) (cond (decide (O (U.tdiv 1048576)=(↑(0+1+1):Int))) ((V [I c.g0,I c.g1,I c.g2,I K.lag,jA D 0,jA D 1,jA D 2,jA D 0,jA D 1,G]).bind λN=>
 some (Ac K {c with g0:=gA N 0,g1:=gA N 1,g2:=gA N 2})) (none)))
theorem Z2u (K:Kf) (c:Cv):Qf3 G H J (I a::Ac K c)=
 cond (decide (a<0)) (some (Ac K c)) (cond (decide (O (a.tdiv 1048576)>2)) (some (Ac K c)) ((J (Ac K c)).bind λM=>
 (H (pxt K.p K.x K.t [jA M 0])).bind λD=>
 cond (decide (O (a.tdiv 1048576)=(↑0:Int))) (XM a G c K D (I (O (gA D 0-a.tmod 1048576)))) (cond (decide (O (a.tdiv 1048576)=(↑(0+1):Int))) (XM a G c K D (I (O (gA D 1-a.tmod 1048576)))) (cond (decide (O (a.tdiv 1048576)=(↑(0+1+1):Int))) (XM a G c K D (I (O (gA D 2-a.tmod 1048576)))) (none))))):=by kernel_rfl
def JV:=Qf3 R4 E_ C6
def Z8u:AK PG (Qet R4 E_ C6):=G_ (rs:=[102]) rfl ⟨r_guard_Check.out,r_track_Motors.out,O_,trivial⟩ rfl (Cu rfl (Cu rfl (E6 Hu)))
def Zt5:Bx PG (Zni JV):=(rw1 (Qet R4 E_ C6) Z8u).out
instance:RI (Zni JV):=⟨Zt5⟩
def Qv8:Sk:=⟨[],[],[]⟩
def Yj:=qa 96 Qv8 Qwz
def Yy:Fn:=mF Qy3 96 Qv8 Qwz
theorem Zqw:Yy []=
 some [I 0,I 0,I (-1)]:=by kernel_rfl
def O2:=Yy
instance:RI (Yj O2):=rw1 Qy3
def Qyz:=qa 194 Q4n Qwz
def Zo:Fn:=mF Qy3 194 Q4n Qwz
theorem Z0n:Zo [I a,I b,I c,I d,I e]=
 cond (a==2) (some [I a,I b,I c]) (cond (b==0) (some [I 1,I d,I e]) (some [I 1,I b,I c])):=by kernel_rfl
def Vn:=Zo
instance:RI (Qyz Vn):=rw1 Qy3
def Q0o:Sk:=⟨[tT [ci,ci,ci],tT [ci,ci,ci]],[],[]⟩
def Qu3:=qa 151 Q0o Qwz
def Ze6 (D G:Fn):Cfg:=cf [Yj D,Qyz G]
def Qd5 (D G:Fn):Fn:=mF (Ze6 D G) 151 Q0o Qwz
theorem Zrs:Qd5 G H [I a,I b,I c,I d,I e,I f]=
 cond (e==10) (some [I 2,I 22,I (-1)]) (cond (e==9) ((H [I a,I b,I c,I 21,I (-1)]).bind λo3=>
 some [jA o3 0,jA o3 1,jA o3 2]) (cond (e==8) (cond (decide (f>=0)) (cond (decide (f<=2)) ((H [I a,I b,I c,I 20,I f]).bind λo4=>
 some [jA o4 0,jA o4 1,jA o4 2]) (some [I a,I b,I c])) (some [I a,I b,I c])) (cond (e==11) ((G []).bind λU=>
 some [jA U 0,jA U 1,jA U 2]) (some [I a,I b,I c])))):=by kernel_rfl
def Qgy:=Qd5 O2 Vn
instance:RI (Qu3 Qgy):=rw1 (Ze6 O2 Vn)
def Zlu:Sk:=⟨[tf [sb],tf [ci]],[],[]⟩
def Qvu:=qa 193 Zlu Zkh
def ZA:Fn:=mF Qy3 193 Zlu Zkh
theorem Zrx:ZA [B X,I a]=
 cond (a==0) (some [B false]) (cond (a==1) (some [B true]) (some [B X])):=by kernel_rfl
def T4:=ZA
instance:RI (Qvu T4):=rw1 Qy3
def Zhx:Sk:=⟨[tT [ci,ci,sb,sb,sb],tT [ci,ci,ci]],[],[]⟩
def Zhy:Sk:=⟨[tT [ci,ci,sb,sb,sb]],[],[]⟩
def Q11:=qa 150 Zhx Zhy
def Qwp (D:Fn):Cfg:=cf [Qvu D]
def T8 (D:Fn):Fn:=mF (Qwp D) 150 Zhx Zhy
theorem Q2u (V:Fn) (L M:Int) (N D G:Bool) (X U O:Int):T8 V [I L,I M,B N,B D,B G,I X,I U,I O]=
 cond (U==1) (cond (decide (0<=O)) (cond (decide (O<=200)) (some [I O,I M,B N,B D,B G]) (some [I L,I M,B N,B D,B G])) (some [I L,I M,B N,B D,B G])) (cond (U==2) (cond (decide (0<=O)) (cond (decide (O<=100)) (some [I L,I O,B N,B D,B G]) (some [I L,I M,B N,B D,B G])) (some [I L,I M,B N,B D,B G])) (cond (U==3) (some [I L,I M,B true,B D,B G]) (cond (U==4) (some [I L,I M,B false,B D,B G]) (cond (U==5) ((V [B D,I O]).bind λo2=>
 some [I L,I M,B N,B (bA o2 0),B G]) (cond (U==6) ((V [B G,I O]).bind λo3=>
 some [I L,I M,B N,B D,B (bA o3 0)]) (some [I L,I M,B N,B D,B G])))))):=by kernel_rfl
def Zg:=T8 T4
instance:RI (Q11 Zg):=rw1 (Qwp T4)
def Qoi:Sk:=⟨[tf [sc 20000 0],tT [ci,ci,ci]],[(20000,179,cS)],[]⟩
def Qye:=qa 99 Qoi Zee
def Zh8 (D G I L M:Fn):Cfg:=cp [Quj D,Zgq G,Zni I,Qu3 L,Q11 M] [154,153,152]
def Uq (D G I L M:Fn):Fn:=mF (Zh8 D G I L M) 99 Qoi Zee
theorem Quq (N O U V X:Fn) (M G L:Int) (K:Kf) (c:Cv):Uq N O U V X (I M::I G::I L::Ac K c)=
 (X [I c.o0,I c.o1,B c.o2,B c.o3,B c.o4,I M,I G,I L]).bind λD=>
 (V [I c.g0,I c.g1,I c.g2,I M,I G,I L]).bind λo6=>
 cond (G==13) ((U (I L::Ac K {c with o0:=gA D 0,o1:=gA D 1,o2:=bA D 2,o3:=bA D 3,o4:=bA D 4,g0:=gA o6 0,g1:=gA o6 1,g2:=gA o6 2})).bind λY=>
 some (cR 0 Y)) (cond (G==11) (some (Ac K {c with o0:=gA D 0,o1:=gA D 1,o2:=true,o3:=bA D 3,o4:=bA D 4,g0:=gA o6 0,g1:=gA o6 1,g2:=gA o6 2})) (cond (G==12) ((O (Ac K {c with o0:=gA D 0,o1:=gA D 1,o2:=bA D 2,o3:=bA D 3,o4:=bA D 4,g0:=gA o6 0,g1:=gA o6 1,g2:=gA o6 2})).bind λo8=>
 some (cR 0 o8)) (cond (G==7) ((N (I L::Ac K {c with o0:=gA D 0,o1:=gA D 1,o2:=bA D 2,o3:=bA D 3,o4:=bA D 4,g0:=gA o6 0,g1:=gA o6 1,g2:=gA o6 2})).bind λo9=>
 some (cR 0 o9)) (cond (G==4) (some (Ac K {c with o0:=gA D 0,o1:=gA D 1,o2:=bA D 2,o3:=bA D 3,o4:=bA D 4,g0:=gA o6 0,g1:=gA o6 1,g2:=gA o6 2,aJ:=true})) (some (Ac K {c with o0:=gA D 0,o1:=gA D 1,o2:=bA D 2,o3:=bA D 3,o4:=bA D 4,g0:=gA o6 0,g1:=gA o6 1,g2:=gA o6 2})))))):=by kernel_rfl
def JR:=Uq Sv N0 JV Qgy Zg
instance r_controller_Controller_event:RI (Qye JR):=rw1 (Zh8 Sv N0 JV Qgy Zg)
def Qjx:Sk:=⟨[tf [sc 20000 0],tf [sa kPt]],[(20000,179,cS)],[]⟩
def ZV:Sk:=⟨[tT ([sa kPt,sa Aa]++cc 7)],[(20000,179,cS)],[]⟩
def Znh:=qa 55 Qjx ZV
def Qdl (D G I L M N O U V DD X Y:Fn):Cfg:=cr [Q5k D,Qwr G,Qyf I,Q61 L,Q7r M,Qyh N,Qyn O,Qc8 U,O8 V,Zlw DD,Q59 X,Qye Y] [110,109,108,107,106,105,104,102,100,99] [102,100]
def Q5r:Sk:=⟨[tf [sc 20000 0],td,td,td,tf [sc 4 0]]++dd 14++[tf [sa kPt],tf [ci],tf [ci]]++dd 93,[(4,61,[sa kPt,sa Aa]++cc 7),(20000,179,cS)],[]⟩
def Zkl:List (Ex×Sk):=[(Ex.exit 0,⟨[tf [sc 20000 0],td,td,td,tf [sc 4 0]]++dd 110,[(4,61,[sa kPt,sa Aa]++cc 7),(20000,179,cS)],[]⟩)]
def TM (D G I L M N O U V DD X Y:Fn):Lp:=sL (Qdl D G I L M N O U V DD X Y) 55 3 Q5r Zkl
def Q0a (D G I L M N O U V DD X Y:Fn) (N3:Lp):Cfg:=(Qdl D G I L M N O U V DD X Y).loop 3 Q5r Zkl N3
def Zet:Sk:=⟨[tf [sc 20000 0],td,td,td,tf [sc 4 0],td,td,tf [ci],tf [sc 8 0]]++dd 81++[tf [CS.bsl 90 5],tf [ci],tf [ci]]++dd 22,[(4,61,[sa kPt,sa Aa]++cc 7),(8,61,[sa kPt,sa Aa]++cc 7),(90,186,[CS.clo 104 [(20000,0)] [],CS.clo 105 [(20000,0)] [],CS.clo 106 [(20000,0)] [],CS.clo 107 [(20000,0)] [],CS.clo 108 [(20000,0)] []]),(20000,179,cS)],[]⟩
def Zc4:List (Ex×Sk):=[(Ex.exit 2,⟨[tf [sc 20000 0],td,td,td,tf [sc 4 0],td,td,tf [ci],tf [sc 8 0]]++dd 106,[(4,61,[sa kPt,sa Aa]++cc 7),(8,61,[sa kPt,sa Aa]++cc 7),(20000,179,cS)],[]⟩)]
def IR (D G I L M N O U V DD X Y:Fn) (N3:Lp):Lp:=sL (Q0a D G I L M N O U V DD X Y N3) 55 16 Zet Zc4
def Qww (G I L M N O U V X DD Y EG:Fn) (N3 D:Lp):Cfg:=(Q0a G I L M N O U V X DD Y EG N3).loop 16 Zet Zc4 D
def Qhr (G I L M N O U V X DD Y EG:Fn) (N3 D:Lp):Fn:=mF (Qww G I L M N O U V X DD Y EG N3 D) 55 Qjx ZV
def Zya (CM C1 EK EW EO EI EP B7 A_ DD DB EG:Fn) (G:Rw) (L D:Int) (M N:Rw) (U V X Y v9 v10 v11:Int) (K:Kf) (c:Cv):TM CM C1 EK EW EO EI EP B7 A_ DD DB EG (.vC kPt G::I L::I D:: .vC kPt M:: .vC Aa N::I U::I V::I X::I Y::I v9::I v10::I v11::Ac K c)=
 cond (decide (D<L)) (cond (decide (0<=D)&&decide (D<(G.length:Int))) ((EG (jA (nth [] G D.toNat) 0::jA (nth [] G D.toNat) 1::jA (nth [] G D.toNat) 2::Ac K c)).bind λa0=>
 some (0,(.vC kPt G::I L::I (O (D+1)):: .vC kPt M:: .vC Aa N::I U::I V::I X::I Y::I v9::I v10::I v11::cR 0 a0))) (none)) (some (1,(.vC kPt M:: .vC Aa N::I U::I V::I X::I Y::I v9::I v10::I v11::Ac K c))):=by kernel_rfl
abbrev PR (v0:Int) (v3 v4:Rw) (v5 v6 v7 v8 v9 v10 v11:Int) (v12 G:Rw) (L M N U V v20 v1 v2 a0:Int) (X:Bool) (Y:AC) (D:List AC):Option (Nat×List AC):=
 cond (X) (some (1,(I v0:: .vC kPt v3:: .vC Aa v4::I v5::I v6::I v7::I v8::I v9::I v10::I v11:: .vC kPt v12:: .vC Aa G::Y::I L::I M::I N::I U::I V::I v20::D))) (some (0,(I v0::I v1::I (O (v2+1)):: .vC kPt v3:: .vC Aa v4::I v5::I v6::I v7::I v8::I v9::I v10::I v11:: .vC kPt v12:: .vC Aa G::I a0::I L::I M::I N::I U::I V::I v20::D)))
def Z66 (CM C1 EK EW EO EI EP B7 A_ DD DB EG:Fn) (N3:Lp) (X Y V:Int) (v3 v4:Rw) (v5 v6 v7 v8 v9 v10 v11:Int) (v12 D:Rw) (G L M N O U v20:Int) (K:Kf) (c:Cv):IR CM C1 EK EW EO EI EP B7 A_ DD DB EG N3 (I X::I Y::I V:: .vC kPt v3:: .vC Aa v4::I v5::I v6::I v7::I v8::I v9::I v10::I v11:: .vC kPt v12:: .vC Aa D::I G::I L::I M::I N::I O::I U::I v20::Ac K c)=
 cond (decide (V<Y)) (cond (decide (V=(↑0:Int))) ((EP (Ac K c)).bind λa0=>
 PR X v3 v4 v5 v6 v7 v8 v9 v10 v11 v12 D L M N O U v20 Y V G (bA a0 1) (jA a0 0) (cR 2 a0)) (cond (decide (V=(↑(0+1):Int))) ((EI (Ac K c)).bind λa1=>
 PR X v3 v4 v5 v6 v7 v8 v9 v10 v11 v12 D L M N O U v20 Y V G (bA a1 1) (jA a1 0) (cR 2 a1)) (cond (decide (V=(↑(0+1+1):Int))) ((EO (Ac K c)).bind λa2=>
 PR X v3 v4 v5 v6 v7 v8 v9 v10 v11 v12 D L M N O U v20 Y V G (bA a2 1) (jA a2 0) (cR 2 a2)) (cond (decide (V=(↑(0+1+1+1):Int))) ((EW (Ac K c)).bind λa3=>
 PR X v3 v4 v5 v6 v7 v8 v9 v10 v11 v12 D L M N O U v20 Y V G (bA a3 1) (jA a3 0) (cR 2 a3)) (cond (decide (V=(↑(0+1+1+1+1):Int))) ((EK (Ac K c)).bind λa4=>
 PR X v3 v4 v5 v6 v7 v8 v9 v10 v11 v12 D L M N O U v20 Y V G (bA a4 1) (jA a4 0) (cR 2 a4)) (none)))))) (some (1,(I X:: .vC kPt v3:: .vC Aa v4::I v5::I v6::I v7::I v8::I v9::I v10::I v11:: .vC kPt v12:: .vC Aa D::I G::I L::I M::I N::I O::I U::I v20::Ac K c))):=by kernel_rfl
abbrev Ks (V:Lp) (M:Nat×List AC) (Y X:Fn) (N:AC) (O:List AC):Option (List AC):=
 (V (N::I (↑5:Int)::I 0:: .vC kPt (wA M.2 0):: .vC Aa (wA M.2 1)::jA M.2 2::jA M.2 3::jA M.2 4::jA M.2 5::jA M.2 6::jA M.2 7::jA M.2 8:: .vC kPt []:: .vC Aa []::I 0::I 0::I 0::I 0::I 0::I 0::I 0::O)).bind λD=>
 cond (D.1.beq 1) (cond (gA D.2 12==0) ((Y (cR 19 D.2)).bind λU=>
 (X (jA D.2 0::(cR 1 U++[.vC kPt (wA D.2 10), .vC Aa (wA D.2 11),jA U 0,jA D.2 13,jA D.2 14,jA D.2 15,jA D.2 16,jA D.2 17,jA D.2 18]))).bind λG=>
 some (.vC kPt (wA G 90):: .vC Aa (wA G 91)::jA G 92::jA G 93::jA G 94::jA G 95::jA G 96::jA G 97::jA G 98::cR 0 G)) ((X (jA D.2 0::(cR 19 D.2++[.vC kPt (wA D.2 10), .vC Aa (wA D.2 11),jA D.2 12,jA D.2 13,jA D.2 14,jA D.2 15,jA D.2 16,jA D.2 17,jA D.2 18]))).bind λL=>
 some (.vC kPt (wA L 90):: .vC Aa (wA L 91)::jA L 92::jA L 93::jA L 94::jA L 95::jA L 96::jA L 97::jA L 98::cR 0 L))) (none)
abbrev Qjj (DB:Fn) (D:Nat×List AC) (DD V X:Fn) (I:Lp) (Y CM:Fn):Option (List AC):=
 (DB (DQ (cR 9 D.2) [(58,B true),(86,jA D.2 76)])).bind λL=>
 cond (!bA L 0) ((DD [jA D.2 73,jA D.2 74,jA D.2 75,jA D.2 76,jA D.2 42]).bind λG=>
 (V (DQ (cR 9 D.2) [(58,B true),(64,jA G 0),(65,jA G 1),(66,jA G 2),(67,jA G 3),(86,jA D.2 76)])).bind λM=>
 (X [jA D.2 59,jA D.2 60,jA D.2 61,jA D.2 62,jA D.2 63,jA D.2 64]).bind λN=>
 Ks I D Y CM (jA M 0) (DQ (cR 9 D.2) [(58,B true),(64,jA G 0),(65,jA G 1),(66,jA G 2),(67,jA G 3),(86,jA D.2 76),(88,B (bA N 0))])) ((V (DQ (cR 9 D.2) [(58,B true),(86,jA D.2 76)])).bind λO=>
 (X [jA D.2 59,jA D.2 60,jA D.2 61,jA D.2 62,jA D.2 63,jA D.2 64]).bind λU=>
 Ks I D Y CM (jA O 0) (DQ (cR 9 D.2) [(58,B true),(86,jA D.2 76),(88,B (bA U 0))]))
def Zyz (M N EK EW EO EI EP O U DD V EG:Fn) (N3 L:Lp) (X:Rw) (K:Kf) (c:Cv):Qhr M N EK EW EO EI EP O U DD V EG N3 L (.vC kPt X::Ac K c)=
 (N3 (.vC kPt X::I (X.length:Int)::I 0:: .vC kPt []:: .vC Aa []::I 0::I 0::I 0::I 0::I 0::I 0::I 0::Ac K {c with aJ:=false,aL:=false})).bind λD=>
 cond (D.1.beq 1) (cond (bA D.2 86) (Qjj V D DD U O L N M) (cond (gA D.2 70 !=0) (Qjj V D DD U O L N M) ((V (DQ (cR 9 D.2) [(86,jA D.2 76)])).bind λY=>
 cond (!bA Y 0) ((DD [jA D.2 73,jA D.2 74,jA D.2 75,jA D.2 76,jA D.2 42]).bind λG=>
 (U (DQ (cR 9 D.2) [(64,jA G 0),(65,jA G 1),(66,jA G 2),(67,jA G 3),(86,jA D.2 76)])).bind λa0=>
 (O [jA D.2 59,jA D.2 60,jA D.2 61,jA D.2 62,jA D.2 63,jA D.2 64]).bind λa1=>
 Ks L D N M (jA a0 0) (DQ (cR 9 D.2) [(64,jA G 0),(65,jA G 1),(66,jA G 2),(67,jA G 3),(86,jA D.2 76),(88,B (bA a1 0))])) ((U (DQ (cR 9 D.2) [(86,jA D.2 76)])).bind λa2=>
 (O [jA D.2 59,jA D.2 60,jA D.2 61,jA D.2 62,jA D.2 63,jA D.2 64]).bind λa3=>
 Ks L D N M (jA a2 0) (DQ (cR 9 D.2) [(86,jA D.2 76),(88,B (bA a3 0))]))))) (none):=by kernel_rfl
def UU:=Ak (TM LW KC Jy No Nl Mz KP IM C6 KF Ki JR)
def Zc5:=Ak (IR LW KC Jy No Nl Mz KP IM C6 KF Ki JR UU)
def KG:=Qhr LW KC Jy No Nl Mz KP IM C6 KF Ki JR UU Zc5
def ZK:AK PG (Qdl LW KC Jy No Nl Mz KP IM C6 KF Ki JR):=G_ (rs:=[102,100]) rfl ⟨Qoa,r_controller_Controller_run.out,r_controller_Controller_retracing.out,r_controller_Controller_busy.out,r_controller_Controller_probed.out,r_controller_Controller_over.out,Qwc,r_retrace_Still.out,O_,r_spindle_Step.out,Qoz,r_controller_Controller_event.out,trivial⟩ rfl (Cu rfl (Cu rfl (Cu rfl (Cu rfl (Cu rfl (Cu rfl (Cu rfl (Cu rfl (E6 (Cu rfl (E6 (Cu rfl Hu))))))))))))
def Z73:Bx PG (Znh KG):=(rw2 (Qww LW KC Jy No Nl Mz KP IM C6 KF Ki JR UU Zc5) (fl (fl fb ZK) ZK) ZK).out
instance:RI (Znh KG):=⟨Z73⟩
def Zd7:Sk:=⟨[tf [sa kPt],tf [ci]],[],[]⟩
def Qz9:=qa 56 Zd7 Qw2
def C_event_At_0:Cfg:={cf []with prom:=λb=>cond (Nat.beq b 3) ([(5,65)]) ([])}
def Znj:Sk:=⟨[td,tf [ci],td,td,td,tf [sd 5 3],td,td,tf [sa kPt],tf [ci],tf [ci]]++dd 13,[],[(5,65,kPt)]⟩
def Q3p:List (Ex×Sk):=[(Ex.exit 0,⟨[td,td,td,td,td,tf [sd 5 3]]++dd 18,[],[(5,65,kPt)]⟩)]
def W3:Lp:=sL C_event_At_0 56 3 Znj Q3p
def Qom (D:Lp):Cfg:=C_event_At_0.loop 3 Znj Q3p D
def Qkd (D:Lp):Fn:=mF (Qom D) 56 Zd7 Qw2
theorem Zsz:W3 [.vC kPt A,I a, .vC kPt C,I b,I c]=
 cond (decide (c<b)) (cond (decide (0<=c)&&decide (c<(C.length:Int))) (cond (gA (nth [] C c.toNat) 0==a) (cond (((A++[[jA (nth [] C c.toNat) 0,jA (nth [] C c.toNat) 1,jA (nth [] C c.toNat) 2]]).length*24).ble 140737488355328) (some (0,[.vC kPt (A++[[jA (nth [] C c.toNat) 0,jA (nth [] C c.toNat) 1,jA (nth [] C c.toNat) 2]]),I a, .vC kPt C,I b,I (O (c+1))])) (none)) (some (0,[.vC kPt A,I a, .vC kPt C,I b,I (O (c+1))]))) (none)) (some (1,[.vC kPt A])):=by kernel_rfl
theorem Ydo:Qkd Z [.vC kPt A,I a]=
 (Z [.vC kPt [],I a, .vC kPt A,I (A.length:Int),I 0]).bind λo1=>
 cond (o1.1.beq 1) (some [.vC kPt (wA o1.2 0)]) (none):=by kernel_rfl
def Q20:=Ak (W3)
def Ti:=Qkd Q20
instance:RI (Qz9 Ti):=rw2 (Qom Q20) (fl fb)
def Q4t:Sk:=⟨[tT (cc 13++[sb,ci,sb]++cc 5++[sb])],[],[]⟩
def Tg:=qa 138 Q4t Zkh
def Qn0:Fn:=mF Qy3 138 Q4t Zkh
theorem Ydd (a1:Bool):Qn0 [I a,I b,I c,I d,I e,I f,I g,I h,I i,I j,I k,I l,I m,B X,I n,B Y,I o,I p,I q,I r,I s,B a1]=
 cond (a==2) (some [B !(c==f&&(d==g&&(e==h&&true)))]) (some [B false]):=by kernel_rfl
def GP:=Qn0
instance:RI (Tg GP):=rw1 Qy3
def SS:=qa 88 Qvf Zkh
def Qpu:Fn:=mF Qy3 88 Qvf Zkh
theorem Yd0:Qpu [I a]=
 cond (decide (a>=1)) (some [B (decide (a<=6))]) (some [B false]):=by kernel_rfl
def Fa:=Qpu
instance:RI (SS Fa):=rw1 Qy3
def Zd:=qa 140 Q4t Zkh
def Qy4:Fn:=mF Qy3 140 Q4t Zkh
theorem Zz1 (a2:Bool):Qy4 [I a,I b,I c,I d,I e,I f,I g,I h,I i,I j,I k,I l,I m,B X,I n,B Y,I o,I p,I q,I r,I s,B a2]=
 cond (a==5) (some [B true]) (some [B (a==6)]):=by kernel_rfl
def JT:=Qy4
instance:RI (Zd JT):=rw1 Qy3
def Zih:Sk:=⟨[tf [sa Ae],tf [ci]],[],[]⟩
def Qyj:=qa 144 Zih Zkh
def Qnh (A2 D:Fn):Cfg:=cf [SS A2,Zd D]
def Qnb:Sk:=⟨dd 23++[tf [sa Ae],tf [ci],tf [ci]]++dd 9,[],[]⟩
def Qte:List (Ex×Sk):=[(Ex.ret,⟨[td,td,td,td,tf [sb]]++dd 30,[],[]⟩),(Ex.exit 0,⟨[td]++dd 34,[],[]⟩)]
def Mm (A2 D:Fn):Lp:=sL (Qnh A2 D) 144 4 Qnb Qte
def Q4f (A2 D:Fn) (G:Lp):Cfg:=(Qnh A2 D).loop 4 Qnb Qte G
def Qjc (A2 D:Fn) (G:Lp):Fn:=mF (Q4f A2 D G) 144 Zih Zkh
theorem Qwi:Mm G H [.vC Ae A,I a,I b]=
 cond (decide (b<a)) (cond (decide (0<=b)&&decide (b<(A.length:Int))) ((G [jA (nth [] A b.toNat) 0]).bind λN=>
 cond (bA N 0) ((H (AX Ae (nth [] A b.toNat))).bind λo6=>
 some (1,[B (bA o6 0)])) (some (0,[.vC Ae A,I a,I (O (b+1))]))) (none)) (some (2,[])):=by kernel_rfl
theorem Z43:Qjc G H Z [.vC Ae A,I a]=
 cond (decide (0<=a)&&decide (a<(A.length:Int))) (cond (gA (nth [] A a.toNat) 18==0) (some [B true]) (cond (decide (0<=a)&&decide (a<(A.length:Int))) ((H (AX Ae (nth [] A a.toNat))).bind λN=>
 cond (bA N 0) (some [B true]) (cond (decide (0<=O (a+1))&&decide (O (a+1)<=(A.length:Int))) ((Z [.vC Ae (List.drop (O (a+1)).toNat A),I (↑(List.drop (O (a+1)).toNat A).length:Int),I 0]).bind λo8=>
 cond (o8.1.beq 1) (some [B (bA o8.2 0)]) (cond (o8.1.beq 2) (some [B false]) (none))) (none))) (none))) (none):=by kernel_rfl
def Zb6:=Ak (Mm Fa JT)
def XE:=Qjc Fa JT Zb6
instance:RI (Qyj XE):=rw2 (Q4f Fa JT Zb6) (fl fb)
def Q9c:Sk:=⟨[tf [sc 20000 0],tf [sa Ae],tf [ci]],[(20000,102,[ci,ci,ci,sd 20000 7,sd 20001 3,sb,ci,ci,ci])],[(20000,111,Ai),(20001,130,kPt)]⟩
def Zge:Sk:=⟨[TS.tup []],[(20000,102,[ci,ci,ci,sd 20000 7,sd 20001 3,sb,ci,ci,ci])],[(20000,111,Ai),(20001,130,kPt)]⟩
def Qn1:=qa 92 Q9c Zge
def Q3o (D A2:Fn):Cfg:=cf [Qyj D,SS A2]
def Qfn (D A2:Fn):Fn:=mF (Q3o D A2) 92 Q9c Zge
abbrev Qd0 (A2:Fn) (x2:Rw) (G:Int) (M:Rw) (D:Int) (N:Rw) (O U V:Int) (X:Bool) (Y L:Int):Option (List AC):=
 (A2 [jA (nth [] x2 G.toNat) 0]).bind λo6=>
 cond (bA o6 0) (cond (((M++[[I D,I 2,I G]]).length*24).ble 140737488355328) (some [.vC Ai N, .vC kPt (M++[[I D,I 2,I G]]),I O,I U,I V,B X,I D,I Y,I L]) (none)) (cond (gA (nth [] x2 G.toNat) 0==10) (cond (((M++[[I D,I 5,I G]]).length*24).ble 140737488355328) (some [.vC Ai N, .vC kPt (M++[[I D,I 5,I G]]),I O,I U,I V,B X,I D,I Y,I L]) (none)) (cond (gA (nth [] x2 G.toNat) 0==13) (cond (((M++[[I D,I 4,I G]]).length*24).ble 140737488355328) (some [.vC Ai N, .vC kPt (M++[[I D,I 4,I G]]),I O,I U,I V,B X,I D,I Y,I L]) (none)) (cond (((M++[[I D,I 3,I G]]).length*24).ble 140737488355328) (some [.vC Ai N, .vC kPt (M++[[I D,I 3,I G]]),I O,I U,I V,B X,I D,I Y,I L]) (none))))
theorem Yd3:Qfn G H [.vC Ai A, .vC kPt C, .vC Ae E,I a,I b,I c,I d,B X,I e,I f,I g]=
 cond (decide (0<=a)&&decide (a<(E.length:Int))) (cond (gA (nth [] E a.toNat) 0==4) (cond (((C++[[I e,I 6,I a]]).length*24).ble 140737488355328) (some [.vC Ai A, .vC kPt (C++[[I e,I 6,I a]]),I b,I c,I d,B X,I e,I f,I g]) (none)) ((H [jA (nth [] E a.toNat) 0]).bind λo4=>
 cond (bA o4 0) ((G [.vC Ae E,I a]).bind λo5=>
 cond (bA o5 0) (cond (((C++[[I e,I 1,I a]]).length*24).ble 140737488355328) (some [.vC Ai A, .vC kPt (C++[[I e,I 1,I a]]),I b,I c,I d,B X,I e,I f,I g]) (none)) (Qd0 H E a C e A b c d X f g)) (Qd0 H E a C e A b c d X f g))) (none):=by kernel_rfl
def K5:=Qfn XE Fa
instance:RI (Qn1 K5):=rw1 (Q3o XE Fa)
def Vu:=qa 143 Q4t Qwz
def Qw9:Fn:=mF Qy3 143 Q4t Qwz
theorem Zv6 (a2:Bool):Qw9 [I a,I b,I c,I d,I e,I f,I g,I h,I i,I j,I k,I l,I m,B X,I n,B Y,I o,I p,I q,I r,I s,B a2]=
 some [I (O (O (c+f)*8)),I (O (O (d+g)*8)),I (O (O (e+h)*8))]:=by kernel_rfl
def I6:=Qw9
instance:RI (Vu I6):=rw1 Qy3
def Qu7:Sk:=⟨[tT [se .u64,se .u64],tT [se .u64,se .u64]],[],[]⟩
def XV:=qa 232 Qu7 Qvf
def Q7d:Fn:=mF Qy3 232 Qu7 Qvf
theorem Zta:Q7d [U a,U b,U c,U d]=
 cond (decide (a<c)) (some [I (-1)]) (cond (a==c) (cond (decide (b<d)) (some [I (-1)]) (cond (a==c&&(b==d&&true)) (some [I 0]) (some [I 1]))) (cond (a==c&&(b==d&&true)) (some [I 0]) (some [I 1]))):=by kernel_rfl
def KH:=Q7d
instance:RI (XV KH):=rw1 Qy3
def Qft:=qa 288 Q0q Qyp
def Q9r (D G:Fn):Cfg:=cf [XV D,Sx G]
def Zct:Sk:=⟨[td,tf [sc 1 0],td,tf [se .u64],tf [se .u64]]++dd 16,[(1,197,[se .u64,se .u64])],[]⟩
def Zg1:List (Ex×Sk):=[(Ex.exit 0,⟨[td,td,td,tf [se .u64]]++dd 17,[],[]⟩)]
def Nv (D G:Fn):Lp:=sL (Q9r D G) 288 3 Zct Zg1
def Zlk (D G:Fn) (I:Lp):Cfg:=(Q9r D G).loop 3 Zct Zg1 I
def Qbr (D G:Fn) (I:Lp):Fn:=mF (Zlk D G I) 288 Q0q Qyp
theorem Zh5:Nv G H [U a,U b,U c,U d]=
 cond (decide (b>0)) ((H [U (wrap .u64 (↑(BitVec.ofInt IntKind.u64.bits a|||BitVec.ofInt IntKind.u64.bits b).toNat:Int)),U (wrap .u64 (↑(BitVec.ofInt IntKind.u64.bits a|||BitVec.ofInt IntKind.u64.bits b).toNat:Int))]).bind λo3=>
 (G [U (gA o3 0),U (gA o3 1),U c,U d]).bind λo4=>
 cond (decide (gA o4 0<=0)) (some (0,[U (wrap .u64 (↑(BitVec.ofInt IntKind.u64.bits a|||BitVec.ofInt IntKind.u64.bits b).toNat:Int)),U (b.fdiv (2^min (Int.toNat 1) IntKind.u64.bits)),U c,U d])) (some (0,[U a,U (b.fdiv (2^min (Int.toNat 1) IntKind.u64.bits)),U c,U d]))) (some (1,[U a])):=by kernel_rfl
theorem Yb2:Qbr G H Z [U a,U b]=
 (Z [U 0,U 9223372036854775808,U a,U b]).bind λL=>
 cond (L.1.beq 1) (some [U (gA L.2 0)]) (none):=by kernel_rfl
def Qwt:=Ak (Nv KH GO)
def OC:=Qbr KH GO Qwt
instance:RI (Qft OC):=rw2 (Zlk KH GO Qwt) (fl fb)
def Qoe:Sk:=⟨[tT [se .u64,se .u64],tf [ci]],[],[]⟩
def Ziv:=qa 264 Qoe Qr7
def Zkw (D G I L:Fn):Cfg:=cf [TW D,(289,Ah Qch Qd8 G),(171,Ah UW TG I),Qft L]
def Zm (D G I L:Fn):Fn:=mF (Zkw D G I L) 264 Qoe Qr7
abbrev Qci (X:Int) (O:List AC) (N:Fn) (D V:List AC):Option (List AC):=
 cond (X==2) (cond (decide (gA O 0>0)) ((N [U (wrap .u64 (gA D 0+1)),B false]).bind λG=>
 some [jA G 0,B (bA G 1)]) (cond (decide (gA V 0>gA D 0)) ((N [U (wrap .u64 (gA D 0+1)),B false]).bind λI=>
 some [jA I 0,B (bA I 1)]) ((N [U (gA D 0),B false]).bind λL=>
 some [jA L 0,B (bA L 1)]))) ((N [U (gA D 0),B false]).bind λM=>
 some [jA M 0,B (bA M 1)])
theorem Z5f:Zm H J K M [U a,U b,I c]=
 (M [U a,U b]).bind λD=>
 (K [U (gA D 0),U (gA D 0)]).bind λN=>
 (J [U b,U (gA N 1),U 0]).bind λG=>
 (J [U a,U (gA N 0),U (gA G 1)]).bind λL=>
 cond (c==1) (cond (decide (gA L 0>0)) ((H [U (wrap .u64 (gA D 0+1)),B false]).bind λO=>
 some [jA O 0,B (bA O 1)]) (cond (decide (gA G 0>0)) ((H [U (wrap .u64 (gA D 0+1)),B false]).bind λV=>
 some [jA V 0,B (bA V 1)]) (Qci c L H D G))) (Qci c L H D G):=by kernel_rfl
def Qfb:=Zm G9 Le JO OC
instance:RI (Ziv Qfb):=rw1 (Zkw G9 Le JO OC)
def YW:=qa 237 Qup Qr7
def Qsn (D G:Fn):Cfg:=cf [Ziv D,XB G]
def Qaf (D G:Fn):Fn:=mF (Qsn D G) 237 Qup Qr7
theorem Z74:Qaf G H [I a,I b]=
 cond (decide (a<0)) (some [I 0,B false]) ((H [I b]).bind λo2=>
 cond (!bA o2 0) (some [I 0,B false]) ((G [U 0,U (wrap .u64 a),I b]).bind λo3=>
 some [jA o3 0,B (bA o3 1)])):=by kernel_rfl
def Me:=Qaf Qfb Jg
instance:RI (YW Me):=rw1 (Qsn Qfb Jg)
def YC:=qa 189 Q0o Qvf
def Ze9 (D:Fn):Cfg:={cf [YW D]with unroll:=[3]}
def YA (D:Fn):Fn:=mF (Ze9 D) 189 Q0o Qvf
theorem Z4a:YA G [I a,I b,I c,I d,I e,I f]=
 (G [I (O (O (O (0+O (O (a-d)*O (a-d)))+O (O (b-e)*O (b-e)))+O (O (c-f)*O (c-f)))),I 1]).bind λo1=>
 some [jA o1 0]:=by kernel_rfl
def Nn:=YA Me
instance:RI (YC Nn):=rw1 (Ze9 Me)
def Q2c:Sk:=⟨[tf [sc 20000 0],tT [ci,ci,ci],tT (cc 7)],[(20000,102,[ci,ci,ci,sd 20000 7,sd 20001 3,sb,ci,ci,ci])],[(20000,111,Ai),(20001,130,kPt)]⟩
def Zja:=qa 142 Q2c Zge
def Qwd (D:Fn):Cfg:=cf [YC D]
def Va (D:Fn):Fn:=mF (Qwd D) 142 Q2c Zge
abbrev Zf (D:Bool) (x0 x1:Rw) (x2 x3 x4 G L M N U V:Int) (Ds:Fn) (x9 X Y:Int) (a0:Bool) (a1 a2 a3:AC):Option (List AC):=
 cond (!D) (some [.vC Ai x0, .vC kPt x1,I x2,I x3,I x4,B true,I G,I L,I M]) (cond (a0) (some [.vC Ai x0, .vC kPt x1,I N,I U,I V,B D,I G,I L,I M]) ((Ds [a1,a2,a3,I x2,I x3,I x4]).bind λo2=>
 cond (((x0++[[I x2,I x3,I x4,jA o2 0,I x9,I X,I Y]]).length*56).ble 140737488355328) (some [.vC Ai (x0++[[I x2,I x3,I x4,jA o2 0,I x9,I X,I Y]]), .vC kPt x1,I N,I U,I V,B D,I (O (G+gA o2 0)),I L,I M]) (none)))
theorem Zgw:Va G [.vC Ai A, .vC kPt C,I a,I b,I c,I d,I e,I f,I g,I h,I i,I j,I k,I l,I m,B X,I n,I o,I p]=
 cond (decide ((A.length:Int)>0)) (cond (decide (0<=O ((A.length:Int)-1))&&decide (O ((A.length:Int)-1)<(A.length:Int))) (Zf X A C a b c n o p k l m G h i j (a==gA (nth [] A (O ((A.length:Int)-1)).toNat) 0&&(b==gA (nth [] A (O ((A.length:Int)-1)).toNat) 1&&(c==gA (nth [] A (O ((A.length:Int)-1)).toNat) 2&&true))) (jA (nth [] A (O ((A.length:Int)-1)).toNat) 0) (jA (nth [] A (O ((A.length:Int)-1)).toNat) 1) (jA (nth [] A (O ((A.length:Int)-1)).toNat) 2)) (none)) (Zf X A C a b c n o p k l m G h i j (a==k&&(b==l&&(c==m&&true))) (I k) (I l) (I m)):=by kernel_rfl
def Tw:=Va Nn
instance:RI (Zja Tw):=rw1 (Qwd Nn)
def WW:=qa 90 Zih Qvf
def Q0d:Sk:=⟨[tf [sa Ae],tf [ci]]++dd 20,[],[]⟩
def Zba:List (Ex×Sk):=[(Ex.exit 0,⟨[td,tf [ci]]++dd 20,[],[]⟩)]
def Rt:Lp:=sL Qy3 90 2 Q0d Zba
def Zax (D:Lp):Cfg:=Qy3.loop 2 Q0d Zba D
def Qc7 (D:Lp):Fn:=mF (Zax D) 90 Zih Qvf
theorem Zdm:Rt [.vC Ae A,I a]=
 cond (decide (a<(A.length:Int))) (cond (decide (0<=a)&&decide (a<(A.length:Int))) (cond (gA (nth [] A a.toNat) 0==10) (some (0,[.vC Ae A,I (O (a+1))])) (some (1,[I a]))) (none)) (some (1,[I a])):=by kernel_rfl
theorem Zx4:Qc7 Z [.vC Ae A,I a]=
 (Z [.vC Ae A,I (O (a+1))]).bind λo1=>
 cond (o1.1.beq 1) (some [jA o1.2 0]) (none):=by kernel_rfl
def Zc0:=Ak (Rt)
def Hv:=Qc7 Zc0
instance:RI (WW Hv):=rw2 (Zax Zc0) (fl fb)
def Qdb:=qa 89 Zih Zkh
def Q7n (D G:Fn):Cfg:=cf [Tg D,WW G]
def Y6 (D G:Fn):Fn:=mF (Q7n D G) 89 Zih Zkh
theorem Z6o:Y6 G H [.vC Ae A,I a]=
 (H [.vC Ae A,I a]).bind λo3=>
 cond (decide (0<=a)&&decide (a<(A.length:Int))) ((G (AX Ae (nth [] A a.toNat))).bind λo4=>
 cond (bA o4 0) (cond (decide (0<=a)&&decide (a<(A.length:Int))) (cond (gA (nth [] A a.toNat) 18 !=0) (cond (decide (gA o3 0<(A.length:Int))) (cond (decide (0<=gA o3 0)&&decide (gA o3 0<(A.length:Int))) ((G (AX Ae (nth [] A (gA o3 0).toNat))).bind λN=>
 some [B (bA N 0)]) (none)) (some [B false])) (some [B false])) (none)) (some [B false])) (none):=by kernel_rfl
def Ji:=Y6 GP Hv
instance:RI (Qdb Ji):=rw1 (Q7n GP Hv)
def Zdp:Sk:=⟨[tT [ci,ci,ci],tT [ci,ci,ci],tT [ci,ci,ci]],[],[]⟩
def Z7:=qa 286 Zdp Qvf
def Zfz:Fn:=mF Qqd 286 Zdp Qvf
theorem Z5h:Zfz [I a,I b,I c,I d,I e,I f,I g,I h,I i]=
 some [I (O (O (O (0+O (O (O (a+g)-O (2*d))*O (O (a+g)-O (2*d))))+O (O (O (b+h)-O (2*e))*O (O (b+h)-O (2*e))))+O (O (O (c+i)-O (2*f))*O (O (c+i)-O (2*f)))))]:=by kernel_rfl
def JY:=Zfz
instance:RI (Z7 JY):=rw1 Qqd
def Qtv:=qa 263 Zdp Qvf
def Qks (D:Fn):Cfg:=cf [Z7 D]
def Qlw:Sk:=⟨[td,td,td,tf [sc 3 0],tf [sc 4 0],tf [sc 5 0],td,tf [ci]]++dd 22,[(3,42,[ci,ci,ci]),(4,42,[ci,ci,ci]),(5,42,[ci,ci,ci])],[]⟩
def Qsc:List (Ex×Sk):=[(Ex.exit 0,⟨dd 7++[tf [ci]]++dd 22,[],[]⟩)]
def Si (D:Fn):Lp:=sL (Qks D) 263 2 Qlw Qsc
def Q40 (D:Fn) (G:Lp):Cfg:=(Qks D).loop 2 Qlw Qsc G
def Qat (D:Fn) (G:Lp):Fn:=mF (Q40 D G) 263 Zdp Qvf
theorem Yaj:Si G [I a,I b,I c,I d,I e,I f,I g,I h,I i,I j]=
 cond (decide (a<64)) ((G [I b,I c,I d,I e,I f,I g,I h,I i,I j]).bind λo2=>
 cond (decide (gA o2 0>O (O (O (O (O (O (16*a)*a)*a)*a)*4)*4))) (some (0,[I (O (a*2)),I b,I c,I d,I e,I f,I g,I h,I i,I j])) (some (1,[I a]))) (some (1,[I a])):=by kernel_rfl
theorem Zub:Qat G Z [I a,I b,I c,I d,I e,I f,I g,I h,I i]=
 (Z [I 2,I a,I b,I c,I d,I e,I f,I g,I h,I i]).bind λo3=>
 cond (o3.1.beq 1) (some [jA o3.2 0]) (none):=by kernel_rfl
def Zij:=Ak (Si JY)
def Nw:=Qat JY Zij
instance:RI (Qtv Nw):=rw2 (Q40 JY Zij) (fl fb)
def Qpj:Sk:=⟨[tT [se .u64,se .u64],tf [se .u64]],[],[]⟩
def Zbl:Sk:=⟨[TS.tup [(true,[se .u64,se .u64]),(false,[sb])]],[],[]⟩
def Ql6:=qa 296 Qpj Zbl
def Qy8 (D:Fn):Cfg:=cf [Qit D]
def Qby (D:Fn):Fn:=mF (Qy8 D) 296 Qpj Zbl
theorem Zvf:Qby G [U a,U b,U c]=
 (G [U 0,U a,U c]).bind λo2=>
 (G [U (gA o2 1),U b,U c]).bind λo3=>
 some [U (gA o2 0),U (gA o3 0),B (decide (gA o3 1>0))]:=by kernel_rfl
def Qff:=Qby JK
instance:RI (Ql6 Qff):=rw1 (Qy8 JK)
def Qex:=qa 287 Qpp Qr7
def Q5m (D G I L M N O U:Fn):Cfg:=cf [TW D,Qef G,Ua I,Qft L,Ql6 M,Sx N,XB O,Vj U]
def YU (D G I L M N O U:Fn):Fn:=mF (Q5m D G I L M N O U) 287 Qpp Qr7
abbrev Sg (CR:Fn) (x3:Int) (Bq:Fn) (G:List AC) (L:Bool) (M D N O:AC):Option (List AC):=
 cond (L) ((CR [I x3,M,B true,D]).bind λa1=>
 cond (bA a1 0) ((Bq [U (wrap .u64 (wrap .u64 ((gA G 0).tdiv 2)+1)),D]).bind λV=>
 some [jA V 0,B (bA V 1)]) ((Bq [U (wrap .u64 ((gA G 0).tdiv 2)),D]).bind λX=>
 some [jA X 0,B (bA X 1)])) ((CR [I x3,N,O,D]).bind λa2=>
 cond (bA a2 0) ((Bq [U (wrap .u64 (wrap .u64 ((gA G 0).tdiv 2)+1)),D]).bind λY=>
 some [jA Y 0,B (bA Y 1)]) ((Bq [U (wrap .u64 ((gA G 0).tdiv 2)),D]).bind λa0=>
 some [jA a0 0,B (bA a0 1)]))
theorem Zqn:YU H J K N P Q R S [I a,I b,I c,I d]=
 (S [I a]).bind λa3=>
 cond (decide (gA a3 0>2147483648)) (some [I 0,B false]) ((S [I b]).bind λa4=>
 cond (decide (gA a4 0>2147483648)) (some [I 0,B false]) (cond (decide (c<1)) (some [I 0,B false]) (cond (decide (c>4611686018427387904)) (some [I 0,B false]) ((R [I d]).bind λa5=>
 cond (!bA a5 0) (some [I 0,B false]) ((S [I a]).bind λa0=>
 (S [I b]).bind λa1=>
 (Q [U (wrap .u64 (2*wrap .u64 (gA a0 0*gA a1 0))),U (wrap .u64 (2*wrap .u64 (gA a0 0*gA a1 0)))]).bind λa2=>
 (P [U (gA a2 0),U (gA a2 1),U (wrap .u64 c)]).bind λD=>
 (N [U (gA D 0),U (gA D 1)]).bind λG=>
 cond (bA D 2) ((K [I a,I b]).bind λa6=>
 Sg J d H G ((gA G 0).tmod 2==1) (I 1) (B (decide (gA a6 0<0))) (I (-1)) (B true)) ((Q [U (gA G 0),U (gA G 0)]).bind λL=>
 (K [I a,I b]).bind λM=>
 cond ((gA G 0).tmod 2==1) (cond (!(gA L 0==gA D 0&&(gA L 1==gA D 1&&true))) (Sg J d H G (!(gA L 0==gA D 0&&(gA L 1==gA D 1&&true))) (I 1) (B (decide (gA M 0<0))) (I 1) (B ((gA G 0).tmod 2==1))) (Sg J d H G (!(gA L 0==gA D 0&&(gA L 1==gA D 1&&true))) (I 0) (B (decide (gA M 0<0))) (I 0) (B ((gA G 0).tmod 2==1)))) (Sg J d H G (!(gA L 0==gA D 0&&(gA L 1==gA D 1&&true))) (I (-1)) (B (decide (gA M 0<0))) (I (-1)) (B ((gA G 0).tmod 2==1))))))))):=by kernel_rfl
def Ly:=YU G9 LM Jo OC Qff GO Jg J_
instance:RI (Qex Ly):=rw1 (Q5m G9 LM Jo OC Qff GO Jg J_)
def Q84:Sk:=⟨[tT [ci,ci,ci],tT [ci,ci,ci],tf [ci]],[],[]⟩
def Qr8:Sk:=⟨[TS.tup [(true,[ci,ci,ci]),(false,[sb])]],[],[]⟩
def Zc:=qa 262 Q84 Qr8
def Q7u (D:Fn):Cfg:={cf [Qex D]with unroll:=[5,10]}
def Qjo (D:Fn):Fn:=mF (Q7u D) 262 Q84 Qr8
theorem Zqh:Qjo G [I a,I b,I c,I d,I e,I f,I g]=
 cond (d==a&&(e==b&&(f==c&&true))) (some [I 0,I 0,I 0,B false]) (cond (decide (g<0)) (some [I 0,I 0,I 0,B false]) (cond (decide (g>33554432)) (some [I 0,I 0,I 0,B false]) ((G [I (O (d-a)),I g,I (O (O (O (0+O (O (d-a)*O (d-a)))+O (O (e-b)*O (e-b)))+O (O (f-c)*O (f-c)))),I 2]).bind λo3=>
 (G [I (O (e-b)),I g,I (O (O (O (0+O (O (d-a)*O (d-a)))+O (O (e-b)*O (e-b)))+O (O (f-c)*O (f-c)))),I 2]).bind λo4=>
 (G [I (O (f-c)),I g,I (O (O (O (0+O (O (d-a)*O (d-a)))+O (O (e-b)*O (e-b)))+O (O (f-c)*O (f-c)))),I 2]).bind λY=>
 some [I (O (a+gA o3 0)),I (O (b+gA o4 0)),I (O (c+gA Y 0)),B true]))):=by kernel_rfl
def IX:=Qjo Ly
instance:RI (Zc IX):=rw1 (Q7u Ly)
def Zim:=qa 261 Q7k Qvf
def Qla (D G I:Fn):Cfg:=cf [Z7 D,Zc G,YC I]
def Qkm:Sk:=⟨[td,td,td,tf [ci],tf [sc 4 0],tf [sc 5 0],tf [sc 6 0],td,td,tf [ci],tf [ci],tf [ci]]++dd 62,[(4,42,[ci,ci,ci]),(5,42,[ci,ci,ci]),(6,42,[ci,ci,ci])],[]⟩
def Q57:List (Ex×Sk):=[(Ex.exit 0,⟨dd 10++[tf [ci]]++dd 63,[],[]⟩)]
def Pk (D G I:Fn):Lp:=sL (Qla D G I) 261 6 Qkm Q57
def Zg8 (D G I:Fn) (L:Lp):Cfg:=(Qla D G I).loop 6 Qkm Q57 L
def Qhl (D G I:Fn) (L:Lp):Fn:=mF (Zg8 D G I L) 261 Q7k Qvf
theorem Zad:Pk G H J [I a,I b,I c,I d,I e,I f,I g,I h,I i,I j,I k,I l,I m]=
 cond (decide (d>0)) (cond (decide (O (c+d)>b)) (some (0,[I a,I b,I c,I (d.fdiv (2^min (Int.toNat 1) IntKind.i64.bits)),I e,I f,I g,I h,I i,I j,I k,I l,I m])) ((H [I h,I i,I j,I e,I f,I g,I (O (c+d))]).bind λo8=>
 (H [I h,I i,I j,I k,I l,I m,I (O (c+d))]).bind λo9=>
 (G [jA o8 0,jA o8 1,jA o8 2,I h,I i,I j,jA o9 0,jA o9 1,jA o9 2]).bind λa0=>
 cond (decide (gA a0 0<=O (O (16*a)*a))) (some (0,[I a,I b,I (O (c+d)),I (d.fdiv (2^min (Int.toNat 1) IntKind.i64.bits)),I e,I f,I g,I h,I i,I j,I k,I l,I m])) (some (0,[I a,I b,I c,I (d.fdiv (2^min (Int.toNat 1) IntKind.i64.bits)),I e,I f,I g,I h,I i,I j,I k,I l,I m])))) (some (1,[I c])):=by kernel_rfl
theorem Zvd:Qhl G H J Z [I a,I b,I c,I d,I e,I f,I g,I h,I i,I j]=
 cond (a==d&&(b==e&&(c==f&&true))) (some [I 0]) (cond (g==d&&(h==e&&(i==f&&true))) (some [I 0]) ((J [I a,I b,I c,I d,I e,I f]).bind λa0=>
 (J [I d,I e,I f,I g,I h,I i]).bind λa1=>
 (Z [I j,I (O (mn (gA a0 0) (gA a1 0)-2)),I 0,I 16777216,I a,I b,I c,I d,I e,I f,I g,I h,I i]).bind λD=>
 cond (D.1.beq 1) (cond (decide (gA D.2 0<16)) (some [I 0]) (some [jA D.2 0])) (none))):=by kernel_rfl
def Za7:=Ak (Pk JY IX Nn)
def PW:=Qhl JY IX Nn Za7
instance:RI (Zim PW):=rw2 (Zg8 JY IX Nn Za7) (fl fb)
def Qqo:=qa 235 Q7k Qw2
def Q04 (D G I L:Fn):Cfg:={cf [LQ D,Qtv G,Zc I,Zim L]with unroll:=[13]}
def Zm5:Sk:=⟨[td,td,td,td,td,tf [sc 5 0],td,td,td,td,tf [sc 10 0],td,tf [sc 12 0],td,tf [ci],tf [sd 50 3]]++dd 36++[tf [ci],tf [ci]]++dd 57,[(5,42,[ci,ci,ci]),(10,42,[ci,ci,ci]),(12,42,[ci,ci,ci])],[(50,42,kPt)]⟩
def Qky:List (Ex×Sk):=[(Ex.exit 0,⟨dd 15++[tf [sd 50 3]]++dd 95,[],[(50,42,kPt)]⟩)]
def Qr (D G I L:Fn):Lp:=sL (Q04 D G I L) 235 9 Zm5 Qky
def Zed (D G I L:Fn) (M:Lp):Cfg:=(Q04 D G I L).loop 9 Zm5 Qky M
def Qgq (D G I L:Fn) (M:Lp):Fn:=mF (Zed D G I L M) 235 Q7k Qw2
theorem Qk4:Qr G H J K [.vC kPt A,I a,I b,I c,I d,I e,I f,I g,I h,I i,I j,I k,I l]=
 cond (decide (c<b)) (cond (decide (0<=c)&&decide (c<(A.length:Int))) ((G [I (O (O (O (O (a-c)*O (a-c))*O (g-d))+O (O (c*c)*O (j-d)))),I 1,I (O (a*a)),I 2]).bind λU=>
 cond (decide (0<=c)&&decide (c<(A.length:Int))) (cond (decide (0<=c)&&decide (c<(A.length:Int))) ((G [I (O (O (O (O (a-c)*O (a-c))*O (h-e))+O (O (c*c)*O (k-e)))),I 1,I (O (a*a)),I 2]).bind λX=>
 cond (decide (0<=c)&&decide (c<(A.length:Int))) (cond (decide (0<=c)&&decide (c<(A.length:Int))) ((G [I (O (O (O (O (a-c)*O (a-c))*O (i-f))+O (O (c*c)*O (l-f)))),I 1,I (O (a*a)),I 2]).bind λa0=>
 cond (decide (0<=c)&&decide (c<(A.length:Int))) (cond (decide (0<=c)&&decide (c<(A.length:Int))) (some (0,[.vC kPt ((((A.set c.toNat [I d,I e,I f]).set c.toNat [I (O (Af (nth .vD (nth [] (A.set c.toNat [I d,I e,I f]) c.toNat) 0)+gA U 0)),I (Af (nth .vD (nth [] (A.set c.toNat [I d,I e,I f]) c.toNat) 1)),I (Af (nth .vD (nth [] (A.set c.toNat [I d,I e,I f]) c.toNat) 2))]).set c.toNat [I (Af (nth .vD (nth [] ((A.set c.toNat [I d,I e,I f]).set c.toNat [I (O (Af (nth .vD (nth [] (A.set c.toNat [I d,I e,I f]) c.toNat) 0)+gA U 0)),I (Af (nth .vD (nth [] (A.set c.toNat [I d,I e,I f]) c.toNat) 1)),I (Af (nth .vD (nth [] (A.set c.toNat [I d,I e,I f]) c.toNat) 2))]) c.toNat) 0)),I (O (Af (nth .vD (nth [] ((A.set c.toNat [I d,I e,I f]).set c.toNat [I (O (Af (nth .vD (nth [] (A.set c.toNat [I d,I e,I f]) c.toNat) 0)+gA U 0)),I (Af (nth .vD (nth [] (A.set c.toNat [I d,I e,I f]) c.toNat) 1)),I (Af (nth .vD (nth [] (A.set c.toNat [I d,I e,I f]) c.toNat) 2))]) c.toNat) 1)+gA X 0)),I (Af (nth .vD (nth [] ((A.set c.toNat [I d,I e,I f]).set c.toNat [I (O (Af (nth .vD (nth [] (A.set c.toNat [I d,I e,I f]) c.toNat) 0)+gA U 0)),I (Af (nth .vD (nth [] (A.set c.toNat [I d,I e,I f]) c.toNat) 1)),I (Af (nth .vD (nth [] (A.set c.toNat [I d,I e,I f]) c.toNat) 2))]) c.toNat) 2))]).set c.toNat [I (Af (nth .vD (nth [] (((A.set c.toNat [I d,I e,I f]).set c.toNat [I (O (Af (nth .vD (nth [] (A.set c.toNat [I d,I e,I f]) c.toNat) 0)+gA U 0)),I (Af (nth .vD (nth [] (A.set c.toNat [I d,I e,I f]) c.toNat) 1)),I (Af (nth .vD (nth [] (A.set c.toNat [I d,I e,I f]) c.toNat) 2))]).set c.toNat [I (Af (nth .vD (nth [] ((A.set c.toNat [I d,I e,I f]).set c.toNat [I (O (Af (nth .vD (nth [] (A.set c.toNat [I d,I e,I f]) c.toNat) 0)+gA U 0)),I (Af (nth .vD (nth [] (A.set c.toNat [I d,I e,I f]) c.toNat) 1)),I (Af (nth .vD (nth [] (A.set c.toNat [I d,I e,I f]) c.toNat) 2))]) c.toNat) 0)),I (O (Af (nth .vD (nth [] ((A.set c.toNat [I d,I e,I f]).set c.toNat [I (O (Af (nth .vD (nth [] (A.set c.toNat [I d,I e,I f]) c.toNat) 0)+gA U 0)),I (Af (nth .vD (nth [] (A.set c.toNat [I d,I e,I f]) c.toNat) 1)),I (Af (nth .vD (nth [] (A.set c.toNat [I d,I e,I f]) c.toNat) 2))]) c.toNat) 1)+gA X 0)),I (Af (nth .vD (nth [] ((A.set c.toNat [I d,I e,I f]).set c.toNat [I (O (Af (nth .vD (nth [] (A.set c.toNat [I d,I e,I f]) c.toNat) 0)+gA U 0)),I (Af (nth .vD (nth [] (A.set c.toNat [I d,I e,I f]) c.toNat) 1)),I (Af (nth .vD (nth [] (A.set c.toNat [I d,I e,I f]) c.toNat) 2))]) c.toNat) 2))]) c.toNat) 0)),I (Af (nth .vD (nth [] (((A.set c.toNat [I d,I e,I f]).set c.toNat [I (O (Af (nth .vD (nth [] (A.set c.toNat [I d,I e,I f]) c.toNat) 0)+gA U 0)),I (Af (nth .vD (nth [] (A.set c.toNat [I d,I e,I f]) c.toNat) 1)),I (Af (nth .vD (nth [] (A.set c.toNat [I d,I e,I f]) c.toNat) 2))]).set c.toNat [I (Af (nth .vD (nth [] ((A.set c.toNat [I d,I e,I f]).set c.toNat [I (O (Af (nth .vD (nth [] (A.set c.toNat [I d,I e,I f]) c.toNat) 0)+gA U 0)),I (Af (nth .vD (nth [] (A.set c.toNat [I d,I e,I f]) c.toNat) 1)),I (Af (nth .vD (nth [] (A.set c.toNat [I d,I e,I f]) c.toNat) 2))]) c.toNat) 0)),I (O (Af (nth .vD (nth [] ((A.set c.toNat [I d,I e,I f]).set c.toNat [I (O (Af (nth .vD (nth [] (A.set c.toNat [I d,I e,I f]) c.toNat) 0)+gA U 0)),I (Af (nth .vD (nth [] (A.set c.toNat [I d,I e,I f]) c.toNat) 1)),I (Af (nth .vD (nth [] (A.set c.toNat [I d,I e,I f]) c.toNat) 2))]) c.toNat) 1)+gA X 0)),I (Af (nth .vD (nth [] ((A.set c.toNat [I d,I e,I f]).set c.toNat [I (O (Af (nth .vD (nth [] (A.set c.toNat [I d,I e,I f]) c.toNat) 0)+gA U 0)),I (Af (nth .vD (nth [] (A.set c.toNat [I d,I e,I f]) c.toNat) 1)),I (Af (nth .vD (nth [] (A.set c.toNat [I d,I e,I f]) c.toNat) 2))]) c.toNat) 2))]) c.toNat) 1)),I (O (Af (nth .vD (nth [] (((A.set c.toNat [I d,I e,I f]).set c.toNat [I (O (Af (nth .vD (nth [] (A.set c.toNat [I d,I e,I f]) c.toNat) 0)+gA U 0)),I (Af (nth .vD (nth [] (A.set c.toNat [I d,I e,I f]) c.toNat) 1)),I (Af (nth .vD (nth [] (A.set c.toNat [I d,I e,I f]) c.toNat) 2))]).set c.toNat [I (Af (nth .vD (nth [] ((A.set c.toNat [I d,I e,I f]).set c.toNat [I (O (Af (nth .vD (nth [] (A.set c.toNat [I d,I e,I f]) c.toNat) 0)+gA U 0)),I (Af (nth .vD (nth [] (A.set c.toNat [I d,I e,I f]) c.toNat) 1)),I (Af (nth .vD (nth [] (A.set c.toNat [I d,I e,I f]) c.toNat) 2))]) c.toNat) 0)),I (O (Af (nth .vD (nth [] ((A.set c.toNat [I d,I e,I f]).set c.toNat [I (O (Af (nth .vD (nth [] (A.set c.toNat [I d,I e,I f]) c.toNat) 0)+gA U 0)),I (Af (nth .vD (nth [] (A.set c.toNat [I d,I e,I f]) c.toNat) 1)),I (Af (nth .vD (nth [] (A.set c.toNat [I d,I e,I f]) c.toNat) 2))]) c.toNat) 1)+gA X 0)),I (Af (nth .vD (nth [] ((A.set c.toNat [I d,I e,I f]).set c.toNat [I (O (Af (nth .vD (nth [] (A.set c.toNat [I d,I e,I f]) c.toNat) 0)+gA U 0)),I (Af (nth .vD (nth [] (A.set c.toNat [I d,I e,I f]) c.toNat) 1)),I (Af (nth .vD (nth [] (A.set c.toNat [I d,I e,I f]) c.toNat) 2))]) c.toNat) 2))]) c.toNat) 2)+gA a0 0))]),I a,I b,I (O (c+1)),I d,I e,I f,I g,I h,I i,I j,I k,I l])) (none)) (none)) (none)) (none)) (none)) (none)) (none)) (some (1,[.vC kPt A])):=by kernel_rfl
theorem Q5y:Qgq H J K M Z [I a,I b,I c,I d,I e,I f,I g,I h,I i,I j]=
 (M [I a,I b,I c,I d,I e,I f,I g,I h,I i,I j]).bind λV=>
 cond (gA V 0==0) (some [.vC kPt [[I d,I e,I f]]]) ((K [I d,I e,I f,I a,I b,I c,jA V 0]).bind λG=>
 (K [I d,I e,I f,I g,I h,I i,jA V 0]).bind λL=>
 (J [jA G 0,jA G 1,jA G 2,I d,I e,I f,jA L 0,jA L 1,jA L 2]).bind λD=>
 cond (decide (O (gA D 0+1)=O (gA D 0+1))) (cond (decide (0<=O (gA D 0+1))&&decide (O (gA D 0+1)*(↑24:Int)<=140737488355328)) ((Z [.vC kPt (List.replicate (O (gA D 0+1)).toNat [I 0,I 0,I 0]),jA D 0,I (↑(List.replicate (O (gA D 0+1)).toNat [I 0,I 0,I 0]).length:Int),I 0,I d,I e,I f,jA G 0,jA G 1,jA G 2,jA L 0,jA L 1,jA L 2]).bind λX=>
 cond (X.1.beq 1) (some [.vC kPt (wA X.2 0)]) (none)) (none)) (none)):=by kernel_rfl
def Q4h:=Ak (Qr Cy Nw IX PW)
def TE:=Qgq Cy Nw IX PW Q4h
instance:RI (Qqo TE):=rw2 (Zed Cy Nw IX PW Q4h) (fl fb)
def Za2:=qa 236 Qwz Qwz
def Quu:Fn:=mF Qy3 236 Qwz Qwz
theorem Zvi:Quu [I a,I b,I c]=
 some [I (O (a*16)),I (O (b*16)),I (O (c*16))]:=by kernel_rfl
def Ss:=Quu
instance:RI (Za2 Ss):=rw1 Qy3
def Qw5:Sk:=⟨[tT (cc 13++[sb,ci,sb]++cc 5++[sb]),tT (cc 13++[sb,ci,sb]++cc 5++[sb])],[],[]⟩
def Zm8:Sk:=⟨[TS.tup [(false,[sa kPt]),(false,[sa kPt])]],[],[]⟩
def Qmk:=qa 188 Qw5 Zm8
def Q58 (D G I:Fn):Cfg:=cf [Qqo D,Za2 G,Vu I]
def Qe2 (D G I:Fn):Fn:=mF (Q58 D G I) 188 Qw5 Zm8
theorem Ydy (a3 b7 b9 c5:Bool) (b3 b4 b5 b6 b8 c0 c1 c2 c3 c4:Int):Qe2 G H J [I a,I b,I c,I d,I e,I f,I g,I h,I i,I j,I k,I l,I m,B X,I n,B Y,I o,I p,I q,I r,I s,B a3,I t,I u,I v,I w,I x,I y,I z,I α,I β,I b3,I b4,I b5,I b6,B b7,I b8,B b9,I c0,I c1,I c2,I c3,I c4,B c5]=
 (J [I a,I b,I c,I d,I e,I f,I g,I h,I i,I j,I k,I l,I m,B X,I n,B Y,I o,I p,I q,I r,I s,B a3]).bind λo4=>
 (H [I f,I g,I h]).bind λo5=>
 (J [I t,I u,I v,I w,I x,I y,I z,I α,I β,I b3,I b4,I b5,I b6,B b7,I b8,B b9,I c0,I c1,I c2,I c3,I c4,B c5]).bind λo6=>
 (G [jA o4 0,jA o4 1,jA o4 2,jA o5 0,jA o5 1,jA o5 2,jA o6 0,jA o6 1,jA o6 2,I (O (q*16))]).bind λD=>
 cond (decide (0<=O (O ((O ((↑(wA D 0).length:Int)-1)).tdiv 2)+1))&&decide (O (O ((O ((↑(wA D 0).length:Int)-1)).tdiv 2)+1)<=(↑(wA D 0).length:Int))) (cond (decide (0<=O ((O ((↑(wA D 0).length:Int)-1)).tdiv 2))&&decide (O ((O ((↑(wA D 0).length:Int)-1)).tdiv 2)<=(↑(wA D 0).length:Int))) (some [.vC kPt (List.take (O (O ((O ((↑(wA D 0).length:Int)-1)).tdiv 2)+1)).toNat (wA D 0)), .vC kPt (List.drop (O ((O ((↑(wA D 0).length:Int)-1)).tdiv 2)).toNat (wA D 0))]) (none)) (none):=by kernel_rfl
def WP:=Qe2 TE Ss I6
instance:RI (Qmk WP):=rw1 (Q58 TE Ss I6)
def Q5x:Sk:=⟨[TS.tup [(false,[ci]),(false,[ci]),(false,[ci]),(false,[sb])]],[],[]⟩
def Xq:=qa 179 Qvf Q5x
def Qn5:Fn:=mF Qy3 179 Qvf Q5x
theorem Z78:Qn5 [I a]=
 cond (a==17) (some [I 0,I 1,I 2,B true]) (cond (a==18) (some [I 2,I 0,I 1,B true]) (cond (a==19) (some [I 1,I 2,I 0,B true]) (some [I 0,I 0,I 0,B false]))):=by kernel_rfl
def IF:=Qn5
instance:RI (Xq IF):=rw1 Qy3
def Qof:=qa 234 Qpp Qwz
def Q7c (D:Fn):Cfg:=cf [Xq D]
def Qez (D:Fn):Fn:=mF (Q7c D) 234 Qpp Qwz
abbrev Wy (o1:List AC) (M:Int) (D G L:AC):Option (List AC):=
 cond (decide (gA o1 2=(↑0:Int))) (some [I M,D,G]) (cond (decide (gA o1 2=(↑(0+1):Int))) (some [L,I M,G]) (cond (decide (gA o1 2=(↑(0+1+1):Int))) (some [L,D,I M]) (none)))
abbrev Uh (o1:List AC) (M N:Int) (D G L:AC):Option (List AC):=
 cond (decide (gA o1 1=(↑0:Int))) (Wy o1 M D G (I N)) (cond (decide (gA o1 1=(↑(0+1):Int))) (Wy o1 M (I N) G L) (cond (decide (gA o1 1=(↑(0+1+1):Int))) (Wy o1 M D (I N) L) (none)))
theorem Z26:Qez G [I a,I b,I c,I d]=
 (G [I d]).bind λo1=>
 cond (bA o1 3) (cond (decide (gA o1 0=(↑0:Int))) (Uh o1 c b (I 0) (I 0) (I a)) (cond (decide (gA o1 0=(↑(0+1):Int))) (Uh o1 c b (I a) (I 0) (I 0)) (cond (decide (gA o1 0=(↑(0+1+1):Int))) (Uh o1 c b (I 0) (I a) (I 0)) (none)))) (some [I 0,I 0,I 0]):=by kernel_rfl
def Q6:=Qez IF
instance:RI (Qof Q6):=rw1 (Q7c IF)
def Zav:Sk:=⟨[TS.tup [(false,[ci]),(false,[ci]),(false,[ci])]],[],[]⟩
def UY:=qa 173 Q81 Zav
def Ql9 (D:Fn):Cfg:=cf [Xq D]
def XX (D:Fn):Fn:=mF (Ql9 D) 173 Q81 Zav
abbrev Ui (o1:List AC) (D:AC) (L M N:Int) (G:AC):Option (List AC):=
 cond (decide (gA o1 2=(↑0:Int))) (some [D,G,I L]) (cond (decide (gA o1 2=(↑(0+1):Int))) (some [D,G,I M]) (cond (decide (gA o1 2=(↑(0+1+1):Int))) (some [D,G,I N]) (none)))
abbrev Vg (o1:List AC) (G L M:Int) (D:AC):Option (List AC):=
 cond (decide (gA o1 1=(↑0:Int))) (Ui o1 D G L M (I G)) (cond (decide (gA o1 1=(↑(0+1):Int))) (Ui o1 D G L M (I L)) (cond (decide (gA o1 1=(↑(0+1+1):Int))) (Ui o1 D G L M (I M)) (none)))
theorem Ydw:XX G [I a,I b,I c,I d]=
 (G [I d]).bind λo1=>
 cond (!bA o1 3) (some [I 0,I 0,I 0]) (cond (decide (gA o1 0=(↑0:Int))) (Vg o1 a b c (I a)) (cond (decide (gA o1 0=(↑(0+1):Int))) (Vg o1 a b c (I b)) (cond (decide (gA o1 0=(↑(0+1+1):Int))) (Vg o1 a b c (I c)) (none)))):=by kernel_rfl
def IB:=XX IF
instance:RI (UY IB):=rw1 (Ql9 IF)
def Qio:=qa 231 Qwz Qwz
def Qob:Fn:=mF Qy3 231 Qwz Qwz
theorem Zvn:Qob [I a,I b,I c]=
 some [I (O (a*16)),I (O (b*16)),I (O (c*16))]:=by kernel_rfl
def JD:=Qob
instance:RI (Qio JD):=rw1 Qy3
def Zjs:Sk:=⟨[tT [ci,ci,ci,ci],tT [ci,ci,ci,ci]],[],[]⟩
def Wz:=qa 183 Zjs Qvf
def Qq2:Fn:=mF Qy3 183 Zjs Qvf
theorem Zvr:Qq2 [I a,I b,I c,I d,I e,I f,I g,I h]=
 some [I (O (O (a*f)-O (b*e)))]:=by kernel_rfl
def J0:=Qq2
instance:RI (Wz J0):=rw1 Qy3
def XJ:=qa 181 Zjs Qvf
def Qu0:Fn:=mF Qy3 181 Zjs Qvf
theorem Z4i:Qu0 [I a,I b,I c,I d,I e,I f,I g,I h]=
 some [I (O (O (a*e)+O (b*f)))]:=by kernel_rfl
def JC:=Qu0
instance:RI (XJ JC):=rw1 Qy3
def Zft:Sk:=⟨[tT [ci,ci,ci,ci],tT [ci,ci,ci,ci],tf [ci],tf [sb]],[],[]⟩
def Q2x:Sk:=⟨[TS.tup [(true,[ci,ci,ci,ci]),(false,[sb])]],[],[]⟩
def Zi2:=qa 285 Zft Q2x
def Q8c (D G I:Fn):Cfg:=cf [Qex D,Wz G,XJ I]
def Qc4 (D G I:Fn):Fn:=mF (Q8c D G I) 285 Zft Q2x
abbrev Qbg (X:Fn) (G:AC) (M N:Int) (D L:AC) (Y x7:Int):Option (List AC):=
 (X [G,I ((O (O (M+N)+1)).fdiv (2^min (Int.toNat 1) IntKind.i64.bits)),D,I 2]).bind λU=>
 (X [L,I ((O (O (M+N)+1)).fdiv (2^min (Int.toNat 1) IntKind.i64.bits)),D,I 2]).bind λV=>
 some [jA U 0,jA V 0,I ((O (O (M+N)+1)).fdiv (2^min (Int.toNat 1) IntKind.i64.bits)),I ((O (O (Y+x7)+1)).fdiv (2^min (Int.toNat 1) IntKind.i64.bits)),B true]
abbrev ST (O:Fn) (U V X Y:Int) (M N:Bool) (D G L:AC):Option (List AC):=
 cond (M) (cond (N) (some [I 0,I 0,I 0,I 0,B false]) (Qbg O D U V G L X Y)) (Qbg O D U V G L X Y)
abbrev ZT (x9:Bool) (CD:Fn) (U V X Y D G:Int) (Cq:Fn) (L M N:Int) (C3:Fn):Option (List AC):=
 cond (x9) (ST CD U V X Y (O (0-D)==0) (O (0-G)==0) (I (O (0-D))) (I (O (O (O (0-D)*O (0-D))+O (O (0-G)*O (0-G))))) (I (O (0-G)))) ((Cq [I D,I G,I U,I X,I L,I M,I V,I Y]).bind λa0=>
 cond (decide (gA a0 0<=0)) (ST CD U V X Y (O (N*O (M-G))==0) (O (N*O (D-L))==0) (I (O (N*O (M-G)))) (I (O (O (O (N*O (M-G))*O (N*O (M-G)))+O (O (N*O (D-L))*O (N*O (D-L)))))) (I (O (N*O (D-L))))) ((C3 [I D,I G,I U,I X,I L,I M,I V,I Y]).bind λa1=>
 cond (decide (O (gA a1 0*N)<=0)) (ST CD U V X Y (O (0-O (D+L))==0) (O (0-O (G+M))==0) (I (O (0-O (D+L)))) (I (O (O (O (0-O (D+L))*O (0-O (D+L)))+O (O (0-O (G+M))*O (0-O (G+M)))))) (I (O (0-O (G+M))))) (ST CD U V X Y (O (D+L)==0) (O (G+M)==0) (I (O (D+L))) (I (O (O (O (D+L)*O (D+L))+O (O (G+M)*O (G+M))))) (I (O (G+M))))))
theorem Zw9:Qc4 G H J [I a,I b,I c,I d,I e,I f,I g,I h,I i,B X]=
 cond (i !=1) (cond (i != -1) (some [I 0,I 0,I 0,I 0,B false]) (ZT X G c g d h a b J e f i H)) (ZT X G c g d h a b J e f i H):=by kernel_rfl
def Ov:=Qc4 Ly J0 JC
instance r_curve_Middle:RI (Zi2 Ov):=rw1 (Q8c Ly J0 JC)
def Q38:=qa 295 Qup Zkh
def Q6k:Fn:=mF Qy3 295 Qup Zkh
theorem Z5x:Q6k [I a,I b]=
 some [B (decide (b<=O (O (O (8*a)*4)-64)))]:=by kernel_rfl
def Sj:=Q6k
instance:RI (Q38 Sj):=rw1 Qy3
def Q27:Sk:=⟨[tf [sc 20000 0],tT [ci,ci,ci,ci],tT [ci,ci,ci,ci],tf [sb]],[(20000,304,[ci,sd 20000 4])],[(20000,228,[kI,kI,kI,kI])]⟩
def Qol:Sk:=⟨[tf [sb]],[(20000,304,[ci,sd 20000 4])],[(20000,228,[kI,kI,kI,kI])]⟩
def Qtr:=qa 284 Q27 Qol
def Zmc (D G:Fn):Cfg:=cf [Q38 D,Wz G]
def Qeq (D G:Fn):Fn:=mF (Zmc D G) 284 Q27 Qol
theorem Zq3:Qeq G H [.vC [kI,kI,kI,kI] A,I a,I b,I c,I d,I e,I f,I g,I h,B X,I i]=
 cond (!X) ((H [I a,I b,I c,I d,I e,I f,I g,I h]).bind λo2=>
 cond (decide (O (gA o2 0*i)>0)) ((G [I (mn c g),I (O (O (O (a-e)*O (a-e))+O (O (b-f)*O (b-f))))]).bind λo3=>
 some [.vC [kI,kI,kI,kI] A,B (bA o3 0),I i]) (some [.vC [kI,kI,kI,kI] A,B false,I i])) (some [.vC [kI,kI,kI,kI] A,B false,I i]):=by kernel_rfl
def Nc:=Qeq Sj J0
instance r_curve_cutter_settled:RI (Qtr Nc):=rw1 (Zmc Sj J0)
def Qw7:Nat:=20
def NQ:Sk:=⟨[tf [sc 20000 0],tT [ci,ci,ci,ci],tT [ci,ci,ci,ci],tf [sb],tf [ci]],[(20000,304,[ci,sd 20000 4])],[(20000,228,[kI,kI,kI,kI])]⟩
def Oo:Sk:=⟨[TS.tup []],[(20000,304,[ci,sd 20000 4])],[(20000,228,[kI,kI,kI,kI])]⟩
def Qkc:=qa 260 NQ Oo
def Qis (D PB G:Fn):Cfg:=cp [Qkc D,Zi2 PB,Qtr G] [260,284]
def W0 (D PB G:Fn):Fn:=mF (Qis D PB G) 260 NQ Oo
theorem Qlv:W0 G H J [.vC [kI,kI,kI,kI] A,I a,I b,I c,I d,I e,I f,I g,I h,B X,I i,I j]=
 cond (decide (i<16)) ((J [.vC [kI,kI,kI,kI] A,I a,I b,I c,I d,I e,I f,I g,I h,B X,I j]).bind λo4=>
 cond (!bA o4 1) ((H [I a,I b,I c,I d,I e,I f,I g,I h,jA o4 2,B X]).bind λU=>
 cond (bA U 4) ((G [.vC [kI,kI,kI,kI] (wA o4 0),I a,I b,I c,I d,jA U 0,jA U 1,jA U 2,jA U 3,B false,I (O (i+1)),jA o4 2]).bind λo6=>
 (G [.vC [kI,kI,kI,kI] (wA o6 0),jA U 0,jA U 1,jA U 2,jA U 3,I e,I f,I g,I h,B false,I (O (i+1)),jA o6 1]).bind λo7=>
 some [.vC [kI,kI,kI,kI] (wA o7 0),jA o7 1]) (cond (((wA o4 0++[[I e,I f,I g,I h]]).length*32).ble 140737488355328) (some [.vC [kI,kI,kI,kI] (wA o4 0++[[I e,I f,I g,I h]]),jA o4 2]) (none))) (cond (((wA o4 0++[[I e,I f,I g,I h]]).length*32).ble 140737488355328) (some [.vC [kI,kI,kI,kI] (wA o4 0++[[I e,I f,I g,I h]]),jA o4 2]) (none))) (cond (((A++[[I e,I f,I g,I h]]).length*32).ble 140737488355328) (some [.vC [kI,kI,kI,kI] (A++[[I e,I f,I g,I h]]),I j]) (none)):=by kernel_rfl
def Zmu (M:Fn):Fn:=W0 M Ov Nc
def P2:Nat->Fn
 |0=>λ_=>none
 |n+1=>Zmu (P2 n)
def Z59 {M:Fn} (h:Bx PG (260,Ah NQ Oo M)):AK PG (Qis M Ov Nc):=IA rfl ⟨h,r_curve_Middle.out,r_curve_cutter_settled.out,trivial⟩
def Zq7 {M:Fn} (h:Bx PG (260,Ah NQ Oo M)):Bx PG (260,Ah NQ Oo (Zmu M)):=Qir (C:=Qis M Ov Nc) (L:=64) (by kernel_rfl) (FnOK.bare rfl rfl rfl) (Z59 h) eqOk FX (by kernel_rfl) (by kernel_rfl)
def Zin:∀n,Bx PG (260,Ah NQ Oo (P2 n))
 |0=>Ybs
 |n+1=>Zq7 (Zin n)
def UE:=P2 Qw7
def Z32:Bx PG (Qkc UE):=Zin Qw7
instance:RI (Qkc UE):=⟨Z32⟩
def Q2p:Sk:=⟨[TS.tup [(true,[ci,ci,ci,ci]),(true,[ci,ci,ci,ci])]],[],[]⟩
def Qf9:=qa 180 Q4t Q2p
def Qwv (D G:Fn):Cfg:=cf [UY D,Qio G]
def Q3m:Sk:=⟨[td,tf [sc 1 0],tf [sc 2 0],tf [sc 3 0],tf [sc 4 0],tf [ci],tf [ci]]++dd 20++[tT (cc 6),tf [ci]]++dd 27,[(1,31,cc 13++[sb,ci,sb]++cc 5++[sb]),(2,228,[ci,ci,ci,ci]),(3,228,[ci,ci,ci,ci]),(4,277,cc 8)],[]⟩
def Qzp:List (Ex×Sk):=[(Ex.exit 0,⟨[td,td,tf [sc 2 0],tf [sc 3 0],tf [sc 4 0]]++dd 51,[(2,228,[ci,ci,ci,ci]),(3,228,[ci,ci,ci,ci]),(4,277,cc 8)],[]⟩)]
def Qjs (D G:Fn):Lp:=sL (Qwv D G) 180 4 Q3m Qzp
def Qqv (D G:Fn) (I:Lp):Cfg:=(Qwv D G).loop 4 Q3m Qzp I
def Zt (D G:Fn) (I:Lp):Fn:=mF (Qqv D G I) 180 Q4t Q2p
abbrev Qe3 (B9 BD:Fn) (G v8 v0 v1 v2 v3 v4 v5 v6 v7 v9 v10 v11 v12 L M N U V X v20 v21:Int) (v22:Bool) (Y:Int) (v24:Bool) (v25 a0 v27 v28 a1:Int) (v30:Bool) (v31 a2 v33 a3 v35 v36 v37 v38 a7 v44 a8 v46 a9 v40 b0 v42:Int) (a4 a5 a6:AC):Option (Nat×List AC):=
 (B9 [a4,a5,a6]).bind λo9=>
 (BD [jA o9 0,jA o9 1,jA o9 2,I G]).bind λD=>
 cond (decide (v8=(↑0:Int))) (some (0,[I v0,I v1,I v2,I v3,I v4,I v5,I v6,I v7,I (O (v8+1)),I v9,I v10,I v11,I v12,I L,I M,I N,I U,I G,I V,I X,I v20,I v21,B v22,I Y,B v24,I v25,I a0,I v27,I v28,I a1,B v30,I v31,I a2,I v33,I a3,I v35,I v36,I v37,I v38,I (O (gA D 0-v0)),I (O (gA D 1-v1)),I 0,jA D 2,I a7,I v44,I a8,I v46])) (cond (decide (v8=(↑(0+1):Int))) (some (0,[I v0,I v1,I v2,I v3,I v4,I v5,I v6,I v7,I (O (v8+1)),I v9,I v10,I v11,I v12,I L,I M,I N,I U,I G,I V,I X,I v20,I v21,B v22,I Y,B v24,I v25,I a0,I v27,I v28,I a1,B v30,I v31,I a2,I v33,I a3,I v35,I v36,I v37,I v38,I a9,I v40,I b0,I v42,I (O (gA D 0-v0)),I (O (gA D 1-v1)),I 0,jA D 2])) (none))
theorem Qim (BD B9:Fn) (v0 v1 v2 v3 v4 v5 v6 v7 v8 v9 v10 v11 v12 U V X Y a0 a1 a2 v20 v21:Int) (v22:Bool) (a3:Int) (v24:Bool) (v25 a4 v27 v28 a5:Int) (v30:Bool) (v31 D v33 G v35 v36 v37 v38 L v40 M v42 N v44 O v46:Int):Qjs BD B9 [I v0,I v1,I v2,I v3,I v4,I v5,I v6,I v7,I v8,I v9,I v10,I v11,I v12,I U,I V,I X,I Y,I a0,I a1,I a2,I v20,I v21,B v22,I a3,B v24,I v25,I a4,I v27,I v28,I a5,B v30,I v31,I D,I v33,I G,I v35,I v36,I v37,I v38,I L,I v40,I M,I v42,I N,I v44,I O,I v46]=
 cond (decide (v8<2)) (cond (decide (v8=(↑0:Int))) (Qe3 B9 BD a0 v8 v0 v1 v2 v3 v4 v5 v6 v7 v9 v10 v11 v12 U V X Y a1 a2 v20 v21 v22 a3 v24 v25 a4 v27 v28 a5 v30 v31 D v33 G v35 v36 v37 v38 N v44 O v46 L v40 M v42 (I v2) (I v3) (I v4)) (cond (decide (v8=(↑(0+1):Int))) (Qe3 B9 BD a0 v8 v0 v1 v2 v3 v4 v5 v6 v7 v9 v10 v11 v12 U V X Y a1 a2 v20 v21 v22 a3 v24 v25 a4 v27 v28 a5 v30 v31 D v33 G v35 v36 v37 v38 N v44 O v46 L v40 M v42 (I v5) (I v6) (I v7)) (none))) (some (1,[I v31,I D,I v33,I G,I v35,I v36,I v37,I v38,I L,I v40,I M,I v42,I N,I v44,I O,I v46])):=by kernel_rfl
theorem Z3h (a3:Bool):Zt G H Z [I a,I b,I c,I d,I e,I f,I g,I h,I i,I j,I k,I l,I m,B X,I n,B Y,I o,I p,I q,I r,I s,B a3]=
 (H [I j,I k,I l]).bind λM=>
 (G [jA M 0,jA M 1,jA M 2,I i]).bind λa4=>
 (Z [jA a4 0,jA a4 1,I c,I d,I e,I f,I g,I h,I 0,I a,I b,I c,I d,I e,I f,I g,I h,I i,I j,I k,I l,I m,B X,I n,B Y,I o,I p,I q,I r,I s,B a3,I 0,I 0,I 0,I 0,I 0,I 0,I 0,I 0,I 0,I 0,I 0,I 0,I 0,I 0,I 0,I 0]).bind λD=>
 cond (D.1.beq 1) (some [jA D.2 8,jA D.2 9,jA D.2 10,jA D.2 11,jA D.2 12,jA D.2 13,jA D.2 14,jA D.2 15]) (none):=by kernel_rfl
def Zl9:=Ak (Qjs IB JD)
def P_:=Zt IB JD Zl9
instance:RI (Qf9 P_):=rw2 (Qqv IB JD Zl9) (fl fb)
def Tj:=qa 186 Qpp Qvf
def Zcx (D G I L:Fn):Cfg:=cf [XV D,Sx G,Vj I,Ua L]
def Qiv (D G I L:Fn):Fn:=mF (Zcx D G I L) 186 Qpp Qvf
theorem Zn0:Qiv H J K N [I a,I b,I c,I d]=
 (N [I a,I b]).bind λo9=>
 (N [I c,I d]).bind λG=>
 cond (gA o9 0 !=gA G 0) (cond (decide (gA o9 0<gA G 0)) (some [I (-1)]) (some [I 1])) ((K [I a]).bind λa0=>
 (K [I b]).bind λa1=>
 (J [U (gA a0 0),U (gA a1 0)]).bind λL=>
 (K [I c]).bind λa2=>
 (K [I d]).bind λa3=>
 (J [U (gA a2 0),U (gA a3 0)]).bind λM=>
 (H [U (gA L 0),U (gA L 1),U (gA M 0),U (gA M 1)]).bind λa4=>
 some [I (O (gA o9 0*gA a4 0))]):=by kernel_rfl
def Ir:=Qiv KH GO J_ Jo
instance:RI (Tj Ir):=rw1 (Zcx KH GO J_ Jo)
def Q94:=qa 182 Qup Zkh
def Qs4 (D:Fn):Cfg:=cf [Tj D]
def Zr (D:Fn):Fn:=mF (Qs4 D) 182 Qup Zkh
theorem Zyr:Zr G [I a,I b]=
 cond (decide (O (O (mx a b-mn a b)-16)<=0)) (some [B true]) ((G [I (O (O (mx a b-mn a b)-16)),I (O (O (mx a b-mn a b)-16)),I 64,I (mn a b)]).bind λo1=>
 some [B (decide (gA o1 0<=0))]):=by kernel_rfl
def UK:=Zr Ir
instance:RI (Q94 UK):=rw1 (Qs4 Ir)
def Qvm:=qa 178 Qwz Zkh
def Zmi:Fn:=mF Q1m 178 Qwz Zkh
theorem Zw4:Zmi [I a,I b,I c]=
 cond (decide (a< -1048576)) (some [B false]) (cond (decide (a>1048576)) (some [B false]) (cond (decide (b< -1048576)) (some [B false]) (cond (decide (b>1048576)) (some [B false]) (cond (decide (c< -1048576)) (some [B false]) (cond (decide (c>1048576)) (some [B false]) (some [B true])))))):=by kernel_rfl
def RL:=Zmi
instance:RI (Qvm RL):=rw1 Q1m
def Pw:=qa 132 Q4t Zkh
def Qp2 (D G I L M N:Fn):Cfg:=cf [Wz D,Q94 G,XJ I,Qf9 L,Xq M,Qvm N]
def Qik (D G I L M N:Fn):Fn:=mF (Qp2 D G I L M N) 132 Q4t Zkh
abbrev Qeg (Ie:Fn) (x9 G L:Int) (Fe:Fn) (x0 x1 x2 x3 x4 x5 x6 x7 x8 V:Int) (M:Bool) (X:Int) (Y:Bool) (a0 a1 a2 a3 a4:Int) (a5:Bool) (Cq Kt C3:Fn):Option (List AC):=
 (Ie [I x9,I G,I L]).bind λa6=>
 cond (!bA a6 0) (some [B false]) ((Fe [I x0,I x1,I x2,I x3,I x4,I x5,I x6,I x7,I x8,I x9,I G,I L,I V,B M,I X,B Y,I a0,I a1,I a2,I a3,I a4,B a5]).bind λD=>
 (Cq [jA D 0,jA D 1,jA D 2,jA D 3,jA D 0,jA D 1,jA D 2,jA D 3]).bind λN=>
 (Cq [jA D 4,jA D 5,jA D 6,jA D 7,jA D 4,jA D 5,jA D 6,jA D 7]).bind λU=>
 cond (decide (gA N 0<O (128*128))) (some [B false]) (cond (decide (gA U 0<O (128*128))) (some [B false]) ((Kt [I (O ((gA N 0).tdiv 256)),I (O ((gA U 0).tdiv 256))]).bind λa7=>
 cond (!bA a7 0) (some [B false]) (cond (M) (cond (gA D 0==gA D 4) (some [B (gA D 1==gA D 5)]) (some [B false])) ((C3 [jA D 0,jA D 1,jA D 2,jA D 3,jA D 4,jA D 5,jA D 6,jA D 7]).bind λa8=>
 cond (gA a8 0 !=0) (some [B true]) ((Cq [jA D 0,jA D 1,jA D 2,jA D 3,jA D 4,jA D 5,jA D 6,jA D 7]).bind λa9=>
 some [B (decide (gA a9 0<0))]))))))
theorem Z3t (a1:Bool):Qik G H J K L M [I a,I b,I c,I d,I e,I f,I g,I h,I i,I j,I k,I l,I m,B X,I n,B Y,I o,I p,I q,I r,I s,B a1]=
 cond (decide (a<1)) (some [B false]) (cond (decide (a>6)) (some [B false]) ((M [I c,I d,I e]).bind λa2=>
 cond (!bA a2 0) (some [B false]) ((M [I f,I g,I h]).bind λa3=>
 cond (!bA a3 0) (some [B false]) (cond (a !=3) (some [B true]) ((L [I i]).bind λa4=>
 cond (!bA a4 3) (some [B false]) (cond (m !=1) (cond (m != -1) (some [B false]) (Qeg M j k l K a b c d e f g h i m X n Y o p q r s a1 J H G)) (Qeg M j k l K a b c d e f g h i m X n Y o p q r s a1 J H G))))))):=by kernel_rfl
def Gs:=Qik J0 UK JC P_ IF RL
instance:RI (Pw Gs):=rw1 (Qp2 J0 UK JC P_ IF RL)
def Zcj:Sk:=⟨[TS.tup [(false,[sa [kI,kI,kI,kI]]),(false,[sb])]],[],[]⟩
def Qx6:=qa 233 Q4t Zcj
def Ql0 (D G I L M:Fn):Cfg:={cp [Qkc D,YW G,XJ I,Qf9 L,Pw M] [260]with rowDst:=[39]}
def Qh8 (D G I L M:Fn):Fn:=mF (Ql0 D G I L M) 233 Q4t Zcj
theorem Z7s (a1:Bool):Qh8 G H J K L [I a,I b,I c,I d,I e,I f,I g,I h,I i,I j,I k,I l,I m,B X,I n,B Y,I o,I p,I q,I r,I s,B a1]=
 cond (a !=3) (some [.vC [kI,kI,kI,kI] [],B false]) ((L [I a,I b,I c,I d,I e,I f,I g,I h,I i,I j,I k,I l,I m,B X,I n,B Y,I o,I p,I q,I r,I s,B a1]).bind λo7=>
 cond (!bA o7 0) (some [.vC [kI,kI,kI,kI] [],B false]) ((K [I a,I b,I c,I d,I e,I f,I g,I h,I i,I j,I k,I l,I m,B X,I n,B Y,I o,I p,I q,I r,I s,B a1]).bind λo8=>
 (J [jA o8 0,jA o8 1,jA o8 2,jA o8 3,jA o8 0,jA o8 1,jA o8 2,jA o8 3]).bind λo9=>
 (H [jA o9 0,I 2]).bind λa2=>
 (J [jA o8 4,jA o8 5,jA o8 6,jA o8 7,jA o8 4,jA o8 5,jA o8 6,jA o8 7]).bind λa3=>
 (H [jA a3 0,I 2]).bind λa4=>
 (G [.vC [kI,kI,kI,kI] [[jA o8 0,jA o8 1,jA a2 0,jA o8 3]],jA o8 0,jA o8 1,jA a2 0,jA o8 3,jA o8 4,jA o8 5,jA a4 0,jA o8 7,B X,I 0,I m]).bind λa5=>
 some [.vC [kI,kI,kI,kI] (wA a5 0),B true])):=by kernel_rfl
def SW:=Qh8 UE Me JC P_ Gs
instance:RI (Qx6 SW):=rw1 (Ql0 UE Me JC P_ Gs)
def Q5u:Sk:=⟨[TS.tup [(false,[sa kPt]),(false,[sb])]],[],[]⟩
def Qxr:=qa 187 Q4t Q5u
def Q1j (D G I L M:Fn):Cfg:=cf [Qof D,UY G,Qio I,Qx6 L,Pw M]
def Q0r:Sk:=⟨[td,tf [sc 1 0],td,td,td,td,tf [ci],tf [ci],td,tf [sd 41 3]]++dd 32++[tf [sa [kI,kI,kI,kI]],tf [ci],tf [ci]]++dd 22,[(1,31,cc 13++[sb,ci,sb]++cc 5++[sb])],[(41,42,kPt)]⟩
def Zh2:List (Ex×Sk):=[(Ex.exit 0,⟨dd 9++[tf [sd 41 3]]++dd 57,[],[(41,42,kPt)]⟩)]
def Sp (D G I L M:Fn):Lp:=sL (Q1j D G I L M) 187 9 Q0r Zh2
def Znf (D G I L M:Fn) (N:Lp):Cfg:=(Q1j D G I L M).loop 9 Q0r Zh2 N
def WF (D G I L M:Fn) (N:Lp):Fn:=mF (Znf D G I L M N) 187 Q4t Q5u
theorem Q3j (v27:Bool):Sp G H J K M [.vC kPt A,I a,I b, .vC [kI,kI,kI,kI] C,I c,I d,I e,I f,I g,I h,I i,I j,I k,I l,I m,I n,I o,I p,I q,B X,I r,B Y,I s,I t,I u,I v,I w,B v27]=
 cond (decide (d<c)) (cond (decide (0<=d)&&decide (d<(C.length:Int))) ((G [I (O (a+gA (nth [] C d.toNat) 0)),I (O (b+gA (nth [] C d.toNat) 1)),jA (nth [] C d.toNat) 3,I m]).bind λL=>
 cond (decide (0<=d)&&decide (d<(A.length:Int))) (some (0,[.vC kPt (A.set d.toNat [jA L 0,jA L 1,jA L 2]),I a,I b, .vC [kI,kI,kI,kI] C,I c,I (O (d+1)),I e,I f,I g,I h,I i,I j,I k,I l,I m,I n,I o,I p,I q,B X,I r,B Y,I s,I t,I u,I v,I w,B v27])) (none)) (none)) (some (1,[.vC kPt A])):=by kernel_rfl
theorem Yi (a2:Bool):WF G H J K L Z [I a,I b,I c,I d,I e,I f,I g,I h,I i,I j,I k,I l,I m,B X,I n,B Y,I o,I p,I q,I r,I s,B a2]=
 (L [I a,I b,I c,I d,I e,I f,I g,I h,I i,I j,I k,I l,I m,B X,I n,B Y,I o,I p,I q,I r,I s,B a2]).bind λa8=>
 cond (!bA a8 0) (some [.vC kPt [],B false]) ((K [I a,I b,I c,I d,I e,I f,I g,I h,I i,I j,I k,I l,I m,B X,I n,B Y,I o,I p,I q,I r,I s,B a2]).bind λD=>
 cond (!bA D 1) ((J [I c,I d,I e]).bind λa3=>
 (J [I f,I g,I h]).bind λa4=>
 some [.vC kPt [[jA a3 0,jA a3 1,jA a3 2],[jA a4 0,jA a4 1,jA a4 2]],B true]) ((J [I j,I k,I l]).bind λa5=>
 (H [jA a5 0,jA a5 1,jA a5 2,I i]).bind λa6=>
 cond (decide ((↑(wA D 0).length:Int)=(↑(wA D 0).length:Int))) (cond (decide (0<=(↑(wA D 0).length:Int))&&decide ((↑(wA D 0).length:Int)*(↑24:Int)<=140737488355328)) ((Z [.vC kPt (List.replicate (↑(wA D 0).length:Int).toNat [I 0,I 0,I 0]),jA a6 0,jA a6 1, .vC [kI,kI,kI,kI] (wA D 0),I (↑(wA D 0).length:Int),I 0,I a,I b,I c,I d,I e,I f,I g,I h,I i,I j,I k,I l,I m,B X,I n,B Y,I o,I p,I q,I r,I s,B a2]).bind λa7=>
 cond (a7.1.beq 1) (some [.vC kPt (wA a7.2 0),B true]) (none)) (none)) (none))):=by kernel_rfl
def Zlz:=Ak (Sp Q6 IB JD SW Gs)
def Uc:=WF Q6 IB JD SW Gs Zlz
instance:RI (Qxr Uc):=rw2 (Znf Q6 IB JD SW Gs Zlz) (fl fb)
def Zgd:Sk:=⟨[tf [sa Ae],tf [ci],tf [ci]],[],[]⟩
def Qqt:=qa 141 Zgd Qw2
def Qyb (D G I L M N:Fn):Cfg:=cf [Vu D,WW G,Qdb I,Qmk L,Tg M,Qxr N]
def YB (D G I L M N:Fn):Fn:=mF (Qyb D G I L M N) 141 Zgd Qw2
theorem Zu0:YB G H J K P Q [.vC Ae A,I a,I b]=
 cond (decide (0<=a)&&decide (a<(A.length:Int))) ((Q (AX Ae (nth [] A a.toNat))).bind λD=>
 (P (AX Ae (nth [] A a.toNat))).bind λa3=>
 cond (!bA a3 0) (some [.vC kPt (wA D 0)]) (cond (decide (0<=1)&&decide (1<=(↑(wA D 0).length:Int))) (cond (decide (0<=O ((↑(wA D 0).length:Int)-1))&&decide (O ((↑(wA D 0).length:Int)-1)<=(↑(wA D 0).length:Int))) (cond (decide (b>=0)) (cond (decide (0<=b)&&decide (b<(A.length:Int))) ((K (AX Ae (nth [] A b.toNat)++AX Ae (nth [] A a.toNat))).bind λV=>
 (J [.vC Ae A,I a]).bind λa4=>
 cond (bA a4 0) ((H [.vC Ae A,I a]).bind λY=>
 cond (decide (0<=gA Y 0)&&decide (gA Y 0<(A.length:Int))) ((K (AX Ae (nth [] A a.toNat)++AX Ae (nth [] A (gA Y 0).toNat))).bind λa1=>
 cond ((([]++wA V 1).length*24).ble 140737488355328) ((G (AX Ae (nth [] A a.toNat))).bind λL=>
 cond ((([]++wA V 1++[[jA L 0,jA L 1,jA L 2]]).length*24).ble 140737488355328) (cond ((([]++wA V 1++[[jA L 0,jA L 1,jA L 2]]++wA a1 0).length*24).ble 140737488355328) (some [.vC kPt ([]++wA V 1++[[jA L 0,jA L 1,jA L 2]]++wA a1 0)]) (none)) (none)) (none)) (none)) (cond ((([]++wA V 1).length*24).ble 140737488355328) ((G (AX Ae (nth [] A a.toNat))).bind λM=>
 cond ((([]++wA V 1++[[jA M 0,jA M 1,jA M 2]]).length*24).ble 140737488355328) (cond ((([]++wA V 1++[[jA M 0,jA M 1,jA M 2]]++List.drop (O ((↑(wA D 0).length:Int)-1)).toNat (wA D 0)).length*24).ble 140737488355328) (some [.vC kPt ([]++wA V 1++[[jA M 0,jA M 1,jA M 2]]++List.drop (O ((↑(wA D 0).length:Int)-1)).toNat (wA D 0))]) (none)) (none)) (none))) (none)) ((J [.vC Ae A,I a]).bind λa5=>
 cond (bA a5 0) ((H [.vC Ae A,I a]).bind λa0=>
 cond (decide (0<=gA a0 0)&&decide (gA a0 0<(A.length:Int))) ((K (AX Ae (nth [] A a.toNat)++AX Ae (nth [] A (gA a0 0).toNat))).bind λa2=>
 cond ((([]++List.take (Int.toNat 1) (wA D 0)).length*24).ble 140737488355328) ((G (AX Ae (nth [] A a.toNat))).bind λN=>
 cond ((([]++List.take (Int.toNat 1) (wA D 0)++[[jA N 0,jA N 1,jA N 2]]).length*24).ble 140737488355328) (cond ((([]++List.take (Int.toNat 1) (wA D 0)++[[jA N 0,jA N 1,jA N 2]]++wA a2 0).length*24).ble 140737488355328) (some [.vC kPt ([]++List.take (Int.toNat 1) (wA D 0)++[[jA N 0,jA N 1,jA N 2]]++wA a2 0)]) (none)) (none)) (none)) (none)) (cond ((([]++List.take (Int.toNat 1) (wA D 0)).length*24).ble 140737488355328) ((G (AX Ae (nth [] A a.toNat))).bind λU=>
 cond ((([]++List.take (Int.toNat 1) (wA D 0)++[[jA U 0,jA U 1,jA U 2]]).length*24).ble 140737488355328) (cond ((([]++List.take (Int.toNat 1) (wA D 0)++[[jA U 0,jA U 1,jA U 2]]++List.drop (O ((↑(wA D 0).length:Int)-1)).toNat (wA D 0)).length*24).ble 140737488355328) (some [.vC kPt ([]++List.take (Int.toNat 1) (wA D 0)++[[jA U 0,jA U 1,jA U 2]]++List.drop (O ((↑(wA D 0).length:Int)-1)).toNat (wA D 0))]) (none)) (none)) (none)))) (none)) (none))) (none):=by kernel_rfl
def Rd:=YB I6 Hv Ji WP GP Uc
instance:RI (Qqt Rd):=rw1 (Qyb I6 Hv Ji WP GP Uc)
def Q3r:Sk:=⟨[tT (cc 13++[sb,ci,sb]++cc 5++[sb]),tf [ci]],[],[]⟩
def Que:=qa 139 Q3r Qvf
def Qv2 (D:Fn):Cfg:=cf [LQ D]
def Yd (D:Fn):Fn:=mF (Qv2 D) 139 Q3r Qvf
theorem Qwu (AW:Fn) (x0 x1 x2 x3 x4 x5 x6 x7 x8 x9 M N U:Int) (V:Bool) (D:Int) (G:Bool) (X Y a0 a1 a2:Int) (a3:Bool) (L:Int):Yd AW [I x0,I x1,I x2,I x3,I x4,I x5,I x6,I x7,I x8,I x9,I M,I N,I U,B V,I D,B G,I X,I Y,I a0,I a1,I a2,B a3,I L]=
 cond (x0==1) (some [I 0]) (cond (G) ((AW [I (mn (O (D*mx L 1)) 60000000),I 4096,I 60000,I 2]).bind λo2=>
 some [I (mx (gA o2 0) 1)]) ((AW [I (mn D 60000000),I 4096,I 60000,I 2]).bind λo3=>
 some [I (mx (gA o3 0) 1)])):=by kernel_rfl
def L_:=Yd Cy
instance:RI (Que L_):=rw1 (Qv2 Cy)
def Zcp:Sk:=⟨[tf [sc 20000 0],tf [sa Ae],tf [ci],tf [ci]],[(20000,102,[ci,ci,ci,sd 20000 7,sd 20001 3,sb,ci,ci,ci])],[(20000,111,Ai),(20001,130,kPt)]⟩
def Q2d:Sk:=⟨[tf [sb]],[(20000,102,[ci,ci,ci,sd 20000 7,sd 20001 3,sb,ci,ci,ci])],[(20000,111,Ai),(20001,130,kPt)]⟩
def Zjl:=qa 91 Zcp Q2d
def Qym (D G I L M N:Fn):Cfg:=cp [Vu D,Tg G,Zja I,Qqt L,Zd M,Que N] [142]
def Zdv:Sk:=⟨[tf [sc 20000 0]]++dd 8++[tf [sc 9 0],tf [sc 10 0]]++dd 24++[tf [sa kPt],tf [ci],tf [ci]]++dd 30,[(9,31,cc 13++[sb,ci,sb]++cc 5++[sb]),(10,111,cc 7),(20000,102,[ci,ci,ci,sd 20000 7,sd 20001 3,sb,ci,ci,ci])],[(20000,111,Ai),(20001,130,kPt)]⟩
def Q0y:List (Ex×Sk):=[(Ex.exit 0,⟨[tf [sc 20000 0]]++dd 67,[(20000,102,[ci,ci,ci,sd 20000 7,sd 20001 3,sb,ci,ci,ci])],[(20000,111,Ai),(20001,130,kPt)]⟩)]
def NZ (D G I L M N:Fn):Lp:=sL (Qym D G I L M N) 91 6 Zdv Q0y
def Qqa (D G I L M N:Fn) (O:Lp):Cfg:=(Qym D G I L M N).loop 6 Zdv Q0y O
def Qgx (D G I L M N:Fn) (O:Lp):Fn:=mF (Qqa D G I L M N O) 91 Zcp Q2d
theorem Zm7 (a1 v37:Bool) (a4 v35 v36 v38 a5 v40:Int):NZ G H J K L M [.vC Ai A, .vC kPt C, .vC kPt E,I a,I b,I c,I d,I e,I f,I g,I h,I i,I j,I k,I l,I m,I n,I o,B X,I p,B Y,I q,I r,I s,I t,I u,B a1,I v,I w,I x,I y,I z,I α,I β,I a4,I v35,I v36,B v37,I v38,I a5,I v40]=
 cond (decide (b<a)) (cond (decide (0<=b)&&decide (b<(E.length:Int))) ((J [.vC Ai A, .vC kPt C,jA (nth [] E b.toNat) 0,jA (nth [] E b.toNat) 1,jA (nth [] E b.toNat) 2,I v,I w,I x,I y,I z,I α,I β,I a4,I v35,I v36,B v37,I v38,I a5,I v40]).bind λD=>
 (H [I c,I d,I e,I f,I g,I h,I i,I j,I k,I l,I m,I n,I o,B X,I p,B Y,I q,I r,I s,I t,I u,B a1]).bind λa7=>
 cond (bA a7 0) ((G [I c,I d,I e,I f,I g,I h,I i,I j,I k,I l,I m,I n,I o,B X,I p,B Y,I q,I r,I s,I t,I u,B a1]).bind λa6=>
 cond (gA (nth [] E b.toNat) 0==gA a6 0&&(gA (nth [] E b.toNat) 1==gA a6 1&&(gA (nth [] E b.toNat) 2==gA a6 2&&true))) (some (0,[.vC Ai (wA D 0), .vC kPt (wA D 1), .vC kPt E,I a,I (O (b+1)),I c,I d,I e,I f,I g,I h,I i,I j,I k,I l,I m,I n,I o,B X,I p,B Y,I q,I r,I s,I t,I u,B a1,I v,I w,I x,I y,I z,I α,I β,jA D 2,jA D 3,jA D 4,B (bA D 5),jA D 6,jA D 7,jA D 6])) (some (0,[.vC Ai (wA D 0), .vC kPt (wA D 1), .vC kPt E,I a,I (O (b+1)),I c,I d,I e,I f,I g,I h,I i,I j,I k,I l,I m,I n,I o,B X,I p,B Y,I q,I r,I s,I t,I u,B a1,I v,I w,I x,I y,I z,I α,I β,jA D 2,jA D 3,jA D 4,B (bA D 5),jA D 6,jA D 7,jA D 8]))) (some (0,[.vC Ai (wA D 0), .vC kPt (wA D 1), .vC kPt E,I a,I (O (b+1)),I c,I d,I e,I f,I g,I h,I i,I j,I k,I l,I m,I n,I o,B X,I p,B Y,I q,I r,I s,I t,I u,B a1,I v,I w,I x,I y,I z,I α,I β,jA D 2,jA D 3,jA D 4,B (bA D 5),jA D 6,jA D 7,jA D 8]))) (none)) (some (1,[.vC Ai A, .vC kPt C,I a4,I v35,I v36,B v37,I v38,I a5,I v40])):=by kernel_rfl
abbrev Qcs (X:Fn) (V:Rw) (M Y:Int) (N6:Lp) (x0 x1:Rw) (N:List AC) (x5 x6 x7:Int) (x8:Bool) (x9 O U:Int) (G:AC):Option (List AC):=
 (X [.vC Ae V,I M,I Y]).bind λL=>
 (N6 (.vC Ai x0:: .vC kPt x1:: .vC kPt (wA L 0)::I (↑(wA L 0).length:Int)::I 0::(AX Ae (nth [] V M.toNat)++[I 0,I 0,I 0,I 0,I M,jA N 0,G,I x5,I x6,I x7,B x8,I x9,I O,I U]))).bind λD=>
 cond (D.1.beq 1) (some [.vC Ai (wA D.2 0), .vC kPt (wA D.2 1),B (decide ((↑(wA D.2 0).length:Int)<=1048576)),jA D.2 2,jA D.2 3,jA D.2 4,B (bA D.2 5),jA D.2 6,jA D.2 7,jA D.2 8]) (none)
theorem Yer:Qgx G H J K L M Z [.vC Ai A, .vC kPt C, .vC Ae E,I a,I b,I c,I d,I e,B X,I f,I g,I h]=
 cond (decide (0<=a)&&decide (a<(E.length:Int))) ((M (AX Ae (nth [] E a.toNat)++[I g])).bind λN=>
 (L (AX Ae (nth [] E a.toNat))).bind λa0=>
 cond (bA a0 0) (Qcs K E a b Z A C N c d e X f g h (I (mn (O (gA (nth [] E a.toNat) 14*16)) 16777216))) (Qcs K E a b Z A C N c d e X f g h (I 0))) (none):=by kernel_rfl
def Qpn:=Ak (NZ I6 GP Tw Rd JT L_)
def Nk:=Qgx I6 GP Tw Rd JT L_ Qpn
instance:RI (Zjl Nk):=rw2 (Qqa I6 GP Tw Rd JT L_ Qpn) (fl fb)
def Zbf:=qa 87 Q4t Qvf
def Qmi (D A2:Fn):Cfg:=cf [Pw D,SS A2]
def Qe7 (D A2:Fn):Fn:=mF (Qmi D A2) 87 Q4t Qvf
abbrev Mx (L D G:Int):Option (List AC):=
 cond (L==8) (cond (decide (D<3)) (some [I 1]) (cond (decide (D>5)) (some [I 1]) (cond (decide (G<0)) (some [I 1]) (cond (decide (G>30000)) (some [I 1]) (some [I 0]))))) (some [I 0])
theorem Zxt (a2:Bool):Qe7 G H [I a,I b,I c,I d,I e,I f,I g,I h,I i,I j,I k,I l,I m,B X,I n,B Y,I o,I p,I q,I r,I s,B a2]=
 cond (decide (a<1)) (some [I 1]) (cond (decide (a>14)) (some [I 1]) ((H [I a]).bind λo4=>
 cond (bA o4 0) ((G [I a,I b,I c,I d,I e,I f,I g,I h,I i,I j,I k,I l,I m,B X,I n,B Y,I o,I p,I q,I r,I s,B a2]).bind λo5=>
 cond (!bA o5 0) (some [I 1]) (cond (decide (q<0)) (some [I 1]) (cond (decide (q>1000)) (some [I 1]) ((H [I a]).bind λo6=>
 cond (bA o6 0) (cond (a !=1) (cond (decide (n<1)) (some [I 1]) (cond (decide (n>60000000)) (some [I 1]) (Mx a r s))) (Mx a r s)) (Mx a r s))))) ((H [I a]).bind λo7=>
 cond (bA o7 0) (cond (a !=1) (cond (decide (n<1)) (some [I 1]) (cond (decide (n>60000000)) (some [I 1]) (Mx a r s))) (Mx a r s)) (Mx a r s)))):=by kernel_rfl
def Lf:=Qe7 Gs Fa
instance:RI (Zbf Lf):=rw1 (Qmi Gs Fa)
def Zkm:Sk:=⟨[tf [sa Ae]],[],[]⟩
def Zfl:Sk:=⟨[TS.tup [(false,[sc 13 0]),(false,[ci])]],[(13,102,[ci,ci,ci,sd 1013003 7,sd 1013004 3,sb,ci,ci,ci])],[(1013003,111,Ai),(1013004,130,kPt)]⟩
def YD:=qa 46 Zkm Zfl
def Qzk (Cm D G I A2 L:Fn):Cfg:=cp [Qn1 Cm,Zjl D,WW G,Qdb I,SS A2,Zbf L] [92,91]
def Zdx:Sk:=⟨[tf [sa Ae],td,td,td,tf [sc 13 0],tf [ci]]++dd 12++[tf [sa Ae],tf [ci],tf [ci]]++dd 87,[(13,102,[ci,ci,ci,sd 1013003 7,sd 1013004 3,sb,ci,ci,ci])],[(1013003,111,Ai),(1013004,130,kPt)]⟩
def Qnf:List (Ex×Sk):=[(Ex.ret,⟨[td,td,tf [sc 13 0],tf [ci]]++dd 104,[(13,102,[ci,ci,ci,sd 1013003 7,sd 1013004 3,sb,ci,ci,ci])],[(1013003,111,Ai),(1013004,130,kPt)]⟩),(Ex.exit 0,⟨[tf [sa Ae],td,td,td,tf [sc 13 0]]++dd 103,[(13,102,[ci,ci,ci,sd 1013003 7,sd 1013004 3,sb,ci,ci,ci])],[(1013003,111,Ai),(1013004,130,kPt)]⟩)]
def RN (Cm D G I A2 L:Fn):Lp:=sL (Qzk Cm D G I A2 L) 46 6 Zdx Qnf
def Qzi (Cm D G I A2 L:Fn) (M:Lp):Cfg:=(Qzk Cm D G I A2 L).loop 6 Zdx Qnf M
def Zj4:Sk:=⟨[tf [sa Ae],td,td,td,tf [sc 13 0],tf [ci]]++dd 44++[tf [sa Ae],tf [ci],tf [ci]]++dd 55,[(13,102,[ci,ci,ci,sd 1013003 7,sd 1013004 3,sb,ci,ci,ci])],[(1013003,111,Ai),(1013004,130,kPt)]⟩
def Zln:List (Ex×Sk):=[(Ex.ret,⟨[td,td,tf [sc 13 0],tf [ci]]++dd 104,[(13,102,[ci,ci,ci,sd 1013003 7,sd 1013004 3,sb,ci,ci,ci])],[(1013003,111,Ai),(1013004,130,kPt)]⟩),(Ex.exit 2,⟨[td,td,td,td,tf [sc 13 0]]++dd 103,[(13,102,[ci,ci,ci,sd 1013003 7,sd 1013004 3,sb,ci,ci,ci])],[(1013003,111,Ai),(1013004,130,kPt)]⟩)]
def Rn (Cm D G I A2 L:Fn) (M:Lp):Lp:=sL (Qzi Cm D G I A2 L M) 46 18 Zj4 Zln
def Q9u (Cm G I L A2 M:Fn) (N D:Lp):Cfg:=(Qzi Cm G I L A2 M N).loop 18 Zj4 Zln D
def Qgc (Cm G I L A2 M:Fn) (N D:Lp):Fn:=mF (Q9u Cm G I L A2 M N D) 46 Zkm Zfl
theorem Q9l:RN G H J K L M [.vC Ai A, .vC kPt C, .vC Ae E,I a, .vC Ae F,I b,I c,I d,I e,I f,B X,I g,I h,I i]=
 cond (decide (c<b)) (cond (decide (0<=c)&&decide (c<(F.length:Int))) ((M (AX Ae (nth [] F c.toNat))).bind λa0=>
 cond (gA a0 0 !=0) (some (1,[.vC Ai A, .vC kPt C,jA a0 0,I d,I e,I f,B X,I g,I h,I i])) ((L [jA (nth [] F c.toNat) 0]).bind λa1=>
 cond (!bA a1 0) (some (0,[.vC Ai A, .vC kPt C, .vC Ae E,I a, .vC Ae F,I b,I (O (c+1)),I d,I e,I f,B X,I g,I h,I i])) (cond (decide (a>=0)) (cond (decide (0<=a)&&decide (a<(E.length:Int))) (cond (!(gA (nth [] E a.toNat) 5==gA (nth [] F c.toNat) 2&&(gA (nth [] E a.toNat) 6==gA (nth [] F c.toNat) 3&&(gA (nth [] E a.toNat) 7==gA (nth [] F c.toNat) 4&&true)))) (some (1,[.vC Ai A, .vC kPt C,I 13,I d,I e,I f,B X,I g,I h,I i])) (some (0,[.vC Ai A, .vC kPt C, .vC Ae E,I c, .vC Ae F,I b,I (O (c+1)),I d,I e,I f,B X,I g,I h,I i]))) (none)) (some (0,[.vC Ai A, .vC kPt C, .vC Ae E,I c, .vC Ae F,I b,I (O (c+1)),I d,I e,I f,B X,I g,I h,I i]))))) (none)) (some (2,[.vC Ai A, .vC kPt C, .vC Ae E,I d,I e,I f,B X,I g,I h,I i])):=by kernel_rfl
abbrev SO (X:Fn) (Y v1 U:Rw) (N v7 v8 v9:Int) (v10:Bool) (v11:Int) (L:AC) (V:Int) (Cm:Fn) (v4:Rw) (v5:Int) (M:AC):Option (Nat×List AC):=
 (X [.vC Ai Y, .vC kPt v1, .vC Ae U,I N,M,I v7,I v8,I v9,B v10,I v11,L,I V]).bind λD=>
 cond (!bA D 2) (some (1,[.vC Ai (wA D 0), .vC kPt (wA D 1),I 10,jA D 3,jA D 4,jA D 5,B (bA D 6),jA D 7,jA D 8,jA D 9])) ((Cm [.vC Ai (wA D 0), .vC kPt (wA D 1), .vC Ae U,I N,jA D 3,jA D 4,jA D 5,B (bA D 6),jA D 7,jA D 8,jA D 9]).bind λG=>
 some (0,[.vC Ai (wA G 0), .vC kPt (wA G 1), .vC Ae U,I N, .vC Ae v4,I v5,I (O (N+1)),jA G 2,jA G 3,jA G 4,B (bA G 5),jA G 6,jA G 7,jA G 8]))
abbrev Rq (A2:Fn) (U:Rw) (M V:Int) (Cc:Fn) (N:Rw) (Cw:Fn) (X Y:Rw) (v7 v8 v9:Int) (v10:Bool) (v11 L:Int) (Cm:Fn) (v5:Int) (BJ:Fn) (G:AC):Option (Nat×List AC):=
 (A2 [jA (nth [] U M.toNat) 0]).bind λa0=>
 cond (bA a0 0) (cond (decide (V>=0)) ((Cc [.vC Ae N,I V]).bind λa1=>
 cond (!bA a1 0) (SO Cw X Y N M v7 v8 v9 v10 v11 G L Cm U v5 (I (-1))) ((BJ [.vC Ae N,I V]).bind λa2=>
 cond (gA a2 0 !=M) (SO Cw X Y N M v7 v8 v9 v10 v11 G L Cm U v5 (I (-1))) (SO Cw X Y N M v7 v8 v9 v10 v11 G L Cm U v5 (I V)))) (SO Cw X Y N M v7 v8 v9 v10 v11 G L Cm U v5 (I V))) ((Cm [.vC Ai X, .vC kPt Y, .vC Ae N,I M,I v7,I v8,I v9,B v10,I v11,G,I L]).bind λD=>
 some (0,[.vC Ai (wA D 0), .vC kPt (wA D 1), .vC Ae N,I V, .vC Ae U,I v5,I (O (M+1)),jA D 2,jA D 3,jA D 4,B (bA D 5),jA D 6,jA D 7,jA D 8]))
theorem Zfw:Rn G H J K L M Z [.vC Ai A, .vC kPt C, .vC Ae E,I a, .vC Ae F,I b,I c,I d,I e,I f,B X,I g,I h,I i]=
 cond (decide (c<b)) (cond (decide (0<=c)&&decide (c<(F.length:Int))) (cond (gA (nth [] F c.toNat) 0==8) (cond (gA (nth [] F c.toNat) 19==3) (Rq L F c a K E H A C d e f X g i G b J (jA (nth [] F c.toNat) 20)) (cond (gA (nth [] F c.toNat) 19==4) (Rq L F c a K E H A C d e f X g i G b J (jA (nth [] F c.toNat) 20)) (Rq L F c a K E H A C d e f X g i G b J (I h)))) (Rq L F c a K E H A C d e f X g i G b J (I h))) (none)) (some (2,[.vC Ai A, .vC kPt C,I d,I e,I f,B X,I g,I h,I i])):=by kernel_rfl
theorem Zzv (Cm O U V A2 X:Fn) (N L:Lp) (M:Rw):Qgc Cm O U V A2 X N L [.vC Ae M]=
 cond (decide ((M.length:Int)>20000)) (some [.vC Ai [], .vC kPt [],I 10,I 0,I 0,I 0,B false,I 0,I 0,I 0]) ((N [.vC Ai [], .vC kPt [], .vC Ae M,I (-1), .vC Ae M,I (M.length:Int),I 0,I 0,I 0,I 0,B false,I 0,I 0,I 0]).bind λD=>
 cond (D.1.beq 1) (some [.vC Ai (wA D.2 0), .vC kPt (wA D.2 1),jA D.2 2,jA D.2 3,jA D.2 4,jA D.2 5,B (bA D.2 6),jA D.2 7,jA D.2 8,jA D.2 9]) (cond (D.1.beq 2) ((L [.vC Ai (wA D.2 0), .vC kPt (wA D.2 1), .vC Ae (wA D.2 2),I (-1), .vC Ae (wA D.2 2),I (↑(wA D.2 2).length:Int),I 0,jA D.2 3,jA D.2 4,jA D.2 5,B (bA D.2 6),jA D.2 7,jA D.2 8,jA D.2 9]).bind λG=>
 cond (G.1.beq 1) (some [.vC Ai (wA G.2 0), .vC kPt (wA G.2 1),jA G.2 2,jA G.2 3,jA G.2 4,jA G.2 5,B (bA G.2 6),jA G.2 7,jA G.2 8,jA G.2 9]) (cond (G.1.beq 2) (some [.vC Ai (wA G.2 0), .vC kPt (wA G.2 1),I 0,jA G.2 2,jA G.2 3,jA G.2 4,B (bA G.2 5),jA G.2 6,jA G.2 7,jA G.2 8]) (none))) (none))):=by kernel_rfl
def SL:=Ak (RN K5 Nk Hv Ji Fa Lf)
def Zmy:=Ak (Rn K5 Nk Hv Ji Fa Lf SL)
def Mk:=Qgc K5 Nk Hv Ji Fa Lf SL Zmy
instance:RI (YD Mk):=rw2 (Q9u K5 Nk Hv Ji Fa Lf SL Zmy) (fl (fl fb))
def Qt2:=qa 149 Zkm Qvf
def Q1a (D G:Fn):Cfg:=cp [Tg D,YD G] [46]
def Zml:Sk:=⟨[tf [sa Ae],td,td,tf [sc 100800 0],td,tf [ci]]++dd 47,[(100800,102,[ci,ci,ci,sd 100800 7,sd 100801 3,sb,ci,ci,ci])],[(100800,111,Ai),(100801,130,kPt)]⟩
def Qv6:List (Ex×Sk):=[(Ex.ret,⟨[td,td,tf [ci]]++dd 50,[],[]⟩),(Ex.exit 0,⟨[td,td,td,tf [sc 100800 0]]++dd 49,[(100800,102,[ci,ci,ci,sd 100800 7,sd 100801 3,sb,ci,ci,ci])],[(100800,111,Ai),(100801,130,kPt)]⟩)]
def Ty (D G:Fn):Lp:=sL (Q1a D G) 149 5 Zml Qv6
def Ze7 (D G:Fn) (I:Lp):Cfg:=(Q1a D G).loop 5 Zml Qv6 I
def Qgg (D G:Fn) (I:Lp):Fn:=mF (Ze7 D G I) 149 Zkm Qvf
theorem Z9d:Ty G H [.vC Ai A, .vC kPt C, .vC Ae E,I a,I b,I c,I d,B X,I e,I f,I g]=
 cond (decide (a>=0)) (cond (decide (0<=a)&&decide (a<(E.length:Int))) (cond (gA (nth [] E a.toNat) 0==10) (some (0,[.vC Ai A, .vC kPt C, .vC Ae E,I (O (a-1)),I b,I c,I d,B X,I e,I f,I g])) (cond (decide (0<=a)&&decide (a<(E.length:Int))) ((G (AX Ae (nth [] E a.toNat))).bind λo4=>
 cond (bA o4 0) (cond (decide (0<=a)&&decide (a<(E.length:Int))) (cond (gA (nth [] E a.toNat) 18 !=0) (some (1,[I g])) (some (1,[I e]))) (none)) (some (1,[I e]))) (none))) (none)) (some (2,[.vC Ai A, .vC kPt C,I b,I c,I d,B X,I e,I f,I g])):=by kernel_rfl
theorem Zg0:Qgg G H Z [.vC Ae A]=
 (H [.vC Ae A]).bind λD=>
 cond (gA D 2 !=0) (some [I 0]) ((Z [.vC Ai (wA D 0), .vC kPt (wA D 1), .vC Ae A,I (O ((A.length:Int)-1)),jA D 3,jA D 4,jA D 5,B (bA D 6),jA D 7,jA D 8,jA D 9]).bind λo6=>
 cond (o6.1.beq 1) (some [jA o6.2 0]) (cond (o6.1.beq 2) (some [jA o6.2 6]) (none))):=by kernel_rfl
def Zi3:=Ak (Ty GP Mk)
def RA:=Qgg GP Mk Zi3
instance:RI (Qt2 RA):=rw2 (Ze7 GP Mk Zi3) (fl fb)
def Q63:Sk:=⟨[tf [ci],tf [ci],tf [ci]],[],[]⟩
def WC:=qa 190 Q63 Zkh
def Qbi:Fn:=mF Qy3 190 Q63 Zkh
theorem Zo5:Qbi [I a,I b,I c]=
 cond (decide (b<=a)) (some [B (decide (a<=c))]) (some [B false]):=by kernel_rfl
def JX:=Qbi
instance:RI (WC JX):=rw1 Qy3
def Zjc:=qa 192 Qws Zkh
def Qmo (D:Fn):Cfg:=cf [WC D]
def Qfv (D:Fn):Fn:=mF (Qmo D) 192 Qws Zkh
def Zr0 (G:Fn) (N O U V L M X Y x8:Int) (x9:Rw) (D:Int):Qfv G [I N,I O,I U,I V,I L,I M,I X,I Y,I x8, .vC Aa x9,I D]=
 (G [I D,I L,I M]).bind λo1=>
 some [B (bA o1 0)]:=by kernel_rfl
def PN:=Qfv JX
instance:RI (Zjc PN):=rw1 (Qmo JX)
def Q9j:Sk:=⟨[tT cX,tT [ci,ci,ci,sa Ai,sa kPt]],[],[]⟩
def Qnw:=qa 148 Q9j Zkh
def Zk7 (D:Fn):Cfg:={cf [Zjc D]with rowDst:=[13],unroll:=[11]}
def Q3b:Sk:=⟨[td,td,tf [sc 2 0],td,td,tf [sd 13 3]]++dd 9++[tf [sa Ai],tf [ci],tf [ci]]++dd 28,[(2,34,cX)],[(13,42,kPt)]⟩
def Zbe:List (Ex×Sk):=[(Ex.exit 0,⟨[td,td,tf [sc 2 0],td,td,tf [sd 13 3]]++dd 40,[(2,34,cX)],[(13,42,kPt)]⟩)]
def Qai (D:Fn):Lp:=sL (Zk7 D) 148 3 Q3b Zbe
def Qvz (D:Fn) (G:Lp):Cfg:=(Zk7 D).loop 3 Q3b Zbe G
def Ze5:Sk:=⟨[td,td,tf [sc 2 0]]++dd 24++[tf [sd 13 3],tf [ci],tf [ci]]++dd 16,[(2,34,cX)],[(13,42,kPt)]⟩
def Q53:List (Ex×Sk):=[(Ex.ret,⟨[td,td,td,td,tf [sb]]++dd 41,[],[]⟩),(Ex.exit 2,⟨[td]++dd 45,[],[]⟩)]
def Qhz (D:Fn) (G:Lp):Lp:=sL (Qvz D G) 148 8 Ze5 Q53
def Zef (D:Fn) (G I:Lp):Cfg:=(Qvz D G).loop 8 Ze5 Q53 I
def Z5 (D:Fn) (G I:Lp):Fn:=mF (Zef D G I) 148 Q9j Zkh
def Z10 (Ee:Fn) (v0 G:Rw) (v2 D v4 v5 v6 v7 v8 v9 v10 v11 v12:Int) (L:Rw) (M N U V X Y v20 v21 v22:Int) (a0:Rw) (v24 v25 a1 v27 v28 a2 v30 v31 a3:Int) (v33:Rw):Qai Ee [.vC kPt v0, .vC Ai G,I v2,I D,I v4,I v5,I v6,I v7,I v8,I v9,I v10,I v11,I v12, .vC Aa L,I M,I N,I U,I V,I X,I Y,I v20,I v21,I v22, .vC Aa a0,I v24,I v25,I a1,I v27,I v28,I a2,I v30,I v31,I a3, .vC Aa v33]=
 cond (decide (D<v2)) (cond (decide (0<=D)&&decide (D<(G.length:Int))) (cond (((v0++[[jA (nth [] G D.toNat) 0,jA (nth [] G D.toNat) 1,jA (nth [] G D.toNat) 2]]).length*24).ble 140737488355328) (some (0,[.vC kPt (v0++[[jA (nth [] G D.toNat) 0,jA (nth [] G D.toNat) 1,jA (nth [] G D.toNat) 2]]), .vC Ai G,I v2,I (O (D+1)),I v4,I v5,I v6,I v7,I v8,I v9,I v10,I v11,I v12, .vC Aa L,I M,I N,I U,I V,I X,I Y,I v20,I v21,I v22, .vC Aa a0,I v24,I v25,I a1,I v27,I v28,I a2,I v30,I v31,I a3, .vC Aa v33])) (none)) (none)) (some (1,[.vC kPt v0,I v4,I v5,I v6,I v7,I v8,I v9,I v10,I v11,I v12, .vC Aa L,I M,I N,I U,I V,I X,I Y,I v20,I v21,I v22, .vC Aa a0,I v24,I v25,I a1,I v27,I v28,I a2,I v30,I v31,I a3, .vC Aa v33])):=by kernel_rfl
def Z4k (Ee:Fn) (N3:Lp) (v0:Rw) (v1 D v3 v4 v5 v6 v7 v8 v9 v10 v11:Int) (v12:Rw) (G L M N U V X v20 v21:Int) (v22:Rw) (Y v24 v25 a0 v27 v28 a1 v30 v31:Int) (a2:Rw):Qhz Ee N3 [.vC kPt v0,I v1,I D,I v3,I v4,I v5,I v6,I v7,I v8,I v9,I v10,I v11, .vC Aa v12,I G,I L,I M,I N,I U,I V,I X,I v20,I v21, .vC Aa v22,I Y,I v24,I v25,I a0,I v27,I v28,I a1,I v30,I v31, .vC Aa a2]=
 cond (decide (D<v1)) (cond (decide (0<=D)&&decide (D<(v0.length:Int))) ((Ee [I v3,I v4,I v5,I v6,I v7,I v8,I v9,I v10,I v11, .vC Aa v12,jA (nth [] v0 D.toNat) 0]).bind λo6=>
 cond (!bA o6 0) (some (1,[B false])) ((Ee [I G,I L,I M,I N,I U,I V,I X,I v20,I v21, .vC Aa v22,jA (nth [] v0 D.toNat) 1]).bind λo7=>
 cond (!bA o7 0) (some (1,[B false])) ((Ee [I Y,I v24,I v25,I a0,I v27,I v28,I a1,I v30,I v31, .vC Aa a2,jA (nth [] v0 D.toNat) 2]).bind λo8=>
 cond (!bA o8 0) (some (1,[B false])) (some (0,[.vC kPt v0,I v1,I (O (D+1)),I v3,I v4,I v5,I v6,I v7,I v8,I v9,I v10,I v11, .vC Aa v12,I G,I L,I M,I N,I U,I V,I X,I v20,I v21, .vC Aa v22,I Y,I v24,I v25,I a0,I v27,I v28,I a1,I v30,I v31, .vC Aa a2]))))) (none)) (some (2,[])):=by kernel_rfl
def Z05 (Ee:Fn) (N3 N8:Lp) (x0 x1 x2 x3 x4 x5 x6 x7 x8:Int) (x9:Rw) (M N O U V X Y a0 a1:Int) (a2:Rw) (a3 a4 a5 a6 a7 a8 a9 b0 b1:Int) (b2:Rw) (b3 b4 b5:Int) (G b6:Rw):Z5 Ee N3 N8 [I x0,I x1,I x2,I x3,I x4,I x5,I x6,I x7,I x8, .vC Aa x9,I M,I N,I O,I U,I V,I X,I Y,I a0,I a1, .vC Aa a2,I a3,I a4,I a5,I a6,I a7,I a8,I a9,I b0,I b1, .vC Aa b2,I b3,I b4,I b5, .vC Ai G, .vC kPt b6]=
 (N3 [.vC kPt [[I b3,I b4,I b5]], .vC Ai G,I (G.length:Int),I 0,I x0,I x1,I x2,I x3,I x4,I x5,I x6,I x7,I x8, .vC Aa x9,I M,I N,I O,I U,I V,I X,I Y,I a0,I a1, .vC Aa a2,I a3,I a4,I a5,I a6,I a7,I a8,I a9,I b0,I b1, .vC Aa b2]).bind λD=>
 cond (D.1.beq 1) ((N8 [.vC kPt (wA D.2 0),I (↑(wA D.2 0).length:Int),I 0,jA D.2 1,jA D.2 2,jA D.2 3,jA D.2 4,jA D.2 5,jA D.2 6,jA D.2 7,jA D.2 8,jA D.2 9, .vC Aa (wA D.2 10),jA D.2 11,jA D.2 12,jA D.2 13,jA D.2 14,jA D.2 15,jA D.2 16,jA D.2 17,jA D.2 18,jA D.2 19, .vC Aa (wA D.2 20),jA D.2 21,jA D.2 22,jA D.2 23,jA D.2 24,jA D.2 25,jA D.2 26,jA D.2 27,jA D.2 28,jA D.2 29, .vC Aa (wA D.2 30)]).bind λL=>
 cond (L.1.beq 1) (some [B (bA L.2 0)]) (cond (L.1.beq 2) (some [B true]) (none))) (none):=by kernel_rfl
def Qej:=Ak (Qai PN)
def Q54:=Ak (Qhz PN Qej)
def Uk:=Z5 PN Qej Q54
instance:RI (Qnw Uk):=rw2 (Zef PN Qej Q54) (fl (fl fb))
def Zji:Sk:=⟨[TS.tup [(true,[ci,ci,ci,sa Ai,sa kPt]),(false,[ci])]],[],[]⟩
def XU:=qa 15 Zkm Zji
def Q4a (D:Fn):Cfg:=cp [YD D] [46]
def Qev (D:Fn):Fn:=mF (Q4a D) 15 Zkm Zji
theorem Z2p:Qev G [.vC Ae A]=
 (G [.vC Ae A]).bind λo1=>
 cond (gA o1 2 !=0) (some [I 0,I 0,I 0, .vC Ai [], .vC kPt [],jA o1 2]) (some [jA o1 3,jA o1 4,jA o1 5, .vC Ai (wA o1 0), .vC kPt (wA o1 1),I 0]):=by kernel_rfl
def JF:=Qev Mk
instance r_path_Build:RI (XU JF):=rw1 (Q4a Mk)
def Zem:Sk:=⟨[tf [sc 20000 0],tf [sa Ae],tf [sb]],[(20000,179,cS)],[]⟩
def Qy6:=qa 97 Zem Zel
def Q3y (D G I L:Fn):Cfg:={cf [Qt2 D,Qhw G,Qnw I,XU L]with fstore:=true}
def RX (D G I L:Fn):Fn:=mF (Q3y D G I L) 97 Zem Zel
def Zq5 (G L M N:Fn) (D:Rw) (O:Bool) (K:Kf) (c:Cv):RX G L M N (.vC Ae D::B O::Ac K c)=
 (N [.vC Ae D]).bind λo4=>
 cond (gA o4 5 !=0) (some (jA o4 5::Ac K c)) ((M (AF K.x++[jA o4 0,jA o4 1,jA o4 2, .vC Ai (wA o4 3), .vC kPt (wA o4 4)])).bind λU=>
 cond (!bA U 0) (some (I 17::Ac K c)) (cond ((D.length*176).ble 140737488355328) ((L [jA o4 0,jA o4 1,jA o4 2, .vC Ai (wA o4 3), .vC kPt (wA o4 4)]).bind λo6=>
 (G [.vC Ae D]).bind λV=>
 some (I 0::DQ (Ac K c) [(35, .vC Ae D),(36,B O),(37,jA o4 0),(38,jA o4 1),(39,jA o4 2),(40, .vC Ai (wA o4 3)),(41, .vC kPt (wA o4 4)),(42,jA o6 0),(43,jA V 0)])) (none))):=by kernel_rfl
def Qdu:=RX RA Om Uk JF
instance:RI (Qy6 Qdu):=rw1 (Q3y RA Om Uk JF)
def Q6l:=qa 95 Qv8 Zhy
def Qdw:Fn:=mF Qy3 95 Qv8 Zhy
theorem Z9u:Qdw []=
 some [I 100,I 100,B false,B false,B false]:=by kernel_rfl
def UL:=Qdw
instance:RI (Q6l UL):=rw1 Qy3
def Qm8:Sk:=⟨[tT (cX++cc 5)],[],[]⟩
def Qvc:=qa 94 Qm8 Qm8
def Qrq:Cfg:={cf []with fstore:=true,unroll:=[2]}
def Qbb:Fn:=mF Qrq 94 Qm8 Qm8
def Zoa (x0 x1 x2 x3 x4 x5 x6 x7 x8:Int) (x9:Rw) (L M N O U V X Y a0:Int) (D:Rw) (a1 a2 a3 a4 a5 a6 a7 a8 a9:Int) (G:Rw) (b0 b1 b2 b3 b4:Int):Qbb [I x0,I x1,I x2,I x3,I x4,I x5,I x6,I x7,I x8, .vC Aa x9,I L,I M,I N,I O,I U,I V,I X,I Y,I a0, .vC Aa D,I a1,I a2,I a3,I a4,I a5,I a6,I a7,I a8,I a9, .vC Aa G,I b0,I b1,I b2,I b3,I b4]=
 cond ((x9.length*8).ble 140737488355328) (cond ((D.length*8).ble 140737488355328) (cond ((G.length*8).ble 140737488355328) (some [I x0,I x1,I x2,I x3,I x4,I x5,I x6,I x7,I x8, .vC Aa x9,I L,I M,I N,I O,I U,I V,I X,I Y,I a0, .vC Aa D,I a1,I a2,I a3,I a4,I a5,I a6,I a7,I a8,I a9, .vC Aa G,I b0,I b1,I b2,I b3,I b4]) (none)) (none)) (none):=by kernel_rfl
def US:=Qbb
instance:RI (Qvc US):=rw1 Qrq
def Q8r:Sk:=⟨[tT (cc 9++[sa Aa])],[],[]⟩
def Qru:=qa 191 Q8r Zkh
def Zf7 (D:Fn):Cfg:=cf [WC D]
def Zd9:Sk:=⟨[td,tf [sc 1 0]]++dd 24++[tf [sa Aa],tf [ci],tf [ci]]++dd 29,[(1,33,cc 9++[sa Aa])],[]⟩
def Zb3:List (Ex×Sk):=[(Ex.ret,⟨[td,td,tf [sb]]++dd 55,[],[]⟩),(Ex.exit 0,⟨[td]++dd 57,[],[]⟩)]
def Qak (D:Fn):Lp:=sL (Zf7 D) 191 6 Zd9 Zb3
def Q0l (D:Fn) (G:Lp):Cfg:=(Zf7 D).loop 6 Zd9 Zb3 G
def Z_ (D:Fn) (G:Lp):Fn:=mF (Q0l D G) 191 Q8r Zkh
theorem Zws:Qak G [.vC Aa A,I a,I b,I c,I d,I e,I f,I g,I h,I i,I j,I k, .vC Aa C]=
 cond (decide (b<a)) (cond (decide (0<=b)&&decide (b<(A.length:Int))) ((G [jA (nth [] A b.toNat) 0,I (-4096),I 4096]).bind λo7=>
 cond (!bA o7 0) (some (1,[B false])) (cond (decide (b>0)) (cond (decide (0<=O (b-1))&&decide (O (b-1)<(C.length:Int))) ((G [I (O (gA (nth [] A b.toNat) 0-gA (nth [] C (O (b-1)).toNat) 0)),I (O (0-O (k.tdiv 4))),I (O (k.tdiv 4))]).bind λo8=>
 cond (!bA o8 0) (some (1,[B false])) (some (0,[.vC Aa A,I a,I (O (b+1)),I c,I d,I e,I f,I g,I h,I i,I j,I k, .vC Aa C]))) (none)) (some (0,[.vC Aa A,I a,I (O (b+1)),I c,I d,I e,I f,I g,I h,I i,I j,I k, .vC Aa C])))) (none)) (some (2,[])):=by kernel_rfl
theorem Zt1:Z_ G Z [I a,I b,I c,I d,I e,I f,I g,I h,I i, .vC Aa A]=
 cond ((A.length:Int)==0) (some [B true]) (cond (decide ((A.length:Int)>64)) (some [B false]) ((G [I h,I (-16777216),I 16777216]).bind λo9=>
 cond (!bA o9 0) (some [B false]) ((G [I i,I 4,I 16777216]).bind λO=>
 cond (!bA O 0) (some [B false]) ((Z [.vC Aa A,I (A.length:Int),I 0,I a,I b,I c,I d,I e,I f,I g,I h,I i, .vC Aa A]).bind λD=>
 cond (D.1.beq 1) (some [B (bA D.2 0)]) (cond (D.1.beq 2) (some [B true]) (none)))))):=by kernel_rfl
def Qpb:=Ak (Qak JX)
def U7:=Z_ JX Qpb
instance:RI (Qru U7):=rw2 (Q0l JX Qpb) (fl fb)
def Zm1:=qa 145 Q8r Zkh
def Zjn (D G:Fn):Cfg:=cf [Qru D,WC G]
def Qcy (D G:Fn):Fn:=mF (Zjn D G) 145 Q8r Zkh
theorem Ydp:Qcy G H [I a,I b,I c,I d,I e,I f,I g,I h,I i, .vC Aa A]=
 (H [I a,I 4,I 4096]).bind λo6=>
 cond (bA o6 0) ((H [I b,I 1,I 1048576]).bind λo7=>
 cond (bA o7 0) ((H [I c,I 2,I 1048576]).bind λo8=>
 cond (bA o8 0) ((H [I d,I 4,I 1048576]).bind λX=>
 cond (decide (e>= -16777216)) (cond (decide (f<=16777216)) (cond (bA X 0) (cond (decide (e<=f)) ((H [I g,I 0,I 64]).bind λY=>
 cond (bA Y 0) ((G [I a,I b,I c,I d,I e,I f,I g,I h,I i, .vC Aa A]).bind λa0=>
 some [B (bA a0 0)]) (some [B false])) (some [B false])) (some [B false])) (cond (bA X 0) (some [B false]) (some [B false]))) (cond (bA X 0) (some [B false]) (some [B false]))) (cond (decide (e>= -16777216)) (cond (decide (f<=16777216)) (some [B false]) (some [B false])) (some [B false]))) (cond (decide (e>= -16777216)) (cond (decide (f<=16777216)) (some [B false]) (some [B false])) (some [B false]))) (cond (decide (e>= -16777216)) (cond (decide (f<=16777216)) (some [B false]) (some [B false])) (some [B false])):=by kernel_rfl
def Vw:=Qcy U7 JX
instance:RI (Zm1 Vw):=rw1 (Zjn U7 JX)
def Zgs:=qa 93 Qm8 Zkh
def Qu1 (D G I:Fn):Cfg:={cf [We D,Uz G,Zm1 I]with unroll:=[2]}
def Ys (D G I:Fn):Fn:=mF (Qu1 D G I) 93 Qm8 Zkh
def Z6g (DJ B6 K6:Fn) (x0 x1 x2 x3 x4 x5 x6 x7 x8:Int) (x9:Rw) (L M N O U V X Y a0:Int) (a1:Rw) (a2 a3 a4 a5 a6 a7 a8 a9 b0:Int) (b1:Rw) (b2 b3 b4 D G:Int):Ys DJ B6 K6 [I x0,I x1,I x2,I x3,I x4,I x5,I x6,I x7,I x8, .vC Aa x9,I L,I M,I N,I O,I U,I V,I X,I Y,I a0, .vC Aa a1,I a2,I a3,I a4,I a5,I a6,I a7,I a8,I a9,I b0, .vC Aa b1,I b2,I b3,I b4,I D,I G]=
 (K6 [I x0,I x1,I x2,I x3,I x4,I x5,I x6,I x7,I x8, .vC Aa x9]).bind λo5=>
 cond (!bA o5 0) (some [B false]) ((K6 [I L,I M,I N,I O,I U,I V,I X,I Y,I a0, .vC Aa a1]).bind λo6=>
 cond (!bA o6 0) (some [B false]) ((K6 [I a2,I a3,I a4,I a5,I a6,I a7,I a8,I a9,I b0, .vC Aa b1]).bind λo7=>
 cond (!bA o7 0) (some [B false]) ((B6 [I b2,I b3,I b4]).bind λo8=>
 cond (bA o8 0) (cond (decide (D>=1)) ((DJ [I 30000]).bind λo9=>
 cond (decide (D<=gA o9 0)) (cond (decide (G>=0)) (some [B (decide (G<=1048576))]) (some [B false])) (some [B false])) (some [B false])) (some [B false])))):=by kernel_rfl
def WZ:=Ys GG GC Vw
instance:RI (Zgs WZ):=rw1 (Qu1 GG GC Vw)
def Q87:Sk:=⟨[tT (cX++cc 5),tf [sa Ae],tf [sb]],[],[]⟩
def Qlx:Sk:=⟨[TS.tup [(false,[sc 19 0]),(false,[ci])]],[(19,179,cS)],[]⟩
def Qx9:=qa 54 Q87 Qlx
def Q30 (D G I L M N O:Fn):Cfg:={cp [WA D,Y1 G,Qy6 I,Yj L,Q6l M,Qvc N,Zgs O] [97]with fstore:=true}
def U2 (D G I L M N O:Fn):Fn:=mF (Q30 D G I L M N O) 54 Q87 Qlx
def Zoo (DW Gv QY GA QQ QS Qy:Fn) (x0 x1 x2 x3 x4 x5 x6 x7 x8:Int) (x9:Rw) (M N O U V X Y a0 a1:Int) (a2:Rw) (a3 a4 a5 a6 a7 a8 a9 b0 b1:Int) (b2:Rw) (b3 b4 b5 b6 b7:Int) (b9:Rw) (c0:Bool):U2 DW Gv QY GA QQ QS Qy [I x0,I x1,I x2,I x3,I x4,I x5,I x6,I x7,I x8, .vC Aa x9,I M,I N,I O,I U,I V,I X,I Y,I a0,I a1, .vC Aa a2,I a3,I a4,I a5,I a6,I a7,I a8,I a9,I b0,I b1, .vC Aa b2,I b3,I b4,I b5,I b6,I b7, .vC Ae b9,B c0]=
 (Qy [I x0,I x1,I x2,I x3,I x4,I x5,I x6,I x7,I x8, .vC Aa x9,I M,I N,I O,I U,I V,I X,I Y,I a0,I a1, .vC Aa a2,I a3,I a4,I a5,I a6,I a7,I a8,I a9,I b0,I b1, .vC Aa b2,I b3,I b4,I b5,I b6,I b7]).bind λo7=>
 cond (!bA o7 0) (none) ((QS [I x0,I x1,I x2,I x3,I x4,I x5,I x6,I x7,I x8, .vC Aa x9,I M,I N,I O,I U,I V,I X,I Y,I a0,I a1, .vC Aa a2,I a3,I a4,I a5,I a6,I a7,I a8,I a9,I b0,I b1, .vC Aa b2,I b3,I b4,I b5,I b6,I b7]).bind λo8=>
 (QQ []).bind λo9=>
 (GA []).bind λb8=>
 (QY [.vC Ae b9,B c0,jA o8 0,jA o8 1,jA o8 2,jA o8 3,jA o8 4,jA o8 5,jA o8 6,jA o8 7,jA o8 8, .vC Aa (wA o8 9),jA o8 10,jA o8 11,jA o8 12,jA o8 13,jA o8 14,jA o8 15,jA o8 16,jA o8 17,jA o8 18, .vC Aa (wA o8 19),jA o8 20,jA o8 21,jA o8 22,jA o8 23,jA o8 24,jA o8 25,jA o8 26,jA o8 27,jA o8 28, .vC Aa (wA o8 29),jA o8 30,jA o8 31,jA o8 32,jA o8 33,jA o8 34, .vC Ae [],B false,I 0,I 0,I 0, .vC Ai [], .vC kPt [],I 0,I 0, .vC An [],I 0,I 0,I 0,I 0,I 0,I 0,I 0,I 0,I 0,I 0,I 0,jA o9 0,jA o9 1,B (bA o9 2),B (bA o9 3),B (bA o9 4),jA b8 0,jA b8 1,jA b8 2,I 1,I 0,I 0,I 0,I 0,I 0,I 0,I 0,I 0,B false,I 0,B false,I 0,B false,I 0,I (-1),I 0,I 0,I 0,I 0,I 0,I 0,I 0,B false,B false,B false]).bind λD=>
 cond (gA D 0 !=0) (none) ((Gv [jA D 38,jA D 39,jA D 40, .vC Ai (wA D 41), .vC kPt (wA D 42),jA D 1,jA D 2,jA D 3,jA D 4,jA D 5,jA D 6,jA D 7,jA D 8,jA D 9, .vC Aa (wA D 10),jA D 11,jA D 12,jA D 13,jA D 14,jA D 15,jA D 16,jA D 17,jA D 18,jA D 19, .vC Aa (wA D 20),jA D 21,jA D 22,jA D 23,jA D 24,jA D 25,jA D 26,jA D 27,jA D 28,jA D 29, .vC Aa (wA D 30),I 1,I 1,I 1,I 0,jA D 43]).bind λG=>
 (DW [I 0]).bind λL=>
 some (I 0::DQ (cR 1 D) [(44, .vC An (wA G 0)),(45,jA G 1),(46,jA G 2),(47,jA G 3),(48,jA G 4),(49,jA G 5),(50,jA L 0),(51,jA L 1),(52,jA L 2),(53,jA L 3),(54,jA L 4),(55,jA L 5)]))):=by kernel_rfl
def Mn:=U2 Kc OH Qdu O2 UL US WZ
instance:RI (Qx9 Mn):=rw1 (Q30 Kc OH Qdu O2 UL US WZ)
def Qpm:=qa 53 Qw2 Zkh
def Zig:Sk:=⟨[td,td,td,tf [ci],td,td,td,td,td,tf [sa kPt],tf [ci],tf [ci]]++dd 35,[],[]⟩
def Qod:List (Ex×Sk):=[(Ex.ret,⟨[td,td,tf [sb]]++dd 44,[],[]⟩),(Ex.exit 0,⟨[td]++dd 46,[],[]⟩)]
def OI:Lp:=sL Qy3 53 5 Zig Qod
def Zhg (D:Lp):Cfg:=Qy3.loop 5 Zig Qod D
def Qhe (D:Lp):Fn:=mF (Zhg D) 53 Qw2 Zkh
theorem Zkn:OI [I a, .vC kPt A,I b,I c]=
 cond (decide (c<b)) (cond (decide (0<=c)&&decide (c<(A.length:Int))) (cond (decide (gA (nth [] A c.toNat) 0<a)) (some (1,[B false])) (cond (decide (gA (nth [] A c.toNat) 0>1073741824)) (some (1,[B false])) (cond (decide (gA (nth [] A c.toNat) 1<1)) (some (1,[B false])) (cond (decide (gA (nth [] A c.toNat) 1>13)) (some (1,[B false])) (cond (decide (gA (nth [] A c.toNat) 2< -1073741824)) (some (1,[B false])) (cond (decide (gA (nth [] A c.toNat) 2>1073741824)) (some (1,[B false])) (some (0,[jA (nth [] A c.toNat) 0, .vC kPt A,I b,I (O (c+1))])))))))) (none)) (some (2,[])):=by kernel_rfl
theorem Z4c:Qhe Z [.vC kPt A]=
 cond (decide ((A.length:Int)>2000)) (some [B false]) ((Z [I 0, .vC kPt A,I (A.length:Int),I 0]).bind λo1=>
 cond (o1.1.beq 1) (some [B (bA o1.2 0)]) (cond (o1.1.beq 2) (some [B true]) (none))):=by kernel_rfl
def Q4o:=Ak (OI)
def SZ:=Qhe Q4o
instance:RI (Qpm SZ):=rw2 (Zhg Q4o) (fl fb)
def Qlt:Sk:=⟨[tT (cX++cc 5),tf [sa Ae],tf [sa kPt],tf [ci]],[],[]⟩
def Zfh:Sk:=⟨[TS.tup [(false,[sa [Kd.sl kPt,Kd.sl Aa,kI,kI,kI,kI,kI,kI,kI]]),(false,[ci])]],[],[]⟩
def Qek:=qa 18 Qlt Zfh
def Qxs (D G I L:Fn):Cfg:={cp [Znh D,Qz9 G,Qx9 I,Qpm L] [55,54]with prom:=λb=>cond (Nat.beq b 8) ([(12,61)]) ([])}
def Zk1:Sk:=⟨[td,td,tf [sa kPt],tf [ci]]++dd 6++[tf [sc 102500 0],td,tf [sd 12 9],tf [ci]]++dd 40,[(102500,179,cS)],[(12,61,[Kd.sl kPt,Kd.sl Aa,kI,kI,kI,kI,kI,kI,kI])]⟩
def Qwj:List (Ex×Sk):=[(Ex.exit 0,⟨dd 12++[tf [sd 12 9]]++dd 41,[],[(12,61,[Kd.sl kPt,Kd.sl Aa,kI,kI,kI,kI,kI,kI,kI])]⟩)]
def Qh (D G I L:Fn):Lp:=sL (Qxs D G I L) 18 8 Zk1 Qwj
def Zl8 (D G I L:Fn) (M:Lp):Cfg:=(Qxs D G I L).loop 8 Zk1 Qwj M
def Qfm (D G I L:Fn) (M:Lp):Fn:=mF (Zl8 D G I L M) 18 Qlt Zfh
theorem Zei (V X Y Hx:Fn) (G M:Rw) (N L:Int) (K:Kf) (c:Cv):Qh V X Y Hx (.vC [Kd.sl kPt,Kd.sl Aa,kI,kI,kI,kI,kI,kI,kI] G:: .vC kPt M::I N::I L::Ac K c)=
 cond (decide (L<N)) ((X [.vC kPt M,I L]).bind λU=>
 (V (.vC kPt (wA U 0)::Ac K c)).bind λD=>
 cond (((G++[[.vC (Aa++(Aa++(Aa++[]))) (wA D 0), .vC Aa (wA D 1),jA D 2,jA D 3,jA D 4,jA D 5,jA D 6,jA D 7,jA D 8]]).length*104).ble 140737488355328) (cond (gA D 2==7) (some (1,[.vC [Kd.sl kPt,Kd.sl Aa,kI,kI,kI,kI,kI,kI,kI] (G++[[.vC (Aa++(Aa++(Aa++[]))) (wA D 0), .vC Aa (wA D 1),jA D 2,jA D 3,jA D 4,jA D 5,jA D 6,jA D 7,jA D 8]])])) (cond (gA D 2==8) (some (1,[.vC [Kd.sl kPt,Kd.sl Aa,kI,kI,kI,kI,kI,kI,kI] (G++[[.vC (Aa++(Aa++(Aa++[]))) (wA D 0), .vC Aa (wA D 1),jA D 2,jA D 3,jA D 4,jA D 5,jA D 6,jA D 7,jA D 8]])])) (some (0,(.vC [Kd.sl kPt,Kd.sl Aa,kI,kI,kI,kI,kI,kI,kI] (G++[[.vC (Aa++(Aa++(Aa++[]))) (wA D 0), .vC Aa (wA D 1),jA D 2,jA D 3,jA D 4,jA D 5,jA D 6,jA D 7,jA D 8]]):: .vC kPt M::I N::I (O (L+1))::cR 9 D))))) (none)) (some (1,[.vC [Kd.sl kPt,Kd.sl Aa,kI,kI,kI,kI,kI,kI,kI] G])):=by kernel_rfl
def Zxv (HQ HM Hm Hx:Fn) (N8:Lp) (x0 x1 x2 x3 x4 x5 x6 x7 x8:Int) (x9:Rw) (M N O U V X Y a0 a1:Int) (a2:Rw) (a3 a4 a5 a6 a7 a8 a9 b0 b1:Int) (b2:Rw) (b3 b4 b5 b6 b7:Int) (b8 D:Rw) (G:Int):Qfm HQ HM Hm Hx N8 [I x0,I x1,I x2,I x3,I x4,I x5,I x6,I x7,I x8, .vC Aa x9,I M,I N,I O,I U,I V,I X,I Y,I a0,I a1, .vC Aa a2,I a3,I a4,I a5,I a6,I a7,I a8,I a9,I b0,I b1, .vC Aa b2,I b3,I b4,I b5,I b6,I b7, .vC Ae b8, .vC kPt D,I G]=
 (Hx [.vC kPt D]).bind λc0=>
 cond (!bA c0 0) (some [.vC [Kd.sl kPt,Kd.sl Aa,kI,kI,kI,kI,kI,kI,kI] [],I 1]) (cond (decide (G>1073741824)) (some [.vC [Kd.sl kPt,Kd.sl Aa,kI,kI,kI,kI,kI,kI,kI] [],I 1]) ((Hm [I x0,I x1,I x2,I x3,I x4,I x5,I x6,I x7,I x8, .vC Aa x9,I M,I N,I O,I U,I V,I X,I Y,I a0,I a1, .vC Aa a2,I a3,I a4,I a5,I a6,I a7,I a8,I a9,I b0,I b1, .vC Aa b2,I b3,I b4,I b5,I b6,I b7, .vC Ae b8,B true]).bind λL=>
 cond (gA L 0 !=0) (some [.vC [Kd.sl kPt,Kd.sl Aa,kI,kI,kI,kI,kI,kI,kI] [],jA L 0]) ((N8 (.vC [Kd.sl kPt,Kd.sl Aa,kI,kI,kI,kI,kI,kI,kI] []:: .vC kPt D::I G::I 0::cR 1 L)).bind λb9=>
 cond (b9.1.beq 1) (some [.vC [Kd.sl kPt,Kd.sl Aa,kI,kI,kI,kI,kI,kI,kI] (wA b9.2 0),I 0]) (none)))):=by kernel_rfl
def Zcm:=Ak (Qh KG Ti Mn SZ)
def LZ:=Qfm KG Ti Mn SZ Zcm
instance r_report_Run:RI (Qek LZ):=rw2 (Zl8 KG Ti Mn SZ Zcm) (fl fb)
def ZY:=qa 12 Qup Qvf
def Qm7:Fn:=mF Qy3 12 Qup Qvf
theorem Z0k:Qm7 [I a,I b]=
 cond (decide (b=0)) (none) (cond (decide (b=0)) (none) (some [I ((O (a.tmod b+b)).tmod b)])):=by kernel_rfl
def JH:=Qm7
instance r_cncmill_Mod:RI (ZY JH):=rw1 Qy3
def Qmf:Sk:=⟨[tf [sc 20000 0],tf [ci]],[(20000,95,[sa Aa,ci])],[]⟩
def Zm0:Sk:=⟨[tf [ci]],[(20000,95,[sa Aa,ci])],[]⟩
def Jn:=qa 41 Qmf Zm0
def Q4k (D:Fn):Cfg:=cf [ZY D]
def Qh9 (D:Fn):Fn:=mF (Q4k D) 41 Qmf Zm0
theorem Z4j:Qh9 G [I a, .vC Aa A,I b]=
 cond (decide (b>=(A.length:Int))) (some [I 0, .vC Aa A,I b]) (cond (decide (0<=b)&&decide (b<(A.length:Int))) ((G [jA (nth [] A b.toNat) 0,I a]).bind λo1=>
 some [jA o1 0, .vC Aa A,I (O (b+1))]) (none)):=by kernel_rfl
def C0:=Qh9 JH
instance:RI (Jn C0):=rw1 (Q4k JH)
def Zhs:Sk:=⟨[tT [ci,ci,ci]],[(20000,95,[sa Aa,ci])],[]⟩
def Ziu:=qa 63 Qmf Zhs
def Zkt (D:Fn):Cfg:=cp [Jn D] [41]
def Zl (D:Fn):Fn:=mF (Zkt D) 63 Qmf Zhs
abbrev S8 (M:Fn) (L:List AC) (N:Int) (G:AC):Option (List AC):=
 (M [G, .vC Aa (wA L 1),jA L 2]).bind λD=>
 some [I N,I (Af (nth .vD (nth [] [[I 4],[I 1],[I 2],[I 3],[I 4],[I 5],[I 6],[I 7],[I 4],[I 8],[I 9],[I 11],[I 12],[I 13],[I 10]] (gA L 0).toNat) 0)),I (O (gA D 0-5)), .vC Aa (wA D 1),jA D 2]
theorem Zu5:Zl G [I a, .vC Aa A,I b]=
 (G [I 15, .vC Aa A,I b]).bind λD=>
 cond (decide (0<=gA D 0)&&decide (gA D 0<(↑[[I 4],[I 1],[I 2],[I 3],[I 4],[I 5],[I 6],[I 7],[I 4],[I 8],[I 9],[I 11],[I 12],[I 13],[I 10]].length:Int))) (cond (Af (nth .vD (nth [] [[I 4],[I 1],[I 2],[I 3],[I 4],[I 5],[I 6],[I 7],[I 4],[I 8],[I 9],[I 11],[I 12],[I 13],[I 10]] (gA D 0).toNat) 0)==1) (S8 G D a (I 220)) (cond (Af (nth .vD (nth [] [[I 4],[I 1],[I 2],[I 3],[I 4],[I 5],[I 6],[I 7],[I 4],[I 8],[I 9],[I 11],[I 12],[I 13],[I 10]] (gA D 0).toNat) 0)==2) (S8 G D a (I 220)) (cond (Af (nth .vD (nth [] [[I 4],[I 1],[I 2],[I 3],[I 4],[I 5],[I 6],[I 7],[I 4],[I 8],[I 9],[I 11],[I 12],[I 13],[I 10]] (gA D 0).toNat) 0)==5) ((G [I 3, .vC Aa (wA D 1),jA D 2]).bind λM=>
 some [I a,I (Af (nth .vD (nth [] [[I 4],[I 1],[I 2],[I 3],[I 4],[I 5],[I 6],[I 7],[I 4],[I 8],[I 9],[I 11],[I 12],[I 13],[I 10]] (gA D 0).toNat) 0)),jA M 0, .vC Aa (wA M 1),jA M 2]) (cond (Af (nth .vD (nth [] [[I 4],[I 1],[I 2],[I 3],[I 4],[I 5],[I 6],[I 7],[I 4],[I 8],[I 9],[I 11],[I 12],[I 13],[I 10]] (gA D 0).toNat) 0)==6) ((G [I 3, .vC Aa (wA D 1),jA D 2]).bind λN=>
 some [I a,I (Af (nth .vD (nth [] [[I 4],[I 1],[I 2],[I 3],[I 4],[I 5],[I 6],[I 7],[I 4],[I 8],[I 9],[I 11],[I 12],[I 13],[I 10]] (gA D 0).toNat) 0)),jA N 0, .vC Aa (wA N 1),jA N 2]) (cond (Af (nth .vD (nth [] [[I 4],[I 1],[I 2],[I 3],[I 4],[I 5],[I 6],[I 7],[I 4],[I 8],[I 9],[I 11],[I 12],[I 13],[I 10]] (gA D 0).toNat) 0)==7) (S8 G D a (I 300)) (cond (Af (nth .vD (nth [] [[I 4],[I 1],[I 2],[I 3],[I 4],[I 5],[I 6],[I 7],[I 4],[I 8],[I 9],[I 11],[I 12],[I 13],[I 10]] (gA D 0).toNat) 0)==8) ((G [I 5, .vC Aa (wA D 1),jA D 2]).bind λU=>
 some [I a,I (Af (nth .vD (nth [] [[I 4],[I 1],[I 2],[I 3],[I 4],[I 5],[I 6],[I 7],[I 4],[I 8],[I 9],[I 11],[I 12],[I 13],[I 10]] (gA D 0).toNat) 0)),I (O (gA U 0-1)), .vC Aa (wA U 1),jA U 2]) (cond (Af (nth .vD (nth [] [[I 4],[I 1],[I 2],[I 3],[I 4],[I 5],[I 6],[I 7],[I 4],[I 8],[I 9],[I 11],[I 12],[I 13],[I 10]] (gA D 0).toNat) 0)==13) ((G [I 4, .vC Aa (wA D 1),jA D 2]).bind λV=>
 (G [I 60, .vC Aa (wA V 1),jA V 2]).bind λX=>
 some [I a,I (Af (nth .vD (nth [] [[I 4],[I 1],[I 2],[I 3],[I 4],[I 5],[I 6],[I 7],[I 4],[I 8],[I 9],[I 11],[I 12],[I 13],[I 10]] (gA D 0).toNat) 0)),I (O (O (gA V 0*1048576)+gA X 0)), .vC Aa (wA X 1),jA X 2]) (some [I a,I (Af (nth .vD (nth [] [[I 4],[I 1],[I 2],[I 3],[I 4],[I 5],[I 6],[I 7],[I 4],[I 8],[I 9],[I 11],[I 12],[I 13],[I 10]] (gA D 0).toNat) 0)),I 0, .vC Aa (wA D 1),jA D 2])))))))) (none):=by kernel_rfl
def Qp:=Zl C0
instance:RI (Ziu Qp):=rw1 (Zkt C0)
def Zev:Sk:=⟨[tf [sc 20000 0]],[(20000,95,[sa Aa,ci])],[]⟩
def Zbo:Sk:=⟨[tf [sb]],[(20000,95,[sa Aa,ci])],[]⟩
def Zb:=qa 42 Zev Zbo
def Qtz:Fn:=mF Qy3 42 Zev Zbo
theorem Zp1:Qtz [.vC Aa A,I a]=
 some [B (decide (a<(A.length:Int))), .vC Aa A,I a]:=by kernel_rfl
def IK:=Qtz
instance:RI (Zb IK):=rw1 Qy3
def Zdf:Sk:=⟨[tf [sc 5 0]],[(5,95,[sa Aa,ci])],[]⟩
def Qn:=qa 40 Q6v Zdf
def Zdy:Fn:=mF Qy3 40 Q6v Zdf
theorem Zx6:Zdy [.vC Aa A]=
 some [.vC Aa A,I 0]:=by kernel_rfl
def DR:=Zdy
instance:RI (Qn DR):=rw1 Qy3
def Zf3:=qa 23 Q6v Qw2
def Qlb (D G I L:Fn):Cfg:={cp [Ziu D,Jn G,Zb I,Qn L] [63,41,42,40]with prom:=λb=>cond (Nat.beq b 4) ([(4,65)]) ([])}
def Qzq:Sk:=⟨[td,td,td,tf [sc 100700 0],tf [sd 4 3],tf [ci]]++dd 15,[(100700,95,[sa Aa,ci])],[(4,65,kPt)]⟩
def Zcd:List (Ex×Sk):=[(Ex.exit 0,⟨[td,td,td,td,tf [sd 4 3]]++dd 16,[],[(4,65,kPt)]⟩)]
def Qiz (D G I L:Fn):Lp:=sL (Qlb D G I L) 23 4 Qzq Zcd
def Zgu (D G I L:Fn) (M:Lp):Cfg:=(Qlb D G I L).loop 4 Qzq Zcd M
def Qdh (D G I L:Fn) (M:Lp):Fn:=mF (Zgu D G I L M) 23 Q6v Qw2
theorem Zww:Qiz H J K M [.vC kPt A,I a, .vC Aa C,I b]=
 (K [.vC Aa C,I b]).bind λL=>
 cond (bA L 0) ((J [I 40, .vC Aa (wA L 1),jA L 2]).bind λG=>
 (H [I (O (a+gA G 0)), .vC Aa (wA G 1),jA G 2]).bind λD=>
 cond (((A++[[jA D 0,jA D 1,jA D 2]]).length*24).ble 140737488355328) (some (0,[.vC kPt (A++[[jA D 0,jA D 1,jA D 2]]),I (O (a+gA G 0)), .vC Aa (wA D 3),jA D 4])) (none)) (some (1,[.vC kPt A])):=by kernel_rfl
theorem Ycw:Qdh H J K L Z [.vC Aa A]=
 (L [.vC Aa A]).bind λD=>
 (Z [.vC kPt [],I 0, .vC Aa (wA D 0),jA D 1]).bind λG=>
 cond (G.1.beq 1) (some [.vC kPt (wA G.2 0)]) (none):=by kernel_rfl
def Zcf:=Ak (Qiz Qp C0 IK DR)
def Pv:=Qdh Qp C0 IK DR Zcf
instance r_cncmill_Events:RI (Zf3 Pv):=rw2 (Zgu Qp C0 IK DR Zcf) (fl fb)
def Q4x:=qa 137 Qpp Qwz
def Zm2:Fn:=mF Qy3 137 Qpp Qwz
theorem Yb5:Zm2 [I a,I b,I c,I d]=
 cond (d==17) (some [I a,I b,I c]) (cond (d==18) (some [I b,I c,I a]) (cond (d==19) (some [I c,I a,I b]) (some [I 0,I 0,I 0]))):=by kernel_rfl
def Sy:=Zm2
instance:RI (Q4x Sy):=rw1 Qy3
def Quw:=qa 136 Qup Qn7
def Qyl:Fn:=mF Qy3 136 Qup Qn7
theorem Z3u:Qyl [I a,I b]=
 cond (decide (0<=b.tmod 4)&&decide (b.tmod 4<(↑[[I a],[I 0],[I (O (0-a))],[I 0]].length:Int))) (cond (decide (0<=b.tmod 4)&&decide (b.tmod 4<(↑[[I 0],[I a],[I 0],[I (O (0-a))]].length:Int))) (some [I (Af (nth .vD (nth [] [[I a],[I 0],[I (O (0-a))],[I 0]] (b.tmod 4).toNat) 0)),I (Af (nth .vD (nth [] [[I 0],[I a],[I 0],[I (O (0-a))]] (b.tmod 4).toNat) 0))]) (none)) (none):=by kernel_rfl
def SX:=Qyl
instance:RI (Quw SX):=rw1 Qy3
def Zi1:=qa 135 Q81 Zav
def Qvt:Fn:=mF Qy3 135 Q81 Zav
theorem Zxr:Qvt [I a,I b,I c,I d]=
 cond (d==17) (some [I a,I b,I c]) (cond (d==18) (some [I c,I a,I b]) (cond (d==19) (some [I b,I c,I a]) (some [I 0,I 0,I 0]))):=by kernel_rfl
def Sl:=Qvt
instance:RI (Zi1 Sl):=rw1 Qy3
def Zic:Sk:=⟨[tf [sc 20000 0],tT [ci,ci,ci],tf [ci]],[(20000,95,[sa Aa,ci])],[]⟩
def Qra:Sk:=⟨[tT (cc 13++[sb,ci,sb]++cc 5++[sb])],[(20000,95,[sa Aa,ci])],[]⟩
def Q3h:=qa 85 Zic Qra
def Qrs (D G I L:Fn):Cfg:=cp [Q4x D,Quw G,Zi1 I,Jn L] [41]
def Qfl (D G I L:Fn):Fn:=mF (Qrs D G I L) 85 Zic Qra
abbrev Ug (Ao HZ:Fn) (Y M:List AC) (x0 x1 x2:Int) (G a0 a1:List AC) (N U V X:AC):Option (List AC):=
 (Ao [I 4,N,U]).bind λD=>
 cond (decide (0<=gA D 0)&&decide (gA D 0<(↑[[I 0],[I 0],[I 7],[I (-12)]].length:Int))) ((HZ [V,X,I (O (gA Y 2+Af (nth .vD (nth [] [[I 0],[I 0],[I 7],[I (-12)]] (gA D 0).toNat) 0))),I (Af (nth .vD (nth [] [[I 17],[I 18],[I 19]] (gA M 0).toNat) 0))]).bind λL=>
 some [I 3,I 0,I x0,I x1,I x2,jA L 0,jA L 1,jA L 2,I (Af (nth .vD (nth [] [[I 17],[I 18],[I 19]] (gA M 0).toNat) 0)),jA G 0,jA G 1,jA G 2,I (O (1-O (gA a0 0*2))),B (gA a1 0==0),I 0,B false,I 0,I 0,I 0,I 0,I 0,B false, .vC Aa (wA D 1),jA D 2]) (none)
theorem Z46:Qfl H J K P [I a,I b,I c,I d, .vC Aa A,I e]=
 (P [I 3, .vC Aa A,I e]).bind λG=>
 cond (decide (0<=gA G 0)&&decide (gA G 0<(↑[[I 17],[I 18],[I 19]].length:Int))) ((P [I 2, .vC Aa (wA G 1),jA G 2]).bind λX=>
 (P [I d, .vC Aa (wA X 1),jA X 2]).bind λM=>
 (P [I 4, .vC Aa (wA M 1),jA M 2]).bind λa0=>
 (P [I 4, .vC Aa (wA a0 1),jA a0 2]).bind λL=>
 (K [I a,I b,I c,I (Af (nth .vD (nth [] [[I 17],[I 18],[I 19]] (gA G 0).toNat) 0))]).bind λD=>
 (J [I (O (8+gA M 0)),jA a0 0]).bind λN=>
 (J [I (O (8+gA M 0)),I (O (gA a0 0+gA L 0))]).bind λU=>
 (H [I (O (gA D 0-gA N 0)),I (O (gA D 1-gA N 1)),jA D 2,I (Af (nth .vD (nth [] [[I 17],[I 18],[I 19]] (gA G 0).toNat) 0))]).bind λa1=>
 cond (decide (gA L 0>0)) ((P [I 3, .vC Aa (wA L 1),jA L 2]).bind λY=>
 cond (gA Y 0==0) (cond (decide (O (8+gA M 0)=0)) (none) ((P [I 5, .vC Aa (wA Y 1),jA Y 2]).bind λa2=>
 cond (decide (O (8+gA M 0)=0)) (none) ((P [I 5, .vC Aa (wA a2 1),jA a2 2]).bind λa3=>
 Ug P H D G a b c a1 X L (.vC Aa (wA a3 1)) (jA a3 2) (I (O (O (gA D 0-gA N 0)+O (gA U 0+O (O ((gA U 0).tdiv (O (8+gA M 0)))*gA a2 0))))) (I (O (O (gA D 1-gA N 1)+O (gA U 1+O (O ((gA U 1).tdiv (O (8+gA M 0)))*gA a3 0)))))))) (Ug P H D G a b c a1 X L (.vC Aa (wA Y 1)) (jA Y 2) (I (O (O (gA D 0-gA N 0)+gA U 0))) (I (O (O (gA D 1-gA N 1)+gA U 1))))) (Ug P H D G a b c a1 X L (.vC Aa (wA L 1)) (jA L 2) (I (O (O (gA D 0-gA N 0)+gA U 0))) (I (O (O (gA D 1-gA N 1)+gA U 1))))) (none):=by kernel_rfl
def U9:=Qfl Sy SX Sl C0
instance:RI (Q3h U9):=rw1 (Qrs Sy SX Sl C0)
def Qvs:=qa 43 Zic Qra
def Qlq (D G:Fn):Cfg:=cp [Jn D,Q3h G] [41,85]
def Ya (D G:Fn):Fn:=mF (Qlq D G) 43 Zic Qra
abbrev Qc1 (Ao:Fn) (b1:List AC) (x3:Int) (a0 a1 a2 a3 a4 a5 a6 a7 a8 a9 G L M N U V X Y:AC):Option (List AC):=
 (Ao [I 60, .vC Aa (wA b1 1),jA b1 2]).bind λD=>
 cond (x3==6) ((Ao [I 2, .vC Aa (wA D 1),jA D 2]).bind λb0=>
 some [a0,a1,a2,a3,a4,a5,a6,a7,a8,a9,G,L,M,N,I (O (1+gA D 0)),B true,U,V,I 0,I (O (3+gA b0 0)),X,Y, .vC Aa (wA b0 1),jA b0 2]) (some [a0,a1,a2,a3,a4,a5,a6,a7,a8,a9,G,L,M,N,I (O (1+gA D 0)),B true,U,V,I 0,I 0,X,Y, .vC Aa (wA D 1),jA D 2])
abbrev Yx (x3:Int) (Ao:Fn) (Y a0 a1 a2 a3 a4 a5 a6 a7 a8 D G L M b4 a9 N O b5 b0 U V b2 b3:AC):Option (List AC):=
 cond (x3==1) (some [Y,a0,a1,a2,a3,a4,a5,a6,a7,a8,D,G,L,M,b4,a9,N,O,b5,b0,U,V,b2,b3]) ((Ao [I 5,b2,b3]).bind λb1=>
 cond (decide (0<=gA b1 0)&&decide (gA b1 0<(↑[[I 300000],[I 1],[I 60000],[I 2000000],[I 60000000]].length:Int))) ((Ao [I 5, .vC Aa (wA b1 1),jA b1 2]).bind λX=>
 cond (decide (0<=gA X 0)&&decide (gA X 0<(↑[[I 0],[I 1],[I 2],[I 4],[I 9]].length:Int))) (cond (x3==5) (Qc1 Ao X x3 Y a0 a1 a2 a3 a4 a5 a6 a7 a8 D G L M N O U V) (cond (x3==6) (Qc1 Ao X x3 Y a0 a1 a2 a3 a4 a5 a6 a7 a8 D G L M N O U V) (cond (x3==4) (some [Y,a0,a1,a2,a3,a4,a5,a6,a7,a8,D,G,L,M,I (Af (nth .vD (nth [] [[I 300000],[I 1],[I 60000],[I 2000000],[I 60000000]] (gA b1 0).toNat) 0)),a9,N,O,I 0,b0,U,V, .vC Aa (wA X 1),jA X 2]) (some [Y,a0,a1,a2,a3,a4,a5,a6,a7,a8,D,G,L,M,I (Af (nth .vD (nth [] [[I 300000],[I 1],[I 60000],[I 2000000],[I 60000000]] (gA b1 0).toNat) 0)),a9,N,O,I (Af (nth .vD (nth [] [[I 0],[I 1],[I 2],[I 4],[I 9]] (gA X 0).toNat) 0)),b0,U,V, .vC Aa (wA X 1),jA X 2])))) (none)) (none))
theorem Z65:Ya G H [I a,I b,I c,I d, .vC Aa A,I e]=
 cond (d==3) ((H [I a,I b,I c,I 8, .vC Aa A,I e]).bind λD=>
 Yx d G (jA D 0) (jA D 1) (jA D 2) (jA D 3) (jA D 4) (jA D 5) (jA D 6) (jA D 7) (jA D 8) (jA D 9) (jA D 10) (jA D 11) (jA D 12) (B (bA D 13)) (jA D 14) (B (bA D 15)) (jA D 16) (jA D 17) (jA D 18) (jA D 19) (jA D 20) (B (bA D 21)) (.vC Aa (wA D 22)) (jA D 23)) ((G [I 25, .vC Aa A,I e]).bind λL=>
 (G [I 25, .vC Aa (wA L 1),jA L 2]).bind λM=>
 (G [I 3, .vC Aa (wA M 1),jA M 2]).bind λN=>
 (G [I 9, .vC Aa (wA N 1),jA N 2]).bind λU=>
 (G [I 2, .vC Aa (wA U 1),jA U 2]).bind λV=>
 Yx d G (I d) (I 0) (I a) (I b) (I c) (I (O (O (a+gA L 0)-12))) (I (O (O (b+gA M 0)-12))) (I (O (O (c+O (gA N 0*gA U 0))-O (8*gA V 0)))) (I 0) (I 0) (I 0) (I 0) (I 0) (B false) (I 0) (B false) (I 0) (I 0) (I 0) (I 0) (I 0) (B false) (.vC Aa (wA V 1)) (jA V 2)):=by kernel_rfl
def Rf:=Ya C0 U9
instance:RI (Qvs Rf):=rw1 (Qlq C0 U9)
def Ziy:=qa 62 Zev Qra
def Q8b (D:Fn):Cfg:=cp [Jn D] [41]
def ZG (D:Fn):Fn:=mF (Q8b D) 62 Zev Qra
abbrev Qil (L:Fn) (o8:List AC):Option (List AC):=
 (L [I 16, .vC Aa (wA o8 1),jA o8 2]).bind λG=>
 (L [I 2, .vC Aa (wA G 1),jA G 2]).bind λD=>
 some [I 10,I 0,I 0,I 0,I 0,I 0,I 0,I 0,I 0,I 0,I 0,I 0,I 0,B false,I 0,B false,I 0,I 0,I 0,jA G 0,I 0,B (gA D 0==0), .vC Aa (wA D 1),jA D 2]
theorem Ztq:ZG H [.vC Aa A,I a]=
 (H [I 8, .vC Aa A,I a]).bind λo8=>
 cond (gA o8 0==0) (Qil H o8) (cond (gA o8 0==1) (Qil H o8) (cond (gA o8 0==2) ((H [I 5, .vC Aa (wA o8 1),jA o8 2]).bind λG=>
 some [I 7,I 0,I 0,I 0,I 0,I 0,I 0,I 0,I 0,I 0,I 0,I 0,I 0,B false,I 0,B false,I 0,I 0,I 0,jA G 0,I 0,B false, .vC Aa (wA G 1),jA G 2]) (cond (gA o8 0==3) ((H [I 3, .vC Aa (wA o8 1),jA o8 2]).bind λL=>
 (H [I 4000, .vC Aa (wA L 1),jA L 2]).bind λM=>
 some [I 8,I 0,I 0,I 0,I 0,I 0,I 0,I 0,I 0,I 0,I 0,I 0,I 0,B false,I 0,B false,I 0,I 0,I 0,I (O (3+gA L 0)),jA M 0,B false, .vC Aa (wA M 1),jA M 2]) (cond (gA o8 0==4) (some [I 9,I 0,I 0,I 0,I 0,I 0,I 0,I 0,I 0,I 0,I 0,I 0,I 0,B false,I 0,B false,I 0,I 0,I 0,I 8,I 0,B true, .vC Aa (wA o8 1),jA o8 2]) (cond (gA o8 0==5) (some [I 13,I 0,I 0,I 0,I 0,I 0,I 0,I 0,I 0,I 0,I 0,I 0,I 0,B false,I 0,B false,I 0,I 0,I 0,I 0,I 0,B false, .vC Aa (wA o8 1),jA o8 2]) (cond (gA o8 0==6) (some [I 12,I 0,I 0,I 0,I 0,I 0,I 0,I 0,I 0,I 0,I 0,I 0,I 0,B false,I 0,B false,I 0,I 0,I 0,I 0,I 0,B false, .vC Aa (wA o8 1),jA o8 2]) (some [I 11,I 0,I 0,I 0,I 0,I 0,I 0,I 0,I 0,I 0,I 0,I 0,I 0,B false,I 0,B false,I 0,I 0,I 0,I 1,I 0,B false, .vC Aa (wA o8 1),jA o8 2]))))))):=by kernel_rfl
def SE:=ZG C0
instance:RI (Ziy SE):=rw1 (Q8b C0)
def Q9d:Sk:=⟨[tf [sa Aa],tf [ci],tf [sb]],[],[]⟩
def Zfe:Sk:=⟨[tf [sd 8 22]],[],[(8,31,Ae)]⟩
def Zir:=qa 22 Q9d Zfe
def Zew (GT D G I L:Fn):Cfg:={cp [Qvs GT,Ziy D,Zb G,Jn I,Qn L] [43,62,42,41,40]with ownRes:=true,prom:=λb=>cond (Nat.beq b 4) ([(8,31)]) ([])}
def Qt7:Sk:=⟨[td,tf [ci],tf [sb],td,td,td,td,tf [sc 101300 0],tf [sd 8 22],tf [sc 9 0]]++dd 64,[(9,29,[ci,ci,ci]),(101300,95,[sa Aa,ci])],[(8,31,Ae)]⟩
def Qkt:List (Ex×Sk):=[(Ex.exit 0,⟨[td,td,tf [sb],td,td,td,td,td,tf [sd 8 22]]++dd 65,[],[(8,31,Ae)]⟩)]
def Qjq (GT D G I L:Fn):Lp:=sL (Zew GT D G I L) 22 4 Qt7 Qkt
def Zlh (GT D G I L:Fn) (M:Lp):Cfg:=(Zew GT D G I L).loop 4 Qt7 Qkt M
def Qjy (GT D G I L:Fn) (M:Lp):Fn:=mF (Zlh GT D G I L M) 22 Q9d Zfe
theorem Z9e:Qjq H J K M P [.vC Ae A,I a,B X,I b,I c,I d, .vC Aa C,I e]=
 cond (decide ((A.length:Int)<a)) ((K [.vC Aa C,I e]).bind λV=>
 cond (bA V 0) ((M [I 12, .vC Aa (wA V 1),jA V 2]).bind λL=>
 cond (decide (gA L 0<4)) ((J [.vC Aa (wA L 1),jA L 2]).bind λG=>
 cond (((A++[[jA G 0,jA G 1,jA G 2,jA G 3,jA G 4,jA G 5,jA G 6,jA G 7,jA G 8,jA G 9,jA G 10,jA G 11,jA G 12,B (bA G 13),jA G 14,B (bA G 15),jA G 16,jA G 17,jA G 18,jA G 19,jA G 20,B (bA G 21)]]).length*176).ble 140737488355328) (some (0,[.vC Ae (A++[[jA G 0,jA G 1,jA G 2,jA G 3,jA G 4,jA G 5,jA G 6,jA G 7,jA G 8,jA G 9,jA G 10,jA G 11,jA G 12,B (bA G 13),jA G 14,B (bA G 15),jA G 16,jA G 17,jA G 18,jA G 19,jA G 20,B (bA G 21)]]),I a,B X,I b,I c,I d, .vC Aa (wA G 22),jA G 23])) (none)) (cond (decide (0<=O (gA L 0-4))&&decide (O (gA L 0-4)<(↑[[I 2],[I 2],[I 2],[I 3],[I 1],[I 6],[I 5],[I 4]].length:Int))) ((H [I b,I c,I d,I (Af (nth .vD (nth [] [[I 2],[I 2],[I 2],[I 3],[I 1],[I 6],[I 5],[I 4]] (O (gA L 0-4)).toNat) 0)), .vC Aa (wA L 1),jA L 2]).bind λD=>
 cond (gA D 0==5) ((M [I 2, .vC Aa (wA D 22),jA D 23]).bind λN=>
 (M [I 3000, .vC Aa (wA N 1),jA N 2]).bind λU=>
 cond (((A++[[I 8,I 0,I 0,I 0,I 0,I 0,I 0,I 0,I 0,I 0,I 0,I 0,I 0,B false,I 0,B false,I 0,I 0,I 0,I (O (3+gA N 0)),I (O (200+gA U 0)),B false]]).length*176).ble 140737488355328) (cond (((A++[[I 8,I 0,I 0,I 0,I 0,I 0,I 0,I 0,I 0,I 0,I 0,I 0,I 0,B false,I 0,B false,I 0,I 0,I 0,I (O (3+gA N 0)),I (O (200+gA U 0)),B false]]++[[jA D 0,jA D 1,jA D 2,jA D 3,jA D 4,jA D 5,jA D 6,jA D 7,jA D 8,jA D 9,jA D 10,jA D 11,jA D 12,B (bA D 13),jA D 14,B (bA D 15),jA D 16,jA D 17,jA D 18,jA D 19,jA D 20,B (bA D 21)]]).length*176).ble 140737488355328) (some (0,[.vC Ae (A++[[I 8,I 0,I 0,I 0,I 0,I 0,I 0,I 0,I 0,I 0,I 0,I 0,I 0,B false,I 0,B false,I 0,I 0,I 0,I (O (3+gA N 0)),I (O (200+gA U 0)),B false]]++[[jA D 0,jA D 1,jA D 2,jA D 3,jA D 4,jA D 5,jA D 6,jA D 7,jA D 8,jA D 9,jA D 10,jA D 11,jA D 12,B (bA D 13),jA D 14,B (bA D 15),jA D 16,jA D 17,jA D 18,jA D 19,jA D 20,B (bA D 21)]]),I a,B X,jA D 5,jA D 6,jA D 7, .vC Aa (wA U 1),jA U 2])) (none)) (none)) (cond (((A++[[jA D 0,jA D 1,jA D 2,jA D 3,jA D 4,jA D 5,jA D 6,jA D 7,jA D 8,jA D 9,jA D 10,jA D 11,jA D 12,B (bA D 13),jA D 14,B (bA D 15),jA D 16,jA D 17,jA D 18,jA D 19,jA D 20,B (bA D 21)]]).length*176).ble 140737488355328) (some (0,[.vC Ae (A++[[jA D 0,jA D 1,jA D 2,jA D 3,jA D 4,jA D 5,jA D 6,jA D 7,jA D 8,jA D 9,jA D 10,jA D 11,jA D 12,B (bA D 13),jA D 14,B (bA D 15),jA D 16,jA D 17,jA D 18,jA D 19,jA D 20,B (bA D 21)]]),I a,B X,jA D 5,jA D 6,jA D 7, .vC Aa (wA D 22),jA D 23])) (none))) (none))) (some (1,[.vC Ae A,B X]))) (some (1,[.vC Ae A,B X])):=by kernel_rfl
theorem Z0w:Qjy H J K P Q Z [.vC Aa A,I a,B X]=
 (Q [.vC Aa A]).bind λN=>
 (P [I 9, .vC Aa (wA N 0),jA N 1]).bind λG=>
 (P [I 9, .vC Aa (wA G 1),jA G 2]).bind λL=>
 (P [I 9, .vC Aa (wA L 1),jA L 2]).bind λM=>
 (Z [.vC Ae [],I a,B X,I (O (gA G 0-4)),I (O (gA L 0-4)),I (O (gA M 0-4)), .vC Aa (wA M 1),jA M 2]).bind λD=>
 cond (D.1.beq 1) (cond (bA D.2 1) (cond (((wA D.2 0++[[I 14,I 0,I 0,I 0,I 0,I 0,I 0,I 0,I 0,I 0,I 0,I 0,I 0,B false,I 0,B false,I 0,I 0,I 0,I 0,I 0,B false]]).length*176).ble 140737488355328) (some [.vC Ae (wA D.2 0++[[I 14,I 0,I 0,I 0,I 0,I 0,I 0,I 0,I 0,I 0,I 0,I 0,I 0,B false,I 0,B false,I 0,I 0,I 0,I 0,I 0,B false]])]) (none)) (some [.vC Ae (wA D.2 0)])) (none):=by kernel_rfl
def Q0z:=Ak (Qjq Rf SE IK C0 DR)
def NU:=Qjy Rf SE IK C0 DR Q0z
instance r_cncmill_Items:RI (Zir NU):=rw2 (Zlh Rf SE IK C0 DR Q0z) (fl fb)
def Qk6:=qa 45 Q6v Qwz
def Q25 (D G:Fn):Cfg:=cp [Jn D,Qn G] [41,40]
def X3 (D G:Fn):Fn:=mF (Q25 D G) 45 Q6v Qwz
theorem Z5v:X3 H J [.vC Aa A]=
 (J [.vC Aa A]).bind λo4=>
 (H [I 900, .vC Aa (wA o4 0),jA o4 1]).bind λG=>
 (H [I 200, .vC Aa (wA G 1),jA G 2]).bind λo6=>
 (H [I 16000, .vC Aa (wA o6 1),jA o6 2]).bind λN=>
 some [I (O (1+gA G 0)),I (O (2+gA o6 0)),I (O (1+gA N 0))]:=by kernel_rfl
def XL:=X3 C0 DR
instance:RI (Qk6 XL):=rw1 (Q25 C0 DR)
def Qmc:Sk:=⟨[tT (cc 9++[sa Aa])],[(20000,95,[sa Aa,ci])],[]⟩
def Qtj:=qa 86 Zev Qmc
def Qq9 (D:Fn):Cfg:={spec:=GF [Jn D],eqOk:=KT,pure:=λf=> !(AV [41] f),ownOff:=Z0f}
def Qmx:Sk:=⟨[tf [sc 20000 0],td,tf [sc 2 0],tf [sc 3 0],tf [ci],tf [ci],tf [ci]]++dd 72,[(2,33,cc 9++[sd 1002009 1]),(3,33,cc 9++[sd 1003009 1]),(20000,95,[sa Aa,ci])],[(1002009,3,Aa),(1003009,3,Aa)]⟩
def Q1y:List (Ex×Sk):=[(Ex.exit 0,⟨[td,td,tf [sc 2 0],tf [sc 3 0]]++dd 75,[(2,33,cc 9++[sd 1002009 1]),(3,33,cc 9++[sd 1003009 1]),(20000,95,[sa Aa,ci])],[(1002009,3,Aa),(1003009,3,Aa)]⟩)]
def T3 (D:Fn):Lp:=sL (Qq9 D) 86 11 Qmx Q1y
def Qmv (G:Fn) (D:Lp):Cfg:=(Qq9 G).loop 11 Qmx Q1y D
def Yc (G:Fn) (D:Lp):Fn:=mF (Qmv G D) 86 Zev Qmc
theorem Zdg:T3 G [.vC Aa A, .vC Aa C,I a,I b,I c,I d,I e,I f,I g,I h,I i,I j,I k,I l,I m,I n,I o,I p,I q,I r,I s,I t,I u, .vC Aa E,I v]=
 cond (decide (c<a)) (cond (((C++[[I b]]).length*8).ble 140737488355328) ((G [I (O (O (2*O (u.tdiv 4))+1)), .vC Aa E,I v]).bind λY=>
 some (0,[.vC Aa A, .vC Aa (C++[[I b]]),I a,I (mn (mx (O (O (b+gA Y 0)-O (u.tdiv 4))) (-4096)) 4096),I (O (c+1)),I d,I e,I f,I g,I h,I i,I j,I k,I l,I m,I n,I o,I p,I q,I r,I s,I t,I u, .vC Aa (wA Y 1),jA Y 2])) (none)) (some (1,[.vC Aa A, .vC Aa C,I d,I e,I f,I g,I h,I i,I j,I k,I l,I m,I n,I o,I p,I q,I r,I s,I t,I u, .vC Aa E,I v])):=by kernel_rfl
theorem Zqk:Yc H Z [.vC Aa A,I a]=
 (H [I 6, .vC Aa A,I a]).bind λG=>
 cond (decide (0<=gA G 0)&&decide (gA G 0<(↑[[I 8],[I 4],[I 5],[I 16],[I 23],[I 64]].length:Int))) ((H [I 4, .vC Aa (wA G 1),jA G 2]).bind λL=>
 cond (decide (0<=gA L 0)&&decide (gA L 0<(↑[[I 0],[I 1],[I 3],[I 6]].length:Int))) ((H [I 5, .vC Aa (wA L 1),jA L 2]).bind λM=>
 cond (decide (0<=gA M 0)&&decide (gA M 0<(↑[[I 40],[I 1],[I 3],[I 9],[I 1000]].length:Int))) ((H [I 5, .vC Aa (wA M 1),jA M 2]).bind λN=>
 cond (decide (0<=gA N 0)&&decide (gA N 0<(↑[[I 20],[I 2],[I 3],[I 5],[I 1000]].length:Int))) ((H [I 5, .vC Aa (wA N 1),jA N 2]).bind λU=>
 cond (decide (0<=gA U 0)&&decide (gA U 0<(↑[[I 30],[I 4],[I 5],[I 8],[I 1000]].length:Int))) ((H [I 5, .vC Aa (wA U 1),jA U 2]).bind λV=>
 cond (gA V 0==0) (some [I (Af (nth .vD (nth [] [[I 8],[I 4],[I 5],[I 16],[I 23],[I 64]] (gA G 0).toNat) 0)),I (Af (nth .vD (nth [] [[I 40],[I 1],[I 3],[I 9],[I 1000]] (gA M 0).toNat) 0)),I (Af (nth .vD (nth [] [[I 20],[I 2],[I 3],[I 5],[I 1000]] (gA N 0).toNat) 0)),I (Af (nth .vD (nth [] [[I 30],[I 4],[I 5],[I 8],[I 1000]] (gA U 0).toNat) 0)),I (-16777216),I 16777216,I (Af (nth .vD (nth [] [[I 0],[I 1],[I 3],[I 6]] (gA L 0).toNat) 0)),I 0,I 0, .vC Aa [], .vC Aa (wA V 1),jA V 2]) ((H [I 400, .vC Aa (wA V 1),jA V 2]).bind λY=>
 (H [I 120, .vC Aa (wA Y 1),jA Y 2]).bind λa0=>
 (H [I 9, .vC Aa (wA a0 1),jA a0 2]).bind λa1=>
 (Z [.vC Aa [], .vC Aa [],jA V 0,I (O (gA a1 0-4)),I 0,I 0,I 0,I 0,I 0,I 0,I 0,I 0,I 0,I 0,I (Af (nth .vD (nth [] [[I 8],[I 4],[I 5],[I 16],[I 23],[I 64]] (gA G 0).toNat) 0)),I (Af (nth .vD (nth [] [[I 40],[I 1],[I 3],[I 9],[I 1000]] (gA M 0).toNat) 0)),I (Af (nth .vD (nth [] [[I 20],[I 2],[I 3],[I 5],[I 1000]] (gA N 0).toNat) 0)),I (Af (nth .vD (nth [] [[I 30],[I 4],[I 5],[I 8],[I 1000]] (gA U 0).toNat) 0)),I (-16777216),I 16777216,I (Af (nth .vD (nth [] [[I 0],[I 1],[I 3],[I 6]] (gA L 0).toNat) 0)),I (O (gA Y 0-200)),I (O (4+gA a0 0)), .vC Aa (wA a1 1),jA a1 2]).bind λD=>
 cond (D.1.beq 1) (some [jA D.2 11,jA D.2 12,jA D.2 13,jA D.2 14,jA D.2 15,jA D.2 16,jA D.2 17,jA D.2 18,jA D.2 19, .vC Aa (wA D.2 1), .vC Aa (wA D.2 20),jA D.2 21]) (none))) (none)) (none)) (none)) (none)) (none):=by kernel_rfl
def Qjb:=Ak (T3 C0)
def Rl:=Yc C0 Qjb
instance:RI (Qtj Rl):=rw2 (Qmv C0 Qjb) (fl fb)
def Zc1:Sk:=⟨[tT cX],[],[]⟩
def Zgi:=qa 44 Q6v Zc1
def Q22 (D G:Fn):Cfg:=cp [Qtj D,Qn G] [86,40]
def Qwx (D G:Fn):Fn:=mF (Q22 D G) 44 Q6v Zc1
theorem Yd4:Qwx H J [.vC Aa A]=
 (J [.vC Aa A]).bind λo4=>
 (H [.vC Aa (wA o4 0),jA o4 1]).bind λD=>
 (H [.vC Aa (wA D 10),jA D 11]).bind λo6=>
 (H [.vC Aa (wA o6 10),jA o6 11]).bind λG=>
 some [jA D 0,jA D 1,jA D 2,jA D 3,jA D 4,jA D 5,jA D 6,jA D 7,jA D 8, .vC Aa (wA D 9),jA o6 0,jA o6 1,jA o6 2,jA o6 3,jA o6 4,jA o6 5,jA o6 6,jA o6 7,jA o6 8, .vC Aa (wA o6 9),jA G 0,jA G 1,jA G 2,jA G 3,jA G 4,jA G 5,jA G 6,jA G 7,jA G 8, .vC Aa (wA G 9)]:=by kernel_rfl
def SC:=Qwx Rl DR
instance:RI (Zgi SC):=rw1 (Q22 Rl DR)
def Zm3:Sk:=⟨[tf [sa Aa],tf [sa Aa]],[],[]⟩
def Quf:=qa 14 Zm3 Qm8
def Qm1 (D G I L:Fn):Cfg:=cp [Jn D,Qk6 G,Zgi I,Qn L] [41,40]
def Zq (D G I L:Fn):Fn:=mF (Qm1 D G I L) 14 Zm3 Qm8
theorem Z5m:Zq G H J K [.vC Aa A, .vC Aa C]=
 (K [.vC Aa C]).bind λX=>
 (J [.vC Aa A]).bind λo6=>
 (H [.vC Aa C]).bind λL=>
 (G [I 60000, .vC Aa (wA X 0),I (mn 3 (C.length:Int))]).bind λo8=>
 (G [I 40, .vC Aa (wA o8 1),jA o8 2]).bind λY=>
 some [jA o6 0,jA o6 1,jA o6 2,jA o6 3,jA o6 4,jA o6 5,jA o6 6,jA o6 7,jA o6 8, .vC Aa (wA o6 9),jA o6 10,jA o6 11,jA o6 12,jA o6 13,jA o6 14,jA o6 15,jA o6 16,jA o6 17,jA o6 18, .vC Aa (wA o6 19),jA o6 20,jA o6 21,jA o6 22,jA o6 23,jA o6 24,jA o6 25,jA o6 26,jA o6 27,jA o6 28, .vC Aa (wA o6 29),jA L 0,jA L 1,jA L 2,I (O (1+gA o8 0)),jA Y 0]:=by kernel_rfl
def Px:=Zq C0 XL SC DR
instance r_cncmill_Machine:RI (Quf Px):=rw1 (Qm1 C0 XL SC DR)
attribute [go_sem] XM PR Ks Qjj Qd0 Qci Zf Sg Wy Uh Ui Vg Qbg ST ZT Qe3 Qeg Qcs Mx SO Rq S8 Ug Qc1 Yx Qil
end Go.Bm
