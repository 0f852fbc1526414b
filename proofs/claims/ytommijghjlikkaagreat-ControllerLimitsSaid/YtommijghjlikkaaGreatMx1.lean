/- functions of the program and of the references, as models -/
import Derived.Test.YtommijghjlikkaaGreatSeShelf
import Derived.Test.YtommijghjlikkaaGreatSeExt
import Derived.Test.YtommijghjlikkaaGreatSePre
import Derived.Test.YtommijghjlikkaaGreatSeKc
import Derived.Test.YtommijghjlikkaaGreatBmTy
set_option linter.unusedSimpArgs false
set_option linter.unusedVariables false
set_option maxRecDepth 100000
noncomputable section
open Go.IntKind (wrap)
namespace Go.Bm
open Go.Proofs
def qa (n:Nat) (s o:Sk) (M:Fn):Nat×Spec:=(n,Ad s o M)
abbrev Z6m (v0:Rw) (E G J L M N O S:Int) (D:AC):Option (Nat×List AC):=
 cond (decide (gA (nth [] v0 E.toNat) 1=(↑0:Int))) (some (0,[.vC kPt v0,I G,I (V (E+1)),I J,I L,I M,D,I N,I O])) (cond (decide (gA (nth [] v0 E.toNat) 1=(↑(0+1):Int))) (some (0,[.vC kPt v0,I G,I (V (E+1)),I J,I L,I M,I S,D,I O])) (cond (decide (gA (nth [] v0 E.toNat) 1=(↑(0+1+1):Int))) (some (0,[.vC kPt v0,I G,I (V (E+1)),I J,I L,I M,I S,I N,D])) (none)))
def Qbu:Sk:=⟨[TS.v true (cc 9++[sa Aa]),tf [ci]],[],[]⟩
def Qar:Sk:=⟨[tf [ci]],[],[]⟩
def Zb9:=qa 77 Qbu Qar
def Qdd:Cfg:=cf []
def Q7s:Fn:=Ao PG Qdd 64 77 Qbu Qar
theorem Zhe (G J L M N O E S T:Int) (U:Rw) (D:Int):Q7s [I G,I J,I L,I M,I N,I O,I E,I S,I T, .vC Aa U,I D]=
 cond (D== -1) (some [I (V (0-E))]) (some [I 0]):=by kernel_rfl
def Ke:=Q7s
theorem Zhu:Aj PG (Qdd):=Ap rfl trivial
theorem Q4z:An PG (Zb9 Ke):=rw1 (C:=Qdd) Zhu
def Qem:Sk:=⟨[TS.v true (cc 9++[sa Aa]),TS.v true (cc 10),tf [ci],tf [ci]],[],[]⟩
def Ybw:=qa 78 Qem Qar
def X5 (D:Fn):Cfg:=cf [Zb9 D]
def QW (D:Fn):Fn:=Ao PG (X5 D) 64 78 Qem Qar
abbrev W9 (D:Int) (E:Fn) (G J L M N O S T U:Int) (V:Rw) (X Y a0:Int):Option (List AC):=
 cond (decide (D=(↑0:Int))) ((E [I G,I J,I L,I M,I N,I O,I S,I T,I U, .vC Aa V,I X]).bind λa1=>
 some [jA a1 0]) (cond (decide (D=(↑(0+1):Int))) ((E [I G,I J,I L,I M,I N,I O,I S,I T,I U, .vC Aa V,I Y]).bind λa2=>
 some [jA a2 0]) (cond (decide (D=(↑(0+1+1):Int))) ((E [I G,I J,I L,I M,I N,I O,I S,I T,I U, .vC Aa V,I a0]).bind λa3=>
 some [jA a3 0]) (none)))
abbrev UX (D E J:Int) (G:Bool):Option (List AC):=
 cond (G) (some [I (V (0-mn (V (D-E)) J))]) (some [I (V (mn (V (D-E)) J-J))])
abbrev VX (D:Int) (O:Fn) (S T U V X Y N x7 x8:Int) (x9:Rw) (I J L E G:Int) (M:Bool):Option (List AC):=
 cond (M) (W9 D O S T U V X Y N x7 x8 x9 I J L) (cond (decide (D=(↑0:Int))) (UX E G N (I== -1)) (cond (decide (D=(↑(0+1):Int))) (UX E G N (J== -1)) (cond (decide (D=(↑(0+1+1):Int))) (UX E G N (L== -1)) (none))))
abbrev Uw (D:Int) (S:Fn) (T U V X Y x5 x6 x7 x8:Int) (x9:Rw) (E G I J L:Int) (M N O:Bool):Option (List AC):=
 cond (decide (D=(↑0:Int))) (VX D S T U V X Y x5 x6 x7 x8 x9 E G I J L M) (cond (decide (D=(↑(0+1):Int))) (VX D S T U V X Y x5 x6 x7 x8 x9 E G I J L N) (cond (decide (D=(↑(0+1+1):Int))) (VX D S T U V X Y x5 x6 x7 x8 x9 E G I J L O) (none)))
theorem Qma (T:Fn) (U V X Y x4 x5 x6 x7 x8:Int) (x9:Rw) (L a1 a2 a0 M N O D E G J S:Int):QW T [I U,I V,I X,I Y,I x4,I x5,I x6,I x7,I x8, .vC Aa x9,I L,I a1,I a2,I a0,I M,I N,I O,I D,I E,I G,I J,I S]=
 cond (a0 !=0) (W9 J T U V X Y x4 x5 x6 x7 x8 x9 D E G) (cond (decide (J=(↑0:Int))) (Uw J T U V X Y x4 x5 x6 x7 x8 x9 D E G S L (M==D) (M==E) (M==G)) (cond (decide (J=(↑(0+1):Int))) (Uw J T U V X Y x4 x5 x6 x7 x8 x9 D E G S L (N==D) (N==E) (N==G)) (cond (decide (J=(↑(0+1+1):Int))) (Uw J T U V X Y x4 x5 x6 x7 x8 x9 D E G S L (O==D) (O==E) (O==G)) (none)))):=by kernel_rfl
def Td:=QW Ke
theorem Zke:Aj PG (X5 Ke):=Ap rfl ⟨Q4z,trivial⟩
theorem Zy2:An PG (Ybw Td):=rw1 (C:=X5 Ke) Zke
def Z4y:=qa 118 Qbu Qar
def Q97:Fn:=Ao PG Qdd 64 118 Qbu Qar
theorem Zju (D G J L M N O S T:Int) (U:Rw) (E:Int):Q97 [I D,I G,I J,I L,I M,I N,I O,I S,I T, .vC Aa U,I E]=
 cond (decide (D<=0)) (some [I 0]) (cond (decide (V (2*D)<=0)) (some [I 0]) (cond (decide (V (2*D)=0)) (none) (cond (decide (V (2*D)=0)) (none) (cond (decide ((V (V (2*E)+D)).tmod (V (2*D))<0)) (some [I (V (V ((V (V (2*E)+D)).tdiv (V (2*D)))-1))]) (some [I (V ((V (V (2*E)+D)).tdiv (V (2*D))))]))))):=by kernel_rfl
def Li:=Q97
theorem Zg8:An PG (Z4y Li):=rw1 (C:=Qdd) Zhu
def ZT:Sk:=⟨[tf [si .u64],tf [sb]],[],[]⟩
def Zd:Sk:=⟨[TS.tup [(false,[ci]),(false,[sb])]],[],[]⟩
def Xv:=qa 136 ZT Zd
def Qjh:Fn:=Ao PG Qdd 64 136 ZT Zd
theorem Qrw (D:Int) (E:Bool):Qjh [U D,B E]=
 cond (E) (cond (decide (D<=9223372036854775808)) (some [I (V (wrap .u64 (0-D))),B true]) (cond (!E) (cond (decide (D<9223372036854775808)) (some [I (V D),B true]) (some [I 0,B false])) (some [I 0,B false]))) (cond (!E) (cond (decide (D<9223372036854775808)) (some [I (V D),B true]) (some [I 0,B false])) (some [I 0,B false])):=by kernel_rfl
def FK:=Qjh
theorem Qlz:An PG (Xv FK):=rw1 (C:=Qdd) Zhu
def Qgk:Sk:=⟨[tf [ci],tf [ci],tf [sb],tf [sb]],[],[]⟩
def Qrs:Sk:=⟨[tf [sb]],[],[]⟩
def Q65:=qa 135 Qgk Qrs
def Qm0:Fn:=Ao PG Qdd 64 135 Qgk Qrs
theorem Q3e (E G:Int) (J D:Bool):Qm0 [I E,I G,B J,B D]=
 cond (E==0) (cond (J) (some [B D]) (some [B false])) (cond (E==1) (cond (J) (some [B !D]) (some [B false])) (cond (decide (G>0)) (some [B true]) (cond (G==0) (some [B !D]) (some [B false])))):=by kernel_rfl
def ID:=Qm0
theorem Zfo:An PG (Q65 ID):=rw1 (C:=Qdd) Zhu
def Z5:Sk:=⟨[tf [ci],tf [ci]],[],[]⟩
def Yi:=qa 134 Z5 Qar
def Qkp:Fn:=Ao PG Qdd 64 134 Z5 Qar
theorem Qwt (D E:Int):Qkp [I D,I E]=
 cond (D==0) (some [I 0]) (cond (E==0) (some [I 0]) (cond (decide (D<0)==decide (E<0)) (some [I 1]) (some [I (-1)]))):=by kernel_rfl
def Gy:=Qkp
theorem Qfk:An PG (Yi Gy):=rw1 (C:=Qdd) Zhu
def Xk:Sk:=⟨[tf [si .u64],tf [si .u64],tf [si .u64]],[],[]⟩
def Qpi:Sk:=⟨[TS.tup [(false,[si .u64]),(false,[si .u64])]],[],[]⟩
def Zdp:=qa 133 Xk Qpi
def YN (D:Fn):Cfg:=cf [(176,Ad Zdh Zcj D)]
def Qvs:Sk:=⟨[td,td,tf [si .u64],td,td,td,td,td,tf [si .u64],tf [si .u64],tf [si .u64],tf [si .u64],td,tf [si .u64],tf [si .u64],tf [si .u64],tf [si .u64]]++dd 118,[],[]⟩
def Q9h:List (Ex×Sk):=[(Ex.exit 0,⟨[td,td,tf [si .u64],td,td,td,td,td,tf [si .u64],tf [si .u64],tf [si .u64],tf [si .u64],td,tf [si .u64],tf [si .u64],tf [si .u64]]++dd 119,[],[]⟩)]
def Nd (D:Fn):Lp:=A9 PG (YN D) 64 17 (A8 PG 133 17) Qvs Q9h
def Q7b (E:Fn) (D:Lp):Cfg:=(YN E).loop 17 Qvs Q9h D
def Qyq:Sk:=⟨[td,td,tf [si .u64],td,td,td,td,td,tf [si .u64],tf [si .u64],tf [si .u64],td,td,td,tf [si .u64],tf [si .u64],tf [si .u64],tf [si .u64],tf [si .u64]]++dd 116,[],[]⟩
def Q7d:List (Ex×Sk):=[(Ex.exit 2,⟨[td,td,tf [si .u64],td,td,td,td,td,tf [si .u64],td,td,td,td,td,tf [si .u64],tf [si .u64],td,tf [si .u64],tf [si .u64]]++dd 116,[],[]⟩)]
def Ql (E:Fn) (D:Lp):Lp:=A9 PG (Q7b E D) 64 24 (A8 PG 133 24) Qyq Q7d
def Q3f (G:Fn) (D E:Lp):Cfg:=(Q7b G D).loop 24 Qyq Q7d E
def Qfp (G:Fn) (D E:Lp):Fn:=Ao PG (Q3f G D E) 64 133 Xk Qpi
theorem Zro (Et:Fn) (v0 J D G L I M E N:Int):Nd Et [U v0,U J,U D,U G,U L,U I,U M,U E,U N]=
 cond (decide (E>=4294967296)) (cond (decide (wrap .u64 (N+D)>=4294967296)) (some (1,[U v0,U J,U D,U G,U L,U I,U M,U (wrap .u64 (E-1))])) (some (0,[U v0,U J,U D,U G,U L,U I,U M,U (wrap .u64 (E-1)),U (wrap .u64 (N+D))]))) (cond (decide (wrap .u64 (E*G)>wrap .u64 (wrap .u64 (4294967296*N)+I))) (cond (decide (wrap .u64 (N+D)>=4294967296)) (some (1,[U v0,U J,U D,U G,U L,U I,U M,U (wrap .u64 (E-1))])) (some (0,[U v0,U J,U D,U G,U L,U I,U M,U (wrap .u64 (E-1)),U (wrap .u64 (N+D))]))) (some (1,[U v0,U J,U D,U G,U L,U I,U M,U E]))):=by kernel_rfl
theorem Zp5 (Et:Fn) (N17:Lp) (v0 I E N G J L M D:Int):Ql Et N17 [U v0,U I,U E,U N,U G,U J,U L,U M,U D]=
 cond (decide (D>=4294967296)) (cond (decide (wrap .u64 (L+E)>=4294967296)) (some (1,[U v0,U I,U G,U J,U M,U (wrap .u64 (D-1))])) (some (0,[U v0,U I,U E,U N,U G,U J,U (wrap .u64 (L+E)),U M,U (wrap .u64 (D-1))]))) (cond (decide (wrap .u64 (D*N)>wrap .u64 (wrap .u64 (4294967296*L)+G))) (cond (decide (wrap .u64 (L+E)>=4294967296)) (some (1,[U v0,U I,U G,U J,U M,U (wrap .u64 (D-1))])) (some (0,[U v0,U I,U E,U N,U G,U J,U (wrap .u64 (L+E)),U M,U (wrap .u64 (D-1))]))) (some (1,[U v0,U I,U G,U J,U M,U D]))):=by kernel_rfl
theorem Q2s (O:Fn) (M N:Lp) (L I G:Int):Qfp O M N [U L,U I,U G]=
 cond (G==0) (none) (cond (decide (G<=L)) (none) (cond (L==0) (cond (decide (G=0)) (none) (cond (decide (G=0)) (none) (some [U (wrap .u64 (I.tdiv G)),U (I.tmod G)]))) ((O [U G]).bind λE=>
 cond (decide (wrap .u64 (gA E 0)<0)) (none) (cond (decide (wrap .u64 (gA E 0)<0)) (none) (cond (decide (wrap .u64 (64-wrap .u64 (gA E 0))<0)) (none) (cond (decide (wrap .u64 (gA E 0)<0)) (none) (cond (decide ((wrap .u64 (G*2^min (wrap .u64 (gA E 0)).toNat IntKind.u64.bits)).fdiv (2^min (Int.toNat 32) IntKind.u64.bits)=0)) (none) ((M [U (wrap .u64 (G*2^min (wrap .u64 (gA E 0)).toNat IntKind.u64.bits)),U (wrap .u64 (gA E 0)),U ((wrap .u64 (G*2^min (wrap .u64 (gA E 0)).toNat IntKind.u64.bits)).fdiv (2^min (Int.toNat 32) IntKind.u64.bits)),U (wrap .u64 (↑(BitVec.ofInt IntKind.u64.bits (wrap .u64 (G*2^min (wrap .u64 (gA E 0)).toNat IntKind.u64.bits))&&&BitVec.ofInt IntKind.u64.bits 4294967295).toNat:Int)),U (wrap .u64 (↑(BitVec.ofInt IntKind.u64.bits (wrap .u64 (L*2^min (wrap .u64 (gA E 0)).toNat IntKind.u64.bits))|||BitVec.ofInt IntKind.u64.bits (I.fdiv (2^min (wrap .u64 (64-wrap .u64 (gA E 0))).toNat IntKind.u64.bits))).toNat:Int)),U ((wrap .u64 (I*2^min (wrap .u64 (gA E 0)).toNat IntKind.u64.bits)).fdiv (2^min (Int.toNat 32) IntKind.u64.bits)),U (wrap .u64 (↑(BitVec.ofInt IntKind.u64.bits (wrap .u64 (I*2^min (wrap .u64 (gA E 0)).toNat IntKind.u64.bits))&&&BitVec.ofInt IntKind.u64.bits 4294967295).toNat:Int)),U (wrap .u64 ((wrap .u64 (↑(BitVec.ofInt IntKind.u64.bits (wrap .u64 (L*2^min (wrap .u64 (gA E 0)).toNat IntKind.u64.bits))|||BitVec.ofInt IntKind.u64.bits (I.fdiv (2^min (wrap .u64 (64-wrap .u64 (gA E 0))).toNat IntKind.u64.bits))).toNat:Int)).tdiv ((wrap .u64 (G*2^min (wrap .u64 (gA E 0)).toNat IntKind.u64.bits)).fdiv (2^min (Int.toNat 32) IntKind.u64.bits)))),U (wrap .u64 (wrap .u64 (↑(BitVec.ofInt IntKind.u64.bits (wrap .u64 (L*2^min (wrap .u64 (gA E 0)).toNat IntKind.u64.bits))|||BitVec.ofInt IntKind.u64.bits (I.fdiv (2^min (wrap .u64 (64-wrap .u64 (gA E 0))).toNat IntKind.u64.bits))).toNat:Int)-wrap .u64 (wrap .u64 ((wrap .u64 (↑(BitVec.ofInt IntKind.u64.bits (wrap .u64 (L*2^min (wrap .u64 (gA E 0)).toNat IntKind.u64.bits))|||BitVec.ofInt IntKind.u64.bits (I.fdiv (2^min (wrap .u64 (64-wrap .u64 (gA E 0))).toNat IntKind.u64.bits))).toNat:Int)).tdiv ((wrap .u64 (G*2^min (wrap .u64 (gA E 0)).toNat IntKind.u64.bits)).fdiv (2^min (Int.toNat 32) IntKind.u64.bits)))*(wrap .u64 (G*2^min (wrap .u64 (gA E 0)).toNat IntKind.u64.bits)).fdiv (2^min (Int.toNat 32) IntKind.u64.bits))))]).bind λD=>
 cond (D.1.beq 1) (cond (decide (gA D.2 2=0)) (none) ((N [U (gA D.2 0),U (gA D.2 1),U (gA D.2 2),U (gA D.2 3),U (gA D.2 6),U (gA D.2 7),U (wrap .u64 (wrap .u64 (wrap .u64 (wrap .u64 (gA D.2 4*4294967296)+gA D.2 5)-wrap .u64 (gA D.2 7*gA D.2 0))-wrap .u64 (wrap .u64 ((wrap .u64 (wrap .u64 (wrap .u64 (gA D.2 4*4294967296)+gA D.2 5)-wrap .u64 (gA D.2 7*gA D.2 0))).tdiv (gA D.2 2))*gA D.2 2))),U (wrap .u64 (wrap .u64 (wrap .u64 (gA D.2 4*4294967296)+gA D.2 5)-wrap .u64 (gA D.2 7*gA D.2 0))),U (wrap .u64 ((wrap .u64 (wrap .u64 (wrap .u64 (gA D.2 4*4294967296)+gA D.2 5)-wrap .u64 (gA D.2 7*gA D.2 0))).tdiv (gA D.2 2)))]).bind λJ=>
 cond (J.1.beq 1) (cond (decide (gA J.2 1<0)) (none) (some [U (wrap .u64 (wrap .u64 (gA J.2 3*4294967296)+gA J.2 5)),U ((wrap .u64 (wrap .u64 (wrap .u64 (gA J.2 4*4294967296)+gA J.2 2)-wrap .u64 (gA J.2 5*gA J.2 0))).fdiv (2^min (gA J.2 1).toNat IntKind.u64.bits))])) (none))) (none))))))))):=by kernel_rfl
def VD:=Am (Nd Jt)
def Qij:=Am (Ql Jt VD)
def Hl:=Qfp Jt VD Qij
theorem Qsd:Aj PG (YN Jt):=Ap rfl ⟨Z0k,trivial⟩
theorem Qup:An PG (Zdp Hl):=rw2 (C:=Q3f Jt VD Qij) (fl (fl fb Qsd) Qsd) Qsd
def Qlq:Sk:=⟨[tf [si .u64],tf [si .u64]],[],[]⟩
def Qec:Sk:=⟨[TS.v true [si .u64,si .u64]],[],[]⟩
def UU:=qa 131 Qlq Qec
def Zt (D:Fn):Cfg:=cf [(175,Ad Qa9 Wd D)]
def Zck (D:Fn):Fn:=Ao PG (Zt D) 64 131 Qlq Qec
theorem Zma (D:Fn) (E G:Int):Zck D [U E,U G]=
 (D [U E,U G]).bind λo1=>
 some [U (gA o1 0),U (gA o1 1)]:=by kernel_rfl
def Ff:=Zck I2
theorem Zkg:Aj PG (Zt I2):=Ap rfl ⟨Qxv,trivial⟩
theorem VF:An PG (UU Ff):=rw1 (C:=Zt I2) Zkg
def Qc0:Sk:=⟨[tf [si .u64]],[],[]⟩
def Qdp:=qa 132 Qar Qc0
def Qu5:Fn:=Ao PG Qdd 64 132 Qar Qc0
theorem Zgb (D:Int):Qu5 [I D]=
 cond (decide (D<0)) (some [U (wrap .u64 (wrap .u64 (V (0-V (D+1)))+1))]) (some [U (wrap .u64 D)]):=by kernel_rfl
def GS:=Qu5
theorem WN:An PG (Qdp GS):=rw1 (C:=Qdd) Zhu
def Qru:=qa 130 Qar Qrs
def WB:Fn:=Ao PG Qdd 64 130 Qar Qrs
theorem Q6r (D:Int):WB [I D]=
 cond (D==0) (some [B true]) (cond (D==1) (some [B true]) (some [B (D==2)])):=by kernel_rfl
def Gw:=WB
theorem Qpa:An PG (Qru Gw):=rw1 (C:=Qdd) Zhu
def Ye:Sk:=⟨[tf [ci],tf [ci],tf [ci],tf [ci]],[],[]⟩
def Nw:=qa 83 Ye Zd
def Qrt (D E G I J L M:Fn):Cfg:=cf [Xv D,Q65 E,Yi G,Zdp I,UU J,Qdp L,Qru M]
def T6 (D E G I J L M:Fn):Fn:=Ao PG (Qrt D E G I J L M) 64 83 Ye Zd
abbrev V4 (O:Fn) (S:Int) (E:List AC) (N:Fn) (G D:AC):Option (List AC):=
 (O [I S,G,B (decide (gA E 1>0)),D]).bind λM=>
 cond (bA M 0) (cond (wrap .u64 (gA E 0+1)==0) (some [I 0,B false]) ((N [U (wrap .u64 (gA E 0+1)),D]).bind λJ=>
 some [jA J 0,B (bA J 1)])) ((N [U (gA E 0),D]).bind λL=>
 some [jA L 0,B (bA L 1)])
abbrev WT (D G:List AC) (J:Fn) (L:Int) (M:Fn) (E:AC):Option (List AC):=
 cond (decide (gA D 1>wrap .u64 (gA G 0-gA D 1))) (V4 J L D M (I 1) E) (cond (decide (gA D 1<wrap .u64 (gA G 0-gA D 1))) (V4 J L D M (I (-1)) E) (V4 J L D M (I 0) E))
theorem Zcd (S T V Gs BV J Ei:Fn) (L M N O:Int):T6 S T V Gs BV J Ei [I L,I M,I N,I O]=
 cond (N==0) (some [I 0,B false]) ((Ei [I O]).bind λX=>
 cond (!bA X 0) (some [I 0,B false]) ((J [I L]).bind λY=>
 (J [I M]).bind λa0=>
 (BV [U (gA Y 0),U (gA a0 0)]).bind λE=>
 (J [I N]).bind λD=>
 cond (decide (gA E 0>=gA D 0)) (some [I 0,B false]) ((Gs [U (gA E 0),U (gA E 1),U (gA D 0)]).bind λG=>
 (V [I L,I M]).bind λa1=>
 cond (!decide (gA a1 0<0)==decide (N<0)) ((V [I L,I M]).bind λa2=>
 WT G D T O S (B (gA a2 0 !=0))) (WT G D T O S (B false))))):=by kernel_rfl
def BO:=T6 FK ID Gy Hl Ff GS Gw
theorem Z27:Aj PG (Qrt FK ID Gy Hl Ff GS Gw):=Ap rfl ⟨Qlz,Zfo,Qfk,Qup,VF,WN,Qpa,trivial⟩
theorem L0:An PG (Nw BO):=rw1 (C:=Qrt FK ID Gy Hl Ff GS Gw) Z27
def Zyx:=qa 119 Qbu Qar
def Wj (D:Fn):Cfg:=cf [Nw D]
def Q2q (D:Fn):Fn:=Ao PG (Wj D) 64 119 Qbu Qar
theorem Z1v (L:Fn) (M N O S T U X J G:Int) (E:Rw) (D:Int):Q2q L [I M,I N,I O,I S,I T,I U,I X,I J,I G, .vC Aa E,I D]=
 cond (decide (V ((E.length:Int)-1)<0)) (some [I 0]) (cond (decide (V (D-J)<=0)) (cond (decide (0<=0)&&decide (0<(E.length:Int))) (some [jA (nth [] E 0) 0]) (none)) (cond (decide (G<=0)) (cond (decide (0<=0)&&decide (0<(E.length:Int))) (some [jA (nth [] E 0) 0]) (none)) (cond (decide (G=0)) (none) (cond (decide (V ((V (D-J)).tdiv G)>=V ((E.length:Int)-1))) (cond (decide (0<=V ((E.length:Int)-1))&&decide (V ((E.length:Int)-1)<(E.length:Int))) (some [jA (nth [] E (V ((E.length:Int)-1)).toNat) 0]) (none)) (cond (decide (0<=V (V ((V (D-J)).tdiv G)+1))&&decide (V (V ((V (D-J)).tdiv G)+1)<(E.length:Int))) (cond (decide (0<=V ((V (D-J)).tdiv G))&&decide (V ((V (D-J)).tdiv G)<(E.length:Int))) ((L [I (V (Af (nth .vD (nth [] E (V (V ((V (D-J)).tdiv G)+1)).toNat) 0)-Af (nth .vD (nth [] E (V ((V (D-J)).tdiv G)).toNat) 0))),I (V (V (D-J)-V (V ((V (D-J)).tdiv G)*G))),I G,I 2]).bind λo1=>
 cond (decide (0<=V ((V (D-J)).tdiv G))&&decide (V ((V (D-J)).tdiv G)<(E.length:Int))) (some [I (V (Af (nth .vD (nth [] E (V ((V (D-J)).tdiv G)).toNat) 0)+gA o1 0))]) (none)) (none)) (none)))))):=by kernel_rfl
def KH:=Q2q BO
theorem Zqf:Aj PG (Wj BO):=Ap rfl ⟨L0,trivial⟩
theorem Z3a:An PG (Zyx KH):=rw1 (C:=Wj BO) Zqf
def Ya2:=qa 76 Qbu Qar
def Xs (D E:Fn):Cfg:=cf [Z4y D,Zyx E]
def Q15 (D E:Fn):Fn:=Ao PG (Xs D E) 64 76 Qbu Qar
theorem Z19 (X Y:Fn) (E G J L M N O S T:Int) (U:Rw) (D:Int):Q15 X Y [I E,I G,I J,I L,I M,I N,I O,I S,I T, .vC Aa U,I D]=
 (Y [I E,I G,I J,I L,I M,I N,I O,I S,I T, .vC Aa U,I D]).bind λo2=>
 (X [I E,I G,I J,I L,I M,I N,I O,I S,I T, .vC Aa U,I (V (D+gA o2 0))]).bind λo3=>
 some [jA o3 0]:=by kernel_rfl
def NP:=Q15 Li KH
theorem Zrq:Aj PG (Xs Li KH):=Ap rfl ⟨Zg8,Z3a,trivial⟩
theorem Zxx:An PG (Ya2 NP):=rw1 (C:=Xs Li KH) Zrq
def YW:Sk:=⟨[TS.v true ([sa At]++cc 5),tf [ci]],[],[]⟩
def Qrk:=qa 75 YW Qar
def Zfe:Sk:=⟨[td,tf [ci],tf [sd 2 0],td,td,tf [ci],tf [ci]]++dd 29,[(2,62,[sa At]++cc 5)],[]⟩
def Zas:List (Ex×Sk):=[(Ex.exit 0,⟨dd 6++[tf [ci]]++dd 29,[],[]⟩)]
def TI:Lp:=A9 PG Qdd 64 2 (A8 PG 75 2) Zfe Zas
def Q5k (D:Lp):Cfg:=Qdd.loop 2 Zfe Zas D
def Q2j (D:Lp):Fn:=Ao PG (Q5k D) 64 75 YW Qar
theorem Qfz (v0 E D:Int) (G:Rw) (J L M N O:Int):TI [I v0,I E,I D, .vC At G,I J,I L,I M,I N,I O]=
 cond (decide (E<D)) (cond (decide (0<=V ((V (E+D)).tdiv 2))&&decide (V ((V (E+D)).tdiv 2)<(G.length:Int))) (cond (decide (v0<=V (Af (nth .vD (nth [] G (V ((V (E+D)).tdiv 2)).toNat) 0)+Af (nth .vD (nth [] G (V ((V (E+D)).tdiv 2)).toNat) 1)))) (some (0,[I v0,I E,I (V ((V (E+D)).tdiv 2)), .vC At G,I J,I L,I M,I N,I O])) (some (0,[I v0,I (V (V ((V (E+D)).tdiv 2)+1)),I D, .vC At G,I J,I L,I M,I N,I O]))) (none)) (some (1,[I D])):=by kernel_rfl
theorem Ya0 (E:Lp) (D:Rw) (G J L M N O:Int):Q2j E [.vC At D,I G,I J,I L,I M,I N,I O]=
 (E [I O,I 0,I (V ((D.length:Int)-1)), .vC At D,I G,I J,I L,I M,I N]).bind λo1=>
 cond (o1.1.beq 1) (some [jA o1.2 0]) (none):=by kernel_rfl
def NC:=Am (TI)
def Hr:=Q2j NC
theorem Qkt:An PG (Qrk Hr):=rw2 (C:=Q5k NC) (fl fb Zhu) Zhu
def Qj0:Sk:=⟨[TS.v true [ci,ci,ci,sa Ag,sa kPt],tf [ci]],[],[]⟩
def XL:Sk:=⟨[TS.tup [(false,[ci]),(false,[ci])]],[],[]⟩
def Qjv:=qa 117 Qj0 XL
def Q02:Sk:=⟨[td,tf [ci],tf [sd 2 0]]++dd 8++[tf [sa Ag],tf [ci],tf [ci]]++dd 24,[(2,58,[ci,ci,ci,sa Ag,sa kPt])],[]⟩
def Zfc:List (Ex×Sk):=[(Ex.ret,⟨[td,td,td,td,tf [ci],tf [ci]]++dd 32,[],[]⟩),(Ex.exit 0,⟨[td]++dd 37,[],[]⟩)]
def Tv:Lp:=A9 PG Qdd 64 3 (A8 PG 117 3) Q02 Zfc
def Za2 (D:Lp):Cfg:=Qdd.loop 3 Q02 Zfc D
def Q2k (D:Lp):Fn:=Ao PG (Za2 D) 64 117 Qj0 XL
theorem Za7 (v0:Int) (E:Rw) (G D L M N:Int) (J O:Rw):Tv [I v0, .vC Ag E,I G,I D,I L,I M,I N, .vC Ag J, .vC kPt O]=
 cond (decide (D<G)) (cond (decide (0<=D)&&decide (D<(E.length:Int))) (cond (decide (v0<gA (nth [] E D.toNat) 3)) (some (1,[I D,I v0])) (cond (D==V ((J.length:Int)-1)) (some (1,[I D,jA (nth [] E D.toNat) 3])) (some (0,[I (V (v0-gA (nth [] E D.toNat) 3)), .vC Ag E,I G,I (V (D+1)),I L,I M,I N, .vC Ag J, .vC kPt O])))) (none)) (some (2,[])):=by kernel_rfl
theorem Qye (E:Lp) (G J L:Int) (D M:Rw) (N:Int):Q2k E [I G,I J,I L, .vC Ag D, .vC kPt M,I N]=
 (E [I (mx N 0), .vC Ag D,I (D.length:Int),I 0,I G,I J,I L, .vC Ag D, .vC kPt M]).bind λo1=>
 cond (o1.1.beq 1) (some [jA o1.2 0,jA o1.2 1]) (cond (o1.1.beq 2) (some [I (-1),I 0]) (none)):=by kernel_rfl
def Oh:=Am (Tv)
def Fq:=Q2k Oh
theorem Qam:An PG (Qjv Fq):=rw2 (C:=Za2 Oh) (fl fb Zhu) Zhu
def Qb6:Sk:=⟨[TS.v true [ci,ci,ci]],[],[]⟩
def Yb9:=qa 74 Qj0 Qb6
def YE (D E:Fn):Cfg:={cf [Nw D,Qjv E]with unroll:=[9]}
def Qd7 (D E:Fn):Fn:=Ao PG (YE D E) 64 74 Qj0 Qb6
theorem Zsd (AS DX:Fn) (G J L:Int) (E T:Rw) (U:Int):Qd7 AS DX [I G,I J,I L, .vC Ag E, .vC kPt T,I U]=
 (DX [I G,I J,I L, .vC Ag E, .vC kPt T,I U]).bind λD=>
 cond (decide (gA D 0<0)) (some [I G,I J,I L]) (cond (decide (gA D 0>0)) (cond (decide (0<=V (gA D 0-1))&&decide (V (gA D 0-1)<(E.length:Int))) (cond (decide (0<=gA D 0)&&decide (gA D 0<(E.length:Int))) ((AS [I (V (gA (nth [] E (gA D 0).toNat) 0-gA (nth [] E (V (gA D 0-1)).toNat) 0)),jA D 1,jA (nth [] E (gA D 0).toNat) 3,I 2]).bind λX=>
 (AS [I (V (gA (nth [] E (gA D 0).toNat) 1-gA (nth [] E (V (gA D 0-1)).toNat) 1)),jA D 1,jA (nth [] E (gA D 0).toNat) 3,I 2]).bind λY=>
 (AS [I (V (gA (nth [] E (gA D 0).toNat) 2-gA (nth [] E (V (gA D 0-1)).toNat) 2)),jA D 1,jA (nth [] E (gA D 0).toNat) 3,I 2]).bind λM=>
 some [I (V (gA (nth [] E (V (gA D 0-1)).toNat) 0+gA X 0)),I (V (gA (nth [] E (V (gA D 0-1)).toNat) 1+gA Y 0)),I (V (gA (nth [] E (V (gA D 0-1)).toNat) 2+gA M 0))]) (none)) (none)) (cond (decide (0<=gA D 0)&&decide (gA D 0<(E.length:Int))) ((AS [I (V (gA (nth [] E (gA D 0).toNat) 0-G)),jA D 1,jA (nth [] E (gA D 0).toNat) 3,I 2]).bind λN=>
 (AS [I (V (gA (nth [] E (gA D 0).toNat) 1-J)),jA D 1,jA (nth [] E (gA D 0).toNat) 3,I 2]).bind λO=>
 (AS [I (V (gA (nth [] E (gA D 0).toNat) 2-L)),jA D 1,jA (nth [] E (gA D 0).toNat) 3,I 2]).bind λS=>
 some [I (V (G+gA N 0)),I (V (J+gA O 0)),I (V (L+gA S 0))]) (none))):=by kernel_rfl
def Sc:=Qd7 BO Fq
theorem Zos:Aj PG (YE BO Fq):=Ap rfl ⟨L0,Qam,trivial⟩
theorem Zks:An PG (Yb9 Sc):=rw1 (C:=YE BO Fq) Zos
def VL:=qa 73 Z5 Qar
def Zep:Fn:=Ao PG Qdd 64 73 Z5 Qar
theorem Zt0 (D E:Int):Zep [I D,I E]=
 some [I (mx 0 (mn D E))]:=by kernel_rfl
def F9:=Zep
theorem TM:An PG (VL F9):=rw1 (C:=Qdd) Zhu
def RG:=qa 36 YW Qar
def Qt0 (D E:Fn):Cfg:=cf [Qrk D,VL E]
def Qog (D E:Fn):Fn:=Ao PG (Qt0 D E) 64 36 YW Qar
theorem Zvj (J L:Fn) (D:Rw) (E G M N O S:Int):Qog J L [.vC At D,I E,I G,I M,I N,I O,I S]=
 (L [I S,I E]).bind λo2=>
 (J [.vC At D,I E,I G,I M,I N,I O,jA o2 0]).bind λo3=>
 cond (decide (gA o3 0<0)) (some [I G]) (cond (decide (0<=gA o3 0)&&decide (gA o3 0<(D.length:Int))) (cond (decide (0<=gA o3 0)&&decide (gA o3 0<(D.length:Int))) (cond (decide (0<=gA o3 0)&&decide (gA o3 0<(D.length:Int))) (some [I (V (gA (nth [] D (gA o3 0).toNat) 2+V (gA (nth [] D (gA o3 0).toNat) 3*V (gA o2 0-gA (nth [] D (gA o3 0).toNat) 0))))]) (none)) (none)) (none)):=by kernel_rfl
def Ez:=Qog Hr F9
theorem Z5a:Aj PG (Qt0 Hr F9):=Ap rfl ⟨Qkt,TM,trivial⟩
theorem RU:An PG (RG Ez):=rw1 (C:=Qt0 Hr F9) Z5a
def XY:Sk:=⟨[TS.v true [ci,ci,ci,sa Ag,sa kPt],TS.v true (cc 9++[sa Aa]++cc 9++[sa Aa]++cc 9++[sa Aa]),TS.v true ([sa At]++cc 5),tf [ci]],[],[]⟩
def QO:=qa 29 XY Qb6
def Qjf (D E G I J L M:Fn):Cfg:={cf [Ybw D,Zb9 E,Ya2 G,Qrk I,Yb9 J,RG L,VL M]with unroll:=[6]}
def Qe4 (D E G I J L M:Fn):Fn:=Ao PG (Qjf D E G I J L M) 64 29 XY Qb6
abbrev XZ (S:Fn) (x:Ax3) (L D:List AC) (T:Fn) (t:Trk) (E:AC) (U:Fn) (M:List AC) (G:AC):Option (List AC):=
 (S [I x.c.step,I x.c.aS,I x.c.bF,I x.c.bG,I x.c.low,I x.c.aY,I x.c.bB,I x.c.aV,I x.c.aO, .vC Aa (x.c.aW.map Ai),jA L 2]).bind λJ=>
 cond (decide (gA D 0<0)) ((T [I x.c.step,I x.c.aS,I x.c.bF,I x.c.bG,I x.c.low,I x.c.aY,I x.c.bB,I x.c.aV,I x.c.aO, .vC Aa (x.c.aW.map Ai),I t.aT.z]).bind λN=>
 some [E,G,I (V (gA J 0+gA N 0))]) (cond (decide (0<=gA D 0)&&decide (gA D 0<((t.aE.map AM).length:Int))) ((U (I x.c.step::I x.c.aS::I x.c.bF::I x.c.bG::I x.c.low::I x.c.aY::I x.c.bB::I x.c.aV::I x.c.aO:: .vC Aa (x.c.aW.map Ai)::(AV At (nth [] (t.aE.map AM) (gA D 0).toNat)++[I (V (V (0+1)+1)),jA M 0]))).bind λO=>
 some [E,G,I (V (gA J 0+gA O 0))]) (none))
abbrev Z6 (M:Fn) (x:Ax3) (G D:List AC) (N:Fn) (t:Trk) (O:Fn) (J:List AC) (E:AC):Option (List AC):=
 (M [I x.b.step,I x.b.aS,I x.b.bF,I x.b.bG,I x.b.low,I x.b.aY,I x.b.bB,I x.b.aV,I x.b.aO, .vC Aa (x.b.aW.map Ai),jA G 1]).bind λL=>
 cond (decide (gA D 0<0)) ((N [I x.b.step,I x.b.aS,I x.b.bF,I x.b.bG,I x.b.low,I x.b.aY,I x.b.bB,I x.b.aV,I x.b.aO, .vC Aa (x.b.aW.map Ai),I t.aT.y]).bind λS=>
 XZ M x G D N t E O J (I (V (gA L 0+gA S 0)))) (cond (decide (0<=gA D 0)&&decide (gA D 0<((t.aE.map AM).length:Int))) ((O (I x.b.step::I x.b.aS::I x.b.bF::I x.b.bG::I x.b.low::I x.b.aY::I x.b.bB::I x.b.aV::I x.b.aO:: .vC Aa (x.b.aW.map Ai)::(AV At (nth [] (t.aE.map AM) (gA D 0).toNat)++[I (V (0+1)),jA J 0]))).bind λT=>
 XZ M x G D N t E O J (I (V (gA L 0+gA T 0)))) (none))
theorem Z9o (M N O X Y BR CJ:Fn) (J:Int) (p:Pth) (x:Ax3) (t:Trk):Qe4 M N O X Y BR CJ (pxt p x t [I J])=
 (CJ [I J,I t.length]).bind λE=>
 (BR [.vC At (t.aE.map AM),I t.length,I t.aQ,I t.aT.x,I t.aT.y,I t.aT.z,jA E 0]).bind λS=>
 (Y [I p.aQ.x,I p.aQ.y,I p.aQ.z, .vC Ag (p.aF.map Ax), .vC kPt (p.aD.map Aw),jA S 0]).bind λG=>
 (X [.vC At (t.aE.map AM),I t.length,I t.aQ,I t.aT.x,I t.aT.y,I t.aT.z,jA E 0]).bind λD=>
 (O [I x.a.step,I x.a.aS,I x.a.bF,I x.a.bG,I x.a.low,I x.a.aY,I x.a.bB,I x.a.aV,I x.a.aO, .vC Aa (x.a.aW.map Ai),jA G 0]).bind λL=>
 cond (decide (gA D 0<0)) ((N [I x.a.step,I x.a.aS,I x.a.bF,I x.a.bG,I x.a.low,I x.a.aY,I x.a.bB,I x.a.aV,I x.a.aO, .vC Aa (x.a.aW.map Ai),I t.aT.x]).bind λT=>
 Z6 O x G D N t M E (I (V (gA L 0+gA T 0)))) (cond (decide (0<=gA D 0)&&decide (gA D 0<((t.aE.map AM).length:Int))) ((M (I x.a.step::I x.a.aS::I x.a.bF::I x.a.bG::I x.a.low::I x.a.aY::I x.a.bB::I x.a.aV::I x.a.aO:: .vC Aa (x.a.aW.map Ai)::(AV At (nth [] (t.aE.map AM) (gA D 0).toNat)++[I 0,jA E 0]))).bind λU=>
 Z6 O x G D N t M E (I (V (gA L 0+gA U 0)))) (none)):=by kernel_rfl
def Dh:=Qe4 Td Ke NP Hr Sc Ez F9
theorem Z4w:Aj PG (Qjf Td Ke NP Hr Sc Ez F9):=Ap rfl ⟨Zy2,Q4z,Zxx,Qkt,Zks,RU,TM,trivial⟩
theorem R5:An PG (QO Dh):=rw1 (C:=Qjf Td Ke NP Hr Sc Ez F9) Z4w
def Qeq:Sk:=⟨[tf [ci],TS.v true (cc 13++[sb,ci,sb]++cc 5++[sb])],[],[]⟩
def Zjq:=qa 164 Qeq Qar
def Qn7:Fn:=Ao PG Qdd 64 164 Qeq Qar
theorem Ybp (E x1 x2 x3 x4 x5 x6 x7 x8 x9 J L M N:Int) (O:Bool) (S:Int) (T:Bool) (U X Y D a0:Int) (G:Bool):Qn7 [I E,I x1,I x2,I x3,I x4,I x5,I x6,I x7,I x8,I x9,I J,I L,I M,I N,B O,I S,B T,I U,I X,I Y,I D,I a0,B G]=
 cond (x1 !=10) (some [I E]) (cond (decide (D<0)) (some [I E]) (cond (decide (D>=16)) (some [I E]) (cond (decide (wrap .u64 D<0)) (none) (cond (G) (some [I (V (↑(BitVec.ofInt IntKind.i64.bits E|||BitVec.ofInt IntKind.i64.bits (V (1*2^min (wrap .u64 D).toNat IntKind.i64.bits))).toNat:Int))]) (some [I (V (↑(BitVec.ofInt IntKind.i64.bits E&&& ~~~BitVec.ofInt IntKind.i64.bits (V (1*2^min (wrap .u64 D).toNat IntKind.i64.bits))).toNat:Int))]))))):=by kernel_rfl
def Le:=Qn7
theorem Z93:An PG (Zjq Le):=rw1 (C:=Qdd) Zhu
def Qlb:Sk:=⟨[TS.v true [ci,ci,ci],TS.v true [ci,ci,sb,sb,sb]],[],[]⟩
def Q0j:=qa 163 Qlb Qrs
def Qn2:Fn:=Ao PG Qdd 64 163 Qlb Qrs
theorem Z94 (J D L M N:Int) (O E G:Bool):Qn2 [I J,I D,I L,I M,I N,B O,B E,B G]=
 cond (D==1) (some [B true]) (cond (D==3) (some [B true]) (cond (D==6) (some [B true]) (cond (D==4) (cond (G) (some [B true]) (some [B E])) (cond (D==2) (some [B E]) (some [B false]))))):=by kernel_rfl
def Ji:=Qn2
theorem Qy7:An PG (Q0j Ji):=rw1 (C:=Qdd) Zhu
def Qe8:Sk:=⟨[tf [sd 20000 0],tf [ci]],[(20000,119,cS)],[]⟩
def ZO:Sk:=⟨[tf [sa Aa]],[(20000,119,cS)],[]⟩
def Z1m:=qa 111 Qe8 ZO
def Qsl (D E:Fn):Cfg:={cf [Zjq D,Q0j E]with prom:=λb=>cond (Nat.beq b 2) ([(5,3)]) ([])}
def Qva:Sk:=⟨[tf [sd 20000 0],tf [ci],td,td,td,tf [se 5 1]]++dd 84,[(20000,119,cS)],[(5,3,Aa)]⟩
def Za4:List (Ex×Sk):=[(Ex.exit 0,⟨[td,td,td,td,td,tf [se 5 1]]++dd 84,[(20000,119,cS)],[(5,3,Aa)]⟩)]
def ST (D E:Fn):Lp:=A9 PG (Qsl D E) 64 2 (A8 PG 111 2) Qva Za4
def Qv1 (D E:Fn) (G:Lp):Cfg:=(Qsl D E).loop 2 Qva Za4 G
def Qr0 (D E:Fn) (G:Lp):Fn:=Ao PG (Qv1 D E G) 64 111 Qe8 ZO
abbrev PW (K:Kf) (c:Cv) (v0:Rw) (G:Fn) (E:Int):Option (Nat×List AC):=
 cond (gA (nth [] (K.p.aD.map Aw) c.aK.toNat) 1==5) (cond (((v0++[[jA (nth [] (K.p.aD.map Aw) c.aK.toNat) 2]]).length*8).ble 140737488355328) (cond (decide (0<=gA (nth [] (K.p.aD.map Aw) c.aK.toNat) 2)&&decide (gA (nth [] (K.p.aD.map Aw) c.aK.toNat) 2<((K.aA.map Ah).length:Int))) ((G (I c.outs::AV Ak (nth [] (K.aA.map Ah) (gA (nth [] (K.p.aD.map Aw) c.aK.toNat) 2).toNat))).bind λD=>
 some (0,(.vC Aa (v0++[[jA (nth [] (K.p.aD.map Aw) c.aK.toNat) 2]])::I E::Ab K {c with outs:=gA D 0,aK:=V (c.aK+1)}))) (none)) (none)) (some (0,(.vC Aa v0::I E::Ab K {c with aK:=V (c.aK+1)})))
theorem Zrr (E G:Fn) (v0:Rw) (D:Int) (K:Kf) (c:Cv):ST E G (.vC Aa v0::I D::Ab K c)=
 cond (decide (c.aK<((K.p.aD.map Aw).length:Int))) (cond (decide (0<=c.aK)&&decide (c.aK<((K.p.aD.map Aw).length:Int))) (cond (decide (gA (nth [] (K.p.aD.map Aw) c.aK.toNat) 0>D)) (some (1,(.vC Aa v0::Ab K c))) (cond (gA (nth [] (K.p.aD.map Aw) c.aK.toNat) 0==D) (cond (decide (c.aK>=c.next)) ((G [jA (nth [] (K.p.aD.map Aw) c.aK.toNat) 0,jA (nth [] (K.p.aD.map Aw) c.aK.toNat) 1,jA (nth [] (K.p.aD.map Aw) c.aK.toNat) 2,I c.o0,I c.o1,B c.o2,B c.o3,B c.o4]).bind λJ=>
 cond (bA J 0) (some (1,(.vC Aa v0::Ab K c))) (PW K c v0 E D)) (PW K c v0 E D)) (PW K c v0 E D))) (none)) (some (1,(.vC Aa v0::Ab K c))):=by kernel_rfl
theorem Ych (J L:Fn) (E:Lp) (G:Int) (K:Kf) (c:Cv):Qr0 J L E (I G::Ab K c)=
 (E (.vC Aa []::I G::Ab K c)).bind λD=>
 cond (D.1.beq 1) (some (.vC Aa (wA D.2 0)::cR 1 D.2)) (none):=by kernel_rfl
def Q6b:=Am (ST Le Ji)
def NY:=Qr0 Le Ji Q6b
theorem Q3w:Aj PG (Qsl Le Ji):=Ap rfl ⟨Z93,Qy7,trivial⟩
theorem Yac:An PG (Z1m NY):=rw2 (C:=Qv1 Le Ji Q6b) (fl fb Q3w) Q3w
def Ql5:Sk:=⟨[TS.v true [ci,ci,ci,sa Ag,sa kPt],TS.v true (cc 9++[sa Aa]++cc 9++[sa Aa]++cc 9++[sa Aa]),TS.v true ([sa At]++cc 5),tf [ci],tf [ci]],[],[]⟩
def Qb8:Sk:=⟨[tf [sa kPt]],[],[]⟩
def Zgs:=qa 25 Ql5 Qb8
def Qi7 (D:Fn):Cfg:={cf [QO D]with prom:=λb=>cond (Nat.beq b 5) ([(11,130)]) ([]),unroll:=[9]}
def Q09:Sk:=⟨[td,td,td,td,tf [ci],tf [sd 5 0],tf [sd 6 0],tf [sd 7 0],td,td,td,tf [se 11 3],tf [sd 12 0],tf [ci]]++dd 54,[(5,58,[ci,ci,ci,sa Ag,sa kPt]),(6,27,cc 9++[sa Aa]++cc 9++[sa Aa]++cc 9++[sa Aa]),(7,62,[sa At]++cc 5),(12,44,[ci,ci,ci])],[(11,130,kPt)]⟩
def Zbv:List (Ex×Sk):=[(Ex.exit 0,⟨dd 11++[tf [se 11 3]]++dd 56,[],[(11,130,kPt)]⟩)]
def Qow (D:Fn):Lp:=A9 PG (Qi7 D) 64 5 (A8 PG 25 5) Q09 Zbv
def Qyx (D:Fn) (E:Lp):Cfg:=(Qi7 D).loop 5 Q09 Zbv E
def YL (D:Fn) (E:Lp):Fn:=Ao PG (Qyx D E) 64 25 Ql5 Qb8
abbrev Pq (D:List AC) (v46 L M:Int) (p:Pth) (x:Ax3) (t:Trk) (E:Bool) (G J:AC):Option (Nat×List AC):=
 cond (gA D 2 !=v46) (cond (E) (some (0,(G::I L::I (V (M+1))::pxt p x t [jA D 0,jA D 1,jA D 2]))) (none)) (some (0,(J::I L::I (V (M+1))::pxt p x t [jA D 0,jA D 1,jA D 2])))
theorem Ybi (L:Fn) (v0:Rw) (J D:Int) (v44 G v46:Int) (p:Pth) (x:Ax3) (t:Trk):Qow L (.vC kPt v0::I J::I D::pxt p x t [I v44,I G,I v46])=
 cond (decide (D<J)) ((L (pxt p x t [I (V (D+1))])).bind λE=>
 cond (gA E 0 !=v44) (cond (((v0++[[I (V (D+1)),I 0,I (V (gA E 0-v44))]]).length*24).ble 140737488355328) (cond (gA E 1 !=G) (cond (((v0++[[I (V (D+1)),I 0,I (V (gA E 0-v44))]]++[[I (V (D+1)),I (V (0+1)),I (V (gA E 1-G))]]).length*24).ble 140737488355328) (Pq E v46 J D p x t (((v0++[[I (V (D+1)),I 0,I (V (gA E 0-v44))]]++[[I (V (D+1)),I (V (0+1)),I (V (gA E 1-G))]]++[[I (V (D+1)),I (V (V (0+1)+1)),I (V (gA E 2-v46))]]).length*24).ble 140737488355328) (.vC kPt (v0++[[I (V (D+1)),I 0,I (V (gA E 0-v44))]]++[[I (V (D+1)),I (V (0+1)),I (V (gA E 1-G))]]++[[I (V (D+1)),I (V (V (0+1)+1)),I (V (gA E 2-v46))]])) (.vC kPt (v0++[[I (V (D+1)),I 0,I (V (gA E 0-v44))]]++[[I (V (D+1)),I (V (0+1)),I (V (gA E 1-G))]]))) (none)) (Pq E v46 J D p x t (((v0++[[I (V (D+1)),I 0,I (V (gA E 0-v44))]]++[[I (V (D+1)),I (V (V (0+1)+1)),I (V (gA E 2-v46))]]).length*24).ble 140737488355328) (.vC kPt (v0++[[I (V (D+1)),I 0,I (V (gA E 0-v44))]]++[[I (V (D+1)),I (V (V (0+1)+1)),I (V (gA E 2-v46))]])) (.vC kPt (v0++[[I (V (D+1)),I 0,I (V (gA E 0-v44))]])))) (none)) (cond (gA E 1 !=G) (cond (((v0++[[I (V (D+1)),I (V (0+1)),I (V (gA E 1-G))]]).length*24).ble 140737488355328) (Pq E v46 J D p x t (((v0++[[I (V (D+1)),I (V (0+1)),I (V (gA E 1-G))]]++[[I (V (D+1)),I (V (V (0+1)+1)),I (V (gA E 2-v46))]]).length*24).ble 140737488355328) (.vC kPt (v0++[[I (V (D+1)),I (V (0+1)),I (V (gA E 1-G))]]++[[I (V (D+1)),I (V (V (0+1)+1)),I (V (gA E 2-v46))]])) (.vC kPt (v0++[[I (V (D+1)),I (V (0+1)),I (V (gA E 1-G))]]))) (none)) (Pq E v46 J D p x t (((v0++[[I (V (D+1)),I (V (V (0+1)+1)),I (V (gA E 2-v46))]]).length*24).ble 140737488355328) (.vC kPt (v0++[[I (V (D+1)),I (V (V (0+1)+1)),I (V (gA E 2-v46))]])) (.vC kPt v0)))) (some (1,[.vC kPt v0])):=by kernel_rfl
theorem Zu1 (J:Fn) (L:Lp) (D E:Int) (p:Pth) (x:Ax3) (t:Trk):YL J L (pxt p x t [I D,I E])=
 (J (pxt p x t [I (mx 0 (mn D t.length))])).bind λG=>
 (L (.vC kPt []::I (mx 0 (mn E t.length))::I (mx 0 (mn D t.length))::pxt p x t [jA G 0,jA G 1,jA G 2])).bind λM=>
 cond (M.1.beq 1) (some [.vC kPt (wA M.2 0)]) (none):=by kernel_rfl
def Qy3:=Am (Qow Dh)
def Kx:=YL Dh Qy3
theorem Zds:Aj PG (Qi7 Dh):=Ap rfl ⟨R5,trivial⟩
theorem Zie:An PG (Zgs Kx):=rw2 (C:=Qyx Dh Qy3) (fl fb Zds) Zds
def Qp5:Sk:=⟨[tf [sd 20000 0]],[(20000,119,cS)],[]⟩
def QQ (M:Fn):Nat×Spec:=(63,E8 Qp5 Qar M)
def Qke:Fn:=Mh PG Qdd 64 63 Qp5 Qar
theorem Zxc (K:Kf) (c:Cv):Qke (Ab K c)=
 some [I (V (c.m0.tdiv 256))]:=by kernel_rfl
def Ds:=Qke
theorem Zpj (vars:List AC) (R:Type) (K:TV->Mem->Option R):Fv PG Qdd 64 63 [TV.v false [AC.ptr 20000 0]] ⟨[(20000,(⟨119,(cR 0 vars)⟩:Box))],[]⟩ K=Fv PG Qdd 64 63 [TV.v false [AC.ptr 20000 0]] ⟨[(20000,(⟨119,(cR 0 vars)⟩:Box))],[]⟩ (λv _=>K v ⟨[(20000,(⟨119,(cR 0 vars)⟩:Box))],[]⟩):=co (b:=(K (TV.v false [I (V ((gA vars 50).tdiv 256))]) ⟨[(20000,(⟨119,(cR 0 vars)⟩:Box))],[]⟩)) (by kernel_rfl) (Eq.symm (by kernel_rfl))
theorem QT:An PG (63,E8 Qp5 Qar Ds):=QP (C:=Qdd) (L:=64) (by kernel_rfl) (FnOK.bare rfl rfl rfl) Zhu eqOk GA (by kernel_rfl) (by kernel_rfl) (λvars R K=>Zpj vars R K)
def PR (M:Fn):Nat×Spec:=(110,E8 Qp5 Qar M)
def QD (D E:Fn):Cfg:=cr [RG D,QQ E] [63] [63]
def Qah (D E:Fn):Fn:=Mh PG (QD D E) 64 110 Qp5 Qar
theorem Z4k (D E:Fn) (K:Kf) (c:Cv):Qah D E (Ab K c)=
 (E (Ab K c)).bind λo2=>
 (D (A4 K.t++[jA o2 0])).bind λo3=>
 some [jA o3 0]:=by kernel_rfl
def Dt:=Qah Ez Ds
theorem Zmx:Aj PG (QD Ez Ds):=Ho (rs:=[63]) rfl ⟨RU,QT,trivial⟩ rfl (CH rfl (Fx HF))
theorem Zkh (vars : List AC) (R : Type) (K : TV -> Mem -> Option R) : Fv PG (QD Ez Ds) 64 110 [TV.v false [AC.ptr 20000 0]] ⟨[(20000, (⟨119, (cR 0 vars)⟩ : Box))], []⟩ K = Fv PG (QD Ez Ds) 64 110 [TV.v false [AC.ptr 20000 0]] ⟨[(20000, (⟨119, (cR 0 vars)⟩ : Box))], []⟩ (λv _ => K v ⟨[(20000, (⟨119, (cR 0 vars)⟩ : Box))], []⟩) := co (b := ((Ds (cR 0 vars)).bind λo2 =>
 (Ez [.vC At (wA vars 44),jA vars 45,jA vars 46,jA vars 47,jA vars 48,jA vars 49,jA o2 0]).bind λo3=>
 K (TV.v false [jA o3 0]) ⟨[(20000,(⟨119,(cR 0 vars)⟩:Box))],[]⟩)) (by kernel_rfl) (Eq.symm (by kernel_rfl))
theorem Qf:An PG (110,E8 Qp5 Qar Dt):=QP (C:=QD Ez Ds) (L:=64) (by kernel_rfl) (FnOK.bare rfl rfl rfl) Zmx eqOk GA (by kernel_rfl) (by kernel_rfl) (λvars R K=>Zkh vars R K)
def Qmo:Sk:=⟨[tf [sd 20000 0],tf [sd 20001 0],tf [ci]],[(20000,119,cS),(20001,46,[sa kPt,sa Aa]++cc 7)],[]⟩
def Qkx:Sk:=⟨[TS.tup []],[(20000,119,cS),(20001,46,[sa kPt,sa Aa]++cc 7)],[]⟩
def Zyk:=qa 71 Qmo Qkx
def Qd5 (D E G I J:Fn):Cfg:=cr [QO D,Z1m E,Zgs G,PR I,QQ J] [111,110,63] [110,63]
def SR (D E G I J:Fn):Fn:=Ao PG (Qd5 D E G I J) 64 71 Qmo Qkx
abbrev SA (c:Cv) (T:Fn) (G:List AC) (K:Kf) (O:Fn) (S:List AC) (M:Int) (N:Rw) (E:AC):Option (List AC):=
 cond (c.way==0) ((T (jA G 0::Ab K c)).bind λD=>
 (O [jA D 38,jA D 39,jA D 40, .vC Ag (wA D 41), .vC kPt (wA D 42),jA D 1,jA D 2,jA D 3,jA D 4,jA D 5,jA D 6,jA D 7,jA D 8,jA D 9, .vC Aa (wA D 10),jA D 11,jA D 12,jA D 13,jA D 14,jA D 15,jA D 16,jA D 17,jA D 18,jA D 19, .vC Aa (wA D 20),jA D 21,jA D 22,jA D 23,jA D 24,jA D 25,jA D 26,jA D 27,jA D 28,jA D 29, .vC Aa (wA D 30), .vC At (wA D 45),jA D 46,jA D 47,jA D 48,jA D 49,jA D 50,jA S 0]).bind λJ=>
 some (cR 1 D++[E, .vC Aa (wA D 0),I M,jA G 0,jA J 0,jA J 1,jA J 2,jA D 68,jA D 63])) ((O (pxt K.p K.x K.t [jA S 0])).bind λL=>
 some (Ab K c++[E, .vC Aa N,I M,jA G 0,jA L 0,jA L 1,jA L 2,I c.s3,I c.g1]))
theorem Q75 (L M Po Bz Be:Fn) (x0:Int) (G D:Rw) (E N O S T U V:Int) (K:Kf) (c:Cv):SR L M Po Bz Be (I x0::(Ab K c++[.vC kPt G, .vC Aa D,I E,I N,I O,I S,I T,I U,I V]))=
 (Be (Ab K c)).bind λX=>
 (Bz (Ab K c)).bind λJ=>
 cond (!c.aL) ((Po (pxt K.p K.x K.t [I x0,jA X 0])).bind λY=>
 SA c M J K L X E D (.vC kPt (wA Y 0))) (SA c M J K L X E D (.vC kPt G)):=by kernel_rfl
def LC:=SR Dh NY Kx Dt Ds
theorem Zrs:Aj PG (Qd5 Dh NY Kx Dt Ds):=Ho (rs:=[110,63]) rfl ⟨R5,Yac,Zie,Qf,QT,trivial⟩ rfl (CH rfl (CH rfl (CH rfl (Fx (Fx HF)))))
theorem Zjh:An PG (Zyk LC):=rw1 (C:=Qd5 Dh NY Kx Dt Ds) Zrs
def Qnf:Sk:=⟨[TS.tup []],[(20000,119,cS)],[]⟩
def Zu:=qa 108 Qp5 Qnf
def Qr5:Fn:=Ao PG Qdd 64 108 Qp5 Qnf
theorem Zpm (K:Kf) (c:Cv):Qr5 (Ab K c)=
 cond (c.g0==0) (some (Ab K {c with o2:=true,g0:=1,g1:=18,g2:= -1})) (some (Ab K c)):=by kernel_rfl
def Hm:=Qr5
theorem Qq6:An PG (Zu Hm):=rw1 (C:=Qdd) Zhu
def Qjm:Sk:=⟨[TS.v true [ci,ci,ci],tf [ci]],[],[]⟩
def Qxe:=qa 174 Qjm Qar
def Vl:Fn:=Ao PG Qdd 64 174 Qjm Qar
theorem Qfg (G D J E:Int):Vl [I G,I D,I J,I E]=
 cond (decide (E<=0)) (some [I 0]) (cond (decide (D<=0)) (some [I 0]) (cond (decide (D=0)) (none) (some [I (V (V (V ((V (E-1)).tdiv D)*E)-V (D*V ((V (V ((V (E-1)).tdiv D)*V (V ((V (E-1)).tdiv D)+1))).tdiv 2))))]))):=by kernel_rfl
def Hg:=Vl
theorem Q3u:An PG (Qxe Hg):=rw1 (C:=Qdd) Zhu
def Zv:=qa 87 Qb6 Qrs
def Q3y:Fn:=Ao PG Qdd 64 87 Qb6 Qrs
theorem Yaf (D E G:Int):Q3y [I D,I E,I G]=
 cond (decide (1<=D)) (cond (decide (D<=65536)) (cond (decide (2<=E)) (cond (decide (E<=65536)) (cond (decide (1<=G)) (some [B (decide (G<=16777216))]) (some [B false])) (some [B false])) (some [B false])) (some [B false])) (some [B false]):=by kernel_rfl
def FO:=Q3y
theorem Qqo:An PG (Zv FO):=rw1 (C:=Qdd) Zhu
def Qg1:Sk:=⟨[TS.v true [ci,ci,ci],tf [ci],tf [ci]],[],[]⟩
def Qbb:=qa 129 Qg1 Qar
def Qdj (D E:Fn):Cfg:=cf [Qxe D,Zv E]
def Q5n:Sk:=⟨[td,tf [ci],td,tf [sd 3 0],td,td,td,tf [ci],tf [ci]]++dd 49,[(3,29,[ci,ci,ci])],[]⟩
def Q2c:List (Ex×Sk):=[(Ex.exit 0,⟨dd 7++[tf [ci]]++dd 50,[],[]⟩)]
def NH (D E:Fn):Lp:=A9 PG (Qdj D E) 64 4 (A8 PG 129 4) Q5n Q2c
def Q7z (D E:Fn) (G:Lp):Cfg:=(Qdj D E).loop 4 Q5n Q2c G
def T9 (D E:Fn) (G:Lp):Fn:=Ao PG (Q7z D E G) 64 129 Qg1 Qar
theorem YD (M N:Fn) (v0 E D G J L:Int):NH M N [I v0,I E,I D,I G,I J,I L]=
 cond (decide (E<D)) ((M [I G,I J,I L,I (V (D-V ((V (D-E)).tdiv 2)))]).bind λo4=>
 cond (decide (V (v0-V (D-V ((V (D-E)).tdiv 2)))>=gA o4 0)) (some (0,[I v0,I (V (D-V ((V (D-E)).tdiv 2))),I D,I G,I J,I L])) (some (0,[I v0,I E,I (V (V (D-V ((V (D-E)).tdiv 2))-1)),I G,I J,I L]))) (some (1,[I E])):=by kernel_rfl
theorem Zdf (S M:Fn) (N:Lp) (G D L J E:Int):T9 S M N [I G,I D,I L,I J,I E]=
 (M [I G,I D,I L]).bind λT=>
 cond (!bA T 0) (some [I 0]) (cond (decide (mx E J>1099511627776)) (some [I 0]) (cond (decide (mn E J< -1099511627776)) (some [I 0]) ((N [I J,I (V (V (0-E)-D)),I (mn (V (D-E)) G),I G,I D,I L]).bind λO=>
 cond (O.1.beq 1) (some [I (V (0-gA O.2 0))]) (none)))):=by kernel_rfl
def Q2i:=Am (NH Hg FO)
def FX:=T9 Hg FO Q2i
theorem Qv3:Aj PG (Qdj Hg FO):=Ap rfl ⟨Q3u,Qqo,trivial⟩
theorem Qfj:An PG (Qbb FX):=rw2 (C:=Q7z Hg FO Q2i) (fl fb Qv3) Qv3
def Qko:Sk:=⟨[tf [sa Aa],tf [ci]],[],[]⟩
def Zhh:=qa 121 Qko Qrs
def Qvc:Sk:=⟨[td,tf [ci],td,td,td,td,td,tf [sa Aa],tf [ci],tf [ci]]++dd 13,[],[]⟩
def Qvm:List (Ex×Sk):=[(Ex.ret,⟨[td,td,td,td,tf [sb]]++dd 18,[],[]⟩),(Ex.exit 0,⟨[td]++dd 22,[],[]⟩)]
def Qm:Lp:=A9 PG Qdd 64 2 (A8 PG 121 2) Qvc Qvm
def Zbr (D:Lp):Cfg:=Qdd.loop 2 Qvc Qvm D
def SG (D:Lp):Fn:=Ao PG (Zbr D) 64 121 Qko Qrs
theorem Q7g (v0:Int) (E:Rw) (G D:Int):Qm [I v0, .vC Aa E,I G,I D]=
 cond (decide (D<G)) (cond (decide (0<=D)&&decide (D<(E.length:Int))) (cond (decide (gA (nth [] E D.toNat) 0>v0)) (some (1,[B false])) (cond (decide (gA (nth [] E D.toNat) 0<V (0-v0))) (some (1,[B false])) (some (0,[I v0, .vC Aa E,I G,I (V (D+1))])))) (none)) (some (2,[])):=by kernel_rfl
theorem Qvx (E:Lp) (D:Rw) (G:Int):SG E [.vC Aa D,I G]=
 (E [I G, .vC Aa D,I (D.length:Int),I 0]).bind λo1=>
 cond (o1.1.beq 1) (some [B (bA o1.2 0)]) (cond (o1.1.beq 2) (some [B true]) (none)):=by kernel_rfl
def Zdw:=Am (Qm)
def OB:=SG Zdw
theorem Zwy:An PG (Zhh OB):=rw2 (C:=Zbr Zdw) (fl fb Zhu) Zhu
def Qic:Sk:=⟨[tf [sa Aa]],[],[]⟩
def Zua:=qa 120 Qic Qic
def C_limits_Differences_0:Cfg:={cf []with prom:=λb=>cond (Nat.beq b 3) ([(3,3)]) ([])}
def Qt2:Sk:=⟨[tf [sa Aa],td,td,tf [se 3 1],tf [ci]]++dd 20,[],[(3,3,Aa)]⟩
def Zcp:List (Ex×Sk):=[(Ex.exit 0,⟨[td,td,td,tf [se 3 1]]++dd 21,[],[(3,3,Aa)]⟩)]
def SD:Lp:=A9 PG C_limits_Differences_0 64 3 (A8 PG 120 3) Qt2 Zcp
def Q41 (D:Lp):Cfg:=C_limits_Differences_0.loop 3 Qt2 Zcp D
def Tp (D:Lp):Fn:=Ao PG (Q41 D) 64 120 Qic Qic
theorem Q9a (v0 E:Rw) (D:Int):SD [.vC Aa v0, .vC Aa E,I D]=
 cond (decide (D<(E.length:Int))) (cond (decide (0<=D)&&decide (D<(E.length:Int))) (cond (decide (0<=V (D-1))&&decide (V (D-1)<(E.length:Int))) (cond (((v0++[[I (V (gA (nth [] E D.toNat) 0-gA (nth [] E (V (D-1)).toNat) 0))]]).length*8).ble 140737488355328) (some (0,[.vC Aa (v0++[[I (V (gA (nth [] E D.toNat) 0-gA (nth [] E (V (D-1)).toNat) 0))]]), .vC Aa E,I (V (D+1))])) (none)) (none)) (none)) (some (1,[.vC Aa v0])):=by kernel_rfl
theorem Q0w (D:Lp) (E:Rw):Tp D [.vC Aa E]=
 (D [.vC Aa [], .vC Aa E,I 1]).bind λo1=>
 cond (o1.1.beq 1) (some [.vC Aa (wA o1.2 0)]) (none):=by kernel_rfl
def Zc1:=Am (SD)
def PY:=Tp Zc1
theorem Q6g:Aj PG (C_limits_Differences_0):=Ap rfl trivial
theorem Z9u:An PG (Zua PY):=rw2 (C:=Q41 Zc1) (fl fb Q6g) Q6g
def Qed:Sk:=⟨[TS.v true (cc 9++[sa Aa]),tf [sa Aa]],[],[]⟩
def Z8h:=qa 79 Qed Qrs
def Qqf (D E:Fn):Cfg:={cf [Zhh D,Zua E]with unroll:=[2]}
def Ul (D E:Fn):Fn:=Ao PG (Qqf D E) 64 79 Qed Qrs
theorem Zf1 (E G:Fn) (U M N O V X Y x7 x8:Int) (x9 D:Rw):Ul E G [I U,I M,I N,I O,I V,I X,I Y,I x7,I x8, .vC Aa x9, .vC Aa D]=
 (G [.vC Aa D]).bind λS=>
 (E [.vC Aa (wA S 0),I M]).bind λo7=>
 cond (!bA o7 0) (some [B false]) ((G [.vC Aa (wA S 0)]).bind λT=>
 (E [.vC Aa (wA T 0),I N]).bind λo9=>
 cond (!bA o9 0) (some [B false]) ((G [.vC Aa (wA T 0)]).bind λJ=>
 (E [.vC Aa (wA J 0),I O]).bind λL=>
 cond (!bA L 0) (some [B false]) (some [B true]))):=by kernel_rfl
def LE:=Ul OB PY
theorem Z7j:Aj PG (Qqf OB PY):=Ap rfl ⟨Zwy,Z9u,trivial⟩
theorem Zim:An PG (Z8h LE):=rw1 (C:=Qqf OB PY) Z7j
def Qsg:Sk:=⟨[TS.v true (cc 9++[sa Aa]++cc 9++[sa Aa]++cc 9++[sa Aa]),tf [sa kPt]],[],[]⟩
def Q88:=qa 31 Qsg Qrs
def Y2 (D:Fn):Cfg:=cf [Z8h D]
def Q3j:Sk:=⟨[td,tf [sa kPt],tf [sd 2 0],td,td,tf [ci],tf [se 13 1],td,tf [ci]]++dd 6++[tf [ci],tf [ci]]++dd 19,[(2,27,cc 9++[sa Aa]++cc 9++[sa Aa]++cc 9++[sa Aa])],[(13,3,Aa)]⟩
def Zcg:List (Ex×Sk):=[(Ex.exit 2,⟨[td,tf [sa kPt],tf [sd 2 0],td,td,tf [ci],tf [se 13 1],td,tf [ci]]++dd 27,[(2,27,cc 9++[sa Aa]++cc 9++[sa Aa]++cc 9++[sa Aa])],[(13,3,Aa)]⟩)]
def Iy (D:Fn):Lp:=A9 PG (Y2 D) 64 6 (A8 PG 31 6) Q3j Zcg
def Q16 (D:Fn) (E:Lp):Cfg:=(Y2 D).loop 6 Q3j Zcg E
def Q1u:Sk:=⟨[td,tf [sa kPt],tf [sd 2 0],td,td,td,td,td,tf [ci]]++dd 27,[(2,27,cc 9++[sa Aa]++cc 9++[sa Aa]++cc 9++[sa Aa])],[]⟩
def Zcc:List (Ex×Sk):=[(Ex.ret,⟨[td,td,td,td,tf [sb]]++dd 31,[],[]⟩),(Ex.exit 0,⟨[td]++dd 35,[],[]⟩)]
def OD (D:Fn) (E:Lp):Lp:=A9 PG (Q16 D E) 64 2 (A8 PG 31 2) Q1u Zcc
def Q3x (D:Fn) (E G:Lp):Cfg:=(Q16 D E).loop 2 Q1u Zcc G
def Ro (D:Fn) (E G:Lp):Fn:=Ao PG (Q3x D E G) 64 31 Qsg Qrs
theorem Q10 (EB:Fn) (v0 v1:Rw) (v2 v3 v4 D v6 v7 v8 v9 v10 v11 v12 E G:Int) (J:Rw) (L M N O v20 v21 v22 S v24:Int) (v25:Rw) (T v27 v28 U v30 v31 X v33 Y:Int) (v35:Rw):Iy EB [.vC Aa v0, .vC kPt v1,I v2,I v3,I v4,I D,I v6,I v7,I v8,I v9,I v10,I v11,I v12,I E,I G, .vC Aa J,I L,I M,I N,I O,I v20,I v21,I v22,I S,I v24, .vC Aa v25,I T,I v27,I v28,I U,I v30,I v31,I X,I v33,I Y, .vC Aa v35]=
 cond (decide (D<v4)) (cond (decide (0<=D)&&decide (D<(v1.length:Int))) (cond (decide (v2=(↑0:Int))) (cond (decide (0<=D)&&decide (D<(v0.length:Int))) (some (0,[.vC Aa (v0.set D.toNat [jA (nth [] v1 D.toNat) 0]), .vC kPt v1,I v2,I v3,I v4,I (V (D+1)),I v6,I v7,I v8,I v9,I v10,I v11,I v12,I E,I G, .vC Aa J,I L,I M,I N,I O,I v20,I v21,I v22,I S,I v24, .vC Aa v25,I T,I v27,I v28,I U,I v30,I v31,I X,I v33,I Y, .vC Aa v35])) (none)) (cond (decide (v2=(↑(0+1):Int))) (cond (decide (0<=D)&&decide (D<(v0.length:Int))) (some (0,[.vC Aa (v0.set D.toNat [jA (nth [] v1 D.toNat) 1]), .vC kPt v1,I v2,I v3,I v4,I (V (D+1)),I v6,I v7,I v8,I v9,I v10,I v11,I v12,I E,I G, .vC Aa J,I L,I M,I N,I O,I v20,I v21,I v22,I S,I v24, .vC Aa v25,I T,I v27,I v28,I U,I v30,I v31,I X,I v33,I Y, .vC Aa v35])) (none)) (cond (decide (v2=(↑(0+1+1):Int))) (cond (decide (0<=D)&&decide (D<(v0.length:Int))) (some (0,[.vC Aa (v0.set D.toNat [jA (nth [] v1 D.toNat) 2]), .vC kPt v1,I v2,I v3,I v4,I (V (D+1)),I v6,I v7,I v8,I v9,I v10,I v11,I v12,I E,I G, .vC Aa J,I L,I M,I N,I O,I v20,I v21,I v22,I S,I v24, .vC Aa v25,I T,I v27,I v28,I U,I v30,I v31,I X,I v33,I Y, .vC Aa v35])) (none)) (none)))) (none)) (some (1,[.vC Aa v0, .vC kPt v1,I v2,I v3,I v6,I v7,I v8,I v9,I v10,I v11,I v12,I E,I G, .vC Aa J,I L,I M,I N,I O,I v20,I v21,I v22,I S,I v24, .vC Aa v25,I T,I v27,I v28,I U,I v30,I v31,I X,I v33,I Y, .vC Aa v35])):=by kernel_rfl
abbrev SM (D:Nat×List AC) (E:Bool):Option (Nat×List AC):=
 cond (E) (some (1,[B false])) (some (0,[.vC kPt (wA D.2 1),I (V (gA D.2 3+1)),jA D.2 4,jA D.2 5,jA D.2 6,jA D.2 7,jA D.2 8,jA D.2 9,jA D.2 10,jA D.2 11,jA D.2 12, .vC Aa (wA D.2 13),jA D.2 14,jA D.2 15,jA D.2 16,jA D.2 17,jA D.2 18,jA D.2 19,jA D.2 20,jA D.2 21,jA D.2 22, .vC Aa (wA D.2 23),jA D.2 24,jA D.2 25,jA D.2 26,jA D.2 27,jA D.2 28,jA D.2 29,jA D.2 30,jA D.2 31,jA D.2 32, .vC Aa (wA D.2 33)]))
theorem Qzy (V:Fn) (Y:Lp) (v0:Rw) (X v2 v3 v4 v5 v6 v7 v8 v9 v10:Int) (v11:Rw) (v12 E G J L M N O v20:Int) (v21:Rw) (v22 S v24 v25 T v27 v28 U v30:Int) (v31:Rw):OD V Y [.vC kPt v0,I X,I v2,I v3,I v4,I v5,I v6,I v7,I v8,I v9,I v10, .vC Aa v11,I v12,I E,I G,I J,I L,I M,I N,I O,I v20, .vC Aa v21,I v22,I S,I v24,I v25,I T,I v27,I v28,I U,I v30, .vC Aa v31]=
 cond (decide (X<3)) (cond (decide ((v0.length:Int)=(v0.length:Int))) (cond (decide (0<=(v0.length:Int))&&decide ((v0.length:Int)*(↑8:Int)<=140737488355328)) ((Y [.vC Aa (List.replicate (v0.length:Int).toNat [I 0]), .vC kPt v0,I X,I X,I (v0.length:Int),I 0,I v2,I v3,I v4,I v5,I v6,I v7,I v8,I v9,I v10, .vC Aa v11,I v12,I E,I G,I J,I L,I M,I N,I O,I v20, .vC Aa v21,I v22,I S,I v24,I v25,I T,I v27,I v28,I U,I v30, .vC Aa v31]).bind λD=>
 cond (D.1.beq 1) (cond (decide (gA D.2 2=(↑0:Int))) ((V [jA D.2 4,jA D.2 5,jA D.2 6,jA D.2 7,jA D.2 8,jA D.2 9,jA D.2 10,jA D.2 11,jA D.2 12, .vC Aa (wA D.2 13), .vC Aa (wA D.2 0)]).bind λo6=>
 SM D (!bA o6 0)) (cond (decide (gA D.2 2=(↑(0+1):Int))) ((V [jA D.2 14,jA D.2 15,jA D.2 16,jA D.2 17,jA D.2 18,jA D.2 19,jA D.2 20,jA D.2 21,jA D.2 22, .vC Aa (wA D.2 23), .vC Aa (wA D.2 0)]).bind λo7=>
 SM D (!bA o7 0)) (cond (decide (gA D.2 2=(↑(0+1+1):Int))) ((V [jA D.2 24,jA D.2 25,jA D.2 26,jA D.2 27,jA D.2 28,jA D.2 29,jA D.2 30,jA D.2 31,jA D.2 32, .vC Aa (wA D.2 33), .vC Aa (wA D.2 0)]).bind λo8=>
 SM D (!bA o8 0)) (none)))) (none)) (none)) (none)) (some (2,[])):=by kernel_rfl
theorem Qyc (EB:Fn) (N6 N2:Lp) (x0 x1 x2 x3 x4 x5 x6 x7 x8:Int) (x9:Rw) (D E G J L M N O S:Int) (T:Rw) (U V X Y a0 a1 a2 a3 a4:Int) (a5 a6:Rw):Ro EB N6 N2 [I x0,I x1,I x2,I x3,I x4,I x5,I x6,I x7,I x8, .vC Aa x9,I D,I E,I G,I J,I L,I M,I N,I O,I S, .vC Aa T,I U,I V,I X,I Y,I a0,I a1,I a2,I a3,I a4, .vC Aa a5, .vC kPt a6]=
 (N2 [.vC kPt a6,I 0,I x0,I x1,I x2,I x3,I x4,I x5,I x6,I x7,I x8, .vC Aa x9,I D,I E,I G,I J,I L,I M,I N,I O,I S, .vC Aa T,I U,I V,I X,I Y,I a0,I a1,I a2,I a3,I a4, .vC Aa a5]).bind λo9=>
 cond (o9.1.beq 1) (some [B (bA o9.2 0)]) (cond (o9.1.beq 2) (some [B true]) (none)):=by kernel_rfl
def Qac:=Am (Iy LE)
def Zc4:=Am (OD LE Qac)
def GF:=Ro LE Qac Zc4
theorem Qc9:Aj PG (Y2 LE):=Ap rfl ⟨Zim,trivial⟩
theorem Zec:An PG (Q88 GF):=rw2 (C:=Q3x LE Qac Zc4) (fl (fl fb Qc9) Qc9) Qc9
def Q4i:=qa 197 Qar Qar
def VQ:Fn:=Ao PG Qdd 64 197 Qar Qar
theorem Zdv (D:Int):VQ [I D]=
 cond (decide (D.tmod 256<0)) (some [I (V (V (D.tdiv 256)-1))]) (some [I (V (D.tdiv 256))]):=by kernel_rfl
def H4:=VQ
theorem Ze1:An PG (Q4i H4):=rw1 (C:=Qdd) Zhu
def Qjb:Sk:=⟨[TS.v true [ci,ci,ci,sa Ag,sa kPt],TS.v true (cc 9++[sa Aa]++cc 9++[sa Aa]++cc 9++[sa Aa]),TS.v true ([sa At]++cc 5),tf [sa Aa]],[],[]⟩
def Zf8:=qa 179 Qjb Qrs
def Qoh (D E G:Fn):Cfg:={cf [Q88 D,QO E,Q4i G]with lend:=λf=>AW [31] f,cuts:=[30],prom:=λb=>cond (Nat.beq b 3) ([(9,44)]) ([])}
def Q3a:Sk:=⟨[td,td,td,td,tf [sd 4 0],tf [sd 5 0],tf [sd 6 0],td,td,tf [se 9 3],td,td,tf [sa Aa],tf [ci],tf [ci]]++dd 22,[(4,58,[ci,ci,ci,sa Ag,sa kPt]),(5,27,cc 9++[sa Aa]++cc 9++[sa Aa]++cc 9++[sa Aa]),(6,62,[sa At]++cc 5)],[(9,44,kPt)]⟩
def Qwk:List (Ex×Sk):=[(Ex.ret,⟨dd 8++[tf [sb]]++dd 28,[],[]⟩),(Ex.exit 0,⟨[td]++dd 36,[],[]⟩)]
def TR (D E G:Fn):Lp:=A9 PG (Qoh D E G) 64 3 (A8 PG 179 3) Q3a Qwk
def Q0l (D E G:Fn) (I:Lp):Cfg:=(Qoh D E G).loop 3 Q3a Qwk I
def UL (D E G:Fn) (I:Lp):Fn:=Ao PG (Q0l D E G I) 64 179 Qjb Qrs
theorem Q9c (L O S:Fn) (v0 G:Rw) (J E:Int) (p:Pth) (x:Ax3) (t:Trk):TR L O S (.vC kPt v0:: .vC Aa G::I J::I E::pxt p x t [])=
 cond (decide (E<J)) (cond (decide (0<=E)&&decide (E<(G.length:Int))) ((S [jA (nth [] G E.toNat) 0]).bind λT=>
 (O (pxt p x t [jA T 0])).bind λD=>
 cond (((v0++[[jA D 0,jA D 1,jA D 2]]).length*24).ble 140737488355328) (cond (decide ((↑(v0++[[jA D 0,jA D 1,jA D 2]]).length:Int)>4)) (cond (decide (0<=1)&&decide (1<=(↑(v0++[[jA D 0,jA D 1,jA D 2]]).length:Int))) (cond ((Int.toNat 1).ble (v0++[[jA D 0,jA D 1,jA D 2]]).length) ((L (AL x++[.vC kPt (List.drop (Int.toNat 1) (v0++[[jA D 0,jA D 1,jA D 2]]))])).bind λM=>
 cond (!bA M 0) (some (1,[B false])) (some (0,(.vC kPt (List.drop (Int.toNat 1) (v0++[[jA D 0,jA D 1,jA D 2]])):: .vC Aa G::I J::I (V (E+1))::pxt p x t [])))) (none)) (none)) ((L (AL x++[.vC kPt (v0++[[jA D 0,jA D 1,jA D 2]])])).bind λN=>
 cond (!bA N 0) (some (1,[B false])) (some (0,(.vC kPt (v0++[[jA D 0,jA D 1,jA D 2]]):: .vC Aa G::I J::I (V (E+1))::pxt p x t []))))) (none)) (none)) (some (2,[])):=by kernel_rfl
theorem Qyw (J L M:Fn) (G:Lp) (D:Rw) (p:Pth) (x:Ax3) (t:Trk):UL J L M G (pxt p x t [.vC Aa D])=
 (G (.vC kPt []:: .vC Aa D::I (D.length:Int)::I 0::pxt p x t [])).bind λE=>
 cond (E.1.beq 1) (some [B (bA E.2 0)]) (cond (E.1.beq 2) (some [B true]) (none)):=by kernel_rfl
def Q6u:=Am (TR GF Dh H4)
def K7:=UL GF Dh H4 Q6u
theorem Qwd:Aj PG (Qoh GF Dh H4):=Ap rfl ⟨Zec,R5,Ze1,trivial⟩
theorem Z7t:An PG (Zf8 K7):=rw2 (C:=Q0l GF Dh H4 Q6u) (fl fb Qwd) Qwd
def Zf3:=qa 128 Qg1 Qrs
def Qhj (D:Fn):Cfg:=cf [Qxe D]
def Rj (D:Fn):Fn:=Ao PG (Qhj D) 64 128 Qg1 Qrs
theorem ZM (L:Fn) (E G M J D:Int):Rj L [I E,I G,I M,I J,I D]=
 cond (decide (D<V (0-E))) (some [B false]) (cond (decide (D>E)) (some [B false]) (cond (J==0) (cond (decide (D>G)) (some [B false]) ((L [I E,I G,I M,I (V (0-D))]).bind λo4=>
 cond (decide (J>=gA o4 0)) ((L [I E,I G,I M,I D]).bind λN=>
 some [B (decide (J<=V (16777216-gA N 0)))]) (some [B false]))) ((L [I E,I G,I M,I (V (0-D))]).bind λO=>
 cond (decide (J>=gA O 0)) ((L [I E,I G,I M,I D]).bind λS=>
 some [B (decide (J<=V (16777216-gA S 0)))]) (some [B false])))):=by kernel_rfl
def G6:=Rj Hg
theorem Zkv:Aj PG (Qhj Hg):=Ap rfl ⟨Q3u,trivial⟩
theorem Qz9:An PG (Zf3 G6):=rw1 (C:=Qhj Hg) Zkv
def Qs2:Sk:=⟨[TS.tup [(false,[sa Aa]),(false,[sb])]],[],[]⟩
def Zuz:=qa 82 Qg1 Qs2
def XN (D E G:Fn):Cfg:={cf [Qbb D,Zf3 E,Zv G]with prom:=λb=>cond (Nat.beq b 4) ([(8,3)]) ([])}
def Q59:Sk:=⟨[td,tf [ci],tf [ci],tf [sd 3 0],td,td,td,td,tf [se 8 1]]++dd 27,[(3,29,[ci,ci,ci])],[(8,3,Aa)]⟩
def Q8u:List (Ex×Sk):=[(Ex.ret,⟨dd 6++[tf [CS.nil],tf [sb]]++dd 28,[],[]⟩),(Ex.exit 0,⟨dd 8++[tf [se 8 1]]++dd 27,[],[(8,3,Aa)]⟩)]
def IV (D E G:Fn):Lp:=A9 PG (XN D E G) 64 4 (A8 PG 82 4) Q59 Q8u
def Q3z (D E G:Fn) (I:Lp):Cfg:=(XN D E G).loop 4 Q59 Q8u I
def RE (D E G:Fn) (I:Lp):Fn:=Ao PG (Q3z D E G I) 64 82 Qg1 Qs2
theorem Rv (M O S:Fn) (v0:Rw) (D N G J L:Int):IV M O S [.vC Aa v0,I D,I N,I G,I J,I L]=
 cond (decide (D>0)) (cond ((v0.length:Int)==4096) (some (1,[B false])) ((M [I G,I J,I L,I D,I N]).bind λE=>
 cond (((v0++[[I (V (D+gA E 0))]]).length*8).ble 140737488355328) (some (0,[.vC Aa (v0++[[I (V (D+gA E 0))]]),I (V (D+gA E 0)),jA E 0,I G,I J,I L])) (none))) (some (2,[.vC Aa v0])):=by kernel_rfl
theorem Xe (V S T:Fn) (U:Lp) (E G J L M:Int):RE V S T U [I E,I G,I J,I L,I M]=
 (T [I E,I G,I J]).bind λN=>
 cond (!bA N 0) (some [.vC Aa [],B false]) ((S [I E,I G,I J,I L,I M]).bind λO=>
 cond (!bA O 0) (some [.vC Aa [],B false]) ((U [.vC Aa [],I L,I M,I E,I G,I J]).bind λD=>
 cond (D.1.beq 1) (some [.vC Aa [],B (bA D.2 0)]) (cond (D.1.beq 2) (some [.vC Aa (wA D.2 0),B true]) (none)))):=by kernel_rfl
def Q78:=Am (IV FX G6 FO)
def K9:=RE FX G6 FO Q78
theorem Zbi:Aj PG (XN FX G6 FO):=Ap rfl ⟨Qfj,Qz9,Qqo,trivial⟩
theorem Zi0:An PG (Zuz K9):=rw2 (C:=Q3z FX G6 FO Q78) (fl fb Zbi) Zbi
def Qht:Sk:=⟨[TS.v true [ci,ci,ci],TS.v true (cc 6)],[],[]⟩
def ZE:=qa 39 Qht Qs2
def Qjk (D:Fn):Cfg:=cf [Zuz D]
def Q9t:Sk:=⟨dd 8++[tf [se 25 1],tf [ci]]++dd 18++[tf [sa Aa],tf [ci],tf [ci]]++dd 13,[],[(25,3,Aa)]⟩
def Zaf:List (Ex×Sk):=[(Ex.exit 0,⟨dd 8++[tf [se 25 1]]++dd 35,[],[(25,3,Aa)]⟩)]
def Il (D:Fn):Lp:=A9 PG (Qjk D) 64 7 (A8 PG 39 7) Q9t Zaf
def Q5r (D:Fn) (E:Lp):Cfg:=(Qjk D).loop 7 Q9t Zaf E
def PX (D:Fn) (E:Lp):Fn:=Ao PG (Q5r D E) 64 39 Qht Qs2
theorem Qgx (L:Fn) (v0:Rw) (G:Int) (E:Rw) (J D:Int):Il L [.vC Aa v0,I G, .vC Aa E,I J,I D]=
 cond (decide (D<J)) (cond (decide (0<=D)&&decide (D<(E.length:Int))) (cond (decide (0<=D)&&decide (D<(v0.length:Int))) (some (0,[.vC Aa (v0.set D.toNat [I (V (G+gA (nth [] E D.toNat) 0))]),I (V (G+gA (nth [] E D.toNat) 0)), .vC Aa E,I J,I (V (D+1))])) (none)) (none)) (some (1,[.vC Aa v0])):=by kernel_rfl
theorem Um (D:Fn) (E:Lp) (G J L M N O S T U:Int):PX D E [I G,I J,I L,I M,I N,I O,I S,I T,I U]=
 (D [I G,I J,I L,I N,I O]).bind λo3=>
 cond (!bA o3 1) (some [.vC Aa [],B false]) (cond (decide ((↑(wA o3 0).length:Int)=(↑(wA o3 0).length:Int))) (cond (decide (0<=(↑(wA o3 0).length:Int))&&decide ((↑(wA o3 0).length:Int)*(↑8:Int)<=140737488355328)) ((E [.vC Aa (List.replicate (↑(wA o3 0).length:Int).toNat [I 0]),I M, .vC Aa (wA o3 0),I (↑(wA o3 0).length:Int),I 0]).bind λo4=>
 cond (o4.1.beq 1) (some [.vC Aa (wA o4.2 0),B true]) (none)) (none)) (none)):=by kernel_rfl
def Qx1:=Am (Il K9)
def Fc:=PX K9 Qx1
theorem Zb1:Aj PG (Qjk K9):=Ap rfl ⟨Zi0,trivial⟩
theorem Qi4:An PG (ZE Fc):=rw2 (C:=Q5r K9 Qx1) (fl fb Zb1) Zb1
def Qob:Sk:=⟨[TS.v true [ci,ci,ci,sa Ag,sa kPt],TS.v true (cc 9++[sa Aa]++cc 9++[sa Aa]++cc 9++[sa Aa]),TS.v true ([sa At]++cc 5),TS.v true [ci,ci,ci],TS.v true (cc 6),tf [ci]],[],[]⟩
def Zcs:=qa 154 Qob Qrs
def ZF (D E:Fn):Cfg:={cf [Zf8 D,ZE E]with rowDst:=[48]}
def Q4 (D E:Fn):Fn:=Ao PG (ZF D E) 64 154 Qob Qrs
theorem Xp (U X:Fn) (M N O D S T E G J L:Int) (p:Pth) (x:Ax3) (t:Trk):Q4 U X (pxt p x t [I M,I N,I O,I D,I S,I T,I E,I G,I J,I L])=
 (X [I M,I N,I O,I D,I S,I T,I E,I G,I J]).bind λo3=>
 cond (!bA o3 1) (some [B false]) (cond (decide ((↑(wA o3 0).length:Int)>0)) (cond (decide (0<=V ((↑(wA o3 0).length:Int)-1))&&decide (V ((↑(wA o3 0).length:Int)-1)<(↑(wA o3 0).length:Int))) (cond (decide (Af (nth .vD (nth [] (wA o3 0) (V ((↑(wA o3 0).length:Int)-1)).toNat) 0)>V (L*256))) (some [B false]) (cond ((([[I J],[I G],[I E],[I D]]++wA o3 0).length*8).ble 140737488355328) (cond ((([[I J],[I G],[I E],[I D]]++wA o3 0++[[I (Af (nth .vD (nth [] (wA o3 0) (V ((↑(wA o3 0).length:Int)-1)).toNat) 0))],[I (Af (nth .vD (nth [] (wA o3 0) (V ((↑(wA o3 0).length:Int)-1)).toNat) 0))]]).length*8).ble 140737488355328) ((U (pxt p x t [.vC Aa ([[I J],[I G],[I E],[I D]]++wA o3 0++[[I (Af (nth .vD (nth [] (wA o3 0) (V ((↑(wA o3 0).length:Int)-1)).toNat) 0))],[I (Af (nth .vD (nth [] (wA o3 0) (V ((↑(wA o3 0).length:Int)-1)).toNat) 0))]])])).bind λo4=>
 some [B (bA o4 0)]) (none)) (none))) (none)) (cond (decide (D>V (L*256))) (some [B false]) (cond ((([[I J],[I G],[I E],[I D]]++wA o3 0).length*8).ble 140737488355328) (cond ((([[I J],[I G],[I E],[I D]]++wA o3 0++[[I D],[I D]]).length*8).ble 140737488355328) ((U (pxt p x t [.vC Aa ([[I J],[I G],[I E],[I D]]++wA o3 0++[[I D],[I D]])])).bind λY=>
 some [B (bA Y 0)]) (none)) (none)))):=by kernel_rfl
def Iu:=Q4 K7 Fc
theorem Zo4:Aj PG (ZF K7 Fc):=Ap rfl ⟨Z7t,Qi4,trivial⟩
theorem Q20:An PG (Zcs Iu):=rw1 (C:=ZF K7 Fc) Zo4
def Qrc:Sk:=⟨[TS.v true [ci,ci,sb,sb,sb],TS.v true [ci,ci,ci],TS.v true (cc 7)],[],[]⟩
def Z2v:=qa 198 Qrc Qar
def Vr:Fn:=Ao PG Qdd 64 198 Qrc Qar
theorem Zbq (G J:Int) (O T U:Bool) (X Y S x8 x9 L M N D E:Int):Vr [I G,I J,B O,B T,B U,I X,I Y,I S,I x8,I x9,I L,I M,I N,I D,I E]=
 cond (O) (some [I 0]) (cond (E !=0) (some [I (mn (mx D 1) 16777216)]) (cond (D==0) (cond (J==0) (some [I 0]) (some [I (mn (mx (V ((V (S*J)).tdiv 100)) 1) 16777216)])) (cond (G==0) (some [I 0]) (some [I (mn (mx (V ((V (D*G)).tdiv 100)) 1) 16777216)])))):=by kernel_rfl
def O4:=Vr
theorem Zya:An PG (Z2v O4):=rw1 (C:=Qdd) Zhu
def Qkd:Sk:=⟨[TS.v true [ci,ci,ci,sa Ag,sa kPt],TS.v true ([sa At]++cc 5),TS.v true [ci,ci,ci],TS.v true [ci,ci,sb,sb,sb],tf [ci]],[],[]⟩
def Z2u:=qa 178 Qkd Qar
def Qe6 (D E G I:Fn):Cfg:=cf [Z2v D,Qjv E,RG G,Q4i I]
def Vh (D E G I:Fn):Fn:=Ao PG (Qe6 D E G I) 64 178 Qkd Qar
theorem Q03 (U V X Y:Fn) (D E G J L:Int) (M N O:Bool) (S:Int) (p:Pth) (t:Trk):Vh U V X Y (DL p t [I D,I E,I G,I J,I L,B M,B N,B O,I S])=
 (Y [I S]).bind λo4=>
 (X (A4 t++[jA o4 0])).bind λo5=>
 (V (Bv p++[jA o5 0])).bind λT=>
 cond (decide (0<=gA T 0)&&decide (gA T 0<((p.aF.map Ax).length:Int))) ((U (I J::I L::B M::B N::B O::I D::I E::I G::AV Ag (nth [] (p.aF.map Ax) (gA T 0).toNat))).bind λo7=>
 some [jA o7 0]) (none):=by kernel_rfl
def L9:=Vh O4 Fq Ez H4
theorem Yay:Aj PG (Qe6 O4 Fq Ez H4):=Ap rfl ⟨Zya,Qam,RU,Ze1,trivial⟩
theorem Ztl:An PG (Z2u L9):=rw1 (C:=Qe6 O4 Fq Ez H4) Yay
def Qci:Sk:=⟨[TS.v true [ci,ci,ci,sa Ag,sa kPt],TS.v true ([sa At]++cc 5),TS.v true [ci,ci,ci],TS.v true [ci,ci,sb,sb,sb],TS.v true (cc 6)],[],[]⟩
def Zq8:=qa 153 Qci Qrs
def Qfh (D E:Fn):Cfg:=cf [Z2u D,ZE E]
def Qzu:Sk:=⟨[td,td,td,td,td,tf [sd 5 0],tf [sd 6 0],tf [sd 7 0],tf [sd 8 0],td,td,td,td,tf [ci]]++dd 30++[tf [sa Aa],tf [ci],tf [ci]]++dd 15,[(5,58,[ci,ci,ci,sa Ag,sa kPt]),(6,62,[sa At]++cc 5),(7,29,[ci,ci,ci]),(8,92,[ci,ci,sb,sb,sb])],[]⟩
def Zc8:List (Ex×Sk):=[(Ex.ret,⟨dd 10++[tf [sb]]++dd 51,[],[]⟩),(Ex.exit 0,⟨[td]++dd 61,[],[]⟩)]
def S5 (D E:Fn):Lp:=A9 PG (Qfh D E) 64 6 (A8 PG 153 6) Qzu Zc8
def Q7x (D E:Fn) (G:Lp):Cfg:=(Qfh D E).loop 6 Qzu Zc8 G
def U3 (D E:Fn) (G:Lp):Fn:=Ao PG (Q7x D E G) 64 153 Qci Qrs
theorem Qx3 (S T:Fn) (v0:Int) (N:Rw) (O D:Int) (E G J L M:Int) (v20 v21 v22:Bool) (p:Pth) (t:Trk):S5 S T (I v0:: .vC Aa N::I O::I D::DL p t [I E,I G,I J,I L,I M,B v20,B v21,B v22])=
 cond (decide (D<O)) (cond (decide (0<=D)&&decide (D<(N.length:Int))) ((S (DL p t [I E,I G,I J,I L,I M,B v20,B v21,B v22,jA (nth [] N D.toNat) 0])).bind λU=>
 cond (decide (V (gA (nth [] N D.toNat) 0-v0)>gA U 0)) (some (1,[B false])) (some (0,(jA (nth [] N D.toNat) 0:: .vC Aa N::I O::I (V (D+1))::DL p t [I E,I G,I J,I L,I M,B v20,B v21,B v22])))) (none)) (some (2,[])):=by kernel_rfl
theorem Qyu (GN Db:Fn) (N6:Lp) (D E G L M:Int) (N O S:Bool) (J T U V X Y:Int) (p:Pth) (t:Trk):U3 GN Db N6 (DL p t [I D,I E,I G,I L,I M,B N,B O,B S,I J,I T,I U,I V,I X,I Y])=
 (Db [I D,I E,I G,I J,I T,I U,I V,I X,I Y]).bind λo7=>
 cond (!bA o7 1) (some [B false]) (cond (((p.aF.map Ax).length:Int)==0) (some [B false]) ((GN (DL p t [I D,I E,I G,I L,I M,B N,B O,B S,I J])).bind λo8=>
 cond (decide (T>gA o8 0)) (some [B false]) ((N6 (I J:: .vC Aa (wA o7 0)::I (↑(wA o7 0).length:Int)::I 0::DL p t [I D,I E,I G,I L,I M,B N,B O,B S])).bind λo9=>
 cond (o9.1.beq 1) (some [B (bA o9.2 0)]) (cond (o9.1.beq 2) (some [B true]) (none))))):=by kernel_rfl
def Q2l:=Am (S5 L9 Fc)
def Lw:=U3 L9 Fc Q2l
theorem Zcm:Aj PG (Qfh L9 Fc):=Ap rfl ⟨Ztl,Qi4,trivial⟩
theorem Zme:An PG (Zq8 Lw):=rw2 (C:=Q7x L9 Fc Q2l) (fl fb Zcm) Zcm
def Qcc:Sk:=⟨[TS.v true (cc 6),tf [ci]],[],[]⟩
def Qlu:Sk:=⟨[TS.v true (cc 6)],[],[]⟩
def Q8b:=qa 152 Qcc Qlu
def Wk:Fn:=Ao PG Qdd 64 152 Qcc Qlu
theorem Z57 (E G M J L N D:Int):Wk [I E,I G,I M,I J,I L,I N,I D]=
 some [I (V (E+D)),I D,I (V (D-G)),I E,I J,I L]:=by kernel_rfl
def J6:=Wk
theorem Q3i:An PG (Q8b J6):=rw1 (C:=Qdd) Zhu
def Zyh:=qa 151 Qar Qic
def Qwg:Sk:=⟨[td,td,td,tf [se 3 1],tf [ci]]++dd 32,[],[(3,3,Aa)]⟩
def Qxx:List (Ex×Sk):=[(Ex.exit 0,⟨[td,td,td,tf [se 3 1]]++dd 33,[],[(3,3,Aa)]⟩)]
def RL:Lp:=A9 PG C_limits_Differences_0 64 3 (A8 PG 151 3) Qwg Qxx
def Zac (D:Lp):Cfg:=C_limits_Differences_0.loop 3 Qwg Qxx D
def Q01:Sk:=⟨[td,td,td,tf [se 3 1],td,tf [se 16 1],tf [ci]]++dd 30,[],[(3,3,Aa),(16,3,Aa)]⟩
def Zbu:List (Ex×Sk):=[(Ex.exit 2,⟨[td,td,td,td,td,tf [se 16 1]]++dd 31,[],[(16,3,Aa)]⟩)]
def SO (D:Lp):Lp:=A9 PG (Zac D) 64 8 (A8 PG 151 8) Q01 Zbu
def Q72 (D E:Lp):Cfg:=(Zac D).loop 8 Q01 Zbu E
def Qaj (D E:Lp):Fn:=Ao PG (Q72 D E) 64 151 Qar Qic
theorem Zlv (v0:Rw) (D:Int):RL [.vC Aa v0,I D]=
 cond (decide (D>0)) (cond (((v0++[[I D]]).length*8).ble 140737488355328) (some (0,[.vC Aa (v0++[[I D]]),I (V (D.tdiv 2))])) (none)) (some (1,[.vC Aa v0])):=by kernel_rfl
theorem Z22 (G:Lp) (v0 E:Rw) (D:Int):SO G [.vC Aa v0, .vC Aa E,I D]=
 cond (decide (D>=0)) (cond (decide (0<=D)&&decide (D<(v0.length:Int))) (cond (((E++[[I (V (0-gA (nth [] v0 D.toNat) 0))]]).length*8).ble 140737488355328) (some (0,[.vC Aa v0, .vC Aa (E++[[I (V (0-gA (nth [] v0 D.toNat) 0))]]),I (V (D-1))])) (none)) (none)) (some (1,[.vC Aa E])):=by kernel_rfl
theorem Zth (D E:Lp) (G:Int):Qaj D E [I G]=
 (D [.vC Aa [],I G]).bind λo3=>
 cond (o3.1.beq 1) (cond ((([]++wA o3.2 0).length*8).ble 140737488355328) (cond ((([]++wA o3.2 0++[[I 0]]).length*8).ble 140737488355328) ((E [.vC Aa (wA o3.2 0), .vC Aa ([]++wA o3.2 0++[[I 0]]),I (V ((↑(wA o3.2 0).length:Int)-1))]).bind λo4=>
 cond (o4.1.beq 1) (some [.vC Aa (wA o4.2 0)]) (none)) (none)) (none)) (none):=by kernel_rfl
def Qri:=Am (RL)
def Q51:=Am (SO Qri)
def Qa:=Qaj Qri Q51
theorem Ycm:An PG (Zyh Qa):=rw2 (C:=Q72 Qri Q51) (fl (fl fb Q6g) Q6g) Q6g
def Qsv:Sk:=⟨[TS.v true [ci,ci,ci,sa Ag,sa kPt],TS.v true (cc 9++[sa Aa]++cc 9++[sa Aa]++cc 9++[sa Aa]),TS.v true ([sa At]++cc 5),TS.v true [ci,ci,ci],TS.v true [ci,ci,sb,sb,sb],TS.v true (cc 6),tf [ci]],[],[]⟩
def Qex:=qa 104 Qsv Qlu
def Qnv (D E G I J L:Fn):Cfg:=cf [Qbb D,Zcs E,Zq8 G,Q8b I,Zf3 J,Zyh L]
def Q6c:Sk:=⟨dd 6++[tf [ci],tf [sd 7 0],tf [sd 8 0],tf [sd 9 0],tf [sd 10 0],tf [sd 11 0],tf [sd 12 0],td,tf [sd 14 0],tf [sd 15 0],tf [sb]]++dd 6++[tf [sa Aa],tf [ci],tf [ci]]++dd 57,[(7,58,[ci,ci,ci,sa Ag,sa kPt]),(8,27,cc 9++[sa Aa]++cc 9++[sa Aa]++cc 9++[sa Aa]),(9,62,[sa At]++cc 5),(10,29,[ci,ci,ci]),(11,92,[ci,ci,sb,sb,sb]),(12,50,cc 6),(14,50,cc 6),(15,50,cc 6)],[]⟩
def Q56:List (Ex×Sk):=[(Ex.exit 0,⟨dd 10++[tf [sd 10 0],td,tf [sd 12 0],td,tf [sd 14 0],tf [sd 15 0],tf [sb]]++dd 66,[(10,29,[ci,ci,ci]),(12,50,cc 6),(14,50,cc 6),(15,50,cc 6)],[]⟩)]
def Qoy (D E G I J L:Fn):Lp:=A9 PG (Qnv D E G I J L) 64 4 (A8 PG 104 4) Q6c Q56
def Q5d (D E G I J L:Fn) (M:Lp):Cfg:=(Qnv D E G I J L).loop 4 Q6c Q56 M
def Qnr (D E G I J L:Fn) (M:Lp):Fn:=Ao PG (Q5d D E G I J L M) 64 104 Qsv Qlu
theorem Zvz (BP En G9 C1 Dq HX:Fn) (v0:Int) (v1:Bool) (v2:Rw) (v3 v4:Int) (v46 J v48 v49 X:Int) (v51 Y v53:Bool) (L G E M N v59 O S T v63 U v65 a0 a1 v68 v69 v70 a2:Int) (p:Pth) (x:Ax3) (t:Trk):Qoy BP En G9 C1 Dq HX (I v0::B v1:: .vC Aa v2::I v3::I v4::pxt p x t [I v46,I J,I v48,I v49,I X,B v51,B Y,B v53,I L,I G,I E,I M,I N,I v59,I O,I S,I T,I v63,I U,I v65,I a0,I a1,I v68,I v69,I v70,I a2])=
 cond (decide (v4<v3)) (cond (decide (0<=v4)&&decide (v4<(v2.length:Int))) (cond (decide (V (G+V (E+gA (nth [] v2 v4.toNat) 0))<0)) (some (0,(I v0::B v1:: .vC Aa v2::I v3::I (V (v4+1))::pxt p x t [I v46,I J,I v48,I v49,I X,B v51,B Y,B v53,I L,I G,I E,I M,I N,I v59,I O,I S,I T,I v63,I U,I v65,I a0,I a1,I v68,I v69,I v70,I a2]))) ((Dq [I v46,I J,I v48,I (V (G+V (E+gA (nth [] v2 v4.toNat) 0))),I (V (E+gA (nth [] v2 v4.toNat) 0))]).bind λo9=>
 cond (!bA o9 0) (some (0,(I v0::B v1:: .vC Aa v2::I v3::I (V (v4+1))::pxt p x t [I v46,I J,I v48,I v49,I X,B v51,B Y,B v53,I L,I G,I E,I M,I N,I v59,I O,I S,I T,I v63,I U,I v65,I a0,I a1,I v68,I v69,I v70,I a2]))) ((C1 [I L,I G,I E,I M,I N,I v59,I (V (G+V (E+gA (nth [] v2 v4.toNat) 0)))]).bind λD=>
 (G9 (DL p t [I v46,I J,I v48,I v49,I X,B v51,B Y,B v53,jA D 0,jA D 1,jA D 2,jA D 3,jA D 4,jA D 5])).bind λa3=>
 cond (bA a3 0) ((En (pxt p x t [I v46,I J,I v48,jA D 0,jA D 1,jA D 2,jA D 3,jA D 4,jA D 5,I v0])).bind λa4=>
 cond (bA a4 0) (some (1,[B true,I v46,I J,I v48,I L,I G,I E,I M,I N,I v59,I O,I S,I T,I v63,I U,I v65,jA D 0,jA D 1,jA D 2,jA D 3,jA D 4,jA D 5])) (some (0,(I v0::B v1:: .vC Aa v2::I v3::I (V (v4+1))::pxt p x t [I v46,I J,I v48,I v49,I X,B v51,B Y,B v53,I L,I G,I E,I M,I N,I v59,I O,I S,I T,I v63,I U,I v65,jA D 0,jA D 1,jA D 2,jA D 3,jA D 4,jA D 5])))) (some (0,(I v0::B v1:: .vC Aa v2::I v3::I (V (v4+1))::pxt p x t [I v46,I J,I v48,I v49,I X,B v51,B Y,B v53,I L,I G,I E,I M,I N,I v59,I O,I S,I T,I v63,I U,I v65,jA D 0,jA D 1,jA D 2,jA D 3,jA D 4,jA D 5])))))) (none)) (some (1,[B v1,I v46,I J,I v48,I L,I G,I E,I M,I N,I v59,I O,I S,I T,I v63,I U,I v65,I a0,I a1,I v68,I v69,I v70,I a2])):=by kernel_rfl
theorem Z58 (BP En G9 C1 Dq HX:Fn) (N4:Lp) (J G L M N:Int) (O S T:Bool) (U X Y a0 a1 a2 a3:Int) (p:Pth) (x:Ax3) (t:Trk):Qnr BP En G9 C1 Dq HX N4 (pxt p x t [I J,I G,I L,I M,I N,B O,B S,B T,I U,I X,I Y,I a0,I a1,I a2,I a3])=
 (HX [I G]).bind λa4=>
 (N4 (I a3::B false:: .vC Aa (wA a4 0)::I (↑(wA a4 0).length:Int)::I 0::pxt p x t [I J,I G,I L,I M,I N,B O,B S,B T,I U,I X,I Y,I a0,I a1,I a2,I 0,I 0,I 0,I 0,I 0,I 0,I 0,I 0,I 0,I 0,I 0,I 0])).bind λD=>
 cond (D.1.beq 1) (cond (bA D.2 0) (some [jA D.2 16,jA D.2 17,jA D.2 18,jA D.2 19,jA D.2 20,jA D.2 21]) ((BP [jA D.2 1,jA D.2 2,jA D.2 3,jA D.2 5,jA D.2 6]).bind λa5=>
 (C1 [jA D.2 4,jA D.2 5,jA D.2 6,jA D.2 7,jA D.2 8,jA D.2 9,I (V (gA D.2 5+gA a5 0))]).bind λE=>
 some [jA E 0,jA E 1,jA E 2,jA E 3,jA E 4,jA E 5])) (none):=by kernel_rfl
def Q8r:=Am (Qoy FX Iu Lw J6 G6 Qa)
def EW:=Qnr FX Iu Lw J6 G6 Qa Q8r
theorem Qvn:Aj PG (Qnv FX Iu Lw J6 G6 Qa):=Ap rfl ⟨Qfj,Q20,Zme,Q3i,Qz9,Ycm,trivial⟩
theorem Qte:An PG (Qex EW):=rw2 (C:=Q5d FX Iu Lw J6 G6 Qa Q8r) (fl fb Qvn) Qvn
def Q0o:=qa 35 Qht Zd
def Qtc (D:Fn):Cfg:=cf [ZE D]
def LI (D:Fn):Fn:=Ao PG (Qtc D) 64 35 Qht Zd
theorem VV (E:Fn) (G J L D M N O S T:Int):LI E [I G,I J,I L,I D,I M,I N,I O,I S,I T]=
 (E [I G,I J,I L,I D,I M,I N,I O,I S,I T]).bind λo1=>
 cond (!bA o1 1) (some [I 0,B false]) (cond ((↑(wA o1 0).length:Int)==0) (some [I D,B true]) (cond (decide (0<=V ((↑(wA o1 0).length:Int)-1))&&decide (V ((↑(wA o1 0).length:Int)-1)<(↑(wA o1 0).length:Int))) (some [I (Af (nth .vD (nth [] (wA o1 0) (V ((↑(wA o1 0).length:Int)-1)).toNat) 0)),B true]) (none))):=by kernel_rfl
def Gj:=LI Fc
theorem Z48:Aj PG (Qtc Fc):=Ap rfl ⟨Qi4,trivial⟩
theorem Q1i:An PG (Q0o Gj):=rw1 (C:=Qtc Fc) Z48
def Zku:=qa 200 Z5 Qar
def Qtg (D:Fn):Cfg:=cf [Nw D]
def YY (D:Fn):Fn:=Ao PG (Qtg D) 64 200 Z5 Qar
theorem Z3e (D:Fn) (E G:Int):YY D [I E,I G]=
 (D [I E,I G,I 4096,I 0]).bind λo1=>
 some [jA o1 0]:=by kernel_rfl
def QV:=YY BO
theorem Z7i:Aj PG (Qtg BO):=Ap rfl ⟨L0,trivial⟩
theorem Ycq:An PG (Zku QV):=rw1 (C:=Qtg BO) Z7i
def Zzs:=qa 201 Z5 Qar
def Qck:Fn:=Ao PG Qdd 64 201 Z5 Qar
theorem Zne (D E:Int):Qck [I D,I E]=
 some [I (mx (V (D-E)) (V (E-D)))]:=by kernel_rfl
def Ss:=Qck
theorem Zvh:An PG (Zzs Ss):=rw1 (C:=Qdd) Zhu
def Z2:Sk:=⟨[TS.v true [ci,ci,ci,sa Ag,sa kPt],TS.v true (cc 9++[sa Aa]++cc 9++[sa Aa]++cc 9++[sa Aa]),TS.v true ([sa At]++cc 5),TS.v true [ci,ci,ci],TS.v true [ci,ci,sb,sb,sb],TS.v true (cc 6),tf [ci],tf [ci],TS.v true [ci,ci,ci,ci],tf [ci],tf [ci]],[],[]⟩
def Qtv:Sk:=⟨[TS.tup [(true,cc 6),(true,[ci,ci,ci,ci]),(false,[ci])]],[],[]⟩
def Zqc:=qa 181 Z2 Qtv
def Qcf (D E G I J L M:Fn):Cfg:=cf [Qex D,Qbb E,Q0o G,Zcs I,Q8b J,Zku L,Zzs M]
def Qns (D E G I J L M:Fn):Fn:=Ao PG (Qcf D E G I J L M) 64 181 Z2 Qtv
abbrev Qlg (EP:Fn) (N O S:Int) (E:List AC) (T:Int) (a3:List AC) (U X a4:Int) (BP:Fn) (D G:Int) (C1:Fn) (Y a0 a1 a2:Int):Option (List AC):=
 (EP [I N,I O,I S,jA E 0,jA E 1,jA E 2,jA E 3,jA E 4,jA E 5]).bind λa5=>
 cond (decide (V (V (V (T+gA a3 0)-U)-X)>=0)) (cond (decide (gA a5 0>V (a4*256))) ((BP [I N,I O,I S,I D,I G]).bind λa6=>
 (C1 [I X,I D,I G,I Y,I a0,I a1,I (V (D+gA a6 0))]).bind λJ=>
 some [jA J 0,jA J 1,jA J 2,jA J 3,jA J 4,jA J 5,I 3,I T,I a2,I U,I 0]) ((BP [I N,I O,I S,I D,I G]).bind λa7=>
 (C1 [I X,I D,I G,I Y,I a0,I a1,I (V (D+gA a7 0))]).bind λL=>
 some [jA L 0,jA L 1,jA L 2,jA L 3,jA L 4,jA L 5,I 3,I T,I a2,I U,I 18])) ((BP [I N,I O,I S,I D,I G]).bind λa8=>
 (C1 [I X,I D,I G,I Y,I a0,I a1,I (V (D+gA a8 0))]).bind λM=>
 some [jA M 0,jA M 1,jA M 2,jA M 3,jA M 4,jA M 5,I 3,I T,I a2,I U,I 18])
theorem Z3q (Dd BP EP En C1 NE LL:Fn) (N O S a7 a8:Int) (b5 a9 b0:Bool) (J T U X Y a0 a1 b1 a2 G L M b2 b3:Int) (p:Pth) (x:Ax3) (t:Trk):Qns Dd BP EP En C1 NE LL (pxt p x t [I N,I O,I S,I a7,I a8,B b5,B a9,B b0,I J,I T,I U,I X,I Y,I a0,I a1,I b1,I a2,I G,I L,I M,I b2,I b3])=
 (LL [I b3,I L]).bind λb6=>
 (NE [I b1,jA b6 0]).bind λa3=>
 cond (a2==1) ((LL [I b2,I L]).bind λb7=>
 (NE [I b1,jA b7 0]).bind λb4=>
 (C1 [I J,I T,I U,I X,I Y,I a0,I (V (gA a3 0-gA b4 0))]).bind λE=>
 cond (V (gA a3 0-gA b4 0) !=0) ((En (pxt p x t [I N,I O,I S,jA E 0,jA E 1,jA E 2,jA E 3,jA E 4,jA E 5,I a1])).bind λb8=>
 cond (bA b8 0) (some [jA E 0,jA E 1,jA E 2,jA E 3,jA E 4,jA E 5,I 2,I G,I L,I (V (gA a3 0-V (gA E 0-G))),I 0]) ((Dd (pxt p x t [I N,I O,I S,I a7,I a8,B false,B a9,B b0,I J,I T,I U,I X,I Y,I a0,I a1])).bind λa4=>
 some [jA a4 0,jA a4 1,jA a4 2,jA a4 3,jA a4 4,jA a4 5,I a2,I G,I L,I M,I 0])) ((Dd (pxt p x t [I N,I O,I S,I a7,I a8,B false,B a9,B b0,I J,I T,I U,I X,I Y,I a0,I a1])).bind λa5=>
 some [jA a5 0,jA a5 1,jA a5 2,jA a5 3,jA a5 4,jA a5 5,I a2,I G,I L,I M,I 0])) (cond (a2==2) ((C1 [I J,I T,I U,I X,I Y,I a0,I (V (V (V (G+gA a3 0)-M)-J))]).bind λD=>
 cond (decide (V (V (V (G+gA a3 0)-M)-J)>=0)) ((En (pxt p x t [I N,I O,I S,jA D 0,jA D 1,jA D 2,jA D 3,jA D 4,jA D 5,I a1])).bind λb9=>
 cond (bA b9 0) (some [jA D 0,jA D 1,jA D 2,jA D 3,jA D 4,jA D 5,I a2,I G,I L,I M,I 0]) (Qlg EP N O S D G a3 M J a1 BP T U C1 X Y a0 L)) (Qlg EP N O S D G a3 M J a1 BP T U C1 X Y a0 L)) ((Dd (pxt p x t [I N,I O,I S,I a7,I a8,B false,B a9,B b0,I J,I T,I U,I X,I Y,I a0,I a1])).bind λa6=>
 some [jA a6 0,jA a6 1,jA a6 2,jA a6 3,jA a6 4,jA a6 5,I a2,I G,I L,I M,I 0])):=by kernel_rfl
def G8:=Qns EW FX Gj Iu J6 QV Ss
theorem Zrg:Aj PG (Qcf EW FX Gj Iu J6 QV Ss):=Ap rfl ⟨Qte,Qfj,Q1i,Q20,Q3i,Ycq,Zvh,trivial⟩
theorem Zk3:An PG (Zqc G8):=rw1 (C:=Qcf EW FX Gj Iu J6 QV Ss) Zrg
def X6:=qa 159 Qe8 Qnf
def Qn5 (D:Fn):Cfg:=cf [Qex D]
def Qs8 (D:Fn):Fn:=Ao PG (Qn5 D) 64 159 Qe8 Qnf
theorem Zli (D:Fn) (E:Int) (K:Kf) (c:Cv):Qs8 D (I E::Ab K c)=
 (D (pxt K.p K.x K.t [I K.pa,I K.pb,I K.pc,I c.o0,I c.o1,B c.o2,B c.o3,B c.o4,I c.m0,I c.m1,I c.m2,I c.m3,I c.m4,I c.m5,I E])).bind λo1=>
 some (Ab K {c with m0:=gA o1 0,m1:=gA o1 1,m2:=gA o1 2,m3:=gA o1 3,m4:=gA o1 4,m5:=gA o1 5}):=by kernel_rfl
def Is:=Qs8 EW
theorem Zqh:Aj PG (Qn5 EW):=Ap rfl ⟨Qte,trivial⟩
theorem Qp2:An PG (X6 Is):=rw1 (C:=Qn5 EW) Zqh
def Qp8:Sk:=⟨[tf [sd 20000 0],tf [ci],TS.v true (cc 7)],[(20000,119,cS)],[]⟩
def Yby:=qa 162 Qp8 Qnf
def Qoe (D E G:Fn):Cfg:=cp [Zu D,Zqc E,X6 G] [108,159]
def YQ (D E G:Fn):Fn:=Ao PG (Qoe D E G) 64 162 Qp8 Qnf
theorem Zqa (E G J:Fn) (D M N O S T U L:Int) (K:Kf) (c:Cv):YQ E G J (I D::I M::I N::I O::I S::I T::I U::I L::Ab K c)=
 cond (c.g0 !=0) ((J (I D::Ab K c)).bind λo3=>
 some (DY (cR 0 o3) [(82,I 3)])) ((G (pxt K.p K.x K.t [I K.pa,I K.pb,I K.pc,I c.o0,I c.o1,B c.o2,B c.o3,B c.o4,I c.m0,I c.m1,I c.m2,I c.m3,I c.m4,I c.m5,I D,I L,I c.e0,I c.e1,I c.e2,I c.e3,I c.before,I c.s3])).bind λo4=>
 cond (gA o4 10 !=0) ((E (Ab K {c with m0:=gA o4 0,m1:=gA o4 1,m2:=gA o4 2,m3:=gA o4 3,m4:=gA o4 4,m5:=gA o4 5,e0:=gA o4 6,e1:=gA o4 7,e2:=gA o4 8,e3:=gA o4 9})).bind λV=>
 some (cR 0 V)) (some (Ab K {c with m0:=gA o4 0,m1:=gA o4 1,m2:=gA o4 2,m3:=gA o4 3,m4:=gA o4 4,m5:=gA o4 5,e0:=gA o4 6,e1:=gA o4 7,e2:=gA o4 8,e3:=gA o4 9}))):=by kernel_rfl
def Qo:=YQ Hm G8 Is
theorem Zvp:Aj PG (Qoe Hm G8 Is):=Ap rfl ⟨Qq6,Zk3,Qp2,trivial⟩
theorem Zuh:An PG (Yby Qo):=rw1 (C:=Qoe Hm G8 Is) Zvp
def Zj5:=qa 42 Z5 Qar
def Qps (D:Fn):Cfg:=cf [Nw D]
def Y4 (D:Fn):Fn:=Ao PG (Qps D) 64 42 Z5 Qar
theorem Zl2 (D:Fn) (E G:Int):Y4 D [I E,I G]=
 (D [I 4096,I G,I E,I 0]).bind λo1=>
 some [jA o1 0]:=by kernel_rfl
def KW:=Y4 BO
theorem Z61:Aj PG (Qps BO):=Ap rfl ⟨L0,trivial⟩
theorem Ya8:An PG (Zj5 KW):=rw1 (C:=Qps BO) Z61
def Z4p:=qa 161 Qp8 Qnf
def YH (D E G:Fn):Cfg:=cr [Zj5 D,PR E,X6 G] [110,159] [110]
def Qq2 (D E G:Fn):Fn:=Ao PG (YH D E G) 64 161 Qp8 Qnf
theorem Zg6 (G J M:Fn) (N O S T U E X L:Int) (K:Kf) (c:Cv):Qq2 G J M (I N::I O::I S::I T::I U::I E::I X::I L::Ab K c)=
 (M (I N::Ab K c)).bind λD=>
 cond (decide (0<=E)&&decide (E<(↑(wA D 35).length:Int))) (cond (Af (nth .vD (nth [] (wA D 35) E.toNat) 19)==3) ((J (cR 0 D)).bind λY=>
 (G [I L,I (V (gA Y 0-gA D 80))]).bind λo7=>
 some (DY (cR 0 D) [(67,I (V (gA D 81+V (V (1*gA o7 0)*256))))])) ((J (cR 0 D)).bind λo8=>
 (G [I L,I (V (gA o8 0-gA D 80))]).bind λo9=>
 some (DY (cR 0 D) [(67,I (V (gA D 81+V (V (-1*gA o9 0)*256))))]))) (none):=by kernel_rfl
def Rg:=Qq2 KW Dt Is
theorem Zl6:Aj PG (YH KW Dt Is):=Ho (rs:=[110]) rfl ⟨Ya8,Qf,Qp2,trivial⟩ rfl (CH rfl (Fx (CH rfl HF)))
theorem Zkc:An PG (Z4p Rg):=rw1 (C:=YH KW Dt Is) Zl6
def Ya3:=qa 199 Z5 Qar
def Qmm:Fn:=Ao PG Qdd 64 199 Z5 Qar
theorem Z9i (E D:Int):Qmm [I E,I D]=
 cond (decide (D=0)) (none) (cond (decide (D=0)) (none) (cond (decide (E.tmod D<0)) (some [I (V (V (E.tdiv D)-1))]) (some [I (V (E.tdiv D))]))):=by kernel_rfl
def KB:=Qmm
theorem Z9c:An PG (Ya3 KB):=rw1 (C:=Qdd) Zhu
def Zz6:=qa 180 Z5 Qar
def Qqd (D:Fn):Cfg:=cf [Ya3 D]
def Qki (D:Fn):Fn:=Ao PG (Qqd D) 64 180 Z5 Qar
theorem Z3p (D:Fn) (E G:Int):Qki D [I E,I G]=
 cond (G== -1) ((D [I E,I 1048576]).bind λo2=>
 some [I (V (gA o2 0*1048576))]) ((D [I (V (0-E)),I 1048576]).bind λo3=>
 some [I (V (V (0-gA o3 0)*1048576))]):=by kernel_rfl
def La:=Qki KB
theorem Z2f:Aj PG (Qqd KB):=Ap rfl ⟨Z9c,trivial⟩
theorem Znz:An PG (Zz6 La):=rw1 (C:=Qqd KB) Z2f
def Qo4:Sk:=⟨[tf [sd 20000 0],TS.v true (cc 7)],[(20000,119,cS)],[]⟩
def Qi5:Sk:=⟨[tf [sb]],[(20000,119,cS)],[]⟩
def Zmw:=qa 160 Qo4 Qi5
def Wy (D E:Fn):Cfg:=cr [PR D,Zz6 E] [110] [110]
def Qnm (D E:Fn):Fn:=Ao PG (Wy D E) 64 160 Qo4 Qi5
theorem Zz5 (E G:Fn) (J L M N D O S:Int) (K:Kf) (c:Cv):Qnm E G (I J::I L::I M::I N::I D::I O::I S::Ab K c)=
 (G [I c.before,I c.s0]).bind λo3=>
 cond (decide (0<=D)&&decide (D<((K.aA.map Ah).length:Int))) (cond (gA (nth [] (K.aA.map Ah) D.toNat) 0 !=6) (cond (c.s1==0) (some (B false::Ab K c)) (cond (decide (V (V (c.s3-gA o3 0)*c.s0)<0)) (some (B false::Ab K c)) ((E (Ab K c)).bind λo4=>
 some (B true::Ab K {c with y0:=D,y1:=gA o4 0,y2:=c.s3,e0:=1,e1:=c.m0,e2:=gA o3 0,e3:=0})))) ((E (Ab K c)).bind λT=>
 some (B true::Ab K {c with y0:=D,y1:=gA T 0,y2:=c.s3,e0:=1,e1:=c.m0,e2:=gA o3 0,e3:=0}))) (none):=by kernel_rfl
def Rk:=Qnm Dt La
theorem Ycr:Aj PG (Wy Dt La):=Ho (rs:=[110]) rfl ⟨Qf,Znz,trivial⟩ rfl (Fx (CH rfl HF))
theorem Zyz:An PG (Zmw Rk):=rw1 (C:=Wy Dt La) Ycr
def Qp0:Sk:=⟨[TS.tup [(true,cc 7),(false,[sb])]],[],[]⟩
def UQ (M:Fn):Nat×Spec:=(102,E8 Qp5 Qp0 M)
def Ru (D E:Fn):Cfg:=cr [Qjv D,PR E] [110] [110]
def Qsu (D E:Fn):Fn:=Mh PG (Ru D E) 64 102 Qp5 Qp0
theorem Zm2 (D E:Fn) (K:Kf) (c:Cv):Qsu D E (Ab K c)=
 (E (Ab K c)).bind λo2=>
 (D (Bv K.p++[jA o2 0])).bind λo3=>
 cond (decide (gA o3 0<0)) (some [I 0,I 0,I 0,I 0,I 0,I 0,I 0,B false]) (cond (decide (0<=gA o3 0)&&decide (gA o3 0<((K.p.aF.map Ax).length:Int))) (some (AV Ag (nth [] (K.p.aF.map Ax) (gA o3 0).toNat)++[B true])) (none)):=by kernel_rfl
def Fu:=Qsu Fq Dt
theorem Zp2:Aj PG (Ru Fq Dt):=Ho (rs:=[110]) rfl ⟨Qam,Qf,trivial⟩ rfl (CH rfl (Fx HF))
theorem Z6d (vars : List AC) (R : Type) (K : TV -> Mem -> Option R) : Fv PG (Ru Fq Dt) 64 102 [TV.v false [AC.ptr 20000 0]] ⟨[(20000, (⟨119, (cR 0 vars)⟩ : Box))], []⟩ K = Fv PG (Ru Fq Dt) 64 102 [TV.v false [AC.ptr 20000 0]] ⟨[(20000, (⟨119, (cR 0 vars)⟩ : Box))], []⟩ (λv _ => K v ⟨[(20000, (⟨119, (cR 0 vars)⟩ : Box))], []⟩) := co (b := ((Dt (cR 0 vars)).bind λo2 =>
 (Fq [jA vars 37,jA vars 38,jA vars 39, .vC Ag (wA vars 40), .vC kPt (wA vars 41),jA o2 0]).bind λo3=>
 cond (decide (gA o3 0<0)) (K (TV.tup [(true,[I 0,I 0,I 0,I 0,I 0,I 0,I 0]),(false,[B false])]) ⟨[(20000,(⟨119,(cR 0 vars)⟩:Box))],[]⟩) (cond (decide (0<=gA o3 0)&&decide (gA o3 0<(↑(wA vars 40).length:Int))) (K (TV.tup [(true,[I (Af (nth .vD (nth [] (wA vars 40) (gA o3 0).toNat) 0)),I (Af (nth .vD (nth [] (wA vars 40) (gA o3 0).toNat) 1)),I (Af (nth .vD (nth [] (wA vars 40) (gA o3 0).toNat) 2)),I (Af (nth .vD (nth [] (wA vars 40) (gA o3 0).toNat) 3)),I (Af (nth .vD (nth [] (wA vars 40) (gA o3 0).toNat) 4)),I (Af (nth .vD (nth [] (wA vars 40) (gA o3 0).toNat) 5)),I (Af (nth .vD (nth [] (wA vars 40) (gA o3 0).toNat) 6))]),(false,[B true])]) ⟨[(20000,(⟨119,(cR 0 vars)⟩:Box))],[]⟩) (none)))) (by kernel_rfl) (Eq.symm (by kernel_rfl))
theorem U4:An PG (102,E8 Qp5 Qp0 Fu):=QP (C:=Ru Fq Dt) (L:=64) (by kernel_rfl) (FnOK.bare rfl rfl rfl) Zp2 eqOk GA (by kernel_rfl) (by kernel_rfl) (λvars R K=>Z6d vars R K)
def Z0e:=qa 109 Qe8 Qnf
def Qkg (D E G I J L:Fn):Cfg:=cr [Yby D,Z4p E,Zu G,Zmw I,X6 J,UQ L] [162,161,108,160,159,102] [102]
def Qbt (D E G I J L:Fn):Fn:=Ao PG (Qkg D E G I J L) 64 109 Qe8 Qnf
abbrev UE (c:Cv) (D:List AC) (U:Fn) (K:Kf) (V S:Fn) (G:Int) (T:Fn):Option (List AC):=
 cond (!c.y0==gA D 4) ((U (jA D 0::jA D 1::jA D 2::jA D 3::jA D 4::jA D 5::jA D 6::Ab K c)).bind λE=>
 cond (!bA E 0) (cond (gA E 66==0) ((V (cR 1 E)).bind λJ=>
 some (cR 0 J)) (some (cR 1 E))) (cond (decide (0<=gA D 4)&&decide (gA D 4<(↑(wA E 36).length:Int))) (cond (Af (nth .vD (nth [] (wA E 36) (gA D 4).toNat) 0)==6) ((S (I G::jA D 0::jA D 1::jA D 2::jA D 3::jA D 4::jA D 5::jA D 6::cR 1 E)).bind λL=>
 some (cR 0 L)) ((T (I G::jA D 0::jA D 1::jA D 2::jA D 3::jA D 4::jA D 5::jA D 6::cR 1 E)).bind λM=>
 some (cR 0 M))) (none))) (cond (decide (0<=gA D 4)&&decide (gA D 4<((K.aA.map Ah).length:Int))) (cond (gA (nth [] (K.aA.map Ah) (gA D 4).toNat) 0==6) ((S (I G::jA D 0::jA D 1::jA D 2::jA D 3::jA D 4::jA D 5::jA D 6::Ab K c)).bind λN=>
 some (cR 0 N)) ((T (I G::jA D 0::jA D 1::jA D 2::jA D 3::jA D 4::jA D 5::jA D 6::Ab K c)).bind λO=>
 some (cR 0 O))) (none))
theorem Zki (G J L M N T:Fn) (E:Int) (K:Kf) (c:Cv):Qbt G J L M N T (I E::Ab K c)=
 (T (Ab K c)).bind λD=>
 cond (gA D 6==0) ((N (I E::Ab K c)).bind λO=>
 some (cR 0 O)) (cond (c.o2) (cond (!c.y0==gA D 4) ((N (I E::Ab K c)).bind λS=>
 some (cR 0 S)) (UE c D M K L J E G)) (UE c D M K L J E G)):=by kernel_rfl
def Qt:=Qbt Qo Rg Hm Rk Is Fu
theorem Z38:Aj PG (Qkg Qo Rg Hm Rk Is Fu):=Ho (rs:=[102]) rfl ⟨Zuh,Zkc,Qq6,Zyz,Qp2,U4,trivial⟩ rfl (CH rfl (CH rfl (CH rfl (CH rfl (CH rfl (Fx HF))))))
theorem Zrp:An PG (Z0e Qt):=rw1 (C:=Qkg Qo Rg Hm Rk Is Fu) Z38
def Qip:=qa 88 Qar Qar
def X7 (D:Fn):Cfg:=cf [Nw D]
def Uy (D:Fn):Fn:=Ao PG (X7 D) 64 88 Qar Qar
theorem Q5m (D:Fn) (E:Int):Uy D [I E]=
 (D [I E,I 1048576,I 60000,I 2]).bind λo1=>
 some [jA o1 0]:=by kernel_rfl
def FP:=Uy BO
theorem Ztu:Aj PG (X7 BO):=Ap rfl ⟨L0,trivial⟩
theorem Ql4:An PG (Qip FP):=rw1 (C:=X7 BO) Ztu
def Q7r:=qa 177 Qar Qar
def Ql7:Fn:=Ao PG Qdd 64 177 Qar Qar
theorem Zhk (D:Int):Ql7 [I D]=
 cond (D==3) (some [I 1]) (cond (D==4) (some [I (-1)]) (some [I 0])):=by kernel_rfl
def HC:=Ql7
theorem Q1r:An PG (Q7r HC):=rw1 (C:=Qdd) Zhu
def Qr4:Sk:=⟨[TS.v true [ci,ci,ci,ci],tf [ci],tf [ci]],[],[]⟩
def Zg4:=qa 150 Qr4 Qrs
def Qmp (D E:Fn):Cfg:=cf [Qip D,Q7r E]
def YK (D E:Fn):Fn:=Ao PG (Qmp D E) 64 150 Qr4 Qrs
theorem Zts (D M:Fn) (N E G O J L:Int):YK D M [I N,I E,I G,I O,I J,I L]=
 (M [I J]).bind λo3=>
 cond (gA o3 0==0) (cond (J==5) (cond (E==0) (some [B (G==0)]) (some [B false])) (some [B false])) (cond (N==gA o3 0) ((D [I L]).bind λo4=>
 cond (E==gA o4 0) ((D [I L]).bind λS=>
 some [B (G==gA S 0)]) (some [B false])) (some [B false])):=by kernel_rfl
def NT:=YK FP HC
theorem Z20:Aj PG (Qmp FP HC):=Ap rfl ⟨Ql4,Q1r,trivial⟩
theorem Z9h:An PG (Zg4 NT):=rw1 (C:=Qmp FP HC) Z20
def Yb:Sk:=⟨[TS.v true [ci,ci,ci,ci]],[],[]⟩
def Zy3:=qa 149 Qr4 Yb
def Qdz (D E:Fn):Cfg:=cf [Qip D,Q7r E]
def Zw (D E:Fn):Fn:=Ao PG (Qdz D E) 64 149 Qr4 Yb
theorem Zpt (J N:Fn) (G D O E L M:Int):Zw J N [I G,I D,I O,I E,I L,I M]=
 (N [I L]).bind λo3=>
 cond (L==5) (some [I G,I D,I 0,I E]) (cond (gA o3 0==0) (some [I G,I D,I O,I E]) (cond (D==0) ((J [I M]).bind λo4=>
 some [jA o3 0,I D,jA o4 0,I E]) (cond (G==gA o3 0) ((J [I M]).bind λS=>
 some [jA o3 0,I D,jA S 0,I E]) (some [I G,I D,I 0,I E])))):=by kernel_rfl
def LJ:=Zw FP HC
theorem Z8m:Aj PG (Qdz FP HC):=Ap rfl ⟨Ql4,Q1r,trivial⟩
theorem Zpn:An PG (Zy3 LJ):=rw1 (C:=Qdz FP HC) Z8m
def Qni:Sk:=⟨[tf [ci]],[(20000,119,cS)],[]⟩
def Zhw:=qa 148 Qp5 Qni
def Qhd:Fn:=Ao PG Qdd 64 148 Qp5 Qni
theorem Zw9 (K:Kf) (c:Cv):Qhd (Ab K c)=
 some (I 3::Ab K {c with next:=V (c.idx+1),on:=false,idx:=0,aN:=false,cnt:=0}):=by kernel_rfl
def Ps:=Qhd
theorem Znd:An PG (Zhw Ps):=rw1 (C:=Qdd) Zhu
def Qv8:=qa 103 Qp5 Qni
def Qab (D E G:Fn):Cfg:=cp [Zg4 D,Zy3 E,Zhw G] [148]
def W2 (D E G:Fn):Fn:=Ao PG (Qab D E G) 64 103 Qp5 Qni
theorem Zv5 (M N E:Fn) (K:Kf) (c:Cv):W2 M N E (Ab K c)=
 cond (c.aN) (cond (decide (V (c.cnt+1)>1)) (cond (c.aJ) ((E (Ab K {c with cnt:=V (c.cnt+1)})).bind λO=>
 some (jA O 0::cR 1 O)) (some (I 2::Ab K {c with cnt:=V (c.cnt+1)}))) (some (I 2::Ab K {c with cnt:=V (c.cnt+1)}))) (cond (decide (0<=c.idx)&&decide (c.idx<((K.p.aD.map Aw).length:Int))) (cond (gA (nth [] (K.p.aD.map Aw) c.idx.toNat) 1 !=3) ((E (Ab K {c with cnt:=V (c.cnt+1)})).bind λS=>
 some (jA S 0::cR 1 S)) (cond (decide (0<=gA (nth [] (K.p.aD.map Aw) c.idx.toNat) 2)&&decide (gA (nth [] (K.p.aD.map Aw) c.idx.toNat) 2<((K.aA.map Ah).length:Int))) (cond (gA (nth [] (K.aA.map Ah) (gA (nth [] (K.p.aD.map Aw) c.idx.toNat) 2).toNat) 0==7) (cond (decide (V (c.cnt+1)<gA (nth [] (K.aA.map Ah) (gA (nth [] (K.p.aD.map Aw) c.idx.toNat) 2).toNat) 19)) (some (I 3::Ab K {c with cnt:=V (c.cnt+1)})) ((E (Ab K {c with cnt:=V (c.cnt+1)})).bind λT=>
 some (jA T 0::cR 1 T))) (cond (gA (nth [] (K.aA.map Ah) (gA (nth [] (K.p.aD.map Aw) c.idx.toNat) 2).toNat) 0==8) ((N [I c.s0,I c.s1,I c.s2,I c.s3,jA (nth [] (K.aA.map Ah) (gA (nth [] (K.p.aD.map Aw) c.idx.toNat) 2).toNat) 19,jA (nth [] (K.aA.map Ah) (gA (nth [] (K.p.aD.map Aw) c.idx.toNat) 2).toNat) 20]).bind λD=>
 (M [jA D 0,jA D 1,jA D 2,jA D 3,jA (nth [] (K.aA.map Ah) (gA (nth [] (K.p.aD.map Aw) c.idx.toNat) 2).toNat) 19,jA (nth [] (K.aA.map Ah) (gA (nth [] (K.p.aD.map Aw) c.idx.toNat) 2).toNat) 20]).bind λL=>
 cond (!bA L 0) (some (I 3::Ab K {c with s0:=gA D 0,s1:=gA D 1,s2:=gA D 2,s3:=gA D 3,cnt:=V (c.cnt+1)})) ((E (Ab K {c with s0:=gA D 0,s1:=gA D 1,s2:=gA D 2,s3:=gA D 3,cnt:=V (c.cnt+1)})).bind λG=>
 some (jA G 0::cR 1 G))) (cond (gA (nth [] (K.aA.map Ah) (gA (nth [] (K.p.aD.map Aw) c.idx.toNat) 2).toNat) 0==14) (some (I 7::Ab K {c with cnt:=V (c.cnt+1),aI:=7})) ((E (Ab K {c with cnt:=V (c.cnt+1)})).bind λJ=>
 some (jA J 0::cR 1 J))))) (none))) (none)):=by kernel_rfl
def K4:=W2 NT LJ Ps
theorem Zhj:Aj PG (Qab NT LJ Ps):=Ap rfl ⟨Z9h,Zpn,Znd,trivial⟩
theorem Zef:An PG (Qv8 K4):=rw1 (C:=Qab NT LJ Ps) Zhj
def Zr9:=qa 107 Qe8 Qni
def Qlw (D:Fn):Cfg:=cp [Qv8 D] [103]
def Qiz (D:Fn):Fn:=Ao PG (Qlw D) 64 107 Qe8 Qni
theorem Yba (E:Fn) (D:Int) (K:Kf) (c:Cv):Qiz E (I D::Ab K c)=
 cond (decide (0<=D)&&decide (D<((K.p.aD.map Aw).length:Int))) (cond (gA (nth [] (K.p.aD.map Aw) D.toNat) 1==1) ((E (Ab K {c with on:=true,idx:=D,aN:=c.o3,cnt:=0})).bind λN=>
 some (jA N 0::cR 1 N)) (cond (gA (nth [] (K.p.aD.map Aw) D.toNat) 1==2) ((E (Ab K {c with on:=true,idx:=D,aN:=c.o3,cnt:=0})).bind λO=>
 some (jA O 0::cR 1 O)) (cond (gA (nth [] (K.p.aD.map Aw) D.toNat) 1==6) ((E (Ab K {c with on:=true,idx:=D,aN:=c.o3,cnt:=0})).bind λS=>
 some (jA S 0::cR 1 S)) (cond (gA (nth [] (K.p.aD.map Aw) D.toNat) 1==4) ((E (Ab K {c with on:=true,idx:=D,aN:=true,cnt:=0})).bind λG=>
 some (jA G 0::cR 1 G)) (cond (gA (nth [] (K.p.aD.map Aw) D.toNat) 1==3) (cond (decide (0<=gA (nth [] (K.p.aD.map Aw) D.toNat) 2)&&decide (gA (nth [] (K.p.aD.map Aw) D.toNat) 2<((K.aA.map Ah).length:Int))) (cond (gA (nth [] (K.aA.map Ah) (gA (nth [] (K.p.aD.map Aw) D.toNat) 2).toNat) 0==11) ((E (Ab K {c with on:=true,idx:=D,aN:=true,cnt:=0})).bind λJ=>
 some (jA J 0::cR 1 J)) ((E (Ab K {c with on:=true,idx:=D,aN:=gA (nth [] (K.aA.map Ah) (gA (nth [] (K.p.aD.map Aw) D.toNat) 2).toNat) 0==12,cnt:=0})).bind λL=>
 some (jA L 0::cR 1 L))) (none)) ((E (Ab K {c with on:=true,idx:=D,aN:=false,cnt:=0})).bind λM=>
 some (jA M 0::cR 1 M))))))) (none):=by kernel_rfl
def Qj:=Qiz K4
theorem Zoj:Aj PG (Qlw K4):=Ap rfl ⟨Zef,trivial⟩
theorem Z7p:An PG (Zr9 Qj):=rw1 (C:=Qlw K4) Zoj
def Qlx:Sk:=⟨[tf [sa kPt],tf [ci],TS.v true [ci,ci,sb,sb,sb],tf [ci],tf [ci]],[],[]⟩
def Ycx:=qa 158 Qlx XL
def Qik (D:Fn):Cfg:=cf [Q0j D]
def Q7c:Sk:=⟨[tf [sa kPt],td,td,tf [ci],tf [ci],td,td,tf [sd 7 0],td,td,td,td,tf [ci]]++dd 32,[(7,92,[ci,ci,sb,sb,sb])],[]⟩
def Q1n:List (Ex×Sk):=[(Ex.ret,⟨dd 10++[tf [ci],tf [ci]]++dd 33,[],[]⟩),(Ex.exit 0,⟨[td,td,td,tf [ci]]++dd 41,[],[]⟩)]
def SH (D:Fn):Lp:=A9 PG (Qik D) 64 2 (A8 PG 158 2) Q7c Q1n
def Qw4 (D:Fn) (E:Lp):Cfg:=(Qik D).loop 2 Q7c Q1n E
def Qhh (D:Fn) (E:Lp):Fn:=Ao PG (Qw4 D E) 64 158 Qlx XL
theorem Zqk (S:Fn) (v0:Rw) (E G D J L:Int) (M N O:Bool):SH S [.vC kPt v0,I E,I G,I D,I J,I L,B M,B N,B O]=
 cond (decide (D<(v0.length:Int))) (cond (decide (0<=D)&&decide (D<(v0.length:Int))) ((S [jA (nth [] v0 D.toNat) 0,jA (nth [] v0 D.toNat) 1,jA (nth [] v0 D.toNat) 2,I J,I L,B M,B N,B O]).bind λo2=>
 cond (bA o2 0) (cond (decide (G<=gA (nth [] v0 D.toNat) 0)) (cond (decide (gA (nth [] v0 D.toNat) 0<=E)) (some (1,[jA (nth [] v0 D.toNat) 0,I D])) (some (0,[.vC kPt v0,I E,I G,I (V (D+1)),I J,I L,B M,B N,B O]))) (some (0,[.vC kPt v0,I E,I G,I (V (D+1)),I J,I L,B M,B N,B O]))) (some (0,[.vC kPt v0,I E,I G,I (V (D+1)),I J,I L,B M,B N,B O]))) (none)) (some (2,[I E])):=by kernel_rfl
theorem Zj7 (U:Fn) (D:Lp) (E:Rw) (G J L:Int) (M N O:Bool) (S T:Int):Qhh U D [.vC kPt E,I G,I J,I L,B M,B N,B O,I S,I T]=
 (D [.vC kPt E,I S,I T,I (mx G 0),I J,I L,B M,B N,B O]).bind λo3=>
 cond (o3.1.beq 1) (some [jA o3.2 0,jA o3.2 1]) (cond (o3.1.beq 2) (some [jA o3.2 0,I (-1)]) (none)):=by kernel_rfl
def Q24:=Am (SH Ji)
def QI:=Qhh Ji Q24
theorem Zcy:Aj PG (Qik Ji):=Ap rfl ⟨Qy7,trivial⟩
theorem Ybz:An PG (Ycx QI):=rw2 (C:=Qw4 Ji Q24) (fl fb Zcy) Zcy
def Z5u:=qa 157 YW Qar
def Zau:Sk:=⟨[td,tf [ci]]++dd 11++[tf [sa At],tf [ci],tf [ci]]++dd 28,[],[]⟩
def Qu0:List (Ex×Sk):=[(Ex.ret,⟨[td,td,td,td,tf [ci]]++dd 39,[],[]⟩),(Ex.exit 0,⟨[td]++dd 43,[],[]⟩)]
def Sv:Lp:=A9 PG Qdd 64 4 (A8 PG 157 4) Zau Qu0
def Qzk (D:Lp):Cfg:=Qdd.loop 4 Zau Qu0 D
def Zco (D:Lp):Fn:=Ao PG (Qzk D) 64 157 YW Qar
theorem Qxl (v0:Int) (E:Rw) (G D:Int):Sv [I v0, .vC At E,I G,I D]=
 cond (decide (D<G)) (cond (decide (0<=D)&&decide (D<(E.length:Int))) (cond (gA (nth [] E D.toNat) 3 !=0) (cond (decide (0<=V (V (v0-gA (nth [] E D.toNat) 2)*gA (nth [] E D.toNat) 3))) (cond (decide (V (V (v0-gA (nth [] E D.toNat) 2)*gA (nth [] E D.toNat) 3)<=gA (nth [] E D.toNat) 1)) (some (1,[I (V (gA (nth [] E D.toNat) 0+V (V (v0-gA (nth [] E D.toNat) 2)*gA (nth [] E D.toNat) 3)))])) (some (0,[I v0, .vC At E,I G,I (V (D+1))]))) (some (0,[I v0, .vC At E,I G,I (V (D+1))]))) (some (0,[I v0, .vC At E,I G,I (V (D+1))]))) (none)) (some (2,[])):=by kernel_rfl
theorem Ybq (G:Lp) (D:Rw) (L J M N O E:Int):Zco G [.vC At D,I L,I J,I M,I N,I O,I E]=
 cond (E==J) (some [I 0]) ((G [I E, .vC At D,I (D.length:Int),I 0]).bind λo1=>
 cond (o1.1.beq 1) (some [jA o1.2 0]) (cond (o1.1.beq 2) (some [I (-1)]) (none))):=by kernel_rfl
def Mc:=Am (Sv)
def Oo:=Zco Mc
theorem Zp4:An PG (Z5u Oo):=rw2 (C:=Qzk Mc) (fl fb Zhu) Zhu
def Qpm:Sk:=⟨[TS.tup [(false,[ci]),(false,[ci])]],[(20000,119,cS)],[]⟩
def Z2k:=qa 106 Qp5 Qpm
def Zj (D E G I:Fn):Cfg:=cf [Ycx D,Z5u E,RG G,Q0o I]
def Qbc (D E G I:Fn):Fn:=Ao PG (Zj D E G I) 64 106 Qp5 Qpm
abbrev Vf (U:Fn) (K:Kf) (c:Cv) (X M T:Fn) (D:AC):Option (List AC):=
 (U [I K.pa,I K.pb,I K.pc,I c.m0,I c.m1,I c.m2,I c.m3,I c.m4,I c.m5]).bind λG=>
 (X (A4 K.t++[I (V ((V (V (gA G 0+256)-1)).tdiv 256))])).bind λE=>
 (M (A4 K.t++[jA E 0])).bind λN=>
 cond (gA N 0 !=V ((V (V (gA G 0+256)-1)).tdiv 256)) ((T [.vC kPt (K.p.aD.map Aw),I c.next,I c.o0,I c.o1,B c.o2,B c.o3,B c.o4,D,I (V (gA E 0+1))]).bind λJ=>
 (M (A4 K.t++[jA J 0])).bind λO=>
 some (jA O 0::jA J 1::Ab K c)) ((T [.vC kPt (K.p.aD.map Aw),I c.next,I c.o0,I c.o1,B c.o2,B c.o3,B c.o4,D,jA E 0]).bind λL=>
 (M (A4 K.t++[jA L 0])).bind λS=>
 some (jA S 0::jA L 1::Ab K c))
theorem Ybe (D E G J:Fn) (K:Kf) (c:Cv):Qbc D E G J (Ab K c)=
 cond (K.closed) (Vf J K c G E D (I K.len)) (Vf J K c G E D (I K.set)):=by kernel_rfl
def RK:=Qbc QI Oo Ez Gj
theorem Z3o:Aj PG (Zj QI Oo Ez Gj):=Ap rfl ⟨Ybz,Zp4,RU,Q1i,trivial⟩
theorem Z6o:An PG (Z2k RK):=rw1 (C:=Zj QI Oo Ez Gj) Z3o
def Zq1:=qa 70 Qp5 Qni
def Qjn (D E G I:Fn):Cfg:=cp [Z0e D,Zu E,Zr9 G,Z2k I] [109,108,107,106]
def YV (D E G I:Fn):Fn:=Ao PG (Qjn D E G I) 64 70 Qp5 Qni
theorem Z11 (G O S T:Fn) (K:Kf) (c:Cv):YV G O S T (Ab K c)=
 (T (Ab K c)).bind λD=>
 cond (bA D 90) (cond (gA D 52==V (gA D 0*256)) (cond (decide (gA D 1>=0)) ((S (jA D 1::cR 2 D)).bind λE=>
 cond (decide (0<=gA D 1)&&decide (gA D 1<(↑(wA E 42).length:Int))) (cond (Af (nth .vD (nth [] (wA E 42) (gA D 1).toNat) 2)==gA E 80) (cond (decide (0<=Af (nth .vD (nth [] (wA E 42) (gA D 1).toNat) 2))&&decide (Af (nth .vD (nth [] (wA E 42) (gA D 1).toNat) 2)<(↑(wA E 36).length:Int))) (cond (Af (nth .vD (nth [] (wA E 36) (Af (nth .vD (nth [] (wA E 42) (gA D 1).toNat) 2)).toNat) 0)==5) (cond (gA E 83==1) ((O (cR 1 E)).bind λU=>
 some (jA E 0::cR 0 U)) (some (jA E 0::cR 1 E))) (some (jA E 0::cR 1 E))) (none)) (some (jA E 0::cR 1 E))) (none)) (cond (bA D 38) (some (I 7::DY (cR 2 D) [(78,I 7)])) (some (I 1::cR 2 D)))) (cond (gA D 63 !=0) ((G (jA D 0::cR 2 D)).bind λJ=>
 cond (bA D 90) (some (I 6::cR 0 J)) (some (I 1::cR 0 J))) ((G (jA D 0::cR 2 D)).bind λM=>
 some (I 1::cR 0 M)))) (cond (gA D 63 !=0) ((G (jA D 0::cR 2 D)).bind λL=>
 cond (bA D 90) (some (I 6::cR 0 L)) (some (I 1::cR 0 L))) ((G (jA D 0::cR 2 D)).bind λN=>
 some (I 1::cR 0 N))):=by kernel_rfl
def Kw:=YV Qt Hm Qj RK
theorem Z4o:Aj PG (Qjn Qt Hm Qj RK):=Ap rfl ⟨Zrp,Qq6,Z7p,Z6o,trivial⟩
theorem Ztm:An PG (Zq1 Kw):=rw1 (C:=Qjn Qt Hm Qj RK) Z4o
def Qkw:=qa 59 Qar Qlu
def Qdf:Fn:=Ao PG Qdd 64 59 Qar Qlu
theorem Z7l (D:Int):Qdf [I D]=
 some [I (V (D*256)),I 0,I 0,I (V (D*256)),I (V (D*256)),I (V (D*256))]:=by kernel_rfl
def HK:=Qdf
theorem Xd:An PG (Qkw HK):=rw1 (C:=Qdd) Zhu
def Qsw:Sk:=⟨[TS.v true (cc 9++[sa Aa]++cc 9++[sa Aa]++cc 9++[sa Aa]),TS.v true [ci,ci,ci],TS.v true [ci,ci,ci]],[],[]⟩
def Zqs:=qa 95 Qsw Qar
def Yp:Cfg:={cf []with unroll:=[3]}
def Q3g:Fn:=Ao PG Yp 64 95 Qsw Qar
theorem Zhy (x0 x1 x2 x3 x4 x5 N x7 x8:Int) (x9:Rw) (T U V X Y a0 D a1 a2:Int) (a3:Rw) (a4 a5 a6 a7 a8 a9 E b0 b1:Int) (b2:Rw) (O L G S M J:Int):Q3g [I x0,I x1,I x2,I x3,I x4,I x5,I N,I x7,I x8, .vC Aa x9,I T,I U,I V,I X,I Y,I a0,I D,I a1,I a2, .vC Aa a3,I a4,I a5,I a6,I a7,I a8,I a9,I E,I b0,I b1, .vC Aa b2,I O,I L,I G,I S,I M,I J]=
 cond (O !=S) (cond (L !=M) (cond (G !=J) (some [I (mx (mx (mx 0 N) D) E)]) (some [I (mx (mx 0 N) D)])) (cond (G !=J) (some [I (mx (mx 0 N) E)]) (some [I (mx 0 N)]))) (cond (L !=M) (cond (G !=J) (some [I (mx (mx 0 D) E)]) (some [I (mx 0 D)])) (cond (G !=J) (some [I (mx 0 E)]) (some [I 0]))):=by kernel_rfl
def Oc:=Q3g
theorem Zgh:Aj PG (Yp):=Ap rfl trivial
theorem Zuf:An PG (Zqs Oc):=rw1 (C:=Yp) Zgh
def Qiq:Sk:=⟨[TS.v true [ci,ci,ci],TS.v true [ci,ci,ci],TS.v true [ci,ci,ci],tf [ci]],[],[]⟩
def Ycj:=qa 94 Qiq Qb6
def Qez:Cfg:={cf []with unroll:=[2]}
def Zd8:Fn:=Ao PG Qez 64 94 Qiq Qb6
abbrev SL (G J:Int) (D:AC) (L M:Int) (E:AC):Option (List AC):=
 cond (decide (G>J)) (some [D,E,I L]) (cond (decide (G<J)) (some [D,E,I (V (0-L))]) (some [D,E,I M]))
abbrev Uz (M N G J E L O:Int) (D:AC):Option (List AC):=
 cond (decide (M>N)) (SL G J D E L (I E)) (cond (decide (M<N)) (SL G J D E L (I (V (0-E)))) (SL G J D E L (I O)))
theorem Zjy (T E G O J L S M N D:Int):Zd8 [I T,I E,I G,I O,I J,I L,I S,I M,I N,I D]=
 cond (decide (S>O)) (Uz M J N L D G E (I D)) (cond (decide (S<O)) (Uz M J N L D G E (I (V (0-D)))) (Uz M J N L D G E (I T))):=by kernel_rfl
def O9:=Zd8
theorem Zy5:Aj PG (Qez):=Ap rfl trivial
theorem Z98:An PG (Ycj O9):=rw1 (C:=Qez) Zy5
def Qnq:Sk:=⟨[TS.v true (cc 10),tf [sd 20000 0]],[(20000,62,[se 20000 10]++cc 5)],[(20000,135,At)]⟩
def ZS:Sk:=⟨[TS.tup []],[(20000,62,[se 20000 10]++cc 5)],[(20000,135,At)]⟩
def Q6k:=qa 92 Qnq ZS
def Wf:Fn:=Ao PG Qdd 64 92 Qnq ZS
theorem Zc5 (D:Rw) (x1 J X S Y x6 x7 T U G E L M N O:Int):Wf [.vC At D,I x1,I J,I X,I S,I Y,I x6,I x7,I T,I U,I G,I E,I L,I M,I N,I O]=
 cond (decide ((D.length:Int)>0)) (cond (S !=0) (cond (decide (0<=V ((D.length:Int)-1))&&decide (V ((D.length:Int)-1)<(D.length:Int))) (cond (gA (nth [] D (V ((D.length:Int)-1)).toNat) 3==S) (cond (decide (0<=V ((D.length:Int)-1))&&decide (V ((D.length:Int)-1)<(D.length:Int))) (cond (gA (nth [] D (V ((D.length:Int)-1)).toNat) 7==T&&(gA (nth [] D (V ((D.length:Int)-1)).toNat) 8==U&&(gA (nth [] D (V ((D.length:Int)-1)).toNat) 9==G&&true))) (cond (decide (0<=V ((D.length:Int)-1))&&decide (V ((D.length:Int)-1)<(D.length:Int))) (cond (decide (0<=V ((D.length:Int)-1))&&decide (V ((D.length:Int)-1)<(D.length:Int))) (some [.vC At (D.set (V ((D.length:Int)-1)).toNat [jA (nth [] D (V ((D.length:Int)-1)).toNat) 0,I (V (gA (nth [] D (V ((D.length:Int)-1)).toNat) 1+J)),jA (nth [] D (V ((D.length:Int)-1)).toNat) 2,jA (nth [] D (V ((D.length:Int)-1)).toNat) 3,jA (nth [] D (V ((D.length:Int)-1)).toNat) 4,jA (nth [] D (V ((D.length:Int)-1)).toNat) 5,jA (nth [] D (V ((D.length:Int)-1)).toNat) 6,jA (nth [] D (V ((D.length:Int)-1)).toNat) 7,jA (nth [] D (V ((D.length:Int)-1)).toNat) 8,jA (nth [] D (V ((D.length:Int)-1)).toNat) 9]),I (V (E+J)),I L,I M,I N,I O]) (none)) (none)) (cond (((D++[[I E,I J,I X,I S,I Y,I x6,I x7,I T,I U,I G]]).length*80).ble 140737488355328) (some [.vC At (D++[[I E,I J,I X,I S,I Y,I x6,I x7,I T,I U,I G]]),I (V (E+J)),I L,I M,I N,I O]) (none))) (none)) (cond (((D++[[I E,I J,I X,I S,I Y,I x6,I x7,I T,I U,I G]]).length*80).ble 140737488355328) (some [.vC At (D++[[I E,I J,I X,I S,I Y,I x6,I x7,I T,I U,I G]]),I (V (E+J)),I L,I M,I N,I O]) (none))) (none)) (cond (((D++[[I E,I J,I X,I S,I Y,I x6,I x7,I T,I U,I G]]).length*80).ble 140737488355328) (some [.vC At (D++[[I E,I J,I X,I S,I Y,I x6,I x7,I T,I U,I G]]),I (V (E+J)),I L,I M,I N,I O]) (none))) (cond (((D++[[I E,I J,I X,I S,I Y,I x6,I x7,I T,I U,I G]]).length*80).ble 140737488355328) (some [.vC At (D++[[I E,I J,I X,I S,I Y,I x6,I x7,I T,I U,I G]]),I (V (E+J)),I L,I M,I N,I O]) (none)):=by kernel_rfl
def NO:=Wf
theorem Quo:An PG (Q6k NO):=rw1 (C:=Qdd) Zhu
def Qpn:Sk:=⟨[TS.v true [ci,ci,ci],TS.v true [ci,ci,ci],tf [ci],tf [ci],tf [sd 20000 0],tf [sd 20001 0],tf [sd 20002 0],tf [sd 20003 0]],[(20000,44,[ci,ci,ci]),(20001,3,[ci]),(20002,27,cc 9++[sa Aa]++cc 9++[sa Aa]++cc 9++[sa Aa]),(20003,153,[CS.clo 92 [] [(20004,0)]]),(20004,62,[se 20000 10]++cc 5)],[(20000,135,At)]⟩
def Qkl:Sk:=⟨[TS.tup []],[(20000,44,[ci,ci,ci]),(20001,3,[ci]),(20002,27,cc 9++[sa Aa]++cc 9++[sa Aa]++cc 9++[sa Aa]),(20003,153,[CS.clo 92 [] [(20004,0)]]),(20004,62,[se 20000 10]++cc 5)],[(20000,135,At)]⟩
def Q12:=qa 93 Qpn Qkl
def Qae (D E G:Fn):Cfg:=cp [Zqs D,Ycj E,Q6k G] [92]
def Qr3 (D E G:Fn):Fn:=Ao PG (Qae D E G) 64 93 Qpn Qkl
theorem Z32 (Pm Qd Gr:Fn) (x0:Rw) (x1 x2 x3 x4 x5 x6 x7 x8 x9 G J E L M N O S T U V X:Int) (Y:Rw) (a0 a1 a2 a3 a4 a5 a6 a7 a8:Int) (a9:Rw) (b0 b1 b2 b3 b4 b5 b6 b7 b8:Int) (b9:Rw) (c0 c1 c2 c3 c4:Int):Qr3 Pm Qd Gr [.vC At x0,I x1,I x2,I x3,I x4,I x5,I x6,I x7,I x8,I x9,I G,I J,I E,I L,I M,I N,I O,I S,I T,I U,I V,I X, .vC Aa Y,I a0,I a1,I a2,I a3,I a4,I a5,I a6,I a7,I a8, .vC Aa a9,I b0,I b1,I b2,I b3,I b4,I b5,I b6,I b7,I b8, .vC Aa b9,I c0,I c1,I c2,I c3,I c4]=
 (Qd [I x9,I G,I J,I x1,I x2,I x3,I x4,I x5,I x6,I E]).bind λD=>
 (Pm [I L,I M,I N,I O,I S,I T,I U,I V,I X, .vC Aa Y,I a0,I a1,I a2,I a3,I a4,I a5,I a6,I a7,I a8, .vC Aa a9,I b0,I b1,I b2,I b3,I b4,I b5,I b6,I b7,I b8, .vC Aa b9,I x9,I G,I J,jA D 0,jA D 1,jA D 2]).bind λo6=>
 cond (decide (gA o6 0>0)) ((Gr [.vC At x0,I 0,jA o6 0,I x7,I 0,I x9,I G,I J,jA D 0,jA D 1,jA D 2,I c0,I c1,I c2,I c3,I c4]).bind λo7=>
 (Gr [.vC At (wA o7 0),I 0,I x8,I x7,I E,jA D 0,jA D 1,jA D 2,jA D 0,jA D 1,jA D 2,jA o7 1,jA o7 2,jA o7 3,jA o7 4,jA o7 5]).bind λo8=>
 some [.vC At (wA o8 0),jA D 0,jA D 1,jA D 2,I E,I L,I M,I N,I O,I S,I T,I U,I V,I X, .vC Aa Y,I a0,I a1,I a2,I a3,I a4,I a5,I a6,I a7,I a8, .vC Aa a9,I b0,I b1,I b2,I b3,I b4,I b5,I b6,I b7,I b8, .vC Aa b9,jA o8 1,jA o8 2,jA o8 3,jA o8 4,jA o8 5]) ((Gr [.vC At x0,I 0,I x8,I x7,I E,jA D 0,jA D 1,jA D 2,jA D 0,jA D 1,jA D 2,I c0,I c1,I c2,I c3,I c4]).bind λo9=>
 some [.vC At (wA o9 0),jA D 0,jA D 1,jA D 2,I E,I L,I M,I N,I O,I S,I T,I U,I V,I X, .vC Aa Y,I a0,I a1,I a2,I a3,I a4,I a5,I a6,I a7,I a8, .vC Aa a9,I b0,I b1,I b2,I b3,I b4,I b5,I b6,I b7,I b8, .vC Aa b9,jA o9 1,jA o9 2,jA o9 3,jA o9 4,jA o9 5]):=by kernel_rfl
def Gu:=Qr3 Oc O9 NO
theorem Z3m:Aj PG (Qae Oc O9 NO):=Ap rfl ⟨Zuf,Z98,Quo,trivial⟩
theorem Q8t:An PG (Q12 Gu):=rw1 (C:=Qae Oc O9 NO) Z3m
def Qbn:Sk:=⟨[TS.v true [ci,ci,ci,sa Ag,sa kPt],tf [ci],tf [ci],tf [ci],tf [CS.clo 93 [] [(20000,0),(20001,0),(20002,0),(20003,0)]]],[(20000,44,[ci,ci,ci]),(20001,3,[ci]),(20002,27,cc 9++[sa Aa]++cc 9++[sa Aa]++cc 9++[sa Aa]),(20003,153,[CS.clo 92 [] [(20004,0)]]),(20004,62,[se 20000 10]++cc 5)],[(20000,135,At)]⟩
def Z2q:=qa 96 Qbn Qkl
def Xg (D:Fn):Cfg:={cp [Q12 D] [93]with prom:=λb=>cond (Nat.beq b 4) ([(11,3)]) ([])}
def Q6i:Sk:=⟨[td,tf [ci],tf [ci],tf [ci],tf [CS.clo 93 [] [(20000,0),(20001,0),(20002,0),(20003,0)]],tf [sd 5 0],td,td,td,td,tf [ci],tf [se 11 1]]++dd 9++[tf [sa Ag],tf [ci],tf [ci]]++dd 78,[(5,58,[ci,ci,ci,sa Ag,sa kPt]),(20000,44,[ci,ci,ci]),(20001,3,[ci]),(20002,27,cc 9++[sa Aa]++cc 9++[sa Aa]++cc 9++[sa Aa]),(20003,153,[CS.clo 92 [] [(20004,0)]]),(20004,62,[se 20000 10]++cc 5)],[(11,3,Aa),(20000,135,At)]⟩
def Qua:List (Ex×Sk):=[(Ex.exit 0,⟨[td,tf [ci],tf [ci],tf [ci],tf [CS.clo 93 [] [(20000,0),(20001,0),(20002,0),(20003,0)]],tf [sd 5 0],td,td,td,td,td,tf [se 11 1]]++dd 90,[(5,58,[ci,ci,ci,sa Ag,sa kPt]),(20000,44,[ci,ci,ci]),(20001,3,[ci]),(20002,27,cc 9++[sa Aa]++cc 9++[sa Aa]++cc 9++[sa Aa]),(20003,153,[CS.clo 92 [] [(20004,0)]]),(20004,62,[se 20000 10]++cc 5)],[(11,3,Aa),(20000,135,At)]⟩)]
def Vn (D:Fn):Lp:=A9 PG (Xg D) 64 4 (A8 PG 96 4) Q6i Qua
def Q9b (D:Fn) (E:Lp):Cfg:=(Xg D).loop 4 Q6i Qua E
def Q9j:Sk:=⟨[td,tf [ci],tf [ci],tf [ci],tf [CS.clo 93 [] [(20000,0),(20001,0),(20002,0),(20003,0)]],tf [sd 5 0],td,td,td,td,td,tf [se 11 1]]++dd 26++[tf [ci],tf [ci]]++dd 62,[(5,58,[ci,ci,ci,sa Ag,sa kPt]),(20000,44,[ci,ci,ci]),(20001,3,[ci]),(20002,27,cc 9++[sa Aa]++cc 9++[sa Aa]++cc 9++[sa Aa]),(20003,153,[CS.clo 92 [] [(20004,0)]]),(20004,62,[se 20000 10]++cc 5)],[(11,3,Aa),(20000,135,At)]⟩
def Q38:List (Ex×Sk):=[(Ex.exit 2,⟨[td]++dd 101,[(20000,44,[ci,ci,ci]),(20001,3,[ci]),(20002,27,cc 9++[sa Aa]++cc 9++[sa Aa]++cc 9++[sa Aa]),(20003,153,[CS.clo 92 [] [(20004,0)]]),(20004,62,[se 20000 10]++cc 5)],[(20000,135,At)]⟩)]
def VJ (D:Fn) (E:Lp):Lp:=A9 PG (Q9b D E) 64 10 (A8 PG 96 10) Q9j Q38
def Za9 (E:Fn) (G D:Lp):Cfg:=(Q9b E G).loop 10 Q9j Q38 D
def Qfq (E:Fn) (G D:Lp):Fn:=Ao PG (Za9 E G D) 64 96 Qbn Qkl
theorem Q2g (Ca:Fn) (v0 v1:Rw) (v2 v3 v4 v5:Int) (v6:Rw) (v7 v8 v9 v10 v11:Int) (v12 D:Rw) (E G J L M N v20 v21 v22 O v24 v25 S:Int) (v27:Rw) (v28 T v30 v31 U v33 X v35 v36:Int) (v37:Rw) (v38 Y v40 a0 v42 a1 v44 a2 v46:Int) (a3:Rw) (v48 v49 a4 v51 a5:Int):Vn Ca [.vC Aa v0, .vC At v1,I v2,I v3,I v4,I v5, .vC Ag v6,I v7,I v8,I v9,I v10,I v11, .vC Ag v12, .vC kPt D,I E,I G,I J,I L,I M,I N,I v20,I v21,I v22,I O,I v24,I v25,I S, .vC Aa v27,I v28,I T,I v30,I v31,I U,I v33,I X,I v35,I v36, .vC Aa v37,I v38,I Y,I v40,I a0,I v42,I a1,I v44,I a2,I v46, .vC Aa a3,I v48,I v49,I a4,I v51,I a5]=
 cond (decide (v8<v7)) (cond (decide (0<=v8)&&decide (v8<(v6.length:Int))) (cond (((v0++[[I v5]]).length*8).ble 140737488355328) (some (0,[.vC Aa (v0++[[I v5]]), .vC At v1,I v2,I v3,I v4,I (V (v5+gA (nth [] v6 v8.toNat) 3)), .vC Ag v6,I v7,I (V (v8+1)),I v9,I v10,I v11, .vC Ag v12, .vC kPt D,I E,I G,I J,I L,I M,I N,I v20,I v21,I v22,I O,I v24,I v25,I S, .vC Aa v27,I v28,I T,I v30,I v31,I U,I v33,I X,I v35,I v36, .vC Aa v37,I v38,I Y,I v40,I a0,I v42,I a1,I v44,I a2,I v46, .vC Aa a3,I v48,I v49,I a4,I v51,I a5])) (none)) (none)) (some (1,[.vC Aa v0, .vC At v1,I v2,I v3,I v4,I v9,I v10,I v11, .vC Ag v12, .vC kPt D,I E,I G,I J,I L,I M,I N,I v20,I v21,I v22,I O,I v24,I v25,I S, .vC Aa v27,I v28,I T,I v30,I v31,I U,I v33,I X,I v35,I v36, .vC Aa v37,I v38,I Y,I v40,I a0,I v42,I a1,I v44,I a2,I v46, .vC Aa a3,I v48,I v49,I a4,I v51,I a5])):=by kernel_rfl
abbrev So (J:Bool) (Ca:Fn) (v1:Rw) (L M E G:AC) (v12 U X Y a0 a1 a2 a3 v20 v21 v22 a4 v24:Int) (v25:Rw) (a5 v27 v28 a6 v30 v31 a7 v33 a8:Int) (v35:Rw) (v36 v37 v38 a9 v40 b0 v42 b1 v44:Int) (b2:Rw) (v46 b3 v48 v49 b4:Int) (v0:Rw) (v2 v3 v4 v5 v6 v7 v8 v9:Int) (v10 v11:Rw) (N O S T:AC):Option (Nat×List AC):=
 cond (J) ((Ca [.vC At v1,N,O,S,L,M,E,T,G,I v12,I U,I X,I Y,I a0,I a1,I a2,I a3,I v20,I v21,I v22,I a4,I v24, .vC Aa v25,I a5,I v27,I v28,I a6,I v30,I v31,I a7,I v33,I a8, .vC Aa v35,I v36,I v37,I v38,I a9,I v40,I b0,I v42,I b1,I v44, .vC Aa b2,I v46,I b3,I v48,I v49,I b4]).bind λD=>
 some (0,[.vC Aa v0, .vC At (wA D 0),I v2,I v3,I v4,I v5,I (V (v6+1)),I v7,I v8,I v9, .vC Ag v10, .vC kPt v11,jA D 1,jA D 2,jA D 3,jA D 4,jA D 5,jA D 6,jA D 7,jA D 8,jA D 9,jA D 10,jA D 11,jA D 12,jA D 13, .vC Aa (wA D 14),jA D 15,jA D 16,jA D 17,jA D 18,jA D 19,jA D 20,jA D 21,jA D 22,jA D 23, .vC Aa (wA D 24),jA D 25,jA D 26,jA D 27,jA D 28,jA D 29,jA D 30,jA D 31,jA D 32,jA D 33, .vC Aa (wA D 34),jA D 35,jA D 36,jA D 37,jA D 38,jA D 39])) (none)
abbrev Qcy (v0 v1:Rw) (v2 v3 v4 v5 v6 v7 v8 v9:Int) (v10 v11:Rw) (v12 M N O S T U X v20 v21 v22 Y v24:Int) (v25:Rw) (a0 v27 v28 a1 v30 v31 a2 v33 a3:Int) (v35:Rw) (v36 v37 v38 a4 v40 a5 v42 a6 v44:Int) (a7:Rw) (v46 a8 v48 v49 a9:Int) (Ca:Fn) (b2 G b6 b7 b8:Bool) (b3 b4 b5 J L D b0 E b1:AC):Option (Nat×List AC):=
 cond (b2) (cond (b2) (cond (G) (cond (b6) (some (0,[.vC Aa v0, .vC At v1,I v2,I v3,I v4,I v5,I (V (v6+1)),I v7,I v8,I v9, .vC Ag v10, .vC kPt v11,I v12,I M,I N,I O,I S,I T,I U,I X,I v20,I v21,I v22,I Y,I v24, .vC Aa v25,I a0,I v27,I v28,I a1,I v30,I v31,I a2,I v33,I a3, .vC Aa v35,I v36,I v37,I v38,I a4,I v40,I a5,I v42,I a6,I v44, .vC Aa a7,I v46,I a8,I v48,I v49,I a9])) (cond (b7) (cond (b8) (cond (decide (v4<0)) (So G Ca v1 J L D E v12 M N O S T U X v20 v21 v22 Y v24 v25 a0 v27 v28 a1 v30 v31 a2 v33 a3 v35 v36 v37 v38 a4 v40 a5 v42 a6 v44 a7 v46 a8 v48 v49 a9 v0 v2 v3 v4 v5 v6 v7 v8 v9 v10 v11 b3 b4 b5 b0) (So G Ca v1 J L D E v12 M N O S T U X v20 v21 v22 Y v24 v25 a0 v27 v28 a1 v30 v31 a2 v33 a3 v35 v36 v37 v38 a4 v40 a5 v42 a6 v44 a7 v46 a8 v48 v49 a9 v0 v2 v3 v4 v5 v6 v7 v8 v9 v10 v11 b3 b4 b5 b1)) (none)) (cond (decide (v4<0)) (So G Ca v1 J L D E v12 M N O S T U X v20 v21 v22 Y v24 v25 a0 v27 v28 a1 v30 v31 a2 v33 a3 v35 v36 v37 v38 a4 v40 a5 v42 a6 v44 a7 v46 a8 v48 v49 a9 v0 v2 v3 v4 v5 v6 v7 v8 v9 v10 v11 (I v7) (I v8) (I v9) b0) (So G Ca v1 J L D E v12 M N O S T U X v20 v21 v22 Y v24 v25 a0 v27 v28 a1 v30 v31 a2 v33 a3 v35 v36 v37 v38 a4 v40 a5 v42 a6 v44 a7 v46 a8 v48 v49 a9 v0 v2 v3 v4 v5 v6 v7 v8 v9 v10 v11 (I v7) (I v8) (I v9) b1)))) (none)) (none)) (none)
theorem Zbn (Ca:Fn) (N4:Lp) (v0 v1:Rw) (E G v4 v5 D v7 v8 v9:Int) (v10 v11:Rw) (v12 J L M N O S T v20 v21 v22 U v24:Int) (v25:Rw) (X v27 v28 Y v30 v31 a0 v33 a1:Int) (v35:Rw) (v36 v37 v38 a2 v40 a3 v42 a4 v44:Int) (a5:Rw) (v46 a6 v48 v49 a7:Int):VJ Ca N4 [.vC Aa v0, .vC At v1,I E,I G,I v4,I v5,I D,I v7,I v8,I v9, .vC Ag v10, .vC kPt v11,I v12,I J,I L,I M,I N,I O,I S,I T,I v20,I v21,I v22,I U,I v24, .vC Aa v25,I X,I v27,I v28,I Y,I v30,I v31,I a0,I v33,I a1, .vC Aa v35,I v36,I v37,I v38,I a2,I v40,I a3,I v42,I a4,I v44, .vC Aa a5,I v46,I a6,I v48,I v49,I a7]=
 cond (decide (D<v5)) (cond (decide (v4<0)) (Qcy v0 v1 E G v4 v5 D v7 v8 v9 v10 v11 v12 J L M N O S T v20 v21 v22 U v24 v25 X v27 v28 Y v30 v31 a0 v33 a1 v35 v36 v37 v38 a2 v40 a3 v42 a4 v44 a5 v46 a6 v48 v49 a7 Ca (decide (0<=V (V ((v10.length:Int)-1)-D))&&decide (V (V ((v10.length:Int)-1)-D)<(v0.length:Int))) (decide (0<=V (V ((v10.length:Int)-1)-D))&&decide (V (V ((v10.length:Int)-1)-D)<(v10.length:Int))) (decide (mx (Af (nth .vD (nth [] v0 (V (V ((v10.length:Int)-1)-D)).toNat) 0)) E>=mn (V (Af (nth .vD (nth [] v0 (V (V ((v10.length:Int)-1)-D)).toNat) 0)+Af (nth .vD (nth [] v10 (V (V ((v10.length:Int)-1)-D)).toNat) 3))) G)) (decide (V (V ((v10.length:Int)-1)-D)>0)) (decide (0<=V (V (V ((v10.length:Int)-1)-D)-1))&&decide (V (V (V ((v10.length:Int)-1)-D)-1)<(v10.length:Int))) (I (Af (nth .vD (nth [] v10 (V (V (V ((v10.length:Int)-1)-D)-1)).toNat) 0))) (I (Af (nth .vD (nth [] v10 (V (V (V ((v10.length:Int)-1)-D)-1)).toNat) 1))) (I (Af (nth .vD (nth [] v10 (V (V (V ((v10.length:Int)-1)-D)-1)).toNat) 2))) (I (Af (nth .vD (nth [] v10 (V (V ((v10.length:Int)-1)-D)).toNat) 0))) (I (Af (nth .vD (nth [] v10 (V (V ((v10.length:Int)-1)-D)).toNat) 1))) (I (Af (nth .vD (nth [] v10 (V (V ((v10.length:Int)-1)-D)).toNat) 2))) (I (mn (V (Af (nth .vD (nth [] v0 (V (V ((v10.length:Int)-1)-D)).toNat) 0)+Af (nth .vD (nth [] v10 (V (V ((v10.length:Int)-1)-D)).toNat) 3))) G)) (I (V (mn (V (Af (nth .vD (nth [] v0 (V (V ((v10.length:Int)-1)-D)).toNat) 0)+Af (nth .vD (nth [] v10 (V (V ((v10.length:Int)-1)-D)).toNat) 3))) G-mx (Af (nth .vD (nth [] v0 (V (V ((v10.length:Int)-1)-D)).toNat) 0)) E))) (I (mx (Af (nth .vD (nth [] v0 (V (V ((v10.length:Int)-1)-D)).toNat) 0)) E))) (Qcy v0 v1 E G v4 v5 D v7 v8 v9 v10 v11 v12 J L M N O S T v20 v21 v22 U v24 v25 X v27 v28 Y v30 v31 a0 v33 a1 v35 v36 v37 v38 a2 v40 a3 v42 a4 v44 a5 v46 a6 v48 v49 a7 Ca (decide (0<=D)&&decide (D<(v0.length:Int))) (decide (0<=D)&&decide (D<(v10.length:Int))) (decide (mx (gA (nth [] v0 D.toNat) 0) E>=mn (V (gA (nth [] v0 D.toNat) 0+gA (nth [] v10 D.toNat) 3)) G)) (decide (D>0)) (decide (0<=V (D-1))&&decide (V (D-1)<(v10.length:Int))) (jA (nth [] v10 (V (D-1)).toNat) 0) (jA (nth [] v10 (V (D-1)).toNat) 1) (jA (nth [] v10 (V (D-1)).toNat) 2) (jA (nth [] v10 D.toNat) 0) (jA (nth [] v10 D.toNat) 1) (jA (nth [] v10 D.toNat) 2) (I (mn (V (gA (nth [] v0 D.toNat) 0+gA (nth [] v10 D.toNat) 3)) G)) (I (V (mn (V (gA (nth [] v0 D.toNat) 0+gA (nth [] v10 D.toNat) 3)) G-mx (gA (nth [] v0 D.toNat) 0) E))) (I (mx (gA (nth [] v0 D.toNat) 0) E)))) (some (1,[.vC At v1,I v12,I J,I L,I M,I N,I O,I S,I T,I v20,I v21,I v22,I U,I v24, .vC Aa v25,I X,I v27,I v28,I Y,I v30,I v31,I a0,I v33,I a1, .vC Aa v35,I v36,I v37,I v38,I a2,I v40,I a3,I v42,I a4,I v44, .vC Aa a5,I v46,I a6,I v48,I v49,I a7])):=by kernel_rfl
theorem Ztt (Ca:Fn) (N4 G:Lp) (x0:Rw) (x1 x2 x3:Int) (x4 x5:Rw) (x6 x7 x8 x9 J L M N O S T U V X Y a0:Int) (a1:Rw) (a2 a3 a4 a5 a6 a7 a8 a9 b0:Int) (b1:Rw) (b2 b3 b4 b5 b6 b7 b8 b9 c0:Int) (c1:Rw) (c2 c3 c4 c5 c6:Int):Qfq Ca N4 G [.vC At x0,I x1,I x2,I x3, .vC Ag x4, .vC kPt x5,I x6,I x7,I x8,I x9,I J,I L,I M,I N,I O,I S,I T,I U,I V,I X,I Y,I a0, .vC Aa a1,I a2,I a3,I a4,I a5,I a6,I a7,I a8,I a9,I b0, .vC Aa b1,I b2,I b3,I b4,I b5,I b6,I b7,I b8,I b9,I c0, .vC Aa c1,I c2,I c3,I c4,I c5,I c6]=
 (N4 [.vC Aa [], .vC At x0,I x6,I x7,I x8,I 0, .vC Ag x4,I (x4.length:Int),I 0,I x1,I x2,I x3, .vC Ag x4, .vC kPt x5,I x9,I J,I L,I M,I N,I O,I S,I T,I U,I V,I X,I Y,I a0, .vC Aa a1,I a2,I a3,I a4,I a5,I a6,I a7,I a8,I a9,I b0, .vC Aa b1,I b2,I b3,I b4,I b5,I b6,I b7,I b8,I b9,I c0, .vC Aa c1,I c2,I c3,I c4,I c5,I c6]).bind λD=>
 cond (D.1.beq 1) ((G [.vC Aa (wA D.2 0), .vC At (wA D.2 1),jA D.2 2,jA D.2 3,jA D.2 4,I (↑(wA D.2 8).length:Int),I 0,jA D.2 5,jA D.2 6,jA D.2 7, .vC Ag (wA D.2 8), .vC kPt (wA D.2 9),jA D.2 10,jA D.2 11,jA D.2 12,jA D.2 13,jA D.2 14,jA D.2 15,jA D.2 16,jA D.2 17,jA D.2 18,jA D.2 19,jA D.2 20,jA D.2 21,jA D.2 22, .vC Aa (wA D.2 23),jA D.2 24,jA D.2 25,jA D.2 26,jA D.2 27,jA D.2 28,jA D.2 29,jA D.2 30,jA D.2 31,jA D.2 32, .vC Aa (wA D.2 33),jA D.2 34,jA D.2 35,jA D.2 36,jA D.2 37,jA D.2 38,jA D.2 39,jA D.2 40,jA D.2 41,jA D.2 42, .vC Aa (wA D.2 43),jA D.2 44,jA D.2 45,jA D.2 46,jA D.2 47,jA D.2 48]).bind λE=>
 cond (E.1.beq 1) (some [.vC At (wA E.2 0),jA E.2 1,jA E.2 2,jA E.2 3,jA E.2 4,jA E.2 5,jA E.2 6,jA E.2 7,jA E.2 8,jA E.2 9,jA E.2 10,jA E.2 11,jA E.2 12,jA E.2 13, .vC Aa (wA E.2 14),jA E.2 15,jA E.2 16,jA E.2 17,jA E.2 18,jA E.2 19,jA E.2 20,jA E.2 21,jA E.2 22,jA E.2 23, .vC Aa (wA E.2 24),jA E.2 25,jA E.2 26,jA E.2 27,jA E.2 28,jA E.2 29,jA E.2 30,jA E.2 31,jA E.2 32,jA E.2 33, .vC Aa (wA E.2 34),jA E.2 35,jA E.2 36,jA E.2 37,jA E.2 38,jA E.2 39]) (none)) (none):=by kernel_rfl
def Pp:=Am (Vn Gu)
def Qia:=Am (VJ Gu Pp)
def Qy:=Qfq Gu Pp Qia
theorem Qpx:Aj PG (Xg Gu):=Ap rfl ⟨Q8t,trivial⟩
theorem Zuv:An PG (Z2q Qy):=rw2 (C:=Za9 Gu Pp Qia) (fl (fl fb Qpx) Qpx) Qpx
def ZD:Sk:=⟨[TS.v true [ci,ci,ci,sa Ag,sa kPt]],[],[]⟩
def Zbz:=qa 91 ZD Qar
def Q1a:Sk:=⟨[td,td,td,tf [ci],td,td,td,tf [sa Ag],tf [ci],tf [ci]]++dd 9,[],[]⟩
def Q4o:List (Ex×Sk):=[(Ex.exit 0,⟨[td,td,td,tf [ci]]++dd 15,[],[]⟩)]
def SS:Lp:=A9 PG Qdd 64 3 (A8 PG 91 3) Q1a Q4o
def Zeh (D:Lp):Cfg:=Qdd.loop 3 Q1a Q4o D
def Q3t (D:Lp):Fn:=Ao PG (Zeh D) 64 91 ZD Qar
theorem Q46 (v0:Int) (E:Rw) (G D:Int):SS [I v0, .vC Ag E,I G,I D]=
 cond (decide (D<G)) (cond (decide (0<=D)&&decide (D<(E.length:Int))) (some (0,[I (V (v0+gA (nth [] E D.toNat) 3)), .vC Ag E,I G,I (V (D+1))])) (none)) (some (1,[I v0])):=by kernel_rfl
theorem Zq7 (E:Lp) (G J L:Int) (D M:Rw):Q3t E [I G,I J,I L, .vC Ag D, .vC kPt M]=
 (E [I 0, .vC Ag D,I (D.length:Int),I 0]).bind λo1=>
 cond (o1.1.beq 1) (some [jA o1.2 0]) (none):=by kernel_rfl
def S7:=Am (SS)
def J_:=Q3t S7
theorem Q9i:An PG (Zbz J_):=rw2 (C:=Zeh S7) (fl fb Zhu) Zhu
def Qs0:Sk:=⟨[TS.v true [ci,ci,ci,sa Ag,sa kPt],TS.v true (cc 9++[sa Aa]++cc 9++[sa Aa]++cc 9++[sa Aa]),TS.v true [ci,ci,ci],tf [ci],tf [ci]],[],[]⟩
def YB:Sk:=⟨[TS.v true ([sa At]++cc 5)],[],[]⟩
def Qxa:=qa 58 Qs0 YB
def Qjo (D E G I J:Fn):Cfg:=cp [Z2q D,Q12 E,Q6k G,VL I,Zbz J] [96,93,92]
def Qio (D E G I J:Fn):Fn:=Ao PG (Qjo D E G I J) 64 58 Qs0 YB
theorem Zkz (Mb Ca Gr CJ GZ:Fn) (x0 x1 x2:Int) (x3 x4:Rw) (x5 x6 x7 x8 x9 J L M N:Int) (O:Rw) (S T U V X Y a0 a1 a2:Int) (a3:Rw) (a4 a5 a6 a7 a8 a9 b0 b1 b2:Int) (b3:Rw) (D E G b4 b5:Int):Qio Mb Ca Gr CJ GZ [I x0,I x1,I x2, .vC Ag x3, .vC kPt x4,I x5,I x6,I x7,I x8,I x9,I J,I L,I M,I N, .vC Aa O,I S,I T,I U,I V,I X,I Y,I a0,I a1,I a2, .vC Aa a3,I a4,I a5,I a6,I a7,I a8,I a9,I b0,I b1,I b2, .vC Aa b3,I D,I E,I G,I b4,I b5]=
 (GZ [I x0,I x1,I x2, .vC Ag x3, .vC kPt x4]).bind λo5=>
 (CJ [I b4,jA o5 0]).bind λo6=>
 (CJ [I b5,jA o5 0]).bind λo7=>
 cond (decide (gA o6 0>gA o7 0)) ((Mb [.vC At [],I x0,I x1,I x2, .vC Ag x3, .vC kPt x4,I (mn (gA o6 0) (gA o7 0)),I (mx (gA o6 0) (gA o7 0)),I (-1),I D,I E,I G,I (-1),I x5,I x6,I x7,I x8,I x9,I J,I L,I M,I N, .vC Aa O,I S,I T,I U,I V,I X,I Y,I a0,I a1,I a2, .vC Aa a3,I a4,I a5,I a6,I a7,I a8,I a9,I b0,I b1,I b2, .vC Aa b3,I 0,jA o6 0,I D,I E,I G]).bind λo8=>
 some [.vC At (wA o8 0),jA o8 35,jA o8 36,jA o8 37,jA o8 38,jA o8 39]) ((Mb [.vC At [],I x0,I x1,I x2, .vC Ag x3, .vC kPt x4,I (mn (gA o6 0) (gA o7 0)),I (mx (gA o6 0) (gA o7 0)),I 1,I D,I E,I G,I 1,I x5,I x6,I x7,I x8,I x9,I J,I L,I M,I N, .vC Aa O,I S,I T,I U,I V,I X,I Y,I a0,I a1,I a2, .vC Aa a3,I a4,I a5,I a6,I a7,I a8,I a9,I b0,I b1,I b2, .vC Aa b3,I 0,jA o6 0,I D,I E,I G]).bind λo9=>
 some [.vC At (wA o9 0),jA o9 35,jA o9 36,jA o9 37,jA o9 38,jA o9 39]):=by kernel_rfl
def Ko:=Qio Qy Gu NO F9 J_
theorem Zm1:Aj PG (Qjo Qy Gu NO F9 J_):=Ap rfl ⟨Zuv,Q8t,Quo,TM,Q9i,trivial⟩
theorem Qur:An PG (Qxa Ko):=rw1 (C:=Qjo Qy Gu NO F9 J_) Zm1
def Yb6:=qa 156 YW Qb6
def Zch:Sk:=⟨[td,tf [ci],tf [sd 2 0],td,tf [sd 4 0]]++dd 8++[tf [sa At],tf [ci],tf [ci]]++dd 29,[(2,62,[sa At]++cc 5),(4,44,[ci,ci,ci])],[]⟩
def Qu3:List (Ex×Sk):=[(Ex.ret,⟨[td,td,td,td,tf [sd 4 0]]++dd 40,[(4,44,[ci,ci,ci])],[]⟩),(Ex.exit 0,⟨[td,td,tf [sd 2 0],td,tf [sd 4 0]]++dd 40,[(2,62,[sa At]++cc 5),(4,44,[ci,ci,ci])],[]⟩)]
def S_:Lp:=A9 PG Qdd 64 3 (A8 PG 156 3) Zch Qu3
def Ze5 (D:Lp):Cfg:=Qdd.loop 3 Zch Qu3 D
def Qne (D:Lp):Fn:=Ao PG (Ze5 D) 64 156 YW Qb6
theorem Z5f (v0:Int) (E:Rw) (G D:Int) (J:Rw) (L M N O S v10 v11 v12:Int):S_ [I v0, .vC At E,I G,I D, .vC At J,I L,I M,I N,I O,I S,I v10,I v11,I v12]=
 cond (decide (D<G)) (cond (decide (0<=D)&&decide (D<(E.length:Int))) (cond (decide (v0>V (gA (nth [] E D.toNat) 0+gA (nth [] E D.toNat) 1))) (some (0,[I v0, .vC At E,I G,I (V (D+1)), .vC At J,I L,I M,I N,I O,I S,I v10,I v11,I v12])) (cond (gA (nth [] E D.toNat) 3 !=0) (some (1,[jA (nth [] E D.toNat) 7,jA (nth [] E D.toNat) 8,jA (nth [] E D.toNat) 9])) (cond (v0==V (gA (nth [] E D.toNat) 0+gA (nth [] E D.toNat) 1)) (some (1,[jA (nth [] E D.toNat) 7,jA (nth [] E D.toNat) 8,jA (nth [] E D.toNat) 9])) (some (1,[jA (nth [] E D.toNat) 4,jA (nth [] E D.toNat) 5,jA (nth [] E D.toNat) 6]))))) (none)) (some (2,[.vC At J,I L,I M,I N,I O,I S,I v10,I v11,I v12])):=by kernel_rfl
theorem Z6s (G:Lp) (D:Rw) (E J L M N O:Int):Qne G [.vC At D,I E,I J,I L,I M,I N,I O]=
 (G [I (mx 0 (mn O E)), .vC At D,I (D.length:Int),I 0, .vC At D,I E,I J,I L,I M,I N,I 0,I 0,I 0]).bind λo1=>
 cond (o1.1.beq 1) (some [jA o1.2 0,jA o1.2 1,jA o1.2 2]) (cond (o1.1.beq 2) (some [jA o1.2 3,jA o1.2 4,jA o1.2 5]) (none)):=by kernel_rfl
def Zdo:=Am (S_)
def Ui:=Qne Zdo
theorem Zxn:An PG (Yb6 Ui):=rw2 (C:=Ze5 Zdo) (fl fb Zhu) Zhu
def Zoa:=qa 155 YW Qrs
def Qp9 (D E:Fn):Cfg:=cf [Qrk D,VL E]
def Qgi (D E:Fn):Fn:=Ao PG (Qp9 D E) 64 155 YW Qrs
theorem Zsc (G J:Fn) (D:Rw) (E L M N O S:Int):Qgi G J [.vC At D,I E,I L,I M,I N,I O,I S]=
 (J [I S,I E]).bind λo2=>
 (G [.vC At D,I E,I L,I M,I N,I O,jA o2 0]).bind λo3=>
 cond (decide (gA o3 0<0)) (some [B false]) (cond (decide (0<=gA o3 0)&&decide (gA o3 0<(D.length:Int))) (cond (gA (nth [] D (gA o3 0).toNat) 3==0) (cond (decide (gA (nth [] D (gA o3 0).toNat) 0<gA o2 0)) (some [B (decide (gA o2 0<V (gA (nth [] D (gA o3 0).toNat) 0+gA (nth [] D (gA o3 0).toNat) 1)))]) (some [B false])) (some [B false])) (none)):=by kernel_rfl
def Q2:=Qgi Hr F9
theorem Zlc:Aj PG (Qp9 Hr F9):=Ap rfl ⟨Qkt,TM,trivial⟩
theorem Ztk:An PG (Zoa Q2):=rw1 (C:=Qp9 Hr F9) Zlc
def Q4y:=qa 64 Qlu Qrs
def Qdt:Fn:=Ao PG Qdd 64 64 Qlu Qrs
theorem Z2t (D E G J L M:Int):Qdt [I D,I E,I G,I J,I L,I M]=
 cond (E==0) (cond (G==0) (cond (J==D) (some [B (L==D)]) (some [B false])) (some [B false])) (some [B false]):=by kernel_rfl
def Ic:=Qdt
theorem Q0y:An PG (Q4y Ic):=rw1 (C:=Qdd) Zhu
def Z9:Sk:=⟨[TS.v true [ci,ci,ci,sa Ag,sa kPt],TS.v true (cc 9++[sa Aa]++cc 9++[sa Aa]++cc 9++[sa Aa]),TS.v true ([sa At]++cc 5),TS.v true (cc 6),tf [ci]],[],[]⟩
def Qei:Sk:=⟨[TS.tup [(true,[sa At]++cc 5),(true,cc 6),(false,[sb])]],[],[]⟩
def Qz8:=qa 105 Z9 Qei
def Qea (D E G I J L:Fn):Cfg:={cf [Qkw D,Qxa E,RG G,Yb6 I,Zoa J,Q4y L]with ownBut:=[10]}
def Qb9 (D E G I J L:Fn):Fn:=Ao PG (Qea D E G I J L) 64 105 Z9 Qei
theorem Yci (U X Y OJ Pb Cf:Fn) (G J L M N O S:Int) (p:Pth) (x:Ax3) (t:Trk):Qb9 U X Y OJ Pb Cf (pxt p x t [I G,I J,I L,I M,I N,I O,I S])=
 (Cf [I G,I J,I L,I M,I N,I O]).bind λo6=>
 cond (!bA o6 0) (some [.vC At [],I 0,I 0,I 0,I 0,I 0,I 0,I 0,I 0,I 0,I 0,I 0,B false]) ((Pb (A4 t++[I (V (G.tdiv 256))])).bind λo7=>
 cond (bA o7 0) (some [.vC At [],I 0,I 0,I 0,I 0,I 0,I 0,I 0,I 0,I 0,I 0,I 0,B false]) ((OJ (A4 t++[I (V (G.tdiv 256))])).bind λT=>
 (Y (A4 t++[I (V (G.tdiv 256))])).bind λo9=>
 (X (Bv p++(AL x++[jA T 0,jA T 1,jA T 2,jA o9 0,I S]))).bind λD=>
 (U [I 0]).bind λE=>
 some [.vC At (wA D 0),jA D 1,jA D 2,jA D 3,jA D 4,jA D 5,jA E 0,jA E 1,jA E 2,jA E 3,jA E 4,jA E 5,B true])):=by kernel_rfl
def KT:=Qb9 HK Ko Ez Ui Q2 Ic
theorem Zre:Aj PG (Qea HK Ko Ez Ui Q2 Ic):=Ap rfl ⟨Xd,Qur,RU,Zxn,Ztk,Q0y,trivial⟩
theorem Q29:An PG (Qz8 KT):=rw1 (C:=Qea HK Ko Ez Ui Q2 Ic) Zre
def YR:Sk:=⟨[TS.tup [(false,[ci]),(false,[sb])]],[(20000,119,cS)],[]⟩
def Zsf:=qa 69 Qp5 YR
def Xr (D E:Fn):Cfg:=cf [Qz8 D,Qex E]
def Tt (D E:Fn):Fn:=Ao PG (Xr D E) 64 69 Qp5 YR
abbrev QN (J:Fn) (K:Kf) (c:Cv) (E G:AC):Option (List AC):=
 (J (pxt K.p K.x K.t [I c.m0,I c.m1,I c.m2,I c.m3,I c.m4,I c.m5,G])).bind λD=>
 cond (!bA D 12) (some (E::B true::Ab K c)) (cond (c.way==1) (some (E::B true::DY (Ab K c) [(44, .vC At (wA D 0)),(45,jA D 1),(46,jA D 2),(47,jA D 3),(48,jA D 4),(49,jA D 5),(50,jA D 6),(51,jA D 7),(52,jA D 8),(53,jA D 9),(54,jA D 10),(55,jA D 11),(71,I 2),(89,B true)])) (some (E::B true::DY (Ab K c) [(44, .vC At (wA D 0)),(45,jA D 1),(46,jA D 2),(47,jA D 3),(48,jA D 4),(49,jA D 5),(50,jA D 6),(51,jA D 7),(52,jA D 8),(53,jA D 9),(54,jA D 10),(55,jA D 11),(58,B true),(71,I 0),(89,B true)])))
abbrev UJ (c:Cv) (J:Fn) (K:Kf) (L:Fn) (D:AC):Option (List AC):=
 cond (!c.aM) ((J (pxt K.p K.x K.t [I K.pa,I K.pb,I K.pc,I c.o0,I c.o1,B c.o2,B c.o3,B c.o4,I c.m0,I c.m1,I c.m2,I c.m3,I c.m4,I c.m5,I K.t.length])).bind λE=>
 some (D::B true::Ab K {c with m0:=gA E 0,m1:=gA E 1,m2:=gA E 2,m3:=gA E 3,m4:=gA E 4,m5:=gA E 5})) (cond (c.m0 !=V (K.t.length*256)) ((J (pxt K.p K.x K.t [I K.pa,I K.pb,I K.pc,I c.o0,I c.o1,B c.o2,B c.o3,B c.o4,I c.m0,I c.m1,I c.m2,I c.m3,I c.m4,I c.m5,I K.t.length])).bind λG=>
 some (D::B true::Ab K {c with m0:=gA G 0,m1:=gA G 1,m2:=gA G 2,m3:=gA G 3,m4:=gA G 4,m5:=gA G 5})) (cond (c.way==2) (QN L K c D (I K.len)) (QN L K c D (I c.home))))
theorem Q07 (D E:Fn) (K:Kf) (c:Cv):Tt D E (Ab K c)=
 cond (c.way==0) (some (I 0::B false::Ab K c)) (cond (c.way==2) (UJ c E K D (I 5)) (UJ c E K D (I 4))):=by kernel_rfl
def Jx:=Tt KT EW
theorem Zij:Aj PG (Xr KT EW):=Ap rfl ⟨Q29,Qte,trivial⟩
theorem Z3v:An PG (Zsf Jx):=rw1 (C:=Xr KT EW) Zij
def Zy7:=qa 68 Qp5 YR
def Qj2 (D:Fn):Cfg:=cp [Qv8 D] [103]
def VM (D:Fn):Fn:=Ao PG (Qj2 D) 64 68 Qp5 YR
theorem Q2v (D:Fn) (K:Kf) (c:Cv):VM D (Ab K c)=
 cond (!c.on) (some (I 0::B false::Ab K c)) ((D (Ab K c)).bind λo1=>
 some (jA o1 0::B true::cR 1 o1)):=by kernel_rfl
def K6:=VM K4
theorem Z5d:Aj PG (Qj2 K4):=Ap rfl ⟨Zef,trivial⟩
theorem Z43:An PG (Zy7 K6):=rw1 (C:=Qj2 K4) Z5d
def Zzm:=qa 67 Qp5 YR
def Qky:Fn:=Ao PG Qdd 64 67 Qp5 YR
theorem Zon (K:Kf) (c:Cv):Qky (Ab K c)=
 cond (!c.aH) (some (I 0::B false::Ab K c)) (cond (!c.aM) (some (I 0::B false::Ab K c)) (some (I 8::B true::Ab K {c with aI:=8}))):=by kernel_rfl
def Mu:=Qky
theorem Zi2:An PG (Zzm Mu):=rw1 (C:=Qdd) Zhu
def Zsg:=qa 66 Qp5 YR
def Wx:Fn:=Ao PG Qdd 64 66 Qp5 YR
theorem Zhz (K:Kf) (c:Cv):Wx (Ab K c)=
 some (I c.aI::B (c.aI !=0)::Ab K c):=by kernel_rfl
def L8:=Wx
theorem Zu0:An PG (Zsg L8):=rw1 (C:=Qdd) Zhu
def Zsp:=qa 65 Qp5 YR
def Ql3 (D E:Fn):Cfg:=cr [Qkw D,QQ E] [63] [63]
def Qlp (D E:Fn):Fn:=Ao PG (Ql3 D E) 64 65 Qp5 YR
theorem Zt5 (D E:Fn) (K:Kf) (c:Cv):Qlp D E (Ab K c)=
 cond (c.g0 !=2) (some (I 0::B false::Ab K c)) ((E (Ab K c)).bind λo2=>
 (D [jA o2 0]).bind λo3=>
 some (I 6::B true::Ab K {c with m0:=gA o3 0,m1:=gA o3 1,m2:=gA o3 2,m3:=gA o3 3,m4:=gA o3 4,m5:=gA o3 5})):=by kernel_rfl
def L6:=Qlp HK Ds
theorem Zzr:Aj PG (Ql3 HK Ds):=Ho (rs:=[63]) rfl ⟨Xd,QT,trivial⟩ rfl (CH rfl (Fx HF))
theorem Zqr:An PG (Zsp L6):=rw1 (C:=Ql3 HK Ds) Zzr
def Qrf:Sk:=⟨[TS.v true [ci,ci,ci,ci],tf [ci]],[],[]⟩
def Ybg:=qa 62 Qrf Yb
def YX:Fn:=Ao PG Qdd 64 62 Qrf Yb
theorem Zvf (G E D L J:Int):YX [I G,I E,I D,I L,I J]=
 cond (decide (E<D)) (some [I G,I (mn (V (E+J)) D),I D,I (V (L+V (G*mn (V (E+J)) D)))]) (some [I G,I (mx (V (E-J)) D),I D,I (V (L+V (G*mx (V (E-J)) D)))]):=by kernel_rfl
def KC:=YX
theorem Zic:An PG (Ybg KC):=rw1 (C:=Qdd) Zhu
def Zys (M:Fn):Nat×Spec:=(61,E8 Qp5 Qrs M)
def Qr (D:Fn):Cfg:=cr [UQ D] [102] [102]
def V_ (D:Fn):Fn:=Mh PG (Qr D) 64 61 Qp5 Qrs
theorem Zgp (D:Fn) (K:Kf) (c:Cv):V_ D (Ab K c)=
 (D (Ab K c)).bind λo1=>
 cond (bA o1 7) (cond (decide (0<=gA o1 4)&&decide (gA o1 4<((K.aA.map Ah).length:Int))) (cond (gA (nth [] (K.aA.map Ah) (gA o1 4).toNat) 0==6) (some [B (c.y0==gA o1 4)]) (some [B false])) (none)) (some [B false]):=by kernel_rfl
def Ly:=V_ Fu
theorem Zs4:Aj PG (Qr Fu):=Ho (rs:=[102]) rfl ⟨U4,trivial⟩ rfl (Fx HF)
theorem Zo9 (vars : List AC) (R : Type) (K : TV -> Mem -> Option R) : Fv PG (Qr Fu) 64 61 [TV.v false [AC.ptr 20000 0]] ⟨[(20000, (⟨119, (cR 0 vars)⟩ : Box))], []⟩ K = Fv PG (Qr Fu) 64 61 [TV.v false [AC.ptr 20000 0]] ⟨[(20000, (⟨119, (cR 0 vars)⟩ : Box))], []⟩ (λv _ => K v ⟨[(20000, (⟨119, (cR 0 vars)⟩ : Box))], []⟩) := co (b := ((Fu (cR 0 vars)).bind λo1 =>
 cond (bA o1 7) (cond (decide (0<=gA o1 4)&&decide (gA o1 4<(↑(wA vars 35).length:Int))) (cond (Af (nth .vD (nth [] (wA vars 35) (gA o1 4).toNat) 0)==6) (K (TV.v false [B ((gA vars 79)==gA o1 4)]) ⟨[(20000,(⟨119,(cR 0 vars)⟩:Box))],[]⟩) (K (TV.v false [B false]) ⟨[(20000,(⟨119,(cR 0 vars)⟩:Box))],[]⟩)) (none)) (K (TV.v false [B false]) ⟨[(20000,(⟨119,(cR 0 vars)⟩:Box))],[]⟩))) (by kernel_rfl) (Eq.symm (by kernel_rfl))
theorem Zj3:An PG (61,E8 Qp5 Qrs Ly):=QP (C:=Qr Fu) (L:=64) (by kernel_rfl) (FnOK.bare rfl rfl rfl) Zs4 eqOk GA (by kernel_rfl) (by kernel_rfl) (λvars R K=>Zo9 vars R K)
def Zx9 (M:Fn):Nat×Spec:=(147,E8 Qe8 Qar M)
def Q98:Sk:=⟨[td,tf [ci],td,td,td,tf [ci],tf [ci]]++dd 6++[tf [sa Ag],tf [ci],tf [ci]]++dd 18,[(20000,119,cS)],[]⟩
def Qt7:List (Ex×Sk):=[(Ex.exit 0,⟨dd 6++[tf [ci]]++dd 27,[(20000,119,cS)],[]⟩)]
def Lv:Lp:=A9 PG Qdd 64 3 (A8 PG 147 3) Q98 Qt7
def Vj (D:Lp):Cfg:=Qdd.loop 3 Q98 Qt7 D
def ZZ (D:Lp):Fn:=Mh PG (Vj D) 64 147 Qe8 Qar
theorem Zlj (v0 G L:Int) (E:Rw) (J D:Int) (K:Kf) (c:Cv):Lv (I v0::I G::I L:: .vC Ag E::I J::I D::Ab K c)=
 cond (decide (D<J)) (cond (decide (0<=D)&&decide (D<(E.length:Int))) (cond (decide (V (G+gA (nth [] E D.toNat) 3)<=v0)) (cond (gA (nth [] E D.toNat) 6 !=0) (some (0,(I v0::I (V (G+gA (nth [] E D.toNat) 3))::I (V (G+gA (nth [] E D.toNat) 3)):: .vC Ag E::I J::I (V (D+1))::Ab K c))) (some (0,(I v0::I (V (G+gA (nth [] E D.toNat) 3))::I L:: .vC Ag E::I J::I (V (D+1))::Ab K c)))) (some (0,(I v0::I (V (G+gA (nth [] E D.toNat) 3))::I L:: .vC Ag E::I J::I (V (D+1))::Ab K c)))) (none)) (some (1,(I L::Ab K c))):=by kernel_rfl
theorem Ztd (D:Lp) (E:Int) (K:Kf) (c:Cv):ZZ D (I E::Ab K c)=
 (D (I E::I 0::I 0:: .vC Ag (K.p.aF.map Ax)::I ((K.p.aF.map Ax).length:Int)::I 0::Ab K c)).bind λo1=>
 cond (o1.1.beq 1) (some [jA o1.2 0]) (none):=by kernel_rfl
def Mm:=Am (Lv)
def Nb:=ZZ Mm
theorem Ycw (v0 G L:Int) (E:Rw) (J D:Int) (o:List AC):Lv (I v0::I G::I L:: .vC Ag E::I J::I D::cR 0 o)=
 cond (decide (D<J)) (cond (decide (0<=D)&&decide (D<(E.length:Int))) (cond (decide (V (G+gA (nth [] E D.toNat) 3)<=v0)) (cond (gA (nth [] E D.toNat) 6 !=0) (some (0,(I v0::I (V (G+gA (nth [] E D.toNat) 3))::I (V (G+gA (nth [] E D.toNat) 3)):: .vC Ag E::I J::I (V (D+1))::cR 0 o))) (some (0,(I v0::I (V (G+gA (nth [] E D.toNat) 3))::I L:: .vC Ag E::I J::I (V (D+1))::cR 0 o)))) (some (0,(I v0::I (V (G+gA (nth [] E D.toNat) 3))::I L:: .vC Ag E::I J::I (V (D+1))::cR 0 o)))) (none)) (some (1,(I L::cR 0 o))):=by kernel_rfl
theorem UF (o:List AC) (D:Rw) (v0 G:Int):∀(n:Nat) (J L E:Int) (a:Nat×List AC),C_ Lv n (I v0::I J::I L:: .vC Ag D::I G::I E::cR 0 o)=some a->∃r:Int,a=(1,I r::cR 0 o)
  |0,_,_,_,_,h=>by cases h
  |n+1,J,L,E,a,h=>by
    have h:((Lv (I v0::I J::I L:: .vC Ag D::I G::I E::cR 0 o)).bind λq=>if q.1=0 then C_ Lv n q.2 else some q)=some a:=h;rw[Ycw]at h;cases M:decide (E<G)<;>rw[M]at h
    · injection h with h
      exact⟨L,h.symm⟩
    cases N:(decide (0<=E)&&decide (E<(D.length:Int)))<;>rw[N]at h
    · cases h
    cases O:decide (V (J+gA (nth [] D E.toNat) 3)<=v0)<;>rw[O]at h
    · exact UF o D v0 G n _ _ _ a h
    cases S:(gA (nth [] D E.toNat) 6 !=0)<;>rw[S]at h
    · exact UF o D v0 G n _ _ _ a h
    · exact UF o D v0 G n _ _ _ a h
theorem Zqu (vars:List AC) (R:Type) (K:TV->Mem->Option R):Fv PG (Vj Mm) 64 147 [TV.v false [AC.ptr 20000 0],TV.v false [jA vars 0]] ⟨[(20000,(⟨119,cR 1 vars⟩:Box))],[]⟩ K=Fv PG (Vj Mm) 64 147 [TV.v false [AC.ptr 20000 0],TV.v false [jA vars 0]] ⟨[(20000,(⟨119,cR 1 vars⟩:Box))],[]⟩ (λv _=>K v ⟨[(20000,(⟨119,cR 1 vars⟩:Box))],[]⟩):=
  co (b:=(Mm (jA vars 0::I 0::I 0:: .vC Ag (wA vars 41)::I ((wA vars 41).length:Int)::I 0::cR 1 vars)).bind λo=>cond (o.1.beq 1) (K (TV.v false [jA o.2 0]) ⟨[(20000,(⟨119,cR 1 o.2⟩:Box))],[]⟩) (none)) (by kernel_rfl)
  (co (b := (Mm (jA vars 0 :: I 0 :: I 0 :: .vC Ag (wA vars 41) :: I ((wA vars 41).length : Int) :: I 0 :: cR 1 vars)).bind λo => cond (o.1.beq 1) (K (TV.v false [jA o.2 0]) ⟨[(20000, (⟨119, cR 1 vars⟩ : Box))], []⟩) (none)) (by
    cases h:Mm (jA vars 0::I 0::I 0:: .vC Ag (wA vars 41)::I ((wA vars 41).length:Int)::I 0::cR 1 vars)with
    |none=>rfl
    |some a=>
      obtain⟨n,D⟩:=QC h;obtain⟨r,rfl⟩:=UF (cR 1 vars) (wA vars 41) (gA vars 0) _ n 0 0 0 a D;rfl) (by kernel_rfl))
theorem Zvo:An PG (147,E8 Qe8 Qar Nb):=QP (C:=Vj Mm) (L:=64) (by kernel_rfl) ((FnOK.bare rfl rfl rfl).loop Zhu eqOk GA (by kernel_rfl) (by kernel_rfl)) Zhu eqOk GA (by kernel_rfl) (by kernel_rfl) (λvars R K=>Zqu vars R K)
def Zov:=qa 101 Qe8 Qnf
def Qsy (D E G I:Fn):Cfg:=cr [Qz8 D,Zx9 E,PR G,UQ I] [147,110,102] [147,110,102]
def Qeu (D E G I:Fn):Fn:=Ao PG (Qsy D E G I) 64 101 Qe8 Qnf
theorem Zg1 (J L M N:Fn) (E:Int) (K:Kf) (c:Cv):Qeu J L M N (I E::Ab K c)=
 (N (Ab K c)).bind λo4=>
 cond (!bA o4 7) (some (Ab K c)) (cond (decide (E<=0)) (some (Ab K c)) (cond (c.way !=0) (some (Ab K c)) (cond (c.on) (some (Ab K c)) (cond (c.aI !=0) (some (Ab K c)) (cond (!c.o2) (some (Ab K c)) (cond (gA o4 6 !=0) (some (Ab K c)) ((M (Ab K c)).bind λG=>
 (L (jA G 0::Ab K c)).bind λO=>
 (J (pxt K.p K.x K.t [I c.m0,I c.m1,I c.m2,I c.m3,I c.m4,I c.m5,I (mx (mx 0 (V (gA G 0-E))) (gA O 0))])).bind λD=>
 cond (!bA D 12) (some (Ab K c)) (some (DY (Ab K c) [(44, .vC At (wA D 0)),(45,jA D 1),(46,jA D 2),(47,jA D 3),(48,jA D 4),(49,jA D 5),(50,jA D 6),(51,jA D 7),(52,jA D 8),(53,jA D 9),(54,jA D 10),(55,jA D 11),(58,B false),(71,I 1),(72,jA G 0)]))))))))):=by kernel_rfl
def RJ:=Qeu KT Nb Dt Fu
theorem Zmk:Aj PG (Qsy KT Nb Dt Fu):=Ho (rs:=[147,110,102]) rfl ⟨Q29,Zvo,Qf,U4,trivial⟩ rfl (CH rfl (Fx (Fx (Fx HF))))
theorem Ycb:An PG (Zov RJ):=rw1 (C:=Qsy KT Nb Dt Fu) Zmk
def Zmh:=qa 146 Qe8 Qni
def Ze6:Sk:=⟨[td,tf [ci],td,td,td,tf [ci]]++dd 6++[tf [sa Ag],tf [ci],tf [ci]]++dd 13,[(20000,119,cS)],[]⟩
def Qvy:List (Ex×Sk):=[(Ex.exit 0,⟨[td,td,td,td,td,tf [ci]]++dd 22,[(20000,119,cS)],[]⟩)]
def Ut:Lp:=A9 PG Qdd 64 3 (A8 PG 146 3) Ze6 Qvy
def Zde (D:Lp):Cfg:=Qdd.loop 3 Ze6 Qvy D
def Qfb (D:Lp):Fn:=Ao PG (Zde D) 64 146 Qe8 Qni
theorem Z5s (v0 G:Int) (E:Rw) (J D:Int) (K:Kf) (c:Cv):Ut (I v0::I G:: .vC Ag E::I J::I D::Ab K c)=
 cond (decide (D<J)) (cond (decide (0<=D)&&decide (D<(E.length:Int))) (cond (gA (nth [] E D.toNat) 4==v0) (some (1,(I G::Ab K c))) (some (0,(I v0::I (V (G+gA (nth [] E D.toNat) 3)):: .vC Ag E::I J::I (V (D+1))::Ab K c)))) (none)) (some (1,(I G::Ab K c))):=by kernel_rfl
theorem Zlg (D:Lp) (E:Int) (K:Kf) (c:Cv):Qfb D (I E::Ab K c)=
 (D (I E::I 0:: .vC Ag (K.p.aF.map Ax)::I ((K.p.aF.map Ax).length:Int)::I 0::Ab K c)).bind λo1=>
 cond (o1.1.beq 1) (some (jA o1.2 0::cR 1 o1.2)) (none):=by kernel_rfl
def Qxq:=Am (Ut)
def OS:=Qfb Qxq
theorem Zof:An PG (Zmh OS):=rw2 (C:=Zde Qxq) (fl fb Zhu) Zhu
def Z6f:=qa 100 Qp5 Qnf
def Qtf (D E G:Fn):Cfg:=cr [Zmh D,PR E,UQ G] [146,110,102] [110,102]
def Qm2 (D E G:Fn):Fn:=Ao PG (Qtf D E G) 64 100 Qp5 Qnf
theorem Zig (E G I:Fn) (K:Kf) (c:Cv):Qm2 E G I (Ab K c)=
 (I (Ab K c)).bind λo3=>
 cond (bA o3 7) (cond (c.way==0) (cond (decide (0<=gA o3 4)&&decide (gA o3 4<((K.aA.map Ah).length:Int))) (cond (gA (nth [] (K.aA.map Ah) (gA o3 4).toNat) 0==4) ((G (Ab K c)).bind λo4=>
 (E (jA o3 4::Ab K c)).bind λD=>
 cond (gA o4 0 !=gA D 0) (some (DY (cR 1 D) [(77,B true)])) (some (cR 1 D))) (some (Ab K c))) (none)) (some (Ab K c))) (some (Ab K c)):=by kernel_rfl
def Ns:=Qm2 OS Dt Fu
theorem Z9l:Aj PG (Qtf OS Dt Fu):=Ho (rs:=[110,102]) rfl ⟨Zof,Qf,U4,trivial⟩ rfl (CH rfl (Fx (Fx HF)))
theorem Ztf:An PG (Z6f Ns):=rw1 (C:=Qtf OS Dt Fu) Z9l
def Qtr:Sk:=⟨[TS.v true [ci,ci,ci],tf [ci],TS.v true [ci,ci,ci],TS.v true [ci,ci,ci]],[],[]⟩
def Z8s:=qa 145 Qtr Qb6
def Qkz:Cfg:={cf []with unroll:=[4]}
def Qnw:Fn:=Ao PG Qkz 64 145 Qtr Qb6
theorem Zy0 (E G J D L M N O S T:Int):Qnw [I E,I G,I J,I D,I L,I M,I N,I O,I S,I T]=
 cond (E !=0) (some [I E,I G,I J]) (cond (decide (V (L-O)>D)) (some [I 1,I 19,I 0]) (cond (decide (V (0-V (L-O))>D)) (some [I 1,I 19,I 0]) (cond (decide (V (M-S)>D)) (some [I 1,I 19,I (V (0+1))]) (cond (decide (V (0-V (M-S))>D)) (some [I 1,I 19,I (V (0+1))]) (cond (decide (V (N-T)>D)) (some [I 1,I 19,I (V (V (0+1)+1))]) (cond (decide (V (0-V (N-T))>D)) (some [I 1,I 19,I (V (V (0+1)+1))]) (some [I E,I G,I J]))))))):=by kernel_rfl
def ON:=Qnw
theorem Ybj:Aj PG (Qkz):=Ap rfl trivial
theorem Zuc:An PG (Z8s ON):=rw1 (C:=Qkz) Ybj
attribute [go_sem] Z6m W9 UX VX Uw V4 WT XZ Z6 PW Pq SA SM Qlg UE Vf SL Uz So Qcy QN UJ
end Go.Bm
