/- functions of the program and of the references, as models -/
import Derived.Test.YtommijghjlikkaaGreatSeShelf
import Derived.Test.YtommijghjlikkaaGreatSeExt
import Derived.Test.YtommijghjlikkaaGreatSePre
import Derived.Test.YtommijghjlikkaaGreatSeKc
import Derived.Test.YtommijghjlikkaaGreatBmTy
set_option linter.unusedSimpArgs false
set_option linter.unusedVariables false
set_option maxRecDepth 100000
noncomputable section
open Go.IntKind (wrap)
namespace Go.Bm
open Go.Proofs
abbrev Z3j (v0:Rw) (E G J L M N O S:Int) (D:AC):Option (Nat×List AC):=
 bif decide (gA (nth [] v0 E.toNat) 1=(↑0:Int))then
 some (0,[.view kPt v0,I G,I (wrap .i64 (E+1)),I J,I L,I M,D,I N,I O])
 else
 bif decide (gA (nth [] v0 E.toNat) 1=(↑(0+1):Int))then
 some (0,[.view kPt v0,I G,I (wrap .i64 (E+1)),I J,I L,I M,I S,D,I O])
 else
 bif decide (gA (nth [] v0 E.toNat) 1=(↑(0+1+1):Int))then
 some (0,[.view kPt v0,I G,I (wrap .i64 (E+1)),I J,I L,I M,I S,I N,D])
 else
 none
def Z8:Sk:=⟨[TS.v true (cc 9++[CS.sl Aa]),tf [ci]],[],[]⟩
def Zv:Sk:=⟨[tf [ci]],[],[]⟩
def Q9h (M:Fn):Nat×Spec:=(77,Ad Z8 Zv M)
def Qbm:Cfg:=cf []
def Q42:Fn:=An PG Qbm 64 77 Z8 Zv
theorem Zec (G J L M N O E S T:Int) (U:Rw) (D:Int):Q42 [I G,I J,I L,I M,I N,I O,I E,I S,I T, .view Aa U,I D]=
 bif D== -1 then
 some [I (wrap .i64 (0-E))]
 else
 some [I 0]:=by kernel_rfl
def JZ:=Q42
theorem Zes:Aj PG (Qbm):=Ap rfl trivial
theorem Q2h:Am PG (77,Ad Z8 Zv JZ):=rw1 (C:=Qbm) Zes
def Qcs:Sk:=⟨[TS.v true (cc 9++[CS.sl Aa]),TS.v true (cc 10),tf [ci],tf [ci]],[],[]⟩
def Z8u (M:Fn):Nat×Spec:=(78,Ad Qcs Zv M)
def W8 (D:Fn):Cfg:=cf [Q9h D]
def Qk (D:Fn):Fn:=An PG (W8 D) 64 78 Qcs Zv
abbrev Wc (D:Int) (E:Fn) (G J L M N O S T U:Int) (V:Rw) (X Y a0:Int):Option (List AC):=
 bif decide (D=(↑0:Int))then
 (E [I G,I J,I L,I M,I N,I O,I S,I T,I U, .view Aa V,I X]).bind λa1=>
 some [jA a1 0]
 else
 bif decide (D=(↑(0+1):Int))then
 (E [I G,I J,I L,I M,I N,I O,I S,I T,I U, .view Aa V,I Y]).bind λa2=>
 some [jA a2 0]
 else
 bif decide (D=(↑(0+1+1):Int))then
 (E [I G,I J,I L,I M,I N,I O,I S,I T,I U, .view Aa V,I a0]).bind λa3=>
 some [jA a3 0]
 else
 none
abbrev T7 (D E J:Int) (G:Bool):Option (List AC):=
 bif G then
 some [I (wrap .i64 (0-mn (wrap .i64 (D-E)) J))]
 else
 some [I (wrap .i64 (mn (wrap .i64 (D-E)) J-J))]
abbrev U5 (D:Int) (O:Fn) (S T U V X Y N x7 x8:Int) (x9:Rw) (I J L E G:Int) (M:Bool):Option (List AC):=
 bif M then
 Wc D O S T U V X Y N x7 x8 x9 I J L
 else
 bif decide (D=(↑0:Int))then
 T7 E G N (I== -1)
 else
 bif decide (D=(↑(0+1):Int))then
 T7 E G N (J== -1)
 else
 bif decide (D=(↑(0+1+1):Int))then
 T7 E G N (L== -1)
 else
 none
abbrev Tx (D:Int) (S:Fn) (T U V X Y x5 x6 x7 x8:Int) (x9:Rw) (E G I J L:Int) (M N O:Bool):Option (List AC):=
 bif decide (D=(↑0:Int))then
 U5 D S T U V X Y x5 x6 x7 x8 x9 E G I J L M
 else
 bif decide (D=(↑(0+1):Int))then
 U5 D S T U V X Y x5 x6 x7 x8 x9 E G I J L N
 else
 bif decide (D=(↑(0+1+1):Int))then
 U5 D S T U V X Y x5 x6 x7 x8 x9 E G I J L O
 else
 none
theorem Qkf (T:Fn) (U V X Y x4 x5 x6 x7 x8:Int) (x9:Rw) (L a1 a2 a0 M N O D E G J S:Int):Qk T [I U,I V,I X,I Y,I x4,I x5,I x6,I x7,I x8, .view Aa x9,I L,I a1,I a2,I a0,I M,I N,I O,I D,I E,I G,I J,I S]=
 bif a0 !=0 then
 Wc J T U V X Y x4 x5 x6 x7 x8 x9 D E G
 else
 bif decide (J=(↑0:Int))then
 Tx J T U V X Y x4 x5 x6 x7 x8 x9 D E G S L (M==D) (M==E) (M==G)
 else
 bif decide (J=(↑(0+1):Int))then
 Tx J T U V X Y x4 x5 x6 x7 x8 x9 D E G S L (N==D) (N==E) (N==G)
 else
 bif decide (J=(↑(0+1+1):Int))then
 Tx J T U V X Y x4 x5 x6 x7 x8 x9 D E G S L (O==D) (O==E) (O==G)
 else
 none:=by kernel_rfl
def Sn:=Qk JZ
theorem Zhb:Aj PG (W8 JZ):=Ap rfl ⟨Q2h,trivial⟩
theorem Zvy:Am PG (78,Ad Qcs Zv Sn):=rw1 (C:=(W8 JZ)) Zhb
def Z1y (M:Fn):Nat×Spec:=(118,Ad Z8 Zv M)
def Q7g:Fn:=An PG Qbm 64 118 Z8 Zv
theorem Zgt (D G J L M N O S T:Int) (U:Rw) (E:Int):Q7g [I D,I G,I J,I L,I M,I N,I O,I S,I T, .view Aa U,I E]=
 bif decide (D<=0)then
 some [I 0]
 else
 bif decide (wrap .i64 (2*D)<=0)then
 some [I 0]
 else
 bif decide (wrap .i64 (2*D)=0)then
 none
 else
 bif decide (wrap .i64 (2*D)=0)then
 none
 else
 bif decide ((wrap .i64 (wrap .i64 (2*E)+D)).tmod (wrap .i64 (2*D))<0)then
 some [I (wrap .i64 (wrap .i64 ((wrap .i64 (wrap .i64 (2*E)+D)).tdiv (wrap .i64 (2*D)))-1))]
 else
 some [I (wrap .i64 ((wrap .i64 (wrap .i64 (2*E)+D)).tdiv (wrap .i64 (2*D))))]:=by kernel_rfl
def K4:=Q7g
theorem Zd6:Am PG (118,Ad Z8 Zv K4):=rw1 (C:=Qbm) Zes
def YZ:Sk:=⟨[tf [CS.int .u64],tf [CS.bool]],[],[]⟩
def Yi:Sk:=⟨[TS.tup [(false,[ci]),(false,[CS.bool])]],[],[]⟩
def Wy (M:Fn):Nat×Spec:=(136,Ad YZ Yi M)
def Qhl:Fn:=An PG Qbm 64 136 YZ Yi
theorem Qpu (D:Int) (E:Bool):Qhl [U D,B E]=
 bif E then
 bif decide (D<=9223372036854775808)then
 some [I (wrap .i64 (wrap .u64 (0-D))),B true]
 else
 bif !E then
 bif decide (D<9223372036854775808)then
 some [I (wrap .i64 D),B true]
 else
 some [I 0,B false]
 else
 some [I 0,B false]
 else
 bif !E then
 bif decide (D<9223372036854775808)then
 some [I (wrap .i64 D),B true]
 else
 some [I 0,B false]
 else
 some [I 0,B false]:=by kernel_rfl
def FA:=Qhl
theorem Qj4:Am PG (136,Ad YZ Yi FA):=rw1 (C:=Qbm) Zes
def Qeq:Sk:=⟨[tf [ci],tf [ci],tf [CS.bool],tf [CS.bool]],[],[]⟩
def Qpq:Sk:=⟨[tf [CS.bool]],[],[]⟩
def Q4j (M:Fn):Nat×Spec:=(135,Ad Qeq Qpq M)
def Qk6:Fn:=An PG Qbm 64 135 Qeq Qpq
theorem Q0x (E G:Int) (J D:Bool):Qk6 [I E,I G,B J,B D]=
 bif E==0 then
 bif J then
 some [B D]
 else
 some [B false]
 else
 bif E==1 then
 bif J then
 some [B !D]
 else
 some [B false]
 else
 bif decide (G>0)then
 some [B true]
 else
 bif G==0 then
 some [B !D]
 else
 some [B false]:=by kernel_rfl
def If:=Qk6
theorem Zcq:Am PG (135,Ad Qeq Qpq If):=rw1 (C:=Qbm) Zes
def Za:Sk:=⟨[tf [ci],tf [ci]],[],[]⟩
def Xl (M:Fn):Nat×Spec:=(134,Ad Za Zv M)
def Qix:Fn:=An PG Qbm 64 134 Za Zv
theorem Qut (D E:Int):Qix [I D,I E]=
 bif D==0 then
 some [I 0]
 else
 bif E==0 then
 some [I 0]
 else
 bif decide (D<0)==decide (E<0)then
 some [I 1]
 else
 some [I (-1)]:=by kernel_rfl
def Gp:=Qix
theorem Qdq:Am PG (134,Ad Za Zv Gp):=rw1 (C:=Qbm) Zes
def Wo:Sk:=⟨[tf [CS.int .u64],tf [CS.int .u64],tf [CS.int .u64]],[],[]⟩
def Qnl:Sk:=⟨[TS.tup [(false,[CS.int .u64]),(false,[CS.int .u64])]],[],[]⟩
def Zax (M:Fn):Nat×Spec:=(133,Ad Wo Qnl M)
def XP (D:Fn):Cfg:=cf [(176,Ad Zap Q9s D)]
def Qtw:Sk:=⟨[td,td,tf [CS.int .u64],td,td,td,td,td,tf [CS.int .u64],tf [CS.int .u64],tf [CS.int .u64],tf [CS.int .u64],td,tf [CS.int .u64],tf [CS.int .u64],tf [CS.int .u64],tf [CS.int .u64]]++dd 118,[],[]⟩
def Q6p:List (Ex×Sk):=[(Ex.exit 0,⟨[td,td,tf [CS.int .u64],td,td,td,td,td,tf [CS.int .u64],tf [CS.int .u64],tf [CS.int .u64],tf [CS.int .u64],td,tf [CS.int .u64],tf [CS.int .u64],tf [CS.int .u64]]++dd 119,[],[]⟩)]
def Mc (D:Fn):Lp:=AW PG (XP D) 64 17 (AV PG 133 17) Qtw Q6p
def Q4o (E:Fn) (D:Lp):Cfg:=(XP E).loop 17 Qtw Q6p D
def Qwk:Sk:=⟨[td,td,tf [CS.int .u64],td,td,td,td,td,tf [CS.int .u64],tf [CS.int .u64],tf [CS.int .u64],td,td,td,tf [CS.int .u64],tf [CS.int .u64],tf [CS.int .u64],tf [CS.int .u64],tf [CS.int .u64]]++dd 116,[],[]⟩
def Q4q:List (Ex×Sk):=[(Ex.exit 2,⟨[td,td,tf [CS.int .u64],td,td,td,td,td,tf [CS.int .u64],td,td,td,td,td,tf [CS.int .u64],tf [CS.int .u64],td,tf [CS.int .u64],tf [CS.int .u64]]++dd 116,[],[]⟩)]
def PM (E:Fn) (D:Lp):Lp:=AW PG (Q4o E D) 64 24 (AV PG 133 24) Qwk Q4q
def Q0z (G:Fn) (D E:Lp):Cfg:=(Q4o G D).loop 24 Qwk Q4q E
def Qdv (G:Fn) (D E:Lp):Fn:=An PG (Q0z G D E) 64 133 Wo Qnl
theorem Zoq (Ei:Fn) (v0 J D G L I M E N:Int):Mc Ei [U v0,U J,U D,U G,U L,U I,U M,U E,U N]=
 bif decide (E>=4294967296)then
 bif decide (wrap .u64 (N+D)>=4294967296)then
 some (1,[U v0,U J,U D,U G,U L,U I,U M,U (wrap .u64 (E-1))])
 else
 some (0,[U v0,U J,U D,U G,U L,U I,U M,U (wrap .u64 (E-1)),U (wrap .u64 (N+D))])
 else
 bif decide (wrap .u64 (E*G)>wrap .u64 (wrap .u64 (4294967296*N)+I))then
 bif decide (wrap .u64 (N+D)>=4294967296)then
 some (1,[U v0,U J,U D,U G,U L,U I,U M,U (wrap .u64 (E-1))])
 else
 some (0,[U v0,U J,U D,U G,U L,U I,U M,U (wrap .u64 (E-1)),U (wrap .u64 (N+D))])
 else
 some (1,[U v0,U J,U D,U G,U L,U I,U M,U E]):=by kernel_rfl
theorem Zm3 (Ei:Fn) (N17:Lp) (v0 I E N G J L M D:Int):PM Ei N17 [U v0,U I,U E,U N,U G,U J,U L,U M,U D]=
 bif decide (D>=4294967296)then
 bif decide (wrap .u64 (L+E)>=4294967296)then
 some (1,[U v0,U I,U G,U J,U M,U (wrap .u64 (D-1))])
 else
 some (0,[U v0,U I,U E,U N,U G,U J,U (wrap .u64 (L+E)),U M,U (wrap .u64 (D-1))])
 else
 bif decide (wrap .u64 (D*N)>wrap .u64 (wrap .u64 (4294967296*L)+G))then
 bif decide (wrap .u64 (L+E)>=4294967296)then
 some (1,[U v0,U I,U G,U J,U M,U (wrap .u64 (D-1))])
 else
 some (0,[U v0,U I,U E,U N,U G,U J,U (wrap .u64 (L+E)),U M,U (wrap .u64 (D-1))])
 else
 some (1,[U v0,U I,U G,U J,U M,U D]):=by kernel_rfl
theorem Q0b (O:Fn) (M N:Lp) (L I G:Int):Qdv O M N [U L,U I,U G]=
 bif G==0 then
 none
 else
 bif decide (G<=L)then
 none
 else
 bif L==0 then
 bif decide (G=0)then
 none
 else
 bif decide (G=0)then
 none
 else
 some [U (wrap .u64 (I.tdiv G)),U (I.tmod G)]
 else
 (O [U G]).bind λE=>
 bif decide (wrap .u64 (gA E 0)<0)then
 none
 else
 bif decide (wrap .u64 (gA E 0)<0)then
 none
 else
 bif decide (wrap .u64 (64-wrap .u64 (gA E 0))<0)then
 none
 else
 bif decide (wrap .u64 (gA E 0)<0)then
 none
 else
 bif decide ((wrap .u64 (G*2^min (wrap .u64 (gA E 0)).toNat IntKind.u64.bits)).fdiv (2^min (Int.toNat 32) IntKind.u64.bits)=0)then
 none
 else
 (M [U (wrap .u64 (G*2^min (wrap .u64 (gA E 0)).toNat IntKind.u64.bits)),U (wrap .u64 (gA E 0)),U ((wrap .u64 (G*2^min (wrap .u64 (gA E 0)).toNat IntKind.u64.bits)).fdiv (2^min (Int.toNat 32) IntKind.u64.bits)),U (wrap .u64 (↑(BitVec.ofInt IntKind.u64.bits (wrap .u64 (G*2^min (wrap .u64 (gA E 0)).toNat IntKind.u64.bits))&&&BitVec.ofInt IntKind.u64.bits 4294967295).toNat:Int)),U (wrap .u64 (↑(BitVec.ofInt IntKind.u64.bits (wrap .u64 (L*2^min (wrap .u64 (gA E 0)).toNat IntKind.u64.bits))|||BitVec.ofInt IntKind.u64.bits (I.fdiv (2^min (wrap .u64 (64-wrap .u64 (gA E 0))).toNat IntKind.u64.bits))).toNat:Int)),U ((wrap .u64 (I*2^min (wrap .u64 (gA E 0)).toNat IntKind.u64.bits)).fdiv (2^min (Int.toNat 32) IntKind.u64.bits)),U (wrap .u64 (↑(BitVec.ofInt IntKind.u64.bits (wrap .u64 (I*2^min (wrap .u64 (gA E 0)).toNat IntKind.u64.bits))&&&BitVec.ofInt IntKind.u64.bits 4294967295).toNat:Int)),U (wrap .u64 ((wrap .u64 (↑(BitVec.ofInt IntKind.u64.bits (wrap .u64 (L*2^min (wrap .u64 (gA E 0)).toNat IntKind.u64.bits))|||BitVec.ofInt IntKind.u64.bits (I.fdiv (2^min (wrap .u64 (64-wrap .u64 (gA E 0))).toNat IntKind.u64.bits))).toNat:Int)).tdiv ((wrap .u64 (G*2^min (wrap .u64 (gA E 0)).toNat IntKind.u64.bits)).fdiv (2^min (Int.toNat 32) IntKind.u64.bits)))),U (wrap .u64 (wrap .u64 (↑(BitVec.ofInt IntKind.u64.bits (wrap .u64 (L*2^min (wrap .u64 (gA E 0)).toNat IntKind.u64.bits))|||BitVec.ofInt IntKind.u64.bits (I.fdiv (2^min (wrap .u64 (64-wrap .u64 (gA E 0))).toNat IntKind.u64.bits))).toNat:Int)-wrap .u64 (wrap .u64 ((wrap .u64 (↑(BitVec.ofInt IntKind.u64.bits (wrap .u64 (L*2^min (wrap .u64 (gA E 0)).toNat IntKind.u64.bits))|||BitVec.ofInt IntKind.u64.bits (I.fdiv (2^min (wrap .u64 (64-wrap .u64 (gA E 0))).toNat IntKind.u64.bits))).toNat:Int)).tdiv ((wrap .u64 (G*2^min (wrap .u64 (gA E 0)).toNat IntKind.u64.bits)).fdiv (2^min (Int.toNat 32) IntKind.u64.bits)))*(wrap .u64 (G*2^min (wrap .u64 (gA E 0)).toNat IntKind.u64.bits)).fdiv (2^min (Int.toNat 32) IntKind.u64.bits))))]).bind λD=>
 bif D.1.beq 1 then
 bif decide (gA D.2 2=0)then
 none
 else
 (N [U (gA D.2 0),U (gA D.2 1),U (gA D.2 2),U (gA D.2 3),U (gA D.2 6),U (gA D.2 7),U (wrap .u64 (wrap .u64 (wrap .u64 (wrap .u64 (gA D.2 4*4294967296)+gA D.2 5)-wrap .u64 (gA D.2 7*gA D.2 0))-wrap .u64 (wrap .u64 ((wrap .u64 (wrap .u64 (wrap .u64 (gA D.2 4*4294967296)+gA D.2 5)-wrap .u64 (gA D.2 7*gA D.2 0))).tdiv (gA D.2 2))*gA D.2 2))),U (wrap .u64 (wrap .u64 (wrap .u64 (gA D.2 4*4294967296)+gA D.2 5)-wrap .u64 (gA D.2 7*gA D.2 0))),U (wrap .u64 ((wrap .u64 (wrap .u64 (wrap .u64 (gA D.2 4*4294967296)+gA D.2 5)-wrap .u64 (gA D.2 7*gA D.2 0))).tdiv (gA D.2 2)))]).bind λJ=>
 bif J.1.beq 1 then
 bif decide (gA J.2 1<0)then
 none
 else
 some [U (wrap .u64 (wrap .u64 (gA J.2 3*4294967296)+gA J.2 5)),U ((wrap .u64 (wrap .u64 (wrap .u64 (gA J.2 4*4294967296)+gA J.2 2)-wrap .u64 (gA J.2 5*gA J.2 0))).fdiv (2^min (gA J.2 1).toNat IntKind.u64.bits))]
 else
 none
 else
 none:=by kernel_rfl
def UN:=Al (Mc I8)
def Qgn:=Al (PM I8 UN)
def G9:=Qdv I8 UN Qgn
theorem Qqb:Aj PG (XP I8):=Ap rfl ⟨Zxj,trivial⟩
theorem Qso:Am PG (133,Ad Wo Qnl G9):=rw2 (C:=(Q0z I8 UN Qgn)) (fl (fl fb Qqb) Qqb) Qqb
def Qjw:Sk:=⟨[tf [CS.int .u64],tf [CS.int .u64]],[],[]⟩
def Qcj:Sk:=⟨[TS.v true [CS.int .u64,CS.int .u64]],[],[]⟩
def T4 (M:Fn):Nat×Spec:=(131,Ad Qjw Qcj M)
def Yx (D:Fn):Cfg:=cf [(175,Ad ZL Vi D)]
def Q9t (D:Fn):Fn:=An PG (Yx D) 64 131 Qjw Qcj
theorem Zi7 (D:Fn) (E G:Int):Q9t D [U E,U G]=
 (D [U E,U G]).bind λo1=>
 some [U (gA o1 0),U (gA o1 1)]:=by kernel_rfl
def E2:=Q9t II
theorem Zhd:Aj PG (Yx II):=Ap rfl ⟨Qvv,trivial⟩
theorem UP:Am PG (131,Ad Qjw Qcj E2):=rw1 (C:=(Yx II)) Zhd
def Qba:Sk:=⟨[tf [CS.int .u64]],[],[]⟩
def Qby (M:Fn):Nat×Spec:=(132,Ad Zv Qba M)
def Qs5:Fn:=An PG Qbm 64 132 Zv Qba
theorem Zdb (D:Int):Qs5 [I D]=
 bif decide (D<0)then
 some [U (wrap .u64 (wrap .u64 (wrap .i64 (0-wrap .i64 (D+1)))+1))]
 else
 some [U (wrap .u64 D)]:=by kernel_rfl
def GI:=Qs5
theorem VR:Am PG (132,Ad Zv Qba GI):=rw1 (C:=Qbm) Zes
def Qps (M:Fn):Nat×Spec:=(130,Ad Zv Qpq M)
def VE:Fn:=An PG Qbm 64 130 Zv Qpq
theorem Q38 (D:Int):VE [I D]=
 bif D==0 then
 some [B true]
 else
 bif D==1 then
 some [B true]
 else
 some [B (D==2)]:=by kernel_rfl
def Gm:=VE
theorem Qne:Am PG (130,Ad Zv Qpq Gm):=rw1 (C:=Qbm) Zes
def Xh:Sk:=⟨[tf [ci],tf [ci],tf [ci],tf [ci]],[],[]⟩
def My (M:Fn):Nat×Spec:=(83,Ad Xh Yi M)
def Qpr (D E G I J L M:Fn):Cfg:=cf [Wy D,Q4j E,Xl G,Zax I,T4 J,Qby L,Qps M]
def S5 (D E G I J L M:Fn):Fn:=An PG (Qpr D E G I J L M) 64 83 Xh Yi
abbrev U9 (O:Fn) (S:Int) (E:List AC) (N:Fn) (G D:AC):Option (List AC):=
 (O [I S,G,B (decide (gA E 1>0)),D]).bind λM=>
 bif bA M 0 then
 bif wrap .u64 (gA E 0+1)==0 then
 some [I 0,B false]
 else
 (N [U (wrap .u64 (gA E 0+1)),D]).bind λJ=>
 some [jA J 0,B (bA J 1)]
 else
 (N [U (gA E 0),D]).bind λL=>
 some [jA L 0,B (bA L 1)]
abbrev VX (D G:List AC) (J:Fn) (L:Int) (M:Fn) (E:AC):Option (List AC):=
 bif decide (gA D 1>wrap .u64 (gA G 0-gA D 1))then
 U9 J L D M (I 1) E
 else
 bif decide (gA D 1<wrap .u64 (gA G 0-gA D 1))then
 U9 J L D M (I (-1)) E
 else
 U9 J L D M (I 0) E
theorem Q9l (S T V Gi BM J D8:Fn) (L M N O:Int):S5 S T V Gi BM J D8 [I L,I M,I N,I O]=
 bif N==0 then
 some [I 0,B false]
 else
 (D8 [I O]).bind λX=>
 bif !bA X 0 then
 some [I 0,B false]
 else
 (J [I L]).bind λY=>
 (J [I M]).bind λa0=>
 (BM [U (gA Y 0),U (gA a0 0)]).bind λE=>
 (J [I N]).bind λD=>
 bif decide (gA E 0>=gA D 0)then
 some [I 0,B false]
 else
 (Gi [U (gA E 0),U (gA E 1),U (gA D 0)]).bind λG=>
 (V [I L,I M]).bind λa1=>
 bif !decide (gA a1 0<0)==decide (N<0)then
 (V [I L,I M]).bind λa2=>
 VX G D T O S (B (gA a2 0 !=0))
 else
 VX G D T O S (B false):=by kernel_rfl
def BE:=S5 FA If Gp G9 E2 GI Gm
theorem Zz9:Aj PG (Qpr FA If Gp G9 E2 GI Gm):=Ap rfl ⟨Qj4,Zcq,Qdq,Qso,UP,VR,Qne,trivial⟩
theorem LE:Am PG (83,Ad Xh Yi BE):=rw1 (C:=(Qpr FA If Gp G9 E2 GI Gm)) Zz9
def Zvt (M:Fn):Nat×Spec:=(119,Ad Z8 Zv M)
def Vo (D:Fn):Cfg:=cf [My D]
def Qz9 (D:Fn):Fn:=An PG (Vo D) 64 119 Z8 Zv
theorem Zyt (L:Fn) (M N O S T U V J G:Int) (E:Rw) (D:Int):Qz9 L [I M,I N,I O,I S,I T,I U,I V,I J,I G, .view Aa E,I D]=
 bif decide (wrap .i64 ((E.length:Int)-1)<0)then
 some [I 0]
 else
 bif decide (wrap .i64 (D-J)<=0)then
 bif decide (0<=0)&&decide (0<(E.length:Int))then
 some [jA (nth [] E 0) 0]
 else
 none
 else
 bif decide (G<=0)then
 bif decide (0<=0)&&decide (0<(E.length:Int))then
 some [jA (nth [] E 0) 0]
 else
 none
 else
 bif decide (G=0)then
 none
 else
 bif decide (wrap .i64 ((wrap .i64 (D-J)).tdiv G)>=wrap .i64 ((E.length:Int)-1))then
 bif decide (0<=wrap .i64 ((E.length:Int)-1))&&decide (wrap .i64 ((E.length:Int)-1)<(E.length:Int))then
 some [jA (nth [] E (wrap .i64 ((E.length:Int)-1)).toNat) 0]
 else
 none
 else
 bif decide (0<=wrap .i64 (wrap .i64 ((wrap .i64 (D-J)).tdiv G)+1))&&decide (wrap .i64 (wrap .i64 ((wrap .i64 (D-J)).tdiv G)+1)<(E.length:Int))then
 bif decide (0<=wrap .i64 ((wrap .i64 (D-J)).tdiv G))&&decide (wrap .i64 ((wrap .i64 (D-J)).tdiv G)<(E.length:Int))then
 (L [I (wrap .i64 (Af (nth .dead (nth [] E (wrap .i64 (wrap .i64 ((wrap .i64 (D-J)).tdiv G)+1)).toNat) 0)-Af (nth .dead (nth [] E (wrap .i64 ((wrap .i64 (D-J)).tdiv G)).toNat) 0))),I (wrap .i64 (wrap .i64 (D-J)-wrap .i64 (wrap .i64 ((wrap .i64 (D-J)).tdiv G)*G))),I G,I 2]).bind λo1=>
 bif decide (0<=wrap .i64 ((wrap .i64 (D-J)).tdiv G))&&decide (wrap .i64 ((wrap .i64 (D-J)).tdiv G)<(E.length:Int))then
 some [I (wrap .i64 (Af (nth .dead (nth [] E (wrap .i64 ((wrap .i64 (D-J)).tdiv G)).toNat) 0)+gA o1 0))]
 else
 none
 else
 none
 else
 none:=by kernel_rfl
def Kr:=Qz9 BE
theorem Zne:Aj PG (Vo BE):=Ap rfl ⟨LE,trivial⟩
theorem Z0c:Am PG (119,Ad Z8 Zv Kr):=rw1 (C:=(Vo BE)) Zne
def Z74 (M:Fn):Nat×Spec:=(76,Ad Z8 Zv M)
def Wv (D E:Fn):Cfg:=cf [Z1y D,Zvt E]
def Qzn (D E:Fn):Fn:=An PG (Wv D E) 64 76 Z8 Zv
theorem Zy8 (V X:Fn) (E G J L M N O S T:Int) (U:Rw) (D:Int):Qzn V X [I E,I G,I J,I L,I M,I N,I O,I S,I T, .view Aa U,I D]=
 (X [I E,I G,I J,I L,I M,I N,I O,I S,I T, .view Aa U,I D]).bind λo2=>
 (V [I E,I G,I J,I L,I M,I N,I O,I S,I T, .view Aa U,I (wrap .i64 (D+gA o2 0))]).bind λo3=>
 some [jA o3 0]:=by kernel_rfl
def Nn:=Qzn K4 Kr
theorem Zos:Aj PG (Wv K4 Kr):=Ap rfl ⟨Zd6,Z0c,trivial⟩
theorem Zux:Am PG (76,Ad Z8 Zv Nn):=rw1 (C:=(Wv K4 Kr)) Zos
def XY:Sk:=⟨[TS.v true ([CS.sl Aq]++cc 5),tf [ci]],[],[]⟩
def Qpi (M:Fn):Nat×Spec:=(75,Ad XY Zv M)
def Zcj:Sk:=⟨[td,tf [ci],tf [CS.ptr 2 0],td,td,tf [ci],tf [ci]]++dd 29,[(2,62,[CS.sl Aq]++cc 5)],[]⟩
def Q72:List (Ex×Sk):=[(Ex.exit 0,⟨dd 6++[tf [ci]]++dd 29,[],[]⟩)]
def SJ:Lp:=AW PG Qbm 64 2 (AV PG 75 2) Zcj Q72
def Q23 (D:Lp):Cfg:=Qbm.loop 2 Zcj Q72 D
def Qz1 (D:Lp):Fn:=An PG (Q23 D) 64 75 XY Zv
theorem Qd5 (v0 E D:Int) (G:Rw) (J L M N O:Int):SJ [I v0,I E,I D, .view Aq G,I J,I L,I M,I N,I O]=
 bif decide (E<D)then
 bif decide (0<=wrap .i64 ((wrap .i64 (E+D)).tdiv 2))&&decide (wrap .i64 ((wrap .i64 (E+D)).tdiv 2)<(G.length:Int))then
 bif decide (v0<=wrap .i64 (Af (nth .dead (nth [] G (wrap .i64 ((wrap .i64 (E+D)).tdiv 2)).toNat) 0)+Af (nth .dead (nth [] G (wrap .i64 ((wrap .i64 (E+D)).tdiv 2)).toNat) 1)))then
 some (0,[I v0,I E,I (wrap .i64 ((wrap .i64 (E+D)).tdiv 2)), .view Aq G,I J,I L,I M,I N,I O])
 else
 some (0,[I v0,I (wrap .i64 (wrap .i64 ((wrap .i64 (E+D)).tdiv 2)+1)),I D, .view Aq G,I J,I L,I M,I N,I O])
 else
 none
 else
 some (1,[I D]):=by kernel_rfl
theorem Z72 (E:Lp) (D:Rw) (G J L M N O:Int):Qz1 E [.view Aq D,I G,I J,I L,I M,I N,I O]=
 (E [I O,I 0,I (wrap .i64 ((D.length:Int)-1)), .view Aq D,I G,I J,I L,I M,I N]).bind λo1=>
 bif o1.1.beq 1 then
 some [jA o1.2 0]
 else
 none:=by kernel_rfl
def Nb:=Al (SJ)
def He:=Qz1 Nb
theorem Qi1:Am PG (75,Ad XY Zv He):=rw2 (C:=(Q23 Nb)) (fl fb Zes) Zes
def Qh7:Sk:=⟨[TS.v true [ci,ci,ci,CS.sl Ah,CS.sl kPt],tf [ci]],[],[]⟩
def WN:Sk:=⟨[TS.tup [(false,[ci]),(false,[ci])]],[],[]⟩
def Qh1 (M:Fn):Nat×Spec:=(117,Ad Qh7 WN M)
def Qyp:Sk:=⟨[td,tf [ci],tf [CS.ptr 2 0]]++dd 8++[tf [CS.sl Ah],tf [ci],tf [ci]]++dd 24,[(2,58,[ci,ci,ci,CS.sl Ah,CS.sl kPt])],[]⟩
def Zch:List (Ex×Sk):=[(Ex.ret,⟨[td,td,td,td,tf [ci],tf [ci]]++dd 32,[],[]⟩),(Ex.exit 0,⟨[td]++dd 37,[],[]⟩)]
def SB:Lp:=AW PG Qbm 64 3 (AV PG 117 3) Qyp Zch
def Q8c (D:Lp):Cfg:=Qbm.loop 3 Qyp Zch D
def Qz2 (D:Lp):Fn:=An PG (Q8c D) 64 117 Qh7 WN
theorem Q8h (v0:Int) (E:Rw) (G D L M N:Int) (J O:Rw):SB [I v0, .view Ah E,I G,I D,I L,I M,I N, .view Ah J, .view kPt O]=
 bif decide (D<G)then
 bif decide (0<=D)&&decide (D<(E.length:Int))then
 bif decide (v0<gA (nth [] E D.toNat) 3)then
 some (1,[I D,I v0])
 else
 bif D==wrap .i64 ((J.length:Int)-1)then
 some (1,[I D,jA (nth [] E D.toNat) 3])
 else
 some (0,[I (wrap .i64 (v0-gA (nth [] E D.toNat) 3)), .view Ah E,I G,I (wrap .i64 (D+1)),I L,I M,I N, .view Ah J, .view kPt O])
 else
 none
 else
 some (2,[]):=by kernel_rfl
theorem Qv8 (E:Lp) (G J L:Int) (D M:Rw) (N:Int):Qz2 E [I G,I J,I L, .view Ah D, .view kPt M,I N]=
 (E [I (mx N 0), .view Ah D,I (D.length:Int),I 0,I G,I J,I L, .view Ah D, .view kPt M]).bind λo1=>
 bif o1.1.beq 1 then
 some [jA o1.2 0,jA o1.2 1]
 else
 bif o1.1.beq 2 then
 some [I (-1),I 0]
 else
 none:=by kernel_rfl
def NG:=Al (SB)
def Fc:=Qz2 NG
theorem Zr:Am PG (117,Ad Qh7 WN Fc):=rw2 (C:=(Q8c NG)) (fl fb Zes) Zes
def Qah:Sk:=⟨[TS.v true [ci,ci,ci]],[],[]⟩
def Z88 (M:Fn):Nat×Spec:=(74,Ad Qh7 Qah M)
def XG (D E:Fn):Cfg:={cf [My D,Qh1 E]with unroll:=[9]}
def Qce (D E:Fn):Fn:=An PG (XG D E) 64 74 Qh7 Qah
theorem Zpf (AL DP:Fn) (G J L:Int) (E T:Rw) (U:Int):Qce AL DP [I G,I J,I L, .view Ah E, .view kPt T,I U]=
 (DP [I G,I J,I L, .view Ah E, .view kPt T,I U]).bind λD=>
 bif decide (gA D 0<0)then
 some [I G,I J,I L]
 else
 bif decide (gA D 0>0)then
 bif decide (0<=wrap .i64 (gA D 0-1))&&decide (wrap .i64 (gA D 0-1)<(E.length:Int))then
 bif decide (0<=gA D 0)&&decide (gA D 0<(E.length:Int))then
 (AL [I (wrap .i64 (gA (nth [] E (gA D 0).toNat) 0-gA (nth [] E (wrap .i64 (gA D 0-1)).toNat) 0)),jA D 1,jA (nth [] E (gA D 0).toNat) 3,I 2]).bind λV=>
 (AL [I (wrap .i64 (gA (nth [] E (gA D 0).toNat) 1-gA (nth [] E (wrap .i64 (gA D 0-1)).toNat) 1)),jA D 1,jA (nth [] E (gA D 0).toNat) 3,I 2]).bind λX=>
 (AL [I (wrap .i64 (gA (nth [] E (gA D 0).toNat) 2-gA (nth [] E (wrap .i64 (gA D 0-1)).toNat) 2)),jA D 1,jA (nth [] E (gA D 0).toNat) 3,I 2]).bind λM=>
 some [I (wrap .i64 (gA (nth [] E (wrap .i64 (gA D 0-1)).toNat) 0+gA V 0)),I (wrap .i64 (gA (nth [] E (wrap .i64 (gA D 0-1)).toNat) 1+gA X 0)),I (wrap .i64 (gA (nth [] E (wrap .i64 (gA D 0-1)).toNat) 2+gA M 0))]
 else
 none
 else
 none
 else
 bif decide (0<=gA D 0)&&decide (gA D 0<(E.length:Int))then
 (AL [I (wrap .i64 (gA (nth [] E (gA D 0).toNat) 0-G)),jA D 1,jA (nth [] E (gA D 0).toNat) 3,I 2]).bind λN=>
 (AL [I (wrap .i64 (gA (nth [] E (gA D 0).toNat) 1-J)),jA D 1,jA (nth [] E (gA D 0).toNat) 3,I 2]).bind λO=>
 (AL [I (wrap .i64 (gA (nth [] E (gA D 0).toNat) 2-L)),jA D 1,jA (nth [] E (gA D 0).toNat) 3,I 2]).bind λS=>
 some [I (wrap .i64 (G+gA N 0)),I (wrap .i64 (J+gA O 0)),I (wrap .i64 (L+gA S 0))]
 else
 none:=by kernel_rfl
def Rx:=Qce BE Fc
theorem Zls:Aj PG (XG BE Fc):=Ap rfl ⟨LE,Zr,trivial⟩
theorem Zhq:Am PG (74,Ad Qh7 Qah Rx):=rw1 (C:=(XG BE Fc)) Zls
def UV (M:Fn):Nat×Spec:=(73,Ad Za Zv M)
def Zbw:Fn:=An PG Qbm 64 73 Za Zv
theorem Zq4 (D E:Int):Zbw [I D,I E]=
 some [I (mx 0 (mn D E))]:=by kernel_rfl
def FX:=Zbw
theorem SP:Am PG (73,Ad Za Zv FX):=rw1 (C:=Qbm) Zes
def Q1 (M:Fn):Nat×Spec:=(36,Ad XY Zv M)
def Qr0 (D E:Fn):Cfg:=cf [Qpi D,UV E]
def Qml (D E:Fn):Fn:=An PG (Qr0 D E) 64 36 XY Zv
theorem Zsm (J L:Fn) (D:Rw) (E G M N O S:Int):Qml J L [.view Aq D,I E,I G,I M,I N,I O,I S]=
 (L [I S,I E]).bind λo2=>
 (J [.view Aq D,I E,I G,I M,I N,I O,jA o2 0]).bind λo3=>
 bif decide (gA o3 0<0)then
 some [I G]
 else
 bif decide (0<=gA o3 0)&&decide (gA o3 0<(D.length:Int))then
 bif decide (0<=gA o3 0)&&decide (gA o3 0<(D.length:Int))then
 bif decide (0<=gA o3 0)&&decide (gA o3 0<(D.length:Int))then
 some [I (wrap .i64 (gA (nth [] D (gA o3 0).toNat) 2+wrap .i64 (gA (nth [] D (gA o3 0).toNat) 3*wrap .i64 (gA o2 0-gA (nth [] D (gA o3 0).toNat) 0))))]
 else
 none
 else
 none
 else
 none:=by kernel_rfl
def En:=Qml He FX
theorem Z19:Aj PG (Qr0 He FX):=Ap rfl ⟨Qi1,SP,trivial⟩
theorem Rd:Am PG (36,Ad XY Zv En):=rw1 (C:=(Qr0 He FX)) Z19
def W0:Sk:=⟨[TS.v true [ci,ci,ci,CS.sl Ah,CS.sl kPt],TS.v true (cc 9++[CS.sl Aa]++cc 9++[CS.sl Aa]++cc 9++[CS.sl Aa]),TS.v true ([CS.sl Aq]++cc 5),tf [ci]],[],[]⟩
def SF (M:Fn):Nat×Spec:=(29,Ad W0 Qah M)
def Qhj (D E G I J L M:Fn):Cfg:={cf [Z8u D,Q9h E,Z74 G,Qpi I,Z88 J,Q1 L,UV M]with unroll:=[6]}
def Qc9 (D E G I J L M:Fn):Fn:=An PG (Qhj D E G I J L M) 64 29 W0 Qah
abbrev W1 (S:Fn) (x:Ax3) (L D:List AC) (T:Fn) (t:Trk) (E:AC) (U:Fn) (M:List AC) (G:AC):Option (List AC):=
 (S [I x.c.step,I x.c.speed,I x.c.accel,I x.c.jerk,I x.c.low,I x.c.high,I x.c.back,I x.c.origin,I x.c.spacing, .view Aa (x.c.pitch.map Ao),jA L 2]).bind λJ=>
 bif decide (gA D 0<0)then
 (T [I x.c.step,I x.c.speed,I x.c.accel,I x.c.jerk,I x.c.low,I x.c.high,I x.c.back,I x.c.origin,I x.c.spacing, .view Aa (x.c.pitch.map Ao),I t.dirs.z]).bind λN=>
 some [E,G,I (wrap .i64 (gA J 0+gA N 0))]
 else
 bif decide (0<=gA D 0)&&decide (gA D 0<((t.aD.map AI).length:Int))then
 (U (I x.c.step::I x.c.speed::I x.c.accel::I x.c.jerk::I x.c.low::I x.c.high::I x.c.back::I x.c.origin::I x.c.spacing:: .view Aa (x.c.pitch.map Ao)::(AT Aq (nth [] (t.aD.map AI) (gA D 0).toNat)++[I (wrap .i64 (wrap .i64 (0+1)+1)),jA M 0]))).bind λO=>
 some [E,G,I (wrap .i64 (gA J 0+gA O 0))]
 else
 none
abbrev Zb (M:Fn) (x:Ax3) (G D:List AC) (N:Fn) (t:Trk) (O:Fn) (J:List AC) (E:AC):Option (List AC):=
 (M [I x.b.step,I x.b.speed,I x.b.accel,I x.b.jerk,I x.b.low,I x.b.high,I x.b.back,I x.b.origin,I x.b.spacing, .view Aa (x.b.pitch.map Ao),jA G 1]).bind λL=>
 bif decide (gA D 0<0)then
 (N [I x.b.step,I x.b.speed,I x.b.accel,I x.b.jerk,I x.b.low,I x.b.high,I x.b.back,I x.b.origin,I x.b.spacing, .view Aa (x.b.pitch.map Ao),I t.dirs.y]).bind λS=>
 W1 M x G D N t E O J (I (wrap .i64 (gA L 0+gA S 0)))
 else
 bif decide (0<=gA D 0)&&decide (gA D 0<((t.aD.map AI).length:Int))then
 (O (I x.b.step::I x.b.speed::I x.b.accel::I x.b.jerk::I x.b.low::I x.b.high::I x.b.back::I x.b.origin::I x.b.spacing:: .view Aa (x.b.pitch.map Ao)::(AT Aq (nth [] (t.aD.map AI) (gA D 0).toNat)++[I (wrap .i64 (0+1)),jA J 0]))).bind λT=>
 W1 M x G D N t E O J (I (wrap .i64 (gA L 0+gA T 0)))
 else
 none
theorem Z6n (M N O V X Y CD:Fn) (J:Int) (p:Pth) (x:Ax3) (t:Trk):Qc9 M N O V X Y CD (pxt p x t [I J])=
 (CD [I J,I t.length]).bind λE=>
 (Y [.view Aq (t.aD.map AI),I t.length,I t.start,I t.dirs.x,I t.dirs.y,I t.dirs.z,jA E 0]).bind λS=>
 (X [I p.start.x,I p.start.y,I p.start.z, .view Ah (p.aE.map Av), .view kPt (p.aC.map At),jA S 0]).bind λG=>
 (V [.view Aq (t.aD.map AI),I t.length,I t.start,I t.dirs.x,I t.dirs.y,I t.dirs.z,jA E 0]).bind λD=>
 (O [I x.a.step,I x.a.speed,I x.a.accel,I x.a.jerk,I x.a.low,I x.a.high,I x.a.back,I x.a.origin,I x.a.spacing, .view Aa (x.a.pitch.map Ao),jA G 0]).bind λL=>
 bif decide (gA D 0<0)then
 (N [I x.a.step,I x.a.speed,I x.a.accel,I x.a.jerk,I x.a.low,I x.a.high,I x.a.back,I x.a.origin,I x.a.spacing, .view Aa (x.a.pitch.map Ao),I t.dirs.x]).bind λT=>
 Zb O x G D N t M E (I (wrap .i64 (gA L 0+gA T 0)))
 else
 bif decide (0<=gA D 0)&&decide (gA D 0<((t.aD.map AI).length:Int))then
 (M (I x.a.step::I x.a.speed::I x.a.accel::I x.a.jerk::I x.a.low::I x.a.high::I x.a.back::I x.a.origin::I x.a.spacing:: .view Aa (x.a.pitch.map Ao)::(AT Aq (nth [] (t.aD.map AI) (gA D 0).toNat)++[I 0,jA E 0]))).bind λU=>
 Zb O x G D N t M E (I (wrap .i64 (gA L 0+gA U 0)))
 else
 none:=by kernel_rfl
def Et:=Qc9 Sn JZ Nn He Rx En FX
theorem Z1w:Aj PG (Qhj Sn JZ Nn He Rx En FX):=Ap rfl ⟨Zvy,Q2h,Zux,Qi1,Zhq,Rd,SP,trivial⟩
theorem UD:Am PG (29,Ad W0 Qah Et):=rw1 (C:=(Qhj Sn JZ Nn He Rx En FX)) Z1w
def Qcw:Sk:=⟨[tf [ci],TS.v true (cc 13++[CS.bool,ci,CS.bool]++cc 5++[CS.bool])],[],[]⟩
def Zgr (M:Fn):Nat×Spec:=(164,Ad Qcw Zv M)
def UF:Fn:=An PG Qbm 64 164 Qcw Zv
theorem Zcb (E x1 x2 x3 x4 x5 x6 x7 x8 x9 J L M N:Int) (O:Bool) (S:Int) (T:Bool) (U V X D Y:Int) (G:Bool):UF [I E,I x1,I x2,I x3,I x4,I x5,I x6,I x7,I x8,I x9,I J,I L,I M,I N,B O,I S,B T,I U,I V,I X,I D,I Y,B G]=
 bif x1 !=10 then
 some [I E]
 else
 bif decide (D<0)then
 some [I E]
 else
 bif decide (D>=16)then
 some [I E]
 else
 bif decide (wrap .u64 D<0)then
 none
 else
 bif G then
 some [I (wrap .i64 (↑(BitVec.ofInt IntKind.i64.bits E|||BitVec.ofInt IntKind.i64.bits (wrap .i64 (1*2^min (wrap .u64 D).toNat IntKind.i64.bits))).toNat:Int))]
 else
 some [I (wrap .i64 (↑(BitVec.ofInt IntKind.i64.bits E&&& ~~~BitVec.ofInt IntKind.i64.bits (wrap .i64 (1*2^min (wrap .u64 D).toNat IntKind.i64.bits))).toNat:Int))]:=by kernel_rfl
def JB:=UF
theorem Z63:Am PG (164,Ad Qcw Zv JB):=rw1 (C:=Qbm) Zes
def Qjh:Sk:=⟨[TS.v true [ci,ci,ci],TS.v true [ci,ci,CS.bool,CS.bool,CS.bool]],[],[]⟩
def Qx7 (M:Fn):Nat×Spec:=(163,Ad Qjh Qpq M)
def Ql9:Fn:=An PG Qbm 64 163 Qjh Qpq
theorem Z64 (J D L M N:Int) (O E G:Bool):Ql9 [I J,I D,I L,I M,I N,B O,B E,B G]=
 bif D==1 then
 some [B true]
 else
 bif D==3 then
 some [B true]
 else
 bif D==6 then
 some [B true]
 else
 bif D==4 then
 bif G then
 some [B true]
 else
 some [B E]
 else
 bif D==2 then
 some [B E]
 else
 some [B false]:=by kernel_rfl
def I1:=Ql9
theorem Qw0:Am PG (163,Ad Qjh Qpq I1):=rw1 (C:=Qbm) Zes
def Qdd:Sk:=⟨[tf [CS.ptr 20000 0],tf [ci]],[(20000,119,cS)],[]⟩
def YS:Sk:=⟨[tf [CS.sl Aa]],[(20000,119,cS)],[]⟩
def Zyk (M:Fn):Nat×Spec:=(111,Ad Qdd YS M)
def Qqk (D E:Fn):Cfg:={cf [Zgr D,Qx7 E]with prom:=λb=>bif Nat.beq b 2 then [(5,3)]else []}
def Qtb:Sk:=⟨[tf [CS.ptr 20000 0],tf [ci],td,td,td,tf [CS.own 5 1]]++dd 84,[(20000,119,cS)],[(5,3,Aa)]⟩
def Q8e:List (Ex×Sk):=[(Ex.exit 0,⟨[td,td,td,td,td,tf [CS.own 5 1]]++dd 84,[(20000,119,cS)],[(5,3,Aa)]⟩)]
def R3 (D E:Fn):Lp:=AW PG (Qqk D E) 64 2 (AV PG 111 2) Qtb Q8e
def Qt3 (D E:Fn) (G:Lp):Cfg:=(Qqk D E).loop 2 Qtb Q8e G
def Qpy (D E:Fn) (G:Lp):Fn:=An PG (Qt3 D E G) 64 111 Qdd YS
abbrev Pn (K:Kf) (c:Cv) (v0:Rw) (G:Fn) (E:Int):Option (Nat×List AC):=
 bif gA (nth [] (K.p.aC.map At) c.aJ.toNat) 1==5 then
 bif((v0++[[jA (nth [] (K.p.aC.map At) c.aJ.toNat) 2]]).length*8).ble 140737488355328 then
 bif decide (0<=gA (nth [] (K.p.aC.map At) c.aJ.toNat) 2)&&decide (gA (nth [] (K.p.aC.map At) c.aJ.toNat) 2<((K.items.map Ag).length:Int))then
 (G (I c.outs::AT Ai (nth [] (K.items.map Ag) (gA (nth [] (K.p.aC.map At) c.aJ.toNat) 2).toNat))).bind λD=>
 some (0,(.view Aa (v0++[[jA (nth [] (K.p.aC.map At) c.aJ.toNat) 2]])::I E::Ab K {c with outs:=gA D 0,aJ:=wrap .i64 (c.aJ+1)}))
 else
 none
 else
 none
 else
 some (0,(.view Aa v0::I E::Ab K {c with aJ:=wrap .i64 (c.aJ+1)}))
theorem Zot (E G:Fn) (v0:Rw) (D:Int) (K:Kf) (c:Cv):R3 E G (.view Aa v0::I D::Ab K c)=
 bif decide (c.aJ<((K.p.aC.map At).length:Int))then
 bif decide (0<=c.aJ)&&decide (c.aJ<((K.p.aC.map At).length:Int))then
 bif decide (gA (nth [] (K.p.aC.map At) c.aJ.toNat) 0>D)then
 some (1,(.view Aa v0::Ab K c))
 else
 bif gA (nth [] (K.p.aC.map At) c.aJ.toNat) 0==D then
 bif decide (c.aJ>=c.next)then
 (G [jA (nth [] (K.p.aC.map At) c.aJ.toNat) 0,jA (nth [] (K.p.aC.map At) c.aJ.toNat) 1,jA (nth [] (K.p.aC.map At) c.aJ.toNat) 2,I c.o0,I c.o1,B c.o2,B c.o3,B c.o4]).bind λJ=>
 bif bA J 0 then
 some (1,(.view Aa v0::Ab K c))
 else
 Pn K c v0 E D
 else
 Pn K c v0 E D
 else
 Pn K c v0 E D
 else
 none
 else
 some (1,(.view Aa v0::Ab K c)):=by kernel_rfl
theorem Z9h (J L:Fn) (E:Lp) (G:Int) (K:Kf) (c:Cv):Qpy J L E (I G::Ab K c)=
 (E (.view Aa []::I G::Ab K c)).bind λD=>
 bif D.1.beq 1 then
 some (.view Aa (wA D.2 0)::cR 1 D.2)
 else
 none:=by kernel_rfl
def Q3t:=Al (R3 JB I1)
def Nw:=Qpy JB I1 Q3t
theorem Q1g:Aj PG (Qqk JB I1):=Ap rfl ⟨Z63,Qw0,trivial⟩
theorem Z7e:Am PG (111,Ad Qdd YS Nw):=rw2 (C:=(Qt3 JB I1 Q3t)) (fl fb Q1g) Q1g
def Qka:Sk:=⟨[TS.v true [ci,ci,ci,CS.sl Ah,CS.sl kPt],TS.v true (cc 9++[CS.sl Aa]++cc 9++[CS.sl Aa]++cc 9++[CS.sl Aa]),TS.v true ([CS.sl Aq]++cc 5),tf [ci],tf [ci]],[],[]⟩
def Qai:Sk:=⟨[tf [CS.sl kPt]],[],[]⟩
def Zds (M:Fn):Nat×Spec:=(25,Ad Qka Qai M)
def Qhb (D:Fn):Cfg:={cf [SF D]with prom:=λb=>bif Nat.beq b 5 then [(11,130)]else [],unroll:=[9]}
def Qyu:Sk:=⟨[td,td,td,td,tf [ci],tf [CS.ptr 5 0],tf [CS.ptr 6 0],tf [CS.ptr 7 0],td,td,td,tf [CS.own 11 3],tf [CS.ptr 12 0],tf [ci]]++dd 54,[(5,58,[ci,ci,ci,CS.sl Ah,CS.sl kPt]),(6,27,cc 9++[CS.sl Aa]++cc 9++[CS.sl Aa]++cc 9++[CS.sl Aa]),(7,62,[CS.sl Aq]++cc 5),(12,44,[ci,ci,ci])],[(11,130,kPt)]⟩
def Q82:List (Ex×Sk):=[(Ex.exit 0,⟨dd 11++[tf [CS.own 11 3]]++dd 56,[],[(11,130,kPt)]⟩)]
def Qm1 (D:Fn):Lp:=AW PG (Qhb D) 64 5 (AV PG 25 5) Qyu Q82
def Qwq (D:Fn) (E:Lp):Cfg:=(Qhb D).loop 5 Qyu Q82 E
def XN (D:Fn) (E:Lp):Fn:=An PG (Qwq D E) 64 25 Qka Qai
abbrev OV (D:List AC) (v46 L M:Int) (p:Pth) (x:Ax3) (t:Trk) (E:Bool) (G J:AC):Option (Nat×List AC):=
 bif gA D 2 !=v46 then
 bif E then
 some (0,(G::I L::I (wrap .i64 (M+1))::pxt p x t [jA D 0,jA D 1,jA D 2]))
 else
 none
 else
 some (0,(J::I L::I (wrap .i64 (M+1))::pxt p x t [jA D 0,jA D 1,jA D 2]))
theorem Z8k (L:Fn) (v0:Rw) (J D:Int) (v44 G v46:Int) (p:Pth) (x:Ax3) (t:Trk):Qm1 L (.view kPt v0::I J::I D::pxt p x t [I v44,I G,I v46])=
 bif decide (D<J)then
 (L (pxt p x t [I (wrap .i64 (D+1))])).bind λE=>
 bif gA E 0 !=v44 then
 bif((v0++[[I (wrap .i64 (D+1)),I 0,I (wrap .i64 (gA E 0-v44))]]).length*24).ble 140737488355328 then
 bif gA E 1 !=G then
 bif((v0++[[I (wrap .i64 (D+1)),I 0,I (wrap .i64 (gA E 0-v44))]]++[[I (wrap .i64 (D+1)),I (wrap .i64 (0+1)),I (wrap .i64 (gA E 1-G))]]).length*24).ble 140737488355328 then
 OV E v46 J D p x t (((v0++[[I (wrap .i64 (D+1)),I 0,I (wrap .i64 (gA E 0-v44))]]++[[I (wrap .i64 (D+1)),I (wrap .i64 (0+1)),I (wrap .i64 (gA E 1-G))]]++[[I (wrap .i64 (D+1)),I (wrap .i64 (wrap .i64 (0+1)+1)),I (wrap .i64 (gA E 2-v46))]]).length*24).ble 140737488355328) (.view kPt (v0++[[I (wrap .i64 (D+1)),I 0,I (wrap .i64 (gA E 0-v44))]]++[[I (wrap .i64 (D+1)),I (wrap .i64 (0+1)),I (wrap .i64 (gA E 1-G))]]++[[I (wrap .i64 (D+1)),I (wrap .i64 (wrap .i64 (0+1)+1)),I (wrap .i64 (gA E 2-v46))]])) (.view kPt (v0++[[I (wrap .i64 (D+1)),I 0,I (wrap .i64 (gA E 0-v44))]]++[[I (wrap .i64 (D+1)),I (wrap .i64 (0+1)),I (wrap .i64 (gA E 1-G))]]))
 else
 none
 else
 OV E v46 J D p x t (((v0++[[I (wrap .i64 (D+1)),I 0,I (wrap .i64 (gA E 0-v44))]]++[[I (wrap .i64 (D+1)),I (wrap .i64 (wrap .i64 (0+1)+1)),I (wrap .i64 (gA E 2-v46))]]).length*24).ble 140737488355328) (.view kPt (v0++[[I (wrap .i64 (D+1)),I 0,I (wrap .i64 (gA E 0-v44))]]++[[I (wrap .i64 (D+1)),I (wrap .i64 (wrap .i64 (0+1)+1)),I (wrap .i64 (gA E 2-v46))]])) (.view kPt (v0++[[I (wrap .i64 (D+1)),I 0,I (wrap .i64 (gA E 0-v44))]]))
 else
 none
 else
 bif gA E 1 !=G then
 bif((v0++[[I (wrap .i64 (D+1)),I (wrap .i64 (0+1)),I (wrap .i64 (gA E 1-G))]]).length*24).ble 140737488355328 then
 OV E v46 J D p x t (((v0++[[I (wrap .i64 (D+1)),I (wrap .i64 (0+1)),I (wrap .i64 (gA E 1-G))]]++[[I (wrap .i64 (D+1)),I (wrap .i64 (wrap .i64 (0+1)+1)),I (wrap .i64 (gA E 2-v46))]]).length*24).ble 140737488355328) (.view kPt (v0++[[I (wrap .i64 (D+1)),I (wrap .i64 (0+1)),I (wrap .i64 (gA E 1-G))]]++[[I (wrap .i64 (D+1)),I (wrap .i64 (wrap .i64 (0+1)+1)),I (wrap .i64 (gA E 2-v46))]])) (.view kPt (v0++[[I (wrap .i64 (D+1)),I (wrap .i64 (0+1)),I (wrap .i64 (gA E 1-G))]]))
 else
 none
 else
 OV E v46 J D p x t (((v0++[[I (wrap .i64 (D+1)),I (wrap .i64 (wrap .i64 (0+1)+1)),I (wrap .i64 (gA E 2-v46))]]).length*24).ble 140737488355328) (.view kPt (v0++[[I (wrap .i64 (D+1)),I (wrap .i64 (wrap .i64 (0+1)+1)),I (wrap .i64 (gA E 2-v46))]])) (.view kPt v0)
 else
 some (1,[.view kPt v0]):=by kernel_rfl
theorem Zr3 (J:Fn) (L:Lp) (D E:Int) (p:Pth) (x:Ax3) (t:Trk):XN J L (pxt p x t [I D,I E])=
 (J (pxt p x t [I (mx 0 (mn D t.length))])).bind λG=>
 (L (.view kPt []::I (mx 0 (mn E t.length))::I (mx 0 (mn D t.length))::pxt p x t [jA G 0,jA G 1,jA G 2])).bind λM=>
 bif M.1.beq 1 then
 some [.view kPt (wA M.2 0)]
 else
 none:=by kernel_rfl
def Qww:=Al (Qm1 Et)
def Kj:=XN Et Qww
theorem Za0:Aj PG (Qhb Et):=Ap rfl ⟨UD,trivial⟩
theorem Zfd:Am PG (25,Ad Qka Qai Kj):=rw2 (C:=(Qwq Et Qww)) (fl fb Za0) Za0
def Qn5:Sk:=⟨[tf [CS.ptr 20000 0]],[(20000,119,cS)],[]⟩
def Qd (M:Fn):Nat×Spec:=(63,EW Qn5 Zv M)
def Qil:Fn:=LV PG Qbm 64 63 Qn5 Zv
theorem Zud (K:Kf) (c:Cv):Qil (Ab K c)=
 some [I (wrap .i64 (c.m0.tdiv 256))]:=by kernel_rfl
def Dj:=Qil
theorem Zmi (vars:List AC) (R:Type) (K:TV->Mem->Option R):Ff PG Qbm 64 63 [TV.v false [AC.ptr 20000 0]] ⟨[(20000,(⟨119,(cR 0 vars)⟩:Box))],[]⟩ K=Ff PG Qbm 64 63 [TV.v false [AC.ptr 20000 0]] ⟨[(20000,(⟨119,(cR 0 vars)⟩:Box))],[]⟩ (λv _=>K v ⟨[(20000,(⟨119,(cR 0 vars)⟩:Box))],[]⟩):=Eq.trans (b:=(K (TV.v false [I (wrap .i64 ((gA vars 50).tdiv 256))]) ⟨[(20000,(⟨119,(cR 0 vars)⟩:Box))],[]⟩)) (by kernel_rfl) (Eq.symm (by kernel_rfl))
theorem Qh:Am PG (63,EW Qn5 Zv Dj):=Qc (C:=Qbm) (L:=64) (by kernel_rfl) (FnOK.bare rfl rfl rfl) Zes eqOk F1 (by kernel_rfl) (by kernel_rfl) (λvars R K=>Zmi vars R K)
def Pi (M:Fn):Nat×Spec:=(110,EW Qn5 Zv M)
def P5 (D E:Fn):Cfg:=cr [Q1 D,Qd E] [63] [63]
def Zm (D E:Fn):Fn:=LV PG (P5 D E) 64 110 Qn5 Zv
theorem Z1l (D E:Fn) (K:Kf) (c:Cv):Zm D E (Ab K c)=
 (E (Ab K c)).bind λo2=>
 (D (A8 K.t++[jA o2 0])).bind λo3=>
 some [jA o3 0]:=by kernel_rfl
def Dk:=Zm En Dj
theorem Zjt:Aj PG (P5 En Dj):=Hb (rs:=[63]) rfl ⟨Rd,Qh,trivial⟩ rfl (CA rfl (Fg Hs))
theorem Zhe (vars : List AC) (R : Type) (K : TV -> Mem -> Option R) : Ff PG (P5 En Dj) 64 110 [TV.v false [AC.ptr 20000 0]] ⟨[(20000, (⟨119, (cR 0 vars)⟩ : Box))], []⟩ K = Ff PG (P5 En Dj) 64 110 [TV.v false [AC.ptr 20000 0]] ⟨[(20000, (⟨119, (cR 0 vars)⟩ : Box))], []⟩ (λv _ => K v ⟨[(20000, (⟨119, (cR 0 vars)⟩ : Box))], []⟩) := Eq.trans (b := ((Dj (cR 0 vars)).bind λo2 =>
 (En [.view Aq (wA vars 44),jA vars 45,jA vars 46,jA vars 47,jA vars 48,jA vars 49,jA o2 0]).bind λo3=>
 K (TV.v false [jA o3 0]) ⟨[(20000,(⟨119,(cR 0 vars)⟩:Box))],[]⟩)) (by kernel_rfl) (Eq.symm (by kernel_rfl))
theorem PF:Am PG (110,EW Qn5 Zv Dk):=Qc (C:=(P5 En Dj)) (L:=64) (by kernel_rfl) (FnOK.bare rfl rfl rfl) Zjt eqOk F1 (by kernel_rfl) (by kernel_rfl) (λvars R K=>Zhe vars R K)
def Qks:Sk:=⟨[tf [CS.ptr 20000 0],tf [CS.ptr 20001 0],tf [ci]],[(20000,119,cS),(20001,46,[CS.sl kPt,CS.sl Aa]++cc 7)],[]⟩
def Qi5:Sk:=⟨[TS.tup []],[(20000,119,cS),(20001,46,[CS.sl kPt,CS.sl Aa]++cc 7)],[]⟩
def Zvi (M:Fn):Nat×Spec:=(71,Ad Qks Qi5 M)
def Qcc (D E G I J:Fn):Cfg:=cr [SF D,Zyk E,Zds G,Pi I,Qd J] [111,110,63] [110,63]
def R1 (D E G I J:Fn):Fn:=An PG (Qcc D E G I J) 64 71 Qks Qi5
abbrev RP (c:Cv) (T:Fn) (G:List AC) (K:Kf) (O:Fn) (S:List AC) (M:Int) (N:Rw) (E:AC):Option (List AC):=
 bif c.way==0 then
 (T (jA G 0::Ab K c)).bind λD=>
 (O [jA D 38,jA D 39,jA D 40, .view Ah (wA D 41), .view kPt (wA D 42),jA D 1,jA D 2,jA D 3,jA D 4,jA D 5,jA D 6,jA D 7,jA D 8,jA D 9, .view Aa (wA D 10),jA D 11,jA D 12,jA D 13,jA D 14,jA D 15,jA D 16,jA D 17,jA D 18,jA D 19, .view Aa (wA D 20),jA D 21,jA D 22,jA D 23,jA D 24,jA D 25,jA D 26,jA D 27,jA D 28,jA D 29, .view Aa (wA D 30), .view Aq (wA D 45),jA D 46,jA D 47,jA D 48,jA D 49,jA D 50,jA S 0]).bind λJ=>
 some (cR 1 D++[E, .view Aa (wA D 0),I M,jA G 0,jA J 0,jA J 1,jA J 2,jA D 68,jA D 63])
 else
 (O (pxt K.p K.x K.t [jA S 0])).bind λL=>
 some (Ab K c++[E, .view Aa N,I M,jA G 0,jA L 0,jA L 1,jA L 2,I c.s3,I c.g1])
theorem Q5g (L M OT Bt A5:Fn) (x0:Int) (G D:Rw) (E N O S T U V:Int) (K:Kf) (c:Cv):R1 L M OT Bt A5 (I x0::(Ab K c++[.view kPt G, .view Aa D,I E,I N,I O,I S,I T,I U,I V]))=
 (A5 (Ab K c)).bind λX=>
 (Bt (Ab K c)).bind λJ=>
 bif !c.aK then
 (OT (pxt K.p K.x K.t [I x0,jA X 0])).bind λY=>
 RP c M J K L X E D (.view kPt (wA Y 0))
 else
 RP c M J K L X E D (.view kPt G):=by kernel_rfl
def Li:=R1 Et Nw Kj Dk Dj
theorem Zou:Aj PG (Qcc Et Nw Kj Dk Dj):=Hb (rs:=[110,63]) rfl ⟨UD,Z7e,Zfd,PF,Qh,trivial⟩ rfl (CA rfl (CA rfl (CA rfl (Fg (Fg Hs)))))
theorem Zgh:Am PG (71,Ad Qks Qi5 Li):=rw1 (C:=(Qcc Et Nw Kj Dk Dj)) Zou
def Qll:Sk:=⟨[TS.tup []],[(20000,119,cS)],[]⟩
def Yy (M:Fn):Nat×Spec:=(108,Ad Qn5 Qll M)
def Qp4:Fn:=An PG Qbm 64 108 Qn5 Qll
theorem Zmm (K:Kf) (c:Cv):Qp4 (Ab K c)=
 bif c.g0==0 then
 some (Ab K {c with o2:=true,g0:=1,g1:=18,g2:= -1})
 else
 some (Ab K c):=by kernel_rfl
def G_:=Qp4
theorem Qo7:Am PG (108,Ad Qn5 Qll G_):=rw1 (C:=Qbm) Zes
def Qhr:Sk:=⟨[TS.v true [ci,ci,ci],tf [ci]],[],[]⟩
def Qvf (M:Fn):Nat×Spec:=(174,Ad Qhr Zv M)
def Ut:Fn:=An PG Qbm 64 174 Qhr Zv
theorem Qdm (G D J E:Int):Ut [I G,I D,I J,I E]=
 bif decide (E<=0)then
 some [I 0]
 else
 bif decide (D<=0)then
 some [I 0]
 else
 bif decide (D=0)then
 none
 else
 some [I (wrap .i64 (wrap .i64 (wrap .i64 ((wrap .i64 (E-1)).tdiv D)*E)-wrap .i64 (D*wrap .i64 ((wrap .i64 (wrap .i64 ((wrap .i64 (E-1)).tdiv D)*wrap .i64 (wrap .i64 ((wrap .i64 (E-1)).tdiv D)+1))).tdiv 2))))]:=by kernel_rfl
def G4:=Ut
theorem Q1d:Am PG (174,Ad Qhr Zv G4):=rw1 (C:=Qbm) Zes
def YA (M:Fn):Nat×Spec:=(87,Ad Qah Qpq M)
def Q1i:Fn:=An PG Qbm 64 87 Qah Qpq
theorem Z7i (D E G:Int):Q1i [I D,I E,I G]=
 bif decide (1<=D)then
 bif decide (D<=65536)then
 bif decide (2<=E)then
 bif decide (E<=65536)then
 bif decide (1<=G)then
 some [B (decide (G<=16777216))]
 else
 some [B false]
 else
 some [B false]
 else
 some [B false]
 else
 some [B false]
 else
 some [B false]:=by kernel_rfl
def FD:=Q1i
theorem Qop:Am PG (87,Ad Qah Qpq FD):=rw1 (C:=Qbm) Zes
def Qe5:Sk:=⟨[TS.v true [ci,ci,ci],tf [ci],tf [ci]],[],[]⟩
def ZO (M:Fn):Nat×Spec:=(129,Ad Qe5 Zv M)
def Qbs (D E:Fn):Cfg:=cf [Qvf D,YA E]
def Q25:Sk:=⟨[td,tf [ci],td,tf [CS.ptr 3 0],td,td,td,tf [ci],tf [ci]]++dd 49,[(3,29,[ci,ci,ci])],[]⟩
def Qzu:List (Ex×Sk):=[(Ex.exit 0,⟨dd 7++[tf [ci]]++dd 50,[],[]⟩)]
def Ng (D E:Fn):Lp:=AW PG (Qbs D E) 64 4 (AV PG 129 4) Q25 Qzu
def Q5a (D E:Fn) (G:Lp):Cfg:=(Qbs D E).loop 4 Q25 Qzu G
def S8 (D E:Fn) (G:Lp):Fn:=An PG (Q5a D E G) 64 129 Qe5 Zv
theorem XF (M N:Fn) (v0 E D G J L:Int):Ng M N [I v0,I E,I D,I G,I J,I L]=
 bif decide (E<D)then
 (M [I G,I J,I L,I (wrap .i64 (D-wrap .i64 ((wrap .i64 (D-E)).tdiv 2)))]).bind λo4=>
 bif decide (wrap .i64 (v0-wrap .i64 (D-wrap .i64 ((wrap .i64 (D-E)).tdiv 2)))>=gA o4 0)then
 some (0,[I v0,I (wrap .i64 (D-wrap .i64 ((wrap .i64 (D-E)).tdiv 2))),I D,I G,I J,I L])
 else
 some (0,[I v0,I E,I (wrap .i64 (wrap .i64 (D-wrap .i64 ((wrap .i64 (D-E)).tdiv 2))-1)),I G,I J,I L])
 else
 some (1,[I E]):=by kernel_rfl
theorem Zan (S M:Fn) (N:Lp) (G D L J E:Int):S8 S M N [I G,I D,I L,I J,I E]=
 (M [I G,I D,I L]).bind λT=>
 bif !bA T 0 then
 some [I 0]
 else
 bif decide (mx E J>1099511627776)then
 some [I 0]
 else
 bif decide (mn E J< -1099511627776)then
 some [I 0]
 else
 (N [I J,I (wrap .i64 (wrap .i64 (0-E)-D)),I (mn (wrap .i64 (D-E)) G),I G,I D,I L]).bind λO=>
 bif O.1.beq 1 then
 some [I (wrap .i64 (0-gA O.2 0))]
 else
 none:=by kernel_rfl
def Qz0:=Al (Ng G4 FD)
def FL:=S8 G4 FD Qz0
theorem Qt5:Aj PG (Qbs G4 FD):=Ap rfl ⟨Q1d,Qop,trivial⟩
theorem Qdp:Am PG (129,Ad Qe5 Zv FL):=rw2 (C:=(Q5a G4 FD Qz0)) (fl fb Qt5) Qt5
def Qiw:Sk:=⟨[tf [CS.sl Aa],tf [ci]],[],[]⟩
def Zef (M:Fn):Nat×Spec:=(121,Ad Qiw Qpq M)
def Qtd:Sk:=⟨[td,tf [ci],td,td,td,td,td,tf [CS.sl Aa],tf [ci],tf [ci]]++dd 13,[],[]⟩
def Qtq:List (Ex×Sk):=[(Ex.ret,⟨[td,td,td,td,tf [CS.bool]]++dd 18,[],[]⟩),(Ex.exit 0,⟨[td]++dd 22,[],[]⟩)]
def VI:Lp:=AW PG Qbm 64 2 (AV PG 121 2) Qtd Qtq
def Q8y (D:Lp):Cfg:=Qbm.loop 2 Qtd Qtq D
def Vh (D:Lp):Fn:=An PG (Q8y D) 64 121 Qiw Qpq
theorem Zxh (v0:Int) (E:Rw) (G D:Int):VI [I v0, .view Aa E,I G,I D]=
 bif decide (D<G)then
 bif decide (0<=D)&&decide (D<(E.length:Int))then
 bif decide (gA (nth [] E D.toNat) 0>v0)then
 some (1,[B false])
 else
 bif decide (gA (nth [] E D.toNat) 0<wrap .i64 (0-v0))then
 some (1,[B false])
 else
 some (0,[I v0, .view Aa E,I G,I (wrap .i64 (D+1))])
 else
 none
 else
 some (2,[]):=by kernel_rfl
theorem Zgb (E:Lp) (D:Rw) (G:Int):Vh E [.view Aa D,I G]=
 (E [I G, .view Aa D,I (D.length:Int),I 0]).bind λo1=>
 bif o1.1.beq 1 then
 some [B (bA o1.2 0)]
 else
 bif o1.1.beq 2 then
 some [B true]
 else
 none:=by kernel_rfl
def Za3:=Al (VI)
def Qn:=Vh Za3
theorem Ztz:Am PG (121,Ad Qiw Qpq Qn):=rw2 (C:=(Q8y Za3)) (fl fb Zes) Zes
def Qgg:Sk:=⟨[tf [CS.sl Aa]],[],[]⟩
def Zrd (M:Fn):Nat×Spec:=(120,Ad Qgg Qgg M)
def C_limits_Differences_0:Cfg:={cf []with prom:=λb=>bif Nat.beq b 3 then [(3,3)]else []}
def Qr1:Sk:=⟨[tf [CS.sl Aa],td,td,tf [CS.own 3 1],tf [ci]]++dd 20,[],[(3,3,Aa)]⟩
def Q9x:List (Ex×Sk):=[(Ex.exit 0,⟨[td,td,td,tf [CS.own 3 1]]++dd 21,[],[(3,3,Aa)]⟩)]
def Qrj:Lp:=AW PG C_limits_Differences_0 64 3 (AV PG 120 3) Qr1 Q9x
def Q2j (D:Lp):Cfg:=C_limits_Differences_0.loop 3 Qr1 Q9x D
def Yb (D:Lp):Fn:=An PG (Q2j D) 64 120 Qgg Qgg
theorem Zzm (v0 E:Rw) (D:Int):Qrj [.view Aa v0, .view Aa E,I D]=
 bif decide (D<(E.length:Int))then
 bif decide (0<=D)&&decide (D<(E.length:Int))then
 bif decide (0<=wrap .i64 (D-1))&&decide (wrap .i64 (D-1)<(E.length:Int))then
 bif((v0++[[I (wrap .i64 (gA (nth [] E D.toNat) 0-gA (nth [] E (wrap .i64 (D-1)).toNat) 0))]]).length*8).ble 140737488355328 then
 some (0,[.view Aa (v0++[[I (wrap .i64 (gA (nth [] E D.toNat) 0-gA (nth [] E (wrap .i64 (D-1)).toNat) 0))]]), .view Aa E,I (wrap .i64 (D+1))])
 else
 none
 else
 none
 else
 none
 else
 some (1,[.view Aa v0]):=by kernel_rfl
theorem Zn9 (D:Lp) (E:Rw):Yb D [.view Aa E]=
 (D [.view Aa [], .view Aa E,I 1]).bind λo1=>
 bif o1.1.beq 1 then
 some [.view Aa (wA o1.2 0)]
 else
 none:=by kernel_rfl
def Q99:=Al (Qrj)
def RI:=Yb Q99
theorem Q3x:Aj PG (C_limits_Differences_0):=Ap rfl trivial
theorem Z6u:Am PG (120,Ad Qgg Qgg RI):=rw2 (C:=(Q2j Q99)) (fl fb Q3x) Q3x
def Qck:Sk:=⟨[TS.v true (cc 9++[CS.sl Aa]),tf [CS.sl Aa]],[],[]⟩
def Z5g (M:Fn):Nat×Spec:=(79,Ad Qck Qpq M)
def Qof (D E:Fn):Cfg:={cf [Zef D,Zrd E]with unroll:=[2]}
def Qdi (D E:Fn):Fn:=An PG (Qof D E) 64 79 Qck Qpq
theorem Z9p (E G:Fn) (U M N O V X Y x7 x8:Int) (x9 D:Rw):Qdi E G [I U,I M,I N,I O,I V,I X,I Y,I x7,I x8, .view Aa x9, .view Aa D]=
 (G [.view Aa D]).bind λS=>
 (E [.view Aa (wA S 0),I M]).bind λo7=>
 bif !bA o7 0 then
 some [B false]
 else
 (G [.view Aa (wA S 0)]).bind λT=>
 (E [.view Aa (wA T 0),I N]).bind λo9=>
 bif !bA o9 0 then
 some [B false]
 else
 (G [.view Aa (wA T 0)]).bind λJ=>
 (E [.view Aa (wA J 0),I O]).bind λL=>
 bif !bA L 0 then
 some [B false]
 else
 some [B true]:=by kernel_rfl
def Nj:=Qdi Qn RI
theorem Z4h:Aj PG (Qof Qn RI):=Ap rfl ⟨Ztz,Z6u,trivial⟩
theorem Zfk:Am PG (79,Ad Qck Qpq Nj):=rw1 (C:=(Qof Qn RI)) Z4h
def Qqf:Sk:=⟨[TS.v true (cc 9++[CS.sl Aa]++cc 9++[CS.sl Aa]++cc 9++[CS.sl Aa]),tf [CS.sl kPt]],[],[]⟩
def Zzl (M:Fn):Nat×Spec:=(31,Ad Qqf Qpq M)
def X4 (D:Fn):Cfg:=cf [Z5g D]
def Q03:Sk:=⟨[td,tf [CS.sl kPt],tf [CS.ptr 2 0],td,td,tf [ci],tf [CS.own 13 1],td,tf [ci]]++dd 6++[tf [ci],tf [ci]]++dd 19,[(2,27,cc 9++[CS.sl Aa]++cc 9++[CS.sl Aa]++cc 9++[CS.sl Aa])],[(13,3,Aa)]⟩
def Q9p:List (Ex×Sk):=[(Ex.exit 2,⟨[td,tf [CS.sl kPt],tf [CS.ptr 2 0],td,td,tf [ci],tf [CS.own 13 1],td,tf [ci]]++dd 27,[(2,27,cc 9++[CS.sl Aa]++cc 9++[CS.sl Aa]++cc 9++[CS.sl Aa])],[(13,3,Aa)]⟩)]
def Mg (D:Fn):Lp:=AW PG (X4 D) 64 6 (AV PG 31 6) Q03 Q9p
def Qzo (D:Fn) (E:Lp):Cfg:=(X4 D).loop 6 Q03 Q9p E
def Qzd:Sk:=⟨[td,tf [CS.sl kPt],tf [CS.ptr 2 0],td,td,td,td,td,tf [ci]]++dd 27,[(2,27,cc 9++[CS.sl Aa]++cc 9++[CS.sl Aa]++cc 9++[CS.sl Aa])],[]⟩
def Q9k:List (Ex×Sk):=[(Ex.ret,⟨[td,td,td,td,tf [CS.bool]]++dd 31,[],[]⟩),(Ex.exit 0,⟨[td]++dd 35,[],[]⟩)]
def SV (D:Fn) (E:Lp):Lp:=AW PG (Qzo D E) 64 2 (AV PG 31 2) Qzd Q9k
def Q1h (D:Fn) (E G:Lp):Cfg:=(Qzo D E).loop 2 Qzd Q9k G
def Tc (D:Fn) (E G:Lp):Fn:=An PG (Q1h D E G) 64 31 Qqf Qpq
theorem Zqb (Er:Fn) (v0 Y:Rw) (v2 v3 v4 D v6 v7 v8 v9 v10 v11 v12 E G:Int) (J:Rw) (L M N O v20 v21 v22 S v24:Int) (v25:Rw) (T v27 v28 U v30 v31 V v33 X:Int) (v35:Rw):Mg Er [.view Aa v0, .view kPt Y,I v2,I v3,I v4,I D,I v6,I v7,I v8,I v9,I v10,I v11,I v12,I E,I G, .view Aa J,I L,I M,I N,I O,I v20,I v21,I v22,I S,I v24, .view Aa v25,I T,I v27,I v28,I U,I v30,I v31,I V,I v33,I X, .view Aa v35]=
 bif decide (D<v4)then
 bif decide (0<=D)&&decide (D<(Y.length:Int))then
 bif decide (v2=(↑0:Int))then
 bif decide (0<=D)&&decide (D<(v0.length:Int))then
 some (0,[.view Aa (v0.set D.toNat [jA (nth [] Y D.toNat) 0]), .view kPt Y,I v2,I v3,I v4,I (wrap .i64 (D+1)),I v6,I v7,I v8,I v9,I v10,I v11,I v12,I E,I G, .view Aa J,I L,I M,I N,I O,I v20,I v21,I v22,I S,I v24, .view Aa v25,I T,I v27,I v28,I U,I v30,I v31,I V,I v33,I X, .view Aa v35])
 else
 none
 else
 bif decide (v2=(↑(0+1):Int))then
 bif decide (0<=D)&&decide (D<(v0.length:Int))then
 some (0,[.view Aa (v0.set D.toNat [jA (nth [] Y D.toNat) 1]), .view kPt Y,I v2,I v3,I v4,I (wrap .i64 (D+1)),I v6,I v7,I v8,I v9,I v10,I v11,I v12,I E,I G, .view Aa J,I L,I M,I N,I O,I v20,I v21,I v22,I S,I v24, .view Aa v25,I T,I v27,I v28,I U,I v30,I v31,I V,I v33,I X, .view Aa v35])
 else
 none
 else
 bif decide (v2=(↑(0+1+1):Int))then
 bif decide (0<=D)&&decide (D<(v0.length:Int))then
 some (0,[.view Aa (v0.set D.toNat [jA (nth [] Y D.toNat) 2]), .view kPt Y,I v2,I v3,I v4,I (wrap .i64 (D+1)),I v6,I v7,I v8,I v9,I v10,I v11,I v12,I E,I G, .view Aa J,I L,I M,I N,I O,I v20,I v21,I v22,I S,I v24, .view Aa v25,I T,I v27,I v28,I U,I v30,I v31,I V,I v33,I X, .view Aa v35])
 else
 none
 else
 none
 else
 none
 else
 some (1,[.view Aa v0, .view kPt Y,I v2,I v3,I v6,I v7,I v8,I v9,I v10,I v11,I v12,I E,I G, .view Aa J,I L,I M,I N,I O,I v20,I v21,I v22,I S,I v24, .view Aa v25,I T,I v27,I v28,I U,I v30,I v31,I V,I v33,I X, .view Aa v35]):=by kernel_rfl
abbrev RX (D:Nat×List AC) (E:Bool):Option (Nat×List AC):=
 bif E then
 some (1,[B false])
 else
 some (0,[.view kPt (wA D.2 1),I (wrap .i64 (gA D.2 3+1)),jA D.2 4,jA D.2 5,jA D.2 6,jA D.2 7,jA D.2 8,jA D.2 9,jA D.2 10,jA D.2 11,jA D.2 12, .view Aa (wA D.2 13),jA D.2 14,jA D.2 15,jA D.2 16,jA D.2 17,jA D.2 18,jA D.2 19,jA D.2 20,jA D.2 21,jA D.2 22, .view Aa (wA D.2 23),jA D.2 24,jA D.2 25,jA D.2 26,jA D.2 27,jA D.2 28,jA D.2 29,jA D.2 30,jA D.2 31,jA D.2 32, .view Aa (wA D.2 33)])
theorem Zmk (V:Fn) (Y:Lp) (v0:Rw) (X v2 v3 v4 v5 v6 v7 v8 v9 v10:Int) (v11:Rw) (v12 E G J L M N O v20:Int) (v21:Rw) (v22 S v24 v25 T v27 v28 U v30:Int) (v31:Rw):SV V Y [.view kPt v0,I X,I v2,I v3,I v4,I v5,I v6,I v7,I v8,I v9,I v10, .view Aa v11,I v12,I E,I G,I J,I L,I M,I N,I O,I v20, .view Aa v21,I v22,I S,I v24,I v25,I T,I v27,I v28,I U,I v30, .view Aa v31]=
 bif decide (X<3)then
 bif decide ((v0.length:Int)=(v0.length:Int))then
 bif decide (0<=(v0.length:Int))&&decide ((v0.length:Int)*(↑8:Int)<=140737488355328)then
 (Y [.view Aa (List.replicate (v0.length:Int).toNat [I 0]), .view kPt v0,I X,I X,I (v0.length:Int),I 0,I v2,I v3,I v4,I v5,I v6,I v7,I v8,I v9,I v10, .view Aa v11,I v12,I E,I G,I J,I L,I M,I N,I O,I v20, .view Aa v21,I v22,I S,I v24,I v25,I T,I v27,I v28,I U,I v30, .view Aa v31]).bind λD=>
 bif D.1.beq 1 then
 bif decide (gA D.2 2=(↑0:Int))then
 (V [jA D.2 4,jA D.2 5,jA D.2 6,jA D.2 7,jA D.2 8,jA D.2 9,jA D.2 10,jA D.2 11,jA D.2 12, .view Aa (wA D.2 13), .view Aa (wA D.2 0)]).bind λo6=>
 RX D (!bA o6 0)
 else
 bif decide (gA D.2 2=(↑(0+1):Int))then
 (V [jA D.2 14,jA D.2 15,jA D.2 16,jA D.2 17,jA D.2 18,jA D.2 19,jA D.2 20,jA D.2 21,jA D.2 22, .view Aa (wA D.2 23), .view Aa (wA D.2 0)]).bind λo7=>
 RX D (!bA o7 0)
 else
 bif decide (gA D.2 2=(↑(0+1+1):Int))then
 (V [jA D.2 24,jA D.2 25,jA D.2 26,jA D.2 27,jA D.2 28,jA D.2 29,jA D.2 30,jA D.2 31,jA D.2 32, .view Aa (wA D.2 33), .view Aa (wA D.2 0)]).bind λo8=>
 RX D (!bA o8 0)
 else
 none
 else
 none
 else
 none
 else
 none
 else
 some (2,[]):=by kernel_rfl
theorem Zj7 (Er:Fn) (N6 N2:Lp) (x0 x1 x2 x3 x4 x5 x6 x7 x8:Int) (x9:Rw) (D E G J L M N O S:Int) (T:Rw) (U V X Y a0 a1 a2 a3 a4:Int) (a5 a6:Rw):Tc Er N6 N2 [I x0,I x1,I x2,I x3,I x4,I x5,I x6,I x7,I x8, .view Aa x9,I D,I E,I G,I J,I L,I M,I N,I O,I S, .view Aa T,I U,I V,I X,I Y,I a0,I a1,I a2,I a3,I a4, .view Aa a5, .view kPt a6]=
 (N2 [.view kPt a6,I 0,I x0,I x1,I x2,I x3,I x4,I x5,I x6,I x7,I x8, .view Aa x9,I D,I E,I G,I J,I L,I M,I N,I O,I S, .view Aa T,I U,I V,I X,I Y,I a0,I a1,I a2,I a3,I a4, .view Aa a5]).bind λo9=>
 bif o9.1.beq 1 then
 some [B (bA o9.2 0)]
 else
 bif o9.1.beq 2 then
 some [B true]
 else
 none:=by kernel_rfl
def Zh:=Al (Mg Nj)
def Zac:=Al (SV Nj Zh)
def NJ:=Tc Nj Zh Zac
theorem Qbi:Aj PG (X4 Nj):=Ap rfl ⟨Zfk,trivial⟩
theorem Z65:Am PG (31,Ad Qqf Qpq NJ):=rw2 (C:=(Q1h Nj Zh Zac)) (fl (fl fb Qbi) Qbi) Qbi
def Q11 (M:Fn):Nat×Spec:=(197,Ad Zv Zv M)
def Qoh:Fn:=An PG Qbm 64 197 Zv Zv
theorem Z6f (D:Int):Qoh [I D]=
 bif decide (D.tmod 256<0)then
 some [I (wrap .i64 (wrap .i64 (D.tdiv 256)-1))]
 else
 some [I (wrap .i64 (D.tdiv 256))]:=by kernel_rfl
def Ja:=Qoh
theorem Zb7:Am PG (197,Ad Zv Zv Ja):=rw1 (C:=Qbm) Zes
def Qhf:Sk:=⟨[TS.v true [ci,ci,ci,CS.sl Ah,CS.sl kPt],TS.v true (cc 9++[CS.sl Aa]++cc 9++[CS.sl Aa]++cc 9++[CS.sl Aa]),TS.v true ([CS.sl Aq]++cc 5),tf [CS.sl Aa]],[],[]⟩
def Zc8 (M:Fn):Nat×Spec:=(179,Ad Qhf Qpq M)
def Qmm (D E G:Fn):Cfg:={cf [Zzl D,SF E,Q11 G]with lend:=λf=>AP [31] f,cuts:=[30],prom:=λb=>bif Nat.beq b 3 then [(9,44)]else []}
def Q0t:Sk:=⟨[td,td,td,td,tf [CS.ptr 4 0],tf [CS.ptr 5 0],tf [CS.ptr 6 0],td,td,tf [CS.own 9 3],td,td,tf [CS.sl Aa],tf [ci],tf [ci]]++dd 22,[(4,58,[ci,ci,ci,CS.sl Ah,CS.sl kPt]),(5,27,cc 9++[CS.sl Aa]++cc 9++[CS.sl Aa]++cc 9++[CS.sl Aa]),(6,62,[CS.sl Aq]++cc 5)],[(9,44,kPt)]⟩
def Qul:List (Ex×Sk):=[(Ex.ret,⟨dd 8++[tf [CS.bool]]++dd 28,[],[]⟩),(Ex.exit 0,⟨[td]++dd 36,[],[]⟩)]
def ZN (D E G:Fn):Lp:=AW PG (Qmm D E G) 64 3 (AV PG 179 3) Q0t Qul
def Qx9 (D E G:Fn) (I:Lp):Cfg:=(Qmm D E G).loop 3 Q0t Qul I
def Qf7 (D E G:Fn) (I:Lp):Fn:=An PG (Qx9 D E G I) 64 179 Qhf Qpq
theorem Zzo (L O S:Fn) (v0 G:Rw) (J E:Int) (p:Pth) (x:Ax3) (t:Trk):ZN L O S (.view kPt v0:: .view Aa G::I J::I E::pxt p x t [])=
 bif decide (E<J)then
 bif decide (0<=E)&&decide (E<(G.length:Int))then
 (S [jA (nth [] G E.toNat) 0]).bind λT=>
 (O (pxt p x t [jA T 0])).bind λD=>
 bif((v0++[[jA D 0,jA D 1,jA D 2]]).length*24).ble 140737488355328 then
 bif decide ((↑(v0++[[jA D 0,jA D 1,jA D 2]]).length:Int)>4)then
 bif decide (0<=1)&&decide (1<=(↑(v0++[[jA D 0,jA D 1,jA D 2]]).length:Int))then
 bif(Int.toNat 1).ble (v0++[[jA D 0,jA D 1,jA D 2]]).length then
 (L (AM x++[.view kPt (List.drop (Int.toNat 1) (v0++[[jA D 0,jA D 1,jA D 2]]))])).bind λM=>
 bif !bA M 0 then
 some (1,[B false])
 else
 some (0,(.view kPt (List.drop (Int.toNat 1) (v0++[[jA D 0,jA D 1,jA D 2]])):: .view Aa G::I J::I (wrap .i64 (E+1))::pxt p x t []))
 else
 none
 else
 none
 else
 (L (AM x++[.view kPt (v0++[[jA D 0,jA D 1,jA D 2]])])).bind λN=>
 bif !bA N 0 then
 some (1,[B false])
 else
 some (0,(.view kPt (v0++[[jA D 0,jA D 1,jA D 2]]):: .view Aa G::I J::I (wrap .i64 (E+1))::pxt p x t []))
 else
 none
 else
 none
 else
 some (2,[]):=by kernel_rfl
theorem Zks (J L M:Fn) (G:Lp) (D:Rw) (p:Pth) (x:Ax3) (t:Trk):Qf7 J L M G (pxt p x t [.view Aa D])=
 (G (.view kPt []:: .view Aa D::I (D.length:Int)::I 0::pxt p x t [])).bind λE=>
 bif E.1.beq 1 then
 some [B (bA E.2 0)]
 else
 bif E.1.beq 2 then
 some [B true]
 else
 none:=by kernel_rfl
def Q4b:=Al (ZN NJ Et Ja)
def Oq:=Qf7 NJ Et Ja Q4b
theorem Qud:Aj PG (Qmm NJ Et Ja):=Ap rfl ⟨Z65,UD,Zb7,trivial⟩
theorem Z4s:Am PG (179,Ad Qhf Qpq Oq):=rw2 (C:=(Qx9 NJ Et Ja Q4b)) (fl fb Qud) Qud
def Zc3 (M:Fn):Nat×Spec:=(128,Ad Qe5 Qpq M)
def Qfn (D:Fn):Cfg:=cf [Qvf D]
def QI (D:Fn):Fn:=An PG (Qfn D) 64 128 Qe5 Qpq
theorem YR (L:Fn) (E G M J D:Int):QI L [I E,I G,I M,I J,I D]=
 bif decide (D<wrap .i64 (0-E))then
 some [B false]
 else
 bif decide (D>E)then
 some [B false]
 else
 bif J==0 then
 bif decide (D>G)then
 some [B false]
 else
 (L [I E,I G,I M,I (wrap .i64 (0-D))]).bind λo4=>
 bif decide (J>=gA o4 0)then
 (L [I E,I G,I M,I D]).bind λN=>
 some [B (decide (J<=wrap .i64 (16777216-gA N 0)))]
 else
 some [B false]
 else
 (L [I E,I G,I M,I (wrap .i64 (0-D))]).bind λO=>
 bif decide (J>=gA O 0)then
 (L [I E,I G,I M,I D]).bind λS=>
 some [B (decide (J<=wrap .i64 (16777216-gA S 0)))]
 else
 some [B false]:=by kernel_rfl
def GV:=QI G4
theorem Zhu:Aj PG (Qfn G4):=Ap rfl ⟨Q1d,trivial⟩
theorem Qxz:Am PG (128,Ad Qe5 Qpq GV):=rw1 (C:=(Qfn G4)) Zhu
def Qq0:Sk:=⟨[TS.tup [(false,[CS.sl Aa]),(false,[CS.bool])]],[],[]⟩
def Zr1 (M:Fn):Nat×Spec:=(82,Ad Qe5 Qq0 M)
def WP (D E G:Fn):Cfg:={cf [ZO D,Zc3 E,YA G]with prom:=λb=>bif Nat.beq b 4 then [(8,3)]else []}
def Q3s:Sk:=⟨[td,tf [ci],tf [ci],tf [CS.ptr 3 0],td,td,td,td,tf [CS.own 8 1]]++dd 27,[(3,29,[ci,ci,ci])],[(8,3,Aa)]⟩
def Q54:List (Ex×Sk):=[(Ex.ret,⟨dd 6++[tf [CS.nil],tf [CS.bool]]++dd 28,[],[]⟩),(Ex.exit 0,⟨dd 8++[tf [CS.own 8 1]]++dd 27,[],[(8,3,Aa)]⟩)]
def ID (D E G:Fn):Lp:=AW PG (WP D E G) 64 4 (AV PG 82 4) Q3s Q54
def Q1j (D E G:Fn) (I:Lp):Cfg:=(WP D E G).loop 4 Q3s Q54 I
def QZ (D E G:Fn) (I:Lp):Fn:=An PG (Q1j D E G I) 64 82 Qe5 Qq0
theorem QS (M O S:Fn) (v0:Rw) (D N G J L:Int):ID M O S [.view Aa v0,I D,I N,I G,I J,I L]=
 bif decide (D>0)then
 bif(v0.length:Int)==4096 then
 some (1,[B false])
 else
 (M [I G,I J,I L,I D,I N]).bind λE=>
 bif((v0++[[I (wrap .i64 (D+gA E 0))]]).length*8).ble 140737488355328 then
 some (0,[.view Aa (v0++[[I (wrap .i64 (D+gA E 0))]]),I (wrap .i64 (D+gA E 0)),jA E 0,I G,I J,I L])
 else
 none
 else
 some (2,[.view Aa v0]):=by kernel_rfl
theorem Wi (V S T:Fn) (U:Lp) (E G J L M:Int):QZ V S T U [I E,I G,I J,I L,I M]=
 (T [I E,I G,I J]).bind λN=>
 bif !bA N 0 then
 some [.view Aa [],B false]
 else
 (S [I E,I G,I J,I L,I M]).bind λO=>
 bif !bA O 0 then
 some [.view Aa [],B false]
 else
 (U [.view Aa [],I L,I M,I E,I G,I J]).bind λD=>
 bif D.1.beq 1 then
 some [.view Aa [],B (bA D.2 0)]
 else
 bif D.1.beq 2 then
 some [.view Aa (wA D.2 0),B true]
 else
 none:=by kernel_rfl
def Q5j:=Al (ID FL GV FD)
def KS:=QZ FL GV FD Q5j
theorem Q8q:Aj PG (WP FL GV FD):=Ap rfl ⟨Qdp,Qxz,Qop,trivial⟩
theorem Zfy:Am PG (82,Ad Qe5 Qq0 KS):=rw2 (C:=(Q1j FL GV FD Q5j)) (fl fb Q8q) Q8q
def Qfx:Sk:=⟨[TS.v true [ci,ci,ci],TS.v true (cc 6)],[],[]⟩
def YK (M:Fn):Nat×Spec:=(39,Ad Qfx Qq0 M)
def Qhp (D:Fn):Cfg:=cf [Zr1 D]
def Q61:Sk:=⟨dd 8++[tf [CS.own 25 1],tf [ci]]++dd 18++[tf [CS.sl Aa],tf [ci],tf [ci]]++dd 13,[],[(25,3,Aa)]⟩
def Q7p:List (Ex×Sk):=[(Ex.exit 0,⟨dd 8++[tf [CS.own 25 1]]++dd 35,[],[(25,3,Aa)]⟩)]
def H3 (D:Fn):Lp:=AW PG (Qhp D) 64 7 (AV PG 39 7) Q61 Q7p
def Q3b (D:Fn) (E:Lp):Cfg:=(Qhp D).loop 7 Q61 Q7p E
def Po (D:Fn) (E:Lp):Fn:=An PG (Q3b D E) 64 39 Qfx Qq0
theorem Qe1 (L:Fn) (v0:Rw) (G:Int) (E:Rw) (J D:Int):H3 L [.view Aa v0,I G, .view Aa E,I J,I D]=
 bif decide (D<J)then
 bif decide (0<=D)&&decide (D<(E.length:Int))then
 bif decide (0<=D)&&decide (D<(v0.length:Int))then
 some (0,[.view Aa (v0.set D.toNat [I (wrap .i64 (G+gA (nth [] E D.toNat) 0))]),I (wrap .i64 (G+gA (nth [] E D.toNat) 0)), .view Aa E,I J,I (wrap .i64 (D+1))])
 else
 none
 else
 none
 else
 some (1,[.view Aa v0]):=by kernel_rfl
theorem Tm (D:Fn) (E:Lp) (G J L M N O S T U:Int):Po D E [I G,I J,I L,I M,I N,I O,I S,I T,I U]=
 (D [I G,I J,I L,I N,I O]).bind λo3=>
 bif !bA o3 1 then
 some [.view Aa [],B false]
 else
 bif decide ((↑(wA o3 0).length:Int)=(↑(wA o3 0).length:Int))then
 bif decide (0<=(↑(wA o3 0).length:Int))&&decide ((↑(wA o3 0).length:Int)*(↑8:Int)<=140737488355328)then
 (E [.view Aa (List.replicate (↑(wA o3 0).length:Int).toNat [I 0]),I M, .view Aa (wA o3 0),I (↑(wA o3 0).length:Int),I 0]).bind λo4=>
 bif o4.1.beq 1 then
 some [.view Aa (wA o4.2 0),B true]
 else
 none
 else
 none
 else
 none:=by kernel_rfl
def Qvz:=Al (H3 KS)
def Fk:=Po KS Qvz
theorem Q89:Aj PG (Qhp KS):=Ap rfl ⟨Zfy,trivial⟩
theorem Qg8:Am PG (39,Ad Qfx Qq0 Fk):=rw2 (C:=(Q3b KS Qvz)) (fl fb Q89) Q89
def Qmg:Sk:=⟨[TS.v true [ci,ci,ci,CS.sl Ah,CS.sl kPt],TS.v true (cc 9++[CS.sl Aa]++cc 9++[CS.sl Aa]++cc 9++[CS.sl Aa]),TS.v true ([CS.sl Aq]++cc 5),TS.v true [ci,ci,ci],TS.v true (cc 6),tf [ci]],[],[]⟩
def Q90 (M:Fn):Nat×Spec:=(154,Ad Qmg Qpq M)
def YL (D E:Fn):Cfg:={cf [Zc8 D,YK E]with rowDst:=[48]}
def SW (D E:Fn):Fn:=An PG (YL D E) 64 154 Qmg Qpq
theorem Qtf (U V:Fn) (M N O D S T E G J L:Int) (p:Pth) (x:Ax3) (t:Trk):SW U V (pxt p x t [I M,I N,I O,I D,I S,I T,I E,I G,I J,I L])=
 (V [I M,I N,I O,I D,I S,I T,I E,I G,I J]).bind λo3=>
 bif !bA o3 1 then
 some [B false]
 else
 bif decide ((↑(wA o3 0).length:Int)>0)then
 bif decide (0<=wrap .i64 ((↑(wA o3 0).length:Int)-1))&&decide (wrap .i64 ((↑(wA o3 0).length:Int)-1)<(↑(wA o3 0).length:Int))then
 bif decide (Af (nth .dead (nth [] (wA o3 0) (wrap .i64 ((↑(wA o3 0).length:Int)-1)).toNat) 0)>wrap .i64 (L*256))then
 some [B false]
 else
 bif(([[I J],[I G],[I E],[I D]]++wA o3 0).length*8).ble 140737488355328 then
 bif(([[I J],[I G],[I E],[I D]]++wA o3 0++[[I (Af (nth .dead (nth [] (wA o3 0) (wrap .i64 ((↑(wA o3 0).length:Int)-1)).toNat) 0))],[I (Af (nth .dead (nth [] (wA o3 0) (wrap .i64 ((↑(wA o3 0).length:Int)-1)).toNat) 0))]]).length*8).ble 140737488355328 then
 (U (pxt p x t [.view Aa ([[I J],[I G],[I E],[I D]]++wA o3 0++[[I (Af (nth .dead (nth [] (wA o3 0) (wrap .i64 ((↑(wA o3 0).length:Int)-1)).toNat) 0))],[I (Af (nth .dead (nth [] (wA o3 0) (wrap .i64 ((↑(wA o3 0).length:Int)-1)).toNat) 0))]])])).bind λo4=>
 some [B (bA o4 0)]
 else
 none
 else
 none
 else
 none
 else
 bif decide (D>wrap .i64 (L*256))then
 some [B false]
 else
 bif(([[I J],[I G],[I E],[I D]]++wA o3 0).length*8).ble 140737488355328 then
 bif(([[I J],[I G],[I E],[I D]]++wA o3 0++[[I D],[I D]]).length*8).ble 140737488355328 then
 (U (pxt p x t [.view Aa ([[I J],[I G],[I E],[I D]]++wA o3 0++[[I D],[I D]])])).bind λX=>
 some [B (bA X 0)]
 else
 none
 else
 none:=by kernel_rfl
def IT:=SW Oq Fk
theorem Zl3:Aj PG (YL Oq Fk):=Ap rfl ⟨Z4s,Qg8,trivial⟩
theorem Q0j:Am PG (154,Ad Qmg Qpq IT):=rw1 (C:=(YL Oq Fk)) Zl3
def Qpc:Sk:=⟨[TS.v true [ci,ci,CS.bool,CS.bool,CS.bool],TS.v true [ci,ci,ci],TS.v true (cc 7)],[],[]⟩
def Zzy (M:Fn):Nat×Spec:=(198,Ad Qpc Zv M)
def Qkx:Fn:=An PG Qbm 64 198 Qpc Zv
theorem Z2w (G J:Int) (O T U:Bool) (V X S Y x9 L M N D E:Int):Qkx [I G,I J,B O,B T,B U,I V,I X,I S,I Y,I x9,I L,I M,I N,I D,I E]=
 bif O then
 some [I 0]
 else
 bif E !=0 then
 some [I (mn (mx D 1) 16777216)]
 else
 bif D==0 then
 bif J==0 then
 some [I 0]
 else
 some [I (mn (mx (wrap .i64 ((wrap .i64 (S*J)).tdiv 100)) 1) 16777216)]
 else
 bif G==0 then
 some [I 0]
 else
 some [I (mn (mx (wrap .i64 ((wrap .i64 (D*G)).tdiv 100)) 1) 16777216)]:=by kernel_rfl
def Q2:=Qkx
theorem Zu9:Am PG (198,Ad Qpc Zv Q2):=rw1 (C:=Qbm) Zes
def Qik:Sk:=⟨[TS.v true [ci,ci,ci,CS.sl Ah,CS.sl kPt],TS.v true ([CS.sl Aq]++cc 5),TS.v true [ci,ci,ci],TS.v true [ci,ci,CS.bool,CS.bool,CS.bool],tf [ci]],[],[]⟩
def Zzw (M:Fn):Nat×Spec:=(178,Ad Qik Zv M)
def Qdb (D E G I:Fn):Cfg:=cf [Zzy D,Qh1 E,Q1 G,Q11 I]
def Qjt (D E G I:Fn):Fn:=An PG (Qdb D E G I) 64 178 Qik Zv
theorem Zog (U V X Y:Fn) (D E G J L:Int) (M N O:Bool) (S:Int) (p:Pth) (t:Trk):Qjt U V X Y (Fu p t [I D,I E,I G,I J,I L,B M,B N,B O,I S])=
 (Y [I S]).bind λo4=>
 (X (A8 t++[jA o4 0])).bind λo5=>
 (V (Br p++[jA o5 0])).bind λT=>
 bif decide (0<=gA T 0)&&decide (gA T 0<((p.aE.map Av).length:Int))then
 (U (I J::I L::B M::B N::B O::I D::I E::I G::AT Ah (nth [] (p.aE.map Av) (gA T 0).toNat))).bind λo7=>
 some [jA o7 0]
 else
 none:=by kernel_rfl
def NV:=Qjt Q2 Fc En Ja
theorem Z70:Aj PG (Qdb Q2 Fc En Ja):=Ap rfl ⟨Zu9,Zr,Rd,Zb7,trivial⟩
theorem Zqr:Am PG (178,Ad Qik Zv NV):=rw1 (C:=(Qdb Q2 Fc En Ja)) Z70
def Qar:Sk:=⟨[TS.v true [ci,ci,ci,CS.sl Ah,CS.sl kPt],TS.v true ([CS.sl Aq]++cc 5),TS.v true [ci,ci,ci],TS.v true [ci,ci,CS.bool,CS.bool,CS.bool],TS.v true (cc 6)],[],[]⟩
def Zn8 (M:Fn):Nat×Spec:=(153,Ad Qar Qpq M)
def Qdn (D E:Fn):Cfg:=cf [Zzw D,YK E]
def Qxl:Sk:=⟨[td,td,td,td,td,tf [CS.ptr 5 0],tf [CS.ptr 6 0],tf [CS.ptr 7 0],tf [CS.ptr 8 0],td,td,td,td,tf [ci]]++dd 30++[tf [CS.sl Aa],tf [ci],tf [ci]]++dd 15,[(5,58,[ci,ci,ci,CS.sl Ah,CS.sl kPt]),(6,62,[CS.sl Aq]++cc 5),(7,29,[ci,ci,ci]),(8,92,[ci,ci,CS.bool,CS.bool,CS.bool])],[]⟩
def Zag:List (Ex×Sk):=[(Ex.ret,⟨dd 10++[tf [CS.bool]]++dd 51,[],[]⟩),(Ex.exit 0,⟨[td]++dd 61,[],[]⟩)]
def Xo (D E:Fn):Lp:=AW PG (Qdn D E) 64 6 (AV PG 153 6) Qxl Zag
def Q47 (D E:Fn) (G:Lp):Cfg:=(Qdn D E).loop 6 Qxl Zag G
def Qh3 (D E:Fn) (G:Lp):Fn:=An PG (Q47 D E G) 64 153 Qar Qpq
theorem Zjv (S T:Fn) (v0:Int) (N:Rw) (O D:Int) (E G J L M:Int) (v20 v21 v22:Bool) (p:Pth) (t:Trk):Xo S T (I v0:: .view Aa N::I O::I D::Fu p t [I E,I G,I J,I L,I M,B v20,B v21,B v22])=
 bif decide (D<O)then
 bif decide (0<=D)&&decide (D<(N.length:Int))then
 (S (Fu p t [I E,I G,I J,I L,I M,B v20,B v21,B v22,jA (nth [] N D.toNat) 0])).bind λU=>
 bif decide (wrap .i64 (gA (nth [] N D.toNat) 0-v0)>gA U 0)then
 some (1,[B false])
 else
 some (0,(jA (nth [] N D.toNat) 0:: .view Aa N::I O::I (wrap .i64 (D+1))::Fu p t [I E,I G,I J,I L,I M,B v20,B v21,B v22]))
 else
 none
 else
 some (2,[]):=by kernel_rfl
theorem Zkp (GD C1:Fn) (N6:Lp) (D E G L M:Int) (N O S:Bool) (J T U V X Y:Int) (p:Pth) (t:Trk):Qh3 GD C1 N6 (Fu p t [I D,I E,I G,I L,I M,B N,B O,B S,I J,I T,I U,I V,I X,I Y])=
 (C1 [I D,I E,I G,I J,I T,I U,I V,I X,I Y]).bind λo7=>
 bif !bA o7 1 then
 some [B false]
 else
 bif((p.aE.map Av).length:Int)==0 then
 some [B false]
 else
 (GD (Fu p t [I D,I E,I G,I L,I M,B N,B O,B S,I J])).bind λo8=>
 bif decide (T>gA o8 0)then
 some [B false]
 else
 (N6 (I J:: .view Aa (wA o7 0)::I (↑(wA o7 0).length:Int)::I 0::Fu p t [I D,I E,I G,I L,I M,B N,B O,B S])).bind λo9=>
 bif o9.1.beq 1 then
 some [B (bA o9.2 0)]
 else
 bif o9.1.beq 2 then
 some [B true]
 else
 none:=by kernel_rfl
def Qz3:=Al (Xo NV Fk)
def Mv:=Qh3 NV Fk Qz3
theorem Q9v:Aj PG (Qdn NV Fk):=Ap rfl ⟨Zqr,Qg8,trivial⟩
theorem Zja:Am PG (153,Ad Qar Qpq Mv):=rw2 (C:=(Q47 NV Fk Qz3)) (fl fb Q9v) Q9v
def Qal:Sk:=⟨[TS.v true (cc 6),tf [ci]],[],[]⟩
def Qjz:Sk:=⟨[TS.v true (cc 6)],[],[]⟩
def Q5m (M:Fn):Nat×Spec:=(152,Ad Qal Qjz M)
def Vp:Fn:=An PG Qbm 64 152 Qal Qjz
theorem Z24 (E G M J L N D:Int):Vp [I E,I G,I M,I J,I L,I N,I D]=
 some [I (wrap .i64 (E+D)),I D,I (wrap .i64 (D-G)),I E,I J,I L]:=by kernel_rfl
def JS:=Vp
theorem Q02:Am PG (152,Ad Qal Qjz JS):=rw1 (C:=Qbm) Zes
def Zvf (M:Fn):Nat×Spec:=(151,Ad Zv Qgg M)
def Quh:Sk:=⟨[td,td,td,tf [CS.own 3 1],tf [ci]]++dd 32,[],[(3,3,Aa)]⟩
def Qvw:List (Ex×Sk):=[(Ex.exit 0,⟨[td,td,td,tf [CS.own 3 1]]++dd 33,[],[(3,3,Aa)]⟩)]
def Q5:Lp:=AW PG C_limits_Differences_0 64 3 (AV PG 151 3) Quh Qvw
def Q7m (D:Lp):Cfg:=C_limits_Differences_0.loop 3 Quh Qvw D
def Qyo:Sk:=⟨[td,td,td,tf [CS.own 3 1],td,tf [CS.own 16 1],tf [ci]]++dd 30,[],[(3,3,Aa),(16,3,Aa)]⟩
def Q81:List (Ex×Sk):=[(Ex.exit 2,⟨[td,td,td,td,td,tf [CS.own 16 1]]++dd 31,[],[(16,3,Aa)]⟩)]
def RZ (D:Lp):Lp:=AW PG (Q7m D) 64 8 (AV PG 151 8) Qyo Q81
def Q5d (D E:Lp):Cfg:=(Q7m D).loop 8 Qyo Q81 E
def Zo (D E:Lp):Fn:=An PG (Q5d D E) 64 151 Zv Qgg
theorem Ziv (v0:Rw) (D:Int):Q5 [.view Aa v0,I D]=
 bif decide (D>0)then
 bif((v0++[[I D]]).length*8).ble 140737488355328 then
 some (0,[.view Aa (v0++[[I D]]),I (wrap .i64 (D.tdiv 2))])
 else
 none
 else
 some (1,[.view Aa v0]):=by kernel_rfl
theorem Zz5 (G:Lp) (v0 E:Rw) (D:Int):RZ G [.view Aa v0, .view Aa E,I D]=
 bif decide (D>=0)then
 bif decide (0<=D)&&decide (D<(v0.length:Int))then
 bif((E++[[I (wrap .i64 (0-gA (nth [] v0 D.toNat) 0))]]).length*8).ble 140737488355328 then
 some (0,[.view Aa v0, .view Aa (E++[[I (wrap .i64 (0-gA (nth [] v0 D.toNat) 0))]]),I (wrap .i64 (D-1))])
 else
 none
 else
 none
 else
 some (1,[.view Aa E]):=by kernel_rfl
theorem Zqm (D E:Lp) (G:Int):Zo D E [I G]=
 (D [.view Aa [],I G]).bind λo3=>
 bif o3.1.beq 1 then
 bif(([]++wA o3.2 0).length*8).ble 140737488355328 then
 bif(([]++wA o3.2 0++[[I 0]]).length*8).ble 140737488355328 then
 (E [.view Aa (wA o3.2 0), .view Aa ([]++wA o3.2 0++[[I 0]]),I (wrap .i64 ((↑(wA o3.2 0).length:Int)-1))]).bind λo4=>
 bif o4.1.beq 1 then
 some [.view Aa (wA o4.2 0)]
 else
 none
 else
 none
 else
 none
 else
 none:=by kernel_rfl
def Qpg:=Al (Q5)
def Q3l:=Al (RZ Qpg)
def PA:=Zo Qpg Q3l
theorem Z9m:Am PG (151,Ad Zv Qgg PA):=rw2 (C:=(Q5d Qpg Q3l)) (fl (fl fb Q3x) Q3x) Q3x
def Qqt:Sk:=⟨[TS.v true [ci,ci,ci,CS.sl Ah,CS.sl kPt],TS.v true (cc 9++[CS.sl Aa]++cc 9++[CS.sl Aa]++cc 9++[CS.sl Aa]),TS.v true ([CS.sl Aq]++cc 5),TS.v true [ci,ci,ci],TS.v true [ci,ci,CS.bool,CS.bool,CS.bool],TS.v true (cc 6),tf [ci]],[],[]⟩
def Qc2 (M:Fn):Nat×Spec:=(104,Ad Qqt Qjz M)
def Ql1 (D E G I J L:Fn):Cfg:=cf [ZO D,Q90 E,Zn8 G,Q5m I,Zc3 J,Zvf L]
def Q3u:Sk:=⟨dd 6++[tf [ci],tf [CS.ptr 7 0],tf [CS.ptr 8 0],tf [CS.ptr 9 0],tf [CS.ptr 10 0],tf [CS.ptr 11 0],tf [CS.ptr 12 0],td,tf [CS.ptr 14 0],tf [CS.ptr 15 0],tf [CS.bool]]++dd 6++[tf [CS.sl Aa],tf [ci],tf [ci]]++dd 57,[(7,58,[ci,ci,ci,CS.sl Ah,CS.sl kPt]),(8,27,cc 9++[CS.sl Aa]++cc 9++[CS.sl Aa]++cc 9++[CS.sl Aa]),(9,62,[CS.sl Aq]++cc 5),(10,29,[ci,ci,ci]),(11,92,[ci,ci,CS.bool,CS.bool,CS.bool]),(12,50,cc 6),(14,50,cc 6),(15,50,cc 6)],[]⟩
def Q3p:List (Ex×Sk):=[(Ex.exit 0,⟨dd 10++[tf [CS.ptr 10 0],td,tf [CS.ptr 12 0],td,tf [CS.ptr 14 0],tf [CS.ptr 15 0],tf [CS.bool]]++dd 66,[(10,29,[ci,ci,ci]),(12,50,cc 6),(14,50,cc 6),(15,50,cc 6)],[]⟩)]
def Qm3 (D E G I J L:Fn):Lp:=AW PG (Ql1 D E G I J L) 64 4 (AV PG 104 4) Q3u Q3p
def Q2v (D E G I J L:Fn) (M:Lp):Cfg:=(Ql1 D E G I J L).loop 4 Q3u Q3p M
def Qlx (D E G I J L:Fn) (M:Lp):Fn:=An PG (Q2v D E G I J L M) 64 104 Qqt Qjz
theorem Zs3 (BF Ed GX CT Dh HI:Fn) (v0:Int) (v1:Bool) (v2:Rw) (v3 Y:Int) (v46 J v48 v49 V:Int) (v51 X v53:Bool) (L G E M N v59 O S T v63 U v65 a0 a1 v68 v69 v70 a2:Int) (p:Pth) (x:Ax3) (t:Trk):Qm3 BF Ed GX CT Dh HI (I v0::B v1:: .view Aa v2::I v3::I Y::pxt p x t [I v46,I J,I v48,I v49,I V,B v51,B X,B v53,I L,I G,I E,I M,I N,I v59,I O,I S,I T,I v63,I U,I v65,I a0,I a1,I v68,I v69,I v70,I a2])=
 bif decide (Y<v3)then
 bif decide (0<=Y)&&decide (Y<(v2.length:Int))then
 bif decide (wrap .i64 (G+wrap .i64 (E+gA (nth [] v2 Y.toNat) 0))<0)then
 some (0,(I v0::B v1:: .view Aa v2::I v3::I (wrap .i64 (Y+1))::pxt p x t [I v46,I J,I v48,I v49,I V,B v51,B X,B v53,I L,I G,I E,I M,I N,I v59,I O,I S,I T,I v63,I U,I v65,I a0,I a1,I v68,I v69,I v70,I a2]))
 else
 (Dh [I v46,I J,I v48,I (wrap .i64 (G+wrap .i64 (E+gA (nth [] v2 Y.toNat) 0))),I (wrap .i64 (E+gA (nth [] v2 Y.toNat) 0))]).bind λo9=>
 bif !bA o9 0 then
 some (0,(I v0::B v1:: .view Aa v2::I v3::I (wrap .i64 (Y+1))::pxt p x t [I v46,I J,I v48,I v49,I V,B v51,B X,B v53,I L,I G,I E,I M,I N,I v59,I O,I S,I T,I v63,I U,I v65,I a0,I a1,I v68,I v69,I v70,I a2]))
 else
 (CT [I L,I G,I E,I M,I N,I v59,I (wrap .i64 (G+wrap .i64 (E+gA (nth [] v2 Y.toNat) 0)))]).bind λD=>
 (GX (Fu p t [I v46,I J,I v48,I v49,I V,B v51,B X,B v53,jA D 0,jA D 1,jA D 2,jA D 3,jA D 4,jA D 5])).bind λa3=>
 bif bA a3 0 then
 (Ed (pxt p x t [I v46,I J,I v48,jA D 0,jA D 1,jA D 2,jA D 3,jA D 4,jA D 5,I v0])).bind λa4=>
 bif bA a4 0 then
 some (1,[B true,I v46,I J,I v48,I L,I G,I E,I M,I N,I v59,I O,I S,I T,I v63,I U,I v65,jA D 0,jA D 1,jA D 2,jA D 3,jA D 4,jA D 5])
 else
 some (0,(I v0::B v1:: .view Aa v2::I v3::I (wrap .i64 (Y+1))::pxt p x t [I v46,I J,I v48,I v49,I V,B v51,B X,B v53,I L,I G,I E,I M,I N,I v59,I O,I S,I T,I v63,I U,I v65,jA D 0,jA D 1,jA D 2,jA D 3,jA D 4,jA D 5]))
 else
 some (0,(I v0::B v1:: .view Aa v2::I v3::I (wrap .i64 (Y+1))::pxt p x t [I v46,I J,I v48,I v49,I V,B v51,B X,B v53,I L,I G,I E,I M,I N,I v59,I O,I S,I T,I v63,I U,I v65,jA D 0,jA D 1,jA D 2,jA D 3,jA D 4,jA D 5]))
 else
 none
 else
 some (1,[B v1,I v46,I J,I v48,I L,I G,I E,I M,I N,I v59,I O,I S,I T,I v63,I U,I v65,I a0,I a1,I v68,I v69,I v70,I a2]):=by kernel_rfl
theorem Z25 (BF Ed GX CT Dh HI:Fn) (N4:Lp) (J G L M N:Int) (O S T:Bool) (U V X Y a0 a1 a2:Int) (p:Pth) (x:Ax3) (t:Trk):Qlx BF Ed GX CT Dh HI N4 (pxt p x t [I J,I G,I L,I M,I N,B O,B S,B T,I U,I V,I X,I Y,I a0,I a1,I a2])=
 (HI [I G]).bind λa3=>
 (N4 (I a2::B false:: .view Aa (wA a3 0)::I (↑(wA a3 0).length:Int)::I 0::pxt p x t [I J,I G,I L,I M,I N,B O,B S,B T,I U,I V,I X,I Y,I a0,I a1,I 0,I 0,I 0,I 0,I 0,I 0,I 0,I 0,I 0,I 0,I 0,I 0])).bind λD=>
 bif D.1.beq 1 then
 bif bA D.2 0 then
 some [jA D.2 16,jA D.2 17,jA D.2 18,jA D.2 19,jA D.2 20,jA D.2 21]
 else
 (BF [jA D.2 1,jA D.2 2,jA D.2 3,jA D.2 5,jA D.2 6]).bind λa4=>
 (CT [jA D.2 4,jA D.2 5,jA D.2 6,jA D.2 7,jA D.2 8,jA D.2 9,I (wrap .i64 (gA D.2 5+gA a4 0))]).bind λE=>
 some [jA E 0,jA E 1,jA E 2,jA E 3,jA E 4,jA E 5]
 else
 none:=by kernel_rfl
def Q51:=Al (Qm3 FL IT Mv JS GV PA)
def Fv:=Qlx FL IT Mv JS GV PA Q51
theorem Qtr:Aj PG (Ql1 FL IT Mv JS GV PA):=Ap rfl ⟨Qdp,Q0j,Zja,Q02,Qxz,Z9m,trivial⟩
theorem Qrc:Am PG (104,Ad Qqt Qjz Fv):=rw2 (C:=(Q2v FL IT Mv JS GV PA Q51)) (fl fb Qtr) Qtr
def Qyc (M:Fn):Nat×Spec:=(35,Ad Qfx Yi M)
def Qra (D:Fn):Cfg:=cf [YK D]
def Ln (D:Fn):Fn:=An PG (Qra D) 64 35 Qfx Yi
theorem U4 (E:Fn) (G J L D M N O S T:Int):Ln E [I G,I J,I L,I D,I M,I N,I O,I S,I T]=
 (E [I G,I J,I L,I D,I M,I N,I O,I S,I T]).bind λo1=>
 bif !bA o1 1 then
 some [I 0,B false]
 else
 bif(↑(wA o1 0).length:Int)==0 then
 some [I D,B true]
 else
 bif decide (0<=wrap .i64 ((↑(wA o1 0).length:Int)-1))&&decide (wrap .i64 ((↑(wA o1 0).length:Int)-1)<(↑(wA o1 0).length:Int))then
 some [I (Af (nth .dead (nth [] (wA o1 0) (wrap .i64 ((↑(wA o1 0).length:Int)-1)).toNat) 0)),B true]
 else
 none:=by kernel_rfl
def F5:=Ln Fk
theorem Z17:Aj PG (Qra Fk):=Ap rfl ⟨Qg8,trivial⟩
theorem Qy2:Am PG (35,Ad Qfx Yi F5):=rw1 (C:=(Qra Fk)) Z17
def Zht (M:Fn):Nat×Spec:=(200,Ad Za Zv M)
def Qrf (D:Fn):Cfg:=cf [My D]
def X0 (D:Fn):Fn:=An PG (Qrf D) 64 200 Za Zv
theorem Z0g (D:Fn) (E G:Int):X0 D [I E,I G]=
 (D [I E,I G,I 4096,I 0]).bind λo1=>
 some [jA o1 0]:=by kernel_rfl
def Qj:=X0 BE
theorem Z4g:Aj PG (Qrf BE):=Ap rfl ⟨LE,trivial⟩
theorem Z9r:Am PG (200,Ad Za Zv Qj):=rw1 (C:=(Qrf BE)) Z4g
def Zwp (M:Fn):Nat×Spec:=(201,Ad Za Zv M)
def Qau:Fn:=An PG Qbm 64 201 Za Zv
theorem Zkc (D E:Int):Qau [I D,I E]=
 some [I (mx (wrap .i64 (D-E)) (wrap .i64 (E-D)))]:=by kernel_rfl
def RG:=Qau
theorem Zsk:Am PG (201,Ad Za Zv RG):=rw1 (C:=Qbm) Zes
def Y8:Sk:=⟨[TS.v true [ci,ci,ci,CS.sl Ah,CS.sl kPt],TS.v true (cc 9++[CS.sl Aa]++cc 9++[CS.sl Aa]++cc 9++[CS.sl Aa]),TS.v true ([CS.sl Aq]++cc 5),TS.v true [ci,ci,ci],TS.v true [ci,ci,CS.bool,CS.bool,CS.bool],TS.v true (cc 6),tf [ci],tf [ci],TS.v true [ci,ci,ci,ci],tf [ci],tf [ci]],[],[]⟩
def Qrv:Sk:=⟨[TS.tup [(true,cc 6),(true,[ci,ci,ci,ci]),(false,[ci])]],[],[]⟩
def Znb (M:Fn):Nat×Spec:=(181,Ad Y8 Qrv M)
def Qao (D E G I J L M:Fn):Cfg:=cf [Qc2 D,ZO E,Qyc G,Q90 I,Q5m J,Zht L,Zwp M]
def Qly (D E G I J L M:Fn):Fn:=An PG (Qao D E G I J L M) 64 181 Y8 Qrv
abbrev Qjm (EJ:Fn) (N O S:Int) (E:List AC) (T:Int) (a2:List AC) (U V a3:Int) (BF:Fn) (D G:Int) (CT:Fn) (X Y a0 a1:Int):Option (List AC):=
 (EJ [I N,I O,I S,jA E 0,jA E 1,jA E 2,jA E 3,jA E 4,jA E 5]).bind λa4=>
 bif decide (wrap .i64 (wrap .i64 (wrap .i64 (T+gA a2 0)-U)-V)>=0)then
 bif decide (gA a4 0>wrap .i64 (a3*256))then
 (BF [I N,I O,I S,I D,I G]).bind λa5=>
 (CT [I V,I D,I G,I X,I Y,I a0,I (wrap .i64 (D+gA a5 0))]).bind λJ=>
 some [jA J 0,jA J 1,jA J 2,jA J 3,jA J 4,jA J 5,I 3,I T,I a1,I U,I 0]
 else
 (BF [I N,I O,I S,I D,I G]).bind λa6=>
 (CT [I V,I D,I G,I X,I Y,I a0,I (wrap .i64 (D+gA a6 0))]).bind λL=>
 some [jA L 0,jA L 1,jA L 2,jA L 3,jA L 4,jA L 5,I 3,I T,I a1,I U,I 18]
 else
 (BF [I N,I O,I S,I D,I G]).bind λa7=>
 (CT [I V,I D,I G,I X,I Y,I a0,I (wrap .i64 (D+gA a7 0))]).bind λM=>
 some [jA M 0,jA M 1,jA M 2,jA M 3,jA M 4,jA M 5,I 3,I T,I a1,I U,I 18]
theorem Z0s (C3 BF EJ Ed CT Nd Lr:Fn) (N O S a6 a7:Int) (b4 a8 a9:Bool) (J T U V X Y a0 b0 a1 G L M b1 b2:Int) (p:Pth) (x:Ax3) (t:Trk):Qly C3 BF EJ Ed CT Nd Lr (pxt p x t [I N,I O,I S,I a6,I a7,B b4,B a8,B a9,I J,I T,I U,I V,I X,I Y,I a0,I b0,I a1,I G,I L,I M,I b1,I b2])=
 (Lr [I b2,I L]).bind λb5=>
 (Nd [I b0,jA b5 0]).bind λa2=>
 bif a1==1 then
 (Lr [I b1,I L]).bind λb6=>
 (Nd [I b0,jA b6 0]).bind λb3=>
 (CT [I J,I T,I U,I V,I X,I Y,I (wrap .i64 (gA a2 0-gA b3 0))]).bind λE=>
 bif wrap .i64 (gA a2 0-gA b3 0) !=0 then
 (Ed (pxt p x t [I N,I O,I S,jA E 0,jA E 1,jA E 2,jA E 3,jA E 4,jA E 5,I a0])).bind λb7=>
 bif bA b7 0 then
 some [jA E 0,jA E 1,jA E 2,jA E 3,jA E 4,jA E 5,I 2,I G,I L,I (wrap .i64 (gA a2 0-wrap .i64 (gA E 0-G))),I 0]
 else
 (C3 (pxt p x t [I N,I O,I S,I a6,I a7,B false,B a8,B a9,I J,I T,I U,I V,I X,I Y,I a0])).bind λa3=>
 some [jA a3 0,jA a3 1,jA a3 2,jA a3 3,jA a3 4,jA a3 5,I a1,I G,I L,I M,I 0]
 else
 (C3 (pxt p x t [I N,I O,I S,I a6,I a7,B false,B a8,B a9,I J,I T,I U,I V,I X,I Y,I a0])).bind λa4=>
 some [jA a4 0,jA a4 1,jA a4 2,jA a4 3,jA a4 4,jA a4 5,I a1,I G,I L,I M,I 0]
 else
 bif a1==2 then
 (CT [I J,I T,I U,I V,I X,I Y,I (wrap .i64 (wrap .i64 (wrap .i64 (G+gA a2 0)-M)-J))]).bind λD=>
 bif decide (wrap .i64 (wrap .i64 (wrap .i64 (G+gA a2 0)-M)-J)>=0)then
 (Ed (pxt p x t [I N,I O,I S,jA D 0,jA D 1,jA D 2,jA D 3,jA D 4,jA D 5,I a0])).bind λb8=>
 bif bA b8 0 then
 some [jA D 0,jA D 1,jA D 2,jA D 3,jA D 4,jA D 5,I a1,I G,I L,I M,I 0]
 else
 Qjm EJ N O S D G a2 M J a0 BF T U CT V X Y L
 else
 Qjm EJ N O S D G a2 M J a0 BF T U CT V X Y L
 else
 (C3 (pxt p x t [I N,I O,I S,I a6,I a7,B false,B a8,B a9,I J,I T,I U,I V,I X,I Y,I a0])).bind λa5=>
 some [jA a5 0,jA a5 1,jA a5 2,jA a5 3,jA a5 4,jA a5 5,I a1,I G,I L,I M,I 0]:=by kernel_rfl
def Iu:=Qly Fv FL F5 IT JS Qj RG
theorem Zoi:Aj PG (Qao Fv FL F5 IT JS Qj RG):=Ap rfl ⟨Qrc,Qdp,Qy2,Q0j,Q02,Z9r,Zsk,trivial⟩
theorem Zh1:Am PG (181,Ad Y8 Qrv Iu):=rw1 (C:=(Qao Fv FL F5 IT JS Qj RG)) Zoi
def W9 (M:Fn):Nat×Spec:=(159,Ad Qdd Qll M)
def Qmc (D:Fn):Cfg:=cf [Qc2 D]
def Qq7 (D:Fn):Fn:=An PG (Qmc D) 64 159 Qdd Qll
theorem Zig (D:Fn) (E:Int) (K:Kf) (c:Cv):Qq7 D (I E::Ab K c)=
 (D (pxt K.p K.x K.t [I K.pa,I K.pb,I K.pc,I c.o0,I c.o1,B c.o2,B c.o3,B c.o4,I c.m0,I c.m1,I c.m2,I c.m3,I c.m4,I c.m5,I E])).bind λo1=>
 some (Ab K {c with m0:=gA o1 0,m1:=gA o1 1,m2:=gA o1 2,m3:=gA o1 3,m4:=gA o1 4,m5:=gA o1 5}):=by kernel_rfl
def H8:=Qq7 Fv
theorem Zng:Aj PG (Qmc Fv):=Ap rfl ⟨Qrc,trivial⟩
theorem Qn2:Am PG (159,Ad Qdd Qll H8):=rw1 (C:=(Qmc Fv)) Zng
def Qn8:Sk:=⟨[tf [CS.ptr 20000 0],tf [ci],TS.v true (cc 7)],[(20000,119,cS)],[]⟩
def Z8w (M:Fn):Nat×Spec:=(162,Ad Qn8 Qll M)
def Qmj (D E G:Fn):Cfg:=cp [Yy D,Znb E,W9 G] [108,159]
def XS (D E G:Fn):Fn:=An PG (Qmj D E G) 64 162 Qn8 Qll
theorem Zm8 (E G J:Fn) (D M N O S T U L:Int) (K:Kf) (c:Cv):XS E G J (I D::I M::I N::I O::I S::I T::I U::I L::Ab K c)=
 bif c.g0 !=0 then
 (J (I D::Ab K c)).bind λo3=>
 some (DQ (cR 0 o3) [(82,I 3)])
 else
 (G (pxt K.p K.x K.t [I K.pa,I K.pb,I K.pc,I c.o0,I c.o1,B c.o2,B c.o3,B c.o4,I c.m0,I c.m1,I c.m2,I c.m3,I c.m4,I c.m5,I D,I L,I c.e0,I c.e1,I c.e2,I c.e3,I c.before,I c.s3])).bind λo4=>
 bif gA o4 10 !=0 then
 (E (Ab K {c with m0:=gA o4 0,m1:=gA o4 1,m2:=gA o4 2,m3:=gA o4 3,m4:=gA o4 4,m5:=gA o4 5,e0:=gA o4 6,e1:=gA o4 7,e2:=gA o4 8,e3:=gA o4 9})).bind λV=>
 some (cR 0 V)
 else
 some (Ab K {c with m0:=gA o4 0,m1:=gA o4 1,m2:=gA o4 2,m3:=gA o4 3,m4:=gA o4 4,m5:=gA o4 5,e0:=gA o4 6,e1:=gA o4 7,e2:=gA o4 8,e3:=gA o4 9}):=by kernel_rfl
def PO:=XS G_ Iu H8
theorem Zst:Aj PG (Qmj G_ Iu H8):=Ap rfl ⟨Qo7,Zh1,Qn2,trivial⟩
theorem Zrk:Am PG (162,Ad Qn8 Qll PO):=rw1 (C:=(Qmj G_ Iu H8)) Zst
def Zg3 (M:Fn):Nat×Spec:=(42,Ad Za Zv M)
def Qnt (D:Fn):Cfg:=cf [My D]
def X6 (D:Fn):Fn:=An PG (Qnt D) 64 42 Za Zv
theorem Zi2 (D:Fn) (E G:Int):X6 D [I E,I G]=
 (D [I 4096,I G,I E,I 0]).bind λo1=>
 some [jA o1 0]:=by kernel_rfl
def KH:=X6 BE
theorem Z3z:Aj PG (Qnt BE):=Ap rfl ⟨LE,trivial⟩
theorem Z8a:Am PG (42,Ad Za Zv KH):=rw1 (C:=(Qnt BE)) Z3z
def Z1q (M:Fn):Nat×Spec:=(161,Ad Qn8 Qll M)
def XJ (D E G:Fn):Cfg:=cr [Zg3 D,Pi E,W9 G] [110,159] [110]
def Qo2 (D E G:Fn):Fn:=An PG (XJ D E G) 64 161 Qn8 Qll
theorem Zd4 (G J M:Fn) (N O S T U E V L:Int) (K:Kf) (c:Cv):Qo2 G J M (I N::I O::I S::I T::I U::I E::I V::I L::Ab K c)=
 (M (I N::Ab K c)).bind λD=>
 bif decide (0<=E)&&decide (E<(↑(wA D 35).length:Int))then
 bif Af (nth .dead (nth [] (wA D 35) E.toNat) 19)==3 then
 (J (cR 0 D)).bind λX=>
 (G [I L,I (wrap .i64 (gA X 0-gA D 80))]).bind λY=>
 some (DQ (cR 0 D) [(67,I (wrap .i64 (gA D 81+wrap .i64 (wrap .i64 (1*gA Y 0)*256))))])
 else
 (J (cR 0 D)).bind λo8=>
 (G [I L,I (wrap .i64 (gA o8 0-gA D 80))]).bind λo9=>
 some (DQ (cR 0 D) [(67,I (wrap .i64 (gA D 81+wrap .i64 (wrap .i64 (-1*gA o9 0)*256))))])
 else
 none:=by kernel_rfl
def QE:=Qo2 KH Dk H8
theorem Zi4:Aj PG (XJ KH Dk H8):=Hb (rs:=[110]) rfl ⟨Z8a,PF,Qn2,trivial⟩ rfl (CA rfl (Fg (CA rfl Hs)))
theorem Zg9:Am PG (161,Ad Qn8 Qll QE):=rw1 (C:=(XJ KH Dk H8)) Zi4
def Z75 (M:Fn):Nat×Spec:=(199,Ad Za Zv M)
def Qkq:Fn:=An PG Qbm 64 199 Za Zv
theorem Z6i (E D:Int):Qkq [I E,I D]=
 bif decide (D=0)then
 none
 else
 bif decide (D=0)then
 none
 else
 bif decide (E.tmod D<0)then
 some [I (wrap .i64 (wrap .i64 (E.tdiv D)-1))]
 else
 some [I (wrap .i64 (E.tdiv D))]:=by kernel_rfl
def Kn:=Qkq
theorem Z6b:Am PG (199,Ad Za Zv Kn):=rw1 (C:=Qbm) Zes
def Zw4 (M:Fn):Nat×Spec:=(180,Ad Za Zv M)
def Qod (D:Fn):Cfg:=cf [Z75 D]
def Qiq (D:Fn):Fn:=An PG (Qod D) 64 180 Za Zv
theorem Z0r (D:Fn) (E G:Int):Qiq D [I E,I G]=
 bif G== -1 then
 (D [I E,I 1048576]).bind λo2=>
 some [I (wrap .i64 (gA o2 0*1048576))]
 else
 (D [I (wrap .i64 (0-E)),I 1048576]).bind λo3=>
 some [I (wrap .i64 (wrap .i64 (0-gA o3 0)*1048576))]:=by kernel_rfl
def KU:=Qiq Kn
theorem Zze:Aj PG (Qod Kn):=Ap rfl ⟨Z6b,trivial⟩
theorem Zkx:Am PG (180,Ad Za Zv KU):=rw1 (C:=(Qod Kn)) Zze
def Qm8:Sk:=⟨[tf [CS.ptr 20000 0],TS.v true (cc 7)],[(20000,119,cS)],[]⟩
def Qg9:Sk:=⟨[tf [CS.bool]],[(20000,119,cS)],[]⟩
def Zjs (M:Fn):Nat×Spec:=(160,Ad Qm8 Qg9 M)
def VB (D E:Fn):Cfg:=cr [Pi D,Zw4 E] [110] [110]
def Qls (D E:Fn):Fn:=An PG (VB D E) 64 160 Qm8 Qg9
theorem Zw3 (E G:Fn) (J L M N D O S:Int) (K:Kf) (c:Cv):Qls E G (I J::I L::I M::I N::I D::I O::I S::Ab K c)=
 (G [I c.before,I c.s0]).bind λo3=>
 bif decide (0<=D)&&decide (D<((K.items.map Ag).length:Int))then
 bif gA (nth [] (K.items.map Ag) D.toNat) 0 !=6 then
 bif c.s1==0 then
 some (B false::Ab K c)
 else
 bif decide (wrap .i64 (wrap .i64 (c.s3-gA o3 0)*c.s0)<0)then
 some (B false::Ab K c)
 else
 (E (Ab K c)).bind λo4=>
 some (B true::Ab K {c with y0:=D,y1:=gA o4 0,y2:=c.s3,e0:=1,e1:=c.m0,e2:=gA o3 0,e3:=0})
 else
 (E (Ab K c)).bind λT=>
 some (B true::Ab K {c with y0:=D,y1:=gA T 0,y2:=c.s3,e0:=1,e1:=c.m0,e2:=gA o3 0,e3:=0})
 else
 none:=by kernel_rfl
def QJ:=Qls Dk KU
theorem Z9s:Aj PG (VB Dk KU):=Hb (rs:=[110]) rfl ⟨PF,Zkx,trivial⟩ rfl (Fg (CA rfl Hs))
theorem Zvv:Am PG (160,Ad Qm8 Qg9 QJ):=rw1 (C:=(VB Dk KU)) Z9s
def Qn0:Sk:=⟨[TS.tup [(true,cc 7),(false,[CS.bool])]],[],[]⟩
def T0 (M:Fn):Nat×Spec:=(102,EW Qn5 Qn0 M)
def QR (D E:Fn):Cfg:=cr [Qh1 D,Pi E] [110] [110]
def Qqs (D E:Fn):Fn:=LV PG (QR D E) 64 102 Qn5 Qn0
theorem Zjz (D E:Fn) (K:Kf) (c:Cv):Qqs D E (Ab K c)=
 (E (Ab K c)).bind λo2=>
 (D (Br K.p++[jA o2 0])).bind λo3=>
 bif decide (gA o3 0<0)then
 some [I 0,I 0,I 0,I 0,I 0,I 0,I 0,B false]
 else
 bif decide (0<=gA o3 0)&&decide (gA o3 0<((K.p.aE.map Av).length:Int))then
 some (AT Ah (nth [] (K.p.aE.map Av) (gA o3 0).toNat)++[B true])
 else
 none:=by kernel_rfl
def Fe:=Qqs Fc Dk
theorem Zm0:Aj PG (QR Fc Dk):=Hb (rs:=[110]) rfl ⟨Zr,PF,trivial⟩ rfl (CA rfl (Fg Hs))
theorem Z3a (vars : List AC) (R : Type) (K : TV -> Mem -> Option R) : Ff PG (QR Fc Dk) 64 102 [TV.v false [AC.ptr 20000 0]] ⟨[(20000, (⟨119, (cR 0 vars)⟩ : Box))], []⟩ K = Ff PG (QR Fc Dk) 64 102 [TV.v false [AC.ptr 20000 0]] ⟨[(20000, (⟨119, (cR 0 vars)⟩ : Box))], []⟩ (λv _ => K v ⟨[(20000, (⟨119, (cR 0 vars)⟩ : Box))], []⟩) := Eq.trans (b := ((Dk (cR 0 vars)).bind λo2 =>
 (Fc [jA vars 37,jA vars 38,jA vars 39, .view Ah (wA vars 40), .view kPt (wA vars 41),jA o2 0]).bind λo3=>
 bif decide (gA o3 0<0)then
 K (TV.tup [(true,[I 0,I 0,I 0,I 0,I 0,I 0,I 0]),(false,[B false])]) ⟨[(20000,(⟨119,(cR 0 vars)⟩:Box))],[]⟩
 else
 bif decide (0<=gA o3 0)&&decide (gA o3 0<(↑(wA vars 40).length:Int))then
 K (TV.tup [(true,[I (Af (nth .dead (nth [] (wA vars 40) (gA o3 0).toNat) 0)),I (Af (nth .dead (nth [] (wA vars 40) (gA o3 0).toNat) 1)),I (Af (nth .dead (nth [] (wA vars 40) (gA o3 0).toNat) 2)),I (Af (nth .dead (nth [] (wA vars 40) (gA o3 0).toNat) 3)),I (Af (nth .dead (nth [] (wA vars 40) (gA o3 0).toNat) 4)),I (Af (nth .dead (nth [] (wA vars 40) (gA o3 0).toNat) 5)),I (Af (nth .dead (nth [] (wA vars 40) (gA o3 0).toNat) 6))]),(false,[B true])]) ⟨[(20000,(⟨119,(cR 0 vars)⟩:Box))],[]⟩
 else
 none)) (by kernel_rfl) (Eq.symm (by kernel_rfl))
theorem Uc:Am PG (102,EW Qn5 Qn0 Fe):=Qc (C:=(QR Fc Dk)) (L:=64) (by kernel_rfl) (FnOK.bare rfl rfl rfl) Zm0 eqOk F1 (by kernel_rfl) (by kernel_rfl) (λvars R K=>Z3a vars R K)
def Zxc (M:Fn):Nat×Spec:=(109,Ad Qdd Qll M)
def Qio (D E G I J L:Fn):Cfg:=cr [Z8w D,Z1q E,Yy G,Zjs I,W9 J,T0 L] [162,161,108,160,159,102] [102]
def Z7 (D E G I J L:Fn):Fn:=An PG (Qio D E G I J L) 64 109 Qdd Qll
abbrev TI (c:Cv) (D:List AC) (U:Fn) (K:Kf) (V S:Fn) (G:Int) (T:Fn):Option (List AC):=
 bif !c.y0==gA D 4 then
 (U (jA D 0::jA D 1::jA D 2::jA D 3::jA D 4::jA D 5::jA D 6::Ab K c)).bind λE=>
 bif !bA E 0 then
 bif gA E 66==0 then
 (V (cR 1 E)).bind λJ=>
 some (cR 0 J)
 else
 some (cR 1 E)
 else
 bif decide (0<=gA D 4)&&decide (gA D 4<(↑(wA E 36).length:Int))then
 bif Af (nth .dead (nth [] (wA E 36) (gA D 4).toNat) 0)==6 then
 (S (I G::jA D 0::jA D 1::jA D 2::jA D 3::jA D 4::jA D 5::jA D 6::cR 1 E)).bind λL=>
 some (cR 0 L)
 else
 (T (I G::jA D 0::jA D 1::jA D 2::jA D 3::jA D 4::jA D 5::jA D 6::cR 1 E)).bind λM=>
 some (cR 0 M)
 else
 none
 else
 bif decide (0<=gA D 4)&&decide (gA D 4<((K.items.map Ag).length:Int))then
 bif gA (nth [] (K.items.map Ag) (gA D 4).toNat) 0==6 then
 (S (I G::jA D 0::jA D 1::jA D 2::jA D 3::jA D 4::jA D 5::jA D 6::Ab K c)).bind λN=>
 some (cR 0 N)
 else
 (T (I G::jA D 0::jA D 1::jA D 2::jA D 3::jA D 4::jA D 5::jA D 6::Ab K c)).bind λO=>
 some (cR 0 O)
 else
 none
theorem Zhf (G J L M N T:Fn) (E:Int) (K:Kf) (c:Cv):Z7 G J L M N T (I E::Ab K c)=
 (T (Ab K c)).bind λD=>
 bif gA D 6==0 then
 (N (I E::Ab K c)).bind λO=>
 some (cR 0 O)
 else
 bif c.o2 then
 bif !c.y0==gA D 4 then
 (N (I E::Ab K c)).bind λS=>
 some (cR 0 S)
 else
 TI c D M K L J E G
 else
 TI c D M K L J E G:=by kernel_rfl
def PS:=Z7 PO QE G_ QJ H8 Fe
theorem Z1a:Aj PG (Qio PO QE G_ QJ H8 Fe):=Hb (rs:=[102]) rfl ⟨Zrk,Zg9,Qo7,Zvv,Qn2,Uc,trivial⟩ rfl (CA rfl (CA rfl (CA rfl (CA rfl (CA rfl (Fg Hs))))))
theorem Zor:Am PG (109,Ad Qdd Qll PS):=rw1 (C:=(Qio PO QE G_ QJ H8 Fe)) Z1a
def Qgt (M:Fn):Nat×Spec:=(88,Ad Zv Zv M)
def W_ (D:Fn):Cfg:=cf [My D]
def Tz (D:Fn):Fn:=An PG (W_ D) 64 88 Zv Zv
theorem Q24 (D:Fn) (E:Int):Tz D [I E]=
 (D [I E,I 1048576,I 60000,I 2]).bind λo1=>
 some [jA o1 0]:=by kernel_rfl
def FE:=Tz BE
theorem Zqz:Aj PG (W_ BE):=Ap rfl ⟨LE,trivial⟩
theorem Qj9:Am PG (88,Ad Zv Zv FE):=rw1 (C:=(W_ BE)) Zqz
def Q41 (M:Fn):Nat×Spec:=(177,Ad Zv Zv M)
def Qkc:Fn:=An PG Qbm 64 177 Zv Zv
theorem Zei (D:Int):Qkc [I D]=
 bif D==3 then
 some [I 1]
 else
 bif D==4 then
 some [I (-1)]
 else
 some [I 0]:=by kernel_rfl
def Ho:=Qkc
theorem Qza:Am PG (177,Ad Zv Zv Ho):=rw1 (C:=Qbm) Zes
def Qp2:Sk:=⟨[TS.v true [ci,ci,ci,ci],tf [ci],tf [ci]],[],[]⟩
def Zd3 (M:Fn):Nat×Spec:=(150,Ad Qp2 Qpq M)
def Qkt (D E:Fn):Cfg:=cf [Qgt D,Q41 E]
def XM (D E:Fn):Fn:=An PG (Qkt D E) 64 150 Qp2 Qpq
theorem Zqx (D M:Fn) (N E G O J L:Int):XM D M [I N,I E,I G,I O,I J,I L]=
 (M [I J]).bind λo3=>
 bif gA o3 0==0 then
 bif J==5 then
 bif E==0 then
 some [B (G==0)]
 else
 some [B false]
 else
 some [B false]
 else
 bif N==gA o3 0 then
 (D [I L]).bind λo4=>
 bif E==gA o4 0 then
 (D [I L]).bind λS=>
 some [B (G==gA S 0)]
 else
 some [B false]
 else
 some [B false]:=by kernel_rfl
def Nr:=XM FE Ho
theorem Zz3:Aj PG (Qkt FE Ho):=Ap rfl ⟨Qj9,Qza,trivial⟩
theorem Z6h:Am PG (150,Ad Qp2 Qpq Nr):=rw1 (C:=(Qkt FE Ho)) Zz3
def Xe:Sk:=⟨[TS.v true [ci,ci,ci,ci]],[],[]⟩
def Zv0 (M:Fn):Nat×Spec:=(149,Ad Qp2 Xe M)
def Qb7 (D E:Fn):Cfg:=cf [Qgt D,Q41 E]
def YB (D E:Fn):Fn:=An PG (Qb7 D E) 64 149 Qp2 Xe
theorem Zmt (J N:Fn) (G D O E L M:Int):YB J N [I G,I D,I O,I E,I L,I M]=
 (N [I L]).bind λo3=>
 bif L==5 then
 some [I G,I D,I 0,I E]
 else
 bif gA o3 0==0 then
 some [I G,I D,I O,I E]
 else
 bif D==0 then
 (J [I M]).bind λo4=>
 some [jA o3 0,I D,jA o4 0,I E]
 else
 bif G==gA o3 0 then
 (J [I M]).bind λS=>
 some [jA o3 0,I D,jA S 0,I E]
 else
 some [I G,I D,I 0,I E]:=by kernel_rfl
def Lo:=YB FE Ho
theorem Z5l:Aj PG (Qb7 FE Ho):=Ap rfl ⟨Qj9,Qza,trivial⟩
theorem Zmn:Am PG (149,Ad Qp2 Xe Lo):=rw1 (C:=(Qb7 FE Ho)) Z5l
def Qlo:Sk:=⟨[tf [ci]],[(20000,119,cS)],[]⟩
def Zeu (M:Fn):Nat×Spec:=(148,Ad Qn5 Qlo M)
def Qfh:Fn:=An PG Qbm 64 148 Qn5 Qlo
theorem Zua (K:Kf) (c:Cv):Qfh (Ab K c)=
 some (I 3::Ab K {c with next:=wrap .i64 (c.idx+1),on:=false,idx:=0,aM:=false,cnt:=0}):=by kernel_rfl
def OW:=Qfh
theorem Zkb:Am PG (148,Ad Qn5 Qlo OW):=rw1 (C:=Qbm) Zes
def Qt8 (M:Fn):Nat×Spec:=(103,Ad Qn5 Qlo M)
def Zg (D E G:Fn):Cfg:=cp [Zd3 D,Zv0 E,Zeu G] [148]
def V8 (D E G:Fn):Fn:=An PG (Zg D E G) 64 103 Qn5 Qlo
theorem Zs9 (M N E:Fn) (K:Kf) (c:Cv):V8 M N E (Ab K c)=
 bif c.aM then
 bif decide (wrap .i64 (c.cnt+1)>1)then
 bif c.aI then
 (E (Ab K {c with cnt:=wrap .i64 (c.cnt+1)})).bind λO=>
 some (jA O 0::cR 1 O)
 else
 some (I 2::Ab K {c with cnt:=wrap .i64 (c.cnt+1)})
 else
 some (I 2::Ab K {c with cnt:=wrap .i64 (c.cnt+1)})
 else
 bif decide (0<=c.idx)&&decide (c.idx<((K.p.aC.map At).length:Int))then
 bif gA (nth [] (K.p.aC.map At) c.idx.toNat) 1 !=3 then
 (E (Ab K {c with cnt:=wrap .i64 (c.cnt+1)})).bind λS=>
 some (jA S 0::cR 1 S)
 else
 bif decide (0<=gA (nth [] (K.p.aC.map At) c.idx.toNat) 2)&&decide (gA (nth [] (K.p.aC.map At) c.idx.toNat) 2<((K.items.map Ag).length:Int))then
 bif gA (nth [] (K.items.map Ag) (gA (nth [] (K.p.aC.map At) c.idx.toNat) 2).toNat) 0==7 then
 bif decide (wrap .i64 (c.cnt+1)<gA (nth [] (K.items.map Ag) (gA (nth [] (K.p.aC.map At) c.idx.toNat) 2).toNat) 19)then
 some (I 3::Ab K {c with cnt:=wrap .i64 (c.cnt+1)})
 else
 (E (Ab K {c with cnt:=wrap .i64 (c.cnt+1)})).bind λT=>
 some (jA T 0::cR 1 T)
 else
 bif gA (nth [] (K.items.map Ag) (gA (nth [] (K.p.aC.map At) c.idx.toNat) 2).toNat) 0==8 then
 (N [I c.s0,I c.s1,I c.s2,I c.s3,jA (nth [] (K.items.map Ag) (gA (nth [] (K.p.aC.map At) c.idx.toNat) 2).toNat) 19,jA (nth [] (K.items.map Ag) (gA (nth [] (K.p.aC.map At) c.idx.toNat) 2).toNat) 20]).bind λD=>
 (M [jA D 0,jA D 1,jA D 2,jA D 3,jA (nth [] (K.items.map Ag) (gA (nth [] (K.p.aC.map At) c.idx.toNat) 2).toNat) 19,jA (nth [] (K.items.map Ag) (gA (nth [] (K.p.aC.map At) c.idx.toNat) 2).toNat) 20]).bind λL=>
 bif !bA L 0 then
 some (I 3::Ab K {c with s0:=gA D 0,s1:=gA D 1,s2:=gA D 2,s3:=gA D 3,cnt:=wrap .i64 (c.cnt+1)})
 else
 (E (Ab K {c with s0:=gA D 0,s1:=gA D 1,s2:=gA D 2,s3:=gA D 3,cnt:=wrap .i64 (c.cnt+1)})).bind λG=>
 some (jA G 0::cR 1 G)
 else
 bif gA (nth [] (K.items.map Ag) (gA (nth [] (K.p.aC.map At) c.idx.toNat) 2).toNat) 0==14 then
 some (I 7::Ab K {c with cnt:=wrap .i64 (c.cnt+1),aH:=7})
 else
 (E (Ab K {c with cnt:=wrap .i64 (c.cnt+1)})).bind λJ=>
 some (jA J 0::cR 1 J)
 else
 none
 else
 none:=by kernel_rfl
def KO:=V8 Nr Lo OW
theorem Zeh:Aj PG (Zg Nr Lo OW):=Ap rfl ⟨Z6h,Zmn,Zkb,trivial⟩
theorem Zbp:Am PG (103,Ad Qn5 Qlo KO):=rw1 (C:=(Zg Nr Lo OW)) Zeh
def Zpb (M:Fn):Nat×Spec:=(107,Ad Qdd Qlo M)
def Qj1 (D:Fn):Cfg:=cp [Qt8 D] [103]
def Qg2 (D:Fn):Fn:=An PG (Qj1 D) 64 107 Qdd Qlo
theorem Z8c (E:Fn) (D:Int) (K:Kf) (c:Cv):Qg2 E (I D::Ab K c)=
 bif decide (0<=D)&&decide (D<((K.p.aC.map At).length:Int))then
 bif gA (nth [] (K.p.aC.map At) D.toNat) 1==1 then
 (E (Ab K {c with on:=true,idx:=D,aM:=c.o3,cnt:=0})).bind λN=>
 some (jA N 0::cR 1 N)
 else
 bif gA (nth [] (K.p.aC.map At) D.toNat) 1==2 then
 (E (Ab K {c with on:=true,idx:=D,aM:=c.o3,cnt:=0})).bind λO=>
 some (jA O 0::cR 1 O)
 else
 bif gA (nth [] (K.p.aC.map At) D.toNat) 1==6 then
 (E (Ab K {c with on:=true,idx:=D,aM:=c.o3,cnt:=0})).bind λS=>
 some (jA S 0::cR 1 S)
 else
 bif gA (nth [] (K.p.aC.map At) D.toNat) 1==4 then
 (E (Ab K {c with on:=true,idx:=D,aM:=true,cnt:=0})).bind λG=>
 some (jA G 0::cR 1 G)
 else
 bif gA (nth [] (K.p.aC.map At) D.toNat) 1==3 then
 bif decide (0<=gA (nth [] (K.p.aC.map At) D.toNat) 2)&&decide (gA (nth [] (K.p.aC.map At) D.toNat) 2<((K.items.map Ag).length:Int))then
 bif gA (nth [] (K.items.map Ag) (gA (nth [] (K.p.aC.map At) D.toNat) 2).toNat) 0==11 then
 (E (Ab K {c with on:=true,idx:=D,aM:=true,cnt:=0})).bind λJ=>
 some (jA J 0::cR 1 J)
 else
 (E (Ab K {c with on:=true,idx:=D,aM:=gA (nth [] (K.items.map Ag) (gA (nth [] (K.p.aC.map At) D.toNat) 2).toNat) 0==12,cnt:=0})).bind λL=>
 some (jA L 0::cR 1 L)
 else
 none
 else
 (E (Ab K {c with on:=true,idx:=D,aM:=false,cnt:=0})).bind λM=>
 some (jA M 0::cR 1 M)
 else
 none:=by kernel_rfl
def PK:=Qg2 KO
theorem Zlj:Aj PG (Qj1 KO):=Ap rfl ⟨Zbp,trivial⟩
theorem Z4n:Am PG (107,Ad Qdd Qlo PK):=rw1 (C:=(Qj1 KO)) Zlj
def Qj2:Sk:=⟨[tf [CS.sl kPt],tf [ci],TS.v true [ci,ci,CS.bool,CS.bool,CS.bool],tf [ci],tf [ci]],[],[]⟩
def Z9y (M:Fn):Nat×Spec:=(158,Ad Qj2 WN M)
def Qgo (D:Fn):Cfg:=cf [Qx7 D]
def Q4p:Sk:=⟨[tf [CS.sl kPt],td,td,tf [ci],tf [ci],td,td,tf [CS.ptr 7 0],td,td,td,td,tf [ci]]++dd 32,[(7,92,[ci,ci,CS.bool,CS.bool,CS.bool])],[]⟩
def Qy6:List (Ex×Sk):=[(Ex.ret,⟨dd 10++[tf [ci],tf [ci]]++dd 33,[],[]⟩),(Ex.exit 0,⟨[td,td,td,tf [ci]]++dd 41,[],[]⟩)]
def RT (D:Fn):Lp:=AW PG (Qgo D) 64 2 (AV PG 158 2) Q4p Qy6
def Qu5 (D:Fn) (E:Lp):Cfg:=(Qgo D).loop 2 Q4p Qy6 E
def Qfl (D:Fn) (E:Lp):Fn:=An PG (Qu5 D E) 64 158 Qj2 WN
theorem Znj (S:Fn) (v0:Rw) (E G D J L:Int) (M N O:Bool):RT S [.view kPt v0,I E,I G,I D,I J,I L,B M,B N,B O]=
 bif decide (D<(v0.length:Int))then
 bif decide (0<=D)&&decide (D<(v0.length:Int))then
 (S [jA (nth [] v0 D.toNat) 0,jA (nth [] v0 D.toNat) 1,jA (nth [] v0 D.toNat) 2,I J,I L,B M,B N,B O]).bind λo2=>
 bif bA o2 0 then
 bif decide (G<=gA (nth [] v0 D.toNat) 0)then
 bif decide (gA (nth [] v0 D.toNat) 0<=E)then
 some (1,[jA (nth [] v0 D.toNat) 0,I D])
 else
 some (0,[.view kPt v0,I E,I G,I (wrap .i64 (D+1)),I J,I L,B M,B N,B O])
 else
 some (0,[.view kPt v0,I E,I G,I (wrap .i64 (D+1)),I J,I L,B M,B N,B O])
 else
 some (0,[.view kPt v0,I E,I G,I (wrap .i64 (D+1)),I J,I L,B M,B N,B O])
 else
 none
 else
 some (2,[I E]):=by kernel_rfl
theorem Zg5 (U:Fn) (D:Lp) (E:Rw) (G J L:Int) (M N O:Bool) (S T:Int):Qfl U D [.view kPt E,I G,I J,I L,B M,B N,B O,I S,I T]=
 (D [.view kPt E,I S,I T,I (mx G 0),I J,I L,B M,B N,B O]).bind λo3=>
 bif o3.1.beq 1 then
 some [jA o3.2 0,jA o3.2 1]
 else
 bif o3.1.beq 2 then
 some [jA o3.2 0,I (-1)]
 else
 none:=by kernel_rfl
def Q0n:=Al (RT I1)
def P_:=Qfl I1 Q0n
theorem Q96:Aj PG (Qgo I1):=Ap rfl ⟨Qw0,trivial⟩
theorem Z8x:Am PG (158,Ad Qj2 WN P_):=rw2 (C:=(Qu5 I1 Q0n)) (fl fb Q96) Q96
def Z2r (M:Fn):Nat×Spec:=(157,Ad XY Zv M)
def Q74:Sk:=⟨[td,tf [ci]]++dd 11++[tf [CS.sl Aq],tf [ci],tf [ci]]++dd 28,[],[]⟩
def Qs0:List (Ex×Sk):=[(Ex.ret,⟨[td,td,td,td,tf [ci]]++dd 39,[],[]⟩),(Ex.exit 0,⟨[td]++dd 43,[],[]⟩)]
def RH:Lp:=AW PG Qbm 64 4 (AV PG 157 4) Q74 Qs0
def Qxb (D:Lp):Cfg:=Qbm.loop 4 Q74 Qs0 D
def Q9w (D:Lp):Fn:=An PG (Qxb D) 64 157 XY Zv
theorem Qvm (v0:Int) (E:Rw) (G D:Int):RH [I v0, .view Aq E,I G,I D]=
 bif decide (D<G)then
 bif decide (0<=D)&&decide (D<(E.length:Int))then
 bif gA (nth [] E D.toNat) 3 !=0 then
 bif decide (0<=wrap .i64 (wrap .i64 (v0-gA (nth [] E D.toNat) 2)*gA (nth [] E D.toNat) 3))then
 bif decide (wrap .i64 (wrap .i64 (v0-gA (nth [] E D.toNat) 2)*gA (nth [] E D.toNat) 3)<=gA (nth [] E D.toNat) 1)then
 some (1,[I (wrap .i64 (gA (nth [] E D.toNat) 0+wrap .i64 (wrap .i64 (v0-gA (nth [] E D.toNat) 2)*gA (nth [] E D.toNat) 3)))])
 else
 some (0,[I v0, .view Aq E,I G,I (wrap .i64 (D+1))])
 else
 some (0,[I v0, .view Aq E,I G,I (wrap .i64 (D+1))])
 else
 some (0,[I v0, .view Aq E,I G,I (wrap .i64 (D+1))])
 else
 none
 else
 some (2,[]):=by kernel_rfl
theorem Z8q (G:Lp) (D:Rw) (L J M N O E:Int):Q9w G [.view Aq D,I L,I J,I M,I N,I O,I E]=
 bif E==J then
 some [I 0]
 else
 (G [I E, .view Aq D,I (D.length:Int),I 0]).bind λo1=>
 bif o1.1.beq 1 then
 some [jA o1.2 0]
 else
 bif o1.1.beq 2 then
 some [I (-1)]
 else
 none:=by kernel_rfl
def LR:=Al (RH)
def NN:=Q9w LR
theorem Zm2:Am PG (157,Ad XY Zv NN):=rw2 (C:=(Qxb LR)) (fl fb Zes) Zes
def Qno:Sk:=⟨[TS.tup [(false,[ci]),(false,[ci])]],[(20000,119,cS)],[]⟩
def Zzj (M:Fn):Nat×Spec:=(106,Ad Qn5 Qno M)
def Yo (D E G I:Fn):Cfg:=cf [Z9y D,Z2r E,Q1 G,Qyc I]
def ZP (D E G I:Fn):Fn:=An PG (Yo D E G I) 64 106 Qn5 Qno
abbrev Uo (U:Fn) (K:Kf) (c:Cv) (V M T:Fn) (D:AC):Option (List AC):=
 (U [I K.pa,I K.pb,I K.pc,I c.m0,I c.m1,I c.m2,I c.m3,I c.m4,I c.m5]).bind λG=>
 (V (A8 K.t++[I (wrap .i64 ((wrap .i64 (wrap .i64 (gA G 0+256)-1)).tdiv 256))])).bind λE=>
 (M (A8 K.t++[jA E 0])).bind λN=>
 bif gA N 0 !=wrap .i64 ((wrap .i64 (wrap .i64 (gA G 0+256)-1)).tdiv 256)then
 (T [.view kPt (K.p.aC.map At),I c.next,I c.o0,I c.o1,B c.o2,B c.o3,B c.o4,D,I (wrap .i64 (gA E 0+1))]).bind λJ=>
 (M (A8 K.t++[jA J 0])).bind λO=>
 some (jA O 0::jA J 1::Ab K c)
 else
 (T [.view kPt (K.p.aC.map At),I c.next,I c.o0,I c.o1,B c.o2,B c.o3,B c.o4,D,jA E 0]).bind λL=>
 (M (A8 K.t++[jA L 0])).bind λS=>
 some (jA S 0::jA L 1::Ab K c)
theorem Z8g (D E G J:Fn) (K:Kf) (c:Cv):ZP D E G J (Ab K c)=
 bif K.closed then
 Uo J K c G E D (I K.len)
 else
 Uo J K c G E D (I K.set):=by kernel_rfl
def Q4:=ZP P_ NN En F5
theorem Z0q:Aj PG (Yo P_ NN En F5):=Ap rfl ⟨Z8x,Zm2,Rd,Qy2,trivial⟩
theorem Z3l:Am PG (106,Ad Qn5 Qno Q4):=rw1 (C:=(Yo P_ NN En F5)) Z0q
def Zn0 (M:Fn):Nat×Spec:=(70,Ad Qn5 Qlo M)
def Qhs (D E G I:Fn):Cfg:=cp [Zxc D,Yy E,Zpb G,Zzj I] [109,108,107,106]
def XX (D E G I:Fn):Fn:=An PG (Qhs D E G I) 64 70 Qn5 Qlo
theorem Zyz (G O S T:Fn) (K:Kf) (c:Cv):XX G O S T (Ab K c)=
 (T (Ab K c)).bind λD=>
 bif bA D 90 then
 bif gA D 52==wrap .i64 (gA D 0*256)then
 bif decide (gA D 1>=0)then
 (S (jA D 1::cR 2 D)).bind λE=>
 bif decide (0<=gA D 1)&&decide (gA D 1<(↑(wA E 42).length:Int))then
 bif Af (nth .dead (nth [] (wA E 42) (gA D 1).toNat) 2)==gA E 80 then
 bif decide (0<=Af (nth .dead (nth [] (wA E 42) (gA D 1).toNat) 2))&&decide (Af (nth .dead (nth [] (wA E 42) (gA D 1).toNat) 2)<(↑(wA E 36).length:Int))then
 bif Af (nth .dead (nth [] (wA E 36) (Af (nth .dead (nth [] (wA E 42) (gA D 1).toNat) 2)).toNat) 0)==5 then
 bif gA E 83==1 then
 (O (cR 1 E)).bind λU=>
 some (jA E 0::cR 0 U)
 else
 some (jA E 0::cR 1 E)
 else
 some (jA E 0::cR 1 E)
 else
 none
 else
 some (jA E 0::cR 1 E)
 else
 none
 else
 bif bA D 38 then
 some (I 7::DQ (cR 2 D) [(78,I 7)])
 else
 some (I 1::cR 2 D)
 else
 bif gA D 63 !=0 then
 (G (jA D 0::cR 2 D)).bind λJ=>
 bif bA D 90 then
 some (I 6::cR 0 J)
 else
 some (I 1::cR 0 J)
 else
 (G (jA D 0::cR 2 D)).bind λM=>
 some (I 1::cR 0 M)
 else
 bif gA D 63 !=0 then
 (G (jA D 0::cR 2 D)).bind λL=>
 bif bA D 90 then
 some (I 6::cR 0 L)
 else
 some (I 1::cR 0 L)
 else
 (G (jA D 0::cR 2 D)).bind λN=>
 some (I 1::cR 0 N):=by kernel_rfl
def Ki:=XX PS G_ PK Q4
theorem Z1p:Aj PG (Qhs PS G_ PK Q4):=Ap rfl ⟨Zor,Qo7,Z4n,Z3l,trivial⟩
theorem Zqs:Am PG (70,Ad Qn5 Qlo Ki):=rw1 (C:=(Qhs PS G_ PK Q4)) Z1p
def Qi4 (M:Fn):Nat×Spec:=(59,Ad Zv Qjz M)
def Qbo:Fn:=An PG Qbm 64 59 Zv Qjz
theorem Z4j (D:Int):Qbo [I D]=
 some [I (wrap .i64 (D*256)),I 0,I 0,I (wrap .i64 (D*256)),I (wrap .i64 (D*256)),I (wrap .i64 (D*256))]:=by kernel_rfl
def Hw:=Qbo
theorem Wh:Am PG (59,Ad Zv Qjz Hw):=rw1 (C:=Qbm) Zes
def Qqu:Sk:=⟨[TS.v true (cc 9++[CS.sl Aa]++cc 9++[CS.sl Aa]++cc 9++[CS.sl Aa]),TS.v true [ci,ci,ci],TS.v true [ci,ci,ci]],[],[]⟩
def Znr (M:Fn):Nat×Spec:=(95,Ad Qqu Zv M)
def Xs:Cfg:={cf []with unroll:=[3]}
def Q00:Fn:=An PG Xs 64 95 Qqu Zv
theorem Zex (x0 x1 x2 x3 x4 x5 N x7 x8:Int) (x9:Rw) (T U V X Y a0 D a1 a2:Int) (a3:Rw) (a4 a5 a6 a7 a8 a9 E b0 b1:Int) (b2:Rw) (O L G S M J:Int):Q00 [I x0,I x1,I x2,I x3,I x4,I x5,I N,I x7,I x8, .view Aa x9,I T,I U,I V,I X,I Y,I a0,I D,I a1,I a2, .view Aa a3,I a4,I a5,I a6,I a7,I a8,I a9,I E,I b0,I b1, .view Aa b2,I O,I L,I G,I S,I M,I J]=
 bif O !=S then
 bif L !=M then
 bif G !=J then
 some [I (mx (mx (mx 0 N) D) E)]
 else
 some [I (mx (mx 0 N) D)]
 else
 bif G !=J then
 some [I (mx (mx 0 N) E)]
 else
 some [I (mx 0 N)]
 else
 bif L !=M then
 bif G !=J then
 some [I (mx (mx 0 D) E)]
 else
 some [I (mx 0 D)]
 else
 bif G !=J then
 some [I (mx 0 E)]
 else
 some [I 0]:=by kernel_rfl
def NC:=Q00
theorem Zdh:Aj PG (Xs):=Ap rfl trivial
theorem Zri:Am PG (95,Ad Qqu Zv NC):=rw1 (C:=Xs) Zdh
def Qgu:Sk:=⟨[TS.v true [ci,ci,ci],TS.v true [ci,ci,ci],TS.v true [ci,ci,ci],tf [ci]],[],[]⟩
def Z9j (M:Fn):Nat×Spec:=(94,Ad Qgu Qah M)
def Qc4:Cfg:={cf []with unroll:=[2]}
def Zbj:Fn:=An PG Qc4 64 94 Qgu Qah
abbrev RW (G J:Int) (D:AC) (L M:Int) (E:AC):Option (List AC):=
 bif decide (G>J)then
 some [D,E,I L]
 else
 bif decide (G<J)then
 some [D,E,I (wrap .i64 (0-L))]
 else
 some [D,E,I M]
abbrev TA (M N G J E L O:Int) (D:AC):Option (List AC):=
 bif decide (M>N)then
 RW G J D E L (I E)
 else
 bif decide (M<N)then
 RW G J D E L (I (wrap .i64 (0-E)))
 else
 RW G J D E L (I O)
theorem Zgx (T E G O J L S M N D:Int):Zbj [I T,I E,I G,I O,I J,I L,I S,I M,I N,I D]=
 bif decide (S>O)then
 TA M J N L D G E (I D)
 else
 bif decide (S<O)then
 TA M J N L D G E (I (wrap .i64 (0-D)))
 else
 TA M J N L D G E (I T):=by kernel_rfl
def OD:=Zbj
theorem Zv2:Aj PG (Qc4):=Ap rfl trivial
theorem Z69:Am PG (94,Ad Qgu Qah OD):=rw1 (C:=Qc4) Zv2
def Qlw:Sk:=⟨[TS.v true (cc 10),tf [CS.ptr 20000 0]],[(20000,62,[CS.own 20000 10]++cc 5)],[(20000,135,Aq)]⟩
def YX:Sk:=⟨[TS.tup []],[(20000,62,[CS.own 20000 10]++cc 5)],[(20000,135,Aq)]⟩
def Q31 (M:Fn):Nat×Spec:=(92,Ad Qlw YX M)
def Vk:Fn:=An PG Qbm 64 92 Qlw YX
theorem Zad (D:Rw) (x1 J V S X Y x7 T U G E L M N O:Int):Vk [.view Aq D,I x1,I J,I V,I S,I X,I Y,I x7,I T,I U,I G,I E,I L,I M,I N,I O]=
 bif decide ((D.length:Int)>0)then
 bif S !=0 then
 bif decide (0<=wrap .i64 ((D.length:Int)-1))&&decide (wrap .i64 ((D.length:Int)-1)<(D.length:Int))then
 bif gA (nth [] D (wrap .i64 ((D.length:Int)-1)).toNat) 3==S then
 bif decide (0<=wrap .i64 ((D.length:Int)-1))&&decide (wrap .i64 ((D.length:Int)-1)<(D.length:Int))then
 bif gA (nth [] D (wrap .i64 ((D.length:Int)-1)).toNat) 7==T&&(gA (nth [] D (wrap .i64 ((D.length:Int)-1)).toNat) 8==U&&(gA (nth [] D (wrap .i64 ((D.length:Int)-1)).toNat) 9==G&&true))then
 bif decide (0<=wrap .i64 ((D.length:Int)-1))&&decide (wrap .i64 ((D.length:Int)-1)<(D.length:Int))then
 bif decide (0<=wrap .i64 ((D.length:Int)-1))&&decide (wrap .i64 ((D.length:Int)-1)<(D.length:Int))then
 some [.view Aq (D.set (wrap .i64 ((D.length:Int)-1)).toNat [jA (nth [] D (wrap .i64 ((D.length:Int)-1)).toNat) 0,I (wrap .i64 (gA (nth [] D (wrap .i64 ((D.length:Int)-1)).toNat) 1+J)),jA (nth [] D (wrap .i64 ((D.length:Int)-1)).toNat) 2,jA (nth [] D (wrap .i64 ((D.length:Int)-1)).toNat) 3,jA (nth [] D (wrap .i64 ((D.length:Int)-1)).toNat) 4,jA (nth [] D (wrap .i64 ((D.length:Int)-1)).toNat) 5,jA (nth [] D (wrap .i64 ((D.length:Int)-1)).toNat) 6,jA (nth [] D (wrap .i64 ((D.length:Int)-1)).toNat) 7,jA (nth [] D (wrap .i64 ((D.length:Int)-1)).toNat) 8,jA (nth [] D (wrap .i64 ((D.length:Int)-1)).toNat) 9]),I (wrap .i64 (E+J)),I L,I M,I N,I O]
 else
 none
 else
 none
 else
 bif((D++[[I E,I J,I V,I S,I X,I Y,I x7,I T,I U,I G]]).length*80).ble 140737488355328 then
 some [.view Aq (D++[[I E,I J,I V,I S,I X,I Y,I x7,I T,I U,I G]]),I (wrap .i64 (E+J)),I L,I M,I N,I O]
 else
 none
 else
 none
 else
 bif((D++[[I E,I J,I V,I S,I X,I Y,I x7,I T,I U,I G]]).length*80).ble 140737488355328 then
 some [.view Aq (D++[[I E,I J,I V,I S,I X,I Y,I x7,I T,I U,I G]]),I (wrap .i64 (E+J)),I L,I M,I N,I O]
 else
 none
 else
 none
 else
 bif((D++[[I E,I J,I V,I S,I X,I Y,I x7,I T,I U,I G]]).length*80).ble 140737488355328 then
 some [.view Aq (D++[[I E,I J,I V,I S,I X,I Y,I x7,I T,I U,I G]]),I (wrap .i64 (E+J)),I L,I M,I N,I O]
 else
 none
 else
 bif((D++[[I E,I J,I V,I S,I X,I Y,I x7,I T,I U,I G]]).length*80).ble 140737488355328 then
 some [.view Aq (D++[[I E,I J,I V,I S,I X,I Y,I x7,I T,I U,I G]]),I (wrap .i64 (E+J)),I L,I M,I N,I O]
 else
 none:=by kernel_rfl
def Nm:=Vk
theorem Qsn:Am PG (92,Ad Qlw YX Nm):=rw1 (C:=Qbm) Zes
def Qnp:Sk:=⟨[TS.v true [ci,ci,ci],TS.v true [ci,ci,ci],tf [ci],tf [ci],tf [CS.ptr 20000 0],tf [CS.ptr 20001 0],tf [CS.ptr 20002 0],tf [CS.ptr 20003 0]],[(20000,44,[ci,ci,ci]),(20001,3,[ci]),(20002,27,cc 9++[CS.sl Aa]++cc 9++[CS.sl Aa]++cc 9++[CS.sl Aa]),(20003,153,[CS.clo 92 [] [(20004,0)]]),(20004,62,[CS.own 20000 10]++cc 5)],[(20000,135,Aq)]⟩
def Qit:Sk:=⟨[TS.tup []],[(20000,44,[ci,ci,ci]),(20001,3,[ci]),(20002,27,cc 9++[CS.sl Aa]++cc 9++[CS.sl Aa]++cc 9++[CS.sl Aa]),(20003,153,[CS.clo 92 [] [(20004,0)]]),(20004,62,[CS.own 20000 10]++cc 5)],[(20000,135,Aq)]⟩
def Qzk (M:Fn):Nat×Spec:=(93,Ad Qnp Qit M)
def Zj (D E G:Fn):Cfg:=cp [Znr D,Z9j E,Q31 G] [92]
def Qp1 (D E G:Fn):Fn:=An PG (Zj D E G) 64 93 Qnp Qit
theorem Z04 (OR PD Gf:Fn) (x0:Rw) (x1 x2 x3 x4 x5 x6 x7 x8 x9 G J E L M N O S T U V X:Int) (Y:Rw) (a0 a1 a2 a3 a4 a5 a6 a7 a8:Int) (a9:Rw) (b0 b1 b2 b3 b4 b5 b6 b7 b8:Int) (b9:Rw) (c0 c1 c2 c3 c4:Int):Qp1 OR PD Gf [.view Aq x0,I x1,I x2,I x3,I x4,I x5,I x6,I x7,I x8,I x9,I G,I J,I E,I L,I M,I N,I O,I S,I T,I U,I V,I X, .view Aa Y,I a0,I a1,I a2,I a3,I a4,I a5,I a6,I a7,I a8, .view Aa a9,I b0,I b1,I b2,I b3,I b4,I b5,I b6,I b7,I b8, .view Aa b9,I c0,I c1,I c2,I c3,I c4]=
 (PD [I x9,I G,I J,I x1,I x2,I x3,I x4,I x5,I x6,I E]).bind λD=>
 (OR [I L,I M,I N,I O,I S,I T,I U,I V,I X, .view Aa Y,I a0,I a1,I a2,I a3,I a4,I a5,I a6,I a7,I a8, .view Aa a9,I b0,I b1,I b2,I b3,I b4,I b5,I b6,I b7,I b8, .view Aa b9,I x9,I G,I J,jA D 0,jA D 1,jA D 2]).bind λo6=>
 bif decide (gA o6 0>0)then
 (Gf [.view Aq x0,I 0,jA o6 0,I x7,I 0,I x9,I G,I J,jA D 0,jA D 1,jA D 2,I c0,I c1,I c2,I c3,I c4]).bind λo7=>
 (Gf [.view Aq (wA o7 0),I 0,I x8,I x7,I E,jA D 0,jA D 1,jA D 2,jA D 0,jA D 1,jA D 2,jA o7 1,jA o7 2,jA o7 3,jA o7 4,jA o7 5]).bind λo8=>
 some [.view Aq (wA o8 0),jA D 0,jA D 1,jA D 2,I E,I L,I M,I N,I O,I S,I T,I U,I V,I X, .view Aa Y,I a0,I a1,I a2,I a3,I a4,I a5,I a6,I a7,I a8, .view Aa a9,I b0,I b1,I b2,I b3,I b4,I b5,I b6,I b7,I b8, .view Aa b9,jA o8 1,jA o8 2,jA o8 3,jA o8 4,jA o8 5]
 else
 (Gf [.view Aq x0,I 0,I x8,I x7,I E,jA D 0,jA D 1,jA D 2,jA D 0,jA D 1,jA D 2,I c0,I c1,I c2,I c3,I c4]).bind λo9=>
 some [.view Aq (wA o9 0),jA D 0,jA D 1,jA D 2,I E,I L,I M,I N,I O,I S,I T,I U,I V,I X, .view Aa Y,I a0,I a1,I a2,I a3,I a4,I a5,I a6,I a7,I a8, .view Aa a9,I b0,I b1,I b2,I b3,I b4,I b5,I b6,I b7,I b8, .view Aa b9,jA o9 1,jA o9 2,jA o9 3,jA o9 4,jA o9 5]:=by kernel_rfl
def Gk:=Qp1 NC OD Nm
theorem Z0n:Aj PG (Zj NC OD Nm):=Ap rfl ⟨Zri,Z69,Qsn,trivial⟩
theorem Q53:Am PG (93,Ad Qnp Qit Gk):=rw1 (C:=(Zj NC OD Nm)) Z0n
def Z1:Sk:=⟨[TS.v true [ci,ci,ci,CS.sl Ah,CS.sl kPt],tf [ci],tf [ci],tf [ci],tf [CS.clo 93 [] [(20000,0),(20001,0),(20002,0),(20003,0)]]],[(20000,44,[ci,ci,ci]),(20001,3,[ci]),(20002,27,cc 9++[CS.sl Aa]++cc 9++[CS.sl Aa]++cc 9++[CS.sl Aa]),(20003,153,[CS.clo 92 [] [(20004,0)]]),(20004,62,[CS.own 20000 10]++cc 5)],[(20000,135,Aq)]⟩
def Zzs (M:Fn):Nat×Spec:=(96,Ad Z1 Qit M)
def Wj (D:Fn):Cfg:={cp [Qzk D] [93]with prom:=λb=>bif Nat.beq b 4 then [(11,3)]else []}
def Q3z:Sk:=⟨[td,tf [ci],tf [ci],tf [ci],tf [CS.clo 93 [] [(20000,0),(20001,0),(20002,0),(20003,0)]],tf [CS.ptr 5 0],td,td,td,td,tf [ci],tf [CS.own 11 1]]++dd 9++[tf [CS.sl Ah],tf [ci],tf [ci]]++dd 78,[(5,58,[ci,ci,ci,CS.sl Ah,CS.sl kPt]),(20000,44,[ci,ci,ci]),(20001,3,[ci]),(20002,27,cc 9++[CS.sl Aa]++cc 9++[CS.sl Aa]++cc 9++[CS.sl Aa]),(20003,153,[CS.clo 92 [] [(20004,0)]]),(20004,62,[CS.own 20000 10]++cc 5)],[(11,3,Aa),(20000,135,Aq)]⟩
def Qr9:List (Ex×Sk):=[(Ex.exit 0,⟨[td,tf [ci],tf [ci],tf [ci],tf [CS.clo 93 [] [(20000,0),(20001,0),(20002,0),(20003,0)]],tf [CS.ptr 5 0],td,td,td,td,td,tf [CS.own 11 1]]++dd 90,[(5,58,[ci,ci,ci,CS.sl Ah,CS.sl kPt]),(20000,44,[ci,ci,ci]),(20001,3,[ci]),(20002,27,cc 9++[CS.sl Aa]++cc 9++[CS.sl Aa]++cc 9++[CS.sl Aa]),(20003,153,[CS.clo 92 [] [(20004,0)]]),(20004,62,[CS.own 20000 10]++cc 5)],[(11,3,Aa),(20000,135,Aq)]⟩)]
def Uv (D:Fn):Lp:=AW PG (Wj D) 64 4 (AV PG 96 4) Q3z Qr9
def Q6m (D:Fn) (E:Lp):Cfg:=(Wj D).loop 4 Q3z Qr9 E
def Q6r:Sk:=⟨[td,tf [ci],tf [ci],tf [ci],tf [CS.clo 93 [] [(20000,0),(20001,0),(20002,0),(20003,0)]],tf [CS.ptr 5 0],td,td,td,td,td,tf [CS.own 11 1]]++dd 26++[tf [ci],tf [ci]]++dd 62,[(5,58,[ci,ci,ci,CS.sl Ah,CS.sl kPt]),(20000,44,[ci,ci,ci]),(20001,3,[ci]),(20002,27,cc 9++[CS.sl Aa]++cc 9++[CS.sl Aa]++cc 9++[CS.sl Aa]),(20003,153,[CS.clo 92 [] [(20004,0)]]),(20004,62,[CS.own 20000 10]++cc 5)],[(11,3,Aa),(20000,135,Aq)]⟩
def Q1r:List (Ex×Sk):=[(Ex.exit 2,⟨[td]++dd 101,[(20000,44,[ci,ci,ci]),(20001,3,[ci]),(20002,27,cc 9++[CS.sl Aa]++cc 9++[CS.sl Aa]++cc 9++[CS.sl Aa]),(20003,153,[CS.clo 92 [] [(20004,0)]]),(20004,62,[CS.own 20000 10]++cc 5)],[(20000,135,Aq)]⟩)]
def UT (D:Fn) (E:Lp):Lp:=AW PG (Q6m D E) 64 10 (AV PG 96 10) Q6r Q1r
def Q8j (E:Fn) (G D:Lp):Cfg:=(Q6m E G).loop 10 Q6r Q1r D
def Qdw (E:Fn) (G D:Lp):Fn:=An PG (Q8j E G D) 64 96 Z1 Qit
theorem Qzy (B1:Fn) (v0 v1:Rw) (v2 v3 v4 v5:Int) (v6:Rw) (v7 v8 v9 v10 v11:Int) (v12 D:Rw) (E G J L M N v20 v21 v22 O v24 v25 S:Int) (v27:Rw) (v28 T v30 v31 U v33 V v35 v36:Int) (v37:Rw) (v38 X v40 Y v42 a0 v44 a1 v46:Int) (a2:Rw) (v48 v49 a3 v51 a4:Int):Uv B1 [.view Aa v0, .view Aq v1,I v2,I v3,I v4,I v5, .view Ah v6,I v7,I v8,I v9,I v10,I v11, .view Ah v12, .view kPt D,I E,I G,I J,I L,I M,I N,I v20,I v21,I v22,I O,I v24,I v25,I S, .view Aa v27,I v28,I T,I v30,I v31,I U,I v33,I V,I v35,I v36, .view Aa v37,I v38,I X,I v40,I Y,I v42,I a0,I v44,I a1,I v46, .view Aa a2,I v48,I v49,I a3,I v51,I a4]=
 bif decide (v8<v7)then
 bif decide (0<=v8)&&decide (v8<(v6.length:Int))then
 bif((v0++[[I v5]]).length*8).ble 140737488355328 then
 some (0,[.view Aa (v0++[[I v5]]), .view Aq v1,I v2,I v3,I v4,I (wrap .i64 (v5+gA (nth [] v6 v8.toNat) 3)), .view Ah v6,I v7,I (wrap .i64 (v8+1)),I v9,I v10,I v11, .view Ah v12, .view kPt D,I E,I G,I J,I L,I M,I N,I v20,I v21,I v22,I O,I v24,I v25,I S, .view Aa v27,I v28,I T,I v30,I v31,I U,I v33,I V,I v35,I v36, .view Aa v37,I v38,I X,I v40,I Y,I v42,I a0,I v44,I a1,I v46, .view Aa a2,I v48,I v49,I a3,I v51,I a4])
 else
 none
 else
 none
 else
 some (1,[.view Aa v0, .view Aq v1,I v2,I v3,I v4,I v9,I v10,I v11, .view Ah v12, .view kPt D,I E,I G,I J,I L,I M,I N,I v20,I v21,I v22,I O,I v24,I v25,I S, .view Aa v27,I v28,I T,I v30,I v31,I U,I v33,I V,I v35,I v36, .view Aa v37,I v38,I X,I v40,I Y,I v42,I a0,I v44,I a1,I v46, .view Aa a2,I v48,I v49,I a3,I v51,I a4]):=by kernel_rfl
abbrev RE (J:Bool) (B1:Fn) (v1:Rw) (L M E G:AC) (v12 U V X Y a0 a1 a2 v20 v21 v22 a3 v24:Int) (v25:Rw) (a4 v27 v28 a5 v30 v31 a6 v33 a7:Int) (v35:Rw) (v36 v37 v38 a8 v40 a9 v42 b0 v44:Int) (b1:Rw) (v46 b2 v48 v49 b3:Int) (v0:Rw) (v2 v3 v4 v5 v6 v7 v8 v9:Int) (v10 v11:Rw) (N O S T:AC):Option (Nat×List AC):=
 bif J then
 (B1 [.view Aq v1,N,O,S,L,M,E,T,G,I v12,I U,I V,I X,I Y,I a0,I a1,I a2,I v20,I v21,I v22,I a3,I v24, .view Aa v25,I a4,I v27,I v28,I a5,I v30,I v31,I a6,I v33,I a7, .view Aa v35,I v36,I v37,I v38,I a8,I v40,I a9,I v42,I b0,I v44, .view Aa b1,I v46,I b2,I v48,I v49,I b3]).bind λD=>
 some (0,[.view Aa v0, .view Aq (wA D 0),I v2,I v3,I v4,I v5,I (wrap .i64 (v6+1)),I v7,I v8,I v9, .view Ah v10, .view kPt v11,jA D 1,jA D 2,jA D 3,jA D 4,jA D 5,jA D 6,jA D 7,jA D 8,jA D 9,jA D 10,jA D 11,jA D 12,jA D 13, .view Aa (wA D 14),jA D 15,jA D 16,jA D 17,jA D 18,jA D 19,jA D 20,jA D 21,jA D 22,jA D 23, .view Aa (wA D 24),jA D 25,jA D 26,jA D 27,jA D 28,jA D 29,jA D 30,jA D 31,jA D 32,jA D 33, .view Aa (wA D 34),jA D 35,jA D 36,jA D 37,jA D 38,jA D 39])
 else
 none
abbrev Qa8 (v0 v1:Rw) (v2 v3 v4 v5 v6 v7 v8 v9:Int) (v10 v11:Rw) (v12 M N O S T U V v20 v21 v22 X v24:Int) (v25:Rw) (Y v27 v28 a0 v30 v31 a1 v33 a2:Int) (v35:Rw) (v36 v37 v38 a3 v40 a4 v42 a5 v44:Int) (a6:Rw) (v46 a7 v48 v49 a8:Int) (B1:Fn) (b1 G b5 b6 b7:Bool) (b2 b3 b4 J L D a9 E b0:AC):Option (Nat×List AC):=
 bif b1 then
 bif b1 then
 bif G then
 bif b5 then
 some (0,[.view Aa v0, .view Aq v1,I v2,I v3,I v4,I v5,I (wrap .i64 (v6+1)),I v7,I v8,I v9, .view Ah v10, .view kPt v11,I v12,I M,I N,I O,I S,I T,I U,I V,I v20,I v21,I v22,I X,I v24, .view Aa v25,I Y,I v27,I v28,I a0,I v30,I v31,I a1,I v33,I a2, .view Aa v35,I v36,I v37,I v38,I a3,I v40,I a4,I v42,I a5,I v44, .view Aa a6,I v46,I a7,I v48,I v49,I a8])
 else
 bif b6 then
 bif b7 then
 bif decide (v4<0)then
 RE G B1 v1 J L D E v12 M N O S T U V v20 v21 v22 X v24 v25 Y v27 v28 a0 v30 v31 a1 v33 a2 v35 v36 v37 v38 a3 v40 a4 v42 a5 v44 a6 v46 a7 v48 v49 a8 v0 v2 v3 v4 v5 v6 v7 v8 v9 v10 v11 b2 b3 b4 a9
 else
 RE G B1 v1 J L D E v12 M N O S T U V v20 v21 v22 X v24 v25 Y v27 v28 a0 v30 v31 a1 v33 a2 v35 v36 v37 v38 a3 v40 a4 v42 a5 v44 a6 v46 a7 v48 v49 a8 v0 v2 v3 v4 v5 v6 v7 v8 v9 v10 v11 b2 b3 b4 b0
 else
 none
 else
 bif decide (v4<0)then
 RE G B1 v1 J L D E v12 M N O S T U V v20 v21 v22 X v24 v25 Y v27 v28 a0 v30 v31 a1 v33 a2 v35 v36 v37 v38 a3 v40 a4 v42 a5 v44 a6 v46 a7 v48 v49 a8 v0 v2 v3 v4 v5 v6 v7 v8 v9 v10 v11 (I v7) (I v8) (I v9) a9
 else
 RE G B1 v1 J L D E v12 M N O S T U V v20 v21 v22 X v24 v25 Y v27 v28 a0 v30 v31 a1 v33 a2 v35 v36 v37 v38 a3 v40 a4 v42 a5 v44 a6 v46 a7 v48 v49 a8 v0 v2 v3 v4 v5 v6 v7 v8 v9 v10 v11 (I v7) (I v8) (I v9) b0
 else
 none
 else
 none
 else
 none
theorem Q8v (B1:Fn) (N4:Lp) (v0 v1:Rw) (E G v4 v5 D v7 v8 v9:Int) (v10 v11:Rw) (v12 J L M N O S T v20 v21 v22 U v24:Int) (v25:Rw) (V v27 v28 X v30 v31 Y v33 a0:Int) (v35:Rw) (v36 v37 v38 a1 v40 a2 v42 a3 v44:Int) (a4:Rw) (v46 a5 v48 v49 a6:Int):UT B1 N4 [.view Aa v0, .view Aq v1,I E,I G,I v4,I v5,I D,I v7,I v8,I v9, .view Ah v10, .view kPt v11,I v12,I J,I L,I M,I N,I O,I S,I T,I v20,I v21,I v22,I U,I v24, .view Aa v25,I V,I v27,I v28,I X,I v30,I v31,I Y,I v33,I a0, .view Aa v35,I v36,I v37,I v38,I a1,I v40,I a2,I v42,I a3,I v44, .view Aa a4,I v46,I a5,I v48,I v49,I a6]=
 bif decide (D<v5)then
 bif decide (v4<0)then
 Qa8 v0 v1 E G v4 v5 D v7 v8 v9 v10 v11 v12 J L M N O S T v20 v21 v22 U v24 v25 V v27 v28 X v30 v31 Y v33 a0 v35 v36 v37 v38 a1 v40 a2 v42 a3 v44 a4 v46 a5 v48 v49 a6 B1 (decide (0<=wrap .i64 (wrap .i64 ((v10.length:Int)-1)-D))&&decide (wrap .i64 (wrap .i64 ((v10.length:Int)-1)-D)<(v0.length:Int))) (decide (0<=wrap .i64 (wrap .i64 ((v10.length:Int)-1)-D))&&decide (wrap .i64 (wrap .i64 ((v10.length:Int)-1)-D)<(v10.length:Int))) (decide (mx (Af (nth .dead (nth [] v0 (wrap .i64 (wrap .i64 ((v10.length:Int)-1)-D)).toNat) 0)) E>=mn (wrap .i64 (Af (nth .dead (nth [] v0 (wrap .i64 (wrap .i64 ((v10.length:Int)-1)-D)).toNat) 0)+Af (nth .dead (nth [] v10 (wrap .i64 (wrap .i64 ((v10.length:Int)-1)-D)).toNat) 3))) G)) (decide (wrap .i64 (wrap .i64 ((v10.length:Int)-1)-D)>0)) (decide (0<=wrap .i64 (wrap .i64 (wrap .i64 ((v10.length:Int)-1)-D)-1))&&decide (wrap .i64 (wrap .i64 (wrap .i64 ((v10.length:Int)-1)-D)-1)<(v10.length:Int))) (I (Af (nth .dead (nth [] v10 (wrap .i64 (wrap .i64 (wrap .i64 ((v10.length:Int)-1)-D)-1)).toNat) 0))) (I (Af (nth .dead (nth [] v10 (wrap .i64 (wrap .i64 (wrap .i64 ((v10.length:Int)-1)-D)-1)).toNat) 1))) (I (Af (nth .dead (nth [] v10 (wrap .i64 (wrap .i64 (wrap .i64 ((v10.length:Int)-1)-D)-1)).toNat) 2))) (I (Af (nth .dead (nth [] v10 (wrap .i64 (wrap .i64 ((v10.length:Int)-1)-D)).toNat) 0))) (I (Af (nth .dead (nth [] v10 (wrap .i64 (wrap .i64 ((v10.length:Int)-1)-D)).toNat) 1))) (I (Af (nth .dead (nth [] v10 (wrap .i64 (wrap .i64 ((v10.length:Int)-1)-D)).toNat) 2))) (I (mn (wrap .i64 (Af (nth .dead (nth [] v0 (wrap .i64 (wrap .i64 ((v10.length:Int)-1)-D)).toNat) 0)+Af (nth .dead (nth [] v10 (wrap .i64 (wrap .i64 ((v10.length:Int)-1)-D)).toNat) 3))) G)) (I (wrap .i64 (mn (wrap .i64 (Af (nth .dead (nth [] v0 (wrap .i64 (wrap .i64 ((v10.length:Int)-1)-D)).toNat) 0)+Af (nth .dead (nth [] v10 (wrap .i64 (wrap .i64 ((v10.length:Int)-1)-D)).toNat) 3))) G-mx (Af (nth .dead (nth [] v0 (wrap .i64 (wrap .i64 ((v10.length:Int)-1)-D)).toNat) 0)) E))) (I (mx (Af (nth .dead (nth [] v0 (wrap .i64 (wrap .i64 ((v10.length:Int)-1)-D)).toNat) 0)) E))
 else
 Qa8 v0 v1 E G v4 v5 D v7 v8 v9 v10 v11 v12 J L M N O S T v20 v21 v22 U v24 v25 V v27 v28 X v30 v31 Y v33 a0 v35 v36 v37 v38 a1 v40 a2 v42 a3 v44 a4 v46 a5 v48 v49 a6 B1 (decide (0<=D)&&decide (D<(v0.length:Int))) (decide (0<=D)&&decide (D<(v10.length:Int))) (decide (mx (gA (nth [] v0 D.toNat) 0) E>=mn (wrap .i64 (gA (nth [] v0 D.toNat) 0+gA (nth [] v10 D.toNat) 3)) G)) (decide (D>0)) (decide (0<=wrap .i64 (D-1))&&decide (wrap .i64 (D-1)<(v10.length:Int))) (jA (nth [] v10 (wrap .i64 (D-1)).toNat) 0) (jA (nth [] v10 (wrap .i64 (D-1)).toNat) 1) (jA (nth [] v10 (wrap .i64 (D-1)).toNat) 2) (jA (nth [] v10 D.toNat) 0) (jA (nth [] v10 D.toNat) 1) (jA (nth [] v10 D.toNat) 2) (I (mn (wrap .i64 (gA (nth [] v0 D.toNat) 0+gA (nth [] v10 D.toNat) 3)) G)) (I (wrap .i64 (mn (wrap .i64 (gA (nth [] v0 D.toNat) 0+gA (nth [] v10 D.toNat) 3)) G-mx (gA (nth [] v0 D.toNat) 0) E))) (I (mx (gA (nth [] v0 D.toNat) 0) E))
 else
 some (1,[.view Aq v1,I v12,I J,I L,I M,I N,I O,I S,I T,I v20,I v21,I v22,I U,I v24, .view Aa v25,I V,I v27,I v28,I X,I v30,I v31,I Y,I v33,I a0, .view Aa v35,I v36,I v37,I v38,I a1,I v40,I a2,I v42,I a3,I v44, .view Aa a4,I v46,I a5,I v48,I v49,I a6]):=by kernel_rfl
theorem Zqy (B1:Fn) (N4 G:Lp) (x0:Rw) (x1 x2 x3:Int) (x4 x5:Rw) (x6 x7 x8 x9 J L M N O S T U V X Y a0:Int) (a1:Rw) (a2 a3 a4 a5 a6 a7 a8 a9 b0:Int) (b1:Rw) (b2 b3 b4 b5 b6 b7 b8 b9 c0:Int) (c1:Rw) (c2 c3 c4 c5 c6:Int):Qdw B1 N4 G [.view Aq x0,I x1,I x2,I x3, .view Ah x4, .view kPt x5,I x6,I x7,I x8,I x9,I J,I L,I M,I N,I O,I S,I T,I U,I V,I X,I Y,I a0, .view Aa a1,I a2,I a3,I a4,I a5,I a6,I a7,I a8,I a9,I b0, .view Aa b1,I b2,I b3,I b4,I b5,I b6,I b7,I b8,I b9,I c0, .view Aa c1,I c2,I c3,I c4,I c5,I c6]=
 (N4 [.view Aa [], .view Aq x0,I x6,I x7,I x8,I 0, .view Ah x4,I (x4.length:Int),I 0,I x1,I x2,I x3, .view Ah x4, .view kPt x5,I x9,I J,I L,I M,I N,I O,I S,I T,I U,I V,I X,I Y,I a0, .view Aa a1,I a2,I a3,I a4,I a5,I a6,I a7,I a8,I a9,I b0, .view Aa b1,I b2,I b3,I b4,I b5,I b6,I b7,I b8,I b9,I c0, .view Aa c1,I c2,I c3,I c4,I c5,I c6]).bind λD=>
 bif D.1.beq 1 then
 (G [.view Aa (wA D.2 0), .view Aq (wA D.2 1),jA D.2 2,jA D.2 3,jA D.2 4,I (↑(wA D.2 8).length:Int),I 0,jA D.2 5,jA D.2 6,jA D.2 7, .view Ah (wA D.2 8), .view kPt (wA D.2 9),jA D.2 10,jA D.2 11,jA D.2 12,jA D.2 13,jA D.2 14,jA D.2 15,jA D.2 16,jA D.2 17,jA D.2 18,jA D.2 19,jA D.2 20,jA D.2 21,jA D.2 22, .view Aa (wA D.2 23),jA D.2 24,jA D.2 25,jA D.2 26,jA D.2 27,jA D.2 28,jA D.2 29,jA D.2 30,jA D.2 31,jA D.2 32, .view Aa (wA D.2 33),jA D.2 34,jA D.2 35,jA D.2 36,jA D.2 37,jA D.2 38,jA D.2 39,jA D.2 40,jA D.2 41,jA D.2 42, .view Aa (wA D.2 43),jA D.2 44,jA D.2 45,jA D.2 46,jA D.2 47,jA D.2 48]).bind λE=>
 bif E.1.beq 1 then
 some [.view Aq (wA E.2 0),jA E.2 1,jA E.2 2,jA E.2 3,jA E.2 4,jA E.2 5,jA E.2 6,jA E.2 7,jA E.2 8,jA E.2 9,jA E.2 10,jA E.2 11,jA E.2 12,jA E.2 13, .view Aa (wA E.2 14),jA E.2 15,jA E.2 16,jA E.2 17,jA E.2 18,jA E.2 19,jA E.2 20,jA E.2 21,jA E.2 22,jA E.2 23, .view Aa (wA E.2 24),jA E.2 25,jA E.2 26,jA E.2 27,jA E.2 28,jA E.2 29,jA E.2 30,jA E.2 31,jA E.2 32,jA E.2 33, .view Aa (wA E.2 34),jA E.2 35,jA E.2 36,jA E.2 37,jA E.2 38,jA E.2 39]
 else
 none
 else
 none:=by kernel_rfl
def OU:=Al (Uv Gk)
def Qge:=Al (UT Gk OU)
def PY:=Qdw Gk OU Qge
theorem Qnx:Aj PG (Wj Gk):=Ap rfl ⟨Q53,trivial⟩
theorem Zry:Am PG (96,Ad Z1 Qit PY):=rw2 (C:=(Q8j Gk OU Qge)) (fl (fl fb Qnx) Qnx) Qnx
def YJ:Sk:=⟨[TS.v true [ci,ci,ci,CS.sl Ah,CS.sl kPt]],[],[]⟩
def Q87 (M:Fn):Nat×Spec:=(91,Ad YJ Zv M)
def Qyv:Sk:=⟨[td,td,td,tf [ci],td,td,td,tf [CS.sl Ah],tf [ci],tf [ci]]++dd 9,[],[]⟩
def Q17:List (Ex×Sk):=[(Ex.exit 0,⟨[td,td,td,tf [ci]]++dd 15,[],[]⟩)]
def R2:Lp:=AW PG Qbm 64 3 (AV PG 91 3) Qyv Q17
def Zbq (D:Lp):Cfg:=Qbm.loop 3 Qyv Q17 D
def Q1c (D:Lp):Fn:=An PG (Zbq D) 64 91 YJ Zv
theorem Q2p (v0:Int) (E:Rw) (G D:Int):R2 [I v0, .view Ah E,I G,I D]=
 bif decide (D<G)then
 bif decide (0<=D)&&decide (D<(E.length:Int))then
 some (0,[I (wrap .i64 (v0+gA (nth [] E D.toNat) 3)), .view Ah E,I G,I (wrap .i64 (D+1))])
 else
 none
 else
 some (1,[I v0]):=by kernel_rfl
theorem Zn7 (E:Lp) (G J L:Int) (D M:Rw):Q1c E [I G,I J,I L, .view Ah D, .view kPt M]=
 (E [I 0, .view Ah D,I (D.length:Int),I 0]).bind λo1=>
 bif o1.1.beq 1 then
 some [jA o1.2 0]
 else
 none:=by kernel_rfl
def Sf:=Al (R2)
def JV:=Q1c Sf
theorem Q6q:Am PG (91,Ad YJ Zv JV):=rw2 (C:=(Zbq Sf)) (fl fb Zes) Zes
def Qqy:Sk:=⟨[TS.v true [ci,ci,ci,CS.sl Ah,CS.sl kPt],TS.v true (cc 9++[CS.sl Aa]++cc 9++[CS.sl Aa]++cc 9++[CS.sl Aa]),TS.v true [ci,ci,ci],tf [ci],tf [ci]],[],[]⟩
def XD:Sk:=⟨[TS.v true ([CS.sl Aq]++cc 5)],[],[]⟩
def Qva (M:Fn):Nat×Spec:=(58,Ad Qqy XD M)
def Qht (D E G I J:Fn):Cfg:=cp [Zzs D,Qzk E,Q31 G,UV I,Q87 J] [96,93,92]
def Qgs (D E G I J:Fn):Fn:=An PG (Qht D E G I J) 64 58 Qqy XD
theorem Zhy (LQ B1 Gf CD GO:Fn) (x0 x1 x2:Int) (x3 x4:Rw) (x5 x6 x7 x8 x9 J L M N:Int) (O:Rw) (S T U V X Y a0 a1 a2:Int) (a3:Rw) (a4 a5 a6 a7 a8 a9 b0 b1 b2:Int) (b3:Rw) (D E G b4 b5:Int):Qgs LQ B1 Gf CD GO [I x0,I x1,I x2, .view Ah x3, .view kPt x4,I x5,I x6,I x7,I x8,I x9,I J,I L,I M,I N, .view Aa O,I S,I T,I U,I V,I X,I Y,I a0,I a1,I a2, .view Aa a3,I a4,I a5,I a6,I a7,I a8,I a9,I b0,I b1,I b2, .view Aa b3,I D,I E,I G,I b4,I b5]=
 (GO [I x0,I x1,I x2, .view Ah x3, .view kPt x4]).bind λo5=>
 (CD [I b4,jA o5 0]).bind λo6=>
 (CD [I b5,jA o5 0]).bind λo7=>
 bif decide (gA o6 0>gA o7 0)then
 (LQ [.view Aq [],I x0,I x1,I x2, .view Ah x3, .view kPt x4,I (mn (gA o6 0) (gA o7 0)),I (mx (gA o6 0) (gA o7 0)),I (-1),I D,I E,I G,I (-1),I x5,I x6,I x7,I x8,I x9,I J,I L,I M,I N, .view Aa O,I S,I T,I U,I V,I X,I Y,I a0,I a1,I a2, .view Aa a3,I a4,I a5,I a6,I a7,I a8,I a9,I b0,I b1,I b2, .view Aa b3,I 0,jA o6 0,I D,I E,I G]).bind λo8=>
 some [.view Aq (wA o8 0),jA o8 35,jA o8 36,jA o8 37,jA o8 38,jA o8 39]
 else
 (LQ [.view Aq [],I x0,I x1,I x2, .view Ah x3, .view kPt x4,I (mn (gA o6 0) (gA o7 0)),I (mx (gA o6 0) (gA o7 0)),I 1,I D,I E,I G,I 1,I x5,I x6,I x7,I x8,I x9,I J,I L,I M,I N, .view Aa O,I S,I T,I U,I V,I X,I Y,I a0,I a1,I a2, .view Aa a3,I a4,I a5,I a6,I a7,I a8,I a9,I b0,I b1,I b2, .view Aa b3,I 0,jA o6 0,I D,I E,I G]).bind λo9=>
 some [.view Aq (wA o9 0),jA o9 35,jA o9 36,jA o9 37,jA o9 38,jA o9 39]:=by kernel_rfl
def J9:=Qgs PY Gk Nm FX JV
theorem Zjy:Aj PG (Qht PY Gk Nm FX JV):=Ap rfl ⟨Zry,Q53,Qsn,SP,Q6q,trivial⟩
theorem Qsq:Am PG (58,Ad Qqy XD J9):=rw1 (C:=(Qht PY Gk Nm FX JV)) Zjy
def Z85 (M:Fn):Nat×Spec:=(156,Ad XY Qah M)
def Q9q:Sk:=⟨[td,tf [ci],tf [CS.ptr 2 0],td,tf [CS.ptr 4 0]]++dd 8++[tf [CS.sl Aq],tf [ci],tf [ci]]++dd 29,[(2,62,[CS.sl Aq]++cc 5),(4,44,[ci,ci,ci])],[]⟩
def Qs3:List (Ex×Sk):=[(Ex.ret,⟨[td,td,td,td,tf [CS.ptr 4 0]]++dd 40,[(4,44,[ci,ci,ci])],[]⟩),(Ex.exit 0,⟨[td,td,tf [CS.ptr 2 0],td,tf [CS.ptr 4 0]]++dd 40,[(2,62,[CS.sl Aq]++cc 5),(4,44,[ci,ci,ci])],[]⟩)]
def Si:Lp:=AW PG Qbm 64 3 (AV PG 156 3) Q9q Qs3
def Zcc (D:Lp):Cfg:=Qbm.loop 3 Q9q Qs3 D
def Qlk (D:Lp):Fn:=An PG (Zcc D) 64 156 XY Qah
theorem Z2e (v0:Int) (E:Rw) (G D:Int) (J:Rw) (L M N O S v10 v11 v12:Int):Si [I v0, .view Aq E,I G,I D, .view Aq J,I L,I M,I N,I O,I S,I v10,I v11,I v12]=
 bif decide (D<G)then
 bif decide (0<=D)&&decide (D<(E.length:Int))then
 bif decide (v0>wrap .i64 (gA (nth [] E D.toNat) 0+gA (nth [] E D.toNat) 1))then
 some (0,[I v0, .view Aq E,I G,I (wrap .i64 (D+1)), .view Aq J,I L,I M,I N,I O,I S,I v10,I v11,I v12])
 else
 bif gA (nth [] E D.toNat) 3 !=0 then
 some (1,[jA (nth [] E D.toNat) 7,jA (nth [] E D.toNat) 8,jA (nth [] E D.toNat) 9])
 else
 bif v0==wrap .i64 (gA (nth [] E D.toNat) 0+gA (nth [] E D.toNat) 1)then
 some (1,[jA (nth [] E D.toNat) 7,jA (nth [] E D.toNat) 8,jA (nth [] E D.toNat) 9])
 else
 some (1,[jA (nth [] E D.toNat) 4,jA (nth [] E D.toNat) 5,jA (nth [] E D.toNat) 6])
 else
 none
 else
 some (2,[.view Aq J,I L,I M,I N,I O,I S,I v10,I v11,I v12]):=by kernel_rfl
theorem Z3q (G:Lp) (D:Rw) (E J L M N O:Int):Qlk G [.view Aq D,I E,I J,I L,I M,I N,I O]=
 (G [I (mx 0 (mn O E)), .view Aq D,I (D.length:Int),I 0, .view Aq D,I E,I J,I L,I M,I N,I 0,I 0,I 0]).bind λo1=>
 bif o1.1.beq 1 then
 some [jA o1.2 0,jA o1.2 1,jA o1.2 2]
 else
 bif o1.1.beq 2 then
 some [jA o1.2 3,jA o1.2 4,jA o1.2 5]
 else
 none:=by kernel_rfl
def Zaw:=Al (Si)
def Ti:=Qlk Zaw
theorem Zuo:Am PG (156,Ad XY Qah Ti):=rw2 (C:=(Zcc Zaw)) (fl fb Zes) Zes
def Zk9 (M:Fn):Nat×Spec:=(155,Ad XY Qpq M)
def Qn9 (D E:Fn):Cfg:=cf [Qpi D,UV E]
def Qeo (D E:Fn):Fn:=An PG (Qn9 D E) 64 155 XY Qpq
theorem Zpe (G J:Fn) (D:Rw) (E L M N O S:Int):Qeo G J [.view Aq D,I E,I L,I M,I N,I O,I S]=
 (J [I S,I E]).bind λo2=>
 (G [.view Aq D,I E,I L,I M,I N,I O,jA o2 0]).bind λo3=>
 bif decide (gA o3 0<0)then
 some [B false]
 else
 bif decide (0<=gA o3 0)&&decide (gA o3 0<(D.length:Int))then
 bif gA (nth [] D (gA o3 0).toNat) 3==0 then
 bif decide (gA (nth [] D (gA o3 0).toNat) 0<gA o2 0)then
 some [B (decide (gA o2 0<wrap .i64 (gA (nth [] D (gA o3 0).toNat) 0+gA (nth [] D (gA o3 0).toNat) 1)))]
 else
 some [B false]
 else
 some [B false]
 else
 none:=by kernel_rfl
def Qr:=Qeo He FX
theorem Zia:Aj PG (Qn9 He FX):=Ap rfl ⟨Qi1,SP,trivial⟩
theorem Zqp:Am PG (155,Ad XY Qpq Qr):=rw1 (C:=(Qn9 He FX)) Zia
def Q2g (M:Fn):Nat×Spec:=(64,Ad Qjz Qpq M)
def Qb2:Fn:=An PG Qbm 64 64 Qjz Qpq
theorem Zzv (D E G J L M:Int):Qb2 [I D,I E,I G,I J,I L,I M]=
 bif E==0 then
 bif G==0 then
 bif J==D then
 some [B (L==D)]
 else
 some [B false]
 else
 some [B false]
 else
 some [B false]:=by kernel_rfl
def HW:=Qb2
theorem Qyl:Am PG (64,Ad Qjz Qpq HW):=rw1 (C:=Qbm) Zes
def Zd:Sk:=⟨[TS.v true [ci,ci,ci,CS.sl Ah,CS.sl kPt],TS.v true (cc 9++[CS.sl Aa]++cc 9++[CS.sl Aa]++cc 9++[CS.sl Aa]),TS.v true ([CS.sl Aq]++cc 5),TS.v true (cc 6),tf [ci]],[],[]⟩
def Qco:Sk:=⟨[TS.tup [(true,[CS.sl Aq]++cc 5),(true,cc 6),(false,[CS.bool])]],[],[]⟩
def Qxy (M:Fn):Nat×Spec:=(105,Ad Zd Qco M)
def Qch (D E G I J L:Fn):Cfg:={cf [Qi4 D,Qva E,Q1 G,Z85 I,Zk9 J,Q2g L]with ownBut:=[10]}
def Qaj (D E G I J L:Fn):Fn:=An PG (Qch D E G I J L) 64 105 Zd Qco
theorem Z9i (U V X Y OG B7:Fn) (G J L M N O S:Int) (p:Pth) (x:Ax3) (t:Trk):Qaj U V X Y OG B7 (pxt p x t [I G,I J,I L,I M,I N,I O,I S])=
 (B7 [I G,I J,I L,I M,I N,I O]).bind λo6=>
 bif !bA o6 0 then
 some [.view Aq [],I 0,I 0,I 0,I 0,I 0,I 0,I 0,I 0,I 0,I 0,I 0,B false]
 else
 (OG (A8 t++[I (wrap .i64 (G.tdiv 256))])).bind λo7=>
 bif bA o7 0 then
 some [.view Aq [],I 0,I 0,I 0,I 0,I 0,I 0,I 0,I 0,I 0,I 0,I 0,B false]
 else
 (Y (A8 t++[I (wrap .i64 (G.tdiv 256))])).bind λT=>
 (X (A8 t++[I (wrap .i64 (G.tdiv 256))])).bind λo9=>
 (V (Br p++(AM x++[jA T 0,jA T 1,jA T 2,jA o9 0,I S]))).bind λD=>
 (U [I 0]).bind λE=>
 some [.view Aq (wA D 0),jA D 1,jA D 2,jA D 3,jA D 4,jA D 5,jA E 0,jA E 1,jA E 2,jA E 3,jA E 4,jA E 5,B true]:=by kernel_rfl
def KE:=Qaj Hw J9 En Ti Qr HW
theorem Zof:Aj PG (Qch Hw J9 En Ti Qr HW):=Ap rfl ⟨Wh,Qsq,Rd,Zuo,Zqp,Qyl,trivial⟩
theorem Q0s:Am PG (105,Ad Zd Qco KE):=rw1 (C:=(Qch Hw J9 En Ti Qr HW)) Zof
def XT:Sk:=⟨[TS.tup [(false,[ci]),(false,[CS.bool])]],[(20000,119,cS)],[]⟩
def Zph (M:Fn):Nat×Spec:=(69,Ad Qn5 XT M)
def Wu (D E:Fn):Cfg:=cf [Qxy D,Qc2 E]
def Sz (D E:Fn):Fn:=An PG (Wu D E) 64 69 Qn5 XT
abbrev Qb (J:Fn) (K:Kf) (c:Cv) (E G:AC):Option (List AC):=
 (J (pxt K.p K.x K.t [I c.m0,I c.m1,I c.m2,I c.m3,I c.m4,I c.m5,G])).bind λD=>
 bif !bA D 12 then
 some (E::B true::Ab K c)
 else
 bif c.way==1 then
 some (E::B true::DQ (Ab K c) [(44, .view Aq (wA D 0)),(45,jA D 1),(46,jA D 2),(47,jA D 3),(48,jA D 4),(49,jA D 5),(50,jA D 6),(51,jA D 7),(52,jA D 8),(53,jA D 9),(54,jA D 10),(55,jA D 11),(71,I 2),(89,B true)])
 else
 some (E::B true::DQ (Ab K c) [(44, .view Aq (wA D 0)),(45,jA D 1),(46,jA D 2),(47,jA D 3),(48,jA D 4),(49,jA D 5),(50,jA D 6),(51,jA D 7),(52,jA D 8),(53,jA D 9),(54,jA D 10),(55,jA D 11),(58,B true),(71,I 0),(89,B true)])
abbrev TN (c:Cv) (J:Fn) (K:Kf) (L:Fn) (D:AC):Option (List AC):=
 bif !c.aL then
 (J (pxt K.p K.x K.t [I K.pa,I K.pb,I K.pc,I c.o0,I c.o1,B c.o2,B c.o3,B c.o4,I c.m0,I c.m1,I c.m2,I c.m3,I c.m4,I c.m5,I K.t.length])).bind λE=>
 some (D::B true::Ab K {c with m0:=gA E 0,m1:=gA E 1,m2:=gA E 2,m3:=gA E 3,m4:=gA E 4,m5:=gA E 5})
 else
 bif c.m0 !=wrap .i64 (K.t.length*256)then
 (J (pxt K.p K.x K.t [I K.pa,I K.pb,I K.pc,I c.o0,I c.o1,B c.o2,B c.o3,B c.o4,I c.m0,I c.m1,I c.m2,I c.m3,I c.m4,I c.m5,I K.t.length])).bind λG=>
 some (D::B true::Ab K {c with m0:=gA G 0,m1:=gA G 1,m2:=gA G 2,m3:=gA G 3,m4:=gA G 4,m5:=gA G 5})
 else
 bif c.way==2 then
 Qb L K c D (I K.len)
 else
 Qb L K c D (I c.home)
theorem Qyt (D E:Fn) (K:Kf) (c:Cv):Sz D E (Ab K c)=
 bif c.way==0 then
 some (I 0::B false::Ab K c)
 else
 bif c.way==2 then
 TN c E K D (I 5)
 else
 TN c E K D (I 4):=by kernel_rfl
def Jc:=Sz KE Fv
theorem Zfh:Aj PG (Wu KE Fv):=Ap rfl ⟨Q0s,Qrc,trivial⟩
theorem Z0y:Am PG (69,Ad Qn5 XT Jc):=rw1 (C:=(Wu KE Fv)) Zfh
def Zv4 (M:Fn):Nat×Spec:=(68,Ad Qn5 XT M)
def Qh9 (D:Fn):Cfg:=cp [Qt8 D] [103]
def UW (D:Fn):Fn:=An PG (Qh9 D) 64 68 Qn5 XT
theorem Q0e (D:Fn) (K:Kf) (c:Cv):UW D (Ab K c)=
 bif !c.on then
 some (I 0::B false::Ab K c)
 else
 (D (Ab K c)).bind λo1=>
 some (jA o1 0::B true::cR 1 o1):=by kernel_rfl
def KQ:=UW KO
theorem Z2c:Aj PG (Qh9 KO):=Ap rfl ⟨Zbp,trivial⟩
theorem Z13:Am PG (68,Ad Qn5 XT KQ):=rw1 (C:=(Qh9 KO)) Z2c
def Zwj (M:Fn):Nat×Spec:=(67,Ad Qn5 XT M)
def Qi6:Fn:=An PG Qbm 64 67 Qn5 XT
theorem Zln (K:Kf) (c:Cv):Qi6 (Ab K c)=
 bif !c.aG then
 some (I 0::B false::Ab K c)
 else
 bif !c.aL then
 some (I 0::B false::Ab K c)
 else
 some (I 8::B true::Ab K {c with aH:=8}):=by kernel_rfl
def L3:=Qi6
theorem Zf0:Am PG (67,Ad Qn5 XT L3):=rw1 (C:=Qbm) Zes
def Zpi (M:Fn):Nat×Spec:=(66,Ad Qn5 XT M)
def VA:Fn:=An PG Qbm 64 66 Qn5 XT
theorem Zey (K:Kf) (c:Cv):VA (Ab K c)=
 some (I c.aH::B (c.aH !=0)::Ab K c):=by kernel_rfl
def LN:=VA
theorem Zr2:Am PG (66,Ad Qn5 XT LN):=rw1 (C:=Qbm) Zes
def Zpr (M:Fn):Nat×Spec:=(65,Ad Qn5 XT M)
def Qj8 (D E:Fn):Cfg:=cr [Qi4 D,Qd E] [63] [63]
def Qjv (D E:Fn):Fn:=An PG (Qj8 D E) 64 65 Qn5 XT
theorem Zq8 (D E:Fn) (K:Kf) (c:Cv):Qjv D E (Ab K c)=
 bif c.g0 !=2 then
 some (I 0::B false::Ab K c)
 else
 (E (Ab K c)).bind λo2=>
 (D [jA o2 0]).bind λo3=>
 some (I 6::B true::Ab K {c with m0:=gA o3 0,m1:=gA o3 1,m2:=gA o3 2,m3:=gA o3 3,m4:=gA o3 4,m5:=gA o3 5}):=by kernel_rfl
def LL:=Qjv Hw Dj
theorem Zwo:Aj PG (Qj8 Hw Dj):=Hb (rs:=[63]) rfl ⟨Wh,Qh,trivial⟩ rfl (CA rfl (Fg Hs))
theorem Znq:Am PG (65,Ad Qn5 XT LL):=rw1 (C:=(Qj8 Hw Dj)) Zwo
def Qpe:Sk:=⟨[TS.v true [ci,ci,ci,ci],tf [ci]],[],[]⟩
def Z8i (M:Fn):Nat×Spec:=(62,Ad Qpe Xe M)
def XZ:Fn:=An PG Qbm 64 62 Qpe Xe
theorem Zsi (G E D L J:Int):XZ [I G,I E,I D,I L,I J]=
 bif decide (E<D)then
 some [I G,I (mn (wrap .i64 (E+J)) D),I D,I (wrap .i64 (L+wrap .i64 (G*mn (wrap .i64 (E+J)) D)))]
 else
 some [I G,I (mx (wrap .i64 (E-J)) D),I D,I (wrap .i64 (L+wrap .i64 (G*mx (wrap .i64 (E-J)) D)))]:=by kernel_rfl
def Ko:=XZ
theorem Zfb:Am PG (62,Ad Qpe Xe Ko):=rw1 (C:=Qbm) Zes
def Zvo (M:Fn):Nat×Spec:=(61,EW Qn5 Qpq M)
def PQ (D:Fn):Cfg:=cr [T0 D] [102] [102]
def Ve (D:Fn):Fn:=LV PG (PQ D) 64 61 Qn5 Qpq
theorem Zdp (D:Fn) (K:Kf) (c:Cv):Ve D (Ab K c)=
 (D (Ab K c)).bind λo1=>
 bif bA o1 7 then
 bif decide (0<=gA o1 4)&&decide (gA o1 4<((K.items.map Ag).length:Int))then
 bif gA (nth [] (K.items.map Ag) (gA o1 4).toNat) 0==6 then
 some [B (c.y0==gA o1 4)]
 else
 some [B false]
 else
 none
 else
 some [B false]:=by kernel_rfl
def Lf:=Ve Fe
theorem Zp8:Aj PG (PQ Fe):=Hb (rs:=[102]) rfl ⟨Uc,trivial⟩ rfl (Fg Hs)
theorem Zl8 (vars : List AC) (R : Type) (K : TV -> Mem -> Option R) : Ff PG (PQ Fe) 64 61 [TV.v false [AC.ptr 20000 0]] ⟨[(20000, (⟨119, (cR 0 vars)⟩ : Box))], []⟩ K = Ff PG (PQ Fe) 64 61 [TV.v false [AC.ptr 20000 0]] ⟨[(20000, (⟨119, (cR 0 vars)⟩ : Box))], []⟩ (λv _ => K v ⟨[(20000, (⟨119, (cR 0 vars)⟩ : Box))], []⟩) := Eq.trans (b := ((Fe (cR 0 vars)).bind λo1 =>
 bif bA o1 7 then
 bif decide (0<=gA o1 4)&&decide (gA o1 4<(↑(wA vars 35).length:Int))then
 bif Af (nth .dead (nth [] (wA vars 35) (gA o1 4).toNat) 0)==6 then
 K (TV.v false [B ((gA vars 79)==gA o1 4)]) ⟨[(20000,(⟨119,(cR 0 vars)⟩:Box))],[]⟩
 else
 K (TV.v false [B false]) ⟨[(20000,(⟨119,(cR 0 vars)⟩:Box))],[]⟩
 else
 none
 else
 K (TV.v false [B false]) ⟨[(20000,(⟨119,(cR 0 vars)⟩:Box))],[]⟩)) (by kernel_rfl) (Eq.symm (by kernel_rfl))
theorem Zg1:Am PG (61,EW Qn5 Qpq Lf):=Qc (C:=(PQ Fe)) (L:=64) (by kernel_rfl) (FnOK.bare rfl rfl rfl) Zp8 eqOk F1 (by kernel_rfl) (by kernel_rfl) (λvars R K=>Zl8 vars R K)
def Zu8 (M:Fn):Nat×Spec:=(147,EW Qdd Zv M)
def Q7i:Sk:=⟨[td,tf [ci],td,td,td,tf [ci],tf [ci]]++dd 6++[tf [CS.sl Ah],tf [ci],tf [ci]]++dd 18,[(20000,119,cS)],[]⟩
def Qr6:List (Ex×Sk):=[(Ex.exit 0,⟨dd 6++[tf [ci]]++dd 27,[(20000,119,cS)],[]⟩)]
def Lc:Lp:=AW PG Qbm 64 3 (AV PG 147 3) Q7i Qr6
def Ur (D:Lp):Cfg:=Qbm.loop 3 Q7i Qr6 D
def Y5 (D:Lp):Fn:=LV PG (Ur D) 64 147 Qdd Zv
theorem Zih (v0 G L:Int) (E:Rw) (J D:Int) (K:Kf) (c:Cv):Lc (I v0::I G::I L:: .view Ah E::I J::I D::Ab K c)=
 bif decide (D<J)then
 bif decide (0<=D)&&decide (D<(E.length:Int))then
 bif decide (wrap .i64 (G+gA (nth [] E D.toNat) 3)<=v0)then
 bif gA (nth [] E D.toNat) 6 !=0 then
 some (0,(I v0::I (wrap .i64 (G+gA (nth [] E D.toNat) 3))::I (wrap .i64 (G+gA (nth [] E D.toNat) 3)):: .view Ah E::I J::I (wrap .i64 (D+1))::Ab K c))
 else
 some (0,(I v0::I (wrap .i64 (G+gA (nth [] E D.toNat) 3))::I L:: .view Ah E::I J::I (wrap .i64 (D+1))::Ab K c))
 else
 some (0,(I v0::I (wrap .i64 (G+gA (nth [] E D.toNat) 3))::I L:: .view Ah E::I J::I (wrap .i64 (D+1))::Ab K c))
 else
 none
 else
 some (1,(I L::Ab K c)):=by kernel_rfl
theorem Zqi (D:Lp) (E:Int) (K:Kf) (c:Cv):Y5 D (I E::Ab K c)=
 (D (I E::I 0::I 0:: .view Ah (K.p.aE.map Av)::I ((K.p.aE.map Av).length:Int)::I 0::Ab K c)).bind λo1=>
 bif o1.1.beq 1 then
 some [jA o1.2 0]
 else
 none:=by kernel_rfl
def LY:=Al (Lc)
def Mb:=Y5 LY
theorem Z9x (v0 G L:Int) (E:Rw) (J D:Int) (o:List AC):Lc (I v0::I G::I L:: .view Ah E::I J::I D::cR 0 o)=
 bif decide (D<J)then
 bif decide (0<=D)&&decide (D<(E.length:Int))then
 bif decide (wrap .i64 (G+gA (nth [] E D.toNat) 3)<=v0)then
 bif gA (nth [] E D.toNat) 6 !=0 then
 some (0,(I v0::I (wrap .i64 (G+gA (nth [] E D.toNat) 3))::I (wrap .i64 (G+gA (nth [] E D.toNat) 3)):: .view Ah E::I J::I (wrap .i64 (D+1))::cR 0 o))
 else
 some (0,(I v0::I (wrap .i64 (G+gA (nth [] E D.toNat) 3))::I L:: .view Ah E::I J::I (wrap .i64 (D+1))::cR 0 o))
 else
 some (0,(I v0::I (wrap .i64 (G+gA (nth [] E D.toNat) 3))::I L:: .view Ah E::I J::I (wrap .i64 (D+1))::cR 0 o))
 else
 none
 else
 some (1,(I L::cR 0 o)):=by kernel_rfl
theorem TJ (o:List AC) (D:Rw) (v0 G:Int):∀(n:Nat) (J L E:Int) (a:Nat×List AC),CZ Lc n (I v0::I J::I L:: .view Ah D::I G::I E::cR 0 o)=some a->∃r:Int,a=(1,I r::cR 0 o)
  |0,_,_,_,_,h=>by cases h
  |n+1,J,L,E,a,h=>by
    have h:((Lc (I v0::I J::I L:: .view Ah D::I G::I E::cR 0 o)).bind λq=>if q.1=0 then CZ Lc n q.2 else some q)=some a:=h;rw[Z9x]at h;cases M:decide (E<G)<;>rw[M]at h
    · injection h with h
      exact⟨L,h.symm⟩
    cases N:(decide (0<=E)&&decide (E<(D.length:Int)))<;>rw[N]at h
    · cases h
    cases O:decide (wrap .i64 (J+gA (nth [] D E.toNat) 3)<=v0)<;>rw[O]at h
    · exact TJ o D v0 G n _ _ _ a h
    cases S:(gA (nth [] D E.toNat) 6 !=0)<;>rw[S]at h
    · exact TJ o D v0 G n _ _ _ a h
    · exact TJ o D v0 G n _ _ _ a h
theorem Znt (vars:List AC) (R:Type) (K:TV->Mem->Option R):Ff PG (Ur LY) 64 147 [TV.v false [AC.ptr 20000 0],TV.v false [jA vars 0]] ⟨[(20000,(⟨119,cR 1 vars⟩:Box))],[]⟩ K=Ff PG (Ur LY) 64 147 [TV.v false [AC.ptr 20000 0],TV.v false [jA vars 0]] ⟨[(20000,(⟨119,cR 1 vars⟩:Box))],[]⟩ (λv _=>K v ⟨[(20000,(⟨119,cR 1 vars⟩:Box))],[]⟩):=
  Eq.trans (b:=(LY (jA vars 0::I 0::I 0:: .view Ah (wA vars 41)::I ((wA vars 41).length:Int)::I 0::cR 1 vars)).bind λo=>bif o.1.beq 1 then K (TV.v false [jA o.2 0]) ⟨[(20000,(⟨119,cR 1 o.2⟩:Box))],[]⟩else none) (by kernel_rfl)
  (Eq.trans (b := (LY (jA vars 0 :: I 0 :: I 0 :: .view Ah (wA vars 41) :: I ((wA vars 41).length : Int) :: I 0 :: cR 1 vars)).bind λo => bif o.1.beq 1 then K (TV.v false [jA o.2 0]) ⟨[(20000, (⟨119, cR 1 vars⟩ : Box))], []⟩ else none) (by
    cases h:LY (jA vars 0::I 0::I 0:: .view Ah (wA vars 41)::I ((wA vars 41).length:Int)::I 0::cR 1 vars)with
    |none=>rfl
    |some a=>
      obtain⟨n,D⟩:=P2 h;obtain⟨r,rfl⟩:=TJ (cR 1 vars) (wA vars 41) (gA vars 0) _ n 0 0 0 a D;rfl) (by kernel_rfl))
theorem Zsr:Am PG (147,EW Qdd Zv Mb):=Qc (C:=(Ur LY)) (L:=64) (by kernel_rfl) ((FnOK.bare rfl rfl rfl).loop Zes eqOk F1 (by kernel_rfl) (by kernel_rfl)) Zes eqOk F1 (by kernel_rfl) (by kernel_rfl) (λvars R K=>Znt vars R K)
def Zlv (M:Fn):Nat×Spec:=(101,Ad Qdd Qll M)
def Qqw (D E G I:Fn):Cfg:=cr [Qxy D,Zu8 E,Pi G,T0 I] [147,110,102] [147,110,102]
def Qc0 (D E G I:Fn):Fn:=An PG (Qqw D E G I) 64 101 Qdd Qll
theorem Zd0 (J L M N:Fn) (E:Int) (K:Kf) (c:Cv):Qc0 J L M N (I E::Ab K c)=
 (N (Ab K c)).bind λo4=>
 bif !bA o4 7 then
 some (Ab K c)
 else
 bif decide (E<=0)then
 some (Ab K c)
 else
 bif c.way !=0 then
 some (Ab K c)
 else
 bif c.on then
 some (Ab K c)
 else
 bif c.aH !=0 then
 some (Ab K c)
 else
 bif !c.o2 then
 some (Ab K c)
 else
 bif gA o4 6 !=0 then
 some (Ab K c)
 else
 (M (Ab K c)).bind λG=>
 (L (jA G 0::Ab K c)).bind λO=>
 (J (pxt K.p K.x K.t [I c.m0,I c.m1,I c.m2,I c.m3,I c.m4,I c.m5,I (mx (mx 0 (wrap .i64 (gA G 0-E))) (gA O 0))])).bind λD=>
 bif !bA D 12 then
 some (Ab K c)
 else
 some (DQ (Ab K c) [(44, .view Aq (wA D 0)),(45,jA D 1),(46,jA D 2),(47,jA D 3),(48,jA D 4),(49,jA D 5),(50,jA D 6),(51,jA D 7),(52,jA D 8),(53,jA D 9),(54,jA D 10),(55,jA D 11),(58,B false),(71,I 1),(72,jA G 0)]):=by kernel_rfl
def Q3:=Qc0 KE Mb Dk Fe
theorem Zjg:Aj PG (Qqw KE Mb Dk Fe):=Hb (rs:=[147,110,102]) rfl ⟨Q0s,Zsr,PF,Uc,trivial⟩ rfl (CA rfl (Fg (Fg (Fg Hs))))
theorem Z9a:Am PG (101,Ad Qdd Qll Q3):=rw1 (C:=(Qqw KE Mb Dk Fe)) Zjg
def Zjd (M:Fn):Nat×Spec:=(146,Ad Qdd Qlo M)
def Zcd:Sk:=⟨[td,tf [ci],td,td,td,tf [ci]]++dd 6++[tf [CS.sl Ah],tf [ci],tf [ci]]++dd 13,[(20000,119,cS)],[]⟩
def Qt1:List (Ex×Sk):=[(Ex.exit 0,⟨[td,td,td,td,td,tf [ci]]++dd 22,[(20000,119,cS)],[]⟩)]
def Tu:Lp:=AW PG Qbm 64 3 (AV PG 146 3) Zcd Qt1
def Zam (D:Lp):Cfg:=Qbm.loop 3 Zcd Qt1 D
def Qdg (D:Lp):Fn:=An PG (Zam D) 64 146 Qdd Qlo
theorem Z2p (v0 G:Int) (E:Rw) (J D:Int) (K:Kf) (c:Cv):Tu (I v0::I G:: .view Ah E::I J::I D::Ab K c)=
 bif decide (D<J)then
 bif decide (0<=D)&&decide (D<(E.length:Int))then
 bif gA (nth [] E D.toNat) 4==v0 then
 some (1,(I G::Ab K c))
 else
 some (0,(I v0::I (wrap .i64 (G+gA (nth [] E D.toNat) 3)):: .view Ah E::I J::I (wrap .i64 (D+1))::Ab K c))
 else
 none
 else
 some (1,(I G::Ab K c)):=by kernel_rfl
theorem Zie (D:Lp) (E:Int) (K:Kf) (c:Cv):Qdg D (I E::Ab K c)=
 (D (I E::I 0:: .view Ah (K.p.aE.map Av)::I ((K.p.aE.map Av).length:Int)::I 0::Ab K c)).bind λo1=>
 bif o1.1.beq 1 then
 some (jA o1.2 0::cR 1 o1.2)
 else
 none:=by kernel_rfl
def Qvq:=Al (Tu)
def Ok:=Qdg Qvq
theorem Zlf:Am PG (146,Ad Qdd Qlo Ok):=rw2 (C:=(Zam Qvq)) (fl fb Zes) Zes
def Z3c (M:Fn):Nat×Spec:=(100,Ad Qn5 Qll M)
def Qre (D E G:Fn):Cfg:=cr [Zjd D,Pi E,T0 G] [146,110,102] [110,102]
def Qk8 (D E G:Fn):Fn:=An PG (Qre D E G) 64 100 Qn5 Qll
theorem Zfe (E G I:Fn) (K:Kf) (c:Cv):Qk8 E G I (Ab K c)=
 (I (Ab K c)).bind λo3=>
 bif bA o3 7 then
 bif c.way==0 then
 bif decide (0<=gA o3 4)&&decide (gA o3 4<((K.items.map Ag).length:Int))then
 bif gA (nth [] (K.items.map Ag) (gA o3 4).toNat) 0==4 then
 (G (Ab K c)).bind λo4=>
 (E (jA o3 4::Ab K c)).bind λD=>
 bif gA o4 0 !=gA D 0 then
 some (DQ (cR 1 D) [(77,B true)])
 else
 some (cR 1 D)
 else
 some (Ab K c)
 else
 none
 else
 some (Ab K c)
 else
 some (Ab K c):=by kernel_rfl
def Ms:=Qk8 Ok Dk Fe
theorem Z6k:Aj PG (Qre Ok Dk Fe):=Hb (rs:=[110,102]) rfl ⟨Zlf,PF,Uc,trivial⟩ rfl (CA rfl (Fg (Fg Hs)))
theorem Zqk:Am PG (100,Ad Qn5 Qll Ms):=rw1 (C:=(Qre Ok Dk Fe)) Z6k
def Qrr:Sk:=⟨[TS.v true [ci,ci,ci],tf [ci],TS.v true [ci,ci,ci],TS.v true [ci,ci,ci]],[],[]⟩
def Z5q (M:Fn):Nat×Spec:=(145,Ad Qrr Qah M)
def Qi7:Cfg:={cf []with unroll:=[4]}
def Ql2:Fn:=An PG Qi7 64 145 Qrr Qah
theorem Zvw (E G J D L M N O S T:Int):Ql2 [I E,I G,I J,I D,I L,I M,I N,I O,I S,I T]=
 bif E !=0 then
 some [I E,I G,I J]
 else
 bif decide (wrap .i64 (L-O)>D)then
 some [I 1,I 19,I 0]
 else
 bif decide (wrap .i64 (0-wrap .i64 (L-O))>D)then
 some [I 1,I 19,I 0]
 else
 bif decide (wrap .i64 (M-S)>D)then
 some [I 1,I 19,I (wrap .i64 (0+1))]
 else
 bif decide (wrap .i64 (0-wrap .i64 (M-S))>D)then
 some [I 1,I 19,I (wrap .i64 (0+1))]
 else
 bif decide (wrap .i64 (N-T)>D)then
 some [I 1,I 19,I (wrap .i64 (wrap .i64 (0+1)+1))]
 else
 bif decide (wrap .i64 (0-wrap .i64 (N-T))>D)then
 some [I 1,I 19,I (wrap .i64 (wrap .i64 (0+1)+1))]
 else
 some [I E,I G,I J]:=by kernel_rfl
def Oe:=Ql2
theorem Z8l:Aj PG (Qi7):=Ap rfl trivial
theorem Zrf:Am PG (145,Ad Qrr Qah Oe):=rw1 (C:=Qi7) Z8l
attribute [go_sem] Z3j Wc T7 U5 Tx U9 VX W1 Zb Pn OV RP RX Qjm TI Uo RW TA RE Qa8 Qb TN
end Go.Bm
