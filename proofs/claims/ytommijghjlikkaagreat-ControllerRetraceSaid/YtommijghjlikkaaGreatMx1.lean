/- functions of the program and of the references, as models -/
import Derived.Test.YtommijghjlikkaaGreatSeShelf
import Derived.Test.YtommijghjlikkaaGreatSeExt
import Derived.Test.YtommijghjlikkaaGreatSePre
import Derived.Test.YtommijghjlikkaaGreatSeKc
import Derived.Test.YtommijghjlikkaaGreatBmTy
set_option linter.unusedSimpArgs false
set_option linter.unusedVariables false
set_option maxRecDepth 100000
noncomputable section
open Go.IntKind (wrap)
namespace Go.Bm
open Go.Proofs
def qa (n:Nat) (s o:Sk) (M:Fn):Nat×Spec:=(n,Ad s o M)
abbrev Z4h (v0:Rw) (G J M N O S T U:Int) (E:AC):Option (Nat×List AC):=
 cond (decide (gA (nth [] v0 G.toNat) 1=(↑0:Int))) (some (0,[.vC kPt v0,I J,I (V (G+1)),I M,I N,I O,E,I S,I T])) (cond (decide (gA (nth [] v0 G.toNat) 1=(↑(0+1):Int))) (some (0,[.vC kPt v0,I J,I (V (G+1)),I M,I N,I O,I U,E,I T])) (cond (decide (gA (nth [] v0 G.toNat) 1=(↑(0+1+1):Int))) (some (0,[.vC kPt v0,I J,I (V (G+1)),I M,I N,I O,I U,I S,E])) (none)))
def Qbd:Sk:=⟨[TS.v true (cc 9++[sa Aa]),tf [ci]],[],[]⟩
def Qae:Sk:=⟨[tf [ci]],[],[]⟩
def Zag:=qa 77 Qbd Qae
def Qcv:Cfg:=cf []
def Q6a:Fn:=An PG Qcv 64 77 Qbd Qae
theorem Zfc (J M N O S T G U X:Int) (Y:Rw) (E:Int):Q6a [I J,I M,I N,I O,I S,I T,I G,I U,I X, .vC Aa Y,I E]=
 cond (E== -1) (some [I (V (0-G))]) (some [I 0]):=by kernel_rfl
def J8:=Q6a
theorem Zft:Ai PG (Qcv):=Ap rfl trivial
theorem Q3q:Am PG (Zag J8):=rw1 (C:=Qcv) Zft
def Qd3:Sk:=⟨[TS.v true (cc 9++[sa Aa]),TS.v true (cc 10),tf [ci],tf [ci]],[],[]⟩
def Z9x:=qa 78 Qd3 Qae
def XU (E:Fn):Cfg:=cf [Zag E]
def QK (E:Fn):Fn:=An PG (XU E) 64 78 Qd3 Qae
abbrev W1 (E:Int) (G:Fn) (J M N O S T U V X:Int) (Y:Rw) (a0 a1 a2:Int):Option (List AC):=
 cond (decide (E=(↑0:Int))) ((G [I J,I M,I N,I O,I S,I T,I U,I V,I X, .vC Aa Y,I a0]).bind λa3=>
 some [jA a3 0]) (cond (decide (E=(↑(0+1):Int))) ((G [I J,I M,I N,I O,I S,I T,I U,I V,I X, .vC Aa Y,I a1]).bind λa4=>
 some [jA a4 0]) (cond (decide (E=(↑(0+1+1):Int))) ((G [I J,I M,I N,I O,I S,I T,I U,I V,I X, .vC Aa Y,I a2]).bind λa5=>
 some [jA a5 0]) (none)))
abbrev UP (E G M:Int) (J:Bool):Option (List AC):=
 cond (J) (some [I (V (0-mn (V (E-G)) M))]) (some [I (V (mn (V (E-G)) M-M))])
abbrev VT (E:Int) (T:Fn) (U V X Y x4 x5 S x7 x8:Int) (x9:Rw) (J M N G I:Int) (O:Bool):Option (List AC):=
 cond (O) (W1 E T U V X Y x4 x5 S x7 x8 x9 J M N) (cond (decide (E=(↑0:Int))) (UP G I S (J== -1)) (cond (decide (E=(↑(0+1):Int))) (UP G I S (M== -1)) (cond (decide (E=(↑(0+1+1):Int))) (UP G I S (N== -1)) (none))))
abbrev Uq (E:Int) (U:Fn) (V X Y x3 x4 x5 x6 x7 x8:Int) (x9:Rw) (G I J M N:Int) (O S T:Bool):Option (List AC):=
 cond (decide (E=(↑0:Int))) (VT E U V X Y x3 x4 x5 x6 x7 x8 x9 G I J M N O) (cond (decide (E=(↑(0+1):Int))) (VT E U V X Y x3 x4 x5 x6 x7 x8 x9 G I J M N S) (cond (decide (E=(↑(0+1+1):Int))) (VT E U V X Y x3 x4 x5 x6 x7 x8 x9 G I J M N T) (none)))
theorem Qlk (V:Fn) (X Y x2 x3 x4 x5 x6 x7 x8:Int) (x9:Rw) (N a1 a2 a0 O S T E G J M U:Int):QK V [I X,I Y,I x2,I x3,I x4,I x5,I x6,I x7,I x8, .vC Aa x9,I N,I a1,I a2,I a0,I O,I S,I T,I E,I G,I J,I M,I U]=
 cond (a0 !=0) (W1 M V X Y x2 x3 x4 x5 x6 x7 x8 x9 E G J) (cond (decide (M=(↑0:Int))) (Uq M V X Y x2 x3 x4 x5 x6 x7 x8 x9 E G J U N (O==E) (O==G) (O==J)) (cond (decide (M=(↑(0+1):Int))) (Uq M V X Y x2 x3 x4 x5 x6 x7 x8 x9 E G J U N (S==E) (S==G) (S==J)) (cond (decide (M=(↑(0+1+1):Int))) (Uq M V X Y x2 x3 x4 x5 x6 x7 x8 x9 E G J U N (T==E) (T==G) (T==J)) (none)))):=by kernel_rfl
def S0:=QK J8
theorem Zih:Ai PG (XU J8):=Ap rfl ⟨Q3q,trivial⟩
theorem Zwz:Am PG (Z9x S0):=rw1 (C:=XU J8) Zih
def Z2r:=qa 118 Qbd Qae
def Q8h:Fn:=An PG Qcv 64 118 Qbd Qae
theorem Zhy (E J M N O S T U X:Int) (Y:Rw) (G:Int):Q8h [I E,I J,I M,I N,I O,I S,I T,I U,I X, .vC Aa Y,I G]=
 cond (decide (E<=0)) (some [I 0]) (cond (decide (V (2*E)<=0)) (some [I 0]) (cond (decide (V (2*E)=0)) (none) (cond (decide (V (2*E)=0)) (none) (cond (decide ((V (V (2*G)+E)).tmod (V (2*E))<0)) (some [I (V (V ((V (V (2*G)+E)).tdiv (V (2*E)))-1))]) (some [I (V ((V (V (2*G)+E)).tdiv (V (2*E))))]))))):=by kernel_rfl
def Lb:=Q8h
theorem Ze6:Am PG (Z2r Lb):=rw1 (C:=Qcv) Zft
def ZG:Sk:=⟨[tf [si .u64],tf [sb]],[],[]⟩
def Y2:Sk:=⟨[TS.tup [(false,[ci]),(false,[sb])]],[],[]⟩
def Xm:=qa 136 ZG Y2
def Qiw:Fn:=An PG Qcv 64 136 ZG Y2
theorem Qqq (E:Int) (G:Bool):Qiw [U E,B G]=
 cond (G) (cond (decide (E<=9223372036854775808)) (some [I (V (wrap .u64 (0-E))),B true]) (cond (!G) (cond (decide (E<9223372036854775808)) (some [I (V E),B true]) (some [I 0,B false])) (some [I 0,B false]))) (cond (!G) (cond (decide (E<9223372036854775808)) (some [I (V E),B true]) (some [I 0,B false])) (some [I 0,B false])):=by kernel_rfl
def Fz:=Qiw
theorem Qla:Am PG (Xm Fz):=rw1 (C:=Qcv) Zft
def Qf1:Sk:=⟨[tf [ci],tf [ci],tf [sb],tf [sb]],[],[]⟩
def Qqn:Sk:=⟨[tf [sb]],[],[]⟩
def Q5q:=qa 135 Qf1 Qqn
def Ql9:Fn:=An PG Qcv 64 135 Qf1 Qqn
theorem Q15 (G J:Int) (M E:Bool):Ql9 [I G,I J,B M,B E]=
 cond (G==0) (cond (M) (some [B E]) (some [B false])) (cond (G==1) (cond (M) (some [B !E]) (some [B false])) (cond (decide (J>0)) (some [B true]) (cond (J==0) (some [B !E]) (some [B false])))):=by kernel_rfl
def Ii:=Ql9
theorem Zdq:Am PG (Q5q Ii):=rw1 (C:=Qcv) Zft
def ZS:Sk:=⟨[tf [ci],tf [ci]],[],[]⟩
def X9:=qa 134 ZS Qae
def Qj4:Fn:=An PG Qcv 64 134 ZS Qae
theorem Qvn (E G:Int):Qj4 [I E,I G]=
 cond (E==0) (some [I 0]) (cond (G==0) (some [I 0]) (cond (decide (E<0)==decide (G<0)) (some [I 1]) (some [I (-1)]))):=by kernel_rfl
def Gr:=Qj4
theorem Qe1:Am PG (X9 Gr):=rw1 (C:=Qcv) Zft
def Xd:Sk:=⟨[tf [si .u64],tf [si .u64],tf [si .u64]],[],[]⟩
def Qoo:Sk:=⟨[TS.tup [(false,[si .u64]),(false,[si .u64])]],[],[]⟩
def Zbw:=qa 133 Xd Qoo
def YB (E:Fn):Cfg:=cf [(176,Ad Zbp Zan E)]
def Quq:Sk:=⟨[td,td,tf [si .u64],td,td,td,td,td,tf [si .u64],tf [si .u64],tf [si .u64],tf [si .u64],td,tf [si .u64],tf [si .u64],tf [si .u64],tf [si .u64]]++dd 118,[],[]⟩
def Q7u:List (Ex×Sk):=[(Ex.exit 0,⟨[td,td,tf [si .u64],td,td,td,td,td,tf [si .u64],tf [si .u64],tf [si .u64],tf [si .u64],td,tf [si .u64],tf [si .u64],tf [si .u64]]++dd 119,[],[]⟩)]
def Mp (E:Fn):Lp:=A5 PG (YB E) 64 17 (A4 PG 133 17) Quq Q7u
def Q5u (G:Fn) (E:Lp):Cfg:=(YB G).loop 17 Quq Q7u E
def Qxj:Sk:=⟨[td,td,tf [si .u64],td,td,td,td,td,tf [si .u64],tf [si .u64],tf [si .u64],td,td,td,tf [si .u64],tf [si .u64],tf [si .u64],tf [si .u64],tf [si .u64]]++dd 116,[],[]⟩
def Q5x:List (Ex×Sk):=[(Ex.exit 2,⟨[td,td,tf [si .u64],td,td,td,td,td,tf [si .u64],td,td,td,td,td,tf [si .u64],tf [si .u64],td,tf [si .u64],tf [si .u64]]++dd 116,[],[]⟩)]
def P9 (G:Fn) (E:Lp):Lp:=A5 PG (Q5u G E) 64 24 (A4 PG 133 24) Qxj Q5x
def Q16 (I:Fn) (E G:Lp):Cfg:=(Q5u I E).loop 24 Qxj Q5x G
def Qe5 (I:Fn) (E G:Lp):Fn:=An PG (Q16 I E G) 64 133 Xd Qoo
theorem Zpt (Et:Fn) (v0 M E I N J O G S:Int):Mp Et [U v0,U M,U E,U I,U N,U J,U O,U G,U S]=
 cond (decide (G>=4294967296)) (cond (decide (wrap .u64 (S+E)>=4294967296)) (some (1,[U v0,U M,U E,U I,U N,U J,U O,U (wrap .u64 (G-1))])) (some (0,[U v0,U M,U E,U I,U N,U J,U O,U (wrap .u64 (G-1)),U (wrap .u64 (S+E))]))) (cond (decide (wrap .u64 (G*I)>wrap .u64 (wrap .u64 (4294967296*S)+J))) (cond (decide (wrap .u64 (S+E)>=4294967296)) (some (1,[U v0,U M,U E,U I,U N,U J,U O,U (wrap .u64 (G-1))])) (some (0,[U v0,U M,U E,U I,U N,U J,U O,U (wrap .u64 (G-1)),U (wrap .u64 (S+E))]))) (some (1,[U v0,U M,U E,U I,U N,U J,U O,U G]))):=by kernel_rfl
theorem Zn3 (Et:Fn) (N17:Lp) (v0 J G S I M N O E:Int):P9 Et N17 [U v0,U J,U G,U S,U I,U M,U N,U O,U E]=
 cond (decide (E>=4294967296)) (cond (decide (wrap .u64 (N+G)>=4294967296)) (some (1,[U v0,U J,U I,U M,U O,U (wrap .u64 (E-1))])) (some (0,[U v0,U J,U G,U S,U I,U M,U (wrap .u64 (N+G)),U O,U (wrap .u64 (E-1))]))) (cond (decide (wrap .u64 (E*S)>wrap .u64 (wrap .u64 (4294967296*N)+I))) (cond (decide (wrap .u64 (N+G)>=4294967296)) (some (1,[U v0,U J,U I,U M,U O,U (wrap .u64 (E-1))])) (some (0,[U v0,U J,U G,U S,U I,U M,U (wrap .u64 (N+G)),U O,U (wrap .u64 (E-1))]))) (some (1,[U v0,U J,U I,U M,U O,U E]))):=by kernel_rfl
theorem Q1h (T:Fn) (O S:Lp) (N J I:Int):Qe5 T O S [U N,U J,U I]=
 cond (I==0) (none) (cond (decide (I<=N)) (none) (cond (N==0) (cond (decide (I=0)) (none) (cond (decide (I=0)) (none) (some [U (wrap .u64 (J.tdiv I)),U (J.tmod I)]))) ((T [U I]).bind λG=>
 cond (decide (wrap .u64 (gA G 0)<0)) (none) (cond (decide (wrap .u64 (gA G 0)<0)) (none) (cond (decide (wrap .u64 (64-wrap .u64 (gA G 0))<0)) (none) (cond (decide (wrap .u64 (gA G 0)<0)) (none) (cond (decide ((wrap .u64 (I*2^min (wrap .u64 (gA G 0)).toNat IntKind.u64.bits)).fdiv (2^min (Int.toNat 32) IntKind.u64.bits)=0)) (none) ((O [U (wrap .u64 (I*2^min (wrap .u64 (gA G 0)).toNat IntKind.u64.bits)),U (wrap .u64 (gA G 0)),U ((wrap .u64 (I*2^min (wrap .u64 (gA G 0)).toNat IntKind.u64.bits)).fdiv (2^min (Int.toNat 32) IntKind.u64.bits)),U (wrap .u64 (↑(BitVec.ofInt IntKind.u64.bits (wrap .u64 (I*2^min (wrap .u64 (gA G 0)).toNat IntKind.u64.bits))&&&BitVec.ofInt IntKind.u64.bits 4294967295).toNat:Int)),U (wrap .u64 (↑(BitVec.ofInt IntKind.u64.bits (wrap .u64 (N*2^min (wrap .u64 (gA G 0)).toNat IntKind.u64.bits))|||BitVec.ofInt IntKind.u64.bits (J.fdiv (2^min (wrap .u64 (64-wrap .u64 (gA G 0))).toNat IntKind.u64.bits))).toNat:Int)),U ((wrap .u64 (J*2^min (wrap .u64 (gA G 0)).toNat IntKind.u64.bits)).fdiv (2^min (Int.toNat 32) IntKind.u64.bits)),U (wrap .u64 (↑(BitVec.ofInt IntKind.u64.bits (wrap .u64 (J*2^min (wrap .u64 (gA G 0)).toNat IntKind.u64.bits))&&&BitVec.ofInt IntKind.u64.bits 4294967295).toNat:Int)),U (wrap .u64 ((wrap .u64 (↑(BitVec.ofInt IntKind.u64.bits (wrap .u64 (N*2^min (wrap .u64 (gA G 0)).toNat IntKind.u64.bits))|||BitVec.ofInt IntKind.u64.bits (J.fdiv (2^min (wrap .u64 (64-wrap .u64 (gA G 0))).toNat IntKind.u64.bits))).toNat:Int)).tdiv ((wrap .u64 (I*2^min (wrap .u64 (gA G 0)).toNat IntKind.u64.bits)).fdiv (2^min (Int.toNat 32) IntKind.u64.bits)))),U (wrap .u64 (wrap .u64 (↑(BitVec.ofInt IntKind.u64.bits (wrap .u64 (N*2^min (wrap .u64 (gA G 0)).toNat IntKind.u64.bits))|||BitVec.ofInt IntKind.u64.bits (J.fdiv (2^min (wrap .u64 (64-wrap .u64 (gA G 0))).toNat IntKind.u64.bits))).toNat:Int)-wrap .u64 (wrap .u64 ((wrap .u64 (↑(BitVec.ofInt IntKind.u64.bits (wrap .u64 (N*2^min (wrap .u64 (gA G 0)).toNat IntKind.u64.bits))|||BitVec.ofInt IntKind.u64.bits (J.fdiv (2^min (wrap .u64 (64-wrap .u64 (gA G 0))).toNat IntKind.u64.bits))).toNat:Int)).tdiv ((wrap .u64 (I*2^min (wrap .u64 (gA G 0)).toNat IntKind.u64.bits)).fdiv (2^min (Int.toNat 32) IntKind.u64.bits)))*(wrap .u64 (I*2^min (wrap .u64 (gA G 0)).toNat IntKind.u64.bits)).fdiv (2^min (Int.toNat 32) IntKind.u64.bits))))]).bind λE=>
 cond (E.1.beq 1) (cond (decide (gA E.2 2=0)) (none) ((S [U (gA E.2 0),U (gA E.2 1),U (gA E.2 2),U (gA E.2 3),U (gA E.2 6),U (gA E.2 7),U (wrap .u64 (wrap .u64 (wrap .u64 (wrap .u64 (gA E.2 4*4294967296)+gA E.2 5)-wrap .u64 (gA E.2 7*gA E.2 0))-wrap .u64 (wrap .u64 ((wrap .u64 (wrap .u64 (wrap .u64 (gA E.2 4*4294967296)+gA E.2 5)-wrap .u64 (gA E.2 7*gA E.2 0))).tdiv (gA E.2 2))*gA E.2 2))),U (wrap .u64 (wrap .u64 (wrap .u64 (gA E.2 4*4294967296)+gA E.2 5)-wrap .u64 (gA E.2 7*gA E.2 0))),U (wrap .u64 ((wrap .u64 (wrap .u64 (wrap .u64 (gA E.2 4*4294967296)+gA E.2 5)-wrap .u64 (gA E.2 7*gA E.2 0))).tdiv (gA E.2 2)))]).bind λM=>
 cond (M.1.beq 1) (cond (decide (gA M.2 1<0)) (none) (some [U (wrap .u64 (wrap .u64 (gA M.2 3*4294967296)+gA M.2 5)),U ((wrap .u64 (wrap .u64 (wrap .u64 (gA M.2 4*4294967296)+gA M.2 2)-wrap .u64 (gA M.2 5*gA M.2 0))).fdiv (2^min (gA M.2 1).toNat IntKind.u64.bits))])) (none))) (none))))))))):=by kernel_rfl
def VA:=Ak (Mp Jg)
def Qhy:=Ak (P9 Jg VA)
def Hc:=Qe5 Jg VA Qhy
theorem Qq7:Ai PG (YB Jg):=Ap rfl ⟨Zyd,trivial⟩
theorem Qtj:Am PG (Zbw Hc):=rw2 (C:=Q16 Jg VA Qhy) (fl (fl fb Qq7) Qq7) Qq7
def Qk2:Sk:=⟨[tf [si .u64],tf [si .u64]],[],[]⟩
def Qdv:Sk:=⟨[TS.v true [si .u64,si .u64]],[],[]⟩
def UM:=qa 131 Qk2 Qdv
def Zg (E:Fn):Cfg:=cf [(175,Ad Qas V8 E)]
def Zao (E:Fn):Fn:=An PG (Zg E) 64 131 Qk2 Qdv
theorem Zj4 (E:Fn) (G I:Int):Zao E [U G,U I]=
 (E [U G,U I]).bind λo1=>
 some [U (gA o1 0),U (gA o1 1)]:=by kernel_rfl
def E5:=Zao IJ
theorem Zij:Ai PG (Zg IJ):=Ap rfl ⟨Qwq,trivial⟩
theorem VC:Am PG (UM E5):=rw1 (C:=Zg IJ) Zij
def Qci:Sk:=⟨[tf [si .u64]],[],[]⟩
def Qc9:=qa 132 Qae Qci
def Qt0:Fn:=An PG Qcv 64 132 Qae Qci
theorem Zec (E:Int):Qt0 [I E]=
 cond (decide (E<0)) (some [U (wrap .u64 (wrap .u64 (V (0-V (E+1)))+1))]) (some [U (wrap .u64 E)]):=by kernel_rfl
def GN:=Qt0
theorem WG:Am PG (Qc9 GN):=rw1 (C:=Qcv) Zft
def Qqp:=qa 130 Qae Qqn
def Wt:Fn:=An PG Qcv 64 130 Qae Qqn
theorem Q5g (E:Int):Wt [I E]=
 cond (E==0) (some [B true]) (cond (E==1) (some [B true]) (some [B (E==2)])):=by kernel_rfl
def Gn:=Wt
theorem Qoh:Am PG (Qqp Gn):=rw1 (C:=Qcv) Zft
def X4:Sk:=⟨[tf [ci],tf [ci],tf [ci],tf [ci]],[],[]⟩
def Nh:=qa 83 X4 Y2
def Qqo (E G I J M N O:Fn):Cfg:=cf [Xm E,Q5q G,X9 I,Zbw J,UM M,Qc9 N,Qqp O]
def TW (E G I J M N O:Fn):Fn:=An PG (Qqo E G I J M N O) 64 83 X4 Y2
abbrev VY (T:Fn) (V:Int) (G:List AC) (S:Fn) (J E:AC):Option (List AC):=
 (T [I V,J,B (decide (gA G 1>0)),E]).bind λO=>
 cond (bA O 0) (cond (wrap .u64 (gA G 0+1)==0) (some [I 0,B false]) ((S [U (wrap .u64 (gA G 0+1)),E]).bind λM=>
 some [jA M 0,B (bA M 1)])) ((S [U (gA G 0),E]).bind λN=>
 some [jA N 0,B (bA N 1)])
abbrev WM (E J:List AC) (M:Fn) (N:Int) (O:Fn) (G:AC):Option (List AC):=
 cond (decide (gA E 1>wrap .u64 (gA J 0-gA E 1))) (VY M N E O (I 1) G) (cond (decide (gA E 1<wrap .u64 (gA J 0-gA E 1))) (VY M N E O (I (-1)) G) (VY M N E O (I 0) G))
theorem Zaj (V X Y Gi BW M Ei:Fn) (N O S T:Int):TW V X Y Gi BW M Ei [I N,I O,I S,I T]=
 cond (S==0) (some [I 0,B false]) ((Ei [I T]).bind λa0=>
 cond (!bA a0 0) (some [I 0,B false]) ((M [I N]).bind λa1=>
 (M [I O]).bind λa2=>
 (BW [U (gA a1 0),U (gA a2 0)]).bind λG=>
 (M [I S]).bind λE=>
 cond (decide (gA G 0>=gA E 0)) (some [I 0,B false]) ((Gi [U (gA G 0),U (gA G 1),U (gA E 0)]).bind λJ=>
 (Y [I N,I O]).bind λa3=>
 cond (!decide (gA a3 0<0)==decide (S<0)) ((Y [I N,I O]).bind λa4=>
 WM J E X T V (B (gA a4 0 !=0))) (WM J E X T V (B false))))):=by kernel_rfl
def BM:=TW Fz Ii Gr Hc E5 GN Gn
theorem Z00:Ai PG (Qqo Fz Ii Gr Hc E5 GN Gn):=Ap rfl ⟨Qla,Zdq,Qe1,Qtj,VC,WG,Qoh,trivial⟩
theorem LN:Am PG (Nh BM):=rw1 (C:=Qqo Fz Ii Gr Hc E5 GN Gn) Z00
def Zwu:=qa 119 Qbd Qae
def We (E:Fn):Cfg:=cf [Nh E]
def Q1e (E:Fn):Fn:=An PG (We E) 64 119 Qbd Qae
theorem Zzm (N:Fn) (O S T U X Y x6 M J:Int) (G:Rw) (E:Int):Q1e N [I O,I S,I T,I U,I X,I Y,I x6,I M,I J, .vC Aa G,I E]=
 cond (decide (V ((G.length:Int)-1)<0)) (some [I 0]) (cond (decide (V (E-M)<=0)) (cond (decide (0<=0)&&decide (0<(G.length:Int))) (some [jA (nth [] G 0) 0]) (none)) (cond (decide (J<=0)) (cond (decide (0<=0)&&decide (0<(G.length:Int))) (some [jA (nth [] G 0) 0]) (none)) (cond (decide (J=0)) (none) (cond (decide (V ((V (E-M)).tdiv J)>=V ((G.length:Int)-1))) (cond (decide (0<=V ((G.length:Int)-1))&&decide (V ((G.length:Int)-1)<(G.length:Int))) (some [jA (nth [] G (V ((G.length:Int)-1)).toNat) 0]) (none)) (cond (decide (0<=V (V ((V (E-M)).tdiv J)+1))&&decide (V (V ((V (E-M)).tdiv J)+1)<(G.length:Int))) (cond (decide (0<=V ((V (E-M)).tdiv J))&&decide (V ((V (E-M)).tdiv J)<(G.length:Int))) ((N [I (V (Ah (nth .dead (nth [] G (V (V ((V (E-M)).tdiv J)+1)).toNat) 0)-Ah (nth .dead (nth [] G (V ((V (E-M)).tdiv J)).toNat) 0))),I (V (V (E-M)-V (V ((V (E-M)).tdiv J)*J))),I J,I 2]).bind λo1=>
 cond (decide (0<=V ((V (E-M)).tdiv J))&&decide (V ((V (E-M)).tdiv J)<(G.length:Int))) (some [I (V (Ah (nth .dead (nth [] G (V ((V (E-M)).tdiv J)).toNat) 0)+gA o1 0))]) (none)) (none)) (none)))))):=by kernel_rfl
def Kz:=Q1e BM
theorem Zof:Ai PG (We BM):=Ap rfl ⟨LN,trivial⟩
theorem Z04:Am PG (Zwu Kz):=rw1 (C:=We BM) Zof
def Z85:=qa 76 Qbd Qae
def Xj (E G:Fn):Cfg:=cf [Z2r E,Zwu G]
def Q0u (E G:Fn):Fn:=An PG (Xj E G) 64 76 Qbd Qae
theorem Zz1 (PK OG:Fn) (G J M N O S T U X:Int) (Y:Rw) (E:Int):Q0u PK OG [I G,I J,I M,I N,I O,I S,I T,I U,I X, .vC Aa Y,I E]=
 (OG [I G,I J,I M,I N,I O,I S,I T,I U,I X, .vC Aa Y,I E]).bind λo2=>
 (PK [I G,I J,I M,I N,I O,I S,I T,I U,I X, .vC Aa Y,I (V (E+gA o2 0))]).bind λo3=>
 some [jA o3 0]:=by kernel_rfl
def Nz:=Q0u Lb Kz
theorem Zpv:Ai PG (Xj Lb Kz):=Ap rfl ⟨Ze6,Z04,trivial⟩
theorem Zvx:Am PG (Z85 Nz):=rw1 (C:=Xj Lb Kz) Zpv
def YL:Sk:=⟨[TS.v true ([sa As]++cc 5),tf [ci]],[],[]⟩
def Qqh:=qa 75 YL Qae
def Zdi:Sk:=⟨[td,tf [ci],tf [sd 2 0],td,td,tf [ci],tf [ci]]++dd 29,[(2,62,[sa As]++cc 5)],[]⟩
def Q81:List (Ex×Sk):=[(Ex.exit 0,⟨dd 6++[tf [ci]]++dd 29,[],[]⟩)]
def Tw:Lp:=A5 PG Qcv 64 2 (A4 PG 75 2) Zdi Q81
def Q4b (E:Lp):Cfg:=Qcv.loop 2 Zdi Q81 E
def Q07 (E:Lp):Fn:=An PG (Q4b E) 64 75 YL Qae
theorem Qfg (v0 G E:Int) (J:Rw) (M N O S T:Int):Tw [I v0,I G,I E, .vC As J,I M,I N,I O,I S,I T]=
 cond (decide (G<E)) (cond (decide (0<=V ((V (G+E)).tdiv 2))&&decide (V ((V (G+E)).tdiv 2)<(J.length:Int))) (cond (decide (v0<=V (Ah (nth .dead (nth [] J (V ((V (G+E)).tdiv 2)).toNat) 0)+Ah (nth .dead (nth [] J (V ((V (G+E)).tdiv 2)).toNat) 1)))) (some (0,[I v0,I G,I (V ((V (G+E)).tdiv 2)), .vC As J,I M,I N,I O,I S,I T])) (some (0,[I v0,I (V (V ((V (G+E)).tdiv 2)+1)),I E, .vC As J,I M,I N,I O,I S,I T]))) (none)) (some (1,[I E])):=by kernel_rfl
theorem Z83 (G:Lp) (E:Rw) (J M N O S T:Int):Q07 G [.vC As E,I J,I M,I N,I O,I S,I T]=
 (G [I T,I 0,I (V ((E.length:Int)-1)), .vC As E,I J,I M,I N,I O,I S]).bind λo1=>
 cond (o1.1.beq 1) (some [jA o1.2 0]) (none):=by kernel_rfl
def Nm:=Ak (Tw)
def Hh:=Q07 Nm
theorem Qj8:Am PG (Qqh Hh):=rw2 (C:=Q4b Nm) (fl fb Zft) Zft
def Qje:Sk:=⟨[TS.v true [ci,ci,ci,sa Ag,sa kPt],tf [ci]],[],[]⟩
def XB:Sk:=⟨[TS.tup [(false,[ci]),(false,[ci])]],[],[]⟩
def Qja:=qa 117 Qje XB
def Qzp:Sk:=⟨[td,tf [ci],tf [sd 2 0]]++dd 8++[tf [sa Ag],tf [ci],tf [ci]]++dd 24,[(2,58,[ci,ci,ci,sa Ag,sa kPt])],[]⟩
def Zdg:List (Ex×Sk):=[(Ex.ret,⟨[td,td,td,td,tf [ci],tf [ci]]++dd 32,[],[]⟩),(Ex.exit 0,⟨[td]++dd 37,[],[]⟩)]
def Te:Lp:=A5 PG Qcv 64 3 (A4 PG 117 3) Qzp Zdg
def Q9b (E:Lp):Cfg:=Qcv.loop 3 Qzp Zdg E
def Q08 (E:Lp):Fn:=An PG (Q9b E) 64 117 Qje XB
theorem Q9h (v0:Int) (G:Rw) (J E N O S:Int) (M T:Rw):Te [I v0, .vC Ag G,I J,I E,I N,I O,I S, .vC Ag M, .vC kPt T]=
 cond (decide (E<J)) (cond (decide (0<=E)&&decide (E<(G.length:Int))) (cond (decide (v0<gA (nth [] G E.toNat) 3)) (some (1,[I E,I v0])) (cond (E==V ((M.length:Int)-1)) (some (1,[I E,jA (nth [] G E.toNat) 3])) (some (0,[I (V (v0-gA (nth [] G E.toNat) 3)), .vC Ag G,I J,I (V (E+1)),I N,I O,I S, .vC Ag M, .vC kPt T])))) (none)) (some (2,[])):=by kernel_rfl
theorem Qw6 (G:Lp) (J M N:Int) (E O:Rw) (S:Int):Q08 G [I J,I M,I N, .vC Ag E, .vC kPt O,I S]=
 (G [I (mx S 0), .vC Ag E,I (E.length:Int),I 0,I J,I M,I N, .vC Ag E, .vC kPt O]).bind λo1=>
 cond (o1.1.beq 1) (some [jA o1.2 0,jA o1.2 1]) (cond (o1.1.beq 2) (some [I (-1),I 0]) (none)):=by kernel_rfl
def NT:=Ak (Te)
def Fe:=Q08 NT
theorem Qaa:Am PG (Qja Fe):=rw2 (C:=Q9b NT) (fl fb Zft) Zft
def Qbn:Sk:=⟨[TS.v true [ci,ci,ci]],[],[]⟩
def Yaa:=qa 74 Qje Qbn
def Ys (E G:Fn):Cfg:={cf [Nh E,Qja G]with unroll:=[9]}
def Qdq (E G:Fn):Fn:=An PG (Ys E G) 64 74 Qje Qbn
theorem Zqj (AQ DX:Fn) (J M N:Int) (G X:Rw) (Y:Int):Qdq AQ DX [I J,I M,I N, .vC Ag G, .vC kPt X,I Y]=
 (DX [I J,I M,I N, .vC Ag G, .vC kPt X,I Y]).bind λE=>
 cond (decide (gA E 0<0)) (some [I J,I M,I N]) (cond (decide (gA E 0>0)) (cond (decide (0<=V (gA E 0-1))&&decide (V (gA E 0-1)<(G.length:Int))) (cond (decide (0<=gA E 0)&&decide (gA E 0<(G.length:Int))) ((AQ [I (V (gA (nth [] G (gA E 0).toNat) 0-gA (nth [] G (V (gA E 0-1)).toNat) 0)),jA E 1,jA (nth [] G (gA E 0).toNat) 3,I 2]).bind λo8=>
 (AQ [I (V (gA (nth [] G (gA E 0).toNat) 1-gA (nth [] G (V (gA E 0-1)).toNat) 1)),jA E 1,jA (nth [] G (gA E 0).toNat) 3,I 2]).bind λo9=>
 (AQ [I (V (gA (nth [] G (gA E 0).toNat) 2-gA (nth [] G (V (gA E 0-1)).toNat) 2)),jA E 1,jA (nth [] G (gA E 0).toNat) 3,I 2]).bind λO=>
 some [I (V (gA (nth [] G (V (gA E 0-1)).toNat) 0+gA o8 0)),I (V (gA (nth [] G (V (gA E 0-1)).toNat) 1+gA o9 0)),I (V (gA (nth [] G (V (gA E 0-1)).toNat) 2+gA O 0))]) (none)) (none)) (cond (decide (0<=gA E 0)&&decide (gA E 0<(G.length:Int))) ((AQ [I (V (gA (nth [] G (gA E 0).toNat) 0-J)),jA E 1,jA (nth [] G (gA E 0).toNat) 3,I 2]).bind λS=>
 (AQ [I (V (gA (nth [] G (gA E 0).toNat) 1-M)),jA E 1,jA (nth [] G (gA E 0).toNat) 3,I 2]).bind λT=>
 (AQ [I (V (gA (nth [] G (gA E 0).toNat) 2-N)),jA E 1,jA (nth [] G (gA E 0).toNat) 3,I 2]).bind λU=>
 some [I (V (J+gA S 0)),I (V (M+gA T 0)),I (V (N+gA U 0))]) (none))):=by kernel_rfl
def R1:=Qdq BM Fe
theorem Zmt:Ai PG (Ys BM Fe):=Ap rfl ⟨LN,Qaa,trivial⟩
theorem Ziu:Am PG (Yaa R1):=rw1 (C:=Ys BM Fe) Zmt
def VH:=qa 73 ZS Qae
def Zcw:Fn:=An PG Qcv 64 73 ZS Qae
theorem Zr4 (E G:Int):Zcw [I E,I G]=
 some [I (mx 0 (mn E G))]:=by kernel_rfl
def FZ:=Zcw
theorem TA:Am PG (VH FZ):=rw1 (C:=Qcv) Zft
def Ry:=qa 36 YL Qae
def Qsv (E G:Fn):Cfg:=cf [Qqh E,VH G]
def Qnq (E G:Fn):Fn:=An PG (Qsv E G) 64 36 YL Qae
theorem Ztn (M N:Fn) (E:Rw) (G J O S T U:Int):Qnq M N [.vC As E,I G,I J,I O,I S,I T,I U]=
 (N [I U,I G]).bind λo2=>
 (M [.vC As E,I G,I J,I O,I S,I T,jA o2 0]).bind λo3=>
 cond (decide (gA o3 0<0)) (some [I J]) (cond (decide (0<=gA o3 0)&&decide (gA o3 0<(E.length:Int))) (cond (decide (0<=gA o3 0)&&decide (gA o3 0<(E.length:Int))) (cond (decide (0<=gA o3 0)&&decide (gA o3 0<(E.length:Int))) (some [I (V (gA (nth [] E (gA o3 0).toNat) 2+V (gA (nth [] E (gA o3 0).toNat) 3*V (gA o2 0-gA (nth [] E (gA o3 0).toNat) 0))))]) (none)) (none)) (none)):=by kernel_rfl
def Ew:=Qnq Hh FZ
theorem Z23:Ai PG (Qsv Hh FZ):=Ap rfl ⟨Qj8,TA,trivial⟩
theorem RK:Am PG (Ry Ew):=rw1 (C:=Qsv Hh FZ) Z23
def XN:Sk:=⟨[TS.v true [ci,ci,ci,sa Ag,sa kPt],TS.v true (cc 9++[sa Aa]++cc 9++[sa Aa]++cc 9++[sa Aa]),TS.v true ([sa As]++cc 5),tf [ci]],[],[]⟩
def Tn:=qa 29 XN Qbn
def Qiu (E G I J M N O:Fn):Cfg:={cf [Z9x E,Zag G,Z85 I,Qqh J,Yaa M,Ry N,VH O]with unroll:=[6]}
def Qek (E G I J M N O:Fn):Fn:=An PG (Qiu E G I J M N O) 64 29 XN Qbn
abbrev XO (U:Fn) (x:Ax3) (N E:List AC) (X:Fn) (t:Trk) (G:AC) (Y:Fn) (O:List AC) (J:AC):Option (List AC):=
 (U [I x.c.step,I x.c.aS,I x.c.accel,I x.c.jerk,I x.c.low,I x.c.aY,I x.c.bB,I x.c.aV,I x.c.aO, .vC Aa (x.c.aW.map Ao),jA N 2]).bind λM=>
 cond (decide (gA E 0<0)) ((X [I x.c.step,I x.c.aS,I x.c.accel,I x.c.jerk,I x.c.low,I x.c.aY,I x.c.bB,I x.c.aV,I x.c.aO, .vC Aa (x.c.aW.map Ao),I t.aT.z]).bind λS=>
 some [G,J,I (V (gA M 0+gA S 0))]) (cond (decide (0<=gA E 0)&&decide (gA E 0<((t.aE.map AN).length:Int))) ((Y (I x.c.step::I x.c.aS::I x.c.accel::I x.c.jerk::I x.c.low::I x.c.aY::I x.c.bB::I x.c.aV::I x.c.aO:: .vC Aa (x.c.aW.map Ao)::(AT As (nth [] (t.aE.map AN) (gA E 0).toNat)++[I (V (V (0+1)+1)),jA O 0]))).bind λT=>
 some [G,J,I (V (gA M 0+gA T 0))]) (none))
abbrev ZT (O:Fn) (x:Ax3) (J E:List AC) (S:Fn) (t:Trk) (T:Fn) (M:List AC) (G:AC):Option (List AC):=
 (O [I x.b.step,I x.b.aS,I x.b.accel,I x.b.jerk,I x.b.low,I x.b.aY,I x.b.bB,I x.b.aV,I x.b.aO, .vC Aa (x.b.aW.map Ao),jA J 1]).bind λN=>
 cond (decide (gA E 0<0)) ((S [I x.b.step,I x.b.aS,I x.b.accel,I x.b.jerk,I x.b.low,I x.b.aY,I x.b.bB,I x.b.aV,I x.b.aO, .vC Aa (x.b.aW.map Ao),I t.aT.y]).bind λU=>
 XO O x J E S t G T M (I (V (gA N 0+gA U 0)))) (cond (decide (0<=gA E 0)&&decide (gA E 0<((t.aE.map AN).length:Int))) ((T (I x.b.step::I x.b.aS::I x.b.accel::I x.b.jerk::I x.b.low::I x.b.aY::I x.b.bB::I x.b.aV::I x.b.aO:: .vC Aa (x.b.aW.map Ao)::(AT As (nth [] (t.aE.map AN) (gA E 0).toNat)++[I (V (0+1)),jA M 0]))).bind λX=>
 XO O x J E S t G T M (I (V (gA N 0+gA X 0)))) (none))
theorem Z7p (O S T Er Ov BT CN:Fn) (M:Int) (p:Pth) (x:Ax3) (t:Trk):Qek O S T Er Ov BT CN (pxt p x t [I M])=
 (CN [I M,I t.length]).bind λG=>
 (BT [.vC As (t.aE.map AN),I t.length,I t.aQ,I t.aT.x,I t.aT.y,I t.aT.z,jA G 0]).bind λU=>
 (Ov [I p.aQ.x,I p.aQ.y,I p.aQ.z, .vC Ag (p.aF.map Av), .vC kPt (p.aD.map Aw),jA U 0]).bind λJ=>
 (Er [.vC As (t.aE.map AN),I t.length,I t.aQ,I t.aT.x,I t.aT.y,I t.aT.z,jA G 0]).bind λE=>
 (T [I x.a.step,I x.a.aS,I x.a.accel,I x.a.jerk,I x.a.low,I x.a.aY,I x.a.bB,I x.a.aV,I x.a.aO, .vC Aa (x.a.aW.map Ao),jA J 0]).bind λN=>
 cond (decide (gA E 0<0)) ((S [I x.a.step,I x.a.aS,I x.a.accel,I x.a.jerk,I x.a.low,I x.a.aY,I x.a.bB,I x.a.aV,I x.a.aO, .vC Aa (x.a.aW.map Ao),I t.aT.x]).bind λX=>
 ZT T x J E S t O G (I (V (gA N 0+gA X 0)))) (cond (decide (0<=gA E 0)&&decide (gA E 0<((t.aE.map AN).length:Int))) ((O (I x.a.step::I x.a.aS::I x.a.accel::I x.a.jerk::I x.a.low::I x.a.aY::I x.a.bB::I x.a.aV::I x.a.aO:: .vC Aa (x.a.aW.map Ao)::(AT As (nth [] (t.aE.map AN) (gA E 0).toNat)++[I 0,jA G 0]))).bind λY=>
 ZT T x J E S t O G (I (V (gA N 0+gA Y 0)))) (none)):=by kernel_rfl
def EB:=Qek S0 J8 Nz Hh R1 Ew FZ
theorem Z2p:Ai PG (Qiu S0 J8 Nz Hh R1 Ew FZ):=Ap rfl ⟨Zwz,Q3q,Zvx,Qj8,Ziu,RK,TA,trivial⟩
theorem Vs:Am PG (Tn EB):=rw1 (C:=Qiu S0 J8 Nz Hh R1 Ew FZ) Z2p
def Qd7:Sk:=⟨[tf [ci],TS.v true (cc 13++[sb,ci,sb]++cc 5++[sb])],[],[]⟩
def Zhv:=qa 164 Qd7 Qae
def Qnh:Fn:=An PG Qcv 64 164 Qd7 Qae
theorem Z9s (G x1 x2 x3 x4 x5 x6 x7 x8 x9 M N O S:Int) (T:Bool) (U:Int) (X:Bool) (Y a0 a1 E a2:Int) (J:Bool):Qnh [I G,I x1,I x2,I x3,I x4,I x5,I x6,I x7,I x8,I x9,I M,I N,I O,I S,B T,I U,B X,I Y,I a0,I a1,I E,I a2,B J]=
 cond (x1 !=10) (some [I G]) (cond (decide (E<0)) (some [I G]) (cond (decide (E>=16)) (some [I G]) (cond (decide (wrap .u64 E<0)) (none) (cond (J) (some [I (V (↑(BitVec.ofInt IntKind.i64.bits G|||BitVec.ofInt IntKind.i64.bits (V (1*2^min (wrap .u64 E).toNat IntKind.i64.bits))).toNat:Int))]) (some [I (V (↑(BitVec.ofInt IntKind.i64.bits G&&& ~~~BitVec.ofInt IntKind.i64.bits (V (1*2^min (wrap .u64 E).toNat IntKind.i64.bits))).toNat:Int))]))))):=by kernel_rfl
def K7:=Qnh
theorem Z75:Am PG (Zhv K7):=rw1 (C:=Qcv) Zft
def Qkn:Sk:=⟨[TS.v true [ci,ci,ci],TS.v true [ci,ci,sb,sb,sb]],[],[]⟩
def Qy8:=qa 163 Qkn Qqn
def Qnb:Fn:=An PG Qcv 64 163 Qkn Qqn
theorem Z76 (M E N O S:Int) (T G J:Bool):Qnb [I M,I E,I N,I O,I S,B T,B G,B J]=
 cond (E==1) (some [B true]) (cond (E==3) (some [B true]) (cond (E==6) (some [B true]) (cond (E==4) (cond (J) (some [B true]) (some [B G])) (cond (E==2) (some [B G]) (some [B false]))))):=by kernel_rfl
def I6:=Qnb
theorem Qxy:Am PG (Qy8 I6):=rw1 (C:=Qcv) Zft
def Qeo:Sk:=⟨[tf [sd 20000 0],tf [ci]],[(20000,119,cS)],[]⟩
def ZA:Sk:=⟨[tf [sa Aa]],[(20000,119,cS)],[]⟩
def Zzd:=qa 111 Qeo ZA
def Qrg (E G:Fn):Cfg:={cf [Zhv E,Qy8 G]with prom:=λb=>cond (Nat.beq b 2) ([(5,3)]) ([])}
def Qt5:Sk:=⟨[tf [sd 20000 0],tf [ci],td,td,td,tf [se 5 1]]++dd 84,[(20000,119,cS)],[(5,3,Aa)]⟩
def Q9d:List (Ex×Sk):=[(Ex.exit 0,⟨[td,td,td,td,td,tf [se 5 1]]++dd 84,[(20000,119,cS)],[(5,3,Aa)]⟩)]
def SG (E G:Fn):Lp:=A5 PG (Qrg E G) 64 2 (A4 PG 111 2) Qt5 Q9d
def Quy (E G:Fn) (I:Lp):Cfg:=(Qrg E G).loop 2 Qt5 Q9d I
def Qqv (E G:Fn) (I:Lp):Fn:=An PG (Quy E G I) 64 111 Qeo ZA
abbrev PL (K:Kf) (c:Cv) (v0:Rw) (J:Fn) (G:Int):Option (Nat×List AC):=
 cond (gA (nth [] (K.p.aD.map Aw) c.aK.toNat) 1==5) (cond (((v0++[[jA (nth [] (K.p.aD.map Aw) c.aK.toNat) 2]]).length*8).ble 140737488355328) (cond (decide (0<=gA (nth [] (K.p.aD.map Aw) c.aK.toNat) 2)&&decide (gA (nth [] (K.p.aD.map Aw) c.aK.toNat) 2<((K.aA.map Af).length:Int))) ((J (I c.outs::AT Aj (nth [] (K.aA.map Af) (gA (nth [] (K.p.aD.map Aw) c.aK.toNat) 2).toNat))).bind λE=>
 some (0,(.vC Aa (v0++[[jA (nth [] (K.p.aD.map Aw) c.aK.toNat) 2]])::I G::Ab K {c with outs:=gA E 0,aK:=V (c.aK+1)}))) (none)) (none)) (some (0,(.vC Aa v0::I G::Ab K {c with aK:=V (c.aK+1)})))
theorem Zpw (G J:Fn) (v0:Rw) (E:Int) (K:Kf) (c:Cv):SG G J (.vC Aa v0::I E::Ab K c)=
 cond (decide (c.aK<((K.p.aD.map Aw).length:Int))) (cond (decide (0<=c.aK)&&decide (c.aK<((K.p.aD.map Aw).length:Int))) (cond (decide (gA (nth [] (K.p.aD.map Aw) c.aK.toNat) 0>E)) (some (1,(.vC Aa v0::Ab K c))) (cond (gA (nth [] (K.p.aD.map Aw) c.aK.toNat) 0==E) (cond (decide (c.aK>=c.next)) ((J [jA (nth [] (K.p.aD.map Aw) c.aK.toNat) 0,jA (nth [] (K.p.aD.map Aw) c.aK.toNat) 1,jA (nth [] (K.p.aD.map Aw) c.aK.toNat) 2,I c.o0,I c.o1,B c.o2,B c.o3,B c.o4]).bind λM=>
 cond (bA M 0) (some (1,(.vC Aa v0::Ab K c))) (PL K c v0 G E)) (PL K c v0 G E)) (PL K c v0 G E))) (none)) (some (1,(.vC Aa v0::Ab K c))):=by kernel_rfl
theorem Yaj (M N:Fn) (G:Lp) (J:Int) (K:Kf) (c:Cv):Qqv M N G (I J::Ab K c)=
 (G (.vC Aa []::I J::Ab K c)).bind λE=>
 cond (E.1.beq 1) (some (.vC Aa (wA E.2 0)::cR 1 E.2)) (none):=by kernel_rfl
def Q43:=Ak (SG K7 I6)
def NJ:=Qqv K7 I6 Q43
theorem Q2l:Ai PG (Qrg K7 I6):=Ap rfl ⟨Z75,Qxy,trivial⟩
theorem Z8h:Am PG (Zzd NJ):=rw2 (C:=Quy K7 I6 Q43) (fl fb Q2l) Q2l
def Qlf:Sk:=⟨[TS.v true [ci,ci,ci,sa Ag,sa kPt],TS.v true (cc 9++[sa Aa]++cc 9++[sa Aa]++cc 9++[sa Aa]),TS.v true ([sa As]++cc 5),tf [ci],tf [ci]],[],[]⟩
def Qbo:Sk:=⟨[tf [sa kPt]],[],[]⟩
def Zer:=qa 25 Qlf Qbo
def Qim (E:Fn):Cfg:={cf [Tn E]with prom:=λb=>cond (Nat.beq b 5) ([(11,130)]) ([]),unroll:=[9]}
def Qzu:Sk:=⟨[td,td,td,td,tf [ci],tf [sd 5 0],tf [sd 6 0],tf [sd 7 0],td,td,td,tf [se 11 3],tf [sd 12 0],tf [ci]]++dd 54,[(5,58,[ci,ci,ci,sa Ag,sa kPt]),(6,27,cc 9++[sa Aa]++cc 9++[sa Aa]++cc 9++[sa Aa]),(7,62,[sa As]++cc 5),(12,44,[ci,ci,ci])],[(11,130,kPt)]⟩
def Q93:List (Ex×Sk):=[(Ex.exit 0,⟨dd 11++[tf [se 11 3]]++dd 56,[],[(11,130,kPt)]⟩)]
def Qn5 (E:Fn):Lp:=A5 PG (Qim E) 64 5 (A4 PG 25 5) Qzu Q93
def Qxp (E:Fn) (G:Lp):Cfg:=(Qim E).loop 5 Qzu Q93 G
def Yz (E:Fn) (G:Lp):Fn:=An PG (Qxp E G) 64 25 Qlf Qbo
abbrev Pb (E:List AC) (v46 N O:Int) (p:Pth) (x:Ax3) (t:Trk) (G:Bool) (J M:AC):Option (Nat×List AC):=
 cond (gA E 2 !=v46) (cond (G) (some (0,(J::I N::I (V (O+1))::pxt p x t [jA E 0,jA E 1,jA E 2]))) (none)) (some (0,(M::I N::I (V (O+1))::pxt p x t [jA E 0,jA E 1,jA E 2])))
theorem Z9l (N:Fn) (v0:Rw) (M E:Int) (v44 J v46:Int) (p:Pth) (x:Ax3) (t:Trk):Qn5 N (.vC kPt v0::I M::I E::pxt p x t [I v44,I J,I v46])=
 cond (decide (E<M)) ((N (pxt p x t [I (V (E+1))])).bind λG=>
 cond (gA G 0 !=v44) (cond (((v0++[[I (V (E+1)),I 0,I (V (gA G 0-v44))]]).length*24).ble 140737488355328) (cond (gA G 1 !=J) (cond (((v0++[[I (V (E+1)),I 0,I (V (gA G 0-v44))]]++[[I (V (E+1)),I (V (0+1)),I (V (gA G 1-J))]]).length*24).ble 140737488355328) (Pb G v46 M E p x t (((v0++[[I (V (E+1)),I 0,I (V (gA G 0-v44))]]++[[I (V (E+1)),I (V (0+1)),I (V (gA G 1-J))]]++[[I (V (E+1)),I (V (V (0+1)+1)),I (V (gA G 2-v46))]]).length*24).ble 140737488355328) (.vC kPt (v0++[[I (V (E+1)),I 0,I (V (gA G 0-v44))]]++[[I (V (E+1)),I (V (0+1)),I (V (gA G 1-J))]]++[[I (V (E+1)),I (V (V (0+1)+1)),I (V (gA G 2-v46))]])) (.vC kPt (v0++[[I (V (E+1)),I 0,I (V (gA G 0-v44))]]++[[I (V (E+1)),I (V (0+1)),I (V (gA G 1-J))]]))) (none)) (Pb G v46 M E p x t (((v0++[[I (V (E+1)),I 0,I (V (gA G 0-v44))]]++[[I (V (E+1)),I (V (V (0+1)+1)),I (V (gA G 2-v46))]]).length*24).ble 140737488355328) (.vC kPt (v0++[[I (V (E+1)),I 0,I (V (gA G 0-v44))]]++[[I (V (E+1)),I (V (V (0+1)+1)),I (V (gA G 2-v46))]])) (.vC kPt (v0++[[I (V (E+1)),I 0,I (V (gA G 0-v44))]])))) (none)) (cond (gA G 1 !=J) (cond (((v0++[[I (V (E+1)),I (V (0+1)),I (V (gA G 1-J))]]).length*24).ble 140737488355328) (Pb G v46 M E p x t (((v0++[[I (V (E+1)),I (V (0+1)),I (V (gA G 1-J))]]++[[I (V (E+1)),I (V (V (0+1)+1)),I (V (gA G 2-v46))]]).length*24).ble 140737488355328) (.vC kPt (v0++[[I (V (E+1)),I (V (0+1)),I (V (gA G 1-J))]]++[[I (V (E+1)),I (V (V (0+1)+1)),I (V (gA G 2-v46))]])) (.vC kPt (v0++[[I (V (E+1)),I (V (0+1)),I (V (gA G 1-J))]]))) (none)) (Pb G v46 M E p x t (((v0++[[I (V (E+1)),I (V (V (0+1)+1)),I (V (gA G 2-v46))]]).length*24).ble 140737488355328) (.vC kPt (v0++[[I (V (E+1)),I (V (V (0+1)+1)),I (V (gA G 2-v46))]])) (.vC kPt v0)))) (some (1,[.vC kPt v0])):=by kernel_rfl
theorem Zs3 (M:Fn) (N:Lp) (E G:Int) (p:Pth) (x:Ax3) (t:Trk):Yz M N (pxt p x t [I E,I G])=
 (M (pxt p x t [I (mx 0 (mn E t.length))])).bind λJ=>
 (N (.vC kPt []::I (mx 0 (mn G t.length))::I (mx 0 (mn E t.length))::pxt p x t [jA J 0,jA J 1,jA J 2])).bind λO=>
 cond (O.1.beq 1) (some [.vC kPt (wA O.2 0)]) (none):=by kernel_rfl
def Qxv:=Ak (Qn5 EB)
def Ks:=Yz EB Qxv
theorem Zby:Ai PG (Qim EB):=Ap rfl ⟨Vs,trivial⟩
theorem Zge:Am PG (Zer Ks):=rw2 (C:=Qxp EB Qxv) (fl fb Zby) Zby
def Qo8:Sk:=⟨[tf [sd 20000 0]],[(20000,119,cS)],[]⟩
def QD (M:Fn):Nat×Spec:=(63,E0 Qo8 Qae M)
def Qjt:Fn:=L6 PG Qcv 64 63 Qo8 Qae
theorem Zvd (K:Kf) (c:Cv):Qjt (Ab K c)=
 some [I (V (c.m0.tdiv 256))]:=by kernel_rfl
def Dm:=Qjt
theorem Znh (vars:List AC) (R:Type) (K:TV->Mem->Option R):Fh PG Qcv 64 63 [TV.v false [AC.ptr 20000 0]] ⟨[(20000,(⟨119,(cR 0 vars)⟩:Box))],[]⟩ K=Fh PG Qcv 64 63 [TV.v false [AC.ptr 20000 0]] ⟨[(20000,(⟨119,(cR 0 vars)⟩:Box))],[]⟩ (λv _=>K v ⟨[(20000,(⟨119,(cR 0 vars)⟩:Box))],[]⟩):=cx (b:=(K (TV.v false [I (V ((gA vars 50).tdiv 256))]) ⟨[(20000,(⟨119,(cR 0 vars)⟩:Box))],[]⟩)) (by kernel_rfl) (Eq.symm (by kernel_rfl))
theorem QH:Am PG (63,E0 Qo8 Qae Dm):=QC (C:=Qcv) (L:=64) (by kernel_rfl) (FnOK.bare rfl rfl rfl) Zft eqOk FI (by kernel_rfl) (by kernel_rfl) (λvars R K=>Znh vars R K)
def PF (M:Fn):Nat×Spec:=(110,E0 Qo8 Qae M)
def Qs (E G:Fn):Cfg:=cr [Ry E,QD G] [63] [63]
def Z6 (E G:Fn):Fn:=L6 PG (Qs E G) 64 110 Qo8 Qae
theorem Z2e (E G:Fn) (K:Kf) (c:Cv):Z6 E G (Ab K c)=
 (G (Ab K c)).bind λo2=>
 (E (Ba K.t++[jA o2 0])).bind λo3=>
 some [jA o3 0]:=by kernel_rfl
def Dn:=Z6 Ew Dm
theorem Zkt:Ai PG (Qs Ew Dm):=Hf (rs:=[63]) rfl ⟨RK,QH,trivial⟩ rfl (CK rfl (Fj Hx))
theorem Zik (vars : List AC) (R : Type) (K : TV -> Mem -> Option R) : Fh PG (Qs Ew Dm) 64 110 [TV.v false [AC.ptr 20000 0]] ⟨[(20000, (⟨119, (cR 0 vars)⟩ : Box))], []⟩ K = Fh PG (Qs Ew Dm) 64 110 [TV.v false [AC.ptr 20000 0]] ⟨[(20000, (⟨119, (cR 0 vars)⟩ : Box))], []⟩ (λv _ => K v ⟨[(20000, (⟨119, (cR 0 vars)⟩ : Box))], []⟩) := cx (b := ((Dm (cR 0 vars)).bind λo2 =>
 (Ew [.vC As (wA vars 44),jA vars 45,jA vars 46,jA vars 47,jA vars 48,jA vars 49,jA o2 0]).bind λo3=>
 K (TV.v false [jA o3 0]) ⟨[(20000,(⟨119,(cR 0 vars)⟩:Box))],[]⟩)) (by kernel_rfl) (Eq.symm (by kernel_rfl))
theorem P4:Am PG (110,E0 Qo8 Qae Dn):=QC (C:=Qs Ew Dm) (L:=64) (by kernel_rfl) (FnOK.bare rfl rfl rfl) Zkt eqOk FI (by kernel_rfl) (by kernel_rfl) (λvars R K=>Zik vars R K)
def Qlx:Sk:=⟨[tf [sd 20000 0],tf [sd 20001 0],tf [ci]],[(20000,119,cS),(20001,46,[sa kPt,sa Aa]++cc 7)],[]⟩
def Qkc:Sk:=⟨[TS.tup []],[(20000,119,cS),(20001,46,[sa kPt,sa Aa]++cc 7)],[]⟩
def Zwi:=qa 71 Qlx Qkc
def Qdo (E G I J M:Fn):Cfg:=cr [Tn E,Zzd G,Zer I,PF J,QD M] [111,110,63] [110,63]
def SE (E G I J M:Fn):Fn:=An PG (Qdo E G I J M) 64 71 Qlx Qkc
abbrev Sn (c:Cv) (V:Fn) (J:List AC) (K:Kf) (T:Fn) (U:List AC) (O:Int) (S:Rw) (G:AC):Option (List AC):=
 cond (c.way==0) ((V (jA J 0::Ab K c)).bind λE=>
 (T [jA E 38,jA E 39,jA E 40, .vC Ag (wA E 41), .vC kPt (wA E 42),jA E 1,jA E 2,jA E 3,jA E 4,jA E 5,jA E 6,jA E 7,jA E 8,jA E 9, .vC Aa (wA E 10),jA E 11,jA E 12,jA E 13,jA E 14,jA E 15,jA E 16,jA E 17,jA E 18,jA E 19, .vC Aa (wA E 20),jA E 21,jA E 22,jA E 23,jA E 24,jA E 25,jA E 26,jA E 27,jA E 28,jA E 29, .vC Aa (wA E 30), .vC As (wA E 45),jA E 46,jA E 47,jA E 48,jA E 49,jA E 50,jA U 0]).bind λM=>
 some (cR 1 E++[G, .vC Aa (wA E 0),I O,jA J 0,jA M 0,jA M 1,jA M 2,jA E 68,jA E 63])) ((T (pxt K.p K.x K.t [jA U 0])).bind λN=>
 some (Ab K c++[G, .vC Aa S,I O,jA J 0,jA N 0,jA N 1,jA N 2,I c.s3,I c.g1]))
theorem Q6n (N O O_ Bw Bb:Fn) (x0:Int) (J E:Rw) (G S T U V X Y:Int) (K:Kf) (c:Cv):SE N O O_ Bw Bb (I x0::(Ab K c++[.vC kPt J, .vC Aa E,I G,I S,I T,I U,I V,I X,I Y]))=
 (Bb (Ab K c)).bind λo9=>
 (Bw (Ab K c)).bind λM=>
 cond (!c.aL) ((O_ (pxt K.p K.x K.t [I x0,jA o9 0])).bind λa0=>
 Sn c O M K N o9 G E (.vC kPt (wA a0 0))) (Sn c O M K N o9 G E (.vC kPt J)):=by kernel_rfl
def Ls:=SE EB NJ Ks Dn Dm
theorem Zpx:Ai PG (Qdo EB NJ Ks Dn Dm):=Hf (rs:=[110,63]) rfl ⟨Vs,Z8h,Zge,P4,QH,trivial⟩ rfl (CK rfl (CK rfl (CK rfl (Fj (Fj Hx)))))
theorem Zhk:Am PG (Zwi Ls):=rw1 (C:=Qdo EB NJ Ks Dn Dm) Zpx
def Qmq:Sk:=⟨[TS.tup []],[(20000,119,cS)],[]⟩
def Zh:=qa 108 Qo8 Qmq
def Qq0:Fn:=An PG Qcv 64 108 Qo8 Qmq
theorem Znm (K:Kf) (c:Cv):Qq0 (Ab K c)=
 cond (c.g0==0) (some (Ab K {c with o2:=true,g0:=1,g1:=18,g2:= -1})) (some (Ab K c)):=by kernel_rfl
def Hd:=Qq0
theorem Qp6:Am PG (Zh Hd):=rw1 (C:=Qcv) Zft
def Qi1:Sk:=⟨[TS.v true [ci,ci,ci],tf [ci]],[],[]⟩
def Qwa:=qa 174 Qi1 Qae
def Vh:Fn:=An PG Qcv 64 174 Qi1 Qae
theorem Qex (J E M G:Int):Vh [I J,I E,I M,I G]=
 cond (decide (G<=0)) (some [I 0]) (cond (decide (E<=0)) (some [I 0]) (cond (decide (E=0)) (none) (some [I (V (V (V ((V (G-1)).tdiv E)*G)-V (E*V ((V (V ((V (G-1)).tdiv E)*V (V ((V (G-1)).tdiv E)+1))).tdiv 2))))]))):=by kernel_rfl
def G9:=Vh
theorem Q2j:Am PG (Qwa G9):=rw1 (C:=Qcv) Zft
def Zi:=qa 87 Qbn Qqn
def Q2n:Fn:=An PG Qcv 64 87 Qbn Qqn
theorem Z8l (E G J:Int):Q2n [I E,I G,I J]=
 cond (decide (1<=E)) (cond (decide (E<=65536)) (cond (decide (2<=G)) (cond (decide (G<=65536)) (cond (decide (1<=J)) (some [B (decide (J<=16777216))]) (some [B false])) (some [B false])) (some [B false])) (some [B false])) (some [B false]):=by kernel_rfl
def FE:=Q2n
theorem Qpq:Am PG (Zi FE):=rw1 (C:=Qcv) Zft
def Qgg:Sk:=⟨[TS.v true [ci,ci,ci],tf [ci],tf [ci]],[],[]⟩
def Qav:=qa 129 Qgg Qae
def Qc2 (E G:Fn):Cfg:=cf [Qwa E,Zi G]
def Q4e:Sk:=⟨[td,tf [ci],td,tf [sd 3 0],td,td,td,tf [ci],tf [ci]]++dd 49,[(3,29,[ci,ci,ci])],[]⟩
def Q01:List (Ex×Sk):=[(Ex.exit 0,⟨dd 7++[tf [ci]]++dd 50,[],[]⟩)]
def Nr (E G:Fn):Lp:=A5 PG (Qc2 E G) 64 4 (A4 PG 129 4) Q4e Q01
def Q6i (E G:Fn) (I:Lp):Cfg:=(Qc2 E G).loop 4 Q4e Q01 I
def T1 (E G:Fn) (I:Lp):Fn:=An PG (Q6i E G I) 64 129 Qgg Qae
theorem Yr (O S:Fn) (v0 G E J M N:Int):Nr O S [I v0,I G,I E,I J,I M,I N]=
 cond (decide (G<E)) ((O [I J,I M,I N,I (V (E-V ((V (E-G)).tdiv 2)))]).bind λo4=>
 cond (decide (V (v0-V (E-V ((V (E-G)).tdiv 2)))>=gA o4 0)) (some (0,[I v0,I (V (E-V ((V (E-G)).tdiv 2))),I E,I J,I M,I N])) (some (0,[I v0,I G,I (V (V (E-V ((V (E-G)).tdiv 2))-1)),I J,I M,I N]))) (some (1,[I G])):=by kernel_rfl
theorem Zbm (U O:Fn) (S:Lp) (J E N M G:Int):T1 U O S [I J,I E,I N,I M,I G]=
 (O [I J,I E,I N]).bind λX=>
 cond (!bA X 0) (some [I 0]) (cond (decide (mx G M>1099511627776)) (some [I 0]) (cond (decide (mn G M< -1099511627776)) (some [I 0]) ((S [I M,I (V (V (0-G)-E)),I (mn (V (E-G)) J),I J,I E,I N]).bind λT=>
 cond (T.1.beq 1) (some [I (V (0-gA T.2 0))]) (none)))):=by kernel_rfl
def Q06:=Ak (Nr G9 FE)
def FN:=T1 G9 FE Q06
theorem Qu0:Ai PG (Qc2 G9 FE):=Ap rfl ⟨Q2j,Qpq,trivial⟩
theorem Qe0:Am PG (Qav FN):=rw2 (C:=Q6i G9 FE Q06) (fl fb Qu0) Qu0
def Qj3:Sk:=⟨[tf [sa Aa],tf [ci]],[],[]⟩
def Zff:=qa 121 Qj3 Qqn
def Qt7:Sk:=⟨[td,tf [ci],td,td,td,td,td,tf [sa Aa],tf [ci],tf [ci]]++dd 13,[],[]⟩
def Quk:List (Ex×Sk):=[(Ex.ret,⟨[td,td,td,td,tf [sb]]++dd 18,[],[]⟩),(Ex.exit 0,⟨[td]++dd 22,[],[]⟩)]
def Wx:Lp:=A5 PG Qcv 64 2 (A4 PG 121 2) Qt7 Quk
def Q9z (E:Lp):Cfg:=Qcv.loop 2 Qt7 Quk E
def V7 (E:Lp):Fn:=An PG (Q9z E) 64 121 Qj3 Qqn
theorem Zyb (v0:Int) (G:Rw) (J E:Int):Wx [I v0, .vC Aa G,I J,I E]=
 cond (decide (E<J)) (cond (decide (0<=E)&&decide (E<(G.length:Int))) (cond (decide (gA (nth [] G E.toNat) 0>v0)) (some (1,[B false])) (cond (decide (gA (nth [] G E.toNat) 0<V (0-v0))) (some (1,[B false])) (some (0,[I v0, .vC Aa G,I J,I (V (E+1))])))) (none)) (some (2,[])):=by kernel_rfl
theorem Zhg (G:Lp) (E:Rw) (J:Int):V7 G [.vC Aa E,I J]=
 (G [I J, .vC Aa E,I (E.length:Int),I 0]).bind λo1=>
 cond (o1.1.beq 1) (some [B (bA o1.2 0)]) (cond (o1.1.beq 2) (some [B true]) (none)):=by kernel_rfl
def Zb2:=Ak (Wx)
def QN:=V7 Zb2
theorem Zu0:Am PG (Zff QN):=rw2 (C:=Q9z Zb2) (fl fb Zft) Zft
def Qhr:Sk:=⟨[tf [sa Aa]],[],[]⟩
def Zsd:=qa 120 Qhr Qhr
def C_limits_Differences_0:Cfg:={cf []with prom:=λb=>cond (Nat.beq b 3) ([(3,3)]) ([])}
def Qsw:Sk:=⟨[tf [sa Aa],td,td,tf [se 3 1],tf [ci]]++dd 20,[],[(3,3,Aa)]⟩
def Zau:List (Ex×Sk):=[(Ex.exit 0,⟨[td,td,td,tf [se 3 1]]++dd 21,[],[(3,3,Aa)]⟩)]
def Qsc:Lp:=A5 PG C_limits_Differences_0 64 3 (A4 PG 120 3) Qsw Zau
def Q3r (E:Lp):Cfg:=C_limits_Differences_0.loop 3 Qsw Zau E
def YW (E:Lp):Fn:=An PG (Q3r E) 64 120 Qhr Qhr
theorem Z0f (v0 G:Rw) (E:Int):Qsc [.vC Aa v0, .vC Aa G,I E]=
 cond (decide (E<(G.length:Int))) (cond (decide (0<=E)&&decide (E<(G.length:Int))) (cond (decide (0<=V (E-1))&&decide (V (E-1)<(G.length:Int))) (cond (((v0++[[I (V (gA (nth [] G E.toNat) 0-gA (nth [] G (V (E-1)).toNat) 0))]]).length*8).ble 140737488355328) (some (0,[.vC Aa (v0++[[I (V (gA (nth [] G E.toNat) 0-gA (nth [] G (V (E-1)).toNat) 0))]]), .vC Aa G,I (V (E+1))])) (none)) (none)) (none)) (some (1,[.vC Aa v0])):=by kernel_rfl
theorem Zpb (E:Lp) (G:Rw):YW E [.vC Aa G]=
 (E [.vC Aa [], .vC Aa G,I 1]).bind λo1=>
 cond (o1.1.beq 1) (some [.vC Aa (wA o1.2 0)]) (none):=by kernel_rfl
def Za9:=Ak (Qsc)
def Se:=YW Za9
theorem Q47:Ai PG (C_limits_Differences_0):=Ap rfl trivial
theorem Z7v:Am PG (Zsd Se):=rw2 (C:=Q3r Za9) (fl fb Q47) Q47
def Qdw:Sk:=⟨[TS.v true (cc 9++[sa Aa]),tf [sa Aa]],[],[]⟩
def Z6d:=qa 79 Qdw Qqn
def Qpi (E G:Fn):Cfg:={cf [Zff E,Zsd G]with unroll:=[2]}
def Qet (E G:Fn):Fn:=An PG (Qpi E G) 64 79 Qdw Qqn
theorem Yar (G J:Fn) (X O S T Y x5 x6 x7 x8:Int) (x9 E:Rw):Qet G J [I X,I O,I S,I T,I Y,I x5,I x6,I x7,I x8, .vC Aa x9, .vC Aa E]=
 (J [.vC Aa E]).bind λU=>
 (G [.vC Aa (wA U 0),I O]).bind λo7=>
 cond (!bA o7 0) (some [B false]) ((J [.vC Aa (wA U 0)]).bind λV=>
 (G [.vC Aa (wA V 0),I S]).bind λo9=>
 cond (!bA o9 0) (some [B false]) ((J [.vC Aa (wA V 0)]).bind λM=>
 (G [.vC Aa (wA M 0),I T]).bind λN=>
 cond (!bA N 0) (some [B false]) (some [B true]))):=by kernel_rfl
def Nu:=Qet QN Se
theorem Z5j:Ai PG (Qpi QN Se):=Ap rfl ⟨Zu0,Z7v,trivial⟩
theorem Zgm:Am PG (Z6d Nu):=rw1 (C:=Qpi QN Se) Z5j
def Qrb:Sk:=⟨[TS.v true (cc 9++[sa Aa]++cc 9++[sa Aa]++cc 9++[sa Aa]),tf [sa kPt]],[],[]⟩
def Z0e:=qa 31 Qrb Qqn
def YR (E:Fn):Cfg:=cf [Z6d E]
def Q2a:Sk:=⟨[td,tf [sa kPt],tf [sd 2 0],td,td,tf [ci],tf [se 13 1],td,tf [ci]]++dd 6++[tf [ci],tf [ci]]++dd 19,[(2,27,cc 9++[sa Aa]++cc 9++[sa Aa]++cc 9++[sa Aa])],[(13,3,Aa)]⟩
def Zal:List (Ex×Sk):=[(Ex.exit 2,⟨[td,tf [sa kPt],tf [sd 2 0],td,td,tf [ci],tf [se 13 1],td,tf [ci]]++dd 27,[(2,27,cc 9++[sa Aa]++cc 9++[sa Aa]++cc 9++[sa Aa])],[(13,3,Aa)]⟩)]
def Mv (E:Fn):Lp:=A5 PG (YR E) 64 6 (A4 PG 31 6) Q2a Zal
def Q0v (E:Fn) (G:Lp):Cfg:=(YR E).loop 6 Q2a Zal G
def Q0h:Sk:=⟨[td,tf [sa kPt],tf [sd 2 0],td,td,td,td,td,tf [ci]]++dd 27,[(2,27,cc 9++[sa Aa]++cc 9++[sa Aa]++cc 9++[sa Aa])],[]⟩
def Zai:List (Ex×Sk):=[(Ex.ret,⟨[td,td,td,td,tf [sb]]++dd 31,[],[]⟩),(Ex.exit 0,⟨[td]++dd 35,[],[]⟩)]
def TJ (E:Fn) (G:Lp):Lp:=A5 PG (Q0v E G) 64 2 (A4 PG 31 2) Q0h Zai
def Q2m (E:Fn) (G I:Lp):Cfg:=(Q0v E G).loop 2 Q0h Zai I
def T7 (E:Fn) (G I:Lp):Fn:=An PG (Q2m E G I) 64 31 Qrb Qqn
theorem Zre (Ez:Fn) (v0 v1:Rw) (v2 v3 v4 E v6 v7 v8 v9 v10 v11 v12 G J:Int) (M:Rw) (N O S T v20 v21 v22 U v24:Int) (v25:Rw) (X v27 v28 Y v30 v31 a0 v33 a1:Int) (v35:Rw):Mv Ez [.vC Aa v0, .vC kPt v1,I v2,I v3,I v4,I E,I v6,I v7,I v8,I v9,I v10,I v11,I v12,I G,I J, .vC Aa M,I N,I O,I S,I T,I v20,I v21,I v22,I U,I v24, .vC Aa v25,I X,I v27,I v28,I Y,I v30,I v31,I a0,I v33,I a1, .vC Aa v35]=
 cond (decide (E<v4)) (cond (decide (0<=E)&&decide (E<(v1.length:Int))) (cond (decide (v2=(↑0:Int))) (cond (decide (0<=E)&&decide (E<(v0.length:Int))) (some (0,[.vC Aa (v0.set E.toNat [jA (nth [] v1 E.toNat) 0]), .vC kPt v1,I v2,I v3,I v4,I (V (E+1)),I v6,I v7,I v8,I v9,I v10,I v11,I v12,I G,I J, .vC Aa M,I N,I O,I S,I T,I v20,I v21,I v22,I U,I v24, .vC Aa v25,I X,I v27,I v28,I Y,I v30,I v31,I a0,I v33,I a1, .vC Aa v35])) (none)) (cond (decide (v2=(↑(0+1):Int))) (cond (decide (0<=E)&&decide (E<(v0.length:Int))) (some (0,[.vC Aa (v0.set E.toNat [jA (nth [] v1 E.toNat) 1]), .vC kPt v1,I v2,I v3,I v4,I (V (E+1)),I v6,I v7,I v8,I v9,I v10,I v11,I v12,I G,I J, .vC Aa M,I N,I O,I S,I T,I v20,I v21,I v22,I U,I v24, .vC Aa v25,I X,I v27,I v28,I Y,I v30,I v31,I a0,I v33,I a1, .vC Aa v35])) (none)) (cond (decide (v2=(↑(0+1+1):Int))) (cond (decide (0<=E)&&decide (E<(v0.length:Int))) (some (0,[.vC Aa (v0.set E.toNat [jA (nth [] v1 E.toNat) 2]), .vC kPt v1,I v2,I v3,I v4,I (V (E+1)),I v6,I v7,I v8,I v9,I v10,I v11,I v12,I G,I J, .vC Aa M,I N,I O,I S,I T,I v20,I v21,I v22,I U,I v24, .vC Aa v25,I X,I v27,I v28,I Y,I v30,I v31,I a0,I v33,I a1, .vC Aa v35])) (none)) (none)))) (none)) (some (1,[.vC Aa v0, .vC kPt v1,I v2,I v3,I v6,I v7,I v8,I v9,I v10,I v11,I v12,I G,I J, .vC Aa M,I N,I O,I S,I T,I v20,I v21,I v22,I U,I v24, .vC Aa v25,I X,I v27,I v28,I Y,I v30,I v31,I a0,I v33,I a1, .vC Aa v35])):=by kernel_rfl
abbrev SA (E:Nat×List AC) (G:Bool):Option (Nat×List AC):=
 cond (G) (some (1,[B false])) (some (0,[.vC kPt (wA E.2 1),I (V (gA E.2 3+1)),jA E.2 4,jA E.2 5,jA E.2 6,jA E.2 7,jA E.2 8,jA E.2 9,jA E.2 10,jA E.2 11,jA E.2 12, .vC Aa (wA E.2 13),jA E.2 14,jA E.2 15,jA E.2 16,jA E.2 17,jA E.2 18,jA E.2 19,jA E.2 20,jA E.2 21,jA E.2 22, .vC Aa (wA E.2 23),jA E.2 24,jA E.2 25,jA E.2 26,jA E.2 27,jA E.2 28,jA E.2 29,jA E.2 30,jA E.2 31,jA E.2 32, .vC Aa (wA E.2 33)]))
theorem Znj (Y:Fn) (N6:Lp) (v0:Rw) (v1 v2 v3 v4 v5 v6 v7 v8 v9 v10:Int) (v11:Rw) (v12 G J M N O S T v20:Int) (v21:Rw) (v22 U v24 v25 V v27 v28 X v30:Int) (v31:Rw):TJ Y N6 [.vC kPt v0,I v1,I v2,I v3,I v4,I v5,I v6,I v7,I v8,I v9,I v10, .vC Aa v11,I v12,I G,I J,I M,I N,I O,I S,I T,I v20, .vC Aa v21,I v22,I U,I v24,I v25,I V,I v27,I v28,I X,I v30, .vC Aa v31]=
 cond (decide (v1<3)) (cond (decide ((v0.length:Int)=(v0.length:Int))) (cond (decide (0<=(v0.length:Int))&&decide ((v0.length:Int)*(↑8:Int)<=140737488355328)) ((N6 [.vC Aa (List.replicate (v0.length:Int).toNat [I 0]), .vC kPt v0,I v1,I v1,I (v0.length:Int),I 0,I v2,I v3,I v4,I v5,I v6,I v7,I v8,I v9,I v10, .vC Aa v11,I v12,I G,I J,I M,I N,I O,I S,I T,I v20, .vC Aa v21,I v22,I U,I v24,I v25,I V,I v27,I v28,I X,I v30, .vC Aa v31]).bind λE=>
 cond (E.1.beq 1) (cond (decide (gA E.2 2=(↑0:Int))) ((Y [jA E.2 4,jA E.2 5,jA E.2 6,jA E.2 7,jA E.2 8,jA E.2 9,jA E.2 10,jA E.2 11,jA E.2 12, .vC Aa (wA E.2 13), .vC Aa (wA E.2 0)]).bind λo6=>
 SA E (!bA o6 0)) (cond (decide (gA E.2 2=(↑(0+1):Int))) ((Y [jA E.2 14,jA E.2 15,jA E.2 16,jA E.2 17,jA E.2 18,jA E.2 19,jA E.2 20,jA E.2 21,jA E.2 22, .vC Aa (wA E.2 23), .vC Aa (wA E.2 0)]).bind λo7=>
 SA E (!bA o7 0)) (cond (decide (gA E.2 2=(↑(0+1+1):Int))) ((Y [jA E.2 24,jA E.2 25,jA E.2 26,jA E.2 27,jA E.2 28,jA E.2 29,jA E.2 30,jA E.2 31,jA E.2 32, .vC Aa (wA E.2 33), .vC Aa (wA E.2 0)]).bind λo8=>
 SA E (!bA o8 0)) (none)))) (none)) (none)) (none)) (some (2,[])):=by kernel_rfl
theorem Zla (Ez:Fn) (N6 N2:Lp) (x0 x1 x2 x3 x4 x5 x6 x7 x8:Int) (x9:Rw) (E G J M N O S T U:Int) (V:Rw) (X Y a0 a1 a2 a3 a4 a5 a6:Int) (a7 a8:Rw):T7 Ez N6 N2 [I x0,I x1,I x2,I x3,I x4,I x5,I x6,I x7,I x8, .vC Aa x9,I E,I G,I J,I M,I N,I O,I S,I T,I U, .vC Aa V,I X,I Y,I a0,I a1,I a2,I a3,I a4,I a5,I a6, .vC Aa a7, .vC kPt a8]=
 (N2 [.vC kPt a8,I 0,I x0,I x1,I x2,I x3,I x4,I x5,I x6,I x7,I x8, .vC Aa x9,I E,I G,I J,I M,I N,I O,I S,I T,I U, .vC Aa V,I X,I Y,I a0,I a1,I a2,I a3,I a4,I a5,I a6, .vC Aa a7]).bind λo9=>
 cond (o9.1.beq 1) (some [B (bA o9.2 0)]) (cond (o9.1.beq 2) (some [B true]) (none)):=by kernel_rfl
def Z0:=Ak (Mv Nu)
def Zbb:=Ak (TJ Nu Z0)
def NW:=T7 Nu Z0 Zbb
theorem Qcr:Ai PG (YR Nu):=Ap rfl ⟨Zgm,trivial⟩
theorem Z77:Am PG (Z0e NW):=rw2 (C:=Q2m Nu Z0 Zbb) (fl (fl fb Qcr) Qcr) Qcr
def Q28:=qa 197 Qae Qae
def Qpk:Fn:=An PG Qcv 64 197 Qae Qae
theorem Z7e (E:Int):Qpk [I E]=
 cond (decide (E.tmod 256<0)) (some [I (V (V (E.tdiv 256)-1))]) (some [I (V (E.tdiv 256))]):=by kernel_rfl
def Jn:=Qpk
theorem Zc7:Am PG (Q28 Jn):=rw1 (C:=Qcv) Zft
def Qiq:Sk:=⟨[TS.v true [ci,ci,ci,sa Ag,sa kPt],TS.v true (cc 9++[sa Aa]++cc 9++[sa Aa]++cc 9++[sa Aa]),TS.v true ([sa As]++cc 5),tf [sa Aa]],[],[]⟩
def Zd9:=qa 179 Qiq Qqn
def Qnr (E G I:Fn):Cfg:={cf [Z0e E,Tn G,Q28 I]with lend:=λf=>AW [31] f,cuts:=[30],prom:=λb=>cond (Nat.beq b 3) ([(9,44)]) ([])}
def Q1y:Sk:=⟨[td,td,td,td,tf [sd 4 0],tf [sd 5 0],tf [sd 6 0],td,td,tf [se 9 3],td,td,tf [sa Aa],tf [ci],tf [ci]]++dd 22,[(4,58,[ci,ci,ci,sa Ag,sa kPt]),(5,27,cc 9++[sa Aa]++cc 9++[sa Aa]++cc 9++[sa Aa]),(6,62,[sa As]++cc 5)],[(9,44,kPt)]⟩
def Qvf:List (Ex×Sk):=[(Ex.ret,⟨dd 8++[tf [sb]]++dd 28,[],[]⟩),(Ex.exit 0,⟨[td]++dd 36,[],[]⟩)]
def Qau (E G I:Fn):Lp:=A5 PG (Qnr E G I) 64 3 (A4 PG 179 3) Q1y Qvf
def Qza (E G I:Fn) (J:Lp):Cfg:=(Qnr E G I).loop 3 Q1y Qvf J
def Qhf (E G I:Fn) (J:Lp):Fn:=An PG (Qza E G I J) 64 179 Qiq Qqn
theorem Z0h (N T U:Fn) (v0 J:Rw) (M G:Int) (p:Pth) (x:Ax3) (t:Trk):Qau N T U (.vC kPt v0:: .vC Aa J::I M::I G::pxt p x t [])=
 cond (decide (G<M)) (cond (decide (0<=G)&&decide (G<(J.length:Int))) ((U [jA (nth [] J G.toNat) 0]).bind λX=>
 (T (pxt p x t [jA X 0])).bind λE=>
 cond (((v0++[[jA E 0,jA E 1,jA E 2]]).length*24).ble 140737488355328) (cond (decide ((↑(v0++[[jA E 0,jA E 1,jA E 2]]).length:Int)>4)) (cond (decide (0<=1)&&decide (1<=(↑(v0++[[jA E 0,jA E 1,jA E 2]]).length:Int))) (cond ((Int.toNat 1).ble (v0++[[jA E 0,jA E 1,jA E 2]]).length) ((N (AI x++[.vC kPt (List.drop (Int.toNat 1) (v0++[[jA E 0,jA E 1,jA E 2]]))])).bind λO=>
 cond (!bA O 0) (some (1,[B false])) (some (0,(.vC kPt (List.drop (Int.toNat 1) (v0++[[jA E 0,jA E 1,jA E 2]])):: .vC Aa J::I M::I (V (G+1))::pxt p x t [])))) (none)) (none)) ((N (AI x++[.vC kPt (v0++[[jA E 0,jA E 1,jA E 2]])])).bind λS=>
 cond (!bA S 0) (some (1,[B false])) (some (0,(.vC kPt (v0++[[jA E 0,jA E 1,jA E 2]]):: .vC Aa J::I M::I (V (G+1))::pxt p x t []))))) (none)) (none)) (some (2,[])):=by kernel_rfl
theorem Zlu (M N O:Fn) (J:Lp) (E:Rw) (p:Pth) (x:Ax3) (t:Trk):Qhf M N O J (pxt p x t [.vC Aa E])=
 (J (.vC kPt []:: .vC Aa E::I (E.length:Int)::I 0::pxt p x t [])).bind λG=>
 cond (G.1.beq 1) (some [B (bA G.2 0)]) (cond (G.1.beq 2) (some [B true]) (none)):=by kernel_rfl
def Q5j:=Ak (Qau NW EB Jn)
def OI:=Qhf NW EB Jn Q5j
theorem Qu8:Ai PG (Qnr NW EB Jn):=Ap rfl ⟨Z77,Vs,Zc7,trivial⟩
theorem Z5t:Am PG (Zd9 OI):=rw2 (C:=Qza NW EB Jn Q5j) (fl fb Qu8) Qu8
def Zd4:=qa 128 Qgg Qqn
def Qgx (E:Fn):Cfg:=cf [Qwa E]
def Q9 (E:Fn):Fn:=An PG (Qgx E) 64 128 Qgg Qqn
theorem Zz (N:Fn) (G J O M E:Int):Q9 N [I G,I J,I O,I M,I E]=
 cond (decide (E<V (0-G))) (some [B false]) (cond (decide (E>G)) (some [B false]) (cond (M==0) (cond (decide (E>J)) (some [B false]) ((N [I G,I J,I O,I (V (0-E))]).bind λo4=>
 cond (decide (M>=gA o4 0)) ((N [I G,I J,I O,I E]).bind λS=>
 some [B (decide (M<=V (16777216-gA S 0)))]) (some [B false]))) ((N [I G,I J,I O,I (V (0-E))]).bind λT=>
 cond (decide (M>=gA T 0)) ((N [I G,I J,I O,I E]).bind λU=>
 some [B (decide (M<=V (16777216-gA U 0)))]) (some [B false])))):=by kernel_rfl
def GZ:=Q9 G9
theorem Zix:Ai PG (Qgx G9):=Ap rfl ⟨Q2j,trivial⟩
theorem Qyz:Am PG (Zd4 GZ):=rw1 (C:=Qgx G9) Zix
def Qrv:Sk:=⟨[TS.tup [(false,[sa Aa]),(false,[sb])]],[],[]⟩
def Zs0:=qa 82 Qgg Qrv
def XD (E G I:Fn):Cfg:={cf [Qav E,Zd4 G,Zi I]with prom:=λb=>cond (Nat.beq b 4) ([(8,3)]) ([])}
def Q42:Sk:=⟨[td,tf [ci],tf [ci],tf [sd 3 0],td,td,td,td,tf [se 8 1]]++dd 27,[(3,29,[ci,ci,ci])],[(8,3,Aa)]⟩
def Q7c:List (Ex×Sk):=[(Ex.ret,⟨dd 6++[tf [CS.nil],tf [sb]]++dd 28,[],[]⟩),(Ex.exit 0,⟨dd 8++[tf [se 8 1]]++dd 27,[],[(8,3,Aa)]⟩)]
def IF (E G I:Fn):Lp:=A5 PG (XD E G I) 64 4 (A4 PG 82 4) Q42 Q7c
def Q2o (E G I:Fn) (J:Lp):Cfg:=(XD E G I).loop 4 Q42 Q7c J
def Rv (E G I:Fn) (J:Lp):Fn:=An PG (Q2o E G I J) 64 82 Qgg Qrv
theorem Rl (O T U:Fn) (v0:Rw) (E S J M N:Int):IF O T U [.vC Aa v0,I E,I S,I J,I M,I N]=
 cond (decide (E>0)) (cond ((v0.length:Int)==4096) (some (1,[B false])) ((O [I J,I M,I N,I E,I S]).bind λG=>
 cond (((v0++[[I (V (E+gA G 0))]]).length*8).ble 140737488355328) (some (0,[.vC Aa (v0++[[I (V (E+gA G 0))]]),I (V (E+gA G 0)),jA G 0,I J,I M,I N])) (none))) (some (2,[.vC Aa v0])):=by kernel_rfl
theorem W9 (Y U V:Fn) (X:Lp) (G J M N O:Int):Rv Y U V X [I G,I J,I M,I N,I O]=
 (V [I G,I J,I M]).bind λS=>
 cond (!bA S 0) (some [.vC Aa [],B false]) ((U [I G,I J,I M,I N,I O]).bind λT=>
 cond (!bA T 0) (some [.vC Aa [],B false]) ((X [.vC Aa [],I N,I O,I G,I J,I M]).bind λE=>
 cond (E.1.beq 1) (some [.vC Aa [],B (bA E.2 0)]) (cond (E.1.beq 2) (some [.vC Aa (wA E.2 0),B true]) (none)))):=by kernel_rfl
def Q6q:=Ak (IF FN GZ FE)
def KW:=Rv FN GZ FE Q6q
theorem Q9r:Ai PG (XD FN GZ FE):=Ap rfl ⟨Qe0,Qyz,Qpq,trivial⟩
theorem Zg3:Am PG (Zs0 KW):=rw2 (C:=Q2o FN GZ FE Q6q) (fl fb Q9r) Q9r
def Qg6:Sk:=⟨[TS.v true [ci,ci,ci],TS.v true (cc 6)],[],[]⟩
def Zs:=qa 39 Qg6 Qrv
def Qiz (E:Fn):Cfg:=cf [Zs0 E]
def Q74:Sk:=⟨dd 8++[tf [se 25 1],tf [ci]]++dd 18++[tf [sa Aa],tf [ci],tf [ci]]++dd 13,[],[(25,3,Aa)]⟩
def Q8o:List (Ex×Sk):=[(Ex.exit 0,⟨dd 8++[tf [se 25 1]]++dd 35,[],[(25,3,Aa)]⟩)]
def H5 (E:Fn):Lp:=A5 PG (Qiz E) 64 7 (A4 PG 39 7) Q74 Q8o
def Q4j (E:Fn) (G:Lp):Cfg:=(Qiz E).loop 7 Q74 Q8o G
def PM (E:Fn) (G:Lp):Fn:=An PG (Q4j E G) 64 39 Qg6 Qrv
theorem Qgc (N:Fn) (v0:Rw) (J:Int) (G:Rw) (M E:Int):H5 N [.vC Aa v0,I J, .vC Aa G,I M,I E]=
 cond (decide (E<M)) (cond (decide (0<=E)&&decide (E<(G.length:Int))) (cond (decide (0<=E)&&decide (E<(v0.length:Int))) (some (0,[.vC Aa (v0.set E.toNat [I (V (J+gA (nth [] G E.toNat) 0))]),I (V (J+gA (nth [] G E.toNat) 0)), .vC Aa G,I M,I (V (E+1))])) (none)) (none)) (some (1,[.vC Aa v0])):=by kernel_rfl
theorem Uf (E:Fn) (G:Lp) (J M N O S T U V X:Int):PM E G [I J,I M,I N,I O,I S,I T,I U,I V,I X]=
 (E [I J,I M,I N,I S,I T]).bind λo3=>
 cond (!bA o3 1) (some [.vC Aa [],B false]) (cond (decide ((↑(wA o3 0).length:Int)=(↑(wA o3 0).length:Int))) (cond (decide (0<=(↑(wA o3 0).length:Int))&&decide ((↑(wA o3 0).length:Int)*(↑8:Int)<=140737488355328)) ((G [.vC Aa (List.replicate (↑(wA o3 0).length:Int).toNat [I 0]),I O, .vC Aa (wA o3 0),I (↑(wA o3 0).length:Int),I 0]).bind λo4=>
 cond (o4.1.beq 1) (some [.vC Aa (wA o4.2 0),B true]) (none)) (none)) (none)):=by kernel_rfl
def Qww:=Ak (H5 KW)
def Fo:=PM KW Qww
theorem Q98:Ai PG (Qiz KW):=Ap rfl ⟨Zg3,trivial⟩
theorem Qij:Am PG (Zs Fo):=rw2 (C:=Q4j KW Qww) (fl fb Q98) Q98
def Qnk:Sk:=⟨[TS.v true [ci,ci,ci,sa Ag,sa kPt],TS.v true (cc 9++[sa Aa]++cc 9++[sa Aa]++cc 9++[sa Aa]),TS.v true ([sa As]++cc 5),TS.v true [ci,ci,ci],TS.v true (cc 6),tf [ci]],[],[]⟩
def Zax:=qa 154 Qnk Qqn
def Zt (E G:Fn):Cfg:={cf [Zd9 E,Zs G]with rowDst:=[48]}
def TL (E G:Fn):Fn:=An PG (Zt E G) 64 154 Qnk Qqn
theorem Qt9 (Y C_:Fn) (O S T E U X G J M N:Int) (p:Pth) (x:Ax3) (t:Trk):TL Y C_ (pxt p x t [I O,I S,I T,I E,I U,I X,I G,I J,I M,I N])=
 (C_ [I O,I S,I T,I E,I U,I X,I G,I J,I M]).bind λo3=>
 cond (!bA o3 1) (some [B false]) (cond (decide ((↑(wA o3 0).length:Int)>0)) (cond (decide (0<=V ((↑(wA o3 0).length:Int)-1))&&decide (V ((↑(wA o3 0).length:Int)-1)<(↑(wA o3 0).length:Int))) (cond (decide (Ah (nth .dead (nth [] (wA o3 0) (V ((↑(wA o3 0).length:Int)-1)).toNat) 0)>V (N*256))) (some [B false]) (cond ((([[I M],[I J],[I G],[I E]]++wA o3 0).length*8).ble 140737488355328) (cond ((([[I M],[I J],[I G],[I E]]++wA o3 0++[[I (Ah (nth .dead (nth [] (wA o3 0) (V ((↑(wA o3 0).length:Int)-1)).toNat) 0))],[I (Ah (nth .dead (nth [] (wA o3 0) (V ((↑(wA o3 0).length:Int)-1)).toNat) 0))]]).length*8).ble 140737488355328) ((Y (pxt p x t [.vC Aa ([[I M],[I J],[I G],[I E]]++wA o3 0++[[I (Ah (nth .dead (nth [] (wA o3 0) (V ((↑(wA o3 0).length:Int)-1)).toNat) 0))],[I (Ah (nth .dead (nth [] (wA o3 0) (V ((↑(wA o3 0).length:Int)-1)).toNat) 0))]])])).bind λo4=>
 some [B (bA o4 0)]) (none)) (none))) (none)) (cond (decide (E>V (N*256))) (some [B false]) (cond ((([[I M],[I J],[I G],[I E]]++wA o3 0).length*8).ble 140737488355328) (cond ((([[I M],[I J],[I G],[I E]]++wA o3 0++[[I E],[I E]]).length*8).ble 140737488355328) ((Y (pxt p x t [.vC Aa ([[I M],[I J],[I G],[I E]]++wA o3 0++[[I E],[I E]])])).bind λo5=>
 some [B (bA o5 0)]) (none)) (none)))):=by kernel_rfl
def IX:=TL OI Fo
theorem Zm4:Ai PG (Zt OI Fo):=Ap rfl ⟨Z5t,Qij,trivial⟩
theorem Q1o:Am PG (Zax IX):=rw1 (C:=Zt OI Fo) Zm4
def Qqc:Sk:=⟨[TS.v true [ci,ci,sb,sb,sb],TS.v true [ci,ci,ci],TS.v true (cc 7)],[],[]⟩
def Z0q:=qa 198 Qqc Qae
def Vn:Fn:=An PG Qcv 64 198 Qqc Qae
theorem Q9y (J M:Int) (T X Y:Bool) (x5 x6 U x8 x9 N O S E G:Int):Vn [I J,I M,B T,B X,B Y,I x5,I x6,I U,I x8,I x9,I N,I O,I S,I E,I G]=
 cond (T) (some [I 0]) (cond (G !=0) (some [I (mn (mx E 1) 16777216)]) (cond (E==0) (cond (M==0) (some [I 0]) (some [I (mn (mx (V ((V (U*M)).tdiv 100)) 1) 16777216)])) (cond (J==0) (some [I 0]) (some [I (mn (mx (V ((V (E*J)).tdiv 100)) 1) 16777216)])))):=by kernel_rfl
def OQ:=Vn
theorem Zwa:Am PG (Z0q OQ):=rw1 (C:=Qcv) Zft
def Qjs:Sk:=⟨[TS.v true [ci,ci,ci,sa Ag,sa kPt],TS.v true ([sa As]++cc 5),TS.v true [ci,ci,ci],TS.v true [ci,ci,sb,sb,sb],tf [ci]],[],[]⟩
def Z0p:=qa 178 Qjs Qae
def Qem (E G I J:Fn):Cfg:=cf [Z0q E,Qja G,Ry I,Q28 J]
def U_ (E G I J:Fn):Fn:=An PG (Qem E G I J) 64 178 Qjs Qae
theorem Qzq (X Y BT EH:Fn) (E G J M N:Int) (O S T:Bool) (U:Int) (p:Pth) (t:Trk):U_ X Y BT EH (DM p t [I E,I G,I J,I M,I N,B O,B S,B T,I U])=
 (EH [I U]).bind λo4=>
 (BT (Ba t++[jA o4 0])).bind λo5=>
 (Y (BC p++[jA o5 0])).bind λV=>
 cond (decide (0<=gA V 0)&&decide (gA V 0<((p.aF.map Av).length:Int))) ((X (I M::I N::B O::B S::B T::I E::I G::I J::AT Ag (nth [] (p.aF.map Av) (gA V 0).toNat))).bind λo7=>
 some [jA o7 0]) (none):=by kernel_rfl
def LW:=U_ OQ Fe Ew Jn
theorem Z81:Ai PG (Qem OQ Fe Ew Jn):=Ap rfl ⟨Zwa,Qaa,RK,Zc7,trivial⟩
theorem Zrq:Am PG (Z0p LW):=rw1 (C:=Qem OQ Fe Ew Jn) Z81
def Qbz:Sk:=⟨[TS.v true [ci,ci,ci,sa Ag,sa kPt],TS.v true ([sa As]++cc 5),TS.v true [ci,ci,ci],TS.v true [ci,ci,sb,sb,sb],TS.v true (cc 6)],[],[]⟩
def Zpa:=qa 153 Qbz Qqn
def Qey (E G:Fn):Cfg:=cf [Z0p E,Zs G]
def Qyj:Sk:=⟨[td,td,td,td,td,tf [sd 5 0],tf [sd 6 0],tf [sd 7 0],tf [sd 8 0],td,td,td,td,tf [ci]]++dd 30++[tf [sa Aa],tf [ci],tf [ci]]++dd 15,[(5,58,[ci,ci,ci,sa Ag,sa kPt]),(6,62,[sa As]++cc 5),(7,29,[ci,ci,ci]),(8,92,[ci,ci,sb,sb,sb])],[]⟩
def Zbf:List (Ex×Sk):=[(Ex.ret,⟨dd 10++[tf [sb]]++dd 51,[],[]⟩),(Ex.exit 0,⟨[td]++dd 61,[],[]⟩)]
def ST (E G:Fn):Lp:=A5 PG (Qey E G) 64 6 (A4 PG 153 6) Qyj Zbf
def Q6g (E G:Fn) (I:Lp):Cfg:=(Qey E G).loop 6 Qyj Zbf I
def UW (E G:Fn) (I:Lp):Fn:=An PG (Q6g E G I) 64 153 Qbz Qqn
theorem Qwy (U X:Fn) (v0:Int) (S:Rw) (T E:Int) (G J M N O:Int) (v20 v21 v22:Bool) (p:Pth) (t:Trk):ST U X (I v0:: .vC Aa S::I T::I E::DM p t [I G,I J,I M,I N,I O,B v20,B v21,B v22])=
 cond (decide (E<T)) (cond (decide (0<=E)&&decide (E<(S.length:Int))) ((U (DM p t [I G,I J,I M,I N,I O,B v20,B v21,B v22,jA (nth [] S E.toNat) 0])).bind λY=>
 cond (decide (V (gA (nth [] S E.toNat) 0-v0)>gA Y 0)) (some (1,[B false])) (some (0,(jA (nth [] S E.toNat) 0:: .vC Aa S::I T::I (V (E+1))::DM p t [I G,I J,I M,I N,I O,B v20,B v21,B v22])))) (none)) (some (2,[])):=by kernel_rfl
theorem Qxn (GH C_:Fn) (N6:Lp) (E G J N O:Int) (S T U:Bool) (M V X Y a0 a1:Int) (p:Pth) (t:Trk):UW GH C_ N6 (DM p t [I E,I G,I J,I N,I O,B S,B T,B U,I M,I V,I X,I Y,I a0,I a1])=
 (C_ [I E,I G,I J,I M,I V,I X,I Y,I a0,I a1]).bind λo7=>
 cond (!bA o7 1) (some [B false]) (cond (((p.aF.map Av).length:Int)==0) (some [B false]) ((GH (DM p t [I E,I G,I J,I N,I O,B S,B T,B U,I M])).bind λo8=>
 cond (decide (V>gA o8 0)) (some [B false]) ((N6 (I M:: .vC Aa (wA o7 0)::I (↑(wA o7 0).length:Int)::I 0::DM p t [I E,I G,I J,I N,I O,B S,B T,B U])).bind λo9=>
 cond (o9.1.beq 1) (some [B (bA o9.2 0)]) (cond (o9.1.beq 2) (some [B true]) (none))))):=by kernel_rfl
def Q09:=Ak (ST LW Fo)
def Lj:=UW LW Fo Q09
theorem Zaq:Ai PG (Qey LW Fo):=Ap rfl ⟨Zrq,Qij,trivial⟩
theorem Zj7:Am PG (Zpa Lj):=rw2 (C:=Q6g LW Fo Q09) (fl fb Zaq) Zaq
def Qbr:Sk:=⟨[TS.v true (cc 6),tf [ci]],[],[]⟩
def Qk5:Sk:=⟨[TS.v true (cc 6)],[],[]⟩
def Q6t:=qa 152 Qbr Qk5
def Wf:Fn:=An PG Qcv 64 152 Qbr Qk5
theorem Z3y (G J O M N S E:Int):Wf [I G,I J,I O,I M,I N,I S,I E]=
 some [I (V (G+E)),I E,I (V (E-J)),I G,I M,I N]:=by kernel_rfl
def J0:=Wf
theorem Q19:Am PG (Q6t J0):=rw1 (C:=Qcv) Zft
def Zwf:=qa 151 Qae Qhr
def Qvb:Sk:=⟨[td,td,td,tf [se 3 1],tf [ci]]++dd 32,[],[(3,3,Aa)]⟩
def Qwr:List (Ex×Sk):=[(Ex.exit 0,⟨[td,td,td,tf [se 3 1]]++dd 33,[],[(3,3,Aa)]⟩)]
def RB:Lp:=A5 PG C_limits_Differences_0 64 3 (A4 PG 151 3) Qvb Qwr
def Q8l (E:Lp):Cfg:=C_limits_Differences_0.loop 3 Qvb Qwr E
def Qzo:Sk:=⟨[td,td,td,tf [se 3 1],td,tf [se 16 1],tf [ci]]++dd 30,[],[(3,3,Aa),(16,3,Aa)]⟩
def Q92:List (Ex×Sk):=[(Ex.exit 2,⟨[td,td,td,td,td,tf [se 16 1]]++dd 31,[],[(16,3,Aa)]⟩)]
def SB (E:Lp):Lp:=A5 PG (Q8l E) 64 8 (A4 PG 151 8) Qzo Q92
def Q6l (E G:Lp):Cfg:=(Q8l E).loop 8 Qzo Q92 G
def Z8 (E G:Lp):Fn:=An PG (Q6l E G) 64 151 Qae Qhr
theorem Zjs (v0:Rw) (E:Int):RB [.vC Aa v0,I E]=
 cond (decide (E>0)) (cond (((v0++[[I E]]).length*8).ble 140737488355328) (some (0,[.vC Aa (v0++[[I E]]),I (V (E.tdiv 2))])) (none)) (some (1,[.vC Aa v0])):=by kernel_rfl
theorem Z0x (J:Lp) (v0 G:Rw) (E:Int):SB J [.vC Aa v0, .vC Aa G,I E]=
 cond (decide (E>=0)) (cond (decide (0<=E)&&decide (E<(v0.length:Int))) (cond (((G++[[I (V (0-gA (nth [] v0 E.toNat) 0))]]).length*8).ble 140737488355328) (some (0,[.vC Aa v0, .vC Aa (G++[[I (V (0-gA (nth [] v0 E.toNat) 0))]]),I (V (E-1))])) (none)) (none)) (some (1,[.vC Aa G])):=by kernel_rfl
theorem Zrm (E G:Lp) (J:Int):Z8 E G [I J]=
 (E [.vC Aa [],I J]).bind λo3=>
 cond (o3.1.beq 1) (cond ((([]++wA o3.2 0).length*8).ble 140737488355328) (cond ((([]++wA o3.2 0++[[I 0]]).length*8).ble 140737488355328) ((G [.vC Aa (wA o3.2 0), .vC Aa ([]++wA o3.2 0++[[I 0]]),I (V ((↑(wA o3.2 0).length:Int)-1))]).bind λo4=>
 cond (o4.1.beq 1) (some [.vC Aa (wA o4.2 0)]) (none)) (none)) (none)) (none):=by kernel_rfl
def Qqf:=Ak (RB)
def Q4v:=Ak (SB Qqf)
def PZ:=Z8 Qqf Q4v
theorem Yap:Am PG (Zwf PZ):=rw2 (C:=Q6l Qqf Q4v) (fl (fl fb Q47) Q47) Q47
def Qro:Sk:=⟨[TS.v true [ci,ci,ci,sa Ag,sa kPt],TS.v true (cc 9++[sa Aa]++cc 9++[sa Aa]++cc 9++[sa Aa]),TS.v true ([sa As]++cc 5),TS.v true [ci,ci,ci],TS.v true [ci,ci,sb,sb,sb],TS.v true (cc 6),tf [ci]],[],[]⟩
def Qed:=qa 104 Qro Qk5
def Qm5 (E G I J M N:Fn):Cfg:=cf [Qav E,Zax G,Zpa I,Q6t J,Zd4 M,Zwf N]
def Q44:Sk:=⟨dd 6++[tf [ci],tf [sd 7 0],tf [sd 8 0],tf [sd 9 0],tf [sd 10 0],tf [sd 11 0],tf [sd 12 0],td,tf [sd 14 0],tf [sd 15 0],tf [sb]]++dd 6++[tf [sa Aa],tf [ci],tf [ci]]++dd 57,[(7,58,[ci,ci,ci,sa Ag,sa kPt]),(8,27,cc 9++[sa Aa]++cc 9++[sa Aa]++cc 9++[sa Aa]),(9,62,[sa As]++cc 5),(10,29,[ci,ci,ci]),(11,92,[ci,ci,sb,sb,sb]),(12,50,cc 6),(14,50,cc 6),(15,50,cc 6)],[]⟩
def Q4z:List (Ex×Sk):=[(Ex.exit 0,⟨dd 10++[tf [sd 10 0],td,tf [sd 12 0],td,tf [sd 14 0],tf [sd 15 0],tf [sb]]++dd 66,[(10,29,[ci,ci,ci]),(12,50,cc 6),(14,50,cc 6),(15,50,cc 6)],[]⟩)]
def Qn7 (E G I J M N:Fn):Lp:=A5 PG (Qm5 E G I J M N) 64 4 (A4 PG 104 4) Q44 Q4z
def Q34 (E G I J M N:Fn) (O:Lp):Cfg:=(Qm5 E G I J M N).loop 4 Q44 Q4z O
def Qm1 (E G I J M N:Fn) (O:Lp):Fn:=An PG (Q34 E G I J M N O) 64 104 Qro Qk5
theorem Zt3 (BQ Eo G1 C1 Dk HN:Fn) (v0:Int) (v1:Bool) (v2:Rw) (v3 v4:Int) (v46 M v48 v49 a0:Int) (v51 a1 v53:Bool) (N J G O S v59 T U X v63 Y v65 a2 a3 v68 v69 v70 a4:Int) (p:Pth) (x:Ax3) (t:Trk):Qn7 BQ Eo G1 C1 Dk HN (I v0::B v1:: .vC Aa v2::I v3::I v4::pxt p x t [I v46,I M,I v48,I v49,I a0,B v51,B a1,B v53,I N,I J,I G,I O,I S,I v59,I T,I U,I X,I v63,I Y,I v65,I a2,I a3,I v68,I v69,I v70,I a4])=
 cond (decide (v4<v3)) (cond (decide (0<=v4)&&decide (v4<(v2.length:Int))) (cond (decide (V (J+V (G+gA (nth [] v2 v4.toNat) 0))<0)) (some (0,(I v0::B v1:: .vC Aa v2::I v3::I (V (v4+1))::pxt p x t [I v46,I M,I v48,I v49,I a0,B v51,B a1,B v53,I N,I J,I G,I O,I S,I v59,I T,I U,I X,I v63,I Y,I v65,I a2,I a3,I v68,I v69,I v70,I a4]))) ((Dk [I v46,I M,I v48,I (V (J+V (G+gA (nth [] v2 v4.toNat) 0))),I (V (G+gA (nth [] v2 v4.toNat) 0))]).bind λo9=>
 cond (!bA o9 0) (some (0,(I v0::B v1:: .vC Aa v2::I v3::I (V (v4+1))::pxt p x t [I v46,I M,I v48,I v49,I a0,B v51,B a1,B v53,I N,I J,I G,I O,I S,I v59,I T,I U,I X,I v63,I Y,I v65,I a2,I a3,I v68,I v69,I v70,I a4]))) ((C1 [I N,I J,I G,I O,I S,I v59,I (V (J+V (G+gA (nth [] v2 v4.toNat) 0)))]).bind λE=>
 (G1 (DM p t [I v46,I M,I v48,I v49,I a0,B v51,B a1,B v53,jA E 0,jA E 1,jA E 2,jA E 3,jA E 4,jA E 5])).bind λa5=>
 cond (bA a5 0) ((Eo (pxt p x t [I v46,I M,I v48,jA E 0,jA E 1,jA E 2,jA E 3,jA E 4,jA E 5,I v0])).bind λa6=>
 cond (bA a6 0) (some (1,[B true,I v46,I M,I v48,I N,I J,I G,I O,I S,I v59,I T,I U,I X,I v63,I Y,I v65,jA E 0,jA E 1,jA E 2,jA E 3,jA E 4,jA E 5])) (some (0,(I v0::B v1:: .vC Aa v2::I v3::I (V (v4+1))::pxt p x t [I v46,I M,I v48,I v49,I a0,B v51,B a1,B v53,I N,I J,I G,I O,I S,I v59,I T,I U,I X,I v63,I Y,I v65,jA E 0,jA E 1,jA E 2,jA E 3,jA E 4,jA E 5])))) (some (0,(I v0::B v1:: .vC Aa v2::I v3::I (V (v4+1))::pxt p x t [I v46,I M,I v48,I v49,I a0,B v51,B a1,B v53,I N,I J,I G,I O,I S,I v59,I T,I U,I X,I v63,I Y,I v65,jA E 0,jA E 1,jA E 2,jA E 3,jA E 4,jA E 5])))))) (none)) (some (1,[B v1,I v46,I M,I v48,I N,I J,I G,I O,I S,I v59,I T,I U,I X,I v63,I Y,I v65,I a2,I a3,I v68,I v69,I v70,I a4])):=by kernel_rfl
theorem Z3z (BQ Eo G1 C1 Dk HN:Fn) (N4:Lp) (M J N O S:Int) (T U X:Bool) (Y a0 a1 a2 a3 a4 a5:Int) (p:Pth) (x:Ax3) (t:Trk):Qm1 BQ Eo G1 C1 Dk HN N4 (pxt p x t [I M,I J,I N,I O,I S,B T,B U,B X,I Y,I a0,I a1,I a2,I a3,I a4,I a5])=
 (HN [I J]).bind λa6=>
 (N4 (I a5::B false:: .vC Aa (wA a6 0)::I (↑(wA a6 0).length:Int)::I 0::pxt p x t [I M,I J,I N,I O,I S,B T,B U,B X,I Y,I a0,I a1,I a2,I a3,I a4,I 0,I 0,I 0,I 0,I 0,I 0,I 0,I 0,I 0,I 0,I 0,I 0])).bind λE=>
 cond (E.1.beq 1) (cond (bA E.2 0) (some [jA E.2 16,jA E.2 17,jA E.2 18,jA E.2 19,jA E.2 20,jA E.2 21]) ((BQ [jA E.2 1,jA E.2 2,jA E.2 3,jA E.2 5,jA E.2 6]).bind λa7=>
 (C1 [jA E.2 4,jA E.2 5,jA E.2 6,jA E.2 7,jA E.2 8,jA E.2 9,I (V (gA E.2 5+gA a7 0))]).bind λG=>
 some [jA G 0,jA G 1,jA G 2,jA G 3,jA G 4,jA G 5])) (none):=by kernel_rfl
def Q69:=Ak (Qn7 FN IX Lj J0 GZ PZ)
def ES:=Qm1 FN IX Lj J0 GZ PZ Q69
theorem Qul:Ai PG (Qm5 FN IX Lj J0 GZ PZ):=Ap rfl ⟨Qe0,Q1o,Zj7,Q19,Qyz,Yap,trivial⟩
theorem Qr6:Am PG (Qed ES):=rw2 (C:=Q34 FN IX Lj J0 GZ PZ Q69) (fl fb Qul) Qul
def Qzc:=qa 35 Qg6 Y2
def Qr4 (E:Fn):Cfg:=cf [Zs E]
def Lx (E:Fn):Fn:=An PG (Qr4 E) 64 35 Qg6 Y2
theorem VQ (G:Fn) (J M N E O S T U X:Int):Lx G [I J,I M,I N,I E,I O,I S,I T,I U,I X]=
 (G [I J,I M,I N,I E,I O,I S,I T,I U,I X]).bind λo1=>
 cond (!bA o1 1) (some [I 0,B false]) (cond ((↑(wA o1 0).length:Int)==0) (some [I E,B true]) (cond (decide (0<=V ((↑(wA o1 0).length:Int)-1))&&decide (V ((↑(wA o1 0).length:Int)-1)<(↑(wA o1 0).length:Int))) (some [I (Ah (nth .dead (nth [] (wA o1 0) (V ((↑(wA o1 0).length:Int)-1)).toNat) 0)),B true]) (none))):=by kernel_rfl
def F9:=Lx Fo
theorem Z21:Ai PG (Qr4 Fo):=Ap rfl ⟨Qij,trivial⟩
theorem Qz3:Am PG (Qzc F9):=rw1 (C:=Qr4 Fo) Z21
def Ziw:=qa 200 ZS Qae
def Qr8 (E:Fn):Cfg:=cf [Nh E]
def YN (E:Fn):Fn:=An PG (Qr8 E) 64 200 ZS Qae
theorem Z08 (E:Fn) (G J:Int):YN E [I G,I J]=
 (E [I G,I J,I 4096,I 0]).bind λo1=>
 some [jA o1 0]:=by kernel_rfl
def QJ:=YN BM
theorem Z5i:Ai PG (Qr8 BM):=Ap rfl ⟨LN,trivial⟩
theorem Yat:Am PG (Ziw QJ):=rw1 (C:=Qr8 BM) Z5i
def Zxm:=qa 201 ZS Qae
def Qb1:Fn:=An PG Qcv 64 201 ZS Qae
theorem Zlh (E G:Int):Qb1 [I E,I G]=
 some [I (mx (V (E-G)) (V (G-E)))]:=by kernel_rfl
def Sb:=Qb1
theorem Ztl:Am PG (Zxm Sb):=rw1 (C:=Qcv) Zft
def ZP:Sk:=⟨[TS.v true [ci,ci,ci,sa Ag,sa kPt],TS.v true (cc 9++[sa Aa]++cc 9++[sa Aa]++cc 9++[sa Aa]),TS.v true ([sa As]++cc 5),TS.v true [ci,ci,ci],TS.v true [ci,ci,sb,sb,sb],TS.v true (cc 6),tf [ci],tf [ci],TS.v true [ci,ci,ci,ci],tf [ci],tf [ci]],[],[]⟩
def Qsq:Sk:=⟨[TS.tup [(true,cc 6),(true,[ci,ci,ci,ci]),(false,[ci])]],[],[]⟩
def Zoc:=qa 181 ZP Qsq
def Qbv (E G I J M N O:Fn):Cfg:=cf [Qed E,Qav G,Qzc I,Zax J,Q6t M,Ziw N,Zxm O]
def Qm2 (E G I J M N O:Fn):Fn:=An PG (Qbv E G I J M N O) 64 181 ZP Qsq
abbrev Qks (EM:Fn) (S T U:Int) (G:List AC) (X:Int) (a5:List AC) (Y a0 a6:Int) (BQ:Fn) (E J:Int) (C1:Fn) (a1 a2 a3 a4:Int):Option (List AC):=
 (EM [I S,I T,I U,jA G 0,jA G 1,jA G 2,jA G 3,jA G 4,jA G 5]).bind λa7=>
 cond (decide (V (V (V (X+gA a5 0)-Y)-a0)>=0)) (cond (decide (gA a7 0>V (a6*256))) ((BQ [I S,I T,I U,I E,I J]).bind λa8=>
 (C1 [I a0,I E,I J,I a1,I a2,I a3,I (V (E+gA a8 0))]).bind λM=>
 some [jA M 0,jA M 1,jA M 2,jA M 3,jA M 4,jA M 5,I 3,I X,I a4,I Y,I 0]) ((BQ [I S,I T,I U,I E,I J]).bind λa9=>
 (C1 [I a0,I E,I J,I a1,I a2,I a3,I (V (E+gA a9 0))]).bind λN=>
 some [jA N 0,jA N 1,jA N 2,jA N 3,jA N 4,jA N 5,I 3,I X,I a4,I Y,I 18])) ((BQ [I S,I T,I U,I E,I J]).bind λb0=>
 (C1 [I a0,I E,I J,I a1,I a2,I a3,I (V (E+gA b0 0))]).bind λO=>
 some [jA O 0,jA O 1,jA O 2,jA O 3,jA O 4,jA O 5,I 3,I X,I a4,I Y,I 18])
theorem Z1j (Db BQ EM Eo C1 No LA:Fn) (S T U a9 b0:Int) (b7 b1 b2:Bool) (M X Y a0 a1 a2 a3 b3 a4 J N O b4 b5:Int) (p:Pth) (x:Ax3) (t:Trk):Qm2 Db BQ EM Eo C1 No LA (pxt p x t [I S,I T,I U,I a9,I b0,B b7,B b1,B b2,I M,I X,I Y,I a0,I a1,I a2,I a3,I b3,I a4,I J,I N,I O,I b4,I b5])=
 (LA [I b5,I N]).bind λb8=>
 (No [I b3,jA b8 0]).bind λa5=>
 cond (a4==1) ((LA [I b4,I N]).bind λb9=>
 (No [I b3,jA b9 0]).bind λb6=>
 (C1 [I M,I X,I Y,I a0,I a1,I a2,I (V (gA a5 0-gA b6 0))]).bind λG=>
 cond (V (gA a5 0-gA b6 0) !=0) ((Eo (pxt p x t [I S,I T,I U,jA G 0,jA G 1,jA G 2,jA G 3,jA G 4,jA G 5,I a3])).bind λc0=>
 cond (bA c0 0) (some [jA G 0,jA G 1,jA G 2,jA G 3,jA G 4,jA G 5,I 2,I J,I N,I (V (gA a5 0-V (gA G 0-J))),I 0]) ((Db (pxt p x t [I S,I T,I U,I a9,I b0,B false,B b1,B b2,I M,I X,I Y,I a0,I a1,I a2,I a3])).bind λa6=>
 some [jA a6 0,jA a6 1,jA a6 2,jA a6 3,jA a6 4,jA a6 5,I a4,I J,I N,I O,I 0])) ((Db (pxt p x t [I S,I T,I U,I a9,I b0,B false,B b1,B b2,I M,I X,I Y,I a0,I a1,I a2,I a3])).bind λa7=>
 some [jA a7 0,jA a7 1,jA a7 2,jA a7 3,jA a7 4,jA a7 5,I a4,I J,I N,I O,I 0])) (cond (a4==2) ((C1 [I M,I X,I Y,I a0,I a1,I a2,I (V (V (V (J+gA a5 0)-O)-M))]).bind λE=>
 cond (decide (V (V (V (J+gA a5 0)-O)-M)>=0)) ((Eo (pxt p x t [I S,I T,I U,jA E 0,jA E 1,jA E 2,jA E 3,jA E 4,jA E 5,I a3])).bind λc1=>
 cond (bA c1 0) (some [jA E 0,jA E 1,jA E 2,jA E 3,jA E 4,jA E 5,I a4,I J,I N,I O,I 0]) (Qks EM S T U E J a5 O M a3 BQ X Y C1 a0 a1 a2 N)) (Qks EM S T U E J a5 O M a3 BQ X Y C1 a0 a1 a2 N)) ((Db (pxt p x t [I S,I T,I U,I a9,I b0,B false,B b1,B b2,I M,I X,I Y,I a0,I a1,I a2,I a3])).bind λa8=>
 some [jA a8 0,jA a8 1,jA a8 2,jA a8 3,jA a8 4,jA a8 5,I a4,I J,I N,I O,I 0])):=by kernel_rfl
def It:=Qm2 ES FN F9 IX J0 QJ Sb
theorem Zpj:Ai PG (Qbv ES FN F9 IX J0 QJ Sb):=Ap rfl ⟨Qr6,Qe0,Qz3,Q1o,Q19,Yat,Ztl,trivial⟩
theorem Zi4:Am PG (Zoc It):=rw1 (C:=Qbv ES FN F9 IX J0 QJ Sb) Zpj
def XV:=qa 159 Qeo Qmq
def Qnf (E:Fn):Cfg:=cf [Qed E]
def Qr1 (E:Fn):Fn:=An PG (Qnf E) 64 159 Qeo Qmq
theorem Zjh (E:Fn) (G:Int) (K:Kf) (c:Cv):Qr1 E (I G::Ab K c)=
 (E (pxt K.p K.x K.t [I K.pa,I K.pb,I K.pc,I c.o0,I c.o1,B c.o2,B c.o3,B c.o4,I c.m0,I c.m1,I c.m2,I c.m3,I c.m4,I c.m5,I G])).bind λo1=>
 some (Ab K {c with m0:=gA o1 0,m1:=gA o1 1,m2:=gA o1 2,m3:=gA o1 3,m4:=gA o1 4,m5:=gA o1 5}):=by kernel_rfl
def H_:=Qr1 ES
theorem Zoh:Ai PG (Qnf ES):=Ap rfl ⟨Qr6,trivial⟩
theorem Qo5:Am PG (XV H_):=rw1 (C:=Qnf ES) Zoh
def Qpb:Sk:=⟨[tf [sd 20000 0],tf [ci],TS.v true (cc 7)],[(20000,119,cS)],[]⟩
def Z9z:=qa 162 Qpb Qmq
def Qno (E G I:Fn):Cfg:=cp [Zh E,Zoc G,XV I] [108,159]
def YE (E G I:Fn):Fn:=An PG (Qno E G I) 64 162 Qpb Qmq
theorem Zn9 (G J M:Fn) (E O S T U V X N:Int) (K:Kf) (c:Cv):YE G J M (I E::I O::I S::I T::I U::I V::I X::I N::Ab K c)=
 cond (c.g0 !=0) ((M (I E::Ab K c)).bind λo3=>
 some (DY (cR 0 o3) [(82,I 3)])) ((J (pxt K.p K.x K.t [I K.pa,I K.pb,I K.pc,I c.o0,I c.o1,B c.o2,B c.o3,B c.o4,I c.m0,I c.m1,I c.m2,I c.m3,I c.m4,I c.m5,I E,I N,I c.e0,I c.e1,I c.e2,I c.e3,I c.before,I c.s3])).bind λo4=>
 cond (gA o4 10 !=0) ((G (Ab K {c with m0:=gA o4 0,m1:=gA o4 1,m2:=gA o4 2,m3:=gA o4 3,m4:=gA o4 4,m5:=gA o4 5,e0:=gA o4 6,e1:=gA o4 7,e2:=gA o4 8,e3:=gA o4 9})).bind λY=>
 some (cR 0 Y)) (some (Ab K {c with m0:=gA o4 0,m1:=gA o4 1,m2:=gA o4 2,m3:=gA o4 3,m4:=gA o4 4,m5:=gA o4 5,e0:=gA o4 6,e1:=gA o4 7,e2:=gA o4 8,e3:=gA o4 9}))):=by kernel_rfl
def Qb:=YE Hd It H_
theorem Ztu:Ai PG (Qno Hd It H_):=Ap rfl ⟨Qp6,Zi4,Qo5,trivial⟩
theorem Zsk:Am PG (Z9z Qb):=rw1 (C:=Qno Hd It H_) Ztu
def Zh8:=qa 42 ZS Qae
def Qow (E:Fn):Cfg:=cf [Nh E]
def YS (E:Fn):Fn:=An PG (Qow E) 64 42 ZS Qae
theorem Zjz (E:Fn) (G J:Int):YS E [I G,I J]=
 (E [I 4096,I J,I G,I 0]).bind λo1=>
 some [jA o1 0]:=by kernel_rfl
def KM:=YS BM
theorem Z4y:Ai PG (Qow BM):=Ap rfl ⟨LN,trivial⟩
theorem Z9b:Am PG (Zh8 KM):=rw1 (C:=Qow BM) Z4y
def Z2j:=qa 161 Qpb Qmq
def Yv (E G I:Fn):Cfg:=cr [Zh8 E,PF G,XV I] [110,159] [110]
def Qp1 (E G I:Fn):Fn:=An PG (Yv E G I) 64 161 Qpb Qmq
theorem Ze3 (J M O:Fn) (S T U X Y G x6 N:Int) (K:Kf) (c:Cv):Qp1 J M O (I S::I T::I U::I X::I Y::I G::I x6::I N::Ab K c)=
 (O (I S::Ab K c)).bind λE=>
 cond (decide (0<=G)&&decide (G<(↑(wA E 35).length:Int))) (cond (Ah (nth .dead (nth [] (wA E 35) G.toNat) 19)==3) ((M (cR 0 E)).bind λo6=>
 (J [I N,I (V (gA o6 0-gA E 80))]).bind λo7=>
 some (DY (cR 0 E) [(67,I (V (gA E 81+V (V (1*gA o7 0)*256))))])) ((M (cR 0 E)).bind λo8=>
 (J [I N,I (V (gA o8 0-gA E 80))]).bind λo9=>
 some (DY (cR 0 E) [(67,I (V (gA E 81+V (V (-1*gA o9 0)*256))))]))) (none):=by kernel_rfl
def Q7:=Qp1 KM Dn H_
theorem Zj1:Ai PG (Yv KM Dn H_):=Hf (rs:=[110]) rfl ⟨Z9b,P4,Qo5,trivial⟩ rfl (CK rfl (Fj (CK rfl Hx)))
theorem Zif:Am PG (Z2j Q7):=rw1 (C:=Yv KM Dn H_) Zj1
def Z86:=qa 199 ZS Qae
def Qlv:Fn:=An PG Qcv 64 199 ZS Qae
theorem Z7j (G E:Int):Qlv [I G,I E]=
 cond (decide (E=0)) (none) (cond (decide (E=0)) (none) (cond (decide (G.tmod E<0)) (some [I (V (V (G.tdiv E)-1))]) (some [I (V (G.tdiv E))]))):=by kernel_rfl
def Kv:=Qlv
theorem Z7a:Am PG (Z86 Kv):=rw1 (C:=Qcv) Zft
def Zx0:=qa 180 ZS Qae
def Qpg (E:Fn):Cfg:=cf [Z86 E]
def Qjx (E:Fn):Fn:=An PG (Qpg E) 64 180 ZS Qae
theorem Z1i (E:Fn) (G J:Int):Qjx E [I G,I J]=
 cond (J== -1) ((E [I G,I 1048576]).bind λo2=>
 some [I (V (gA o2 0*1048576))]) ((E [I (V (0-G)),I 1048576]).bind λo3=>
 some [I (V (V (0-gA o3 0)*1048576))]):=by kernel_rfl
def KY:=Qjx Kv
theorem Zz7:Ai PG (Qpg Kv):=Ap rfl ⟨Z7a,trivial⟩
theorem Zlz:Am PG (Zx0 KY):=rw1 (C:=Qpg Kv) Zz7
def Qob:Sk:=⟨[tf [sd 20000 0],TS.v true (cc 7)],[(20000,119,cS)],[]⟩
def Qik:Sk:=⟨[tf [sb]],[(20000,119,cS)],[]⟩
def Zks:=qa 160 Qob Qik
def Wp (E G:Fn):Cfg:=cr [PF E,Zx0 G] [110] [110]
def Qmx (E G:Fn):Fn:=An PG (Wp E G) 64 160 Qob Qik
theorem Zxz (G J:Fn) (M N O S E T U:Int) (K:Kf) (c:Cv):Qmx G J (I M::I N::I O::I S::I E::I T::I U::Ab K c)=
 (J [I c.before,I c.s0]).bind λo3=>
 cond (decide (0<=E)&&decide (E<((K.aA.map Af).length:Int))) (cond (gA (nth [] (K.aA.map Af) E.toNat) 0 !=6) (cond (c.s1==0) (some (B false::Ab K c)) (cond (decide (V (V (c.s3-gA o3 0)*c.s0)<0)) (some (B false::Ab K c)) ((G (Ab K c)).bind λo4=>
 some (B true::Ab K {c with y0:=E,y1:=gA o4 0,y2:=c.s3,e0:=1,e1:=c.m0,e2:=gA o3 0,e3:=0})))) ((G (Ab K c)).bind λX=>
 some (B true::Ab K {c with y0:=E,y1:=gA X 0,y2:=c.s3,e0:=1,e1:=c.m0,e2:=gA o3 0,e3:=0}))) (none):=by kernel_rfl
def Q_:=Qmx Dn KY
theorem Yau:Ai PG (Wp Dn KY):=Hf (rs:=[110]) rfl ⟨P4,Zlz,trivial⟩ rfl (Fj (CK rfl Hx))
theorem Zww:Am PG (Zks Q_):=rw1 (C:=Wp Dn KY) Yau
def Qo3:Sk:=⟨[TS.tup [(true,cc 7),(false,[sb])]],[],[]⟩
def UI (M:Fn):Nat×Spec:=(102,E0 Qo8 Qo3 M)
def Rk (E G:Fn):Cfg:=cr [Qja E,PF G] [110] [110]
def Qrn (E G:Fn):Fn:=L6 PG (Rk E G) 64 102 Qo8 Qo3
theorem Zkz (E G:Fn) (K:Kf) (c:Cv):Qrn E G (Ab K c)=
 (G (Ab K c)).bind λo2=>
 (E (BC K.p++[jA o2 0])).bind λo3=>
 cond (decide (gA o3 0<0)) (some [I 0,I 0,I 0,I 0,I 0,I 0,I 0,B false]) (cond (decide (0<=gA o3 0)&&decide (gA o3 0<((K.p.aF.map Av).length:Int))) (some (AT Ag (nth [] (K.p.aF.map Av) (gA o3 0).toNat)++[B true])) (none)):=by kernel_rfl
def Fg:=Qrn Fe Dn
theorem Zn0:Ai PG (Rk Fe Dn):=Hf (rs:=[110]) rfl ⟨Qaa,P4,trivial⟩ rfl (CK rfl (Fj Hx))
theorem Z35 (vars : List AC) (R : Type) (K : TV -> Mem -> Option R) : Fh PG (Rk Fe Dn) 64 102 [TV.v false [AC.ptr 20000 0]] ⟨[(20000, (⟨119, (cR 0 vars)⟩ : Box))], []⟩ K = Fh PG (Rk Fe Dn) 64 102 [TV.v false [AC.ptr 20000 0]] ⟨[(20000, (⟨119, (cR 0 vars)⟩ : Box))], []⟩ (λv _ => K v ⟨[(20000, (⟨119, (cR 0 vars)⟩ : Box))], []⟩) := cx (b := ((Dn (cR 0 vars)).bind λo2 =>
 (Fe [jA vars 37,jA vars 38,jA vars 39, .vC Ag (wA vars 40), .vC kPt (wA vars 41),jA o2 0]).bind λo3=>
 cond (decide (gA o3 0<0)) (K (TV.tup [(true,[I 0,I 0,I 0,I 0,I 0,I 0,I 0]),(false,[B false])]) ⟨[(20000,(⟨119,(cR 0 vars)⟩:Box))],[]⟩) (cond (decide (0<=gA o3 0)&&decide (gA o3 0<(↑(wA vars 40).length:Int))) (K (TV.tup [(true,[I (Ah (nth .dead (nth [] (wA vars 40) (gA o3 0).toNat) 0)),I (Ah (nth .dead (nth [] (wA vars 40) (gA o3 0).toNat) 1)),I (Ah (nth .dead (nth [] (wA vars 40) (gA o3 0).toNat) 2)),I (Ah (nth .dead (nth [] (wA vars 40) (gA o3 0).toNat) 3)),I (Ah (nth .dead (nth [] (wA vars 40) (gA o3 0).toNat) 4)),I (Ah (nth .dead (nth [] (wA vars 40) (gA o3 0).toNat) 5)),I (Ah (nth .dead (nth [] (wA vars 40) (gA o3 0).toNat) 6))]),(false,[B true])]) ⟨[(20000,(⟨119,(cR 0 vars)⟩:Box))],[]⟩) (none)))) (by kernel_rfl) (Eq.symm (by kernel_rfl))
theorem UX:Am PG (102,E0 Qo8 Qo3 Fg):=QC (C:=Rk Fe Dn) (L:=64) (by kernel_rfl) (FnOK.bare rfl rfl rfl) Zn0 eqOk FI (by kernel_rfl) (by kernel_rfl) (λvars R K=>Z35 vars R K)
def Zx7:=qa 109 Qeo Qmq
def Qjv (E G I J M N:Fn):Cfg:=cr [Z9z E,Z2j G,Zh I,Zks J,XV M,UI N] [162,161,108,160,159,102] [102]
def Qbc (E G I J M N:Fn):Fn:=An PG (Qjv E G I J M N) 64 109 Qeo Qmq
abbrev Ux (c:Cv) (E:List AC) (X:Fn) (K:Kf) (Y U:Fn) (J:Int) (V:Fn):Option (List AC):=
 cond (!c.y0==gA E 4) ((X (jA E 0::jA E 1::jA E 2::jA E 3::jA E 4::jA E 5::jA E 6::Ab K c)).bind λG=>
 cond (!bA G 0) (cond (gA G 66==0) ((Y (cR 1 G)).bind λM=>
 some (cR 0 M)) (some (cR 1 G))) (cond (decide (0<=gA E 4)&&decide (gA E 4<(↑(wA G 36).length:Int))) (cond (Ah (nth .dead (nth [] (wA G 36) (gA E 4).toNat) 0)==6) ((U (I J::jA E 0::jA E 1::jA E 2::jA E 3::jA E 4::jA E 5::jA E 6::cR 1 G)).bind λN=>
 some (cR 0 N)) ((V (I J::jA E 0::jA E 1::jA E 2::jA E 3::jA E 4::jA E 5::jA E 6::cR 1 G)).bind λO=>
 some (cR 0 O))) (none))) (cond (decide (0<=gA E 4)&&decide (gA E 4<((K.aA.map Af).length:Int))) (cond (gA (nth [] (K.aA.map Af) (gA E 4).toNat) 0==6) ((U (I J::jA E 0::jA E 1::jA E 2::jA E 3::jA E 4::jA E 5::jA E 6::Ab K c)).bind λS=>
 some (cR 0 S)) ((V (I J::jA E 0::jA E 1::jA E 2::jA E 3::jA E 4::jA E 5::jA E 6::Ab K c)).bind λT=>
 some (cR 0 T))) (none))
theorem Zil (J M N O S V:Fn) (G:Int) (K:Kf) (c:Cv):Qbc J M N O S V (I G::Ab K c)=
 (V (Ab K c)).bind λE=>
 cond (gA E 6==0) ((S (I G::Ab K c)).bind λT=>
 some (cR 0 T)) (cond (c.o2) (cond (!c.y0==gA E 4) ((S (I G::Ab K c)).bind λU=>
 some (cR 0 U)) (Ux c E O K N M G J)) (Ux c E O K N M G J)):=by kernel_rfl
def Qh:=Qbc Qb Q7 Hd Q_ H_ Fg
theorem Z11:Ai PG (Qjv Qb Q7 Hd Q_ H_ Fg):=Hf (rs:=[102]) rfl ⟨Zsk,Zif,Qp6,Zww,Qo5,UX,trivial⟩ rfl (CK rfl (CK rfl (CK rfl (CK rfl (CK rfl (Fj Hx))))))
theorem Zpu:Am PG (Zx7 Qh):=rw1 (C:=Qjv Qb Q7 Hd Q_ H_ Fg) Z11
def Qh4:=qa 88 Qae Qae
def XW (E:Fn):Cfg:=cf [Nh E]
def Us (E:Fn):Fn:=An PG (XW E) 64 88 Qae Qae
theorem Q4d (E:Fn) (G:Int):Us E [I G]=
 (E [I G,I 1048576,I 60000,I 2]).bind λo1=>
 some [jA o1 0]:=by kernel_rfl
def FF:=Us BM
theorem Zry:Ai PG (XW BM):=Ap rfl ⟨LN,trivial⟩
theorem Qle:Am PG (Qh4 FF):=rw1 (C:=XW BM) Zry
def Q59:=qa 177 Qae Qae
def Qlh:Fn:=An PG Qcv 64 177 Qae Qae
theorem Zfi (E:Int):Qlh [I E]=
 cond (E==3) (some [I 1]) (cond (E==4) (some [I (-1)]) (some [I 0])):=by kernel_rfl
def Hu:=Qlh
theorem Q0e:Am PG (Q59 Hu):=rw1 (C:=Qcv) Zft
def Qqz:Sk:=⟨[TS.v true [ci,ci,ci,ci],tf [ci],tf [ci]],[],[]⟩
def Ze2:=qa 150 Qqz Qqn
def Qly (E G:Fn):Cfg:=cf [Qh4 E,Q59 G]
def Yy (E G:Fn):Fn:=An PG (Qly E G) 64 150 Qqz Qqn
theorem Zrw (E O:Fn) (S G J T M N:Int):Yy E O [I S,I G,I J,I T,I M,I N]=
 (O [I M]).bind λo3=>
 cond (gA o3 0==0) (cond (M==5) (cond (G==0) (some [B (J==0)]) (some [B false])) (some [B false])) (cond (S==gA o3 0) ((E [I N]).bind λo4=>
 cond (G==gA o4 0) ((E [I N]).bind λU=>
 some [B (J==gA U 0)]) (some [B false])) (some [B false])):=by kernel_rfl
def ND:=Yy FF Hu
theorem Z0v:Ai PG (Qly FF Hu):=Ap rfl ⟨Qle,Q0e,trivial⟩
theorem Z7i:Am PG (Ze2 ND):=rw1 (C:=Qly FF Hu) Z0v
def X1:Sk:=⟨[TS.v true [ci,ci,ci,ci]],[],[]⟩
def Zw0:=qa 149 Qqz X1
def Qdh (E G:Fn):Cfg:=cf [Qh4 E,Q59 G]
def Zj (E G:Fn):Fn:=An PG (Qdh E G) 64 149 Qqz X1
theorem Znu (M S:Fn) (J E T G N O:Int):Zj M S [I J,I E,I T,I G,I N,I O]=
 (S [I N]).bind λo3=>
 cond (N==5) (some [I J,I E,I 0,I G]) (cond (gA o3 0==0) (some [I J,I E,I T,I G]) (cond (E==0) ((M [I O]).bind λo4=>
 some [jA o3 0,I E,jA o4 0,I G]) (cond (J==gA o3 0) ((M [I O]).bind λU=>
 some [jA o3 0,I E,jA U 0,I G]) (some [I J,I E,I 0,I G])))):=by kernel_rfl
def Ly:=Zj FF Hu
theorem Z6i:Ai PG (Qdh FF Hu):=Ap rfl ⟨Qle,Q0e,trivial⟩
theorem Znn:Am PG (Zw0 Ly):=rw1 (C:=Qdh FF Hu) Z6i
def Qmt:Sk:=⟨[tf [ci]],[(20000,119,cS)],[]⟩
def Zfv:=qa 148 Qo8 Qmt
def Qgr:Fn:=An PG Qcv 64 148 Qo8 Qmt
theorem Zva (K:Kf) (c:Cv):Qgr (Ab K c)=
 some (I 3::Ab K {c with next:=V (c.idx+1),on:=false,idx:=0,aN:=false,cnt:=0}):=by kernel_rfl
def Pc:=Qgr
theorem Zlg:Am PG (Zfv Pc):=rw1 (C:=Qcv) Zft
def Qu3:=qa 103 Qo8 Qmt
def ZZ (E G I:Fn):Cfg:=cp [Ze2 E,Zw0 G,Zfv I] [148]
def WV (E G I:Fn):Fn:=An PG (ZZ E G I) 64 103 Qo8 Qmt
theorem Zt9 (O S G:Fn) (K:Kf) (c:Cv):WV O S G (Ab K c)=
 cond (c.aN) (cond (decide (V (c.cnt+1)>1)) (cond (c.aJ) ((G (Ab K {c with cnt:=V (c.cnt+1)})).bind λT=>
 some (jA T 0::cR 1 T)) (some (I 2::Ab K {c with cnt:=V (c.cnt+1)}))) (some (I 2::Ab K {c with cnt:=V (c.cnt+1)}))) (cond (decide (0<=c.idx)&&decide (c.idx<((K.p.aD.map Aw).length:Int))) (cond (gA (nth [] (K.p.aD.map Aw) c.idx.toNat) 1 !=3) ((G (Ab K {c with cnt:=V (c.cnt+1)})).bind λU=>
 some (jA U 0::cR 1 U)) (cond (decide (0<=gA (nth [] (K.p.aD.map Aw) c.idx.toNat) 2)&&decide (gA (nth [] (K.p.aD.map Aw) c.idx.toNat) 2<((K.aA.map Af).length:Int))) (cond (gA (nth [] (K.aA.map Af) (gA (nth [] (K.p.aD.map Aw) c.idx.toNat) 2).toNat) 0==7) (cond (decide (V (c.cnt+1)<gA (nth [] (K.aA.map Af) (gA (nth [] (K.p.aD.map Aw) c.idx.toNat) 2).toNat) 19)) (some (I 3::Ab K {c with cnt:=V (c.cnt+1)})) ((G (Ab K {c with cnt:=V (c.cnt+1)})).bind λX=>
 some (jA X 0::cR 1 X))) (cond (gA (nth [] (K.aA.map Af) (gA (nth [] (K.p.aD.map Aw) c.idx.toNat) 2).toNat) 0==8) ((S [I c.s0,I c.s1,I c.s2,I c.s3,jA (nth [] (K.aA.map Af) (gA (nth [] (K.p.aD.map Aw) c.idx.toNat) 2).toNat) 19,jA (nth [] (K.aA.map Af) (gA (nth [] (K.p.aD.map Aw) c.idx.toNat) 2).toNat) 20]).bind λE=>
 (O [jA E 0,jA E 1,jA E 2,jA E 3,jA (nth [] (K.aA.map Af) (gA (nth [] (K.p.aD.map Aw) c.idx.toNat) 2).toNat) 19,jA (nth [] (K.aA.map Af) (gA (nth [] (K.p.aD.map Aw) c.idx.toNat) 2).toNat) 20]).bind λN=>
 cond (!bA N 0) (some (I 3::Ab K {c with s0:=gA E 0,s1:=gA E 1,s2:=gA E 2,s3:=gA E 3,cnt:=V (c.cnt+1)})) ((G (Ab K {c with s0:=gA E 0,s1:=gA E 1,s2:=gA E 2,s3:=gA E 3,cnt:=V (c.cnt+1)})).bind λJ=>
 some (jA J 0::cR 1 J))) (cond (gA (nth [] (K.aA.map Af) (gA (nth [] (K.p.aD.map Aw) c.idx.toNat) 2).toNat) 0==14) (some (I 7::Ab K {c with cnt:=V (c.cnt+1),aI:=7})) ((G (Ab K {c with cnt:=V (c.cnt+1)})).bind λM=>
 some (jA M 0::cR 1 M))))) (none))) (none)):=by kernel_rfl
def KS:=WV ND Ly Pc
theorem Zfh:Ai PG (ZZ ND Ly Pc):=Ap rfl ⟨Z7i,Znn,Zlg,trivial⟩
theorem Zcn:Am PG (Qu3 KS):=rw1 (C:=ZZ ND Ly Pc) Zfh
def Zqf:=qa 107 Qeo Qmt
def Qk7 (E:Fn):Cfg:=cp [Qu3 E] [103]
def Qic (E:Fn):Fn:=An PG (Qk7 E) 64 107 Qeo Qmt
theorem Z9d (G:Fn) (E:Int) (K:Kf) (c:Cv):Qic G (I E::Ab K c)=
 cond (decide (0<=E)&&decide (E<((K.p.aD.map Aw).length:Int))) (cond (gA (nth [] (K.p.aD.map Aw) E.toNat) 1==1) ((G (Ab K {c with on:=true,idx:=E,aN:=c.o3,cnt:=0})).bind λS=>
 some (jA S 0::cR 1 S)) (cond (gA (nth [] (K.p.aD.map Aw) E.toNat) 1==2) ((G (Ab K {c with on:=true,idx:=E,aN:=c.o3,cnt:=0})).bind λT=>
 some (jA T 0::cR 1 T)) (cond (gA (nth [] (K.p.aD.map Aw) E.toNat) 1==6) ((G (Ab K {c with on:=true,idx:=E,aN:=c.o3,cnt:=0})).bind λU=>
 some (jA U 0::cR 1 U)) (cond (gA (nth [] (K.p.aD.map Aw) E.toNat) 1==4) ((G (Ab K {c with on:=true,idx:=E,aN:=true,cnt:=0})).bind λJ=>
 some (jA J 0::cR 1 J)) (cond (gA (nth [] (K.p.aD.map Aw) E.toNat) 1==3) (cond (decide (0<=gA (nth [] (K.p.aD.map Aw) E.toNat) 2)&&decide (gA (nth [] (K.p.aD.map Aw) E.toNat) 2<((K.aA.map Af).length:Int))) (cond (gA (nth [] (K.aA.map Af) (gA (nth [] (K.p.aD.map Aw) E.toNat) 2).toNat) 0==11) ((G (Ab K {c with on:=true,idx:=E,aN:=true,cnt:=0})).bind λM=>
 some (jA M 0::cR 1 M)) ((G (Ab K {c with on:=true,idx:=E,aN:=gA (nth [] (K.aA.map Af) (gA (nth [] (K.p.aD.map Aw) E.toNat) 2).toNat) 0==12,cnt:=0})).bind λN=>
 some (jA N 0::cR 1 N))) (none)) ((G (Ab K {c with on:=true,idx:=E,aN:=false,cnt:=0})).bind λO=>
 some (jA O 0::cR 1 O))))))) (none):=by kernel_rfl
def P7:=Qic KS
theorem Zmj:Ai PG (Qk7 KS):=Ap rfl ⟨Zcn,trivial⟩
theorem Z5p:Am PG (Zqf P7):=rw1 (C:=Qk7 KS) Zmj
def Qk8:Sk:=⟨[tf [sa kPt],tf [ci],TS.v true [ci,ci,sb,sb,sb],tf [ci],tf [ci]],[],[]⟩
def Ya0:=qa 158 Qk8 XB
def Qhz (E:Fn):Cfg:=cf [Qy8 E]
def Q5w:Sk:=⟨[tf [sa kPt],td,td,tf [ci],tf [ci],td,td,tf [sd 7 0],td,td,td,td,tf [ci]]++dd 32,[(7,92,[ci,ci,sb,sb,sb])],[]⟩
def Qz9:List (Ex×Sk):=[(Ex.ret,⟨dd 10++[tf [ci],tf [ci]]++dd 33,[],[]⟩),(Ex.exit 0,⟨[td,td,td,tf [ci]]++dd 41,[],[]⟩)]
def Su (E:Fn):Lp:=A5 PG (Qhz E) 64 2 (A4 PG 158 2) Q5w Qz9
def Qvy (E:Fn) (G:Lp):Cfg:=(Qhz E).loop 2 Q5w Qz9 G
def Qgv (E:Fn) (G:Lp):Fn:=An PG (Qvy E G) 64 158 Qk8 XB
theorem Zol (U:Fn) (v0:Rw) (G J E M N:Int) (O S T:Bool):Su U [.vC kPt v0,I G,I J,I E,I M,I N,B O,B S,B T]=
 cond (decide (E<(v0.length:Int))) (cond (decide (0<=E)&&decide (E<(v0.length:Int))) ((U [jA (nth [] v0 E.toNat) 0,jA (nth [] v0 E.toNat) 1,jA (nth [] v0 E.toNat) 2,I M,I N,B O,B S,B T]).bind λo2=>
 cond (bA o2 0) (cond (decide (J<=gA (nth [] v0 E.toNat) 0)) (cond (decide (gA (nth [] v0 E.toNat) 0<=G)) (some (1,[jA (nth [] v0 E.toNat) 0,I E])) (some (0,[.vC kPt v0,I G,I J,I (V (E+1)),I M,I N,B O,B S,B T]))) (some (0,[.vC kPt v0,I G,I J,I (V (E+1)),I M,I N,B O,B S,B T]))) (some (0,[.vC kPt v0,I G,I J,I (V (E+1)),I M,I N,B O,B S,B T]))) (none)) (some (2,[I G])):=by kernel_rfl
theorem Zib (X:Fn) (E:Lp) (G:Rw) (J M N:Int) (O S T:Bool) (U V:Int):Qgv X E [.vC kPt G,I J,I M,I N,B O,B S,B T,I U,I V]=
 (E [.vC kPt G,I U,I V,I (mx J 0),I M,I N,B O,B S,B T]).bind λo3=>
 cond (o3.1.beq 1) (some [jA o3.2 0,jA o3.2 1]) (cond (o3.1.beq 2) (some [jA o3.2 0,I (-1)]) (none)):=by kernel_rfl
def Q1t:=Ak (Su I6)
def Qy:=Qgv I6 Q1t
theorem Za4:Ai PG (Qhz I6):=Ap rfl ⟨Qxy,trivial⟩
theorem Z90:Am PG (Ya0 Qy):=rw2 (C:=Qvy I6 Q1t) (fl fb Za4) Za4
def Z3k:=qa 157 YL Qae
def Q83:Sk:=⟨[td,tf [ci]]++dd 11++[tf [sa As],tf [ci],tf [ci]]++dd 28,[],[]⟩
def Qtu:List (Ex×Sk):=[(Ex.ret,⟨[td,td,td,td,tf [ci]]++dd 39,[],[]⟩),(Ex.exit 0,⟨[td]++dd 43,[],[]⟩)]
def Sd:Lp:=A5 PG Qcv 64 4 (A4 PG 157 4) Q83 Qtu
def Qx7 (E:Lp):Cfg:=Qcv.loop 4 Q83 Qtu E
def Zat (E:Lp):Fn:=An PG (Qx7 E) 64 157 YL Qae
theorem Qwi (v0:Int) (G:Rw) (J E:Int):Sd [I v0, .vC As G,I J,I E]=
 cond (decide (E<J)) (cond (decide (0<=E)&&decide (E<(G.length:Int))) (cond (gA (nth [] G E.toNat) 3 !=0) (cond (decide (0<=V (V (v0-gA (nth [] G E.toNat) 2)*gA (nth [] G E.toNat) 3))) (cond (decide (V (V (v0-gA (nth [] G E.toNat) 2)*gA (nth [] G E.toNat) 3)<=gA (nth [] G E.toNat) 1)) (some (1,[I (V (gA (nth [] G E.toNat) 0+V (V (v0-gA (nth [] G E.toNat) 2)*gA (nth [] G E.toNat) 3)))])) (some (0,[I v0, .vC As G,I J,I (V (E+1))]))) (some (0,[I v0, .vC As G,I J,I (V (E+1))]))) (some (0,[I v0, .vC As G,I J,I (V (E+1))]))) (none)) (some (2,[])):=by kernel_rfl
theorem Z9t (J:Lp) (E:Rw) (N M O S T G:Int):Zat J [.vC As E,I N,I M,I O,I S,I T,I G]=
 cond (G==M) (some [I 0]) ((J [I G, .vC As E,I (E.length:Int),I 0]).bind λo1=>
 cond (o1.1.beq 1) (some [jA o1.2 0]) (cond (o1.1.beq 2) (some [I (-1)]) (none))):=by kernel_rfl
def L2:=Ak (Sd)
def N_:=Zat L2
theorem Zn2:Am PG (Z3k N_):=rw2 (C:=Qx7 L2) (fl fb Zft) Zft
def Qos:Sk:=⟨[TS.tup [(false,[ci]),(false,[ci])]],[(20000,119,cS)],[]⟩
def Z0c:=qa 106 Qo8 Qos
def Y8 (E G I J:Fn):Cfg:=cf [Ya0 E,Z3k G,Ry I,Qzc J]
def Qaw (E G I J:Fn):Fn:=An PG (Y8 E G I J) 64 106 Qo8 Qos
abbrev U7 (Y:Fn) (K:Kf) (c:Cv) (BT O X:Fn) (E:AC):Option (List AC):=
 (Y [I K.pa,I K.pb,I K.pc,I c.m0,I c.m1,I c.m2,I c.m3,I c.m4,I c.m5]).bind λJ=>
 (BT (Ba K.t++[I (V ((V (V (gA J 0+256)-1)).tdiv 256))])).bind λG=>
 (O (Ba K.t++[jA G 0])).bind λS=>
 cond (gA S 0 !=V ((V (V (gA J 0+256)-1)).tdiv 256)) ((X [.vC kPt (K.p.aD.map Aw),I c.next,I c.o0,I c.o1,B c.o2,B c.o3,B c.o4,E,I (V (gA G 0+1))]).bind λM=>
 (O (Ba K.t++[jA M 0])).bind λT=>
 some (jA T 0::jA M 1::Ab K c)) ((X [.vC kPt (K.p.aD.map Aw),I c.next,I c.o0,I c.o1,B c.o2,B c.o3,B c.o4,E,jA G 0]).bind λN=>
 (O (Ba K.t++[jA N 0])).bind λU=>
 some (jA U 0::jA N 1::Ab K c))
theorem Z9h (E G J M:Fn) (K:Kf) (c:Cv):Qaw E G J M (Ab K c)=
 cond (K.closed) (U7 M K c J G E (I K.len)) (U7 M K c J G E (I K.set)):=by kernel_rfl
def RA:=Qaw Qy N_ Ew F9
theorem Z1h:Ai PG (Y8 Qy N_ Ew F9):=Ap rfl ⟨Z90,Zn2,RK,Qz3,trivial⟩
theorem Z4k:Am PG (Z0c RA):=rw1 (C:=Y8 Qy N_ Ew F9) Z1h
def Zo3:=qa 70 Qo8 Qmt
def Qi2 (E G I J:Fn):Cfg:=cp [Zx7 E,Zh G,Zqf I,Z0c J] [109,108,107,106]
def YJ (E G I J:Fn):Fn:=An PG (Qi2 E G I J) 64 70 Qo8 Qmt
theorem Zzs (J T U X:Fn) (K:Kf) (c:Cv):YJ J T U X (Ab K c)=
 (X (Ab K c)).bind λE=>
 cond (bA E 90) (cond (gA E 52==V (gA E 0*256)) (cond (decide (gA E 1>=0)) ((U (jA E 1::cR 2 E)).bind λG=>
 cond (decide (0<=gA E 1)&&decide (gA E 1<(↑(wA G 42).length:Int))) (cond (Ah (nth .dead (nth [] (wA G 42) (gA E 1).toNat) 2)==gA G 80) (cond (decide (0<=Ah (nth .dead (nth [] (wA G 42) (gA E 1).toNat) 2))&&decide (Ah (nth .dead (nth [] (wA G 42) (gA E 1).toNat) 2)<(↑(wA G 36).length:Int))) (cond (Ah (nth .dead (nth [] (wA G 36) (Ah (nth .dead (nth [] (wA G 42) (gA E 1).toNat) 2)).toNat) 0)==5) (cond (gA G 83==1) ((T (cR 1 G)).bind λY=>
 some (jA G 0::cR 0 Y)) (some (jA G 0::cR 1 G))) (some (jA G 0::cR 1 G))) (none)) (some (jA G 0::cR 1 G))) (none)) (cond (bA E 38) (some (I 7::DY (cR 2 E) [(78,I 7)])) (some (I 1::cR 2 E)))) (cond (gA E 63 !=0) ((J (jA E 0::cR 2 E)).bind λM=>
 cond (bA E 90) (some (I 6::cR 0 M)) (some (I 1::cR 0 M))) ((J (jA E 0::cR 2 E)).bind λO=>
 some (I 1::cR 0 O)))) (cond (gA E 63 !=0) ((J (jA E 0::cR 2 E)).bind λN=>
 cond (bA E 90) (some (I 6::cR 0 N)) (some (I 1::cR 0 N))) ((J (jA E 0::cR 2 E)).bind λS=>
 some (I 1::cR 0 S))):=by kernel_rfl
def Kr:=YJ Qh Hd P7 RA
theorem Z2i:Ai PG (Qi2 Qh Hd P7 RA):=Ap rfl ⟨Zpu,Qp6,Z5p,Z4k,trivial⟩
theorem Zrr:Am PG (Zo3 Kr):=rw1 (C:=Qi2 Qh Hd P7 RA) Z2i
def Qkb:=qa 59 Qae Qk5
def Qcx:Fn:=An PG Qcv 64 59 Qae Qk5
theorem Z5l (E:Int):Qcx [I E]=
 some [I (V (E*256)),I 0,I 0,I (V (E*256)),I (V (E*256)),I (V (E*256))]:=by kernel_rfl
def HA:=Qcx
theorem W8:Am PG (Qkb HA):=rw1 (C:=Qcv) Zft
def Qrp:Sk:=⟨[TS.v true (cc 9++[sa Aa]++cc 9++[sa Aa]++cc 9++[sa Aa]),TS.v true [ci,ci,ci],TS.v true [ci,ci,ci]],[],[]⟩
def Zot:=qa 95 Qrp Qae
def Yf:Cfg:={cf []with unroll:=[3]}
def Q17:Fn:=An PG Yf 64 95 Qrp Qae
theorem Zfx (x0 x1 x2 x3 x4 x5 S x7 x8:Int) (x9:Rw) (V X Y a0 a1 a2 E a3 a4:Int) (a5:Rw) (a6 a7 a8 a9 b0 b1 G b2 b3:Int) (b4:Rw) (T N J U O M:Int):Q17 [I x0,I x1,I x2,I x3,I x4,I x5,I S,I x7,I x8, .vC Aa x9,I V,I X,I Y,I a0,I a1,I a2,I E,I a3,I a4, .vC Aa a5,I a6,I a7,I a8,I a9,I b0,I b1,I G,I b2,I b3, .vC Aa b4,I T,I N,I J,I U,I O,I M]=
 cond (T !=U) (cond (N !=O) (cond (J !=M) (some [I (mx (mx (mx 0 S) E) G)]) (some [I (mx (mx 0 S) E)])) (cond (J !=M) (some [I (mx (mx 0 S) G)]) (some [I (mx 0 S)]))) (cond (N !=O) (cond (J !=M) (some [I (mx (mx 0 E) G)]) (some [I (mx 0 E)])) (cond (J !=M) (some [I (mx 0 G)]) (some [I 0]))):=by kernel_rfl
def NP:=Q17
theorem Zeh:Ai PG (Yf):=Ap rfl trivial
theorem Zsi:Am PG (Zot NP):=rw1 (C:=Yf) Zeh
def Qh5:Sk:=⟨[TS.v true [ci,ci,ci],TS.v true [ci,ci,ci],TS.v true [ci,ci,ci],tf [ci]],[],[]⟩
def Yal:=qa 94 Qh5 Qbn
def Qef:Cfg:={cf []with unroll:=[2]}
def Zch:Fn:=An PG Qef 64 94 Qh5 Qbn
abbrev Sz (J M:Int) (E:AC) (N O:Int) (G:AC):Option (List AC):=
 cond (decide (J>M)) (some [E,G,I N]) (cond (decide (J<M)) (some [E,G,I (V (0-N))]) (some [E,G,I O]))
abbrev Ut (O S J M G N T:Int) (E:AC):Option (List AC):=
 cond (decide (O>S)) (Sz J M E G N (I G)) (cond (decide (O<S)) (Sz J M E G N (I (V (0-G)))) (Sz J M E G N (I T)))
theorem Zh2 (X G J T M N U O S E:Int):Zch [I X,I G,I J,I T,I M,I N,I U,I O,I S,I E]=
 cond (decide (U>T)) (Ut O M S N E J G (I E)) (cond (decide (U<T)) (Ut O M S N E J G (I (V (0-E)))) (Ut O M S N E J G (I X))):=by kernel_rfl
def OU:=Zch
theorem Zw3:Ai PG (Qef):=Ap rfl trivial
theorem Z8c:Am PG (Yal OU):=rw1 (C:=Qef) Zw3
def Qm0:Sk:=⟨[TS.v true (cc 10),tf [sd 20000 0]],[(20000,62,[se 20000 10]++cc 5)],[(20000,135,As)]⟩
def ZF:Sk:=⟨[TS.tup []],[(20000,62,[se 20000 10]++cc 5)],[(20000,135,As)]⟩
def Q5a:=qa 92 Qm0 ZF
def V_:Fn:=An PG Qcv 64 92 Qm0 ZF
theorem Zbc (E:Rw) (x1 M x3 U x5 x6 x7 X Y J G N O S T:Int):V_ [.vC As E,I x1,I M,I x3,I U,I x5,I x6,I x7,I X,I Y,I J,I G,I N,I O,I S,I T]=
 cond (decide ((E.length:Int)>0)) (cond (U !=0) (cond (decide (0<=V ((E.length:Int)-1))&&decide (V ((E.length:Int)-1)<(E.length:Int))) (cond (gA (nth [] E (V ((E.length:Int)-1)).toNat) 3==U) (cond (decide (0<=V ((E.length:Int)-1))&&decide (V ((E.length:Int)-1)<(E.length:Int))) (cond (gA (nth [] E (V ((E.length:Int)-1)).toNat) 7==X&&(gA (nth [] E (V ((E.length:Int)-1)).toNat) 8==Y&&(gA (nth [] E (V ((E.length:Int)-1)).toNat) 9==J&&true))) (cond (decide (0<=V ((E.length:Int)-1))&&decide (V ((E.length:Int)-1)<(E.length:Int))) (cond (decide (0<=V ((E.length:Int)-1))&&decide (V ((E.length:Int)-1)<(E.length:Int))) (some [.vC As (E.set (V ((E.length:Int)-1)).toNat [jA (nth [] E (V ((E.length:Int)-1)).toNat) 0,I (V (gA (nth [] E (V ((E.length:Int)-1)).toNat) 1+M)),jA (nth [] E (V ((E.length:Int)-1)).toNat) 2,jA (nth [] E (V ((E.length:Int)-1)).toNat) 3,jA (nth [] E (V ((E.length:Int)-1)).toNat) 4,jA (nth [] E (V ((E.length:Int)-1)).toNat) 5,jA (nth [] E (V ((E.length:Int)-1)).toNat) 6,jA (nth [] E (V ((E.length:Int)-1)).toNat) 7,jA (nth [] E (V ((E.length:Int)-1)).toNat) 8,jA (nth [] E (V ((E.length:Int)-1)).toNat) 9]),I (V (G+M)),I N,I O,I S,I T]) (none)) (none)) (cond (((E++[[I G,I M,I x3,I U,I x5,I x6,I x7,I X,I Y,I J]]).length*80).ble 140737488355328) (some [.vC As (E++[[I G,I M,I x3,I U,I x5,I x6,I x7,I X,I Y,I J]]),I (V (G+M)),I N,I O,I S,I T]) (none))) (none)) (cond (((E++[[I G,I M,I x3,I U,I x5,I x6,I x7,I X,I Y,I J]]).length*80).ble 140737488355328) (some [.vC As (E++[[I G,I M,I x3,I U,I x5,I x6,I x7,I X,I Y,I J]]),I (V (G+M)),I N,I O,I S,I T]) (none))) (none)) (cond (((E++[[I G,I M,I x3,I U,I x5,I x6,I x7,I X,I Y,I J]]).length*80).ble 140737488355328) (some [.vC As (E++[[I G,I M,I x3,I U,I x5,I x6,I x7,I X,I Y,I J]]),I (V (G+M)),I N,I O,I S,I T]) (none))) (cond (((E++[[I G,I M,I x3,I U,I x5,I x6,I x7,I X,I Y,I J]]).length*80).ble 140737488355328) (some [.vC As (E++[[I G,I M,I x3,I U,I x5,I x6,I x7,I X,I Y,I J]]),I (V (G+M)),I N,I O,I S,I T]) (none)):=by kernel_rfl
def Ny:=V_
theorem Qti:Am PG (Q5a Ny):=rw1 (C:=Qcv) Zft
def Qot:Sk:=⟨[TS.v true [ci,ci,ci],TS.v true [ci,ci,ci],tf [ci],tf [ci],tf [sd 20000 0],tf [sd 20001 0],tf [sd 20002 0],tf [sd 20003 0]],[(20000,44,[ci,ci,ci]),(20001,3,[ci]),(20002,27,cc 9++[sa Aa]++cc 9++[sa Aa]++cc 9++[sa Aa]),(20003,153,[CS.clo 92 [] [(20004,0)]]),(20004,62,[se 20000 10]++cc 5)],[(20000,135,As)]⟩
def Qj0:Sk:=⟨[TS.tup []],[(20000,44,[ci,ci,ci]),(20001,3,[ci]),(20002,27,cc 9++[sa Aa]++cc 9++[sa Aa]++cc 9++[sa Aa]),(20003,153,[CS.clo 92 [] [(20004,0)]]),(20004,62,[se 20000 10]++cc 5)],[(20000,135,As)]⟩
def Q0r:=qa 93 Qot Qj0
def Z2 (E G I:Fn):Cfg:=cp [Zot E,Yal G,Q5a I] [92]
def Qqy (E G I:Fn):Fn:=An PG (Z2 E G I) 64 93 Qot Qj0
theorem Z1v (O8 P2 Gh:Fn) (x0:Rw) (x1 x2 x3 x4 x5 x6 x7 x8 x9 J M G N O S T U V X Y a0:Int) (a1:Rw) (a2 a3 a4 a5 a6 a7 a8 a9 b0:Int) (b1:Rw) (b2 b3 b4 b5 b6 b7 b8 b9 c0:Int) (c1:Rw) (c2 c3 c4 c5 c6:Int):Qqy O8 P2 Gh [.vC As x0,I x1,I x2,I x3,I x4,I x5,I x6,I x7,I x8,I x9,I J,I M,I G,I N,I O,I S,I T,I U,I V,I X,I Y,I a0, .vC Aa a1,I a2,I a3,I a4,I a5,I a6,I a7,I a8,I a9,I b0, .vC Aa b1,I b2,I b3,I b4,I b5,I b6,I b7,I b8,I b9,I c0, .vC Aa c1,I c2,I c3,I c4,I c5,I c6]=
 (P2 [I x9,I J,I M,I x1,I x2,I x3,I x4,I x5,I x6,I G]).bind λE=>
 (O8 [I N,I O,I S,I T,I U,I V,I X,I Y,I a0, .vC Aa a1,I a2,I a3,I a4,I a5,I a6,I a7,I a8,I a9,I b0, .vC Aa b1,I b2,I b3,I b4,I b5,I b6,I b7,I b8,I b9,I c0, .vC Aa c1,I x9,I J,I M,jA E 0,jA E 1,jA E 2]).bind λo6=>
 cond (decide (gA o6 0>0)) ((Gh [.vC As x0,I 0,jA o6 0,I x7,I 0,I x9,I J,I M,jA E 0,jA E 1,jA E 2,I c2,I c3,I c4,I c5,I c6]).bind λo7=>
 (Gh [.vC As (wA o7 0),I 0,I x8,I x7,I G,jA E 0,jA E 1,jA E 2,jA E 0,jA E 1,jA E 2,jA o7 1,jA o7 2,jA o7 3,jA o7 4,jA o7 5]).bind λo8=>
 some [.vC As (wA o8 0),jA E 0,jA E 1,jA E 2,I G,I N,I O,I S,I T,I U,I V,I X,I Y,I a0, .vC Aa a1,I a2,I a3,I a4,I a5,I a6,I a7,I a8,I a9,I b0, .vC Aa b1,I b2,I b3,I b4,I b5,I b6,I b7,I b8,I b9,I c0, .vC Aa c1,jA o8 1,jA o8 2,jA o8 3,jA o8 4,jA o8 5]) ((Gh [.vC As x0,I 0,I x8,I x7,I G,jA E 0,jA E 1,jA E 2,jA E 0,jA E 1,jA E 2,I c2,I c3,I c4,I c5,I c6]).bind λo9=>
 some [.vC As (wA o9 0),jA E 0,jA E 1,jA E 2,I G,I N,I O,I S,I T,I U,I V,I X,I Y,I a0, .vC Aa a1,I a2,I a3,I a4,I a5,I a6,I a7,I a8,I a9,I b0, .vC Aa b1,I b2,I b3,I b4,I b5,I b6,I b7,I b8,I b9,I c0, .vC Aa c1,jA o9 1,jA o9 2,jA o9 3,jA o9 4,jA o9 5]):=by kernel_rfl
def Gk:=Qqy NP OU Ny
theorem Z1f:Ai PG (Z2 NP OU Ny):=Ap rfl ⟨Zsi,Z8c,Qti,trivial⟩
theorem Q7b:Am PG (Q0r Gk):=rw1 (C:=Z2 NP OU Ny) Z1f
def Qa7:Sk:=⟨[TS.v true [ci,ci,ci,sa Ag,sa kPt],tf [ci],tf [ci],tf [ci],tf [CS.clo 93 [] [(20000,0),(20001,0),(20002,0),(20003,0)]]],[(20000,44,[ci,ci,ci]),(20001,3,[ci]),(20002,27,cc 9++[sa Aa]++cc 9++[sa Aa]++cc 9++[sa Aa]),(20003,153,[CS.clo 92 [] [(20004,0)]]),(20004,62,[se 20000 10]++cc 5)],[(20000,135,As)]⟩
def Z0l:=qa 96 Qa7 Qj0
def W_ (E:Fn):Cfg:={cp [Q0r E] [93]with prom:=λb=>cond (Nat.beq b 4) ([(11,3)]) ([])}
def Q49:Sk:=⟨[td,tf [ci],tf [ci],tf [ci],tf [CS.clo 93 [] [(20000,0),(20001,0),(20002,0),(20003,0)]],tf [sd 5 0],td,td,td,td,tf [ci],tf [se 11 1]]++dd 9++[tf [sa Ag],tf [ci],tf [ci]]++dd 78,[(5,58,[ci,ci,ci,sa Ag,sa kPt]),(20000,44,[ci,ci,ci]),(20001,3,[ci]),(20002,27,cc 9++[sa Aa]++cc 9++[sa Aa]++cc 9++[sa Aa]),(20003,153,[CS.clo 92 [] [(20004,0)]]),(20004,62,[se 20000 10]++cc 5)],[(11,3,Aa),(20000,135,As)]⟩
def Qs4:List (Ex×Sk):=[(Ex.exit 0,⟨[td,tf [ci],tf [ci],tf [ci],tf [CS.clo 93 [] [(20000,0),(20001,0),(20002,0),(20003,0)]],tf [sd 5 0],td,td,td,td,td,tf [se 11 1]]++dd 90,[(5,58,[ci,ci,ci,sa Ag,sa kPt]),(20000,44,[ci,ci,ci]),(20001,3,[ci]),(20002,27,cc 9++[sa Aa]++cc 9++[sa Aa]++cc 9++[sa Aa]),(20003,153,[CS.clo 92 [] [(20004,0)]]),(20004,62,[se 20000 10]++cc 5)],[(11,3,Aa),(20000,135,As)]⟩)]
def Vj (E:Fn):Lp:=A5 PG (W_ E) 64 4 (A4 PG 96 4) Q49 Qs4
def Q7r (E:Fn) (G:Lp):Cfg:=(W_ E).loop 4 Q49 Qs4 G
def Q7w:Sk:=⟨[td,tf [ci],tf [ci],tf [ci],tf [CS.clo 93 [] [(20000,0),(20001,0),(20002,0),(20003,0)]],tf [sd 5 0],td,td,td,td,td,tf [se 11 1]]++dd 26++[tf [ci],tf [ci]]++dd 62,[(5,58,[ci,ci,ci,sa Ag,sa kPt]),(20000,44,[ci,ci,ci]),(20001,3,[ci]),(20002,27,cc 9++[sa Aa]++cc 9++[sa Aa]++cc 9++[sa Aa]),(20003,153,[CS.clo 92 [] [(20004,0)]]),(20004,62,[se 20000 10]++cc 5)],[(11,3,Aa),(20000,135,As)]⟩
def Q2w:List (Ex×Sk):=[(Ex.exit 2,⟨[td]++dd 101,[(20000,44,[ci,ci,ci]),(20001,3,[ci]),(20002,27,cc 9++[sa Aa]++cc 9++[sa Aa]++cc 9++[sa Aa]),(20003,153,[CS.clo 92 [] [(20004,0)]]),(20004,62,[se 20000 10]++cc 5)],[(20000,135,As)]⟩)]
def VF (E:Fn) (G:Lp):Lp:=A5 PG (Q7r E G) 64 10 (A4 PG 96 10) Q7w Q2w
def Q9i (G:Fn) (I E:Lp):Cfg:=(Q7r G I).loop 10 Q7w Q2w E
def Qe6 (G:Fn) (I E:Lp):Fn:=An PG (Q9i G I E) 64 96 Qa7 Qj0
theorem Q04 (B9:Fn) (v0 v1:Rw) (v2 v3 v4 v5:Int) (v6:Rw) (v7 v8 v9 v10 v11:Int) (v12 E:Rw) (G J M N O S v20 v21 v22 T v24 v25 U:Int) (v27:Rw) (v28 X v30 v31 Y v33 a0 v35 v36:Int) (v37:Rw) (v38 a1 v40 a2 v42 a3 v44 a4 v46:Int) (a5:Rw) (v48 v49 a6 v51 a7:Int):Vj B9 [.vC Aa v0, .vC As v1,I v2,I v3,I v4,I v5, .vC Ag v6,I v7,I v8,I v9,I v10,I v11, .vC Ag v12, .vC kPt E,I G,I J,I M,I N,I O,I S,I v20,I v21,I v22,I T,I v24,I v25,I U, .vC Aa v27,I v28,I X,I v30,I v31,I Y,I v33,I a0,I v35,I v36, .vC Aa v37,I v38,I a1,I v40,I a2,I v42,I a3,I v44,I a4,I v46, .vC Aa a5,I v48,I v49,I a6,I v51,I a7]=
 cond (decide (v8<v7)) (cond (decide (0<=v8)&&decide (v8<(v6.length:Int))) (cond (((v0++[[I v5]]).length*8).ble 140737488355328) (some (0,[.vC Aa (v0++[[I v5]]), .vC As v1,I v2,I v3,I v4,I (V (v5+gA (nth [] v6 v8.toNat) 3)), .vC Ag v6,I v7,I (V (v8+1)),I v9,I v10,I v11, .vC Ag v12, .vC kPt E,I G,I J,I M,I N,I O,I S,I v20,I v21,I v22,I T,I v24,I v25,I U, .vC Aa v27,I v28,I X,I v30,I v31,I Y,I v33,I a0,I v35,I v36, .vC Aa v37,I v38,I a1,I v40,I a2,I v42,I a3,I v44,I a4,I v46, .vC Aa a5,I v48,I v49,I a6,I v51,I a7])) (none)) (none)) (some (1,[.vC Aa v0, .vC As v1,I v2,I v3,I v4,I v9,I v10,I v11, .vC Ag v12, .vC kPt E,I G,I J,I M,I N,I O,I S,I v20,I v21,I v22,I T,I v24,I v25,I U, .vC Aa v27,I v28,I X,I v30,I v31,I Y,I v33,I a0,I v35,I v36, .vC Aa v37,I v38,I a1,I v40,I a2,I v42,I a3,I v44,I a4,I v46, .vC Aa a5,I v48,I v49,I a6,I v51,I a7])):=by kernel_rfl
abbrev R9 (M:Bool) (B9:Fn) (v1:Rw) (N O G J:AC) (v12 Y a0 a1 a2 a3 a4 a5 v20 v21 v22 a6 v24:Int) (v25:Rw) (a7 v27 v28 a8 v30 v31 a9 v33 b0:Int) (v35:Rw) (v36 v37 v38 b1 v40 b2 v42 b3 v44:Int) (b4:Rw) (v46 b5 v48 v49 b6:Int) (v0:Rw) (v2 v3 v4 v5 v6 v7 v8 v9:Int) (v10 v11:Rw) (S T U X:AC):Option (Nat×List AC):=
 cond (M) ((B9 [.vC As v1,S,T,U,N,O,G,X,J,I v12,I Y,I a0,I a1,I a2,I a3,I a4,I a5,I v20,I v21,I v22,I a6,I v24, .vC Aa v25,I a7,I v27,I v28,I a8,I v30,I v31,I a9,I v33,I b0, .vC Aa v35,I v36,I v37,I v38,I b1,I v40,I b2,I v42,I b3,I v44, .vC Aa b4,I v46,I b5,I v48,I v49,I b6]).bind λE=>
 some (0,[.vC Aa v0, .vC As (wA E 0),I v2,I v3,I v4,I v5,I (V (v6+1)),I v7,I v8,I v9, .vC Ag v10, .vC kPt v11,jA E 1,jA E 2,jA E 3,jA E 4,jA E 5,jA E 6,jA E 7,jA E 8,jA E 9,jA E 10,jA E 11,jA E 12,jA E 13, .vC Aa (wA E 14),jA E 15,jA E 16,jA E 17,jA E 18,jA E 19,jA E 20,jA E 21,jA E 22,jA E 23, .vC Aa (wA E 24),jA E 25,jA E 26,jA E 27,jA E 28,jA E 29,jA E 30,jA E 31,jA E 32,jA E 33, .vC Aa (wA E 34),jA E 35,jA E 36,jA E 37,jA E 38,jA E 39])) (none)
abbrev Qcg (v0 v1:Rw) (v2 v3 v4 v5 v6 v7 v8 v9:Int) (v10 v11:Rw) (v12 O S T U X Y a0 v20 v21 v22 a1 v24:Int) (v25:Rw) (a2 v27 v28 a3 v30 v31 a4 v33 a5:Int) (v35:Rw) (v36 v37 v38 a6 v40 a7 v42 a8 v44:Int) (a9:Rw) (v46 b0 v48 v49 b1:Int) (B9:Fn) (b4 J b8 b9 c0:Bool) (b5 b6 b7 M N E b2 G b3:AC):Option (Nat×List AC):=
 cond (b4) (cond (b4) (cond (J) (cond (b8) (some (0,[.vC Aa v0, .vC As v1,I v2,I v3,I v4,I v5,I (V (v6+1)),I v7,I v8,I v9, .vC Ag v10, .vC kPt v11,I v12,I O,I S,I T,I U,I X,I Y,I a0,I v20,I v21,I v22,I a1,I v24, .vC Aa v25,I a2,I v27,I v28,I a3,I v30,I v31,I a4,I v33,I a5, .vC Aa v35,I v36,I v37,I v38,I a6,I v40,I a7,I v42,I a8,I v44, .vC Aa a9,I v46,I b0,I v48,I v49,I b1])) (cond (b9) (cond (c0) (cond (decide (v4<0)) (R9 J B9 v1 M N E G v12 O S T U X Y a0 v20 v21 v22 a1 v24 v25 a2 v27 v28 a3 v30 v31 a4 v33 a5 v35 v36 v37 v38 a6 v40 a7 v42 a8 v44 a9 v46 b0 v48 v49 b1 v0 v2 v3 v4 v5 v6 v7 v8 v9 v10 v11 b5 b6 b7 b2) (R9 J B9 v1 M N E G v12 O S T U X Y a0 v20 v21 v22 a1 v24 v25 a2 v27 v28 a3 v30 v31 a4 v33 a5 v35 v36 v37 v38 a6 v40 a7 v42 a8 v44 a9 v46 b0 v48 v49 b1 v0 v2 v3 v4 v5 v6 v7 v8 v9 v10 v11 b5 b6 b7 b3)) (none)) (cond (decide (v4<0)) (R9 J B9 v1 M N E G v12 O S T U X Y a0 v20 v21 v22 a1 v24 v25 a2 v27 v28 a3 v30 v31 a4 v33 a5 v35 v36 v37 v38 a6 v40 a7 v42 a8 v44 a9 v46 b0 v48 v49 b1 v0 v2 v3 v4 v5 v6 v7 v8 v9 v10 v11 (I v7) (I v8) (I v9) b2) (R9 J B9 v1 M N E G v12 O S T U X Y a0 v20 v21 v22 a1 v24 v25 a2 v27 v28 a3 v30 v31 a4 v33 a5 v35 v36 v37 v38 a6 v40 a7 v42 a8 v44 a9 v46 b0 v48 v49 b1 v0 v2 v3 v4 v5 v6 v7 v8 v9 v10 v11 (I v7) (I v8) (I v9) b3)))) (none)) (none)) (none)
theorem Q9v (B9:Fn) (N4:Lp) (v0 v1:Rw) (G J v4 v5 E v7 v8 v9:Int) (v10 v11:Rw) (v12 M N O S T U X v20 v21 v22 Y v24:Int) (v25:Rw) (a0 v27 v28 a1 v30 v31 a2 v33 a3:Int) (v35:Rw) (v36 v37 v38 a4 v40 a5 v42 a6 v44:Int) (a7:Rw) (v46 a8 v48 v49 a9:Int):VF B9 N4 [.vC Aa v0, .vC As v1,I G,I J,I v4,I v5,I E,I v7,I v8,I v9, .vC Ag v10, .vC kPt v11,I v12,I M,I N,I O,I S,I T,I U,I X,I v20,I v21,I v22,I Y,I v24, .vC Aa v25,I a0,I v27,I v28,I a1,I v30,I v31,I a2,I v33,I a3, .vC Aa v35,I v36,I v37,I v38,I a4,I v40,I a5,I v42,I a6,I v44, .vC Aa a7,I v46,I a8,I v48,I v49,I a9]=
 cond (decide (E<v5)) (cond (decide (v4<0)) (Qcg v0 v1 G J v4 v5 E v7 v8 v9 v10 v11 v12 M N O S T U X v20 v21 v22 Y v24 v25 a0 v27 v28 a1 v30 v31 a2 v33 a3 v35 v36 v37 v38 a4 v40 a5 v42 a6 v44 a7 v46 a8 v48 v49 a9 B9 (decide (0<=V (V ((v10.length:Int)-1)-E))&&decide (V (V ((v10.length:Int)-1)-E)<(v0.length:Int))) (decide (0<=V (V ((v10.length:Int)-1)-E))&&decide (V (V ((v10.length:Int)-1)-E)<(v10.length:Int))) (decide (mx (Ah (nth .dead (nth [] v0 (V (V ((v10.length:Int)-1)-E)).toNat) 0)) G>=mn (V (Ah (nth .dead (nth [] v0 (V (V ((v10.length:Int)-1)-E)).toNat) 0)+Ah (nth .dead (nth [] v10 (V (V ((v10.length:Int)-1)-E)).toNat) 3))) J)) (decide (V (V ((v10.length:Int)-1)-E)>0)) (decide (0<=V (V (V ((v10.length:Int)-1)-E)-1))&&decide (V (V (V ((v10.length:Int)-1)-E)-1)<(v10.length:Int))) (I (Ah (nth .dead (nth [] v10 (V (V (V ((v10.length:Int)-1)-E)-1)).toNat) 0))) (I (Ah (nth .dead (nth [] v10 (V (V (V ((v10.length:Int)-1)-E)-1)).toNat) 1))) (I (Ah (nth .dead (nth [] v10 (V (V (V ((v10.length:Int)-1)-E)-1)).toNat) 2))) (I (Ah (nth .dead (nth [] v10 (V (V ((v10.length:Int)-1)-E)).toNat) 0))) (I (Ah (nth .dead (nth [] v10 (V (V ((v10.length:Int)-1)-E)).toNat) 1))) (I (Ah (nth .dead (nth [] v10 (V (V ((v10.length:Int)-1)-E)).toNat) 2))) (I (mn (V (Ah (nth .dead (nth [] v0 (V (V ((v10.length:Int)-1)-E)).toNat) 0)+Ah (nth .dead (nth [] v10 (V (V ((v10.length:Int)-1)-E)).toNat) 3))) J)) (I (V (mn (V (Ah (nth .dead (nth [] v0 (V (V ((v10.length:Int)-1)-E)).toNat) 0)+Ah (nth .dead (nth [] v10 (V (V ((v10.length:Int)-1)-E)).toNat) 3))) J-mx (Ah (nth .dead (nth [] v0 (V (V ((v10.length:Int)-1)-E)).toNat) 0)) G))) (I (mx (Ah (nth .dead (nth [] v0 (V (V ((v10.length:Int)-1)-E)).toNat) 0)) G))) (Qcg v0 v1 G J v4 v5 E v7 v8 v9 v10 v11 v12 M N O S T U X v20 v21 v22 Y v24 v25 a0 v27 v28 a1 v30 v31 a2 v33 a3 v35 v36 v37 v38 a4 v40 a5 v42 a6 v44 a7 v46 a8 v48 v49 a9 B9 (decide (0<=E)&&decide (E<(v0.length:Int))) (decide (0<=E)&&decide (E<(v10.length:Int))) (decide (mx (gA (nth [] v0 E.toNat) 0) G>=mn (V (gA (nth [] v0 E.toNat) 0+gA (nth [] v10 E.toNat) 3)) J)) (decide (E>0)) (decide (0<=V (E-1))&&decide (V (E-1)<(v10.length:Int))) (jA (nth [] v10 (V (E-1)).toNat) 0) (jA (nth [] v10 (V (E-1)).toNat) 1) (jA (nth [] v10 (V (E-1)).toNat) 2) (jA (nth [] v10 E.toNat) 0) (jA (nth [] v10 E.toNat) 1) (jA (nth [] v10 E.toNat) 2) (I (mn (V (gA (nth [] v0 E.toNat) 0+gA (nth [] v10 E.toNat) 3)) J)) (I (V (mn (V (gA (nth [] v0 E.toNat) 0+gA (nth [] v10 E.toNat) 3)) J-mx (gA (nth [] v0 E.toNat) 0) G))) (I (mx (gA (nth [] v0 E.toNat) 0) G)))) (some (1,[.vC As v1,I v12,I M,I N,I O,I S,I T,I U,I X,I v20,I v21,I v22,I Y,I v24, .vC Aa v25,I a0,I v27,I v28,I a1,I v30,I v31,I a2,I v33,I a3, .vC Aa v35,I v36,I v37,I v38,I a4,I v40,I a5,I v42,I a6,I v44, .vC Aa a7,I v46,I a8,I v48,I v49,I a9])):=by kernel_rfl
theorem Zrx (B9:Fn) (N4 J:Lp) (x0:Rw) (x1 x2 x3:Int) (x4 x5:Rw) (x6 x7 x8 x9 M N O S T U V X Y a0 a1 a2:Int) (a3:Rw) (a4 a5 a6 a7 a8 a9 b0 b1 b2:Int) (b3:Rw) (b4 b5 b6 b7 b8 b9 c0 c1 c2:Int) (c3:Rw) (c4 c5 c6 c7 c8:Int):Qe6 B9 N4 J [.vC As x0,I x1,I x2,I x3, .vC Ag x4, .vC kPt x5,I x6,I x7,I x8,I x9,I M,I N,I O,I S,I T,I U,I V,I X,I Y,I a0,I a1,I a2, .vC Aa a3,I a4,I a5,I a6,I a7,I a8,I a9,I b0,I b1,I b2, .vC Aa b3,I b4,I b5,I b6,I b7,I b8,I b9,I c0,I c1,I c2, .vC Aa c3,I c4,I c5,I c6,I c7,I c8]=
 (N4 [.vC Aa [], .vC As x0,I x6,I x7,I x8,I 0, .vC Ag x4,I (x4.length:Int),I 0,I x1,I x2,I x3, .vC Ag x4, .vC kPt x5,I x9,I M,I N,I O,I S,I T,I U,I V,I X,I Y,I a0,I a1,I a2, .vC Aa a3,I a4,I a5,I a6,I a7,I a8,I a9,I b0,I b1,I b2, .vC Aa b3,I b4,I b5,I b6,I b7,I b8,I b9,I c0,I c1,I c2, .vC Aa c3,I c4,I c5,I c6,I c7,I c8]).bind λE=>
 cond (E.1.beq 1) ((J [.vC Aa (wA E.2 0), .vC As (wA E.2 1),jA E.2 2,jA E.2 3,jA E.2 4,I (↑(wA E.2 8).length:Int),I 0,jA E.2 5,jA E.2 6,jA E.2 7, .vC Ag (wA E.2 8), .vC kPt (wA E.2 9),jA E.2 10,jA E.2 11,jA E.2 12,jA E.2 13,jA E.2 14,jA E.2 15,jA E.2 16,jA E.2 17,jA E.2 18,jA E.2 19,jA E.2 20,jA E.2 21,jA E.2 22, .vC Aa (wA E.2 23),jA E.2 24,jA E.2 25,jA E.2 26,jA E.2 27,jA E.2 28,jA E.2 29,jA E.2 30,jA E.2 31,jA E.2 32, .vC Aa (wA E.2 33),jA E.2 34,jA E.2 35,jA E.2 36,jA E.2 37,jA E.2 38,jA E.2 39,jA E.2 40,jA E.2 41,jA E.2 42, .vC Aa (wA E.2 43),jA E.2 44,jA E.2 45,jA E.2 46,jA E.2 47,jA E.2 48]).bind λG=>
 cond (G.1.beq 1) (some [.vC As (wA G.2 0),jA G.2 1,jA G.2 2,jA G.2 3,jA G.2 4,jA G.2 5,jA G.2 6,jA G.2 7,jA G.2 8,jA G.2 9,jA G.2 10,jA G.2 11,jA G.2 12,jA G.2 13, .vC Aa (wA G.2 14),jA G.2 15,jA G.2 16,jA G.2 17,jA G.2 18,jA G.2 19,jA G.2 20,jA G.2 21,jA G.2 22,jA G.2 23, .vC Aa (wA G.2 24),jA G.2 25,jA G.2 26,jA G.2 27,jA G.2 28,jA G.2 29,jA G.2 30,jA G.2 31,jA G.2 32,jA G.2 33, .vC Aa (wA G.2 34),jA G.2 35,jA G.2 36,jA G.2 37,jA G.2 38,jA G.2 39]) (none)) (none):=by kernel_rfl
def Pa:=Ak (Vj Gk)
def Qho:=Ak (VF Gk Pa)
def Qm:=Qe6 Gk Pa Qho
theorem Qo0:Ai PG (W_ Gk):=Ap rfl ⟨Q7b,trivial⟩
theorem Zsx:Am PG (Z0l Qm):=rw2 (C:=Q9i Gk Pa Qho) (fl (fl fb Qo0) Qo0) Qo0
def Zr:Sk:=⟨[TS.v true [ci,ci,ci,sa Ag,sa kPt]],[],[]⟩
def Q96:=qa 91 Zr Qae
def Qzv:Sk:=⟨[td,td,td,tf [ci],td,td,td,tf [sa Ag],tf [ci],tf [ci]]++dd 9,[],[]⟩
def Q3h:List (Ex×Sk):=[(Ex.exit 0,⟨[td,td,td,tf [ci]]++dd 15,[],[]⟩)]
def SF:Lp:=A5 PG Qcv 64 3 (A4 PG 91 3) Qzv Q3h
def Zco (E:Lp):Cfg:=Qcv.loop 3 Qzv Q3h E
def Q2i (E:Lp):Fn:=An PG (Zco E) 64 91 Zr Qae
theorem Q3x (v0:Int) (G:Rw) (J E:Int):SF [I v0, .vC Ag G,I J,I E]=
 cond (decide (E<J)) (cond (decide (0<=E)&&decide (E<(G.length:Int))) (some (0,[I (V (v0+gA (nth [] G E.toNat) 3)), .vC Ag G,I J,I (V (E+1))])) (none)) (some (1,[I v0])):=by kernel_rfl
theorem Zo9 (G:Lp) (J M N:Int) (E O:Rw):Q2i G [I J,I M,I N, .vC Ag E, .vC kPt O]=
 (G [I 0, .vC Ag E,I (E.length:Int),I 0]).bind λo1=>
 cond (o1.1.beq 1) (some [jA o1.2 0]) (none):=by kernel_rfl
def SV:=Ak (SF)
def J4:=Q2i SV
theorem Q7v:Am PG (Q96 J4):=rw2 (C:=Zco SV) (fl fb Zft) Zft
def Qrt:Sk:=⟨[TS.v true [ci,ci,ci,sa Ag,sa kPt],TS.v true (cc 9++[sa Aa]++cc 9++[sa Aa]++cc 9++[sa Aa]),TS.v true [ci,ci,ci],tf [ci],tf [ci]],[],[]⟩
def Yp:Sk:=⟨[TS.v true ([sa As]++cc 5)],[],[]⟩
def Qv6:=qa 58 Qrt Yp
def Qi3 (E G I J M:Fn):Cfg:=cp [Z0l E,Q0r G,Q5a I,VH J,Q96 M] [96,93,92]
def Qh3 (E G I J M:Fn):Fn:=An PG (Qi3 E G I J M) 64 58 Qrt Yp
theorem Zi0 (LZ B9 Gh CN GR:Fn) (x0 x1 x2:Int) (x3 x4:Rw) (x5 x6 x7 x8 x9 M N O S:Int) (T:Rw) (U V X Y a0 a1 a2 a3 a4:Int) (a5:Rw) (a6 a7 a8 a9 b0 b1 b2 b3 b4:Int) (b5:Rw) (E G J b6 b7:Int):Qh3 LZ B9 Gh CN GR [I x0,I x1,I x2, .vC Ag x3, .vC kPt x4,I x5,I x6,I x7,I x8,I x9,I M,I N,I O,I S, .vC Aa T,I U,I V,I X,I Y,I a0,I a1,I a2,I a3,I a4, .vC Aa a5,I a6,I a7,I a8,I a9,I b0,I b1,I b2,I b3,I b4, .vC Aa b5,I E,I G,I J,I b6,I b7]=
 (GR [I x0,I x1,I x2, .vC Ag x3, .vC kPt x4]).bind λo5=>
 (CN [I b6,jA o5 0]).bind λo6=>
 (CN [I b7,jA o5 0]).bind λo7=>
 cond (decide (gA o6 0>gA o7 0)) ((LZ [.vC As [],I x0,I x1,I x2, .vC Ag x3, .vC kPt x4,I (mn (gA o6 0) (gA o7 0)),I (mx (gA o6 0) (gA o7 0)),I (-1),I E,I G,I J,I (-1),I x5,I x6,I x7,I x8,I x9,I M,I N,I O,I S, .vC Aa T,I U,I V,I X,I Y,I a0,I a1,I a2,I a3,I a4, .vC Aa a5,I a6,I a7,I a8,I a9,I b0,I b1,I b2,I b3,I b4, .vC Aa b5,I 0,jA o6 0,I E,I G,I J]).bind λo8=>
 some [.vC As (wA o8 0),jA o8 35,jA o8 36,jA o8 37,jA o8 38,jA o8 39]) ((LZ [.vC As [],I x0,I x1,I x2, .vC Ag x3, .vC kPt x4,I (mn (gA o6 0) (gA o7 0)),I (mx (gA o6 0) (gA o7 0)),I 1,I E,I G,I J,I 1,I x5,I x6,I x7,I x8,I x9,I M,I N,I O,I S, .vC Aa T,I U,I V,I X,I Y,I a0,I a1,I a2,I a3,I a4, .vC Aa a5,I a6,I a7,I a8,I a9,I b0,I b1,I b2,I b3,I b4, .vC Aa b5,I 0,jA o6 0,I E,I G,I J]).bind λo9=>
 some [.vC As (wA o9 0),jA o9 35,jA o9 36,jA o9 37,jA o9 38,jA o9 39]):=by kernel_rfl
def Kj:=Qh3 Qm Gk Ny FZ J4
theorem Zky:Ai PG (Qi3 Qm Gk Ny FZ J4):=Ap rfl ⟨Zsx,Q7b,Qti,TA,Q7v,trivial⟩
theorem Qtl:Am PG (Qv6 Kj):=rw1 (C:=Qi3 Qm Gk Ny FZ J4) Zky
def Z97:=qa 156 YL Qbn
def Zam:Sk:=⟨[td,tf [ci],tf [sd 2 0],td,tf [sd 4 0]]++dd 8++[tf [sa As],tf [ci],tf [ci]]++dd 29,[(2,62,[sa As]++cc 5),(4,44,[ci,ci,ci])],[]⟩
def Qty:List (Ex×Sk):=[(Ex.ret,⟨[td,td,td,td,tf [sd 4 0]]++dd 40,[(4,44,[ci,ci,ci])],[]⟩),(Ex.exit 0,⟨[td,td,tf [sd 2 0],td,tf [sd 4 0]]++dd 40,[(2,62,[sa As]++cc 5),(4,44,[ci,ci,ci])],[]⟩)]
def SY:Lp:=A5 PG Qcv 64 3 (A4 PG 156 3) Zam Qty
def Zdb (E:Lp):Cfg:=Qcv.loop 3 Zam Qty E
def Qmp (E:Lp):Fn:=An PG (Zdb E) 64 156 YL Qbn
theorem Z28 (v0:Int) (G:Rw) (J E:Int) (M:Rw) (N O S T U v10 v11 v12:Int):SY [I v0, .vC As G,I J,I E, .vC As M,I N,I O,I S,I T,I U,I v10,I v11,I v12]=
 cond (decide (E<J)) (cond (decide (0<=E)&&decide (E<(G.length:Int))) (cond (decide (v0>V (gA (nth [] G E.toNat) 0+gA (nth [] G E.toNat) 1))) (some (0,[I v0, .vC As G,I J,I (V (E+1)), .vC As M,I N,I O,I S,I T,I U,I v10,I v11,I v12])) (cond (gA (nth [] G E.toNat) 3 !=0) (some (1,[jA (nth [] G E.toNat) 7,jA (nth [] G E.toNat) 8,jA (nth [] G E.toNat) 9])) (cond (v0==V (gA (nth [] G E.toNat) 0+gA (nth [] G E.toNat) 1)) (some (1,[jA (nth [] G E.toNat) 7,jA (nth [] G E.toNat) 8,jA (nth [] G E.toNat) 9])) (some (1,[jA (nth [] G E.toNat) 4,jA (nth [] G E.toNat) 5,jA (nth [] G E.toNat) 6]))))) (none)) (some (2,[.vC As M,I N,I O,I S,I T,I U,I v10,I v11,I v12])):=by kernel_rfl
theorem Z4n (J:Lp) (E:Rw) (G M N O S T:Int):Qmp J [.vC As E,I G,I M,I N,I O,I S,I T]=
 (J [I (mx 0 (mn T G)), .vC As E,I (E.length:Int),I 0, .vC As E,I G,I M,I N,I O,I S,I 0,I 0,I 0]).bind λo1=>
 cond (o1.1.beq 1) (some [jA o1.2 0,jA o1.2 1,jA o1.2 2]) (cond (o1.1.beq 2) (some [jA o1.2 3,jA o1.2 4,jA o1.2 5]) (none)):=by kernel_rfl
def Zbv:=Ak (SY)
def Uc:=Qmp Zbv
theorem Zvo:Am PG (Z97 Uc):=rw2 (C:=Zdb Zbv) (fl fb Zft) Zft
def Zma:=qa 155 YL Qqn
def Qpc (E G:Fn):Cfg:=cf [Qqh E,VH G]
def Qfz (E G:Fn):Fn:=An PG (Qpc E G) 64 155 YL Qqn
theorem Zqi (J M:Fn) (E:Rw) (G N O S T U:Int):Qfz J M [.vC As E,I G,I N,I O,I S,I T,I U]=
 (M [I U,I G]).bind λo2=>
 (J [.vC As E,I G,I N,I O,I S,I T,jA o2 0]).bind λo3=>
 cond (decide (gA o3 0<0)) (some [B false]) (cond (decide (0<=gA o3 0)&&decide (gA o3 0<(E.length:Int))) (cond (gA (nth [] E (gA o3 0).toNat) 3==0) (cond (decide (gA (nth [] E (gA o3 0).toNat) 0<gA o2 0)) (some [B (decide (gA o2 0<V (gA (nth [] E (gA o3 0).toNat) 0+gA (nth [] E (gA o3 0).toNat) 1)))]) (some [B false])) (some [B false])) (none)):=by kernel_rfl
def QS:=Qfz Hh FZ
theorem Zjb:Ai PG (Qpc Hh FZ):=Ap rfl ⟨Qj8,TA,trivial⟩
theorem Zrp:Am PG (Zma QS):=rw1 (C:=Qpc Hh FZ) Zjb
def Q3p:=qa 64 Qk5 Qqn
def Qdc:Fn:=An PG Qcv 64 64 Qk5 Qqn
theorem Z0o (E G J M N O:Int):Qdc [I E,I G,I J,I M,I N,I O]=
 cond (G==0) (cond (J==0) (cond (M==E) (some [B (N==E)]) (some [B false])) (some [B false])) (some [B false]):=by kernel_rfl
def HY:=Qdc
theorem Qzl:Am PG (Q3p HY):=rw1 (C:=Qcv) Zft
def ZW:Sk:=⟨[TS.v true [ci,ci,ci,sa Ag,sa kPt],TS.v true (cc 9++[sa Aa]++cc 9++[sa Aa]++cc 9++[sa Aa]),TS.v true ([sa As]++cc 5),TS.v true (cc 6),tf [ci]],[],[]⟩
def Qd0:Sk:=⟨[TS.tup [(true,[sa As]++cc 5),(true,cc 6),(false,[sb])]],[],[]⟩
def Qyy:=qa 105 ZW Qd0
def Qdt (E G I J M N:Fn):Cfg:={cf [Qkb E,Qv6 G,Ry I,Z97 J,Zma M,Q3p N]with ownBut:=[10]}
def Qbp (E G I J M N:Fn):Fn:=An PG (Qdt E G I J M N) 64 105 ZW Qd0
theorem Yak (Y GD BT Ou OY Ce:Fn) (J M N O S T U:Int) (p:Pth) (x:Ax3) (t:Trk):Qbp Y GD BT Ou OY Ce (pxt p x t [I J,I M,I N,I O,I S,I T,I U])=
 (Ce [I J,I M,I N,I O,I S,I T]).bind λo6=>
 cond (!bA o6 0) (some [.vC As [],I 0,I 0,I 0,I 0,I 0,I 0,I 0,I 0,I 0,I 0,I 0,B false]) ((OY (Ba t++[I (V (J.tdiv 256))])).bind λo7=>
 cond (bA o7 0) (some [.vC As [],I 0,I 0,I 0,I 0,I 0,I 0,I 0,I 0,I 0,I 0,I 0,B false]) ((Ou (Ba t++[I (V (J.tdiv 256))])).bind λX=>
 (BT (Ba t++[I (V (J.tdiv 256))])).bind λo9=>
 (GD (BC p++(AI x++[jA X 0,jA X 1,jA X 2,jA o9 0,I U]))).bind λE=>
 (Y [I 0]).bind λG=>
 some [.vC As (wA E 0),jA E 1,jA E 2,jA E 3,jA E 4,jA E 5,jA G 0,jA G 1,jA G 2,jA G 3,jA G 4,jA G 5,B true])):=by kernel_rfl
def KK:=Qbp HA Kj Ew Uc QS HY
theorem Zph:Ai PG (Qdt HA Kj Ew Uc QS HY):=Ap rfl ⟨W8,Qtl,RK,Zvo,Zrp,Qzl,trivial⟩
theorem Q1x:Am PG (Qyy KK):=rw1 (C:=Qdt HA Kj Ew Uc QS HY) Zph
def YF:Sk:=⟨[TS.tup [(false,[ci]),(false,[sb])]],[(20000,119,cS)],[]⟩
def Zql:=qa 69 Qo8 YF
def Xi (E G:Fn):Cfg:=cf [Qyy E,Qed G]
def Ta (E G:Fn):Fn:=An PG (Xi E G) 64 69 Qo8 YF
abbrev QB (M:Fn) (K:Kf) (c:Cv) (G J:AC):Option (List AC):=
 (M (pxt K.p K.x K.t [I c.m0,I c.m1,I c.m2,I c.m3,I c.m4,I c.m5,J])).bind λE=>
 cond (!bA E 12) (some (G::B true::Ab K c)) (cond (c.way==1) (some (G::B true::DY (Ab K c) [(44, .vC As (wA E 0)),(45,jA E 1),(46,jA E 2),(47,jA E 3),(48,jA E 4),(49,jA E 5),(50,jA E 6),(51,jA E 7),(52,jA E 8),(53,jA E 9),(54,jA E 10),(55,jA E 11),(71,I 2),(89,B true)])) (some (G::B true::DY (Ab K c) [(44, .vC As (wA E 0)),(45,jA E 1),(46,jA E 2),(47,jA E 3),(48,jA E 4),(49,jA E 5),(50,jA E 6),(51,jA E 7),(52,jA E 8),(53,jA E 9),(54,jA E 10),(55,jA E 11),(58,B true),(71,I 0),(89,B true)])))
abbrev UC (c:Cv) (M:Fn) (K:Kf) (N:Fn) (E:AC):Option (List AC):=
 cond (!c.aM) ((M (pxt K.p K.x K.t [I K.pa,I K.pb,I K.pc,I c.o0,I c.o1,B c.o2,B c.o3,B c.o4,I c.m0,I c.m1,I c.m2,I c.m3,I c.m4,I c.m5,I K.t.length])).bind λG=>
 some (E::B true::Ab K {c with m0:=gA G 0,m1:=gA G 1,m2:=gA G 2,m3:=gA G 3,m4:=gA G 4,m5:=gA G 5})) (cond (c.m0 !=V (K.t.length*256)) ((M (pxt K.p K.x K.t [I K.pa,I K.pb,I K.pc,I c.o0,I c.o1,B c.o2,B c.o3,B c.o4,I c.m0,I c.m1,I c.m2,I c.m3,I c.m4,I c.m5,I K.t.length])).bind λJ=>
 some (E::B true::Ab K {c with m0:=gA J 0,m1:=gA J 1,m2:=gA J 2,m3:=gA J 3,m4:=gA J 4,m5:=gA J 5})) (cond (c.way==2) (QB N K c E (I K.len)) (QB N K c E (I c.home))))
theorem Qzt (E G:Fn) (K:Kf) (c:Cv):Ta E G (Ab K c)=
 cond (c.way==0) (some (I 0::B false::Ab K c)) (cond (c.way==2) (UC c G K E (I 5)) (UC c G K E (I 4))):=by kernel_rfl
def Jp:=Ta KK ES
theorem Zgj:Ai PG (Xi KK ES):=Ap rfl ⟨Q1x,Qr6,trivial⟩
theorem Z1p:Am PG (Zql Jp):=rw1 (C:=Xi KK ES) Zgj
def Zw4:=qa 68 Qo8 YF
def Qjg (E:Fn):Cfg:=cp [Qu3 E] [103]
def VI (E:Fn):Fn:=An PG (Qjg E) 64 68 Qo8 YF
theorem Q1k (E:Fn) (K:Kf) (c:Cv):VI E (Ab K c)=
 cond (!c.on) (some (I 0::B false::Ab K c)) ((E (Ab K c)).bind λo1=>
 some (jA o1 0::B true::cR 1 o1)):=by kernel_rfl
def KU:=VI KS
theorem Z26:Ai PG (Qjg KS):=Ap rfl ⟨Zcn,trivial⟩
theorem Z2w:Am PG (Zw4 KU):=rw1 (C:=Qjg KS) Z26
def Zxg:=qa 67 Qo8 YF
def Qkd:Fn:=An PG Qcv 64 67 Qo8 YF
theorem Zmo (K:Kf) (c:Cv):Qkd (Ab K c)=
 cond (!c.aH) (some (I 0::B false::Ab K c)) (cond (!c.aM) (some (I 0::B false::Ab K c)) (some (I 8::B true::Ab K {c with aI:=8}))):=by kernel_rfl
def Me:=Qkd
theorem Zg5:Am PG (Zxg Me):=rw1 (C:=Qcv) Zft
def Zqm:=qa 66 Qo8 YF
def Wo:Fn:=An PG Qcv 64 66 Qo8 YF
theorem Zfy (K:Kf) (c:Cv):Wo (Ab K c)=
 some (I c.aI::B (c.aI !=0)::Ab K c):=by kernel_rfl
def LV:=Wo
theorem Zs1:Am PG (Zqm LV):=rw1 (C:=Qcv) Zft
def Zqx:=qa 65 Qo8 YF
def Qld (E G:Fn):Cfg:=cr [Qkb E,QD G] [63] [63]
def Qk1 (E G:Fn):Fn:=An PG (Qld E G) 64 65 Qo8 YF
theorem Zr8 (E G:Fn) (K:Kf) (c:Cv):Qk1 E G (Ab K c)=
 cond (c.g0 !=2) (some (I 0::B false::Ab K c)) ((G (Ab K c)).bind λo2=>
 (E [jA o2 0]).bind λo3=>
 some (I 6::B true::Ab K {c with m0:=gA o3 0,m1:=gA o3 1,m2:=gA o3 2,m3:=gA o3 3,m4:=gA o3 4,m5:=gA o3 5})):=by kernel_rfl
def LT:=Qk1 HA Dm
theorem Zxl:Ai PG (Qld HA Dm):=Hf (rs:=[63]) rfl ⟨W8,QH,trivial⟩ rfl (CK rfl (Fj Hx))
theorem Zos:Am PG (Zqx LT):=rw1 (C:=Qld HA Dm) Zxl
def Qqe:Sk:=⟨[TS.v true [ci,ci,ci,ci],tf [ci]],[],[]⟩
def Z9j:=qa 62 Qqe X1
def YM:Fn:=An PG Qcv 64 62 Qqe X1
theorem Ztj (J G E N M:Int):YM [I J,I G,I E,I N,I M]=
 cond (decide (G<E)) (some [I J,I (mn (V (G+M)) E),I E,I (V (N+V (J*mn (V (G+M)) E)))]) (some [I J,I (mx (V (G-M)) E),I E,I (V (N+V (J*mx (V (G-M)) E)))]):=by kernel_rfl
def Kw:=YM
theorem Zgb:Am PG (Z9j Kw):=rw1 (C:=Qcv) Zft
def Zwp (M:Fn):Nat×Spec:=(61,E0 Qo8 Qqn M)
def Qf (E:Fn):Cfg:=cr [UI E] [102] [102]
def V4 (E:Fn):Fn:=L6 PG (Qf E) 64 61 Qo8 Qqn
theorem Zep (E:Fn) (K:Kf) (c:Cv):V4 E (Ab K c)=
 (E (Ab K c)).bind λo1=>
 cond (bA o1 7) (cond (decide (0<=gA o1 4)&&decide (gA o1 4<((K.aA.map Af).length:Int))) (cond (gA (nth [] (K.aA.map Af) (gA o1 4).toNat) 0==6) (some [B (c.y0==gA o1 4)]) (some [B false])) (none)) (some [B false]):=by kernel_rfl
def Ln:=V4 Fg
theorem Zrb:Ai PG (Qf Fg):=Hf (rs:=[102]) rfl ⟨UX,trivial⟩ rfl (Fj Hx)
theorem Zm8 (vars : List AC) (R : Type) (K : TV -> Mem -> Option R) : Fh PG (Qf Fg) 64 61 [TV.v false [AC.ptr 20000 0]] ⟨[(20000, (⟨119, (cR 0 vars)⟩ : Box))], []⟩ K = Fh PG (Qf Fg) 64 61 [TV.v false [AC.ptr 20000 0]] ⟨[(20000, (⟨119, (cR 0 vars)⟩ : Box))], []⟩ (λv _ => K v ⟨[(20000, (⟨119, (cR 0 vars)⟩ : Box))], []⟩) := cx (b := ((Fg (cR 0 vars)).bind λo1 =>
 cond (bA o1 7) (cond (decide (0<=gA o1 4)&&decide (gA o1 4<(↑(wA vars 35).length:Int))) (cond (Ah (nth .dead (nth [] (wA vars 35) (gA o1 4).toNat) 0)==6) (K (TV.v false [B ((gA vars 79)==gA o1 4)]) ⟨[(20000,(⟨119,(cR 0 vars)⟩:Box))],[]⟩) (K (TV.v false [B false]) ⟨[(20000,(⟨119,(cR 0 vars)⟩:Box))],[]⟩)) (none)) (K (TV.v false [B false]) ⟨[(20000,(⟨119,(cR 0 vars)⟩:Box))],[]⟩))) (by kernel_rfl) (Eq.symm (by kernel_rfl))
theorem Zh6:Am PG (61,E0 Qo8 Qqn Ln):=QC (C:=Qf Fg) (L:=64) (by kernel_rfl) (FnOK.bare rfl rfl rfl) Zrb eqOk FI (by kernel_rfl) (by kernel_rfl) (λvars R K=>Zm8 vars R K)
def Zv9 (M:Fn):Nat×Spec:=(147,E0 Qeo Qae M)
def Q8i:Sk:=⟨[td,tf [ci],td,td,td,tf [ci],tf [ci]]++dd 6++[tf [sa Ag],tf [ci],tf [ci]]++dd 18,[(20000,119,cS)],[]⟩
def Qs2:List (Ex×Sk):=[(Ex.exit 0,⟨dd 6++[tf [ci]]++dd 27,[(20000,119,cS)],[]⟩)]
def I_:Lp:=A5 PG Qcv 64 3 (A4 PG 147 3) Q8i Qs2
def Vc (E:Lp):Cfg:=Qcv.loop 3 Q8i Qs2 E
def Tt (E:Lp):Fn:=L6 PG (Vc E) 64 147 Qeo Qae
theorem Qwd (v0 J N:Int) (G:Rw) (M E:Int) (K:Kf) (c:Cv):I_ (I v0::I J::I N:: .vC Ag G::I M::I E::Ab K c)=
 cond (decide (E<M)) (cond (decide (0<=E)&&decide (E<(G.length:Int))) (cond (decide (V (J+gA (nth [] G E.toNat) 3)<=v0)) (cond (gA (nth [] G E.toNat) 6 !=0) (some (0,(I v0::I (V (J+gA (nth [] G E.toNat) 3))::I (V (J+gA (nth [] G E.toNat) 3)):: .vC Ag G::I M::I (V (E+1))::Ab K c))) (some (0,(I v0::I (V (J+gA (nth [] G E.toNat) 3))::I N:: .vC Ag G::I M::I (V (E+1))::Ab K c)))) (some (0,(I v0::I (V (J+gA (nth [] G E.toNat) 3))::I N:: .vC Ag G::I M::I (V (E+1))::Ab K c)))) (none)) (some (1,(I N::Ab K c))):=by kernel_rfl
theorem Q0p (E:Lp) (G:Int) (K:Kf) (c:Cv):Tt E (I G::Ab K c)=
 (E (I G::I 0::I 0:: .vC Ag (K.p.aF.map Av)::I ((K.p.aF.map Av).length:Int)::I 0::Ab K c)).bind λo1=>
 cond (o1.1.beq 1) (some [jA o1.2 0]) (none):=by kernel_rfl
def L_:=Ak (I_)
def K9:=Tt L_
theorem Yaz (v0 J N:Int) (G:Rw) (M E:Int) (o:List AC):I_ (I v0::I J::I N:: .vC Ag G::I M::I E::cR 0 o)=
 cond (decide (E<M)) (cond (decide (0<=E)&&decide (E<(G.length:Int))) (cond (decide (V (J+gA (nth [] G E.toNat) 3)<=v0)) (cond (gA (nth [] G E.toNat) 6 !=0) (some (0,(I v0::I (V (J+gA (nth [] G E.toNat) 3))::I (V (J+gA (nth [] G E.toNat) 3)):: .vC Ag G::I M::I (V (E+1))::cR 0 o))) (some (0,(I v0::I (V (J+gA (nth [] G E.toNat) 3))::I N:: .vC Ag G::I M::I (V (E+1))::cR 0 o)))) (some (0,(I v0::I (V (J+gA (nth [] G E.toNat) 3))::I N:: .vC Ag G::I M::I (V (E+1))::cR 0 o)))) (none)) (some (1,(I N::cR 0 o))):=by kernel_rfl
theorem Uy (o:List AC) (E:Rw) (v0 J:Int):∀(n:Nat) (M N G:Int) (a:Nat×List AC),C8 I_ n (I v0::I M::I N:: .vC Ag E::I J::I G::cR 0 o)=some a->∃r:Int,a=(1,I r::cR 0 o)
  |0,_,_,_,_,h=>by cases h
  |n+1,M,N,G,a,h=>by
    have h:((I_ (I v0::I M::I N:: .vC Ag E::I J::I G::cR 0 o)).bind λq=>if q.1=0 then C8 I_ n q.2 else some q)=some a:=h;rw[Yaz]at h;cases O:decide (G<J)<;>rw[O]at h
    · injection h with h
      exact⟨N,h.symm⟩
    cases S:(decide (0<=G)&&decide (G<(E.length:Int)))<;>rw[S]at h
    · cases h
    cases T:decide (V (M+gA (nth [] E G.toNat) 3)<=v0)<;>rw[T]at h
    · exact Uy o E v0 J n _ _ _ a h
    cases U:(gA (nth [] E G.toNat) 6 !=0)<;>rw[U]at h
    · exact Uy o E v0 J n _ _ _ a h
    · exact Uy o E v0 J n _ _ _ a h
theorem Zow (vars:List AC) (R:Type) (K:TV->Mem->Option R):Fh PG (Vc L_) 64 147 [TV.v false [AC.ptr 20000 0],TV.v false [jA vars 0]] ⟨[(20000,(⟨119,cR 1 vars⟩:Box))],[]⟩ K=Fh PG (Vc L_) 64 147 [TV.v false [AC.ptr 20000 0],TV.v false [jA vars 0]] ⟨[(20000,(⟨119,cR 1 vars⟩:Box))],[]⟩ (λv _=>K v ⟨[(20000,(⟨119,cR 1 vars⟩:Box))],[]⟩):=
  cx (b:=(L_ (jA vars 0::I 0::I 0:: .vC Ag (wA vars 41)::I ((wA vars 41).length:Int)::I 0::cR 1 vars)).bind λo=>cond (o.1.beq 1) (K (TV.v false [jA o.2 0]) ⟨[(20000,(⟨119,cR 1 o.2⟩:Box))],[]⟩) (none)) (by kernel_rfl)
  (cx (b := (L_ (jA vars 0 :: I 0 :: I 0 :: .vC Ag (wA vars 41) :: I ((wA vars 41).length : Int) :: I 0 :: cR 1 vars)).bind λo => cond (o.1.beq 1) (K (TV.v false [jA o.2 0]) ⟨[(20000, (⟨119, cR 1 vars⟩ : Box))], []⟩) (none)) (by
    cases h:L_ (jA vars 0::I 0::I 0:: .vC Ag (wA vars 41)::I ((wA vars 41).length:Int)::I 0::cR 1 vars)with
    |none=>rfl
    |some a=>
      obtain⟨n,E⟩:=Qp h;obtain⟨r,rfl⟩:=Uy (cR 1 vars) (wA vars 41) (gA vars 0) _ n 0 0 0 a E;rfl) (by kernel_rfl))
theorem Ztt:Am PG (147,E0 Qeo Qae K9):=QC (C:=Vc L_) (L:=64) (by kernel_rfl) ((FnOK.bare rfl rfl rfl).loop Zft eqOk FI (by kernel_rfl) (by kernel_rfl)) Zft eqOk FI (by kernel_rfl) (by kernel_rfl) (λvars R K=>Zow vars R K)
def Zmw:=qa 101 Qeo Qmq
def Qrr (E G I J:Fn):Cfg:=cr [Qyy E,Zv9 G,PF I,UI J] [147,110,102] [147,110,102]
def Qeb (E G I J:Fn):Fn:=An PG (Qrr E G I J) 64 101 Qeo Qmq
theorem Zez (M N O S:Fn) (G:Int) (K:Kf) (c:Cv):Qeb M N O S (I G::Ab K c)=
 (S (Ab K c)).bind λo4=>
 cond (!bA o4 7) (some (Ab K c)) (cond (decide (G<=0)) (some (Ab K c)) (cond (c.way !=0) (some (Ab K c)) (cond (c.on) (some (Ab K c)) (cond (c.aI !=0) (some (Ab K c)) (cond (!c.o2) (some (Ab K c)) (cond (gA o4 6 !=0) (some (Ab K c)) ((O (Ab K c)).bind λJ=>
 (N (jA J 0::Ab K c)).bind λT=>
 (M (pxt K.p K.x K.t [I c.m0,I c.m1,I c.m2,I c.m3,I c.m4,I c.m5,I (mx (mx 0 (V (gA J 0-G))) (gA T 0))])).bind λE=>
 cond (!bA E 12) (some (Ab K c)) (some (DY (Ab K c) [(44, .vC As (wA E 0)),(45,jA E 1),(46,jA E 2),(47,jA E 3),(48,jA E 4),(49,jA E 5),(50,jA E 6),(51,jA E 7),(52,jA E 8),(53,jA E 9),(54,jA E 10),(55,jA E 11),(58,B false),(71,I 1),(72,jA J 0)]))))))))):=by kernel_rfl
def Rz:=Qeb KK K9 Dn Fg
theorem Zkd:Ai PG (Qrr KK K9 Dn Fg):=Hf (rs:=[147,110,102]) rfl ⟨Q1x,Ztt,P4,UX,trivial⟩ rfl (CK rfl (Fj (Fj (Fj Hx))))
theorem Yac:Am PG (Zmw Rz):=rw1 (C:=Qrr KK K9 Dn Fg) Zkd
def Zka:=qa 146 Qeo Qmt
def Zdc:Sk:=⟨[td,tf [ci],td,td,td,tf [ci]]++dd 6++[tf [sa Ag],tf [ci],tf [ci]]++dd 13,[(20000,119,cS)],[]⟩
def Quw:List (Ex×Sk):=[(Ex.exit 0,⟨[td,td,td,td,td,tf [ci]]++dd 22,[(20000,119,cS)],[]⟩)]
def Um:Lp:=A5 PG Qcv 64 3 (A4 PG 146 3) Zdc Quw
def Zbl (E:Lp):Cfg:=Qcv.loop 3 Zdc Quw E
def Qer (E:Lp):Fn:=An PG (Zbl E) 64 146 Qeo Qmt
theorem Z3i (v0 J:Int) (G:Rw) (M E:Int) (K:Kf) (c:Cv):Um (I v0::I J:: .vC Ag G::I M::I E::Ab K c)=
 cond (decide (E<M)) (cond (decide (0<=E)&&decide (E<(G.length:Int))) (cond (gA (nth [] G E.toNat) 4==v0) (some (1,(I J::Ab K c))) (some (0,(I v0::I (V (J+gA (nth [] G E.toNat) 3)):: .vC Ag G::I M::I (V (E+1))::Ab K c)))) (none)) (some (1,(I J::Ab K c))):=by kernel_rfl
theorem Zjf (E:Lp) (G:Int) (K:Kf) (c:Cv):Qer E (I G::Ab K c)=
 (E (I G::I 0:: .vC Ag (K.p.aF.map Av)::I ((K.p.aF.map Av).length:Int)::I 0::Ab K c)).bind λo1=>
 cond (o1.1.beq 1) (some (jA o1.2 0::cR 1 o1.2)) (none):=by kernel_rfl
def Qwl:=Ak (Um)
def OC:=Qer Qwl
theorem Zmg:Am PG (Zka OC):=rw2 (C:=Zbl Qwl) (fl fb Zft) Zft
def Z37:=qa 100 Qo8 Qmq
def Qr7 (E G I:Fn):Cfg:=cr [Zka E,PF G,UI I] [146,110,102] [110,102]
def Qmc (E G I:Fn):Fn:=An PG (Qr7 E G I) 64 100 Qo8 Qmq
theorem Zgg (G I J:Fn) (K:Kf) (c:Cv):Qmc G I J (Ab K c)=
 (J (Ab K c)).bind λo3=>
 cond (bA o3 7) (cond (c.way==0) (cond (decide (0<=gA o3 4)&&decide (gA o3 4<((K.aA.map Af).length:Int))) (cond (gA (nth [] (K.aA.map Af) (gA o3 4).toNat) 0==4) ((I (Ab K c)).bind λo4=>
 (G (jA o3 4::Ab K c)).bind λE=>
 cond (gA o4 0 !=gA E 0) (some (DY (cR 1 E) [(77,B true)])) (some (cR 1 E))) (some (Ab K c))) (none)) (some (Ab K c))) (some (Ab K c)):=by kernel_rfl
def Nd:=Qmc OC Dn Fg
theorem Z7m:Ai PG (Qr7 OC Dn Fg):=Hf (rs:=[110,102]) rfl ⟨Zmg,P4,UX,trivial⟩ rfl (CK rfl (Fj (Fj Hx)))
theorem Zrk:Am PG (Z37 Nd):=rw1 (C:=Qr7 OC Dn Fg) Z7m
def Qsk:Sk:=⟨[TS.v true [ci,ci,ci],tf [ci],TS.v true [ci,ci,ci],TS.v true [ci,ci,ci]],[],[]⟩
def Z6n:=qa 145 Qsk Qbn
def Qke:Cfg:={cf []with unroll:=[4]}
def Qm6:Fn:=An PG Qke 64 145 Qsk Qbn
theorem Zwx (G J M E N O S T U X:Int):Qm6 [I G,I J,I M,I E,I N,I O,I S,I T,I U,I X]=
 cond (G !=0) (some [I G,I J,I M]) (cond (decide (V (N-T)>E)) (some [I 1,I 19,I 0]) (cond (decide (V (0-V (N-T))>E)) (some [I 1,I 19,I 0]) (cond (decide (V (O-U)>E)) (some [I 1,I 19,I (V (0+1))]) (cond (decide (V (0-V (O-U))>E)) (some [I 1,I 19,I (V (0+1))]) (cond (decide (V (S-X)>E)) (some [I 1,I 19,I (V (V (0+1)+1))]) (cond (decide (V (0-V (S-X))>E)) (some [I 1,I 19,I (V (V (0+1)+1))]) (some [I G,I J,I M]))))))):=by kernel_rfl
def Oy:=Qm6
theorem Z9m:Ai PG (Qke):=Ap rfl trivial
theorem Zsf:Am PG (Z6n Oy):=rw1 (C:=Qke) Z9m
attribute [go_sem] Z4h W1 UP VT Uq VY WM XO ZT PL Pb Sn SA Qks Ux U7 Sz Ut R9 Qcg QB UC
end Go.Bm
