/- functions of the program and of the references, as models -/
import Derived.Test.YtnnpdlgenmnekaaGreatDoorSeFmF
import Derived.Test.YtnnpdlgenmnekaaGreatDoorBmTy
set_option linter.unusedSimpArgs false
set_option linter.unusedVariables false
set_option linter.defProp false
set_option maxRecDepth 100000
noncomputable section
open Go.IntKind (wrap)
namespace Go.Bm
open Go.Proofs
abbrev mF (C:Cfg) (n:Nat) (s o:Sk):Fn:=Aj PG C 64 n s o
abbrev sL (C:Cfg) (f b:Nat) (s:Sk) (e:List (Ex×Sk)):Lp:=AR PG C 64 b (AU PG f b) s e
def cX:=cc 9++[sa Aa]++cc 9++[sa Aa]++cc 9++[sa Aa]
def tT:=TS.v true
variable {a b c d e f g h i j k l m n o p q r s t u v w x y z α β:Int} {X Y:Bool} {G H J K M N P Q L:Fn} {Z:Lp} {A C E F:Rw}
instance:RI (171,Ah UW TG JO):=⟨Zsm⟩
instance:RI (172,Ah Qij Qh7 Kr):=⟨Z4u⟩
instance:RI (289,Ah Qch Qd8 Le):=⟨Z2h⟩
instance:RI (122,Ah Qdy Z6 LA):=⟨Z8d⟩
def qa (n:Nat) (s o:Sk) (M:Fn):Nat×Spec:=(n,Ah s o M)
def Qws:Sk:=⟨[tT (cc 9++[sa Aa]),tf [ci]],[],[]⟩
def Qvf:Sk:=⟨[tf [ci]],[],[]⟩
def Qh1:=qa 60 Qws Qvf
def Qy3:Cfg:=cf []
def Q88:Fn:=mF Qy3 60 Qws Qvf
def Zop (L M N U V X G Y x8:Int) (x9:Rw) (D:Int):Q88 [I L,I M,I N,I U,I V,I X,I G,I Y,I x8, .vC Aa x9,I D]=
 cond (D== -1) (some [I (O (0-G))]) (some [I 0]):=by kernel_rfl
def Q1:=Q88
instance:RI (Qh1 Q1):=rw1 Qy3
def Q07:Sk:=⟨[tT (cc 9++[sa Aa]),tT (cc 10),tf [ci],tf [ci]],[],[]⟩
def Zl6:=qa 61 Q07 Qvf
def Qoy (D:Fn):Cfg:=cf [Qh1 D]
def RJ (D:Fn):Fn:=mF (Qoy D) 61 Q07 Qvf
abbrev Wi (D G M:Int) (L:Bool):Option (List AC):=
 cond (L) (some [I (O (0-mn (O (D-G)) M))]) (some [I (O (mn (O (D-G)) M-M))])
abbrev Yr (D:Int) (G:Fn) (L M N O U V X Y x8:Int) (x9:Rw) (a0 a1 a2:Int):Option (List AC):=
 cond (decide (D=(↑0:Int))) ((G [I L,I M,I N,I O,I U,I V,I X,I Y,I x8, .vC Aa x9,I a0]).bind λa3=>
 some [jA a3 0]) (cond (decide (D=(↑(0+1):Int))) ((G [I L,I M,I N,I O,I U,I V,I X,I Y,I x8, .vC Aa x9,I a1]).bind λa4=>
 some [jA a4 0]) (cond (decide (D=(↑(0+1+1):Int))) ((G [I L,I M,I N,I O,I U,I V,I X,I Y,I x8, .vC Aa x9,I a2]).bind λa5=>
 some [jA a5 0]) (none)))
abbrev XC (D:Int) (V:Fn) (X Y x2 x3 x4 x5 U x7 x8:Int) (x9:Rw) (L M N G I:Int) (O:Bool):Option (List AC):=
 cond (O) (Yr D V X Y x2 x3 x4 x5 U x7 x8 x9 L M N) (cond (decide (D=(↑0:Int))) (Wi G I U (L== -1)) (cond (decide (D=(↑(0+1):Int))) (Wi G I U (M== -1)) (cond (decide (D=(↑(0+1+1):Int))) (Wi G I U (N== -1)) (none))))
abbrev VS (D:Int) (X:Fn) (Y x1 x2 x3 x4 x5 x6 x7 x8:Int) (x9:Rw) (G I L M N:Int) (O U V:Bool):Option (List AC):=
 cond (decide (D=(↑0:Int))) (XC D X Y x1 x2 x3 x4 x5 x6 x7 x8 x9 G I L M N O) (cond (decide (D=(↑(0+1):Int))) (XC D X Y x1 x2 x3 x4 x5 x6 x7 x8 x9 G I L M N U) (cond (decide (D=(↑(0+1+1):Int))) (XC D X Y x1 x2 x3 x4 x5 x6 x7 x8 x9 G I L M N V) (none)))
def Qf8 (Y:Fn) (x0 x1 x2 x3 x4 x5 x6 x7 x8:Int) (x9:Rw) (N a1 a2 a0 O U V D G L M X:Int):RJ Y [I x0,I x1,I x2,I x3,I x4,I x5,I x6,I x7,I x8, .vC Aa x9,I N,I a1,I a2,I a0,I O,I U,I V,I D,I G,I L,I M,I X]=
 cond (a0 !=0) (Yr M Y x0 x1 x2 x3 x4 x5 x6 x7 x8 x9 D G L) (cond (decide (M=(↑0:Int))) (VS M Y x0 x1 x2 x3 x4 x5 x6 x7 x8 x9 D G L X N (O==D) (O==G) (O==L)) (cond (decide (M=(↑(0+1):Int))) (VS M Y x0 x1 x2 x3 x4 x5 x6 x7 x8 x9 D G L X N (U==D) (U==G) (U==L)) (cond (decide (M=(↑(0+1+1):Int))) (VS M Y x0 x1 x2 x3 x4 x5 x6 x7 x8 x9 D G L X N (V==D) (V==G) (V==L)) (none)))):=by kernel_rfl
def Y3:=RJ Q1
instance:RI (Zl6 Y3):=rw1 (Qoy Q1)
def Zey:=qa 111 Qws Qvf
def Zc6:Fn:=mF Qy3 111 Qws Qvf
def Zqp (D L M N U V X Y x8:Int) (x9:Rw) (G:Int):Zc6 [I D,I L,I M,I N,I U,I V,I X,I Y,I x8, .vC Aa x9,I G]=
 cond (decide (D<=0)) (some [I 0]) (cond (decide (O (2*D)<=0)) (some [I 0]) (cond (decide (O (2*D)=0)) (none) (cond (decide (O (2*D)=0)) (none) (cond (decide ((O (O (2*G)+D)).tmod (O (2*D))<0)) (some [I (O (O ((O (O (2*G)+D)).tdiv (O (2*D)))-1))]) (some [I (O ((O (O (2*G)+D)).tdiv (O (2*D))))]))))):=by kernel_rfl
def Sz:=Zc6
instance:RI (Zey Sz):=rw1 Qy3
def Qt5:Sk:=⟨[tf [se .u64],tf [sb]],[],[]⟩
def Qr7:Sk:=⟨[TS.tup [(false,[ci]),(false,[sb])]],[],[]⟩
def TW:=qa 130 Qt5 Qr7
def Qem:Fn:=mF Qy3 130 Qt5 Qr7
theorem Qja:Qem [U a,B X]=
 cond (X) (cond (decide (a<=9223372036854775808)) (some [I (O (wrap .u64 (0-a))),B true]) (cond (!X) (cond (decide (a<9223372036854775808)) (some [I (O a),B true]) (some [I 0,B false])) (some [I 0,B false]))) (cond (!X) (cond (decide (a<9223372036854775808)) (some [I (O a),B true]) (some [I 0,B false])) (some [I 0,B false])):=by kernel_rfl
def G9:=Qem
instance:RI (TW G9):=rw1 Qy3
def Q3w:Sk:=⟨[tf [ci],tf [ci],tf [sb],tf [sb]],[],[]⟩
def Zkh:Sk:=⟨[tf [sb]],[],[]⟩
def Qef:=qa 129 Q3w Zkh
def Qgo:Fn:=mF Qy3 129 Q3w Zkh
theorem Q1l:Qgo [I a,I b,B X,B Y]=
 cond (a==0) (cond (X) (some [B Y]) (some [B false])) (cond (a==1) (cond (X) (some [B !Y]) (some [B false])) (cond (decide (b>0)) (some [B true]) (cond (b==0) (some [B !Y]) (some [B false])))):=by kernel_rfl
def LM:=Qgo
instance:RI (Qef LM):=rw1 Qy3
def Qup:Sk:=⟨[tf [ci],tf [ci]],[],[]⟩
def Ua:=qa 128 Qup Qvf
def Qfg:Fn:=mF Qy3 128 Qup Qvf
theorem Qpt:Qfg [I a,I b]=
 cond (a==0) (some [I 0]) (cond (b==0) (some [I 0]) (cond (decide (a<0)==decide (b<0)) (some [I 1]) (some [I (-1)]))):=by kernel_rfl
def Jo:=Qfg
instance:RI (Ua Jo):=rw1 Qy3
def Qm4:Sk:=⟨[tf [se .u64],tf [se .u64],tf [se .u64]],[],[]⟩
def Zhf:Sk:=⟨[TS.tup [(false,[se .u64]),(false,[se .u64])]],[],[]⟩
def Qit:=qa 127 Qm4 Zhf
def Qq7 (D:Fn):Cfg:=cf [(172,Ah Qij Qh7 D)]
def Qnv:Sk:=⟨[td,td,tf [se .u64],td,td,td,td,td,tf [se .u64],tf [se .u64],tf [se .u64],tf [se .u64],td,tf [se .u64],tf [se .u64],tf [se .u64],tf [se .u64]]++dd 118,[],[]⟩
def Zby:List (Ex×Sk):=[(Ex.exit 0,⟨[td,td,tf [se .u64],td,td,td,td,td,tf [se .u64],tf [se .u64],tf [se .u64],tf [se .u64],td,tf [se .u64],tf [se .u64],tf [se .u64]]++dd 119,[],[]⟩)]
def Ny (D:Fn):Lp:=sL (Qq7 D) 127 17 Qnv Zby
def Q8f (G:Fn) (D:Lp):Cfg:=(Qq7 G).loop 17 Qnv Zby D
def Qs1:Sk:=⟨[td,td,tf [se .u64],td,td,td,td,td,tf [se .u64],tf [se .u64],tf [se .u64],td,td,td,tf [se .u64],tf [se .u64],tf [se .u64],tf [se .u64],tf [se .u64]]++dd 116,[],[]⟩
def Q8n:List (Ex×Sk):=[(Ex.exit 2,⟨[td,td,tf [se .u64],td,td,td,td,td,tf [se .u64],td,td,td,td,td,tf [se .u64],tf [se .u64],td,tf [se .u64],tf [se .u64]]++dd 116,[],[]⟩)]
def Q7 (G:Fn) (D:Lp):Lp:=sL (Q8f G D) 127 24 Qs1 Q8n
def Q1o (I:Fn) (D G:Lp):Cfg:=(Q8f I D).loop 24 Qs1 Q8n G
def Qcn (I:Fn) (D G:Lp):Fn:=mF (Q1o I D G) 127 Qm4 Zhf
def Zxh (D9:Fn) (M N D I O L V G X:Int):Ny D9 [U M,U N,U D,U I,U O,U L,U V,U G,U X]=
 cond (decide (G>=4294967296)) (cond (decide (wrap .u64 (X+D)>=4294967296)) (some (1,[U M,U N,U D,U I,U O,U L,U V,U (wrap .u64 (G-1))])) (some (0,[U M,U N,U D,U I,U O,U L,U V,U (wrap .u64 (G-1)),U (wrap .u64 (X+D))]))) (cond (decide (wrap .u64 (G*I)>wrap .u64 (wrap .u64 (4294967296*X)+L))) (cond (decide (wrap .u64 (X+D)>=4294967296)) (some (1,[U M,U N,U D,U I,U O,U L,U V,U (wrap .u64 (G-1))])) (some (0,[U M,U N,U D,U I,U O,U L,U V,U (wrap .u64 (G-1)),U (wrap .u64 (X+D))]))) (some (1,[U M,U N,U D,U I,U O,U L,U V,U G]))):=by kernel_rfl
def Zv5 (D9:Fn) (N17:Lp) (L M G X I N O V D:Int):Q7 D9 N17 [U L,U M,U G,U X,U I,U N,U O,U V,U D]=
 cond (decide (D>=4294967296)) (cond (decide (wrap .u64 (O+G)>=4294967296)) (some (1,[U L,U M,U I,U N,U V,U (wrap .u64 (D-1))])) (some (0,[U L,U M,U G,U X,U I,U N,U (wrap .u64 (O+G)),U V,U (wrap .u64 (D-1))]))) (cond (decide (wrap .u64 (D*X)>wrap .u64 (wrap .u64 (4294967296*O)+I))) (cond (decide (wrap .u64 (O+G)>=4294967296)) (some (1,[U L,U M,U I,U N,U V,U (wrap .u64 (D-1))])) (some (0,[U L,U M,U G,U X,U I,U N,U (wrap .u64 (O+G)),U V,U (wrap .u64 (D-1))]))) (some (1,[U L,U M,U I,U N,U V,U D]))):=by kernel_rfl
theorem Q0f (N:Lp):Qcn G Z N [U a,U b,U c]=
 cond (c==0) (none) (cond (decide (c<=a)) (none) (cond (a==0) (cond (decide (c=0)) (none) (cond (decide (c=0)) (none) (some [U (wrap .u64 (b.tdiv c)),U (b.tmod c)]))) ((G [U c]).bind λo6=>
 cond (decide (wrap .u64 (gA o6 0)<0)) (none) (cond (decide (wrap .u64 (gA o6 0)<0)) (none) (cond (decide (wrap .u64 (64-wrap .u64 (gA o6 0))<0)) (none) (cond (decide (wrap .u64 (gA o6 0)<0)) (none) (cond (decide ((wrap .u64 (c*2^min (wrap .u64 (gA o6 0)).toNat IntKind.u64.bits)).fdiv (2^min (Int.toNat 32) IntKind.u64.bits)=0)) (none) ((Z [U (wrap .u64 (c*2^min (wrap .u64 (gA o6 0)).toNat IntKind.u64.bits)),U (wrap .u64 (gA o6 0)),U ((wrap .u64 (c*2^min (wrap .u64 (gA o6 0)).toNat IntKind.u64.bits)).fdiv (2^min (Int.toNat 32) IntKind.u64.bits)),U (wrap .u64 (↑(BitVec.ofInt IntKind.u64.bits (wrap .u64 (c*2^min (wrap .u64 (gA o6 0)).toNat IntKind.u64.bits))&&&BitVec.ofInt IntKind.u64.bits 4294967295).toNat:Int)),U (wrap .u64 (↑(BitVec.ofInt IntKind.u64.bits (wrap .u64 (a*2^min (wrap .u64 (gA o6 0)).toNat IntKind.u64.bits))|||BitVec.ofInt IntKind.u64.bits (b.fdiv (2^min (wrap .u64 (64-wrap .u64 (gA o6 0))).toNat IntKind.u64.bits))).toNat:Int)),U ((wrap .u64 (b*2^min (wrap .u64 (gA o6 0)).toNat IntKind.u64.bits)).fdiv (2^min (Int.toNat 32) IntKind.u64.bits)),U (wrap .u64 (↑(BitVec.ofInt IntKind.u64.bits (wrap .u64 (b*2^min (wrap .u64 (gA o6 0)).toNat IntKind.u64.bits))&&&BitVec.ofInt IntKind.u64.bits 4294967295).toNat:Int)),U (wrap .u64 ((wrap .u64 (↑(BitVec.ofInt IntKind.u64.bits (wrap .u64 (a*2^min (wrap .u64 (gA o6 0)).toNat IntKind.u64.bits))|||BitVec.ofInt IntKind.u64.bits (b.fdiv (2^min (wrap .u64 (64-wrap .u64 (gA o6 0))).toNat IntKind.u64.bits))).toNat:Int)).tdiv ((wrap .u64 (c*2^min (wrap .u64 (gA o6 0)).toNat IntKind.u64.bits)).fdiv (2^min (Int.toNat 32) IntKind.u64.bits)))),U (wrap .u64 (wrap .u64 (↑(BitVec.ofInt IntKind.u64.bits (wrap .u64 (a*2^min (wrap .u64 (gA o6 0)).toNat IntKind.u64.bits))|||BitVec.ofInt IntKind.u64.bits (b.fdiv (2^min (wrap .u64 (64-wrap .u64 (gA o6 0))).toNat IntKind.u64.bits))).toNat:Int)-wrap .u64 (wrap .u64 ((wrap .u64 (↑(BitVec.ofInt IntKind.u64.bits (wrap .u64 (a*2^min (wrap .u64 (gA o6 0)).toNat IntKind.u64.bits))|||BitVec.ofInt IntKind.u64.bits (b.fdiv (2^min (wrap .u64 (64-wrap .u64 (gA o6 0))).toNat IntKind.u64.bits))).toNat:Int)).tdiv ((wrap .u64 (c*2^min (wrap .u64 (gA o6 0)).toNat IntKind.u64.bits)).fdiv (2^min (Int.toNat 32) IntKind.u64.bits)))*(wrap .u64 (c*2^min (wrap .u64 (gA o6 0)).toNat IntKind.u64.bits)).fdiv (2^min (Int.toNat 32) IntKind.u64.bits))))]).bind λD=>
 cond (D.1.beq 1) (cond (decide (gA D.2 2=0)) (none) ((N [U (gA D.2 0),U (gA D.2 1),U (gA D.2 2),U (gA D.2 3),U (gA D.2 6),U (gA D.2 7),U (wrap .u64 (wrap .u64 (wrap .u64 (wrap .u64 (gA D.2 4*4294967296)+gA D.2 5)-wrap .u64 (gA D.2 7*gA D.2 0))-wrap .u64 (wrap .u64 ((wrap .u64 (wrap .u64 (wrap .u64 (gA D.2 4*4294967296)+gA D.2 5)-wrap .u64 (gA D.2 7*gA D.2 0))).tdiv (gA D.2 2))*gA D.2 2))),U (wrap .u64 (wrap .u64 (wrap .u64 (gA D.2 4*4294967296)+gA D.2 5)-wrap .u64 (gA D.2 7*gA D.2 0))),U (wrap .u64 ((wrap .u64 (wrap .u64 (wrap .u64 (gA D.2 4*4294967296)+gA D.2 5)-wrap .u64 (gA D.2 7*gA D.2 0))).tdiv (gA D.2 2)))]).bind λo8=>
 cond (o8.1.beq 1) (cond (decide (gA o8.2 1<0)) (none) (some [U (wrap .u64 (wrap .u64 (gA o8.2 3*4294967296)+gA o8.2 5)),U ((wrap .u64 (wrap .u64 (wrap .u64 (gA o8.2 4*4294967296)+gA o8.2 2)-wrap .u64 (gA o8.2 5*gA o8.2 0))).fdiv (2^min (gA o8.2 1).toNat IntKind.u64.bits))])) (none))) (none))))))))):=by kernel_rfl
def Qhv:=Ak (Ny Kr)
def Q69:=Ak (Q7 Kr Qhv)
def JK:=Qcn Kr Qhv Q69
instance:RI (Qit JK):=rw2 (Q1o Kr Qhv Q69) (fl (fl fb))
def Zb0:Sk:=⟨[tf [se .u64],tf [se .u64]],[],[]⟩
def Q0q:Sk:=⟨[tT [se .u64,se .u64]],[],[]⟩
def Sx:=qa 125 Zb0 Q0q
def Qsx (D:Fn):Cfg:=cf [(171,Ah UW TG D)]
def Zhq (D:Fn):Fn:=mF (Qsx D) 125 Zb0 Q0q
theorem Zsn:Zhq G [U a,U b]=
 (G [U a,U b]).bind λo1=>
 some [U (gA o1 0),U (gA o1 1)]:=by kernel_rfl
def GO:=Zhq JO
instance:RI (Sx GO):=rw1 (Qsx JO)
def Qyp:Sk:=⟨[tf [se .u64]],[],[]⟩
def Vj:=qa 126 Qvf Qyp
def Qmt:Fn:=mF Qy3 126 Qvf Qyp
theorem Znu:Qmt [I a]=
 cond (decide (a<0)) (some [U (wrap .u64 (wrap .u64 (O (0-O (a+1)))+1))]) (some [U (wrap .u64 a)]):=by kernel_rfl
def J_:=Qmt
instance:RI (Vj J_):=rw1 Qy3
def XB:=qa 124 Qvf Zkh
def X_:Fn:=mF Qy3 124 Qvf Zkh
theorem Q66:X_ [I a]=
 cond (a==0) (some [B true]) (cond (a==1) (some [B true]) (some [B (a==2)])):=by kernel_rfl
def Jg:=X_
instance:RI (XB Jg):=rw1 Qy3
def Qpp:Sk:=⟨[tf [ci],tf [ci],tf [ci],tf [ci]],[],[]⟩
def LQ:=qa 82 Qpp Qr7
def Zki (D G I L M N O:Fn):Cfg:=cf [TW D,Qef G,Ua I,Qit L,Sx M,Vj N,XB O]
def Ve (D G I L M N O:Fn):Fn:=mF (Zki D G I L M N O) 82 Qpp Qr7
abbrev XH (X:Fn) (Y:Int) (G:List AC) (V:Fn) (L D:AC):Option (List AC):=
 (X [I Y,L,B (decide (gA G 1>0)),D]).bind λO=>
 cond (bA O 0) (cond (wrap .u64 (gA G 0+1)==0) (some [I 0,B false]) ((V [U (wrap .u64 (gA G 0+1)),D]).bind λM=>
 some [jA M 0,B (bA M 1)])) ((V [U (gA G 0),D]).bind λN=>
 some [jA N 0,B (bA N 1)])
abbrev Yk (D L:List AC) (M:Fn) (N:Int) (O:Fn) (G:AC):Option (List AC):=
 cond (decide (gA D 1>wrap .u64 (gA L 0-gA D 1))) (XH M N D O (I 1) G) (cond (decide (gA D 1<wrap .u64 (gA L 0-gA D 1))) (XH M N D O (I (-1)) G) (XH M N D O (I 0) G))
theorem Zhe:Ve H J K M N P Q [I a,I b,I c,I d]=
 cond (c==0) (some [I 0,B false]) ((Q [I d]).bind λa0=>
 cond (!bA a0 0) (some [I 0,B false]) ((P [I a]).bind λa1=>
 (P [I b]).bind λa2=>
 (N [U (gA a1 0),U (gA a2 0)]).bind λG=>
 (P [I c]).bind λD=>
 cond (decide (gA G 0>=gA D 0)) (some [I 0,B false]) ((M [U (gA G 0),U (gA G 1),U (gA D 0)]).bind λL=>
 (K [I a,I b]).bind λa3=>
 cond (!decide (gA a3 0<0)==decide (c<0)) ((K [I a,I b]).bind λa4=>
 Yk L D J d H (B (gA a4 0 !=0))) (Yk L D J d H (B false))))):=by kernel_rfl
def Cy:=Ve G9 LM Jo JK GO J_ Jg
instance:RI (LQ Cy):=rw1 (Zki G9 LM Jo JK GO J_ Jg)
def Qd3:=qa 112 Qws Qvf
def Qkx (D:Fn):Cfg:=cf [LQ D]
def Q0c (D:Fn):Fn:=mF (Qkx D) 112 Qws Qvf
def Z5w (N:Fn) (U V X Y x4 x5 x6 M L:Int) (G:Rw) (D:Int):Q0c N [I U,I V,I X,I Y,I x4,I x5,I x6,I M,I L, .vC Aa G,I D]=
 cond (decide (O ((G.length:Int)-1)<0)) (some [I 0]) (cond (decide (O (D-M)<=0)) (cond (decide (0<=0)&&decide (0<(G.length:Int))) (some [jA (nth [] G 0) 0]) (none)) (cond (decide (L<=0)) (cond (decide (0<=0)&&decide (0<(G.length:Int))) (some [jA (nth [] G 0) 0]) (none)) (cond (decide (L=0)) (none) (cond (decide (O ((O (D-M)).tdiv L)>=O ((G.length:Int)-1))) (cond (decide (0<=O ((G.length:Int)-1))&&decide (O ((G.length:Int)-1)<(G.length:Int))) (some [jA (nth [] G (O ((G.length:Int)-1)).toNat) 0]) (none)) (cond (decide (0<=O (O ((O (D-M)).tdiv L)+1))&&decide (O (O ((O (D-M)).tdiv L)+1)<(G.length:Int))) (cond (decide (0<=O ((O (D-M)).tdiv L))&&decide (O ((O (D-M)).tdiv L)<(G.length:Int))) ((N [I (O (Af (nth .vD (nth [] G (O (O ((O (D-M)).tdiv L)+1)).toNat) 0)-Af (nth .vD (nth [] G (O ((O (D-M)).tdiv L)).toNat) 0))),I (O (O (D-M)-O (O ((O (D-M)).tdiv L)*L))),I L,I 2]).bind λo1=>
 cond (decide (0<=O ((O (D-M)).tdiv L))&&decide (O ((O (D-M)).tdiv L)<(G.length:Int))) (some [I (O (Af (nth .vD (nth [] G (O ((O (D-M)).tdiv L)).toNat) 0)+gA o1 0))]) (none)) (none)) (none)))))):=by kernel_rfl
def G1:=Q0c Cy
instance:RI (Qd3 G1):=rw1 (Qkx Cy)
def Qjn:=qa 59 Qws Qvf
def Qna (D G:Fn):Cfg:=cf [Zey D,Qd3 G]
def Qzf (D G:Fn):Fn:=mF (Qna D G) 59 Qws Qvf
def Z6f (QO Er:Fn) (G L M N U V X Y x8:Int) (x9:Rw) (D:Int):Qzf QO Er [I G,I L,I M,I N,I U,I V,I X,I Y,I x8, .vC Aa x9,I D]=
 (Er [I G,I L,I M,I N,I U,I V,I X,I Y,I x8, .vC Aa x9,I D]).bind λo2=>
 (QO [I G,I L,I M,I N,I U,I V,I X,I Y,I x8, .vC Aa x9,I (O (D+gA o2 0))]).bind λo3=>
 some [jA o3 0]:=by kernel_rfl
def OB:=Qzf Sz G1
instance:RI (Qjn OB):=rw1 (Qna Sz G1)
def Qro:Sk:=⟨[tT ([sa An]++cc 5),tf [ci]],[],[]⟩
def Xv:=qa 58 Qro Qvf
def Zmk:Sk:=⟨[td,tf [ci],tf [sc 2 0],td,td,tf [ci],tf [ci]]++dd 29,[(2,52,[sa An]++cc 5)],[]⟩
def Zej:List (Ex×Sk):=[(Ex.exit 0,⟨dd 6++[tf [ci]]++dd 29,[],[]⟩)]
def UN:Lp:=sL Qy3 58 2 Zmk Zej
def Q5a (D:Lp):Cfg:=Qy3.loop 2 Zmk Zej D
def Qzx (D:Lp):Fn:=mF (Q5a D) 58 Qro Qvf
theorem Qcr:UN [I a,I b,I c, .vC An A,I d,I e,I f,I g,I h]=
 cond (decide (b<c)) (cond (decide (0<=O ((O (b+c)).tdiv 2))&&decide (O ((O (b+c)).tdiv 2)<(A.length:Int))) (cond (decide (a<=O (Af (nth .vD (nth [] A (O ((O (b+c)).tdiv 2)).toNat) 0)+Af (nth .vD (nth [] A (O ((O (b+c)).tdiv 2)).toNat) 1)))) (some (0,[I a,I b,I (O ((O (b+c)).tdiv 2)), .vC An A,I d,I e,I f,I g,I h])) (some (0,[I a,I (O (O ((O (b+c)).tdiv 2)+1)),I c, .vC An A,I d,I e,I f,I g,I h]))) (none)) (some (1,[I c])):=by kernel_rfl
def Yd1 (G:Lp) (D:Rw) (L M N U V X:Int):Qzx G [.vC An D,I L,I M,I N,I U,I V,I X]=
 (G [I X,I 0,I (O ((D.length:Int)-1)), .vC An D,I L,I M,I N,I U,I V]).bind λo1=>
 cond (o1.1.beq 1) (some [jA o1.2 0]) (none):=by kernel_rfl
def QJ:=Ak (UN)
def KX:=Qzx QJ
instance:RI (Xv KX):=rw2 (Q5a QJ) (fl fb)
def Q9g:Sk:=⟨[tT [ci,ci,ci,sa Ai,sa kPt],tf [ci]],[],[]⟩
def Qn7:Sk:=⟨[TS.tup [(false,[ci]),(false,[ci])]],[],[]⟩
def Wq:=qa 81 Q9g Qn7
def Qxb:Sk:=⟨[td,tf [ci],tf [sc 2 0]]++dd 8++[tf [sa Ai],tf [ci],tf [ci]]++dd 24,[(2,46,[ci,ci,ci,sa Ai,sa kPt])],[]⟩
def Zmd:List (Ex×Sk):=[(Ex.ret,⟨[td,td,td,td,tf [ci],tf [ci]]++dd 32,[],[]⟩),(Ex.exit 0,⟨[td]++dd 37,[],[]⟩)]
def Uv:Lp:=sL Qy3 81 3 Qxb Zmd
def Zfb (D:Lp):Cfg:=Qy3.loop 3 Qxb Zmd D
def Qzy (D:Lp):Fn:=mF (Zfb D) 81 Q9g Qn7
theorem Zfg:Uv [I a, .vC Ai A,I b,I c,I d,I e,I f, .vC Ai C, .vC kPt E]=
 cond (decide (c<b)) (cond (decide (0<=c)&&decide (c<(A.length:Int))) (cond (decide (a<gA (nth [] A c.toNat) 3)) (some (1,[I c,I a])) (cond (c==O ((C.length:Int)-1)) (some (1,[I c,jA (nth [] A c.toNat) 3])) (some (0,[I (O (a-gA (nth [] A c.toNat) 3)), .vC Ai A,I b,I (O (c+1)),I d,I e,I f, .vC Ai C, .vC kPt E])))) (none)) (some (2,[])):=by kernel_rfl
def Qsf (G:Lp) (L M N:Int) (D O:Rw) (U:Int):Qzy G [I L,I M,I N, .vC Ai D, .vC kPt O,I U]=
 (G [I (mx U 0), .vC Ai D,I (D.length:Int),I 0,I L,I M,I N, .vC Ai D, .vC kPt O]).bind λo1=>
 cond (o1.1.beq 1) (some [jA o1.2 0,jA o1.2 1]) (cond (o1.1.beq 2) (some [I (-1),I 0]) (none)):=by kernel_rfl
def OX:=Ak (Uv)
def FJ:=Qzy OX
instance r_path_Find:RI (Wq FJ):=rw2 (Zfb OX) (fl fb)
def Qwz:Sk:=⟨[tT [ci,ci,ci]],[],[]⟩
def Qj6:=qa 36 Q9g Qwz
def Qq1 (D G:Fn):Cfg:={cf [LQ D,Wq G]with unroll:=[9]}
def Qbx (D G:Fn):Fn:=mF (Qq1 D G) 36 Q9g Qwz
def Zxz (AW DP:Fn) (L M N:Int) (G x4:Rw) (x5:Int):Qbx AW DP [I L,I M,I N, .vC Ai G, .vC kPt x4,I x5]=
 (DP [I L,I M,I N, .vC Ai G, .vC kPt x4,I x5]).bind λD=>
 cond (decide (gA D 0<0)) (some [I L,I M,I N]) (cond (decide (gA D 0>0)) (cond (decide (0<=O (gA D 0-1))&&decide (O (gA D 0-1)<(G.length:Int))) (cond (decide (0<=gA D 0)&&decide (gA D 0<(G.length:Int))) ((AW [I (O (gA (nth [] G (gA D 0).toNat) 0-gA (nth [] G (O (gA D 0-1)).toNat) 0)),jA D 1,jA (nth [] G (gA D 0).toNat) 3,I 2]).bind λo8=>
 (AW [I (O (gA (nth [] G (gA D 0).toNat) 1-gA (nth [] G (O (gA D 0-1)).toNat) 1)),jA D 1,jA (nth [] G (gA D 0).toNat) 3,I 2]).bind λo9=>
 (AW [I (O (gA (nth [] G (gA D 0).toNat) 2-gA (nth [] G (O (gA D 0-1)).toNat) 2)),jA D 1,jA (nth [] G (gA D 0).toNat) 3,I 2]).bind λU=>
 some [I (O (gA (nth [] G (O (gA D 0-1)).toNat) 0+gA o8 0)),I (O (gA (nth [] G (O (gA D 0-1)).toNat) 1+gA o9 0)),I (O (gA (nth [] G (O (gA D 0-1)).toNat) 2+gA U 0))]) (none)) (none)) (cond (decide (0<=gA D 0)&&decide (gA D 0<(G.length:Int))) ((AW [I (O (gA (nth [] G (gA D 0).toNat) 0-L)),jA D 1,jA (nth [] G (gA D 0).toNat) 3,I 2]).bind λV=>
 (AW [I (O (gA (nth [] G (gA D 0).toNat) 1-M)),jA D 1,jA (nth [] G (gA D 0).toNat) 3,I 2]).bind λX=>
 (AW [I (O (gA (nth [] G (gA D 0).toNat) 2-N)),jA D 1,jA (nth [] G (gA D 0).toNat) 3,I 2]).bind λY=>
 some [I (O (L+gA V 0)),I (O (M+gA X 0)),I (O (N+gA Y 0))]) (none))):=by kernel_rfl
def LO:=Qbx Cy FJ
instance r_path_At:RI (Qj6 LO):=rw1 (Qq1 Cy FJ)
def Tc:=qa 47 Qup Qvf
def Zk5:Fn:=mF Qy3 47 Qup Qvf
theorem Zy6:Zk5 [I a,I b]=
 some [I (mx 0 (mn a b))]:=by kernel_rfl
def It:=Zk5
instance:RI (Tc It):=rw1 Qy3
def PX:=qa 57 Qro Qvf
def Zno (D G:Fn):Cfg:=cf [Xv D,Tc G]
def Qhg (D G:Fn):Fn:=mF (Zno D G) 57 Qro Qvf
def Z0a (M N:Fn) (D:Rw) (G L U V X Y:Int):Qhg M N [.vC An D,I G,I L,I U,I V,I X,I Y]=
 (N [I Y,I G]).bind λo2=>
 (M [.vC An D,I G,I L,I U,I V,I X,jA o2 0]).bind λo3=>
 cond (decide (gA o3 0<0)) (some [I L]) (cond (decide (0<=gA o3 0)&&decide (gA o3 0<(D.length:Int))) (cond (decide (0<=gA o3 0)&&decide (gA o3 0<(D.length:Int))) (cond (decide (0<=gA o3 0)&&decide (gA o3 0<(D.length:Int))) (some [I (O (gA (nth [] D (gA o3 0).toNat) 2+O (gA (nth [] D (gA o3 0).toNat) 3*O (gA o2 0-gA (nth [] D (gA o3 0).toNat) 0))))]) (none)) (none)) (none)):=by kernel_rfl
def Fw:=Qhg KX It
instance r_track_Place:RI (PX Fw):=rw1 (Zno KX It)
def Qot:Sk:=⟨[tT [ci,ci,ci,sa Ai,sa kPt],tT cX,tT ([sa An]++cc 5),tf [ci]],[],[]⟩
def RD:=qa 21 Qot Qwz
def Q8m (D G I L M N O:Fn):Cfg:={cf [Zl6 D,Qh1 G,Qjn I,Xv L,Qj6 M,PX N,Tc O]with unroll:=[6]}
def Qca (D G I L M N O:Fn):Fn:=mF (Q8m D G I L M N O) 21 Qot Qwz
abbrev YO (Y:Fn) (x:Ax3) (N D:List AC) (BU:Fn) (t:Trk) (G:AC) (F2:Fn) (U:List AC) (L:AC):Option (List AC):=
 (Y [I x.c.step,I x.c.aS,I x.c.bF,I x.c.bG,I x.c.low,I x.c.aY,I x.c.bB,I x.c.aV,I x.c.aO, .vC Aa (x.c.aW.map Ap),jA N 2]).bind λM=>
 cond (decide (gA D 0<0)) ((BU [I x.c.step,I x.c.aS,I x.c.bF,I x.c.bG,I x.c.low,I x.c.aY,I x.c.bB,I x.c.aV,I x.c.aO, .vC Aa (x.c.aW.map Ap),I t.aT.z]).bind λV=>
 some [G,L,I (O (gA M 0+gA V 0))]) (cond (decide (0<=gA D 0)&&decide (gA D 0<((t.aE.map AT).length:Int))) ((F2 (I x.c.step::I x.c.aS::I x.c.bF::I x.c.bG::I x.c.low::I x.c.aY::I x.c.bB::I x.c.aV::I x.c.aO:: .vC Aa (x.c.aW.map Ap)::(AX An (nth [] (t.aE.map AT) (gA D 0).toNat)++[I (O (O (0+1)+1)),jA U 0]))).bind λX=>
 some [G,L,I (O (gA M 0+gA X 0))]) (none))
abbrev ZQ (U:Fn) (x:Ax3) (L D:List AC) (V:Fn) (t:Trk) (X:Fn) (M:List AC) (G:AC):Option (List AC):=
 (U [I x.b.step,I x.b.aS,I x.b.bF,I x.b.bG,I x.b.low,I x.b.aY,I x.b.bB,I x.b.aV,I x.b.aO, .vC Aa (x.b.aW.map Ap),jA L 1]).bind λN=>
 cond (decide (gA D 0<0)) ((V [I x.b.step,I x.b.aS,I x.b.bF,I x.b.bG,I x.b.low,I x.b.aY,I x.b.bB,I x.b.aV,I x.b.aO, .vC Aa (x.b.aW.map Ap),I t.aT.y]).bind λY=>
 YO U x L D V t G X M (I (O (gA N 0+gA Y 0)))) (cond (decide (0<=gA D 0)&&decide (gA D 0<((t.aE.map AT).length:Int))) ((X (I x.b.step::I x.b.aS::I x.b.bF::I x.b.bG::I x.b.low::I x.b.aY::I x.b.bB::I x.b.aV::I x.b.aO:: .vC Aa (x.b.aW.map Ap)::(AX An (nth [] (t.aE.map AT) (gA D 0).toNat)++[I (O (0+1)),jA M 0]))).bind λa0=>
 YO U x L D V t G X M (I (O (gA N 0+gA a0 0)))) (none))
def Ycu (U V X D6 El BN Cz:Fn) (M:Int) (p:Pth) (x:Ax3) (t:Trk):Qca U V X D6 El BN Cz (pxt p x t [I M])=
 (Cz [I M,I t.length]).bind λG=>
 (BN [.vC An (t.aE.map AT),I t.length,I t.aQ,I t.aT.x,I t.aT.y,I t.aT.z,jA G 0]).bind λY=>
 (El [I p.aQ.x,I p.aQ.y,I p.aQ.z, .vC Ai (p.aF.map At), .vC kPt (p.aD.map Aq),jA Y 0]).bind λL=>
 (D6 [.vC An (t.aE.map AT),I t.length,I t.aQ,I t.aT.x,I t.aT.y,I t.aT.z,jA G 0]).bind λD=>
 (X [I x.a.step,I x.a.aS,I x.a.bF,I x.a.bG,I x.a.low,I x.a.aY,I x.a.bB,I x.a.aV,I x.a.aO, .vC Aa (x.a.aW.map Ap),jA L 0]).bind λN=>
 cond (decide (gA D 0<0)) ((V [I x.a.step,I x.a.aS,I x.a.bF,I x.a.bG,I x.a.low,I x.a.aY,I x.a.bB,I x.a.aV,I x.a.aO, .vC Aa (x.a.aW.map Ap),I t.aT.x]).bind λa0=>
 ZQ X x L D V t U G (I (O (gA N 0+gA a0 0)))) (cond (decide (0<=gA D 0)&&decide (gA D 0<((t.aE.map AT).length:Int))) ((U (I x.a.step::I x.a.aS::I x.a.bF::I x.a.bG::I x.a.low::I x.a.aY::I x.a.bB::I x.a.aV::I x.a.aO:: .vC Aa (x.a.aW.map Ap)::(AX An (nth [] (t.aE.map AT) (gA D 0).toNat)++[I 0,jA G 0]))).bind λa1=>
 ZQ X x L D V t U G (I (O (gA N 0+gA a1 0)))) (none)):=by kernel_rfl
def E_:=Qca Y3 Q1 OB KX LO Fw It
instance r_track_Motors:RI (RD E_):=rw1 (Q8m Y3 Q1 OB KX LO Fw It)
def Q1b:Sk:=⟨[tf [ci],tT (cc 13++[sb,ci,sb]++cc 5++[sb])],[],[]⟩
def Qon:=qa 217 Q1b Qvf
def Qg9:Fn:=mF Qy3 217 Q1b Qvf
theorem Yel (L:Bool):Qg9 [I a,I b,I c,I d,I e,I f,I g,I h,I i,I j,I k,I l,I m,I n,B X,I o,B Y,I p,I q,I r,I s,I t,B L]=
 cond (b !=10) (some [I a]) (cond (decide (s<0)) (some [I a]) (cond (decide (s>=16)) (some [I a]) (cond (decide (wrap .u64 s<0)) (none) (cond (L) (some [I (O (↑(BitVec.ofInt IntKind.i64.bits a|||BitVec.ofInt IntKind.i64.bits (O (1*2^min (wrap .u64 s).toNat IntKind.i64.bits))).toNat:Int))]) (some [I (O (↑(BitVec.ofInt IntKind.i64.bits a&&& ~~~BitVec.ofInt IntKind.i64.bits (O (1*2^min (wrap .u64 s).toNat IntKind.i64.bits))).toNat:Int))]))))):=by kernel_rfl
def Nx:=Qg9
instance:RI (Qon Nx):=rw1 Qy3
def Za6:Sk:=⟨[tT [ci,ci,ci],tT [ci,ci,sb,sb,sb]],[],[]⟩
def Qag:=qa 216 Za6 Zkh
def Qg6:Fn:=mF Qy3 216 Za6 Zkh
theorem Yc9 (L:Bool):Qg6 [I a,I b,I c,I d,I e,B X,B Y,B L]=
 cond (b==1) (some [B true]) (cond (b==3) (some [B true]) (cond (b==6) (some [B true]) (cond (b==4) (cond (L) (some [B true]) (some [B Y])) (cond (b==2) (some [B Y]) (some [B false]))))):=by kernel_rfl
def LD:=Qg6
instance:RI (Qag LD):=rw1 Qy3
def Q13:Sk:=⟨[tf [sc 20000 0],tf [ci]],[(20000,179,cS)],[]⟩
def Qtx:Sk:=⟨[tf [sa Aa]],[(20000,179,cS)],[]⟩
def Q93:=qa 165 Q13 Qtx
def Zla (Fd D:Fn):Cfg:={cf [Qon Fd,Qag D]with prom:=λb=>cond (Nat.beq b 2) ([(5,3)]) ([])}
def Qmz:Sk:=⟨[tf [sc 20000 0],tf [ci],td,td,td,tf [sd 5 1]]++dd 84,[(20000,179,cS)],[(5,3,Aa)]⟩
def Zfd:List (Ex×Sk):=[(Ex.exit 0,⟨[td,td,td,td,td,tf [sd 5 1]]++dd 84,[(20000,179,cS)],[(5,3,Aa)]⟩)]
def TX (Fd D:Fn):Lp:=sL (Zla Fd D) 165 2 Qmz Zfd
def Qn8 (Fd D:Fn) (G:Lp):Cfg:=(Zla Fd D).loop 2 Qmz Zfd G
def Qjd (Fd D:Fn) (G:Lp):Fn:=mF (Qn8 Fd D G) 165 Q13 Qtx
abbrev QP (K:Kf) (c:Cv) (D:Rw) (Fd:Fn) (L:Int):Option (Nat×List AC):=
 cond (gA (nth [] (K.p.aD.map Aq) c.aK.toNat) 1==5) (cond (((D++[[jA (nth [] (K.p.aD.map Aq) c.aK.toNat) 2]]).length*8).ble 140737488355328) (cond (decide (0<=gA (nth [] (K.p.aD.map Aq) c.aK.toNat) 2)&&decide (gA (nth [] (K.p.aD.map Aq) c.aK.toNat) 2<((K.aA.map Ag).length:Int))) ((Fd (I c.outs::AX Ae (nth [] (K.aA.map Ag) (gA (nth [] (K.p.aD.map Aq) c.aK.toNat) 2).toNat))).bind λG=>
 some (0,(.vC Aa (D++[[jA (nth [] (K.p.aD.map Aq) c.aK.toNat) 2]])::I L::Ac K {c with outs:=gA G 0,aK:=O (c.aK+1)}))) (none)) (none)) (some (0,(.vC Aa D::I L::Ac K {c with aK:=O (c.aK+1)})))
def Zxj (Fd L:Fn) (D:Rw) (G:Int) (K:Kf) (c:Cv):TX Fd L (.vC Aa D::I G::Ac K c)=
 cond (decide (c.aK<((K.p.aD.map Aq).length:Int))) (cond (decide (0<=c.aK)&&decide (c.aK<((K.p.aD.map Aq).length:Int))) (cond (decide (gA (nth [] (K.p.aD.map Aq) c.aK.toNat) 0>G)) (some (1,(.vC Aa D::Ac K c))) (cond (gA (nth [] (K.p.aD.map Aq) c.aK.toNat) 0==G) (cond (decide (c.aK>=c.next)) ((L [jA (nth [] (K.p.aD.map Aq) c.aK.toNat) 0,jA (nth [] (K.p.aD.map Aq) c.aK.toNat) 1,jA (nth [] (K.p.aD.map Aq) c.aK.toNat) 2,I c.o0,I c.o1,B c.o2,B c.o3,B c.o4]).bind λM=>
 cond (bA M 0) (some (1,(.vC Aa D::Ac K c))) (QP K c D Fd G)) (QP K c D Fd G)) (QP K c D Fd G))) (none)) (some (1,(.vC Aa D::Ac K c))):=by kernel_rfl
theorem Ye5 (K:Kf) (c:Cv):Qjd G H Z (I a::Ac K c)=
 (Z (.vC Aa []::I a::Ac K c)).bind λD=>
 cond (D.1.beq 1) (some (.vC Aa (wA D.2 0)::cR 1 D.2)) (none):=by kernel_rfl
def Q6c:=Ak (TX Nx LD)
def OL:=Qjd Nx LD Q6c
instance r_controller_Controller_pass:RI (Q93 OL):=rw2 (Qn8 Nx LD Q6c) (fl fb)
def Zcg:Sk:=⟨[tT [ci,ci,ci,sa Ai,sa kPt],tT cX,tT ([sa An]++cc 5),tf [ci],tf [ci]],[],[]⟩
def Qw2:Sk:=⟨[tf [sa kPt]],[],[]⟩
def Qku:=qa 164 Zcg Qw2
def Q79 (D:Fn):Cfg:={cf [RD D]with prom:=λb=>cond (Nat.beq b 5) ([(11,125)]) ([]),unroll:=[9]}
def Qxy:Sk:=⟨[td,td,td,td,tf [ci],tf [sc 5 0],tf [sc 6 0],tf [sc 7 0],td,td,td,tf [sd 11 3],tf [sc 12 0],tf [ci]]++dd 54,[(5,46,[ci,ci,ci,sa Ai,sa kPt]),(6,34,cX),(7,52,[sa An]++cc 5),(12,41,[ci,ci,ci])],[(11,125,kPt)]⟩
def Zgp:List (Ex×Sk):=[(Ex.exit 0,⟨dd 11++[tf [sd 11 3]]++dd 56,[],[(11,125,kPt)]⟩)]
def S6 (D:Fn):Lp:=sL (Q79 D) 164 5 Qxy Zgp
def Qtc (D:Fn) (G:Lp):Cfg:=(Q79 D).loop 5 Qxy Zgp G
def Uj (D:Fn) (G:Lp):Fn:=mF (Qtc D G) 164 Zcg Qw2
abbrev NO (o6:List AC) (v46 M N:Int) (p:Pth) (x:Ax3) (t:Trk) (D:Bool) (G L:AC):Option (Nat×List AC):=
 cond (gA o6 2 !=v46) (cond (D) (some (0,(G::I M::I (O (N+1))::pxt p x t [jA o6 0,jA o6 1,jA o6 2]))) (none)) (some (0,(L::I M::I (O (N+1))::pxt p x t [jA o6 0,jA o6 1,jA o6 2])))
theorem Zlx (p:Pth) (x:Ax3) (t:Trk):S6 G (.vC kPt A::I a::I b::pxt p x t [I c,I d,I e])=
 cond (decide (b<a)) ((G (pxt p x t [I (O (b+1))])).bind λo6=>
 cond (gA o6 0 !=c) (cond (((A++[[I (O (b+1)),I 0,I (O (gA o6 0-c))]]).length*24).ble 140737488355328) (cond (gA o6 1 !=d) (cond (((A++[[I (O (b+1)),I 0,I (O (gA o6 0-c))]]++[[I (O (b+1)),I (O (0+1)),I (O (gA o6 1-d))]]).length*24).ble 140737488355328) (NO o6 e a b p x t (((A++[[I (O (b+1)),I 0,I (O (gA o6 0-c))]]++[[I (O (b+1)),I (O (0+1)),I (O (gA o6 1-d))]]++[[I (O (b+1)),I (O (O (0+1)+1)),I (O (gA o6 2-e))]]).length*24).ble 140737488355328) (.vC kPt (A++[[I (O (b+1)),I 0,I (O (gA o6 0-c))]]++[[I (O (b+1)),I (O (0+1)),I (O (gA o6 1-d))]]++[[I (O (b+1)),I (O (O (0+1)+1)),I (O (gA o6 2-e))]])) (.vC kPt (A++[[I (O (b+1)),I 0,I (O (gA o6 0-c))]]++[[I (O (b+1)),I (O (0+1)),I (O (gA o6 1-d))]]))) (none)) (NO o6 e a b p x t (((A++[[I (O (b+1)),I 0,I (O (gA o6 0-c))]]++[[I (O (b+1)),I (O (O (0+1)+1)),I (O (gA o6 2-e))]]).length*24).ble 140737488355328) (.vC kPt (A++[[I (O (b+1)),I 0,I (O (gA o6 0-c))]]++[[I (O (b+1)),I (O (O (0+1)+1)),I (O (gA o6 2-e))]])) (.vC kPt (A++[[I (O (b+1)),I 0,I (O (gA o6 0-c))]])))) (none)) (cond (gA o6 1 !=d) (cond (((A++[[I (O (b+1)),I (O (0+1)),I (O (gA o6 1-d))]]).length*24).ble 140737488355328) (NO o6 e a b p x t (((A++[[I (O (b+1)),I (O (0+1)),I (O (gA o6 1-d))]]++[[I (O (b+1)),I (O (O (0+1)+1)),I (O (gA o6 2-e))]]).length*24).ble 140737488355328) (.vC kPt (A++[[I (O (b+1)),I (O (0+1)),I (O (gA o6 1-d))]]++[[I (O (b+1)),I (O (O (0+1)+1)),I (O (gA o6 2-e))]])) (.vC kPt (A++[[I (O (b+1)),I (O (0+1)),I (O (gA o6 1-d))]]))) (none)) (NO o6 e a b p x t (((A++[[I (O (b+1)),I (O (O (0+1)+1)),I (O (gA o6 2-e))]]).length*24).ble 140737488355328) (.vC kPt (A++[[I (O (b+1)),I (O (O (0+1)+1)),I (O (gA o6 2-e))]])) (.vC kPt A)))) (some (1,[.vC kPt A])):=by kernel_rfl
theorem Q02 (p:Pth) (x:Ax3) (t:Trk):Uj G Z (pxt p x t [I a,I b])=
 (G (pxt p x t [I (mx 0 (mn a t.length))])).bind λL=>
 (Z (.vC kPt []::I (mx 0 (mn b t.length))::I (mx 0 (mn a t.length))::pxt p x t [jA L 0,jA L 1,jA L 2])).bind λo8=>
 cond (o8.1.beq 1) (some [.vC kPt (wA o8.2 0)]) (none):=by kernel_rfl
def Qtn:=Ak (S6 E_)
def Jz:=Uj E_ Qtn
instance r_pulse_Between:RI (Qku Jz):=rw2 (Qtc E_ Qtn) (fl fb)
def Qic:Sk:=⟨[tf [sc 20000 0]],[(20000,179,cS)],[]⟩
def O8 (M:Fn):Nat×Spec:=(102,ET Qic Qvf M)
def Qe8:Fn:=Nd PG Qy3 64 102 Qic Qvf
theorem Z18 (K:Kf) (c:Cv):Qe8 (Ac K c)=
 some [I (O (c.m0.tdiv 256))]:=by kernel_rfl
def C6:=Qe8
def Ye7:AK PG (Qy3):=IA rfl LI.out
def Zvh (vars:List AC) (R:Type) (K:TV->Mem->Option R):Ew PG Qy3 64 102 [TV.v false [AC.ptr 20000 0]] ⟨[(20000,(⟨179,(cR 0 vars)⟩:Box))],[]⟩ K=Ew PG Qy3 64 102 [TV.v false [AC.ptr 20000 0]] ⟨[(20000,(⟨179,(cR 0 vars)⟩:Box))],[]⟩ (λv _=>K v ⟨[(20000,(⟨179,(cR 0 vars)⟩:Box))],[]⟩):=de (b:=(K (TV.v false [I (O ((gA vars 50).tdiv 256))]) ⟨[(20000,(⟨179,(cR 0 vars)⟩:Box))],[]⟩)) (by kernel_rfl) (Eq.symm (by kernel_rfl))
def O_:Bx PG (102,ET Qic Qvf C6):=RE (C:=Qy3) (L:=64) (by kernel_rfl) (FnOK.bare rfl rfl rfl) Ye7 eqOk FX (by kernel_rfl) (by kernel_rfl) (λvars R K=>Zvh vars R K)
instance:RI (O8 C6):=⟨O_⟩
def Ok (M:Fn):Nat×Spec:=(163,ET Qic Qvf M)
def Ro (D G:Fn):Cfg:=cr [PX D,O8 G] [102] [102]
def ZZ (D G:Fn):Fn:=Nd PG (Ro D G) 64 163 Qic Qvf
theorem Z8i (K:Kf) (c:Cv):ZZ G H (Ac K c)=
 (H (Ac K c)).bind λo2=>
 (G (Bh K.t++[jA o2 0])).bind λo3=>
 some [jA o3 0]:=by kernel_rfl
def De:=ZZ Fw C6
def Zs3:AK PG (Ro Fw C6):=G_ (rs:=[102]) rfl ⟨r_track_Place.out,O_,trivial⟩ rfl (Cu rfl (E6 Hu))
def Zq9 (vars : List AC) (R : Type) (K : TV -> Mem -> Option R) : Ew PG (Ro Fw C6) 64 163 [TV.v false [AC.ptr 20000 0]] ⟨[(20000, (⟨179, (cR 0 vars)⟩ : Box))], []⟩ K = Ew PG (Ro Fw C6) 64 163 [TV.v false [AC.ptr 20000 0]] ⟨[(20000, (⟨179, (cR 0 vars)⟩ : Box))], []⟩ (λv _ => K v ⟨[(20000, (⟨179, (cR 0 vars)⟩ : Box))], []⟩) := de (b := ((C6 (cR 0 vars)).bind λo2 =>
 (Fw [.vC An (wA vars 44),jA vars 45,jA vars 46,jA vars 47,jA vars 48,jA vars 49,jA o2 0]).bind λo3=>
 K (TV.v false [jA o3 0]) ⟨[(20000,(⟨179,(cR 0 vars)⟩:Box))],[]⟩)) (by kernel_rfl) (Eq.symm (by kernel_rfl))
def Oz:Bx PG (163,ET Qic Qvf De):=RE (C:=Ro Fw C6) (L:=64) (by kernel_rfl) (FnOK.bare rfl rfl rfl) Zs3 eqOk FX (by kernel_rfl) (by kernel_rfl) (λvars R K=>Zq9 vars R K)
instance:RI (Ok De):=⟨Oz⟩
def Qgi:Sk:=⟨[tf [sc 20000 0],tf [sc 20001 0],tf [ci]],[(20000,179,cS),(20001,61,[sa kPt,sa Aa]++cc 7)],[]⟩
def Qfi:Sk:=⟨[TS.tup []],[(20000,179,cS),(20001,61,[sa kPt,sa Aa]++cc 7)],[]⟩
def Q5k:=qa 110 Qgi Qfi
def Qbv (D G I L M:Fn):Cfg:=cr [RD D,Q93 G,Qku I,Ok L,O8 M] [165,163,102] [163,102]
def Yq (D G I L M:Fn):Fn:=mF (Qbv D G I L M) 110 Qgi Qfi
abbrev Tr (c:Cv) (Y:Fn) (L:List AC) (K:Kf) (V:Fn) (X:List AC) (O:Int) (U:Rw) (G:AC):Option (List AC):=
 cond (c.way==0) ((Y (jA L 0::Ac K c)).bind λD=>
 (V [jA D 38,jA D 39,jA D 40, .vC Ai (wA D 41), .vC kPt (wA D 42),jA D 1,jA D 2,jA D 3,jA D 4,jA D 5,jA D 6,jA D 7,jA D 8,jA D 9, .vC Aa (wA D 10),jA D 11,jA D 12,jA D 13,jA D 14,jA D 15,jA D 16,jA D 17,jA D 18,jA D 19, .vC Aa (wA D 20),jA D 21,jA D 22,jA D 23,jA D 24,jA D 25,jA D 26,jA D 27,jA D 28,jA D 29, .vC Aa (wA D 30), .vC An (wA D 45),jA D 46,jA D 47,jA D 48,jA D 49,jA D 50,jA X 0]).bind λM=>
 some (cR 1 D++[G, .vC Aa (wA D 0),I O,jA L 0,jA M 0,jA M 1,jA M 2,jA D 68,jA D 63])) ((V (pxt K.p K.x K.t [jA X 0])).bind λN=>
 some (Ac K c++[G, .vC Aa U,I O,jA L 0,jA N 0,jA N 1,jA N 2,I c.s3,I c.g1]))
def Z5e (N O Qd Bt A_:Fn) (x0:Int) (L D:Rw) (G U V X Y a0 a1:Int) (K:Kf) (c:Cv):Yq N O Qd Bt A_ (I x0::(Ac K c++[.vC kPt L, .vC Aa D,I G,I U,I V,I X,I Y,I a0,I a1]))=
 (A_ (Ac K c)).bind λo9=>
 (Bt (Ac K c)).bind λM=>
 cond (!c.aL) ((Qd (pxt K.p K.x K.t [I x0,jA o9 0])).bind λa2=>
 Tr c O M K N o9 G D (.vC kPt (wA a2 0))) (Tr c O M K N o9 G D (.vC kPt L)):=by kernel_rfl
def LW:=Yq E_ OL Jz De C6
def Zxk:AK PG (Qbv E_ OL Jz De C6):=G_ (rs:=[163,102]) rfl ⟨r_track_Motors.out,r_controller_Controller_pass.out,r_pulse_Between.out,Oz,O_,trivial⟩ rfl (Cu rfl (Cu rfl (Cu rfl (E6 (E6 Hu)))))
def Qoa:Bx PG (Q5k LW):=(rw1 (Qbv E_ OL Jz De C6) Zxk).out
instance:RI (Q5k LW):=⟨Qoa⟩
def Zee:Sk:=⟨[TS.tup []],[(20000,179,cS)],[]⟩
def Uy:=qa 161 Qic Zee
def Qjg:Fn:=mF Qy3 161 Qic Zee
theorem Zvl (K:Kf) (c:Cv):Qjg (Ac K c)=
 cond (c.g0==0) (some (Ac K {c with o2:=true,g0:=1,g1:=18,g2:= -1})) (some (Ac K c)):=by kernel_rfl
def IP:=Qjg
instance r_controller_Controller_fault:RI (Uy IP):=rw1 Qy3
def Q81:Sk:=⟨[tT [ci,ci,ci],tf [ci]],[],[]⟩
def Y4:=qa 239 Q81 Qvf
def Qge:Fn:=mF Qy3 239 Q81 Qvf
theorem Q2e:Qge [I a,I b,I c,I d]=
 cond (decide (d<=0)) (some [I 0]) (cond (decide (b<=0)) (some [I 0]) (cond (decide (b=0)) (none) (some [I (O (O (O ((O (d-1)).tdiv b)*d)-O (b*O ((O (O ((O (d-1)).tdiv b)*O (O ((O (d-1)).tdiv b)+1))).tdiv 2))))]))):=by kernel_rfl
def JG:=Qge
instance:RI (Y4 JG):=rw1 Qy3
def Uz:=qa 146 Qwz Zkh
def Q2h:Fn:=mF Qy3 146 Qwz Zkh
theorem Ydk:Q2h [I a,I b,I c]=
 cond (decide (1<=a)) (cond (decide (a<=65536)) (cond (decide (2<=b)) (cond (decide (b<=65536)) (cond (decide (1<=c)) (some [B (decide (c<=16777216))]) (some [B false])) (some [B false])) (some [B false])) (some [B false])) (some [B false]):=by kernel_rfl
def GC:=Q2h
instance:RI (Uz GC):=rw1 Qy3
def Q4n:Sk:=⟨[tT [ci,ci,ci],tf [ci],tf [ci]],[],[]⟩
def UX:=qa 206 Q4n Qvf
def Qza (D G:Fn):Cfg:=cf [Y4 D,Uz G]
def Q5d:Sk:=⟨[td,tf [ci],td,tf [sc 3 0],td,td,td,tf [ci],tf [ci]]++dd 49,[(3,36,[ci,ci,ci])],[]⟩
def Qzo:List (Ex×Sk):=[(Ex.exit 0,⟨dd 7++[tf [ci]]++dd 50,[],[]⟩)]
def Oq (D G:Fn):Lp:=sL (Qza D G) 206 4 Q5d Qzo
def Q9k (D G:Fn) (I:Lp):Cfg:=(Qza D G).loop 4 Q5d Qzo I
def Vl (D G:Fn) (I:Lp):Fn:=mF (Q9k D G I) 206 Q4n Qvf
theorem Y8 (V X:Fn) (L G D M N U:Int):Oq V X [I L,I G,I D,I M,I N,I U]=
 cond (decide (G<D)) ((V [I M,I N,I U,I (O (D-O ((O (D-G)).tdiv 2)))]).bind λo4=>
 cond (decide (O (L-O (D-O ((O (D-G)).tdiv 2)))>=gA o4 0)) (some (0,[I L,I (O (D-O ((O (D-G)).tdiv 2))),I D,I M,I N,I U])) (some (0,[I L,I G,I (O (O (D-O ((O (D-G)).tdiv 2))-1)),I M,I N,I U]))) (some (1,[I G])):=by kernel_rfl
theorem Zi6:Vl G H Z [I a,I b,I c,I d,I e]=
 (H [I a,I b,I c]).bind λY=>
 cond (!bA Y 0) (some [I 0]) (cond (decide (mx e d>1099511627776)) (some [I 0]) (cond (decide (mn e d< -1099511627776)) (some [I 0]) ((Z [I d,I (O (O (0-e)-b)),I (mn (O (b-e)) a),I a,I b,I c]).bind λo6=>
 cond (o6.1.beq 1) (some [I (O (0-gA o6.2 0))]) (none)))):=by kernel_rfl
def Qzv:=Ak (Oq JG GC)
def Hp:=Vl JG GC Qzv
instance:RI (UX Hp):=rw2 (Q9k JG GC Qzv) (fl fb)
def Zae:Sk:=⟨[tf [sa Aa],tf [ci]],[],[]⟩
def Qlm:=qa 298 Zae Zkh
def Qm5:Sk:=⟨[td,tf [ci],td,td,td,td,td,tf [sa Aa],tf [ci],tf [ci]]++dd 13,[],[]⟩
def Qnm:List (Ex×Sk):=[(Ex.ret,⟨[td,td,td,td,tf [sb]]++dd 18,[],[]⟩),(Ex.exit 0,⟨[td]++dd 22,[],[]⟩)]
def Yb:Lp:=sL Qy3 298 2 Qm5 Qnm
def Zgf (D:Lp):Cfg:=Qy3.loop 2 Qm5 Qnm D
def XW (D:Lp):Fn:=mF (Zgf D) 298 Zae Zkh
theorem Z4s:Yb [I a, .vC Aa A,I b,I c]=
 cond (decide (c<b)) (cond (decide (0<=c)&&decide (c<(A.length:Int))) (cond (decide (gA (nth [] A c.toNat) 0>a)) (some (1,[B false])) (cond (decide (gA (nth [] A c.toNat) 0<O (0-a))) (some (1,[B false])) (some (0,[I a, .vC Aa A,I b,I (O (c+1))])))) (none)) (some (2,[])):=by kernel_rfl
theorem Zp9:XW Z [.vC Aa A,I a]=
 (Z [I a, .vC Aa A,I (A.length:Int),I 0]).bind λo1=>
 cond (o1.1.beq 1) (some [B (bA o1.2 0)]) (cond (o1.1.beq 2) (some [B true]) (none)):=by kernel_rfl
def Zjr:=Ak (Yb)
def UT:=XW Zjr
instance:RI (Qlm UT):=rw2 (Zgf Zjr) (fl fb)
def Q6v:Sk:=⟨[tf [sa Aa]],[],[]⟩
def Qz5:=qa 297 Q6v Q6v
def C_limits_Differences_0:Cfg:={cf []with prom:=λb=>cond (Nat.beq b 3) ([(3,3)]) ([])}
def Qkg:Sk:=⟨[tf [sa Aa],td,td,tf [sd 3 1],tf [ci]]++dd 20,[],[(3,3,Aa)]⟩
def Zh0:List (Ex×Sk):=[(Ex.exit 0,⟨[td,td,td,tf [sd 3 1]]++dd 21,[],[(3,3,Aa)]⟩)]
def Qj5:Lp:=sL C_limits_Differences_0 297 3 Qkg Zh0
def Q4m (D:Lp):Cfg:=C_limits_Differences_0.loop 3 Qkg Zh0 D
def Zp (D:Lp):Fn:=mF (Q4m D) 297 Q6v Q6v
theorem Z6s:Qj5 [.vC Aa A, .vC Aa C,I a]=
 cond (decide (a<(C.length:Int))) (cond (decide (0<=a)&&decide (a<(C.length:Int))) (cond (decide (0<=O (a-1))&&decide (O (a-1)<(C.length:Int))) (cond (((A++[[I (O (gA (nth [] C a.toNat) 0-gA (nth [] C (O (a-1)).toNat) 0))]]).length*8).ble 140737488355328) (some (0,[.vC Aa (A++[[I (O (gA (nth [] C a.toNat) 0-gA (nth [] C (O (a-1)).toNat) 0))]]), .vC Aa C,I (O (a+1))])) (none)) (none)) (none)) (some (1,[.vC Aa A])):=by kernel_rfl
theorem Zw3:Zp Z [.vC Aa A]=
 (Z [.vC Aa [], .vC Aa A,I 1]).bind λo1=>
 cond (o1.1.beq 1) (some [.vC Aa (wA o1.2 0)]) (none):=by kernel_rfl
def Zii:=Ak (Qj5)
def XA:=Zp Zii
instance:RI (Qz5 XA):=rw2 (Q4m Zii) (fl fb)
def Q0s:Sk:=⟨[tT (cc 9++[sa Aa]),tf [sa Aa]],[],[]⟩
def Zi4:=qa 290 Q0s Zkh
def Ziw (D G:Fn):Cfg:={cf [Qlm D,Qz5 G]with unroll:=[2]}
def Qcj (D G:Fn):Fn:=mF (Ziw D G) 290 Q0s Zkh
theorem Yfb:Qcj G H [I a,I b,I c,I d,I e,I f,I g,I h,I i, .vC Aa A, .vC Aa C]=
 (H [.vC Aa C]).bind λo6=>
 (G [.vC Aa (wA o6 0),I b]).bind λo7=>
 cond (!bA o7 0) (some [B false]) ((H [.vC Aa (wA o6 0)]).bind λo8=>
 (G [.vC Aa (wA o8 0),I c]).bind λo9=>
 cond (!bA o9 0) (some [B false]) ((H [.vC Aa (wA o8 0)]).bind λM=>
 (G [.vC Aa (wA M 0),I d]).bind λN=>
 cond (!bA N 0) (some [B false]) (some [B true]))):=by kernel_rfl
def QV:=Qcj UT XA
instance:RI (Zi4 QV):=rw1 (Ziw UT XA)
def Zk4:Sk:=⟨[tT cX,tf [sa kPt]],[],[]⟩
def Zbk:=qa 268 Zk4 Zkh
def Qrt (D:Fn):Cfg:=cf [Zi4 D]
def Q1u:Sk:=⟨[td,tf [sa kPt],tf [sc 2 0],td,td,tf [ci],tf [sd 13 1],td,tf [ci]]++dd 6++[tf [ci],tf [ci]]++dd 19,[(2,34,cX)],[(13,3,Aa)]⟩
def Zhm:List (Ex×Sk):=[(Ex.exit 2,⟨[td,tf [sa kPt],tf [sc 2 0],td,td,tf [ci],tf [sd 13 1],td,tf [ci]]++dd 27,[(2,34,cX)],[(13,3,Aa)]⟩)]
def NJ (D:Fn):Lp:=sL (Qrt D) 268 6 Q1u Zhm
def Qzh (D:Fn) (G:Lp):Cfg:=(Qrt D).loop 6 Q1u Zhm G
def Qyu:Sk:=⟨[td,tf [sa kPt],tf [sc 2 0],td,td,td,td,td,tf [ci]]++dd 27,[(2,34,cX)],[]⟩
def Zhd:List (Ex×Sk):=[(Ex.ret,⟨[td,td,td,td,tf [sb]]++dd 31,[],[]⟩),(Ex.exit 0,⟨[td]++dd 35,[],[]⟩)]
def U3 (D:Fn) (G:Lp):Lp:=sL (Qzh D G) 268 2 Qyu Zhd
def Q2a (D:Fn) (G I:Lp):Cfg:=(Qzh D G).loop 2 Qyu Zhd I
def Vx (D:Fn) (G I:Lp):Fn:=mF (Q2a D G I) 268 Zk4 Zkh
theorem Zym (a2 v33 a3:Int) (v35:Rw):NJ G [.vC Aa A, .vC kPt C,I a,I b,I c,I d,I e,I f,I g,I h,I i,I j,I k,I l,I m, .vC Aa E,I n,I o,I p,I q,I r,I s,I t,I u,I v, .vC Aa F,I w,I x,I y,I z,I α,I β,I a2,I v33,I a3, .vC Aa v35]=
 cond (decide (d<c)) (cond (decide (0<=d)&&decide (d<(C.length:Int))) (cond (decide (a=(↑0:Int))) (cond (decide (0<=d)&&decide (d<(A.length:Int))) (some (0,[.vC Aa (A.set d.toNat [jA (nth [] C d.toNat) 0]), .vC kPt C,I a,I b,I c,I (O (d+1)),I e,I f,I g,I h,I i,I j,I k,I l,I m, .vC Aa E,I n,I o,I p,I q,I r,I s,I t,I u,I v, .vC Aa F,I w,I x,I y,I z,I α,I β,I a2,I v33,I a3, .vC Aa v35])) (none)) (cond (decide (a=(↑(0+1):Int))) (cond (decide (0<=d)&&decide (d<(A.length:Int))) (some (0,[.vC Aa (A.set d.toNat [jA (nth [] C d.toNat) 1]), .vC kPt C,I a,I b,I c,I (O (d+1)),I e,I f,I g,I h,I i,I j,I k,I l,I m, .vC Aa E,I n,I o,I p,I q,I r,I s,I t,I u,I v, .vC Aa F,I w,I x,I y,I z,I α,I β,I a2,I v33,I a3, .vC Aa v35])) (none)) (cond (decide (a=(↑(0+1+1):Int))) (cond (decide (0<=d)&&decide (d<(A.length:Int))) (some (0,[.vC Aa (A.set d.toNat [jA (nth [] C d.toNat) 2]), .vC kPt C,I a,I b,I c,I (O (d+1)),I e,I f,I g,I h,I i,I j,I k,I l,I m, .vC Aa E,I n,I o,I p,I q,I r,I s,I t,I u,I v, .vC Aa F,I w,I x,I y,I z,I α,I β,I a2,I v33,I a3, .vC Aa v35])) (none)) (none)))) (none)) (some (1,[.vC Aa A, .vC kPt C,I a,I b,I e,I f,I g,I h,I i,I j,I k,I l,I m, .vC Aa E,I n,I o,I p,I q,I r,I s,I t,I u,I v, .vC Aa F,I w,I x,I y,I z,I α,I β,I a2,I v33,I a3, .vC Aa v35])):=by kernel_rfl
abbrev TL (D:Nat×List AC) (G:Bool):Option (Nat×List AC):=
 cond (G) (some (1,[B false])) (some (0,[.vC kPt (wA D.2 1),I (O (gA D.2 3+1)),jA D.2 4,jA D.2 5,jA D.2 6,jA D.2 7,jA D.2 8,jA D.2 9,jA D.2 10,jA D.2 11,jA D.2 12, .vC Aa (wA D.2 13),jA D.2 14,jA D.2 15,jA D.2 16,jA D.2 17,jA D.2 18,jA D.2 19,jA D.2 20,jA D.2 21,jA D.2 22, .vC Aa (wA D.2 23),jA D.2 24,jA D.2 25,jA D.2 26,jA D.2 27,jA D.2 28,jA D.2 29,jA D.2 30,jA D.2 31,jA D.2 32, .vC Aa (wA D.2 33)]))
theorem Zvj:U3 G Z [.vC kPt A,I a,I b,I c,I d,I e,I f,I g,I h,I i,I j, .vC Aa C,I k,I l,I m,I n,I o,I p,I q,I r,I s, .vC Aa E,I t,I u,I v,I w,I x,I y,I z,I α,I β, .vC Aa F]=
 cond (decide (a<3)) (cond (decide ((A.length:Int)=(A.length:Int))) (cond (decide (0<=(A.length:Int))&&decide ((A.length:Int)*(↑8:Int)<=140737488355328)) ((Z [.vC Aa (List.replicate (A.length:Int).toNat [I 0]), .vC kPt A,I a,I a,I (A.length:Int),I 0,I b,I c,I d,I e,I f,I g,I h,I i,I j, .vC Aa C,I k,I l,I m,I n,I o,I p,I q,I r,I s, .vC Aa E,I t,I u,I v,I w,I x,I y,I z,I α,I β, .vC Aa F]).bind λD=>
 cond (D.1.beq 1) (cond (decide (gA D.2 2=(↑0:Int))) ((G [jA D.2 4,jA D.2 5,jA D.2 6,jA D.2 7,jA D.2 8,jA D.2 9,jA D.2 10,jA D.2 11,jA D.2 12, .vC Aa (wA D.2 13), .vC Aa (wA D.2 0)]).bind λo6=>
 TL D (!bA o6 0)) (cond (decide (gA D.2 2=(↑(0+1):Int))) ((G [jA D.2 14,jA D.2 15,jA D.2 16,jA D.2 17,jA D.2 18,jA D.2 19,jA D.2 20,jA D.2 21,jA D.2 22, .vC Aa (wA D.2 23), .vC Aa (wA D.2 0)]).bind λo7=>
 TL D (!bA o7 0)) (cond (decide (gA D.2 2=(↑(0+1+1):Int))) ((G [jA D.2 24,jA D.2 25,jA D.2 26,jA D.2 27,jA D.2 28,jA D.2 29,jA D.2 30,jA D.2 31,jA D.2 32, .vC Aa (wA D.2 33), .vC Aa (wA D.2 0)]).bind λo8=>
 TL D (!bA o8 0)) (none)))) (none)) (none)) (none)) (some (2,[])):=by kernel_rfl
theorem Zth (N2:Lp):Vx G Z N2 [I a,I b,I c,I d,I e,I f,I g,I h,I i, .vC Aa A,I j,I k,I l,I m,I n,I o,I p,I q,I r, .vC Aa C,I s,I t,I u,I v,I w,I x,I y,I z,I α, .vC Aa E, .vC kPt F]=
 (N2 [.vC kPt F,I 0,I a,I b,I c,I d,I e,I f,I g,I h,I i, .vC Aa A,I j,I k,I l,I m,I n,I o,I p,I q,I r, .vC Aa C,I s,I t,I u,I v,I w,I x,I y,I z,I α, .vC Aa E]).bind λo9=>
 cond (o9.1.beq 1) (some [B (bA o9.2 0)]) (cond (o9.1.beq 2) (some [B true]) (none)):=by kernel_rfl
def ZU:=Ak (NJ QV)
def Zik:=Ak (U3 QV ZU)
def Rs:=Vx QV ZU Zik
instance:RI (Zbk Rs):=rw2 (Q2a QV ZU Zik) (fl (fl fb))
def Qcx:=qa 266 Qvf Qvf
def Qie:Fn:=mF Qy3 266 Qvf Qvf
theorem Ycj:Qie [I a]=
 cond (decide (a.tmod 256<0)) (some [I (O (O (a.tdiv 256)-1))]) (some [I (O (a.tdiv 256))]):=by kernel_rfl
def Mc:=Qie
instance:RI (Qcx Mc):=rw1 Qy3
def Q8g:Sk:=⟨[tT [ci,ci,ci,sa Ai,sa kPt],tT cX,tT ([sa An]++cc 5),tf [sa Aa]],[],[]⟩
def Qki:=qa 242 Q8g Zkh
def Zf2 (D G I:Fn):Cfg:={cf [Zbk D,RD G,Qcx I]with lend:=λf=>AV [268] f,cuts:=[30],prom:=λb=>cond (Nat.beq b 3) ([(9,41)]) ([])}
def Q1e:Sk:=⟨[td,td,td,td,tf [sc 4 0],tf [sc 5 0],tf [sc 6 0],td,td,tf [sd 9 3],td,td,tf [sa Aa],tf [ci],tf [ci]]++dd 22,[(4,46,[ci,ci,ci,sa Ai,sa kPt]),(5,34,cX),(6,52,[sa An]++cc 5)],[(9,41,kPt)]⟩
def Qpf:List (Ex×Sk):=[(Ex.ret,⟨dd 8++[tf [sb]]++dd 28,[],[]⟩),(Ex.exit 0,⟨[td]++dd 36,[],[]⟩)]
def Qad (D G I:Fn):Lp:=sL (Zf2 D G I) 242 3 Q1e Qpf
def Qwa (D G I:Fn) (L:Lp):Cfg:=(Zf2 D G I).loop 3 Q1e Qpf L
def Qd4 (D G I:Fn) (L:Lp):Fn:=mF (Qwa D G I L) 242 Q8g Zkh
theorem Z6u (p:Pth) (x:Ax3) (t:Trk):Qad G H J (.vC kPt A:: .vC Aa C::I a::I b::pxt p x t [])=
 cond (decide (b<a)) (cond (decide (0<=b)&&decide (b<(C.length:Int))) ((J [jA (nth [] C b.toNat) 0]).bind λo8=>
 (H (pxt p x t [jA o8 0])).bind λD=>
 cond (((A++[[jA D 0,jA D 1,jA D 2]]).length*24).ble 140737488355328) (cond (decide ((↑(A++[[jA D 0,jA D 1,jA D 2]]).length:Int)>4)) (cond (decide (0<=1)&&decide (1<=(↑(A++[[jA D 0,jA D 1,jA D 2]]).length:Int))) (cond ((Int.toNat 1).ble (A++[[jA D 0,jA D 1,jA D 2]]).length) ((G (AF x++[.vC kPt (List.drop (Int.toNat 1) (A++[[jA D 0,jA D 1,jA D 2]]))])).bind λV=>
 cond (!bA V 0) (some (1,[B false])) (some (0,(.vC kPt (List.drop (Int.toNat 1) (A++[[jA D 0,jA D 1,jA D 2]])):: .vC Aa C::I a::I (O (b+1))::pxt p x t [])))) (none)) (none)) ((G (AF x++[.vC kPt (A++[[jA D 0,jA D 1,jA D 2]])])).bind λX=>
 cond (!bA X 0) (some (1,[B false])) (some (0,(.vC kPt (A++[[jA D 0,jA D 1,jA D 2]]):: .vC Aa C::I a::I (O (b+1))::pxt p x t []))))) (none)) (none)) (some (2,[])):=by kernel_rfl
theorem Zt4 (p:Pth) (x:Ax3) (t:Trk):Qd4 H J K Z (pxt p x t [.vC Aa A])=
 (Z (.vC kPt []:: .vC Aa A::I (A.length:Int)::I 0::pxt p x t [])).bind λG=>
 cond (G.1.beq 1) (some [B (bA G.2 0)]) (cond (G.1.beq 2) (some [B true]) (none)):=by kernel_rfl
def Q7f:=Ak (Qad Rs E_ Mc)
def VZ:=Qd4 Rs E_ Mc Q7f
instance:RI (Qki VZ):=rw2 (Qwa Rs E_ Mc Q7f) (fl fb)
def Qkb:=qa 202 Q4n Zkh
def Q5g (D:Fn):Cfg:=cf [Y4 D]
def Vr (D:Fn):Fn:=mF (Q5g D) 202 Q4n Zkh
theorem Qtw:Vr G [I a,I b,I c,I d,I e]=
 cond (decide (e<O (0-a))) (some [B false]) (cond (decide (e>a)) (some [B false]) (cond (d==0) (cond (decide (e>b)) (some [B false]) ((G [I a,I b,I c,I (O (0-e))]).bind λo4=>
 cond (decide (d>=gA o4 0)) ((G [I a,I b,I c,I e]).bind λV=>
 some [B (decide (d<=O (16777216-gA V 0)))]) (some [B false]))) ((G [I a,I b,I c,I (O (0-e))]).bind λo6=>
 cond (decide (d>=gA o6 0)) ((G [I a,I b,I c,I e]).bind λX=>
 some [B (decide (d<=O (16777216-gA X 0)))]) (some [B false])))):=by kernel_rfl
def Ju:=Vr JG
instance:RI (Qkb Ju):=rw1 (Q5g JG)
def Zl5:Sk:=⟨[TS.tup [(false,[sa Aa]),(false,[sb])]],[],[]⟩
def Q0w:=qa 265 Q4n Zl5
def Qn9 (D G I:Fn):Cfg:={cf [UX D,Qkb G,Uz I]with prom:=λb=>cond (Nat.beq b 4) ([(8,3)]) ([])}
def Q6b:Sk:=⟨[td,tf [ci],tf [ci],tf [sc 3 0],td,td,td,td,tf [sd 8 1]]++dd 27,[(3,36,[ci,ci,ci])],[(8,3,Aa)]⟩
def Zaw:List (Ex×Sk):=[(Ex.ret,⟨dd 6++[tf [CS.nil],tf [sb]]++dd 28,[],[]⟩),(Ex.exit 0,⟨dd 8++[tf [sd 8 1]]++dd 27,[],[(8,3,Aa)]⟩)]
def KM (D G I:Fn):Lp:=sL (Qn9 D G I) 265 4 Q6b Zaw
def Q2i (D G I:Fn) (L:Lp):Cfg:=(Qn9 D G I).loop 4 Q6b Zaw L
def V1 (D G I:Fn) (L:Lp):Fn:=mF (Q2i D G I L) 265 Q4n Zl5
theorem VL (V Y B6:Fn) (G:Rw) (D X M N U:Int):KM V Y B6 [.vC Aa G,I D,I X,I M,I N,I U]=
 cond (decide (D>0)) (cond ((G.length:Int)==4096) (some (1,[B false])) ((V [I M,I N,I U,I D,I X]).bind λL=>
 cond (((G++[[I (O (D+gA L 0))]]).length*8).ble 140737488355328) (some (0,[.vC Aa (G++[[I (O (D+gA L 0))]]),I (O (D+gA L 0)),jA L 0,I M,I N,I U])) (none))) (some (2,[.vC Aa G])):=by kernel_rfl
theorem Qmu:V1 G H J Z [I a,I b,I c,I d,I e]=
 (J [I a,I b,I c]).bind λU=>
 cond (!bA U 0) (some [.vC Aa [],B false]) ((H [I a,I b,I c,I d,I e]).bind λV=>
 cond (!bA V 0) (some [.vC Aa [],B false]) ((Z [.vC Aa [],I d,I e,I a,I b,I c]).bind λD=>
 cond (D.1.beq 1) (some [.vC Aa [],B (bA D.2 0)]) (cond (D.1.beq 2) (some [.vC Aa (wA D.2 0),B true]) (none)))):=by kernel_rfl
def Q9w:=Ak (KM Hp Ju GC)
def PT:=V1 Hp Ju GC Q9w
instance:RI (Q0w PT):=rw2 (Q2i Hp Ju GC Q9w) (fl fb)
def Q50:Sk:=⟨[tT [ci,ci,ci],tT (cc 6)],[],[]⟩
def UG:=qa 240 Q50 Zl5
def Q8y (D:Fn):Cfg:=cf [Q0w D]
def Zch:Sk:=⟨dd 8++[tf [sd 25 1],tf [ci]]++dd 18++[tf [sa Aa],tf [ci],tf [ci]]++dd 13,[],[(25,3,Aa)]⟩
def Zds:List (Ex×Sk):=[(Ex.exit 0,⟨dd 8++[tf [sd 25 1]]++dd 35,[],[(25,3,Aa)]⟩)]
def R3 (D:Fn):Lp:=sL (Q8y D) 240 7 Zch Zds
def Q5n (D:Fn) (G:Lp):Cfg:=(Q8y D).loop 7 Zch Zds G
def Xz (D:Fn) (G:Lp):Fn:=mF (Q5n D G) 240 Q50 Zl5
theorem Z2f:R3 G [.vC Aa A,I a, .vC Aa C,I b,I c]=
 cond (decide (c<b)) (cond (decide (0<=c)&&decide (c<(C.length:Int))) (cond (decide (0<=c)&&decide (c<(A.length:Int))) (some (0,[.vC Aa (A.set c.toNat [I (O (a+gA (nth [] C c.toNat) 0))]),I (O (a+gA (nth [] C c.toNat) 0)), .vC Aa C,I b,I (O (c+1))])) (none)) (none)) (some (1,[.vC Aa A])):=by kernel_rfl
theorem Q19:Xz G Z [I a,I b,I c,I d,I e,I f,I g,I h,I i]=
 (G [I a,I b,I c,I e,I f]).bind λo3=>
 cond (!bA o3 1) (some [.vC Aa [],B false]) (cond (decide ((↑(wA o3 0).length:Int)=(↑(wA o3 0).length:Int))) (cond (decide (0<=(↑(wA o3 0).length:Int))&&decide ((↑(wA o3 0).length:Int)*(↑8:Int)<=140737488355328)) ((Z [.vC Aa (List.replicate (↑(wA o3 0).length:Int).toNat [I 0]),I d, .vC Aa (wA o3 0),I (↑(wA o3 0).length:Int),I 0]).bind λo4=>
 cond (o4.1.beq 1) (some [.vC Aa (wA o4.2 0),B true]) (none)) (none)) (none)):=by kernel_rfl
def Qrw:=Ak (R3 PT)
def Is:=Xz PT Qrw
instance:RI (UG Is):=rw2 (Q5n PT Qrw) (fl fb)
def Zfu:Sk:=⟨[tT [ci,ci,ci,sa Ai,sa kPt],tT cX,tT ([sa An]++cc 5),tT [ci,ci,ci],tT (cc 6),tf [ci]],[],[]⟩
def Qib:=qa 205 Zfu Zkh
def Qtm (D G:Fn):Cfg:={cf [Qki D,UG G]with rowDst:=[48]}
def Qav (D G:Fn):Fn:=mF (Qtm D G) 205 Zfu Zkh
theorem Zpl (p:Pth) (x:Ax3) (t:Trk):Qav G H (pxt p x t [I a,I b,I c,I d,I e,I f,I g,I h,I i,I j])=
 (H [I a,I b,I c,I d,I e,I f,I g,I h,I i]).bind λo3=>
 cond (!bA o3 1) (some [B false]) (cond (decide ((↑(wA o3 0).length:Int)>0)) (cond (decide (0<=O ((↑(wA o3 0).length:Int)-1))&&decide (O ((↑(wA o3 0).length:Int)-1)<(↑(wA o3 0).length:Int))) (cond (decide (Af (nth .vD (nth [] (wA o3 0) (O ((↑(wA o3 0).length:Int)-1)).toNat) 0)>O (j*256))) (some [B false]) (cond ((([[I i],[I h],[I g],[I d]]++wA o3 0).length*8).ble 140737488355328) (cond ((([[I i],[I h],[I g],[I d]]++wA o3 0++[[I (Af (nth .vD (nth [] (wA o3 0) (O ((↑(wA o3 0).length:Int)-1)).toNat) 0))],[I (Af (nth .vD (nth [] (wA o3 0) (O ((↑(wA o3 0).length:Int)-1)).toNat) 0))]]).length*8).ble 140737488355328) ((G (pxt p x t [.vC Aa ([[I i],[I h],[I g],[I d]]++wA o3 0++[[I (Af (nth .vD (nth [] (wA o3 0) (O ((↑(wA o3 0).length:Int)-1)).toNat) 0))],[I (Af (nth .vD (nth [] (wA o3 0) (O ((↑(wA o3 0).length:Int)-1)).toNat) 0))]])])).bind λo4=>
 some [B (bA o4 0)]) (none)) (none))) (none)) (cond (decide (d>O (j*256))) (some [B false]) (cond ((([[I i],[I h],[I g],[I d]]++wA o3 0).length*8).ble 140737488355328) (cond ((([[I i],[I h],[I g],[I d]]++wA o3 0++[[I d],[I d]]).length*8).ble 140737488355328) ((G (pxt p x t [.vC Aa ([[I i],[I h],[I g],[I d]]++wA o3 0++[[I d],[I d]])])).bind λo5=>
 some [B (bA o5 0)]) (none)) (none)))):=by kernel_rfl
def NC:=Qav VZ Is
instance:RI (Qib NC):=rw1 (Qtm VZ Is)
def Zjw:Sk:=⟨[tT [ci,ci,sb,sb,sb],tT [ci,ci,ci],tT (cc 7)],[],[]⟩
def Zbz:=qa 267 Zjw Qvf
def Qgl:Fn:=mF Qy3 267 Zjw Qvf
theorem Z9r (x4:Bool):Qgl [I a,I b,B X,B Y,B x4,I c,I d,I e,I f,I g,I h,I i,I j,I k,I l]=
 cond (X) (some [I 0]) (cond (l !=0) (some [I (mn (mx k 1) 16777216)]) (cond (k==0) (cond (b==0) (some [I 0]) (some [I (mn (mx (O ((O (e*b)).tdiv 100)) 1) 16777216)])) (cond (a==0) (some [I 0]) (some [I (mn (mx (O ((O (k*a)).tdiv 100)) 1) 16777216)])))):=by kernel_rfl
def V8:=Qgl
instance:RI (Zbz V8):=rw1 Qy3
def Q90:Sk:=⟨[tT [ci,ci,ci,sa Ai,sa kPt],tT ([sa An]++cc 5),tT [ci,ci,ci],tT [ci,ci,sb,sb,sb],tf [ci]],[],[]⟩
def Zbx:=qa 241 Q90 Qvf
def Q10 (D G I L:Fn):Cfg:=cf [Zbz D,Wq G,PX I,Qcx L]
def Qfw (D G I L:Fn):Fn:=mF (Q10 D G I L) 241 Q90 Qvf
theorem Zxa (V:Bool) (p:Pth) (t:Trk):Qfw G H J K (Fh p t [I a,I b,I c,I d,I e,B X,B Y,B V,I f])=
 (K [I f]).bind λo4=>
 (J (Bh t++[jA o4 0])).bind λo5=>
 (H (BG p++[jA o5 0])).bind λo6=>
 cond (decide (0<=gA o6 0)&&decide (gA o6 0<((p.aF.map At).length:Int))) ((G (I d::I e::B X::B Y::B V::I a::I b::I c::AX Ai (nth [] (p.aF.map At) (gA o6 0).toNat))).bind λo7=>
 some [jA o7 0]) (none):=by kernel_rfl
def RK:=Qfw V8 FJ Fw Mc
instance:RI (Zbx RK):=rw1 (Q10 V8 FJ Fw Mc)
def Qxk:Sk:=⟨[tT [ci,ci,ci,sa Ai,sa kPt],tT ([sa An]++cc 5),tT [ci,ci,ci],tT [ci,ci,sb,sb,sb],tT (cc 6)],[],[]⟩
def Qw0:=qa 204 Qxk Zkh
def Q2f (D G:Fn):Cfg:=cf [Zbx D,UG G]
def Qu2:Sk:=⟨[td,td,td,td,td,tf [sc 5 0],tf [sc 6 0],tf [sc 7 0],tf [sc 8 0],td,td,td,td,tf [ci]]++dd 30++[tf [sa Aa],tf [ci],tf [ci]]++dd 15,[(5,46,[ci,ci,ci,sa Ai,sa kPt]),(6,52,[sa An]++cc 5),(7,36,[ci,ci,ci]),(8,163,[ci,ci,sb,sb,sb])],[]⟩
def Ziq:List (Ex×Sk):=[(Ex.ret,⟨dd 10++[tf [sb]]++dd 51,[],[]⟩),(Ex.exit 0,⟨[td]++dd 61,[],[]⟩)]
def YT (D G:Fn):Lp:=sL (Q2f D G) 204 6 Qu2 Ziq
def Q9f (D G:Fn) (I:Lp):Cfg:=(Q2f D G).loop 6 Qu2 Ziq I
def Qey (D G:Fn) (I:Lp):Fn:=mF (Q9f D G I) 204 Qxk Zkh
theorem Zs6 (v22:Bool) (p:Pth) (t:Trk):YT G H (I a:: .vC Aa A::I b::I c::Fh p t [I d,I e,I f,I g,I h,B X,B Y,B v22])=
 cond (decide (c<b)) (cond (decide (0<=c)&&decide (c<(A.length:Int))) ((G (Fh p t [I d,I e,I f,I g,I h,B X,B Y,B v22,jA (nth [] A c.toNat) 0])).bind λo6=>
 cond (decide (O (gA (nth [] A c.toNat) 0-a)>gA o6 0)) (some (1,[B false])) (some (0,(jA (nth [] A c.toNat) 0:: .vC Aa A::I b::I (O (c+1))::Fh p t [I d,I e,I f,I g,I h,B X,B Y,B v22])))) (none)) (some (2,[])):=by kernel_rfl
theorem Ztz (Gz CX:Fn) (N6:Lp) (D G L N O:Int) (U V X:Bool) (M Y a0 a1 a2 a3:Int) (p:Pth) (t:Trk):Qey Gz CX N6 (Fh p t [I D,I G,I L,I N,I O,B U,B V,B X,I M,I Y,I a0,I a1,I a2,I a3])=
 (CX [I D,I G,I L,I M,I Y,I a0,I a1,I a2,I a3]).bind λo7=>
 cond (!bA o7 1) (some [B false]) (cond (((p.aF.map At).length:Int)==0) (some [B false]) ((Gz (Fh p t [I D,I G,I L,I N,I O,B U,B V,B X,I M])).bind λo8=>
 cond (decide (Y>gA o8 0)) (some [B false]) ((N6 (I M:: .vC Aa (wA o7 0)::I (↑(wA o7 0).length:Int)::I 0::Fh p t [I D,I G,I L,I N,I O,B U,B V,B X])).bind λo9=>
 cond (o9.1.beq 1) (some [B (bA o9.2 0)]) (cond (o9.1.beq 2) (some [B true]) (none))))):=by kernel_rfl
def Qzz:=Ak (YT RK Is)
def QB:=Qey RK Is Qzz
instance:RI (Qw0 QB):=rw2 (Q9f RK Is Qzz) (fl fb)
def Qw8:Sk:=⟨[tT (cc 6),tf [ci]],[],[]⟩
def Zb4:Sk:=⟨[tT (cc 6)],[],[]⟩
def Qe9:=qa 203 Qw8 Zb4
def XZ:Fn:=mF Qy3 203 Qw8 Zb4
theorem Z9z:XZ [I a,I b,I c,I d,I e,I f,I g]=
 some [I (O (a+g)),I g,I (O (g-b)),I a,I d,I e]:=by kernel_rfl
def Oc:=XZ
instance:RI (Qe9 Oc):=rw1 Qy3
def Q5h:=qa 201 Qvf Q6v
def Qo6:Sk:=⟨[td,td,td,tf [sd 3 1],tf [ci]]++dd 32,[],[(3,3,Aa)]⟩
def Qrf:List (Ex×Sk):=[(Ex.exit 0,⟨[td,td,td,tf [sd 3 1]]++dd 33,[],[(3,3,Aa)]⟩)]
def SA:Lp:=sL C_limits_Differences_0 201 3 Qo6 Qrf
def Zdj (D:Lp):Cfg:=C_limits_Differences_0.loop 3 Qo6 Qrf D
def Qxa:Sk:=⟨[td,td,td,tf [sd 3 1],td,tf [sd 16 1],tf [ci]]++dd 30,[],[(3,3,Aa),(16,3,Aa)]⟩
def Zgn:List (Ex×Sk):=[(Ex.exit 2,⟨[td,td,td,td,td,tf [sd 16 1]]++dd 31,[],[(16,3,Aa)]⟩)]
def TT (D:Lp):Lp:=sL (Zdj D) 201 8 Qxa Zgn
def Q9o (D G:Lp):Cfg:=(Zdj D).loop 8 Qxa Zgn G
def Z2 (D G:Lp):Fn:=mF (Q9o D G) 201 Qvf Q6v
theorem Zsd:SA [.vC Aa A,I a]=
 cond (decide (a>0)) (cond (((A++[[I a]]).length*8).ble 140737488355328) (some (0,[.vC Aa (A++[[I a]]),I (O (a.tdiv 2))])) (none)) (some (1,[.vC Aa A])):=by kernel_rfl
theorem Z69:TT Z [.vC Aa A, .vC Aa C,I a]=
 cond (decide (a>=0)) (cond (decide (0<=a)&&decide (a<(A.length:Int))) (cond (((C++[[I (O (0-gA (nth [] A a.toNat) 0))]]).length*8).ble 140737488355328) (some (0,[.vC Aa A, .vC Aa (C++[[I (O (0-gA (nth [] A a.toNat) 0))]]),I (O (a-1))])) (none)) (none)) (some (1,[.vC Aa C])):=by kernel_rfl
theorem Zyu (G:Lp):Z2 Z G [I a]=
 (Z [.vC Aa [],I a]).bind λo3=>
 cond (o3.1.beq 1) (cond ((([]++wA o3.2 0).length*8).ble 140737488355328) (cond ((([]++wA o3.2 0++[[I 0]]).length*8).ble 140737488355328) ((G [.vC Aa (wA o3.2 0), .vC Aa ([]++wA o3.2 0++[[I 0]]),I (O ((↑(wA o3.2 0).length:Int)-1))]).bind λo4=>
 cond (o4.1.beq 1) (some [.vC Aa (wA o4.2 0)]) (none)) (none)) (none)) (none):=by kernel_rfl
def Qi0:=Ak (SA)
def Q52:=Ak (TT Qi0)
def Tv:=Z2 Qi0 Q52
instance:RI (Q5h Tv):=rw2 (Q9o Qi0 Q52) (fl (fl fb))
def Zlq:Sk:=⟨[tT [ci,ci,ci,sa Ai,sa kPt],tT cX,tT ([sa An]++cc 5),tT [ci,ci,ci],tT [ci,ci,sb,sb,sb],tT (cc 6),tf [ci]],[],[]⟩
def Vy:=qa 157 Zlq Zb4
def Ze4 (D G I L M N:Fn):Cfg:=cf [UX D,Qib G,Qw0 I,Qe9 L,Qkb M,Q5h N]
def Q6d:Sk:=⟨dd 6++[tf [ci],tf [sc 7 0],tf [sc 8 0],tf [sc 9 0],tf [sc 10 0],tf [sc 11 0],tf [sc 12 0],td,tf [sc 14 0],tf [sc 15 0],tf [sb]]++dd 6++[tf [sa Aa],tf [ci],tf [ci]]++dd 57,[(7,46,[ci,ci,ci,sa Ai,sa kPt]),(8,34,cX),(9,52,[sa An]++cc 5),(10,36,[ci,ci,ci]),(11,163,[ci,ci,sb,sb,sb]),(12,171,cc 6),(14,171,cc 6),(15,171,cc 6)],[]⟩
def Q56:List (Ex×Sk):=[(Ex.exit 0,⟨dd 10++[tf [sc 10 0],td,tf [sc 12 0],td,tf [sc 14 0],tf [sc 15 0],tf [sb]]++dd 66,[(10,36,[ci,ci,ci]),(12,171,cc 6),(14,171,cc 6),(15,171,cc 6)],[]⟩)]
def Qhp (D G I L M N:Fn):Lp:=sL (Ze4 D G I L M N) 157 4 Q6d Q56
def Q41 (D G I L M N:Fn) (O:Lp):Cfg:=(Ze4 D G I L M N).loop 4 Q6d Q56 O
def Qg2 (D G I L M N:Fn) (O:Lp):Fn:=mF (Q41 D G I L M N O) 157 Zlq Zb4
theorem Z0s (BM D0 GW CO Db HU:Fn) (v0:Int) (v1:Bool) (v2:Rw) (v3 v4:Int) (v46 M v48 v49 a2:Int) (v51 a3 v53:Bool) (N L G U V v59 X Y a0 v63 a1 v65 a4 a5 v68 v69 v70 a6:Int) (p:Pth) (x:Ax3) (t:Trk):Qhp BM D0 GW CO Db HU (I v0::B v1:: .vC Aa v2::I v3::I v4::pxt p x t [I v46,I M,I v48,I v49,I a2,B v51,B a3,B v53,I N,I L,I G,I U,I V,I v59,I X,I Y,I a0,I v63,I a1,I v65,I a4,I a5,I v68,I v69,I v70,I a6])=
 cond (decide (v4<v3)) (cond (decide (0<=v4)&&decide (v4<(v2.length:Int))) (cond (decide (O (L+O (G+gA (nth [] v2 v4.toNat) 0))<0)) (some (0,(I v0::B v1:: .vC Aa v2::I v3::I (O (v4+1))::pxt p x t [I v46,I M,I v48,I v49,I a2,B v51,B a3,B v53,I N,I L,I G,I U,I V,I v59,I X,I Y,I a0,I v63,I a1,I v65,I a4,I a5,I v68,I v69,I v70,I a6]))) ((Db [I v46,I M,I v48,I (O (L+O (G+gA (nth [] v2 v4.toNat) 0))),I (O (G+gA (nth [] v2 v4.toNat) 0))]).bind λo9=>
 cond (!bA o9 0) (some (0,(I v0::B v1:: .vC Aa v2::I v3::I (O (v4+1))::pxt p x t [I v46,I M,I v48,I v49,I a2,B v51,B a3,B v53,I N,I L,I G,I U,I V,I v59,I X,I Y,I a0,I v63,I a1,I v65,I a4,I a5,I v68,I v69,I v70,I a6]))) ((CO [I N,I L,I G,I U,I V,I v59,I (O (L+O (G+gA (nth [] v2 v4.toNat) 0)))]).bind λD=>
 (GW (Fh p t [I v46,I M,I v48,I v49,I a2,B v51,B a3,B v53,jA D 0,jA D 1,jA D 2,jA D 3,jA D 4,jA D 5])).bind λa7=>
 cond (bA a7 0) ((D0 (pxt p x t [I v46,I M,I v48,jA D 0,jA D 1,jA D 2,jA D 3,jA D 4,jA D 5,I v0])).bind λa8=>
 cond (bA a8 0) (some (1,[B true,I v46,I M,I v48,I N,I L,I G,I U,I V,I v59,I X,I Y,I a0,I v63,I a1,I v65,jA D 0,jA D 1,jA D 2,jA D 3,jA D 4,jA D 5])) (some (0,(I v0::B v1:: .vC Aa v2::I v3::I (O (v4+1))::pxt p x t [I v46,I M,I v48,I v49,I a2,B v51,B a3,B v53,I N,I L,I G,I U,I V,I v59,I X,I Y,I a0,I v63,I a1,I v65,jA D 0,jA D 1,jA D 2,jA D 3,jA D 4,jA D 5])))) (some (0,(I v0::B v1:: .vC Aa v2::I v3::I (O (v4+1))::pxt p x t [I v46,I M,I v48,I v49,I a2,B v51,B a3,B v53,I N,I L,I G,I U,I V,I v59,I X,I Y,I a0,I v63,I a1,I v65,jA D 0,jA D 1,jA D 2,jA D 3,jA D 4,jA D 5])))))) (none)) (some (1,[B v1,I v46,I M,I v48,I N,I L,I G,I U,I V,I v59,I X,I Y,I a0,I v63,I a1,I v65,I a4,I a5,I v68,I v69,I v70,I a6])):=by kernel_rfl
theorem Z90 (a0:Bool) (p:Pth) (x:Ax3) (t:Trk):Qg2 H J K L M N Z (pxt p x t [I a,I b,I c,I d,I e,B X,B Y,B a0,I f,I g,I h,I i,I j,I k,I l])=
 (N [I b]).bind λa8=>
 (Z (I l::B false:: .vC Aa (wA a8 0)::I (↑(wA a8 0).length:Int)::I 0::pxt p x t [I a,I b,I c,I d,I e,B X,B Y,B a0,I f,I g,I h,I i,I j,I k,I 0,I 0,I 0,I 0,I 0,I 0,I 0,I 0,I 0,I 0,I 0,I 0])).bind λD=>
 cond (D.1.beq 1) (cond (bA D.2 0) (some [jA D.2 16,jA D.2 17,jA D.2 18,jA D.2 19,jA D.2 20,jA D.2 21]) ((H [jA D.2 1,jA D.2 2,jA D.2 3,jA D.2 5,jA D.2 6]).bind λa9=>
 (L [jA D.2 4,jA D.2 5,jA D.2 6,jA D.2 7,jA D.2 8,jA D.2 9,I (O (gA D.2 5+gA a9 0))]).bind λG=>
 some [jA G 0,jA G 1,jA G 2,jA G 3,jA G 4,jA G 5])) (none):=by kernel_rfl
def Zap:=Ak (Qhp Hp NC QB Oc Ju Tv)
def H3:=Qg2 Hp NC QB Oc Ju Tv Zap
instance:RI (Vy H3):=rw2 (Q41 Hp NC QB Oc Ju Tv Zap) (fl fb)
def Qaj:=qa 209 Q50 Qr7
def Zmj (D:Fn):Cfg:=cf [UG D]
def Ra (D:Fn):Fn:=mF (Zmj D) 209 Q50 Qr7
theorem Zj0:Ra G [I a,I b,I c,I d,I e,I f,I g,I h,I i]=
 (G [I a,I b,I c,I d,I e,I f,I g,I h,I i]).bind λo1=>
 cond (!bA o1 1) (some [I 0,B false]) (cond ((↑(wA o1 0).length:Int)==0) (some [I d,B true]) (cond (decide (0<=O ((↑(wA o1 0).length:Int)-1))&&decide (O ((↑(wA o1 0).length:Int)-1)<(↑(wA o1 0).length:Int))) (some [I (Af (nth .vD (nth [] (wA o1 0) (O ((↑(wA o1 0).length:Int)-1)).toNat) 0)),B true]) (none))):=by kernel_rfl
def IN:=Ra Is
instance:RI (Qaj IN):=rw1 (Zmj Is)
def Qp7:=qa 270 Qup Qvf
def Zmo (D:Fn):Cfg:=cf [LQ D]
def Zj (D:Fn):Fn:=mF (Zmo D) 270 Qup Qvf
theorem Z7q:Zj G [I a,I b]=
 (G [I a,I b,I 4096,I 0]).bind λo1=>
 some [jA o1 0]:=by kernel_rfl
def UM:=Zj Cy
instance:RI (Qp7 UM):=rw1 (Zmo Cy)
def Q70:=qa 271 Qup Qvf
def Qa1:Fn:=mF Qy3 271 Qup Qvf
theorem Ztl:Qa1 [I a,I b]=
 some [I (mx (O (a-b)) (O (b-a)))]:=by kernel_rfl
def Xr:=Qa1
instance:RI (Q70 Xr):=rw1 Qy3
def Qum:Sk:=⟨[tT [ci,ci,ci,sa Ai,sa kPt],tT cX,tT ([sa An]++cc 5),tT [ci,ci,ci],tT [ci,ci,sb,sb,sb],tT (cc 6),tf [ci],tf [ci],tT [ci,ci,ci,ci],tf [ci],tf [ci]],[],[]⟩
def Znc:Sk:=⟨[TS.tup [(true,cc 6),(true,[ci,ci,ci,ci]),(false,[ci])]],[],[]⟩
def Qv0:=qa 245 Qum Znc
def Qxh (D G I L M N O:Fn):Cfg:=cf [Vy D,UX G,Qaj I,Qib L,Qe9 M,Qp7 N,Q70 O]
def Qg3 (D G I L M N O:Fn):Fn:=mF (Qxh D G I L M N O) 245 Qum Znc
abbrev Qfs (EB:Fn) (V X Y:Int) (G:List AC) (a0:Int) (a7:List AC) (a1 a2 a8:Int) (BM:Fn) (D L:Int) (CO:Fn) (a3 a4 a5 a6:Int):Option (List AC):=
 (EB [I V,I X,I Y,jA G 0,jA G 1,jA G 2,jA G 3,jA G 4,jA G 5]).bind λa9=>
 cond (decide (O (O (O (a0+gA a7 0)-a1)-a2)>=0)) (cond (decide (gA a9 0>O (a8*256))) ((BM [I V,I X,I Y,I D,I L]).bind λb0=>
 (CO [I a2,I D,I L,I a3,I a4,I a5,I (O (D+gA b0 0))]).bind λM=>
 some [jA M 0,jA M 1,jA M 2,jA M 3,jA M 4,jA M 5,I 3,I a0,I a6,I a1,I 0]) ((BM [I V,I X,I Y,I D,I L]).bind λb1=>
 (CO [I a2,I D,I L,I a3,I a4,I a5,I (O (D+gA b1 0))]).bind λN=>
 some [jA N 0,jA N 1,jA N 2,jA N 3,jA N 4,jA N 5,I 3,I a0,I a6,I a1,I 18])) ((BM [I V,I X,I Y,I D,I L]).bind λb2=>
 (CO [I a2,I D,I L,I a3,I a4,I a5,I (O (D+gA b2 0))]).bind λU=>
 some [jA U 0,jA U 1,jA U 2,jA U 3,jA U 4,jA U 5,I 3,I a0,I a6,I a1,I 18])
theorem Z7z (CZ BM EB D0 CO On Md:Fn) (V X Y b1 b2:Int) (b9 b3 b4:Bool) (M a0 a1 a2 a3 a4 a5 b5 a6 L N U b6 b7:Int) (p:Pth) (x:Ax3) (t:Trk):Qg3 CZ BM EB D0 CO On Md (pxt p x t [I V,I X,I Y,I b1,I b2,B b9,B b3,B b4,I M,I a0,I a1,I a2,I a3,I a4,I a5,I b5,I a6,I L,I N,I U,I b6,I b7])=
 (Md [I b7,I N]).bind λc0=>
 (On [I b5,jA c0 0]).bind λa7=>
 cond (a6==1) ((Md [I b6,I N]).bind λc1=>
 (On [I b5,jA c1 0]).bind λb8=>
 (CO [I M,I a0,I a1,I a2,I a3,I a4,I (O (gA a7 0-gA b8 0))]).bind λG=>
 cond (O (gA a7 0-gA b8 0) !=0) ((D0 (pxt p x t [I V,I X,I Y,jA G 0,jA G 1,jA G 2,jA G 3,jA G 4,jA G 5,I a5])).bind λc2=>
 cond (bA c2 0) (some [jA G 0,jA G 1,jA G 2,jA G 3,jA G 4,jA G 5,I 2,I L,I N,I (O (gA a7 0-O (gA G 0-L))),I 0]) ((CZ (pxt p x t [I V,I X,I Y,I b1,I b2,B false,B b3,B b4,I M,I a0,I a1,I a2,I a3,I a4,I a5])).bind λa8=>
 some [jA a8 0,jA a8 1,jA a8 2,jA a8 3,jA a8 4,jA a8 5,I a6,I L,I N,I U,I 0])) ((CZ (pxt p x t [I V,I X,I Y,I b1,I b2,B false,B b3,B b4,I M,I a0,I a1,I a2,I a3,I a4,I a5])).bind λa9=>
 some [jA a9 0,jA a9 1,jA a9 2,jA a9 3,jA a9 4,jA a9 5,I a6,I L,I N,I U,I 0])) (cond (a6==2) ((CO [I M,I a0,I a1,I a2,I a3,I a4,I (O (O (O (L+gA a7 0)-U)-M))]).bind λD=>
 cond (decide (O (O (O (L+gA a7 0)-U)-M)>=0)) ((D0 (pxt p x t [I V,I X,I Y,jA D 0,jA D 1,jA D 2,jA D 3,jA D 4,jA D 5,I a5])).bind λc3=>
 cond (bA c3 0) (some [jA D 0,jA D 1,jA D 2,jA D 3,jA D 4,jA D 5,I a6,I L,I N,I U,I 0]) (Qfs EB V X Y D L a7 U M a5 BM a0 a1 CO a2 a3 a4 N)) (Qfs EB V X Y D L a7 U M a5 BM a0 a1 CO a2 a3 a4 N)) ((CZ (pxt p x t [I V,I X,I Y,I b1,I b2,B false,B b3,B b4,I M,I a0,I a1,I a2,I a3,I a4,I a5])).bind λb0=>
 some [jA b0 0,jA b0 1,jA b0 2,jA b0 3,jA b0 4,jA b0 5,I a6,I L,I N,I U,I 0])):=by kernel_rfl
def Mh:=Qg3 H3 Hp IN NC Oc UM Xr
instance:RI (Qv0 Mh):=rw1 (Qxh H3 Hp IN NC Oc UM Xr)
def T7:=qa 212 Q13 Zee
def Zfn (D:Fn):Cfg:=cf [Vy D]
def Qj2 (D:Fn):Fn:=mF (Zfn D) 212 Q13 Zee
theorem Zr2 (K:Kf) (c:Cv):Qj2 G (I a::Ac K c)=
 (G (pxt K.p K.x K.t [I K.pa,I K.pb,I K.pc,I c.o0,I c.o1,B c.o2,B c.o3,B c.o4,I c.m0,I c.m1,I c.m2,I c.m3,I c.m4,I c.m5,I a])).bind λo1=>
 some (Ac K {c with m0:=gA o1 0,m1:=gA o1 1,m2:=gA o1 2,m3:=gA o1 3,m4:=gA o1 4,m5:=gA o1 5}):=by kernel_rfl
def I8:=Qj2 H3
instance r_controller_Controller_plan:RI (T7 I8):=rw1 (Zfn H3)
def Zid:Sk:=⟨[tf [sc 20000 0],tf [ci],tT (cc 7)],[(20000,179,cS)],[]⟩
def Zmf:=qa 215 Zid Zee
def Zfy (D G I:Fn):Cfg:=cp [Uy D,Qv0 G,T7 I] [161,212]
def Ze (D G I:Fn):Fn:=mF (Zfy D G I) 215 Zid Zee
theorem Zwa (G L M:Fn) (D O U V X Y x6 N:Int) (K:Kf) (c:Cv):Ze G L M (I D::I O::I U::I V::I X::I Y::I x6::I N::Ac K c)=
 cond (c.g0 !=0) ((M (I D::Ac K c)).bind λo3=>
 some (DQ (cR 0 o3) [(82,I 3)])) ((L (pxt K.p K.x K.t [I K.pa,I K.pb,I K.pc,I c.o0,I c.o1,B c.o2,B c.o3,B c.o4,I c.m0,I c.m1,I c.m2,I c.m3,I c.m4,I c.m5,I D,I N,I c.e0,I c.e1,I c.e2,I c.e3,I c.before,I c.s3])).bind λo4=>
 cond (gA o4 10 !=0) ((G (Ac K {c with m0:=gA o4 0,m1:=gA o4 1,m2:=gA o4 2,m3:=gA o4 3,m4:=gA o4 4,m5:=gA o4 5,e0:=gA o4 6,e1:=gA o4 7,e2:=gA o4 8,e3:=gA o4 9})).bind λo5=>
 some (cR 0 o5)) (some (Ac K {c with m0:=gA o4 0,m1:=gA o4 1,m2:=gA o4 2,m3:=gA o4 3,m4:=gA o4 4,m5:=gA o4 5,e0:=gA o4 6,e1:=gA o4 7,e2:=gA o4 8,e3:=gA o4 9}))):=by kernel_rfl
def Rb:=Ze IP Mh I8
instance r_controller_Controller_thread:RI (Zmf Rb):=rw1 (Zfy IP Mh I8)
def Qo4:=qa 244 Qup Qvf
def Zhu (D:Fn):Cfg:=cf [LQ D]
def Zk (D:Fn):Fn:=mF (Zhu D) 244 Qup Qvf
theorem Zsj:Zk G [I a,I b]=
 (G [I 4096,I b,I a,I 0]).bind λo1=>
 some [jA o1 0]:=by kernel_rfl
def K4:=Zk Cy
instance r_spindle_Angle:RI (Qo4 K4):=rw1 (Zhu Cy)
def Zeb:=qa 214 Zid Zee
def Y_ (D G I:Fn):Cfg:=cr [Qo4 D,Ok G,T7 I] [163,212] [163]
def Qiu (D G I:Fn):Fn:=mF (Y_ D G I) 214 Zid Zee
theorem Zog (L M U:Fn) (V X Y x3 x4 G x6 N:Int) (K:Kf) (c:Cv):Qiu L M U (I V::I X::I Y::I x3::I x4::I G::I x6::I N::Ac K c)=
 (U (I V::Ac K c)).bind λD=>
 cond (decide (0<=G)&&decide (G<(↑(wA D 35).length:Int))) (cond (Af (nth .vD (nth [] (wA D 35) G.toNat) 19)==3) ((M (cR 0 D)).bind λo6=>
 (L [I N,I (O (gA o6 0-gA D 80))]).bind λo7=>
 some (DQ (cR 0 D) [(67,I (O (gA D 81+O (O (1*gA o7 0)*256))))])) ((M (cR 0 D)).bind λo8=>
 (L [I N,I (O (gA o8 0-gA D 80))]).bind λo9=>
 some (DQ (cR 0 D) [(67,I (O (gA D 81+O (O (-1*gA o9 0)*256))))]))) (none):=by kernel_rfl
def Pz:=Qiu K4 De I8
def Zsk:AK PG (Y_ K4 De I8):=G_ (rs:=[163]) rfl ⟨r_spindle_Angle.out,Oz,r_controller_Controller_plan.out,trivial⟩ rfl (Cu rfl (E6 (Cu rfl Hu)))
def Qpl:Bx PG (Zeb Pz):=(rw1 (Y_ K4 De I8) Zsk).out
instance:RI (Zeb Pz):=⟨Qpl⟩
def Zlf:=qa 269 Qup Qvf
def Qgh:Fn:=mF Qy3 269 Qup Qvf
theorem Ycm:Qgh [I a,I b]=
 cond (decide (b=0)) (none) (cond (decide (b=0)) (none) (cond (decide (a.tmod b<0)) (some [I (O (O (a.tdiv b)-1))]) (some [I (O (a.tdiv b))]))):=by kernel_rfl
def OW:=Qgh
instance:RI (Zlf OW):=rw1 Qy3
def Q8d:=qa 243 Qup Qvf
def Zit (D:Fn):Cfg:=cf [Zlf D]
def Qfc (D:Fn):Fn:=mF (Zit D) 243 Qup Qvf
theorem Z7y:Qfc G [I a,I b]=
 cond (b== -1) ((G [I a,I 1048576]).bind λo2=>
 some [I (O (gA o2 0*1048576))]) ((G [I (O (0-a)),I 1048576]).bind λo3=>
 some [I (O (O (0-gA o3 0)*1048576))]):=by kernel_rfl
def Li:=Qfc OW
instance r_spindle_Index:RI (Q8d Li):=rw1 (Zit OW)
def Qhu:Sk:=⟨[tf [sc 20000 0],tT (cc 7)],[(20000,179,cS)],[]⟩
def Qeh:Sk:=⟨[tf [sb]],[(20000,179,cS)],[]⟩
def Qrx:=qa 213 Qhu Qeh
def X7 (D G:Fn):Cfg:=cr [Ok D,Q8d G] [163] [163]
def Qg1 (D G:Fn):Fn:=mF (X7 D G) 213 Qhu Qeh
theorem Z4h (G L:Fn) (M N U V D X Y:Int) (K:Kf) (c:Cv):Qg1 G L (I M::I N::I U::I V::I D::I X::I Y::Ac K c)=
 (L [I c.before,I c.s0]).bind λo3=>
 cond (decide (0<=D)&&decide (D<((K.aA.map Ag).length:Int))) (cond (gA (nth [] (K.aA.map Ag) D.toNat) 0 !=6) (cond (c.s1==0) (some (B false::Ac K c)) (cond (decide (O (O (c.s3-gA o3 0)*c.s0)<0)) (some (B false::Ac K c)) ((G (Ac K c)).bind λo4=>
 some (B true::Ac K {c with y0:=D,y1:=gA o4 0,y2:=c.s3,e0:=1,e1:=c.m0,e2:=gA o3 0,e3:=0})))) ((G (Ac K c)).bind λo5=>
 some (B true::Ac K {c with y0:=D,y1:=gA o5 0,y2:=c.s3,e0:=1,e1:=c.m0,e2:=gA o3 0,e3:=0}))) (none):=by kernel_rfl
def PD:=Qg1 De Li
def Yfe:AK PG (X7 De Li):=G_ (rs:=[163]) rfl ⟨Oz,r_spindle_Index.out,trivial⟩ rfl (E6 (Cu rfl Hu))
def Q6j:Bx PG (Qrx PD):=(rw1 (X7 De Li) Yfe).out
instance:RI (Qrx PD):=⟨Q6j⟩
def Qia:Sk:=⟨[TS.tup [(true,cc 7),(false,[sb])]],[],[]⟩
def Su (M:Fn):Nat×Spec:=(155,ET Qic Qia M)
def Se (D G:Fn):Cfg:=cr [Wq D,Ok G] [163] [163]
def Qju (D G:Fn):Fn:=Nd PG (Se D G) 64 155 Qic Qia
theorem Zs9 (K:Kf) (c:Cv):Qju G H (Ac K c)=
 (H (Ac K c)).bind λo2=>
 (G (BG K.p++[jA o2 0])).bind λo3=>
 cond (decide (gA o3 0<0)) (some [I 0,I 0,I 0,I 0,I 0,I 0,I 0,B false]) (cond (decide (0<=gA o3 0)&&decide (gA o3 0<((K.p.aF.map At).length:Int))) (some (AX Ai (nth [] (K.p.aF.map At) (gA o3 0).toNat)++[B true])) (none)):=by kernel_rfl
def ER:=Qju FJ De
def Zv1:AK PG (Se FJ De):=G_ (rs:=[163]) rfl ⟨r_path_Find.out,Oz,trivial⟩ rfl (Cu rfl (E6 Hu))
def Z94 (vars : List AC) (R : Type) (K : TV -> Mem -> Option R) : Ew PG (Se FJ De) 64 155 [TV.v false [AC.ptr 20000 0]] ⟨[(20000, (⟨179, (cR 0 vars)⟩ : Box))], []⟩ K = Ew PG (Se FJ De) 64 155 [TV.v false [AC.ptr 20000 0]] ⟨[(20000, (⟨179, (cR 0 vars)⟩ : Box))], []⟩ (λv _ => K v ⟨[(20000, (⟨179, (cR 0 vars)⟩ : Box))], []⟩) := de (b := ((De (cR 0 vars)).bind λo2 =>
 (FJ [jA vars 37,jA vars 38,jA vars 39, .vC Ai (wA vars 40), .vC kPt (wA vars 41),jA o2 0]).bind λo3=>
 cond (decide (gA o3 0<0)) (K (TV.tup [(true,[I 0,I 0,I 0,I 0,I 0,I 0,I 0]),(false,[B false])]) ⟨[(20000,(⟨179,(cR 0 vars)⟩:Box))],[]⟩) (cond (decide (0<=gA o3 0)&&decide (gA o3 0<(↑(wA vars 40).length:Int))) (K (TV.tup [(true,[I (Af (nth .vD (nth [] (wA vars 40) (gA o3 0).toNat) 0)),I (Af (nth .vD (nth [] (wA vars 40) (gA o3 0).toNat) 1)),I (Af (nth .vD (nth [] (wA vars 40) (gA o3 0).toNat) 2)),I (Af (nth .vD (nth [] (wA vars 40) (gA o3 0).toNat) 3)),I (Af (nth .vD (nth [] (wA vars 40) (gA o3 0).toNat) 4)),I (Af (nth .vD (nth [] (wA vars 40) (gA o3 0).toNat) 5)),I (Af (nth .vD (nth [] (wA vars 40) (gA o3 0).toNat) 6))]),(false,[B true])]) ⟨[(20000,(⟨179,(cR 0 vars)⟩:Box))],[]⟩) (none)))) (by kernel_rfl) (Eq.symm (by kernel_rfl))
def SH:Bx PG (155,ET Qic Qia ER):=RE (C:=Se FJ De) (L:=64) (by kernel_rfl) (FnOK.bare rfl rfl rfl) Zv1 eqOk FX (by kernel_rfl) (by kernel_rfl) (λvars R K=>Z94 vars R K)
instance:RI (Su ER):=⟨SH⟩
def Q8j:=qa 162 Q13 Zee
def Qfa (D G I L M N:Fn):Cfg:=cr [Zmf D,Zeb G,Uy I,Qrx L,T7 M,Su N] [215,214,161,213,212,155] [155]
def Qan (D G I L M N:Fn):Fn:=mF (Qfa D G I L M N) 162 Q13 Zee
abbrev V2 (c:Cv) (D:List AC) (Kq:Fn) (K:Kf) (Dn X:Fn) (L:Int) (Y:Fn):Option (List AC):=
 cond (!c.y0==gA D 4) ((Kq (jA D 0::jA D 1::jA D 2::jA D 3::jA D 4::jA D 5::jA D 6::Ac K c)).bind λG=>
 cond (!bA G 0) (cond (gA G 66==0) ((Dn (cR 1 G)).bind λM=>
 some (cR 0 M)) (some (cR 1 G))) (cond (decide (0<=gA D 4)&&decide (gA D 4<(↑(wA G 36).length:Int))) (cond (Af (nth .vD (nth [] (wA G 36) (gA D 4).toNat) 0)==6) ((X (I L::jA D 0::jA D 1::jA D 2::jA D 3::jA D 4::jA D 5::jA D 6::cR 1 G)).bind λN=>
 some (cR 0 N)) ((Y (I L::jA D 0::jA D 1::jA D 2::jA D 3::jA D 4::jA D 5::jA D 6::cR 1 G)).bind λO=>
 some (cR 0 O))) (none))) (cond (decide (0<=gA D 4)&&decide (gA D 4<((K.aA.map Ag).length:Int))) (cond (gA (nth [] (K.aA.map Ag) (gA D 4).toNat) 0==6) ((X (I L::jA D 0::jA D 1::jA D 2::jA D 3::jA D 4::jA D 5::jA D 6::Ac K c)).bind λU=>
 some (cR 0 U)) ((Y (I L::jA D 0::jA D 1::jA D 2::jA D 3::jA D 4::jA D 5::jA D 6::Ac K c)).bind λV=>
 some (cR 0 V))) (none))
theorem Zrb (L M N O U Y:Fn) (G:Int) (K:Kf) (c:Cv):Qan L M N O U Y (I G::Ac K c)=
 (Y (Ac K c)).bind λD=>
 cond (gA D 6==0) ((U (I G::Ac K c)).bind λV=>
 some (cR 0 V)) (cond (c.o2) (cond (!c.y0==gA D 4) ((U (I G::Ac K c)).bind λX=>
 some (cR 0 X)) (V2 c D O K N M G L)) (V2 c D O K N M G L)):=by kernel_rfl
def Rg:=Qan Rb Pz IP PD I8 ER
def Z79:AK PG (Qfa Rb Pz IP PD I8 ER):=G_ (rs:=[155]) rfl ⟨r_controller_Controller_thread.out,Qpl,r_controller_Controller_fault.out,Q6j,r_controller_Controller_plan.out,SH,trivial⟩ rfl (Cu rfl (Cu rfl (Cu rfl (Cu rfl (Cu rfl (E6 Hu))))))
def Zxi:Bx PG (Q8j Rg):=(rw1 (Qfa Rb Pz IP PD I8 ER) Z79).out
instance:RI (Q8j Rg):=⟨Zxi⟩
def We:=qa 147 Qvf Qvf
def Qo0 (D:Fn):Cfg:=cf [LQ D]
def VT (D:Fn):Fn:=mF (Qo0 D) 147 Qvf Qvf
theorem Q5b:VT G [I a]=
 (G [I a,I 1048576,I 60000,I 2]).bind λo1=>
 some [jA o1 0]:=by kernel_rfl
def GG:=VT Cy
instance:RI (We GG):=rw1 (Qo0 Cy)
def Qew:=qa 238 Qvf Qvf
def Qf6:Fn:=mF Qy3 238 Qvf Qvf
theorem Zos:Qf6 [I a]=
 cond (a==3) (some [I 1]) (cond (a==4) (some [I (-1)]) (some [I 0])):=by kernel_rfl
def I4:=Qf6
instance:RI (Qew I4):=rw1 Qy3
def Zkp:Sk:=⟨[tT [ci,ci,ci,ci],tf [ci],tf [ci]],[],[]⟩
def Qlc:=qa 200 Zkp Zkh
def Zdc (D G:Fn):Cfg:=cf [We D,Qew G]
def Za (D G:Fn):Fn:=mF (Zdc D G) 200 Zkp Zkh
theorem Zy0:Za G H [I a,I b,I c,I d,I e,I f]=
 (H [I e]).bind λo3=>
 cond (gA o3 0==0) (cond (e==5) (cond (b==0) (some [B (c==0)]) (some [B false])) (some [B false])) (cond (a==gA o3 0) ((G [I f]).bind λo4=>
 cond (b==gA o4 0) ((G [I f]).bind λX=>
 some [B (c==gA X 0)]) (some [B false])) (some [B false])):=by kernel_rfl
def Q8:=Za GG I4
instance:RI (Qlc Q8):=rw1 (Zdc GG I4)
def Qpi:Sk:=⟨[tT [ci,ci,ci,ci]],[],[]⟩
def Q6n:=qa 199 Zkp Qpi
def Qz4 (D G:Fn):Cfg:=cf [We D,Qew G]
def Zx (D G:Fn):Fn:=mF (Qz4 D G) 199 Zkp Qpi
theorem Zvu:Zx G H [I a,I b,I c,I d,I e,I f]=
 (H [I e]).bind λo3=>
 cond (e==5) (some [I a,I b,I 0,I d]) (cond (gA o3 0==0) (some [I a,I b,I c,I d]) (cond (b==0) ((G [I f]).bind λo4=>
 some [jA o3 0,I b,jA o4 0,I d]) (cond (a==gA o3 0) ((G [I f]).bind λX=>
 some [jA o3 0,I b,jA X 0,I d]) (some [I a,I b,I 0,I d])))):=by kernel_rfl
def OG:=Zx GG I4
instance:RI (Q6n OG):=rw1 (Qz4 GG I4)
def Zel:Sk:=⟨[tf [ci]],[(20000,179,cS)],[]⟩
def Ql2:=qa 198 Qic Zel
def Qdo:Fn:=mF Qy3 198 Qic Zel
theorem Z15 (K:Kf) (c:Cv):Qdo (Ac K c)=
 some (I 3::Ac K {c with next:=O (c.idx+1),on:=false,idx:=0,aN:=false,cnt:=0}):=by kernel_rfl
def SN:=Qdo
instance:RI (Ql2 SN):=rw1 Qy3
def YN:=qa 156 Qic Zel
def Quv (D G I:Fn):Cfg:=cp [Qlc D,Q6n G,Ql2 I] [198]
def Yo (D G I:Fn):Fn:=mF (Quv D G I) 156 Qic Zel
theorem Z00 (K:Kf) (c:Cv):Yo G H J (Ac K c)=
 cond (c.aN) (cond (decide (O (c.cnt+1)>1)) (cond (c.aJ) ((J (Ac K {c with cnt:=O (c.cnt+1)})).bind λX=>
 some (jA X 0::cR 1 X)) (some (I 2::Ac K {c with cnt:=O (c.cnt+1)}))) (some (I 2::Ac K {c with cnt:=O (c.cnt+1)}))) (cond (decide (0<=c.idx)&&decide (c.idx<((K.p.aD.map Aq).length:Int))) (cond (gA (nth [] (K.p.aD.map Aq) c.idx.toNat) 1 !=3) ((J (Ac K {c with cnt:=O (c.cnt+1)})).bind λo8=>
 some (jA o8 0::cR 1 o8)) (cond (decide (0<=gA (nth [] (K.p.aD.map Aq) c.idx.toNat) 2)&&decide (gA (nth [] (K.p.aD.map Aq) c.idx.toNat) 2<((K.aA.map Ag).length:Int))) (cond (gA (nth [] (K.aA.map Ag) (gA (nth [] (K.p.aD.map Aq) c.idx.toNat) 2).toNat) 0==7) (cond (decide (O (c.cnt+1)<gA (nth [] (K.aA.map Ag) (gA (nth [] (K.p.aD.map Aq) c.idx.toNat) 2).toNat) 19)) (some (I 3::Ac K {c with cnt:=O (c.cnt+1)})) ((J (Ac K {c with cnt:=O (c.cnt+1)})).bind λY=>
 some (jA Y 0::cR 1 Y))) (cond (gA (nth [] (K.aA.map Ag) (gA (nth [] (K.p.aD.map Aq) c.idx.toNat) 2).toNat) 0==8) ((H [I c.s0,I c.s1,I c.s2,I c.s3,jA (nth [] (K.aA.map Ag) (gA (nth [] (K.p.aD.map Aq) c.idx.toNat) 2).toNat) 19,jA (nth [] (K.aA.map Ag) (gA (nth [] (K.p.aD.map Aq) c.idx.toNat) 2).toNat) 20]).bind λD=>
 (G [jA D 0,jA D 1,jA D 2,jA D 3,jA (nth [] (K.aA.map Ag) (gA (nth [] (K.p.aD.map Aq) c.idx.toNat) 2).toNat) 19,jA (nth [] (K.aA.map Ag) (gA (nth [] (K.p.aD.map Aq) c.idx.toNat) 2).toNat) 20]).bind λN=>
 cond (!bA N 0) (some (I 3::Ac K {c with s0:=gA D 0,s1:=gA D 1,s2:=gA D 2,s3:=gA D 3,cnt:=O (c.cnt+1)})) ((J (Ac K {c with s0:=gA D 0,s1:=gA D 1,s2:=gA D 2,s3:=gA D 3,cnt:=O (c.cnt+1)})).bind λL=>
 some (jA L 0::cR 1 L))) (cond (gA (nth [] (K.aA.map Ag) (gA (nth [] (K.p.aD.map Aq) c.idx.toNat) 2).toNat) 0==14) (some (I 7::Ac K {c with cnt:=O (c.cnt+1),aI:=7})) ((J (Ac K {c with cnt:=O (c.cnt+1)})).bind λM=>
 some (jA M 0::cR 1 M))))) (none))) (none)):=by kernel_rfl
def PM:=Yo Q8 OG SN
instance:RI (YN PM):=rw1 (Quv Q8 OG SN)
def Qyc:=qa 160 Q13 Zel
def Zb7 (D:Fn):Cfg:=cp [YN D] [156]
def Qed (D:Fn):Fn:=mF (Zb7 D) 160 Q13 Zel
theorem Yd9 (K:Kf) (c:Cv):Qed G (I a::Ac K c)=
 cond (decide (0<=a)&&decide (a<((K.p.aD.map Aq).length:Int))) (cond (gA (nth [] (K.p.aD.map Aq) a.toNat) 1==1) ((G (Ac K {c with on:=true,idx:=a,aN:=c.o3,cnt:=0})).bind λU=>
 some (jA U 0::cR 1 U)) (cond (gA (nth [] (K.p.aD.map Aq) a.toNat) 1==2) ((G (Ac K {c with on:=true,idx:=a,aN:=c.o3,cnt:=0})).bind λo8=>
 some (jA o8 0::cR 1 o8)) (cond (gA (nth [] (K.p.aD.map Aq) a.toNat) 1==6) ((G (Ac K {c with on:=true,idx:=a,aN:=c.o3,cnt:=0})).bind λV=>
 some (jA V 0::cR 1 V)) (cond (gA (nth [] (K.p.aD.map Aq) a.toNat) 1==4) ((G (Ac K {c with on:=true,idx:=a,aN:=true,cnt:=0})).bind λL=>
 some (jA L 0::cR 1 L)) (cond (gA (nth [] (K.p.aD.map Aq) a.toNat) 1==3) (cond (decide (0<=gA (nth [] (K.p.aD.map Aq) a.toNat) 2)&&decide (gA (nth [] (K.p.aD.map Aq) a.toNat) 2<((K.aA.map Ag).length:Int))) (cond (gA (nth [] (K.aA.map Ag) (gA (nth [] (K.p.aD.map Aq) a.toNat) 2).toNat) 0==11) ((G (Ac K {c with on:=true,idx:=a,aN:=true,cnt:=0})).bind λM=>
 some (jA M 0::cR 1 M)) ((G (Ac K {c with on:=true,idx:=a,aN:=gA (nth [] (K.aA.map Ag) (gA (nth [] (K.p.aD.map Aq) a.toNat) 2).toNat) 0==12,cnt:=0})).bind λN=>
 some (jA N 0::cR 1 N))) (none)) ((G (Ac K {c with on:=true,idx:=a,aN:=false,cnt:=0})).bind λO=>
 some (jA O 0::cR 1 O))))))) (none):=by kernel_rfl
def TJ:=Qed PM
instance:RI (Qyc TJ):=rw1 (Zb7 PM)
def Zb9:Sk:=⟨[tf [sa kPt],tf [ci],tT [ci,ci,sb,sb,sb],tf [ci],tf [ci]],[],[]⟩
def Znl:=qa 211 Zb9 Qn7
def Q7a (D:Fn):Cfg:=cf [Qag D]
def Q8l:Sk:=⟨[tf [sa kPt],td,td,tf [ci],tf [ci],td,td,tf [sc 7 0],td,td,td,td,tf [ci]]++dd 32,[(7,163,[ci,ci,sb,sb,sb])],[]⟩
def Qyi:List (Ex×Sk):=[(Ex.ret,⟨dd 10++[tf [ci],tf [ci]]++dd 33,[],[]⟩),(Ex.exit 0,⟨[td,td,td,tf [ci]]++dd 41,[],[]⟩)]
def TF (D:Fn):Lp:=sL (Q7a D) 211 2 Q8l Qyi
def Qqb (D:Fn) (G:Lp):Cfg:=(Q7a D).loop 2 Q8l Qyi G
def Qdr (D:Fn) (G:Lp):Fn:=mF (Qqb D G) 211 Zb9 Qn7
theorem Zwj (C_:Fn) (G:Rw) (L M D N U:Int) (V X Y:Bool):TF C_ [.vC kPt G,I L,I M,I D,I N,I U,B V,B X,B Y]=
 cond (decide (D<(G.length:Int))) (cond (decide (0<=D)&&decide (D<(G.length:Int))) ((C_ [jA (nth [] G D.toNat) 0,jA (nth [] G D.toNat) 1,jA (nth [] G D.toNat) 2,I N,I U,B V,B X,B Y]).bind λo2=>
 cond (bA o2 0) (cond (decide (M<=gA (nth [] G D.toNat) 0)) (cond (decide (gA (nth [] G D.toNat) 0<=L)) (some (1,[jA (nth [] G D.toNat) 0,I D])) (some (0,[.vC kPt G,I L,I M,I (O (D+1)),I N,I U,B V,B X,B Y]))) (some (0,[.vC kPt G,I L,I M,I (O (D+1)),I N,I U,B V,B X,B Y]))) (some (0,[.vC kPt G,I L,I M,I (O (D+1)),I N,I U,B V,B X,B Y]))) (none)) (some (2,[I L])):=by kernel_rfl
theorem Zq0 (V:Bool):Qdr G Z [.vC kPt A,I a,I b,I c,B X,B Y,B V,I d,I e]=
 (Z [.vC kPt A,I d,I e,I (mx a 0),I b,I c,B X,B Y,B V]).bind λo3=>
 cond (o3.1.beq 1) (some [jA o3.2 0,jA o3.2 1]) (cond (o3.1.beq 2) (some [jA o3.2 0,I (-1)]) (none)):=by kernel_rfl
def Q06:=Ak (TF LD)
def Uo:=Qdr LD Q06
instance:RI (Znl Uo):=rw2 (Qqb LD Q06) (fl fb)
def Zf9:=qa 210 Qro Qvf
def Zes:Sk:=⟨[td,tf [ci]]++dd 11++[tf [sa An],tf [ci],tf [ci]]++dd 28,[],[]⟩
def Qmd:List (Ex×Sk):=[(Ex.ret,⟨[td,td,td,td,tf [ci]]++dd 39,[],[]⟩),(Ex.exit 0,⟨[td]++dd 43,[],[]⟩)]
def Tk:Lp:=sL Qy3 210 4 Zes Qmd
def Qug (D:Lp):Cfg:=Qy3.loop 4 Zes Qmd D
def Zhz (D:Lp):Fn:=mF (Qug D) 210 Qro Qvf
theorem Qqz:Tk [I a, .vC An A,I b,I c]=
 cond (decide (c<b)) (cond (decide (0<=c)&&decide (c<(A.length:Int))) (cond (gA (nth [] A c.toNat) 3 !=0) (cond (decide (0<=O (O (a-gA (nth [] A c.toNat) 2)*gA (nth [] A c.toNat) 3))) (cond (decide (O (O (a-gA (nth [] A c.toNat) 2)*gA (nth [] A c.toNat) 3)<=gA (nth [] A c.toNat) 1)) (some (1,[I (O (gA (nth [] A c.toNat) 0+O (O (a-gA (nth [] A c.toNat) 2)*gA (nth [] A c.toNat) 3)))])) (some (0,[I a, .vC An A,I b,I (O (c+1))]))) (some (0,[I a, .vC An A,I b,I (O (c+1))]))) (some (0,[I a, .vC An A,I b,I (O (c+1))]))) (none)) (some (2,[])):=by kernel_rfl
def Yem (L:Lp) (D:Rw) (N M O U V G:Int):Zhz L [.vC An D,I N,I M,I O,I U,I V,I G]=
 cond (G==M) (some [I 0]) ((L [I G, .vC An D,I (D.length:Int),I 0]).bind λo1=>
 cond (o1.1.beq 1) (some [jA o1.2 0]) (cond (o1.1.beq 2) (some [I (-1)]) (none))):=by kernel_rfl
def Ps:=Ak (Tk)
def Uu:=Zhz Ps
instance:RI (Zf9 Uu):=rw2 (Qug Ps) (fl fb)
def Zhk:Sk:=⟨[TS.tup [(false,[ci]),(false,[ci])]],[(20000,179,cS)],[]⟩
def Zbi:=qa 159 Qic Zhk
def Qsh (D G I L:Fn):Cfg:=cf [Znl D,Zf9 G,PX I,Qaj L]
def Qae (D G I L:Fn):Fn:=mF (Qsh D G I L) 159 Qic Zhk
abbrev WE (EB:Fn) (K:Kf) (c:Cv) (BN U Jj:Fn) (D:AC):Option (List AC):=
 (EB [I K.pa,I K.pb,I K.pc,I c.m0,I c.m1,I c.m2,I c.m3,I c.m4,I c.m5]).bind λL=>
 (BN (Bh K.t++[I (O ((O (O (gA L 0+256)-1)).tdiv 256))])).bind λG=>
 (U (Bh K.t++[jA G 0])).bind λV=>
 cond (gA V 0 !=O ((O (O (gA L 0+256)-1)).tdiv 256)) ((Jj [.vC kPt (K.p.aD.map Aq),I c.next,I c.o0,I c.o1,B c.o2,B c.o3,B c.o4,D,I (O (gA G 0+1))]).bind λM=>
 (U (Bh K.t++[jA M 0])).bind λX=>
 some (jA X 0::jA M 1::Ac K c)) ((Jj [.vC kPt (K.p.aD.map Aq),I c.next,I c.o0,I c.o1,B c.o2,B c.o3,B c.o4,D,jA G 0]).bind λN=>
 (U (Bh K.t++[jA N 0])).bind λY=>
 some (jA Y 0::jA N 1::Ac K c))
theorem Yee (D G L M:Fn) (K:Kf) (c:Cv):Qae D G L M (Ac K c)=
 cond (K.closed) (WE M K c L G D (I K.len)) (WE M K c L G D (I K.set)):=by kernel_rfl
def Wg:=Qae Uo Uu Fw IN
instance:RI (Zbi Wg):=rw1 (Qsh Uo Uu Fw IN)
def Qwr:=qa 109 Qic Zel
def Q82 (D G I L:Fn):Cfg:=cp [Q8j D,Uy G,Qyc I,Zbi L] [162,161,160,159]
def Zh (D G I L:Fn):Fn:=mF (Q82 D G I L) 109 Qic Zel
theorem Z56 (G V X Y:Fn) (K:Kf) (c:Cv):Zh G V X Y (Ac K c)=
 (Y (Ac K c)).bind λD=>
 cond (bA D 90) (cond (gA D 52==O (gA D 0*256)) (cond (decide (gA D 1>=0)) ((X (jA D 1::cR 2 D)).bind λo8=>
 cond (decide (0<=gA D 1)&&decide (gA D 1<(↑(wA o8 42).length:Int))) (cond (Af (nth .vD (nth [] (wA o8 42) (gA D 1).toNat) 2)==gA o8 80) (cond (decide (0<=Af (nth .vD (nth [] (wA o8 42) (gA D 1).toNat) 2))&&decide (Af (nth .vD (nth [] (wA o8 42) (gA D 1).toNat) 2)<(↑(wA o8 36).length:Int))) (cond (Af (nth .vD (nth [] (wA o8 36) (Af (nth .vD (nth [] (wA o8 42) (gA D 1).toNat) 2)).toNat) 0)==5) (cond (gA o8 83==1) ((V (cR 1 o8)).bind λo9=>
 some (jA o8 0::cR 0 o9)) (some (jA o8 0::cR 1 o8))) (some (jA o8 0::cR 1 o8))) (none)) (some (jA o8 0::cR 1 o8))) (none)) (cond (bA D 38) (some (I 7::DQ (cR 2 D) [(78,I 7)])) (some (I 1::cR 2 D)))) (cond (gA D 63 !=0) ((G (jA D 0::cR 2 D)).bind λL=>
 cond (bA D 90) (some (I 6::cR 0 L)) (some (I 1::cR 0 L))) ((G (jA D 0::cR 2 D)).bind λN=>
 some (I 1::cR 0 N)))) (cond (gA D 63 !=0) ((G (jA D 0::cR 2 D)).bind λM=>
 cond (bA D 90) (some (I 6::cR 0 M)) (some (I 1::cR 0 M))) ((G (jA D 0::cR 2 D)).bind λU=>
 some (I 1::cR 0 U))):=by kernel_rfl
def KC:=Zh Rg IP TJ Wg
instance r_controller_Controller_run:RI (Qwr KC):=rw1 (Q82 Rg IP TJ Wg)
def WA:=qa 98 Qvf Zb4
def Qbl:Fn:=mF Qy3 98 Qvf Zb4
theorem Ya6:Qbl [I a]=
 some [I (O (a*256)),I 0,I 0,I (O (a*256)),I (O (a*256)),I (O (a*256))]:=by kernel_rfl
def Kc:=Qbl
instance r_planner_Start:RI (WA Kc):=rw1 Qy3
def Zlt:Sk:=⟨[tT cX,tT [ci,ci,ci],tT [ci,ci,ci]],[],[]⟩
def Qwh:=qa 51 Zlt Qvf
def Qqd:Cfg:={cf []with unroll:=[3]}
def Q1p:Fn:=mF Qqd 51 Zlt Qvf
def Zo0 (x0 x1 x2 x3 x4 x5 U x7 x8:Int) (x9:Rw) (Y a0 a1 a2 a3 a4 D a5 a6:Int) (a7:Rw) (a8 a9 b0 b1 b2 b3 G b4 b5:Int) (b6:Rw) (V N L X O M:Int):Q1p [I x0,I x1,I x2,I x3,I x4,I x5,I U,I x7,I x8, .vC Aa x9,I Y,I a0,I a1,I a2,I a3,I a4,I D,I a5,I a6, .vC Aa a7,I a8,I a9,I b0,I b1,I b2,I b3,I G,I b4,I b5, .vC Aa b6,I V,I N,I L,I X,I O,I M]=
 cond (V !=X) (cond (N !=O) (cond (L !=M) (some [I (mx (mx (mx 0 U) D) G)]) (some [I (mx (mx 0 U) D)])) (cond (L !=M) (some [I (mx (mx 0 U) G)]) (some [I (mx 0 U)]))) (cond (N !=O) (cond (L !=M) (some [I (mx (mx 0 D) G)]) (some [I (mx 0 D)])) (cond (L !=M) (some [I (mx 0 G)]) (some [I 0]))):=by kernel_rfl
def Ub:=Q1p
instance:RI (Qwh Ub):=rw1 Qqd
def Q7k:Sk:=⟨[tT [ci,ci,ci],tT [ci,ci,ci],tT [ci,ci,ci],tf [ci]],[],[]⟩
def Znb:=qa 50 Q7k Qwz
def Q1m:Cfg:={cf []with unroll:=[2]}
def Zke:Fn:=mF Q1m 50 Q7k Qwz
abbrev TK (L M:Int) (D:AC) (N U:Int) (G:AC):Option (List AC):=
 cond (decide (L>M)) (some [D,G,I N]) (cond (decide (L<M)) (some [D,G,I (O (0-N))]) (some [D,G,I U]))
abbrev VU (U V L M G N X:Int) (D:AC):Option (List AC):=
 cond (decide (U>V)) (TK L M D G N (I G)) (cond (decide (U<V)) (TK L M D G N (I (O (0-G)))) (TK L M D G N (I X)))
theorem Zqt:Zke [I a,I b,I c,I d,I e,I f,I g,I h,I i,I j]=
 cond (decide (g>d)) (VU h e i f j c b (I j)) (cond (decide (g<d)) (VU h e i f j c b (I (O (0-j)))) (VU h e i f j c b (I a))):=by kernel_rfl
def Sr:=Zke
instance:RI (Znb Sr):=rw1 Q1m
def Zex:Sk:=⟨[tT (cc 10),tf [sc 20000 0]],[(20000,52,[sd 20000 10]++cc 5)],[(20000,104,An)]⟩
def Qt4:Sk:=⟨[TS.tup []],[(20000,52,[sd 20000 10]++cc 5)],[(20000,104,An)]⟩
def Qd7:=qa 48 Zex Qt4
def XY:Fn:=mF Qy3 48 Zex Qt4
theorem Zil:XY [.vC An A,I a,I b,I c,I d,I e,I f,I g,I h,I i,I j,I k,I l,I m,I n,I o]=
 cond (decide ((A.length:Int)>0)) (cond (d !=0) (cond (decide (0<=O ((A.length:Int)-1))&&decide (O ((A.length:Int)-1)<(A.length:Int))) (cond (gA (nth [] A (O ((A.length:Int)-1)).toNat) 3==d) (cond (decide (0<=O ((A.length:Int)-1))&&decide (O ((A.length:Int)-1)<(A.length:Int))) (cond (gA (nth [] A (O ((A.length:Int)-1)).toNat) 7==h&&(gA (nth [] A (O ((A.length:Int)-1)).toNat) 8==i&&(gA (nth [] A (O ((A.length:Int)-1)).toNat) 9==j&&true))) (cond (decide (0<=O ((A.length:Int)-1))&&decide (O ((A.length:Int)-1)<(A.length:Int))) (cond (decide (0<=O ((A.length:Int)-1))&&decide (O ((A.length:Int)-1)<(A.length:Int))) (some [.vC An (A.set (O ((A.length:Int)-1)).toNat [jA (nth [] A (O ((A.length:Int)-1)).toNat) 0,I (O (gA (nth [] A (O ((A.length:Int)-1)).toNat) 1+b)),jA (nth [] A (O ((A.length:Int)-1)).toNat) 2,jA (nth [] A (O ((A.length:Int)-1)).toNat) 3,jA (nth [] A (O ((A.length:Int)-1)).toNat) 4,jA (nth [] A (O ((A.length:Int)-1)).toNat) 5,jA (nth [] A (O ((A.length:Int)-1)).toNat) 6,jA (nth [] A (O ((A.length:Int)-1)).toNat) 7,jA (nth [] A (O ((A.length:Int)-1)).toNat) 8,jA (nth [] A (O ((A.length:Int)-1)).toNat) 9]),I (O (k+b)),I l,I m,I n,I o]) (none)) (none)) (cond (((A++[[I k,I b,I c,I d,I e,I f,I g,I h,I i,I j]]).length*80).ble 140737488355328) (some [.vC An (A++[[I k,I b,I c,I d,I e,I f,I g,I h,I i,I j]]),I (O (k+b)),I l,I m,I n,I o]) (none))) (none)) (cond (((A++[[I k,I b,I c,I d,I e,I f,I g,I h,I i,I j]]).length*80).ble 140737488355328) (some [.vC An (A++[[I k,I b,I c,I d,I e,I f,I g,I h,I i,I j]]),I (O (k+b)),I l,I m,I n,I o]) (none))) (none)) (cond (((A++[[I k,I b,I c,I d,I e,I f,I g,I h,I i,I j]]).length*80).ble 140737488355328) (some [.vC An (A++[[I k,I b,I c,I d,I e,I f,I g,I h,I i,I j]]),I (O (k+b)),I l,I m,I n,I o]) (none))) (cond (((A++[[I k,I b,I c,I d,I e,I f,I g,I h,I i,I j]]).length*80).ble 140737488355328) (some [.vC An (A++[[I k,I b,I c,I d,I e,I f,I g,I h,I i,I j]]),I (O (k+b)),I l,I m,I n,I o]) (none)):=by kernel_rfl
def Tz:=XY
instance:RI (Qd7 Tz):=rw1 Qy3
def Zhl:Sk:=⟨[tT [ci,ci,ci],tT [ci,ci,ci],tf [ci],tf [ci],tf [sc 20000 0],tf [sc 20001 0],tf [sc 20002 0],tf [sc 20003 0]],[(20000,41,[ci,ci,ci]),(20001,3,[ci]),(20002,34,cX),(20003,105,[CS.clo 48 [] [(20004,0)]]),(20004,52,[sd 20000 10]++cc 5)],[(20000,104,An)]⟩
def Zaa:Sk:=⟨[TS.tup []],[(20000,41,[ci,ci,ci]),(20001,3,[ci]),(20002,34,cX),(20003,105,[CS.clo 48 [] [(20004,0)]]),(20004,52,[sd 20000 10]++cc 5)],[(20000,104,An)]⟩
def Qbm:=qa 49 Zhl Zaa
def Qux (D G I:Fn):Cfg:=cp [Qwh D,Znb G,Qd7 I] [48]
def Qjf (D G I:Fn):Fn:=mF (Qux D G I) 49 Zhl Zaa
def Z77 (Qb Q3 F9:Fn) (x0:Rw) (x1 x2 x3 x4 x5 x6 x7 x8 x9 L M G N O U V X Y a0 a1 a2:Int) (a3:Rw) (a4 a5 a6 a7 a8 a9 b0 b1 b2:Int) (b3:Rw) (b4 b5 b6 b7 b8 b9 c0 c1 c2:Int) (c3:Rw) (c4 c5 c6 c7 c8:Int):Qjf Qb Q3 F9 [.vC An x0,I x1,I x2,I x3,I x4,I x5,I x6,I x7,I x8,I x9,I L,I M,I G,I N,I O,I U,I V,I X,I Y,I a0,I a1,I a2, .vC Aa a3,I a4,I a5,I a6,I a7,I a8,I a9,I b0,I b1,I b2, .vC Aa b3,I b4,I b5,I b6,I b7,I b8,I b9,I c0,I c1,I c2, .vC Aa c3,I c4,I c5,I c6,I c7,I c8]=
 (Q3 [I x9,I L,I M,I x1,I x2,I x3,I x4,I x5,I x6,I G]).bind λD=>
 (Qb [I N,I O,I U,I V,I X,I Y,I a0,I a1,I a2, .vC Aa a3,I a4,I a5,I a6,I a7,I a8,I a9,I b0,I b1,I b2, .vC Aa b3,I b4,I b5,I b6,I b7,I b8,I b9,I c0,I c1,I c2, .vC Aa c3,I x9,I L,I M,jA D 0,jA D 1,jA D 2]).bind λo6=>
 cond (decide (gA o6 0>0)) ((F9 [.vC An x0,I 0,jA o6 0,I x7,I 0,I x9,I L,I M,jA D 0,jA D 1,jA D 2,I c4,I c5,I c6,I c7,I c8]).bind λo7=>
 (F9 [.vC An (wA o7 0),I 0,I x8,I x7,I G,jA D 0,jA D 1,jA D 2,jA D 0,jA D 1,jA D 2,jA o7 1,jA o7 2,jA o7 3,jA o7 4,jA o7 5]).bind λo8=>
 some [.vC An (wA o8 0),jA D 0,jA D 1,jA D 2,I G,I N,I O,I U,I V,I X,I Y,I a0,I a1,I a2, .vC Aa a3,I a4,I a5,I a6,I a7,I a8,I a9,I b0,I b1,I b2, .vC Aa b3,I b4,I b5,I b6,I b7,I b8,I b9,I c0,I c1,I c2, .vC Aa c3,jA o8 1,jA o8 2,jA o8 3,jA o8 4,jA o8 5]) ((F9 [.vC An x0,I 0,I x8,I x7,I G,jA D 0,jA D 1,jA D 2,jA D 0,jA D 1,jA D 2,I c4,I c5,I c6,I c7,I c8]).bind λo9=>
 some [.vC An (wA o9 0),jA D 0,jA D 1,jA D 2,I G,I N,I O,I U,I V,I X,I Y,I a0,I a1,I a2, .vC Aa a3,I a4,I a5,I a6,I a7,I a8,I a9,I b0,I b1,I b2, .vC Aa b3,I b4,I b5,I b6,I b7,I b8,I b9,I c0,I c1,I c2, .vC Aa c3,jA o9 1,jA o9 2,jA o9 3,jA o9 4,jA o9 5]):=by kernel_rfl
def I9:=Qjf Ub Sr Tz
instance:RI (Qbm I9):=rw1 (Qux Ub Sr Tz)
def Qwl:Sk:=⟨[tT [ci,ci,ci,sa Ai,sa kPt],tf [ci],tf [ci],tf [ci],tf [CS.clo 49 [] [(20000,0),(20001,0),(20002,0),(20003,0)]]],[(20000,41,[ci,ci,ci]),(20001,3,[ci]),(20002,34,cX),(20003,105,[CS.clo 48 [] [(20004,0)]]),(20004,52,[sd 20000 10]++cc 5)],[(20000,104,An)]⟩
def Zbr:=qa 52 Qwl Zaa
def Qmw (D:Fn):Cfg:={cp [Qbm D] [49]with prom:=λb=>cond (Nat.beq b 4) ([(11,3)]) ([])}
def Q6p:Sk:=⟨[td,tf [ci],tf [ci],tf [ci],tf [CS.clo 49 [] [(20000,0),(20001,0),(20002,0),(20003,0)]],tf [sc 5 0],td,td,td,td,tf [ci],tf [sd 11 1]]++dd 9++[tf [sa Ai],tf [ci],tf [ci]]++dd 78,[(5,46,[ci,ci,ci,sa Ai,sa kPt]),(20000,41,[ci,ci,ci]),(20001,3,[ci]),(20002,34,cX),(20003,105,[CS.clo 48 [] [(20004,0)]]),(20004,52,[sd 20000 10]++cc 5)],[(11,3,Aa),(20000,104,An)]⟩
def Qkv:List (Ex×Sk):=[(Ex.exit 0,⟨[td,tf [ci],tf [ci],tf [ci],tf [CS.clo 49 [] [(20000,0),(20001,0),(20002,0),(20003,0)]],tf [sc 5 0],td,td,td,td,td,tf [sd 11 1]]++dd 90,[(5,46,[ci,ci,ci,sa Ai,sa kPt]),(20000,41,[ci,ci,ci]),(20001,3,[ci]),(20002,34,cX),(20003,105,[CS.clo 48 [] [(20004,0)]]),(20004,52,[sd 20000 10]++cc 5)],[(11,3,Aa),(20000,104,An)]⟩)]
def WN (D:Fn):Lp:=sL (Qmw D) 52 4 Q6p Qkv
def Zbn (D:Fn) (G:Lp):Cfg:=(Qmw D).loop 4 Q6p Qkv G
def Zb2:Sk:=⟨[td,tf [ci],tf [ci],tf [ci],tf [CS.clo 49 [] [(20000,0),(20001,0),(20002,0),(20003,0)]],tf [sc 5 0],td,td,td,td,td,tf [sd 11 1]]++dd 26++[tf [ci],tf [ci]]++dd 62,[(5,46,[ci,ci,ci,sa Ai,sa kPt]),(20000,41,[ci,ci,ci]),(20001,3,[ci]),(20002,34,cX),(20003,105,[CS.clo 48 [] [(20004,0)]]),(20004,52,[sd 20000 10]++cc 5)],[(11,3,Aa),(20000,104,An)]⟩
def Q24:List (Ex×Sk):=[(Ex.exit 2,⟨[td]++dd 101,[(20000,41,[ci,ci,ci]),(20001,3,[ci]),(20002,34,cX),(20003,105,[CS.clo 48 [] [(20004,0)]]),(20004,52,[sd 20000 10]++cc 5)],[(20000,104,An)]⟩)]
def Xg (D:Fn) (G:Lp):Lp:=sL (Zbn D G) 52 10 Zb2 Q24
def Zfj (G:Fn) (I D:Lp):Cfg:=(Zbn G I).loop 10 Zb2 Q24 D
def Qco (G:Fn) (I D:Lp):Fn:=mF (Zfj G I D) 52 Qwl Zaa
theorem Qzs (D v27 v37 a7:Rw) (a2 v35 v36 v38 a3 v40 a4 v42 a5 v44 a6 v46 v48 v49 a8 v51 a9:Int):WN G [.vC Aa A, .vC An C,I a,I b,I c,I d, .vC Ai E,I e,I f,I g,I h,I i, .vC Ai F, .vC kPt D,I j,I k,I l,I m,I n,I o,I p,I q,I r,I s,I t,I u,I v, .vC Aa v27,I w,I x,I y,I z,I α,I β,I a2,I v35,I v36, .vC Aa v37,I v38,I a3,I v40,I a4,I v42,I a5,I v44,I a6,I v46, .vC Aa a7,I v48,I v49,I a8,I v51,I a9]=
 cond (decide (f<e)) (cond (decide (0<=f)&&decide (f<(E.length:Int))) (cond (((A++[[I d]]).length*8).ble 140737488355328) (some (0,[.vC Aa (A++[[I d]]), .vC An C,I a,I b,I c,I (O (d+gA (nth [] E f.toNat) 3)), .vC Ai E,I e,I (O (f+1)),I g,I h,I i, .vC Ai F, .vC kPt D,I j,I k,I l,I m,I n,I o,I p,I q,I r,I s,I t,I u,I v, .vC Aa v27,I w,I x,I y,I z,I α,I β,I a2,I v35,I v36, .vC Aa v37,I v38,I a3,I v40,I a4,I v42,I a5,I v44,I a6,I v46, .vC Aa a7,I v48,I v49,I a8,I v51,I a9])) (none)) (none)) (some (1,[.vC Aa A, .vC An C,I a,I b,I c,I g,I h,I i, .vC Ai F, .vC kPt D,I j,I k,I l,I m,I n,I o,I p,I q,I r,I s,I t,I u,I v, .vC Aa v27,I w,I x,I y,I z,I α,I β,I a2,I v35,I v36, .vC Aa v37,I v38,I a3,I v40,I a4,I v42,I a5,I v44,I a6,I v46, .vC Aa a7,I v48,I v49,I a8,I v51,I a9])):=by kernel_rfl
abbrev Tb (M:Bool) (B4:Fn) (v1:Rw) (N U G L:AC) (v12 a1 a2 a3 a4 a5 a6 a7 v20 v21 v22 a8 v24:Int) (v25:Rw) (a9 v27 v28 b0 v30 v31 b1 v33 b2:Int) (v35:Rw) (v36 v37 v38 b3 v40 b4 v42 b5 v44:Int) (b6:Rw) (v46 b7 v48 v49 b8:Int) (v0:Rw) (v2 v3 v4 v5 v6 v7 v8 v9:Int) (v10 v11:Rw) (V X Y a0:AC):Option (Nat×List AC):=
 cond (M) ((B4 [.vC An v1,V,X,Y,N,U,G,a0,L,I v12,I a1,I a2,I a3,I a4,I a5,I a6,I a7,I v20,I v21,I v22,I a8,I v24, .vC Aa v25,I a9,I v27,I v28,I b0,I v30,I v31,I b1,I v33,I b2, .vC Aa v35,I v36,I v37,I v38,I b3,I v40,I b4,I v42,I b5,I v44, .vC Aa b6,I v46,I b7,I v48,I v49,I b8]).bind λD=>
 some (0,[.vC Aa v0, .vC An (wA D 0),I v2,I v3,I v4,I v5,I (O (v6+1)),I v7,I v8,I v9, .vC Ai v10, .vC kPt v11,jA D 1,jA D 2,jA D 3,jA D 4,jA D 5,jA D 6,jA D 7,jA D 8,jA D 9,jA D 10,jA D 11,jA D 12,jA D 13, .vC Aa (wA D 14),jA D 15,jA D 16,jA D 17,jA D 18,jA D 19,jA D 20,jA D 21,jA D 22,jA D 23, .vC Aa (wA D 24),jA D 25,jA D 26,jA D 27,jA D 28,jA D 29,jA D 30,jA D 31,jA D 32,jA D 33, .vC Aa (wA D 34),jA D 35,jA D 36,jA D 37,jA D 38,jA D 39])) (none)
abbrev Qa9 (v0 v1:Rw) (v2 v3 v4 v5 v6 v7 v8 v9:Int) (v10 v11:Rw) (v12 U V X Y a0 a1 a2 v20 v21 v22 a3 v24:Int) (v25:Rw) (a4 v27 v28 a5 v30 v31 a6 v33 a7:Int) (v35:Rw) (v36 v37 v38 a8 v40 a9 v42 b0 v44:Int) (b1:Rw) (v46 b2 v48 v49 b3:Int) (B4:Fn) (b6 L c0 c1 c2:Bool) (b7 b8 b9 M N D b4 G b5:AC):Option (Nat×List AC):=
 cond (b6) (cond (b6) (cond (L) (cond (c0) (some (0,[.vC Aa v0, .vC An v1,I v2,I v3,I v4,I v5,I (O (v6+1)),I v7,I v8,I v9, .vC Ai v10, .vC kPt v11,I v12,I U,I V,I X,I Y,I a0,I a1,I a2,I v20,I v21,I v22,I a3,I v24, .vC Aa v25,I a4,I v27,I v28,I a5,I v30,I v31,I a6,I v33,I a7, .vC Aa v35,I v36,I v37,I v38,I a8,I v40,I a9,I v42,I b0,I v44, .vC Aa b1,I v46,I b2,I v48,I v49,I b3])) (cond (c1) (cond (c2) (cond (decide (v4<0)) (Tb L B4 v1 M N D G v12 U V X Y a0 a1 a2 v20 v21 v22 a3 v24 v25 a4 v27 v28 a5 v30 v31 a6 v33 a7 v35 v36 v37 v38 a8 v40 a9 v42 b0 v44 b1 v46 b2 v48 v49 b3 v0 v2 v3 v4 v5 v6 v7 v8 v9 v10 v11 b7 b8 b9 b4) (Tb L B4 v1 M N D G v12 U V X Y a0 a1 a2 v20 v21 v22 a3 v24 v25 a4 v27 v28 a5 v30 v31 a6 v33 a7 v35 v36 v37 v38 a8 v40 a9 v42 b0 v44 b1 v46 b2 v48 v49 b3 v0 v2 v3 v4 v5 v6 v7 v8 v9 v10 v11 b7 b8 b9 b5)) (none)) (cond (decide (v4<0)) (Tb L B4 v1 M N D G v12 U V X Y a0 a1 a2 v20 v21 v22 a3 v24 v25 a4 v27 v28 a5 v30 v31 a6 v33 a7 v35 v36 v37 v38 a8 v40 a9 v42 b0 v44 b1 v46 b2 v48 v49 b3 v0 v2 v3 v4 v5 v6 v7 v8 v9 v10 v11 (I v7) (I v8) (I v9) b4) (Tb L B4 v1 M N D G v12 U V X Y a0 a1 a2 v20 v21 v22 a3 v24 v25 a4 v27 v28 a5 v30 v31 a6 v33 a7 v35 v36 v37 v38 a8 v40 a9 v42 b0 v44 b1 v46 b2 v48 v49 b3 v0 v2 v3 v4 v5 v6 v7 v8 v9 v10 v11 (I v7) (I v8) (I v9) b5)))) (none)) (none)) (none)
theorem Zf5 (v25 v35 b0:Rw) (v33 a6 v36 v37 v38 a7 v40 a8 v42 a9 v44 v46 b1 v48 v49 b2:Int):Xg G Z [.vC Aa A, .vC An C,I a,I b,I c,I d,I e,I f,I g,I h, .vC Ai E, .vC kPt F,I i,I j,I k,I l,I m,I n,I o,I p,I q,I r,I s,I t,I u, .vC Aa v25,I v,I w,I x,I y,I z,I α,I β,I v33,I a6, .vC Aa v35,I v36,I v37,I v38,I a7,I v40,I a8,I v42,I a9,I v44, .vC Aa b0,I v46,I b1,I v48,I v49,I b2]=
 cond (decide (e<d)) (cond (decide (c<0)) (Qa9 A C a b c d e f g h E F i j k l m n o p q r s t u v25 v w x y z α β v33 a6 v35 v36 v37 v38 a7 v40 a8 v42 a9 v44 b0 v46 b1 v48 v49 b2 G (decide (0<=O (O ((E.length:Int)-1)-e))&&decide (O (O ((E.length:Int)-1)-e)<(A.length:Int))) (decide (0<=O (O ((E.length:Int)-1)-e))&&decide (O (O ((E.length:Int)-1)-e)<(E.length:Int))) (decide (mx (Af (nth .vD (nth [] A (O (O ((E.length:Int)-1)-e)).toNat) 0)) a>=mn (O (Af (nth .vD (nth [] A (O (O ((E.length:Int)-1)-e)).toNat) 0)+Af (nth .vD (nth [] E (O (O ((E.length:Int)-1)-e)).toNat) 3))) b)) (decide (O (O ((E.length:Int)-1)-e)>0)) (decide (0<=O (O (O ((E.length:Int)-1)-e)-1))&&decide (O (O (O ((E.length:Int)-1)-e)-1)<(E.length:Int))) (I (Af (nth .vD (nth [] E (O (O (O ((E.length:Int)-1)-e)-1)).toNat) 0))) (I (Af (nth .vD (nth [] E (O (O (O ((E.length:Int)-1)-e)-1)).toNat) 1))) (I (Af (nth .vD (nth [] E (O (O (O ((E.length:Int)-1)-e)-1)).toNat) 2))) (I (Af (nth .vD (nth [] E (O (O ((E.length:Int)-1)-e)).toNat) 0))) (I (Af (nth .vD (nth [] E (O (O ((E.length:Int)-1)-e)).toNat) 1))) (I (Af (nth .vD (nth [] E (O (O ((E.length:Int)-1)-e)).toNat) 2))) (I (mn (O (Af (nth .vD (nth [] A (O (O ((E.length:Int)-1)-e)).toNat) 0)+Af (nth .vD (nth [] E (O (O ((E.length:Int)-1)-e)).toNat) 3))) b)) (I (O (mn (O (Af (nth .vD (nth [] A (O (O ((E.length:Int)-1)-e)).toNat) 0)+Af (nth .vD (nth [] E (O (O ((E.length:Int)-1)-e)).toNat) 3))) b-mx (Af (nth .vD (nth [] A (O (O ((E.length:Int)-1)-e)).toNat) 0)) a))) (I (mx (Af (nth .vD (nth [] A (O (O ((E.length:Int)-1)-e)).toNat) 0)) a))) (Qa9 A C a b c d e f g h E F i j k l m n o p q r s t u v25 v w x y z α β v33 a6 v35 v36 v37 v38 a7 v40 a8 v42 a9 v44 b0 v46 b1 v48 v49 b2 G (decide (0<=e)&&decide (e<(A.length:Int))) (decide (0<=e)&&decide (e<(E.length:Int))) (decide (mx (gA (nth [] A e.toNat) 0) a>=mn (O (gA (nth [] A e.toNat) 0+gA (nth [] E e.toNat) 3)) b)) (decide (e>0)) (decide (0<=O (e-1))&&decide (O (e-1)<(E.length:Int))) (jA (nth [] E (O (e-1)).toNat) 0) (jA (nth [] E (O (e-1)).toNat) 1) (jA (nth [] E (O (e-1)).toNat) 2) (jA (nth [] E e.toNat) 0) (jA (nth [] E e.toNat) 1) (jA (nth [] E e.toNat) 2) (I (mn (O (gA (nth [] A e.toNat) 0+gA (nth [] E e.toNat) 3)) b)) (I (O (mn (O (gA (nth [] A e.toNat) 0+gA (nth [] E e.toNat) 3)) b-mx (gA (nth [] A e.toNat) 0) a))) (I (mx (gA (nth [] A e.toNat) 0) a)))) (some (1,[.vC An C,I i,I j,I k,I l,I m,I n,I o,I p,I q,I r,I s,I t,I u, .vC Aa v25,I v,I w,I x,I y,I z,I α,I β,I v33,I a6, .vC Aa v35,I v36,I v37,I v38,I a7,I v40,I a8,I v42,I a9,I v44, .vC Aa b0,I v46,I b1,I v48,I v49,I b2])):=by kernel_rfl
theorem Zy1 (L:Lp) (b5 c5:Rw) (b6 b7 b8 b9 c0 c1 c2 c3 c4 c6 c7 c8 c9 d0:Int):Qco H Z L [.vC An A,I a,I b,I c, .vC Ai C, .vC kPt E,I d,I e,I f,I g,I h,I i,I j,I k,I l,I m,I n,I o,I p,I q,I r,I s, .vC Aa F,I t,I u,I v,I w,I x,I y,I z,I α,I β, .vC Aa b5,I b6,I b7,I b8,I b9,I c0,I c1,I c2,I c3,I c4, .vC Aa c5,I c6,I c7,I c8,I c9,I d0]=
 (Z [.vC Aa [], .vC An A,I d,I e,I f,I 0, .vC Ai C,I (C.length:Int),I 0,I a,I b,I c, .vC Ai C, .vC kPt E,I g,I h,I i,I j,I k,I l,I m,I n,I o,I p,I q,I r,I s, .vC Aa F,I t,I u,I v,I w,I x,I y,I z,I α,I β, .vC Aa b5,I b6,I b7,I b8,I b9,I c0,I c1,I c2,I c3,I c4, .vC Aa c5,I c6,I c7,I c8,I c9,I d0]).bind λD=>
 cond (D.1.beq 1) ((L [.vC Aa (wA D.2 0), .vC An (wA D.2 1),jA D.2 2,jA D.2 3,jA D.2 4,I (↑(wA D.2 8).length:Int),I 0,jA D.2 5,jA D.2 6,jA D.2 7, .vC Ai (wA D.2 8), .vC kPt (wA D.2 9),jA D.2 10,jA D.2 11,jA D.2 12,jA D.2 13,jA D.2 14,jA D.2 15,jA D.2 16,jA D.2 17,jA D.2 18,jA D.2 19,jA D.2 20,jA D.2 21,jA D.2 22, .vC Aa (wA D.2 23),jA D.2 24,jA D.2 25,jA D.2 26,jA D.2 27,jA D.2 28,jA D.2 29,jA D.2 30,jA D.2 31,jA D.2 32, .vC Aa (wA D.2 33),jA D.2 34,jA D.2 35,jA D.2 36,jA D.2 37,jA D.2 38,jA D.2 39,jA D.2 40,jA D.2 41,jA D.2 42, .vC Aa (wA D.2 43),jA D.2 44,jA D.2 45,jA D.2 46,jA D.2 47,jA D.2 48]).bind λG=>
 cond (G.1.beq 1) (some [.vC An (wA G.2 0),jA G.2 1,jA G.2 2,jA G.2 3,jA G.2 4,jA G.2 5,jA G.2 6,jA G.2 7,jA G.2 8,jA G.2 9,jA G.2 10,jA G.2 11,jA G.2 12,jA G.2 13, .vC Aa (wA G.2 14),jA G.2 15,jA G.2 16,jA G.2 17,jA G.2 18,jA G.2 19,jA G.2 20,jA G.2 21,jA G.2 22,jA G.2 23, .vC Aa (wA G.2 24),jA G.2 25,jA G.2 26,jA G.2 27,jA G.2 28,jA G.2 29,jA G.2 30,jA G.2 31,jA G.2 32,jA G.2 33, .vC Aa (wA G.2 34),jA G.2 35,jA G.2 36,jA G.2 37,jA G.2 38,jA G.2 39]) (none)) (none):=by kernel_rfl
def SJ:=Ak (WN I9)
def Q6s:=Ak (Xg I9 SJ)
def T9:=Qco I9 SJ Q6s
instance:RI (Zbr T9):=rw2 (Zfj I9 SJ Q6s) (fl (fl fb))
def Qti:Sk:=⟨[tT [ci,ci,ci,sa Ai,sa kPt]],[],[]⟩
def Qhw:=qa 17 Qti Qvf
def Qxz:Sk:=⟨[td,td,td,tf [ci],td,td,td,tf [sa Ai],tf [ci],tf [ci]]++dd 9,[],[]⟩
def Q4b:List (Ex×Sk):=[(Ex.exit 0,⟨[td,td,td,tf [ci]]++dd 15,[],[]⟩)]
def TU:Lp:=sL Qy3 17 3 Qxz Q4b
def Zko (D:Lp):Cfg:=Qy3.loop 3 Qxz Q4b D
def Q16 (D:Lp):Fn:=mF (Zko D) 17 Qti Qvf
theorem Q4v:TU [I a, .vC Ai A,I b,I c]=
 cond (decide (c<b)) (cond (decide (0<=c)&&decide (c<(A.length:Int))) (some (0,[I (O (a+gA (nth [] A c.toNat) 3)), .vC Ai A,I b,I (O (c+1))])) (none)) (some (1,[I a])):=by kernel_rfl
theorem Zw2:Q16 Z [I a,I b,I c, .vC Ai A, .vC kPt C]=
 (Z [I 0, .vC Ai A,I (A.length:Int),I 0]).bind λo1=>
 cond (o1.1.beq 1) (some [jA o1.2 0]) (none):=by kernel_rfl
def YZ:=Ak (TU)
def Om:=Q16 YZ
instance:RI (Qhw Om):=rw2 (Zko YZ) (fl fb)
def Zl1:Sk:=⟨[tT [ci,ci,ci,sa Ai,sa kPt],tT cX,tT [ci,ci,ci],tf [ci],tf [ci]],[],[]⟩
def Qqw:Sk:=⟨[tT ([sa An]++cc 5)],[],[]⟩
def Y1:=qa 16 Zl1 Qqw
def Q83 (D G I L M:Fn):Cfg:=cp [Zbr D,Qbm G,Qd7 I,Tc L,Qhw M] [52,49,48]
def Qea (D G I L M:Fn):Fn:=mF (Q83 D G I L M) 16 Zl1 Qqw
def Zrl (M_ B4 F9 Cz GM:Fn) (x0 x1 x2:Int) (x3 x4:Rw) (x5 x6 x7 x8 x9 M N O U:Int) (V:Rw) (X Y a0 a1 a2 a3 a4 a5 a6:Int) (a7:Rw) (a8 a9 b0 b1 b2 b3 b4 b5 b6:Int) (b7:Rw) (D G L b8 b9:Int):Qea M_ B4 F9 Cz GM [I x0,I x1,I x2, .vC Ai x3, .vC kPt x4,I x5,I x6,I x7,I x8,I x9,I M,I N,I O,I U, .vC Aa V,I X,I Y,I a0,I a1,I a2,I a3,I a4,I a5,I a6, .vC Aa a7,I a8,I a9,I b0,I b1,I b2,I b3,I b4,I b5,I b6, .vC Aa b7,I D,I G,I L,I b8,I b9]=
 (GM [I x0,I x1,I x2, .vC Ai x3, .vC kPt x4]).bind λo5=>
 (Cz [I b8,jA o5 0]).bind λo6=>
 (Cz [I b9,jA o5 0]).bind λo7=>
 cond (decide (gA o6 0>gA o7 0)) ((M_ [.vC An [],I x0,I x1,I x2, .vC Ai x3, .vC kPt x4,I (mn (gA o6 0) (gA o7 0)),I (mx (gA o6 0) (gA o7 0)),I (-1),I D,I G,I L,I (-1),I x5,I x6,I x7,I x8,I x9,I M,I N,I O,I U, .vC Aa V,I X,I Y,I a0,I a1,I a2,I a3,I a4,I a5,I a6, .vC Aa a7,I a8,I a9,I b0,I b1,I b2,I b3,I b4,I b5,I b6, .vC Aa b7,I 0,jA o6 0,I D,I G,I L]).bind λo8=>
 some [.vC An (wA o8 0),jA o8 35,jA o8 36,jA o8 37,jA o8 38,jA o8 39]) ((M_ [.vC An [],I x0,I x1,I x2, .vC Ai x3, .vC kPt x4,I (mn (gA o6 0) (gA o7 0)),I (mx (gA o6 0) (gA o7 0)),I 1,I D,I G,I L,I 1,I x5,I x6,I x7,I x8,I x9,I M,I N,I O,I U, .vC Aa V,I X,I Y,I a0,I a1,I a2,I a3,I a4,I a5,I a6, .vC Aa a7,I a8,I a9,I b0,I b1,I b2,I b3,I b4,I b5,I b6, .vC Aa b7,I 0,jA o6 0,I D,I G,I L]).bind λo9=>
 some [.vC An (wA o9 0),jA o9 35,jA o9 36,jA o9 37,jA o9 38,jA o9 39]):=by kernel_rfl
def OH:=Qea T9 I9 Tz It Om
instance:RI (Y1 OH):=rw1 (Q83 T9 I9 Tz It Om)
def Zmt:=qa 208 Qro Qwz
def Zho:Sk:=⟨[td,tf [ci],tf [sc 2 0],td,tf [sc 4 0]]++dd 8++[tf [sa An],tf [ci],tf [ci]]++dd 29,[(2,52,[sa An]++cc 5),(4,41,[ci,ci,ci])],[]⟩
def Qmn:List (Ex×Sk):=[(Ex.ret,⟨[td,td,td,td,tf [sc 4 0]]++dd 40,[(4,41,[ci,ci,ci])],[]⟩),(Ex.exit 0,⟨[td,td,tf [sc 2 0],td,tf [sc 4 0]]++dd 40,[(2,52,[sa An]++cc 5),(4,41,[ci,ci,ci])],[]⟩)]
def Uf:Lp:=sL Qy3 208 3 Zho Qmn
def Zl2 (D:Lp):Cfg:=Qy3.loop 3 Zho Qmn D
def Qg0 (D:Lp):Fn:=mF (Zl2 D) 208 Qro Qwz
theorem Z86:Uf [I a, .vC An A,I b,I c, .vC An C,I d,I e,I f,I g,I h,I i,I j,I k]=
 cond (decide (c<b)) (cond (decide (0<=c)&&decide (c<(A.length:Int))) (cond (decide (a>O (gA (nth [] A c.toNat) 0+gA (nth [] A c.toNat) 1))) (some (0,[I a, .vC An A,I b,I (O (c+1)), .vC An C,I d,I e,I f,I g,I h,I i,I j,I k])) (cond (gA (nth [] A c.toNat) 3 !=0) (some (1,[jA (nth [] A c.toNat) 7,jA (nth [] A c.toNat) 8,jA (nth [] A c.toNat) 9])) (cond (a==O (gA (nth [] A c.toNat) 0+gA (nth [] A c.toNat) 1)) (some (1,[jA (nth [] A c.toNat) 7,jA (nth [] A c.toNat) 8,jA (nth [] A c.toNat) 9])) (some (1,[jA (nth [] A c.toNat) 4,jA (nth [] A c.toNat) 5,jA (nth [] A c.toNat) 6]))))) (none)) (some (2,[.vC An C,I d,I e,I f,I g,I h,I i,I j,I k])):=by kernel_rfl
def Yad (L:Lp) (D:Rw) (G M N O U V:Int):Qg0 L [.vC An D,I G,I M,I N,I O,I U,I V]=
 (L [I (mx 0 (mn V G)), .vC An D,I (D.length:Int),I 0, .vC An D,I G,I M,I N,I O,I U,I 0,I 0,I 0]).bind λo1=>
 cond (o1.1.beq 1) (some [jA o1.2 0,jA o1.2 1,jA o1.2 2]) (cond (o1.1.beq 2) (some [jA o1.2 3,jA o1.2 4,jA o1.2 5]) (none)):=by kernel_rfl
def Zjh:=Ak (Uf)
def Qcd:=Qg0 Zjh
instance:RI (Zmt Qcd):=rw2 (Zl2 Zjh) (fl fb)
def Qts:=qa 207 Qro Zkh
def Zif (D G:Fn):Cfg:=cf [Xv D,Tc G]
def Qc2 (D G:Fn):Fn:=mF (Zif D G) 207 Qro Zkh
def Zxy (L M:Fn) (D:Rw) (G N U V X Y:Int):Qc2 L M [.vC An D,I G,I N,I U,I V,I X,I Y]=
 (M [I Y,I G]).bind λo2=>
 (L [.vC An D,I G,I N,I U,I V,I X,jA o2 0]).bind λo3=>
 cond (decide (gA o3 0<0)) (some [B false]) (cond (decide (0<=gA o3 0)&&decide (gA o3 0<(D.length:Int))) (cond (gA (nth [] D (gA o3 0).toNat) 3==0) (cond (decide (gA (nth [] D (gA o3 0).toNat) 0<gA o2 0)) (some [B (decide (gA o2 0<O (gA (nth [] D (gA o3 0).toNat) 0+gA (nth [] D (gA o3 0).toNat) 1)))]) (some [B false])) (some [B false])) (none)):=by kernel_rfl
def U1:=Qc2 KX It
instance:RI (Qts U1):=rw1 (Zif KX It)
def Qc8:=qa 103 Zb4 Zkh
def Qbs:Fn:=mF Qy3 103 Zb4 Zkh
theorem Z62:Qbs [I a,I b,I c,I d,I e,I f]=
 cond (b==0) (cond (c==0) (cond (d==a) (some [B (e==a)]) (some [B false])) (some [B false])) (some [B false]):=by kernel_rfl
def IM:=Qbs
instance r_retrace_Still:RI (Qc8 IM):=rw1 Qy3
def Qus:Sk:=⟨[tT [ci,ci,ci,sa Ai,sa kPt],tT cX,tT ([sa An]++cc 5),tT (cc 6),tf [ci]],[],[]⟩
def Q0v:Sk:=⟨[TS.tup [(true,[sa An]++cc 5),(true,cc 6),(false,[sb])]],[],[]⟩
def Qaa:=qa 158 Qus Q0v
def Q0p (D G I L M N:Fn):Cfg:={cf [WA D,Y1 G,PX I,Zmt L,Qts M,Qc8 N]with ownBut:=[10]}
def Qaw (D G I L M N:Fn):Fn:=mF (Q0p D G I L M N) 158 Qus Q0v
theorem Ye6 (p:Pth) (x:Ax3) (t:Trk):Qaw H J K L M N (pxt p x t [I a,I b,I c,I d,I e,I f,I g])=
 (N [I a,I b,I c,I d,I e,I f]).bind λo6=>
 cond (!bA o6 0) (some [.vC An [],I 0,I 0,I 0,I 0,I 0,I 0,I 0,I 0,I 0,I 0,I 0,B false]) ((M (Bh t++[I (O (a.tdiv 256))])).bind λo7=>
 cond (bA o7 0) (some [.vC An [],I 0,I 0,I 0,I 0,I 0,I 0,I 0,I 0,I 0,I 0,I 0,B false]) ((L (Bh t++[I (O (a.tdiv 256))])).bind λo8=>
 (K (Bh t++[I (O (a.tdiv 256))])).bind λo9=>
 (J (BG p++(AF x++[jA o8 0,jA o8 1,jA o8 2,jA o9 0,I g]))).bind λD=>
 (H [I 0]).bind λG=>
 some [.vC An (wA D 0),jA D 1,jA D 2,jA D 3,jA D 4,jA D 5,jA G 0,jA G 1,jA G 2,jA G 3,jA G 4,jA G 5,B true])):=by kernel_rfl
def Nb:=Qaw Kc OH Fw Qcd U1 IM
instance r_retrace_Turn:RI (Qaa Nb):=rw1 (Q0p Kc OH Fw Qcd U1 IM)
def Qrc:Sk:=⟨[TS.tup [(false,[ci]),(false,[sb])]],[(20000,179,cS)],[]⟩
def Qyf:=qa 108 Qic Qrc
def Qm9 (D G:Fn):Cfg:=cf [Qaa D,Vy G]
def Us (D G:Fn):Fn:=mF (Qm9 D G) 108 Qic Qrc
abbrev RB (M:Fn) (K:Kf) (c:Cv) (G L:AC):Option (List AC):=
 (M (pxt K.p K.x K.t [I c.m0,I c.m1,I c.m2,I c.m3,I c.m4,I c.m5,L])).bind λD=>
 cond (!bA D 12) (some (G::B true::Ac K c)) (cond (c.way==1) (some (G::B true::DQ (Ac K c) [(44, .vC An (wA D 0)),(45,jA D 1),(46,jA D 2),(47,jA D 3),(48,jA D 4),(49,jA D 5),(50,jA D 6),(51,jA D 7),(52,jA D 8),(53,jA D 9),(54,jA D 10),(55,jA D 11),(71,I 2),(89,B true)])) (some (G::B true::DQ (Ac K c) [(44, .vC An (wA D 0)),(45,jA D 1),(46,jA D 2),(47,jA D 3),(48,jA D 4),(49,jA D 5),(50,jA D 6),(51,jA D 7),(52,jA D 8),(53,jA D 9),(54,jA D 10),(55,jA D 11),(58,B true),(71,I 0),(89,B true)])))
abbrev V7 (c:Cv) (L:Fn) (K:Kf) (M:Fn) (D:AC):Option (List AC):=
 cond (!c.aM) ((L (pxt K.p K.x K.t [I K.pa,I K.pb,I K.pc,I c.o0,I c.o1,B c.o2,B c.o3,B c.o4,I c.m0,I c.m1,I c.m2,I c.m3,I c.m4,I c.m5,I K.t.length])).bind λo8=>
 some (D::B true::Ac K {c with m0:=gA o8 0,m1:=gA o8 1,m2:=gA o8 2,m3:=gA o8 3,m4:=gA o8 4,m5:=gA o8 5})) (cond (c.m0 !=O (K.t.length*256)) ((L (pxt K.p K.x K.t [I K.pa,I K.pb,I K.pc,I c.o0,I c.o1,B c.o2,B c.o3,B c.o4,I c.m0,I c.m1,I c.m2,I c.m3,I c.m4,I c.m5,I K.t.length])).bind λG=>
 some (D::B true::Ac K {c with m0:=gA G 0,m1:=gA G 1,m2:=gA G 2,m3:=gA G 3,m4:=gA G 4,m5:=gA G 5})) (cond (c.way==2) (RB M K c D (I K.len)) (RB M K c D (I c.home))))
theorem Qxo (K:Kf) (c:Cv):Us G H (Ac K c)=
 cond (c.way==0) (some (I 0::B false::Ac K c)) (cond (c.way==2) (V7 c H K G (I 5)) (V7 c H K G (I 4))):=by kernel_rfl
def Jy:=Us Nb H3
instance r_controller_Controller_retracing:RI (Qyf Jy):=rw1 (Qm9 Nb H3)
def Q61:=qa 107 Qic Qrc
def Q9m (D:Fn):Cfg:=cp [YN D] [156]
def Qid (D:Fn):Fn:=mF (Q9m D) 107 Qic Qrc
theorem Zzq (K:Kf) (c:Cv):Qid G (Ac K c)=
 cond (!c.on) (some (I 0::B false::Ac K c)) ((G (Ac K c)).bind λo1=>
 some (jA o1 0::B true::cR 1 o1)):=by kernel_rfl
def No:=Qid PM
instance r_controller_Controller_busy:RI (Q61 No):=rw1 (Q9m PM)
def Q7r:=qa 106 Qic Qrc
def Qfj:Fn:=mF Qy3 106 Qic Qrc
theorem Zuq (K:Kf) (c:Cv):Qfj (Ac K c)=
 cond (!c.aH) (some (I 0::B false::Ac K c)) (cond (!c.aM) (some (I 0::B false::Ac K c)) (some (I 8::B true::Ac K {c with aI:=8}))):=by kernel_rfl
def Nl:=Qfj
instance r_controller_Controller_probed:RI (Q7r Nl):=rw1 Qy3
def Qyh:=qa 105 Qic Qrc
def X6:Fn:=mF Qy3 105 Qic Qrc
theorem Zo1 (K:Kf) (c:Cv):X6 (Ac K c)=
 some (I c.aI::B (c.aI !=0)::Ac K c):=by kernel_rfl
def Mz:=X6
instance r_controller_Controller_over:RI (Qyh Mz):=rw1 Qy3
def Qyn:=qa 104 Qic Qrc
def Qf4 (D G:Fn):Cfg:=cr [WA D,O8 G] [102] [102]
def Qfz (D G:Fn):Fn:=mF (Qf4 D G) 104 Qic Qrc
theorem Zza (K:Kf) (c:Cv):Qfz G H (Ac K c)=
 cond (c.g0 !=2) (some (I 0::B false::Ac K c)) ((H (Ac K c)).bind λo2=>
 (G [jA o2 0]).bind λo3=>
 some (I 6::B true::Ac K {c with m0:=gA o3 0,m1:=gA o3 1,m2:=gA o3 2,m3:=gA o3 3,m4:=gA o3 4,m5:=gA o3 5})):=by kernel_rfl
def KP:=Qfz Kc C6
def Z33:AK PG (Qf4 Kc C6):=G_ (rs:=[102]) rfl ⟨r_planner_Start.out,O_,trivial⟩ rfl (Cu rfl (E6 Hu))
def Qwc:Bx PG (Qyn KP):=(rw1 (Qf4 Kc C6) Z33).out
instance:RI (Qyn KP):=⟨Qwc⟩
def Zjx:Sk:=⟨[tT [ci,ci,ci,ci],tf [ci]],[],[]⟩
def Zlw:=qa 101 Zjx Qpi
def Zi:Fn:=mF Qy3 101 Zjx Qpi
theorem Zz7:Zi [I a,I b,I c,I d,I e]=
 cond (decide (b<c)) (some [I a,I (mn (O (b+e)) c),I c,I (O (d+O (a*mn (O (b+e)) c)))]) (some [I a,I (mx (O (b-e)) c),I c,I (O (d+O (a*mx (O (b-e)) c)))]):=by kernel_rfl
def KF:=Zi
instance r_spindle_Step:RI (Zlw KF):=rw1 Qy3
def Q59 (M:Fn):Nat×Spec:=(100,ET Qic Zkh M)
def Re (D:Fn):Cfg:=cr [Su D] [155] [155]
def XS (D:Fn):Fn:=Nd PG (Re D) 64 100 Qic Zkh
theorem Zn6 (K:Kf) (c:Cv):XS G (Ac K c)=
 (G (Ac K c)).bind λo1=>
 cond (bA o1 7) (cond (decide (0<=gA o1 4)&&decide (gA o1 4<((K.aA.map Ag).length:Int))) (cond (gA (nth [] (K.aA.map Ag) (gA o1 4).toNat) 0==6) (some [B (c.y0==gA o1 4)]) (some [B false])) (none)) (some [B false]):=by kernel_rfl
def Ki:=XS ER
def Zyk:AK PG (Re ER):=G_ (rs:=[155]) rfl ⟨SH,trivial⟩ rfl (E6 Hu)
def Zu8 (vars : List AC) (R : Type) (K : TV -> Mem -> Option R) : Ew PG (Re ER) 64 100 [TV.v false [AC.ptr 20000 0]] ⟨[(20000, (⟨179, (cR 0 vars)⟩ : Box))], []⟩ K = Ew PG (Re ER) 64 100 [TV.v false [AC.ptr 20000 0]] ⟨[(20000, (⟨179, (cR 0 vars)⟩ : Box))], []⟩ (λv _ => K v ⟨[(20000, (⟨179, (cR 0 vars)⟩ : Box))], []⟩) := de (b := ((ER (cR 0 vars)).bind λo1 =>
 cond (bA o1 7) (cond (decide (0<=gA o1 4)&&decide (gA o1 4<(↑(wA vars 35).length:Int))) (cond (Af (nth .vD (nth [] (wA vars 35) (gA o1 4).toNat) 0)==6) (K (TV.v false [B ((gA vars 79)==gA o1 4)]) ⟨[(20000,(⟨179,(cR 0 vars)⟩:Box))],[]⟩) (K (TV.v false [B false]) ⟨[(20000,(⟨179,(cR 0 vars)⟩:Box))],[]⟩)) (none)) (K (TV.v false [B false]) ⟨[(20000,(⟨179,(cR 0 vars)⟩:Box))],[]⟩))) (by kernel_rfl) (Eq.symm (by kernel_rfl))
def Qoz:Bx PG (100,ET Qic Zkh Ki):=RE (C:=Re ER) (L:=64) (by kernel_rfl) (FnOK.bare rfl rfl rfl) Zyk eqOk FX (by kernel_rfl) (by kernel_rfl) (λvars R K=>Zu8 vars R K)
instance:RI (Q59 Ki):=⟨Qoz⟩
def Q5c (M:Fn):Nat×Spec:=(197,ET Q13 Qvf M)
def Zc7:Sk:=⟨[td,tf [ci],td,td,td,tf [ci],tf [ci]]++dd 6++[tf [sa Ai],tf [ci],tf [ci]]++dd 18,[(20000,179,cS)],[]⟩
def Qkp:List (Ex×Sk):=[(Ex.exit 0,⟨dd 6++[tf [ci]]++dd 27,[(20000,179,cS)],[]⟩)]
def N1:Lp:=sL Qy3 197 3 Zc7 Qkp
def WH (D:Lp):Cfg:=Qy3.loop 3 Zc7 Qkp D
def Qud (D:Lp):Fn:=Nd PG (WH D) 64 197 Q13 Qvf
def Zr3 (M L U:Int) (G:Rw) (N D:Int) (K:Kf) (c:Cv):N1 (I M::I L::I U:: .vC Ai G::I N::I D::Ac K c)=
 cond (decide (D<N)) (cond (decide (0<=D)&&decide (D<(G.length:Int))) (cond (decide (O (L+gA (nth [] G D.toNat) 3)<=M)) (cond (gA (nth [] G D.toNat) 6 !=0) (some (0,(I M::I (O (L+gA (nth [] G D.toNat) 3))::I (O (L+gA (nth [] G D.toNat) 3)):: .vC Ai G::I N::I (O (D+1))::Ac K c))) (some (0,(I M::I (O (L+gA (nth [] G D.toNat) 3))::I U:: .vC Ai G::I N::I (O (D+1))::Ac K c)))) (some (0,(I M::I (O (L+gA (nth [] G D.toNat) 3))::I U:: .vC Ai G::I N::I (O (D+1))::Ac K c)))) (none)) (some (1,(I U::Ac K c))):=by kernel_rfl
def Zyq (D:Lp) (G:Int) (K:Kf) (c:Cv):Qud D (I G::Ac K c)=
 (D (I G::I 0::I 0:: .vC Ai (K.p.aF.map At)::I ((K.p.aF.map At).length:Int)::I 0::Ac K c)).bind λo1=>
 cond (o1.1.beq 1) (some [jA o1.2 0]) (none):=by kernel_rfl
def Nf:=Ak (N1)
def Lo:=Qud Nf
def Quy:AK PG (Qy3):=IA rfl LI.out
theorem Yfi (o:List AC):N1 (I a::I b::I c:: .vC Ai A::I d::I e::cR 0 o)=
 cond (decide (e<d)) (cond (decide (0<=e)&&decide (e<(A.length:Int))) (cond (decide (O (b+gA (nth [] A e.toNat) 3)<=a)) (cond (gA (nth [] A e.toNat) 6 !=0) (some (0,(I a::I (O (b+gA (nth [] A e.toNat) 3))::I (O (b+gA (nth [] A e.toNat) 3)):: .vC Ai A::I d::I (O (e+1))::cR 0 o))) (some (0,(I a::I (O (b+gA (nth [] A e.toNat) 3))::I c:: .vC Ai A::I d::I (O (e+1))::cR 0 o)))) (some (0,(I a::I (O (b+gA (nth [] A e.toNat) 3))::I c:: .vC Ai A::I d::I (O (e+1))::cR 0 o)))) (none)) (some (1,(I c::cR 0 o))):=by kernel_rfl
def V3 (o:List AC) (D:Rw) (L M:Int):∀(n:Nat) (N U G:Int) (a:Nat×List AC),Cf N1 n (I L::I N::I U:: .vC Ai D::I M::I G::cR 0 o)=some a->∃r:Int,a=(1,I r::cR 0 o)
  |0,_,_,_,_,h=>by cases h
  |n+1,N,U,G,a,h=>by
    have h:((N1 (I L::I N::I U:: .vC Ai D::I M::I G::cR 0 o)).bind λq=>if q.1=0 then Cf N1 n q.2 else some q)=some a:=h;rw[Yfi]at h;cases V:decide (G<M)<;>rw[V]at h
    · injection h with h
      exact⟨U,h.symm⟩
    cases X:(decide (0<=G)&&decide (G<(D.length:Int)))<;>rw[X]at h
    · cases h
    cases Y:decide (O (N+gA (nth [] D G.toNat) 3)<=L)<;>rw[Y]at h
    · exact V3 o D L M n _ _ _ a h
    cases c4:(gA (nth [] D G.toNat) 6 !=0)<;>rw[c4]at h
    · exact V3 o D L M n _ _ _ a h
    exact V3 o D L M n _ _ _ a h
def Zwr (vars:List AC) (R:Type) (K:TV->Mem->Option R):Ew PG (WH Nf) 64 197 [TV.v false [AC.ptr 20000 0],TV.v false [jA vars 0]] ⟨[(20000,(⟨179,cR 1 vars⟩:Box))],[]⟩ K=Ew PG (WH Nf) 64 197 [TV.v false [AC.ptr 20000 0],TV.v false [jA vars 0]] ⟨[(20000,(⟨179,cR 1 vars⟩:Box))],[]⟩ (λv _=>K v ⟨[(20000,(⟨179,cR 1 vars⟩:Box))],[]⟩):=
  de (b:=(Nf (jA vars 0::I 0::I 0:: .vC Ai (wA vars 41)::I ((wA vars 41).length:Int)::I 0::cR 1 vars)).bind λo=>cond (o.1.beq 1) (K (TV.v false [jA o.2 0]) ⟨[(20000,(⟨179,cR 1 o.2⟩:Box))],[]⟩) (none)) (by kernel_rfl)
  (de (b := (Nf (jA vars 0 :: I 0 :: I 0 :: .vC Ai (wA vars 41) :: I ((wA vars 41).length : Int) :: I 0 :: cR 1 vars)).bind λo => cond (o.1.beq 1) (K (TV.v false [jA o.2 0]) ⟨[(20000, (⟨179, cR 1 vars⟩ : Box))], []⟩) (none)) (by
    cases h:Nf (jA vars 0::I 0::I 0:: .vC Ai (wA vars 41)::I ((wA vars 41).length:Int)::I 0::cR 1 vars)with
    |none=>rfl
    |some a=>
      obtain⟨n,hn⟩:=OQ h;obtain⟨r,rfl⟩:=V3 (cR 1 vars) (wA vars 41) (gA vars 0) _ n 0 0 0 a hn;rfl) (by kernel_rfl))
def Q1x:Bx PG (197,ET Q13 Qvf Lo):=RE (C:=WH Nf) (L:=64) (by kernel_rfl) ((FnOK.bare rfl rfl rfl).loop Quy eqOk FX (by kernel_rfl) (by kernel_rfl)) Quy eqOk FX (by kernel_rfl) (by kernel_rfl) (λvars R K=>Zwr vars R K)
instance:RI (Q5c Lo):=⟨Q1x⟩
def Quj:=qa 154 Q13 Zee
def Qjv (D G I L:Fn):Cfg:=cr [Qaa D,Q5c G,Ok I,Su L] [197,163,155] [197,163,155]
def Qb6 (D G I L:Fn):Fn:=mF (Qjv D G I L) 154 Q13 Zee
theorem Zoe (M N U V:Fn) (G:Int) (K:Kf) (c:Cv):Qb6 M N U V (I G::Ac K c)=
 (V (Ac K c)).bind λo4=>
 cond (!bA o4 7) (some (Ac K c)) (cond (decide (G<=0)) (some (Ac K c)) (cond (c.way !=0) (some (Ac K c)) (cond (c.on) (some (Ac K c)) (cond (c.aI !=0) (some (Ac K c)) (cond (!c.o2) (some (Ac K c)) (cond (gA o4 6 !=0) (some (Ac K c)) ((U (Ac K c)).bind λL=>
 (N (jA L 0::Ac K c)).bind λo6=>
 (M (pxt K.p K.x K.t [I c.m0,I c.m1,I c.m2,I c.m3,I c.m4,I c.m5,I (mx (mx 0 (O (gA L 0-G))) (gA o6 0))])).bind λD=>
 cond (!bA D 12) (some (Ac K c)) (some (DQ (Ac K c) [(44, .vC An (wA D 0)),(45,jA D 1),(46,jA D 2),(47,jA D 3),(48,jA D 4),(49,jA D 5),(50,jA D 6),(51,jA D 7),(52,jA D 8),(53,jA D 9),(54,jA D 10),(55,jA D 11),(58,B false),(71,I 1),(72,jA L 0)]))))))))):=by kernel_rfl
def Sv:=Qb6 Nb Lo De ER
def Zsw:AK PG (Qjv Nb Lo De ER):=G_ (rs:=[197,163,155]) rfl ⟨r_retrace_Turn.out,Q1x,Oz,SH,trivial⟩ rfl (Cu rfl (E6 (E6 (E6 Hu))))
def Ye1:Bx PG (Quj Sv):=(rw1 (Qjv Nb Lo De ER) Zsw).out
instance:RI (Quj Sv):=⟨Ye1⟩
attribute [go_sem] Wi Yr XC VS XH Yk YO ZQ QP NO Tr TL Qfs V2 WE TK VU Tb Qa9 RB V7
end Go.Bm
