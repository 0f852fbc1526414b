/- functions of the program and of the references, as models -/
import Derived.Test.YtnnpdlgenmnekaaGreatDoorSeShelf
import Derived.Test.YtnnpdlgenmnekaaGreatDoorSeExt
import Derived.Test.YtnnpdlgenmnekaaGreatDoorSePre
import Derived.Test.YtnnpdlgenmnekaaGreatDoorSeKc
import Derived.Test.YtnnpdlgenmnekaaGreatDoorSeBld
import Derived.Test.YtnnpdlgenmnekaaGreatDoorSeStr
import Derived.Test.YtnnpdlgenmnekaaGreatDoorSeFmA
import Derived.Test.YtnnpdlgenmnekaaGreatDoorSeFmB
import Derived.Test.YtnnpdlgenmnekaaGreatDoorSeFmC
import Derived.Test.YtnnpdlgenmnekaaGreatDoorSeFmD
import Derived.Test.YtnnpdlgenmnekaaGreatDoorSeFmE
import Derived.Test.YtnnpdlgenmnekaaGreatDoorSeFmF
import Derived.Test.YtnnpdlgenmnekaaGreatDoorBmTy
set_option linter.unusedSimpArgs false
set_option linter.unusedVariables false
set_option maxRecDepth 100000
noncomputable section
open Go.IntKind (wrap)
namespace Go.Bm
open Go.Proofs
def qa (n:Nat) (s o:Sk) (M:Fn):Nat×Spec:=(n,Ac s o M)
def Zu:Sk:=⟨[TS.v true (cc 9++[sa Aa]),tf [ci]],[],[]⟩
def YY:Sk:=⟨[tf [ci]],[],[]⟩
def Q7l:=qa 60 Zu YY
def Qag:Cfg:=cf []
def Q27:Fn:=Ao PG Qag 64 60 Zu YY
theorem Zcq (L M N O T U G X Y:Int) (x9:Rw) (D:Int):Q27 [I L,I M,I N,I O,I T,I U,I G,I X,I Y, .vC Aa x9,I D]=
 cond (D== -1) (some [I (V (0-G))]) (some [I 0]):=by kernel_rfl
def JC:=Q27
theorem Zc8:Ak PG (Qag):=Ap rfl trivial
theorem Q0g:An PG (Q7l JC):=rw1 (C:=Qag) Zc8
def Qbi:Sk:=⟨[TS.v true (cc 9++[sa Aa]),TS.v true (cc 10),tf [ci],tf [ci]],[],[]⟩
def Z9e:=qa 61 Qbi YY
def WT (D:Fn):Cfg:=cf [Q7l D]
def Qa (D:Fn):Fn:=Ao PG (WT D) 64 61 Qbi YY
abbrev TM (D G M:Int) (L:Bool):Option (List AC):=
 cond (L) (some [I (V (0-mn (V (D-G)) M))]) (some [I (V (mn (V (D-G)) M-M))])
abbrev V6 (D:Int) (G:Fn) (L M N O T U V X Y:Int) (x9:Rw) (a0 a1 a2:Int):Option (List AC):=
 cond (decide (D=(↑0:Int))) ((G [I L,I M,I N,I O,I T,I U,I V,I X,I Y, .vC Aa x9,I a0]).bind λa3=>
 some [jA a3 0]) (cond (decide (D=(↑(0+1):Int))) ((G [I L,I M,I N,I O,I T,I U,I V,I X,I Y, .vC Aa x9,I a1]).bind λa4=>
 some [jA a4 0]) (cond (decide (D=(↑(0+1+1):Int))) ((G [I L,I M,I N,I O,I T,I U,I V,I X,I Y, .vC Aa x9,I a2]).bind λa5=>
 some [jA a5 0]) (none)))
abbrev UU (D:Int) (U:Fn) (V X Y x3 x4 x5 T x7 x8:Int) (x9:Rw) (L M N G I:Int) (O:Bool):Option (List AC):=
 cond (O) (V6 D U V X Y x3 x4 x5 T x7 x8 x9 L M N) (cond (decide (D=(↑0:Int))) (TM G I T (L== -1)) (cond (decide (D=(↑(0+1):Int))) (TM G I T (M== -1)) (cond (decide (D=(↑(0+1+1):Int))) (TM G I T (N== -1)) (none))))
abbrev Tl (D:Int) (V:Fn) (X Y x2 x3 x4 x5 x6 x7 x8:Int) (x9:Rw) (G I L M N:Int) (O T U:Bool):Option (List AC):=
 cond (decide (D=(↑0:Int))) (UU D V X Y x2 x3 x4 x5 x6 x7 x8 x9 G I L M N O) (cond (decide (D=(↑(0+1):Int))) (UU D V X Y x2 x3 x4 x5 x6 x7 x8 x9 G I L M N T) (cond (decide (D=(↑(0+1+1):Int))) (UU D V X Y x2 x3 x4 x5 x6 x7 x8 x9 G I L M N U) (none)))
theorem Qin (X:Fn) (Y x1 x2 x3 x4 x5 x6 x7 x8:Int) (x9:Rw) (N a1 a2 a0 O T U D G L M V:Int):Qa X [I Y,I x1,I x2,I x3,I x4,I x5,I x6,I x7,I x8, .vC Aa x9,I N,I a1,I a2,I a0,I O,I T,I U,I D,I G,I L,I M,I V]=
 cond (a0 !=0) (V6 M X Y x1 x2 x3 x4 x5 x6 x7 x8 x9 D G L) (cond (decide (M=(↑0:Int))) (Tl M X Y x1 x2 x3 x4 x5 x6 x7 x8 x9 D G L V N (O==D) (O==G) (O==L)) (cond (decide (M=(↑(0+1):Int))) (Tl M X Y x1 x2 x3 x4 x5 x6 x7 x8 x9 D G L V N (T==D) (T==G) (T==L)) (cond (decide (M=(↑(0+1+1):Int))) (Tl M X Y x1 x2 x3 x4 x5 x6 x7 x8 x9 D G L V N (U==D) (U==G) (U==L)) (none)))):=by kernel_rfl
def R6:=Qa JC
theorem Zfy:Ak PG (WT JC):=Ap rfl ⟨Q0g,trivial⟩
theorem Zu8:An PG (Z9e R6):=rw1 (C:=WT JC) Zfy
def Z1s:=qa 111 Zu YY
def Q5g:Fn:=Ao PG Qag 64 111 Zu YY
theorem Zfc (D L M N O T U X Y:Int) (x9:Rw) (G:Int):Q5g [I D,I L,I M,I N,I O,I T,I U,I X,I Y, .vC Aa x9,I G]=
 cond (decide (D<=0)) (some [I 0]) (cond (decide (V (2*D)<=0)) (some [I 0]) (cond (decide (V (2*D)=0)) (none) (cond (decide (V (2*D)=0)) (none) (cond (decide ((V (V (2*G)+D)).tmod (V (2*D))<0)) (some [I (V (V ((V (V (2*G)+D)).tdiv (V (2*D)))-1))]) (some [I (V ((V (V (2*G)+D)).tdiv (V (2*D))))]))))):=by kernel_rfl
def Kx:=Q5g
theorem Zci:An PG (Z1s Kx):=rw1 (C:=Qag) Zc8
def Ys:Sk:=⟨[tf [si .u64],tf [sb]],[],[]⟩
def XR:Sk:=⟨[TS.tup [(false,[ci]),(false,[sb])]],[],[]⟩
def Wn:=qa 130 Ys XR
def Q2z:Fn:=Ao PG Qag 64 130 Ys XR
theorem Q9q (D:Int) (G:Bool):Q2z [U D,B G]=
 cond (G) (cond (decide (D<=9223372036854775808)) (some [I (V (wrap .u64 (0-D))),B true]) (cond (!G) (cond (decide (D<9223372036854775808)) (some [I (V D),B true]) (some [I 0,B false])) (some [I 0,B false]))) (cond (!G) (cond (decide (D<9223372036854775808)) (some [I (V D),B true]) (some [I 0,B false])) (some [I 0,B false])):=by kernel_rfl
def Fd:=Q2z
theorem Qie:An PG (Wn Fd):=rw1 (C:=Qag) Zc8
def Qdd:Sk:=⟨[tf [ci],tf [ci],tf [sb],tf [sb]],[],[]⟩
def Qne:Sk:=⟨[tf [sb]],[],[]⟩
def Q2k:=qa 129 Qdd Qne
def Q5p:Fn:=Ao PG Qag 64 129 Qdd Qne
theorem Zri (G L:Int) (M D:Bool):Q5p [I G,I L,B M,B D]=
 cond (G==0) (cond (M) (some [B D]) (some [B false])) (cond (G==1) (cond (M) (some [B !D]) (some [B false])) (cond (decide (L>0)) (some [B true]) (cond (L==0) (some [B !D]) (some [B false])))):=by kernel_rfl
def Iv:=Q5p
theorem Za5:An PG (Q2k Iv):=rw1 (C:=Qag) Zc8
def YD:Sk:=⟨[tf [ci],tf [ci]],[],[]⟩
def W6:=qa 128 YD YY
def Q3v:Fn:=Ao PG Qag 64 128 YD YY
theorem Zf7 (D G:Int):Q3v [I D,I G]=
 cond (D==0) (some [I 0]) (cond (G==0) (some [I 0]) (cond (decide (D<0)==decide (G<0)) (some [I 1]) (some [I (-1)]))):=by kernel_rfl
def Gr:=Q3v
theorem Qcg:An PG (W6 Gr):=rw1 (C:=Qag) Zc8
def We:Sk:=⟨[tf [si .u64],tf [si .u64],tf [si .u64]],[],[]⟩
def Qll:Sk:=⟨[TS.tup [(false,[si .u64]),(false,[si .u64])]],[],[]⟩
def Q8y:=qa 127 We Qll
def Xt (D:Fn):Cfg:=cf [(172,Ac Q8t Q7w D)]
def Qqz:Sk:=⟨[td,td,tf [si .u64],td,td,td,td,td,tf [si .u64],tf [si .u64],tf [si .u64],tf [si .u64],td,tf [si .u64],tf [si .u64],tf [si .u64],tf [si .u64]]++dd 118,[],[]⟩
def Q4t:List (Ex×Sk):=[(Ex.exit 0,⟨[td,td,tf [si .u64],td,td,td,td,td,tf [si .u64],tf [si .u64],tf [si .u64],tf [si .u64],td,tf [si .u64],tf [si .u64],tf [si .u64]]++dd 119,[],[]⟩)]
def LW (D:Fn):Lp:=A1 PG (Xt D) 64 17 (A2 PG 127 17) Qqz Q4t
def Q2s (G:Fn) (D:Lp):Cfg:=(Xt G).loop 17 Qqz Q4t D
def Qt2:Sk:=⟨[td,td,tf [si .u64],td,td,td,td,td,tf [si .u64],tf [si .u64],tf [si .u64],td,td,td,tf [si .u64],tf [si .u64],tf [si .u64],tf [si .u64],tf [si .u64]]++dd 116,[],[]⟩
def Q2u:List (Ex×Sk):=[(Ex.exit 2,⟨[td,td,tf [si .u64],td,td,td,td,td,tf [si .u64],td,td,td,td,td,tf [si .u64],tf [si .u64],td,tf [si .u64],tf [si .u64]]++dd 116,[],[]⟩)]
def Ps (G:Fn) (D:Lp):Lp:=A1 PG (Q2s G D) 64 24 (A2 PG 127 24) Qt2 Q2u
def Qyt (I:Fn) (D G:Lp):Cfg:=(Q2s I D).loop 24 Qt2 Q2u G
def Qcj (I:Fn) (D G:Lp):Fn:=Ao PG (Qyt I D G) 64 127 We Qll
theorem Znq (DU:Fn) (M N D I O L T G V:Int):LW DU [U M,U N,U D,U I,U O,U L,U T,U G,U V]=
 cond (decide (G>=4294967296)) (cond (decide (wrap .u64 (V+D)>=4294967296)) (some (1,[U M,U N,U D,U I,U O,U L,U T,U (wrap .u64 (G-1))])) (some (0,[U M,U N,U D,U I,U O,U L,U T,U (wrap .u64 (G-1)),U (wrap .u64 (V+D))]))) (cond (decide (wrap .u64 (G*I)>wrap .u64 (wrap .u64 (4294967296*V)+L))) (cond (decide (wrap .u64 (V+D)>=4294967296)) (some (1,[U M,U N,U D,U I,U O,U L,U T,U (wrap .u64 (G-1))])) (some (0,[U M,U N,U D,U I,U O,U L,U T,U (wrap .u64 (G-1)),U (wrap .u64 (V+D))]))) (some (1,[U M,U N,U D,U I,U O,U L,U T,U G]))):=by kernel_rfl
theorem Zly (DU:Fn) (N17:Lp) (L M G V I N O T D:Int):Ps DU N17 [U L,U M,U G,U V,U I,U N,U O,U T,U D]=
 cond (decide (D>=4294967296)) (cond (decide (wrap .u64 (O+G)>=4294967296)) (some (1,[U L,U M,U I,U N,U T,U (wrap .u64 (D-1))])) (some (0,[U L,U M,U G,U V,U I,U N,U (wrap .u64 (O+G)),U T,U (wrap .u64 (D-1))]))) (cond (decide (wrap .u64 (D*V)>wrap .u64 (wrap .u64 (4294967296*O)+I))) (cond (decide (wrap .u64 (O+G)>=4294967296)) (some (1,[U L,U M,U I,U N,U T,U (wrap .u64 (D-1))])) (some (0,[U L,U M,U G,U V,U I,U N,U (wrap .u64 (O+G)),U T,U (wrap .u64 (D-1))]))) (some (1,[U L,U M,U I,U N,U T,U D]))):=by kernel_rfl
theorem Qx9 (O:Fn) (M N:Lp) (L I G:Int):Qcj O M N [U L,U I,U G]=
 cond (G==0) (none) (cond (decide (G<=L)) (none) (cond (L==0) (cond (decide (G=0)) (none) (cond (decide (G=0)) (none) (some [U (wrap .u64 (I.tdiv G)),U (I.tmod G)]))) ((O [U G]).bind λo6=>
 cond (decide (wrap .u64 (gA o6 0)<0)) (none) (cond (decide (wrap .u64 (gA o6 0)<0)) (none) (cond (decide (wrap .u64 (64-wrap .u64 (gA o6 0))<0)) (none) (cond (decide (wrap .u64 (gA o6 0)<0)) (none) (cond (decide ((wrap .u64 (G*2^min (wrap .u64 (gA o6 0)).toNat IntKind.u64.bits)).fdiv (2^min (Int.toNat 32) IntKind.u64.bits)=0)) (none) ((M [U (wrap .u64 (G*2^min (wrap .u64 (gA o6 0)).toNat IntKind.u64.bits)),U (wrap .u64 (gA o6 0)),U ((wrap .u64 (G*2^min (wrap .u64 (gA o6 0)).toNat IntKind.u64.bits)).fdiv (2^min (Int.toNat 32) IntKind.u64.bits)),U (wrap .u64 (↑(BitVec.ofInt IntKind.u64.bits (wrap .u64 (G*2^min (wrap .u64 (gA o6 0)).toNat IntKind.u64.bits))&&&BitVec.ofInt IntKind.u64.bits 4294967295).toNat:Int)),U (wrap .u64 (↑(BitVec.ofInt IntKind.u64.bits (wrap .u64 (L*2^min (wrap .u64 (gA o6 0)).toNat IntKind.u64.bits))|||BitVec.ofInt IntKind.u64.bits (I.fdiv (2^min (wrap .u64 (64-wrap .u64 (gA o6 0))).toNat IntKind.u64.bits))).toNat:Int)),U ((wrap .u64 (I*2^min (wrap .u64 (gA o6 0)).toNat IntKind.u64.bits)).fdiv (2^min (Int.toNat 32) IntKind.u64.bits)),U (wrap .u64 (↑(BitVec.ofInt IntKind.u64.bits (wrap .u64 (I*2^min (wrap .u64 (gA o6 0)).toNat IntKind.u64.bits))&&&BitVec.ofInt IntKind.u64.bits 4294967295).toNat:Int)),U (wrap .u64 ((wrap .u64 (↑(BitVec.ofInt IntKind.u64.bits (wrap .u64 (L*2^min (wrap .u64 (gA o6 0)).toNat IntKind.u64.bits))|||BitVec.ofInt IntKind.u64.bits (I.fdiv (2^min (wrap .u64 (64-wrap .u64 (gA o6 0))).toNat IntKind.u64.bits))).toNat:Int)).tdiv ((wrap .u64 (G*2^min (wrap .u64 (gA o6 0)).toNat IntKind.u64.bits)).fdiv (2^min (Int.toNat 32) IntKind.u64.bits)))),U (wrap .u64 (wrap .u64 (↑(BitVec.ofInt IntKind.u64.bits (wrap .u64 (L*2^min (wrap .u64 (gA o6 0)).toNat IntKind.u64.bits))|||BitVec.ofInt IntKind.u64.bits (I.fdiv (2^min (wrap .u64 (64-wrap .u64 (gA o6 0))).toNat IntKind.u64.bits))).toNat:Int)-wrap .u64 (wrap .u64 ((wrap .u64 (↑(BitVec.ofInt IntKind.u64.bits (wrap .u64 (L*2^min (wrap .u64 (gA o6 0)).toNat IntKind.u64.bits))|||BitVec.ofInt IntKind.u64.bits (I.fdiv (2^min (wrap .u64 (64-wrap .u64 (gA o6 0))).toNat IntKind.u64.bits))).toNat:Int)).tdiv ((wrap .u64 (G*2^min (wrap .u64 (gA o6 0)).toNat IntKind.u64.bits)).fdiv (2^min (Int.toNat 32) IntKind.u64.bits)))*(wrap .u64 (G*2^min (wrap .u64 (gA o6 0)).toNat IntKind.u64.bits)).fdiv (2^min (Int.toNat 32) IntKind.u64.bits))))]).bind λD=>
 cond (D.1.beq 1) (cond (decide (gA D.2 2=0)) (none) ((N [U (gA D.2 0),U (gA D.2 1),U (gA D.2 2),U (gA D.2 3),U (gA D.2 6),U (gA D.2 7),U (wrap .u64 (wrap .u64 (wrap .u64 (wrap .u64 (gA D.2 4*4294967296)+gA D.2 5)-wrap .u64 (gA D.2 7*gA D.2 0))-wrap .u64 (wrap .u64 ((wrap .u64 (wrap .u64 (wrap .u64 (gA D.2 4*4294967296)+gA D.2 5)-wrap .u64 (gA D.2 7*gA D.2 0))).tdiv (gA D.2 2))*gA D.2 2))),U (wrap .u64 (wrap .u64 (wrap .u64 (gA D.2 4*4294967296)+gA D.2 5)-wrap .u64 (gA D.2 7*gA D.2 0))),U (wrap .u64 ((wrap .u64 (wrap .u64 (wrap .u64 (gA D.2 4*4294967296)+gA D.2 5)-wrap .u64 (gA D.2 7*gA D.2 0))).tdiv (gA D.2 2)))]).bind λo8=>
 cond (o8.1.beq 1) (cond (decide (gA o8.2 1<0)) (none) (some [U (wrap .u64 (wrap .u64 (gA o8.2 3*4294967296)+gA o8.2 5)),U ((wrap .u64 (wrap .u64 (wrap .u64 (gA o8.2 4*4294967296)+gA o8.2 2)-wrap .u64 (gA o8.2 5*gA o8.2 0))).fdiv (2^min (gA o8.2 1).toNat IntKind.u64.bits))])) (none))) (none))))))))):=by kernel_rfl
def UB:=Am (LW IE)
def Qe5:=Am (Ps IE UB)
def GL:=Qcj IE UB Qe5
theorem Qnv:Ak PG (Xt IE):=Ap rfl ⟨Zwt,trivial⟩
theorem Qpw:An PG (Q8y GL):=rw2 (C:=Qyt IE UB Qe5) (fl (fl fb Qnv) Qnv) Qnv
def Qh7:Sk:=⟨[tf [si .u64],tf [si .u64]],[],[]⟩
def Qba:Sk:=⟨[TS.v true [si .u64,si .u64]],[],[]⟩
def TK:=qa 125 Qh7 Qba
def X6 (D:Fn):Cfg:=cf [(171,Ac Y9 Vb D)]
def Q7x (D:Fn):Fn:=Ao PG (X6 D) 64 125 Qh7 Qba
theorem Zhm (D:Fn) (G I:Int):Q7x D [U G,U I]=
 (D [U G,U I]).bind λo1=>
 some [U (gA o1 0),U (gA o1 1)]:=by kernel_rfl
def EB:=Q7x Ib
theorem Zf0:Ak PG (X6 Ib):=Ap rfl ⟨Qs3,trivial⟩
theorem UD:An PG (TK EB):=rw1 (C:=X6 Ib) Zf0
def Z4:Sk:=⟨[tf [si .u64]],[],[]⟩
def Qaw:=qa 126 YY Z4
def Qqd:Fn:=Ao PG Qag 64 126 YY Z4
theorem Zbr (D:Int):Qqd [I D]=
 cond (decide (D<0)) (some [U (wrap .u64 (wrap .u64 (V (0-V (D+1)))+1))]) (some [U (wrap .u64 D)]):=by kernel_rfl
def Gf:=Qqd
theorem VK:An PG (Qaw Gf):=rw1 (C:=Qag) Zc8
def Qng:=qa 124 YY Qne
def Qpv:Fn:=Ao PG Qag 64 124 YY Qne
theorem Zve (D:Int):Qpv [I D]=
 cond (D==0) (some [B true]) (cond (D==1) (some [B true]) (some [B (D==2)])):=by kernel_rfl
def Gk:=Qpv
theorem Qlh:An PG (Qng Gk):=rw1 (C:=Qag) Zc8
def W2:Sk:=⟨[tf [ci],tf [ci],tf [ci],tf [ci]],[],[]⟩
def O1:=qa 82 W2 XR
def Qnf (D G I L M N O:Fn):Cfg:=cf [Wn D,Q2k G,W6 I,Q8y L,TK M,Qaw N,Qng O]
def Qao (D G I L M N O:Fn):Fn:=Ao PG (Qnf D G I L M N O) 64 82 W2 XR
abbrev UX (V:Fn) (X:Int) (G:List AC) (T:Fn) (L D:AC):Option (List AC):=
 (V [I X,L,B (decide (gA G 1>0)),D]).bind λO=>
 cond (bA O 0) (cond (wrap .u64 (gA G 0+1)==0) (some [I 0,B false]) ((T [U (wrap .u64 (gA G 0+1)),D]).bind λM=>
 some [jA M 0,B (bA M 1)])) ((T [U (gA G 0),D]).bind λN=>
 some [jA N 0,B (bA N 1)])
abbrev VR (D L:List AC) (M:Fn) (N:Int) (O:Fn) (G:AC):Option (List AC):=
 cond (decide (gA D 1>wrap .u64 (gA L 0-gA D 1))) (UX M N D O (I 1) G) (cond (decide (gA D 1<wrap .u64 (gA L 0-gA D 1))) (UX M N D O (I (-1)) G) (UX M N D O (I 0) G))
theorem Z39 (X Y Di FK BM M DL:Fn) (N O T V:Int):Qao X Y Di FK BM M DL [I N,I O,I T,I V]=
 cond (T==0) (some [I 0,B false]) ((DL [I V]).bind λa0=>
 cond (!bA a0 0) (some [I 0,B false]) ((M [I N]).bind λa1=>
 (M [I O]).bind λa2=>
 (BM [U (gA a1 0),U (gA a2 0)]).bind λG=>
 (M [I T]).bind λD=>
 cond (decide (gA G 0>=gA D 0)) (some [I 0,B false]) ((FK [U (gA G 0),U (gA G 1),U (gA D 0)]).bind λL=>
 (Di [I N,I O]).bind λa3=>
 cond (!decide (gA a3 0<0)==decide (T<0)) ((Di [I N,I O]).bind λa4=>
 VR L D Y V X (B (gA a4 0 !=0))) (VR L D Y V X (B false))))):=by kernel_rfl
def CO:=Qao Fd Iv Gr GL EB Gf Gk
theorem Zzx:Ak PG (Qnf Fd Iv Gr GL EB Gf Gk):=Ap rfl ⟨Qie,Za5,Qcg,Qpw,UD,VK,Qlh,trivial⟩
theorem P2:An PG (O1 CO):=rw1 (C:=Qnf Fd Iv Gr GL EB Gf Gk) Zzx
def Zu4:=qa 112 Zu YY
def Vh (D:Fn):Cfg:=cf [O1 D]
def Qx7 (D:Fn):Fn:=Ao PG (Vh D) 64 112 Zu YY
theorem Zx9 (N:Fn) (O T U X Y x5 x6 M L:Int) (G:Rw) (D:Int):Qx7 N [I O,I T,I U,I X,I Y,I x5,I x6,I M,I L, .vC Aa G,I D]=
 cond (decide (V ((G.length:Int)-1)<0)) (some [I 0]) (cond (decide (V (D-M)<=0)) (cond (decide (0<=0)&&decide (0<(G.length:Int))) (some [jA (nth [] G 0) 0]) (none)) (cond (decide (L<=0)) (cond (decide (0<=0)&&decide (0<(G.length:Int))) (some [jA (nth [] G 0) 0]) (none)) (cond (decide (L=0)) (none) (cond (decide (V ((V (D-M)).tdiv L)>=V ((G.length:Int)-1))) (cond (decide (0<=V ((G.length:Int)-1))&&decide (V ((G.length:Int)-1)<(G.length:Int))) (some [jA (nth [] G (V ((G.length:Int)-1)).toNat) 0]) (none)) (cond (decide (0<=V (V ((V (D-M)).tdiv L)+1))&&decide (V (V ((V (D-M)).tdiv L)+1)<(G.length:Int))) (cond (decide (0<=V ((V (D-M)).tdiv L))&&decide (V ((V (D-M)).tdiv L)<(G.length:Int))) ((N [I (V (Ag (nth .vD (nth [] G (V (V ((V (D-M)).tdiv L)+1)).toNat) 0)-Ag (nth .vD (nth [] G (V ((V (D-M)).tdiv L)).toNat) 0))),I (V (V (D-M)-V (V ((V (D-M)).tdiv L)*L))),I L,I 2]).bind λo1=>
 cond (decide (0<=V ((V (D-M)).tdiv L))&&decide (V ((V (D-M)).tdiv L)<(G.length:Int))) (some [I (V (Ag (nth .vD (nth [] G (V ((V (D-M)).tdiv L)).toNat) 0)+gA o1 0))]) (none)) (none)) (none)))))):=by kernel_rfl
def JX:=Qx7 CO
theorem Zmc:Ak PG (Vh CO):=Ap rfl ⟨P2,trivial⟩
theorem Zz5:An PG (Zu4 JX):=rw1 (C:=Vh CO) Zmc
def Z8k:=qa 59 Zu YY
def Wk (D G:Fn):Cfg:=cf [Z1s D,Zu4 G]
def Qxk (D G:Fn):Fn:=Ao PG (Wk D G) 64 59 Zu YY
theorem Zyt (O7 Oa:Fn) (G L M N O T U X Y:Int) (x9:Rw) (D:Int):Qxk O7 Oa [I G,I L,I M,I N,I O,I T,I U,I X,I Y, .vC Aa x9,I D]=
 (Oa [I G,I L,I M,I N,I O,I T,I U,I X,I Y, .vC Aa x9,I D]).bind λo2=>
 (O7 [I G,I L,I M,I N,I O,I T,I U,I X,I Y, .vC Aa x9,I (V (D+gA o2 0))]).bind λo3=>
 some [jA o3 0]:=by kernel_rfl
def Mz:=Qxk Kx JX
theorem Znt:Ak PG (Wk Kx JX):=Ap rfl ⟨Zci,Zz5,trivial⟩
theorem Zt2:An PG (Z8k Mz):=rw1 (C:=Wk Kx JX) Znt
def XB:Sk:=⟨[TS.v true ([sa Au]++cc 5),tf [ci]],[],[]⟩
def Q9f:=qa 58 XB YY
def Zaw:Sk:=⟨[td,tf [ci],tf [sd 2 0],td,td,tf [ci],tf [ci]]++dd 29,[(2,52,[sa Au]++cc 5)],[]⟩
def Q53:List (Ex×Sk):=[(Ex.exit 0,⟨dd 6++[tf [ci]]++dd 29,[],[]⟩)]
def Sw:Lp:=A1 PG Qag 64 2 (A2 PG 58 2) Zaw Q53
def Q02 (D:Lp):Cfg:=Qag.loop 2 Zaw Q53 D
def Qxy (D:Lp):Fn:=Ao PG (Q02 D) 64 58 XB YY
theorem Qcu (M G D:Int) (L:Rw) (N O T U X:Int):Sw [I M,I G,I D, .vC Au L,I N,I O,I T,I U,I X]=
 cond (decide (G<D)) (cond (decide (0<=V ((V (G+D)).tdiv 2))&&decide (V ((V (G+D)).tdiv 2)<(L.length:Int))) (cond (decide (M<=V (Ag (nth .vD (nth [] L (V ((V (G+D)).tdiv 2)).toNat) 0)+Ag (nth .vD (nth [] L (V ((V (G+D)).tdiv 2)).toNat) 1)))) (some (0,[I M,I G,I (V ((V (G+D)).tdiv 2)), .vC Au L,I N,I O,I T,I U,I X])) (some (0,[I M,I (V (V ((V (G+D)).tdiv 2)+1)),I D, .vC Au L,I N,I O,I T,I U,I X]))) (none)) (some (1,[I D])):=by kernel_rfl
theorem Z8i (G:Lp) (D:Rw) (L M N O T U:Int):Qxy G [.vC Au D,I L,I M,I N,I O,I T,I U]=
 (G [I U,I 0,I (V ((D.length:Int)-1)), .vC Au D,I L,I M,I N,I O,I T]).bind λo1=>
 cond (o1.1.beq 1) (some [jA o1.2 0]) (none):=by kernel_rfl
def Mq:=Am (Sw)
def I2:=Qxy Mq
theorem Q34:An PG (Q9f I2):=rw2 (C:=Q02 Mq) (fl fb Zc8) Zc8
def Qgm:Sk:=⟨[TS.v true [ci,ci,ci,sa Ah,sa kPt],tf [ci]],[],[]⟩
def WB:Sk:=⟨[TS.tup [(false,[ci]),(false,[ci])]],[],[]⟩
def Qgi:=qa 81 Qgm WB
def Qwm:Sk:=⟨[td,tf [ci],tf [sd 2 0]]++dd 8++[tf [sa Ah],tf [ci],tf [ci]]++dd 24,[(2,46,[ci,ci,ci,sa Ah,sa kPt])],[]⟩
def Zas:List (Ex×Sk):=[(Ex.ret,⟨[td,td,td,td,tf [ci],tf [ci]]++dd 32,[],[]⟩),(Ex.exit 0,⟨[td]++dd 37,[],[]⟩)]
def Sh:Lp:=A1 PG Qag 64 3 (A2 PG 81 3) Qwm Zas
def Q6c (D:Lp):Cfg:=Qag.loop 3 Qwm Zas D
def Qxz (D:Lp):Fn:=Ao PG (Q6c D) 64 81 Qgm WB
theorem Q6g (L:Int) (G:Rw) (M D O T U:Int) (N X:Rw):Sh [I L, .vC Ah G,I M,I D,I O,I T,I U, .vC Ah N, .vC kPt X]=
 cond (decide (D<M)) (cond (decide (0<=D)&&decide (D<(G.length:Int))) (cond (decide (L<gA (nth [] G D.toNat) 3)) (some (1,[I D,I L])) (cond (D==V ((N.length:Int)-1)) (some (1,[I D,jA (nth [] G D.toNat) 3])) (some (0,[I (V (L-gA (nth [] G D.toNat) 3)), .vC Ah G,I M,I (V (D+1)),I O,I T,I U, .vC Ah N, .vC kPt X])))) (none)) (some (2,[])):=by kernel_rfl
theorem Qtn (G:Lp) (L M N:Int) (D O:Rw) (T:Int):Qxz G [I L,I M,I N, .vC Ah D, .vC kPt O,I T]=
 (G [I (mx T 0), .vC Ah D,I (D.length:Int),I 0,I L,I M,I N, .vC Ah D, .vC kPt O]).bind λo1=>
 cond (o1.1.beq 1) (some [jA o1.2 0,jA o1.2 1]) (cond (o1.1.beq 2) (some [I (-1),I 0]) (none)):=by kernel_rfl
def Nr:=Am (Sh)
def EJ:=Qxz Nr
theorem YU:An PG (Qgi EJ):=rw2 (C:=Q6c Nr) (fl fb Zc8) Zc8
def ZE:Sk:=⟨[TS.v true [ci,ci,ci]],[],[]⟩
def Z9v:=qa 36 Qgm ZE
def Xp (D G:Fn):Cfg:={cf [O1 D,Qgi G]with unroll:=[9]}
def Qa8 (D G:Fn):Fn:=Ao PG (Xp D G) 64 36 Qgm ZE
theorem Zok (A9 DA:Fn) (L M N:Int) (G Y:Rw) (x5:Int):Qa8 A9 DA [I L,I M,I N, .vC Ah G, .vC kPt Y,I x5]=
 (DA [I L,I M,I N, .vC Ah G, .vC kPt Y,I x5]).bind λD=>
 cond (decide (gA D 0<0)) (some [I L,I M,I N]) (cond (decide (gA D 0>0)) (cond (decide (0<=V (gA D 0-1))&&decide (V (gA D 0-1)<(G.length:Int))) (cond (decide (0<=gA D 0)&&decide (gA D 0<(G.length:Int))) ((A9 [I (V (gA (nth [] G (gA D 0).toNat) 0-gA (nth [] G (V (gA D 0-1)).toNat) 0)),jA D 1,jA (nth [] G (gA D 0).toNat) 3,I 2]).bind λo8=>
 (A9 [I (V (gA (nth [] G (gA D 0).toNat) 1-gA (nth [] G (V (gA D 0-1)).toNat) 1)),jA D 1,jA (nth [] G (gA D 0).toNat) 3,I 2]).bind λo9=>
 (A9 [I (V (gA (nth [] G (gA D 0).toNat) 2-gA (nth [] G (V (gA D 0-1)).toNat) 2)),jA D 1,jA (nth [] G (gA D 0).toNat) 3,I 2]).bind λO=>
 some [I (V (gA (nth [] G (V (gA D 0-1)).toNat) 0+gA o8 0)),I (V (gA (nth [] G (V (gA D 0-1)).toNat) 1+gA o9 0)),I (V (gA (nth [] G (V (gA D 0-1)).toNat) 2+gA O 0))]) (none)) (none)) (cond (decide (0<=gA D 0)&&decide (gA D 0<(G.length:Int))) ((A9 [I (V (gA (nth [] G (gA D 0).toNat) 0-L)),jA D 1,jA (nth [] G (gA D 0).toNat) 3,I 2]).bind λT=>
 (A9 [I (V (gA (nth [] G (gA D 0).toNat) 1-M)),jA D 1,jA (nth [] G (gA D 0).toNat) 3,I 2]).bind λU=>
 (A9 [I (V (gA (nth [] G (gA D 0).toNat) 2-N)),jA D 1,jA (nth [] G (gA D 0).toNat) 3,I 2]).bind λX=>
 some [I (V (L+gA T 0)),I (V (M+gA U 0)),I (V (N+gA X 0))]) (none))):=by kernel_rfl
def Ra:=Qa8 CO EJ
theorem Zki:Ak PG (Xp CO EJ):=Ap rfl ⟨P2,YU,trivial⟩
theorem Zgf:An PG (Z9v Ra):=rw1 (C:=Xp CO EJ) Zki
def Ql0:=qa 47 YD YY
def Q98:Fn:=Ao PG Qag 64 47 YD YY
theorem Zp1 (D G:Int):Q98 [I D,I G]=
 some [I (mx 0 (mn D G))]:=by kernel_rfl
def He:=Q98
theorem Y8:An PG (Ql0 He):=rw1 (C:=Qag) Zc8
def Tx:=qa 57 XB YY
def Qo8 (D G:Fn):Cfg:=cf [Q9f D,Ql0 G]
def Qko (D G:Fn):Fn:=Ao PG (Qo8 D G) 64 57 XB YY
theorem Zrl (M N:Fn) (D:Rw) (G L O T U X:Int):Qko M N [.vC Au D,I G,I L,I O,I T,I U,I X]=
 (N [I X,I G]).bind λo2=>
 (M [.vC Au D,I G,I L,I O,I T,I U,jA o2 0]).bind λo3=>
 cond (decide (gA o3 0<0)) (some [I L]) (cond (decide (0<=gA o3 0)&&decide (gA o3 0<(D.length:Int))) (cond (decide (0<=gA o3 0)&&decide (gA o3 0<(D.length:Int))) (cond (decide (0<=gA o3 0)&&decide (gA o3 0<(D.length:Int))) (some [I (V (gA (nth [] D (gA o3 0).toNat) 2+V (gA (nth [] D (gA o3 0).toNat) 3*V (gA o2 0-gA (nth [] D (gA o3 0).toNat) 0))))]) (none)) (none)) (none)):=by kernel_rfl
def EM:=Qko I2 He
theorem Z19:Ak PG (Qo8 I2 He):=Ap rfl ⟨Q34,Y8,trivial⟩
theorem T_:An PG (Tx EM):=rw1 (C:=Qo8 I2 He) Z19
def WO:Sk:=⟨[TS.v true [ci,ci,ci,sa Ah,sa kPt],TS.v true (cc 9++[sa Aa]++cc 9++[sa Aa]++cc 9++[sa Aa]),TS.v true ([sa Au]++cc 5),tf [ci]],[],[]⟩
def P3:=qa 21 WO ZE
def Qf1 (D G I L M N O:Fn):Cfg:={cf [Z9e D,Q7l G,Z8k I,Q9f L,Z9v M,Tx N,Ql0 O]with unroll:=[6]}
def Qby (D G I L M N O:Fn):Fn:=Ao PG (Qf1 D G I L M N O) 64 21 WO ZE
abbrev WP (X:Fn) (x:Ax3) (N D:List AC) (Y:Fn) (t:Trk) (G:AC) (FC:Fn) (O:List AC) (L:AC):Option (List AC):=
 (X [I x.c.step,I x.c.aS,I x.c.bD,I x.c.bE,I x.c.low,I x.c.aY,I x.c.bB,I x.c.aV,I x.c.aO, .vC Aa (x.c.aW.map Aj),jA N 2]).bind λM=>
 cond (decide (gA D 0<0)) ((Y [I x.c.step,I x.c.aS,I x.c.bD,I x.c.bE,I x.c.low,I x.c.aY,I x.c.bB,I x.c.aV,I x.c.aO, .vC Aa (x.c.aW.map Aj),I t.aT.z]).bind λT=>
 some [G,L,I (V (gA M 0+gA T 0))]) (cond (decide (0<=gA D 0)&&decide (gA D 0<((t.aE.map A8).length:Int))) ((FC (I x.c.step::I x.c.aS::I x.c.bD::I x.c.bE::I x.c.low::I x.c.aY::I x.c.bB::I x.c.aV::I x.c.aO:: .vC Aa (x.c.aW.map Aj)::(AT Au (nth [] (t.aE.map A8) (gA D 0).toNat)++[I (V (V (0+1)+1)),jA O 0]))).bind λU=>
 some [G,L,I (V (gA M 0+gA U 0))]) (none))
abbrev YE (O:Fn) (x:Ax3) (L D:List AC) (T:Fn) (t:Trk) (U:Fn) (M:List AC) (G:AC):Option (List AC):=
 (O [I x.b.step,I x.b.aS,I x.b.bD,I x.b.bE,I x.b.low,I x.b.aY,I x.b.bB,I x.b.aV,I x.b.aO, .vC Aa (x.b.aW.map Aj),jA L 1]).bind λN=>
 cond (decide (gA D 0<0)) ((T [I x.b.step,I x.b.aS,I x.b.bD,I x.b.bE,I x.b.low,I x.b.aY,I x.b.bB,I x.b.aV,I x.b.aO, .vC Aa (x.b.aW.map Aj),I t.aT.y]).bind λX=>
 WP O x L D T t G U M (I (V (gA N 0+gA X 0)))) (cond (decide (0<=gA D 0)&&decide (gA D 0<((t.aE.map A8).length:Int))) ((U (I x.b.step::I x.b.aS::I x.b.bD::I x.b.bE::I x.b.low::I x.b.aY::I x.b.bB::I x.b.aV::I x.b.aO:: .vC Aa (x.b.aW.map Aj)::(AT Au (nth [] (t.aE.map A8) (gA D 0).toNat)++[I (V (0+1)),jA M 0]))).bind λY=>
 WP O x L D T t G U M (I (V (gA N 0+gA Y 0)))) (none))
theorem Z6y (O T U F1 NO Ck DG:Fn) (M:Int) (p:Pth) (x:Ax3) (t:Trk):Qby O T U F1 NO Ck DG (pxt p x t [I M])=
 (DG [I M,I t.length]).bind λG=>
 (Ck [.vC Au (t.aE.map A8),I t.length,I t.aQ,I t.aT.x,I t.aT.y,I t.aT.z,jA G 0]).bind λX=>
 (NO [I p.aQ.x,I p.aQ.y,I p.aQ.z, .vC Ah (p.aF.map AB), .vC kPt (p.aD.map Av),jA X 0]).bind λL=>
 (F1 [.vC Au (t.aE.map A8),I t.length,I t.aQ,I t.aT.x,I t.aT.y,I t.aT.z,jA G 0]).bind λD=>
 (U [I x.a.step,I x.a.aS,I x.a.bD,I x.a.bE,I x.a.low,I x.a.aY,I x.a.bB,I x.a.aV,I x.a.aO, .vC Aa (x.a.aW.map Aj),jA L 0]).bind λN=>
 cond (decide (gA D 0<0)) ((T [I x.a.step,I x.a.aS,I x.a.bD,I x.a.bE,I x.a.low,I x.a.aY,I x.a.bB,I x.a.aV,I x.a.aO, .vC Aa (x.a.aW.map Aj),I t.aT.x]).bind λY=>
 YE U x L D T t O G (I (V (gA N 0+gA Y 0)))) (cond (decide (0<=gA D 0)&&decide (gA D 0<((t.aE.map A8).length:Int))) ((O (I x.a.step::I x.a.aS::I x.a.bD::I x.a.bE::I x.a.low::I x.a.aY::I x.a.bB::I x.a.aV::I x.a.aO:: .vC Aa (x.a.aW.map Aj)::(AT Au (nth [] (t.aE.map A8) (gA D 0).toNat)++[I 0,jA G 0]))).bind λa0=>
 YE U x L D T t O G (I (V (gA N 0+gA a0 0)))) (none)):=by kernel_rfl
def D9:=Qby R6 JC Mz I2 Ra EM He
theorem Z1r:Ak PG (Qf1 R6 JC Mz I2 Ra EM He):=Ap rfl ⟨Zu8,Q0g,Zt2,Q34,Zgf,T_,Y8,trivial⟩
theorem Up:An PG (P3 D9):=rw1 (C:=Qf1 R6 JC Mz I2 Ra EM He) Z1r
def Qbz:Sk:=⟨[TS.v true [ci,ci,ci,sa Ah,sa kPt]],[],[]⟩
def Zi4:=qa 20 Qbz YY
def Qxe:Sk:=⟨[td,td,td,tf [ci],td,td,td,tf [sa Ah],tf [ci],tf [ci]]++dd 9,[],[]⟩
def Q73:List (Ex×Sk):=[(Ex.exit 0,⟨[td,td,td,tf [ci]]++dd 15,[],[]⟩)]
def UQ:Lp:=A1 PG Qag 64 3 (A2 PG 20 3) Qxe Q73
def Qss (D:Lp):Cfg:=Qag.loop 3 Qxe Q73 D
def Qrg (D:Lp):Fn:=Ao PG (Qss D) 64 20 Qbz YY
theorem Q3w (L:Int) (G:Rw) (M D:Int):UQ [I L, .vC Ah G,I M,I D]=
 cond (decide (D<M)) (cond (decide (0<=D)&&decide (D<(G.length:Int))) (some (0,[I (V (L+gA (nth [] G D.toNat) 3)), .vC Ah G,I M,I (V (D+1))])) (none)) (some (1,[I L])):=by kernel_rfl
theorem Z6i (G:Lp) (L M N:Int) (D O:Rw):Qrg G [I L,I M,I N, .vC Ah D, .vC kPt O]=
 (G [I 0, .vC Ah D,I (D.length:Int),I 0]).bind λo1=>
 cond (o1.1.beq 1) (some [jA o1.2 0]) (none):=by kernel_rfl
def Sj:=Am (UQ)
def LD:=Qrg Sj
theorem Zs3:An PG (Zi4 LD):=rw2 (C:=Qss Sj) (fl fb Zc8) Zc8
def Qcm:Sk:=⟨[tf [sa [Kd.sl kPt,Kd.sl Aa,kI,kI,kI,kI,kI,kI,kI]]],[],[]⟩
def Zab:=qa 19 Qcm Qne
def YH:Fn:=Ao PG Qag 64 19 Qcm Qne
theorem Zs4 (D:Rw):YH [.vC [Kd.sl kPt,Kd.sl Aa,kI,kI,kI,kI,kI,kI,kI] D]=
 cond (decide ((D.length:Int)>0)) (cond (decide (0<=V ((D.length:Int)-1))&&decide (V ((D.length:Int)-1)<(D.length:Int))) (some [B (gA (nth [] D (V ((D.length:Int)-1)).toNat) 2==7)]) (none)) (some [B false]):=by kernel_rfl
def J2:=YH
theorem Qxc:An PG (Zab J2):=rw1 (C:=Qag) Zc8
def Qbn:Sk:=⟨[tf [ci],TS.v true (cc 13++[sb,ci,sb]++cc 5++[sb])],[],[]⟩
def Ze5:=qa 217 Qbn YY
def Qke:Fn:=Ao PG Qag 64 217 Qbn YY
theorem Z87 (G x1 x2 x3 x4 x5 x6 x7 x8 x9 M N O T:Int) (U:Bool) (X:Int) (Y:Bool) (a0 a1 a2 D a3:Int) (L:Bool):Qke [I G,I x1,I x2,I x3,I x4,I x5,I x6,I x7,I x8,I x9,I M,I N,I O,I T,B U,I X,B Y,I a0,I a1,I a2,I D,I a3,B L]=
 cond (x1 !=10) (some [I G]) (cond (decide (D<0)) (some [I G]) (cond (decide (D>=16)) (some [I G]) (cond (decide (wrap .u64 D<0)) (none) (cond (L) (some [I (V (↑(BitVec.ofInt IntKind.i64.bits G|||BitVec.ofInt IntKind.i64.bits (V (1*2^min (wrap .u64 D).toNat IntKind.i64.bits))).toNat:Int))]) (some [I (V (↑(BitVec.ofInt IntKind.i64.bits G&&& ~~~BitVec.ofInt IntKind.i64.bits (V (1*2^min (wrap .u64 D).toNat IntKind.i64.bits))).toNat:Int))]))))):=by kernel_rfl
def Ku:=Qke
theorem Z7f:An PG (Ze5 Ku):=rw1 (C:=Qag) Zc8
def Qht:Sk:=⟨[TS.v true [ci,ci,ci],TS.v true [ci,ci,sb,sb,sb]],[],[]⟩
def Qv1:=qa 216 Qht Qne
def Qj6:Fn:=Ao PG Qag 64 216 Qht Qne
theorem Z7g (M D N O T:Int) (U G L:Bool):Qj6 [I M,I D,I N,I O,I T,B U,B G,B L]=
 cond (D==1) (some [B true]) (cond (D==3) (some [B true]) (cond (D==6) (some [B true]) (cond (D==4) (cond (L) (some [B true]) (some [B G])) (cond (D==2) (some [B G]) (some [B false]))))):=by kernel_rfl
def Io:=Qj6
theorem Qun:An PG (Qv1 Io):=rw1 (C:=Qag) Zc8
def Qb5:Sk:=⟨[tf [sd 20000 0],tf [ci]],[(20000,179,cS)],[]⟩
def Ym:Sk:=⟨[tf [sa Aa]],[(20000,179,cS)],[]⟩
def Zxv:=qa 165 Qb5 Ym
def Qn2 (D G:Fn):Cfg:={cf [Ze5 D,Qv1 G]with prom:=λb=>cond (Nat.beq b 2) ([(5,3)]) ([])}
def Qqi:Sk:=⟨[tf [sd 20000 0],tf [ci],td,td,td,tf [se 5 1]]++dd 84,[(20000,179,cS)],[(5,3,Aa)]⟩
def Q6e:List (Ex×Sk):=[(Ex.exit 0,⟨[td,td,td,td,td,tf [se 5 1]]++dd 84,[(20000,179,cS)],[(5,3,Aa)]⟩)]
def RM (D G:Fn):Lp:=A1 PG (Qn2 D G) 64 2 (A2 PG 165 2) Qqi Q6e
def Qq7 (D G:Fn) (I:Lp):Cfg:=(Qn2 D G).loop 2 Qqi Q6e I
def Qnl (D G:Fn) (I:Lp):Fn:=Ao PG (Qq7 D G I) 64 165 Qb5 Ym
abbrev O9 (K:Kf) (c:Cv) (D:Rw) (M:Fn) (L:Int):Option (Nat×List AC):=
 cond (gA (nth [] (K.p.aD.map Av) c.aK.toNat) 1==5) (cond (((D++[[jA (nth [] (K.p.aD.map Av) c.aK.toNat) 2]]).length*8).ble 140737488355328) (cond (decide (0<=gA (nth [] (K.p.aD.map Av) c.aK.toNat) 2)&&decide (gA (nth [] (K.p.aD.map Av) c.aK.toNat) 2<((K.aA.map Af).length:Int))) ((M (I c.outs::AT Ai (nth [] (K.aA.map Af) (gA (nth [] (K.p.aD.map Av) c.aK.toNat) 2).toNat))).bind λG=>
 some (0,(.vC Aa (D++[[jA (nth [] (K.p.aD.map Av) c.aK.toNat) 2]])::I L::Ae K {c with outs:=gA G 0,aK:=V (c.aK+1)}))) (none)) (none)) (some (0,(.vC Aa D::I L::Ae K {c with aK:=V (c.aK+1)})))
theorem Znu (L M:Fn) (D:Rw) (G:Int) (K:Kf) (c:Cv):RM L M (.vC Aa D::I G::Ae K c)=
 cond (decide (c.aK<((K.p.aD.map Av).length:Int))) (cond (decide (0<=c.aK)&&decide (c.aK<((K.p.aD.map Av).length:Int))) (cond (decide (gA (nth [] (K.p.aD.map Av) c.aK.toNat) 0>G)) (some (1,(.vC Aa D::Ae K c))) (cond (gA (nth [] (K.p.aD.map Av) c.aK.toNat) 0==G) (cond (decide (c.aK>=c.next)) ((M [jA (nth [] (K.p.aD.map Av) c.aK.toNat) 0,jA (nth [] (K.p.aD.map Av) c.aK.toNat) 1,jA (nth [] (K.p.aD.map Av) c.aK.toNat) 2,I c.o0,I c.o1,B c.o2,B c.o3,B c.o4]).bind λN=>
 cond (bA N 0) (some (1,(.vC Aa D::Ae K c))) (O9 K c D L G)) (O9 K c D L G)) (O9 K c D L G))) (none)) (some (1,(.vC Aa D::Ae K c))):=by kernel_rfl
theorem Z98 (M N:Fn) (G:Lp) (L:Int) (K:Kf) (c:Cv):Qnl M N G (I L::Ae K c)=
 (G (.vC Aa []::I L::Ae K c)).bind λD=>
 cond (D.1.beq 1) (some (.vC Aa (wA D.2 0)::cR 1 D.2)) (none):=by kernel_rfl
def Q1u:=Am (RM Ku Io)
def PF:=Qnl Ku Io Q1u
theorem Qy8:Ak PG (Qn2 Ku Io):=Ap rfl ⟨Z7f,Qun,trivial⟩
theorem Z7q:An PG (Zxv PF):=rw2 (C:=Qq7 Ku Io Q1u) (fl fb Qy8) Qy8
def Qik:Sk:=⟨[TS.v true [ci,ci,ci,sa Ah,sa kPt],TS.v true (cc 9++[sa Aa]++cc 9++[sa Aa]++cc 9++[sa Aa]),TS.v true ([sa Au]++cc 5),tf [ci],tf [ci]],[],[]⟩
def ZF:Sk:=⟨[tf [sa kPt]],[],[]⟩
def Zb3:=qa 164 Qik ZF
def Qfs (D:Fn):Cfg:={cf [P3 D]with prom:=λb=>cond (Nat.beq b 5) ([(11,125)]) ([]),unroll:=[9]}
def Qws:Sk:=⟨[td,td,td,td,tf [ci],tf [sd 5 0],tf [sd 6 0],tf [sd 7 0],td,td,td,tf [se 11 3],tf [sd 12 0],tf [ci]]++dd 54,[(5,46,[ci,ci,ci,sa Ah,sa kPt]),(6,34,cc 9++[sa Aa]++cc 9++[sa Aa]++cc 9++[sa Aa]),(7,52,[sa Au]++cc 5),(12,41,[ci,ci,ci])],[(11,125,kPt)]⟩
def Q65:List (Ex×Sk):=[(Ex.exit 0,⟨dd 11++[tf [se 11 3]]++dd 56,[],[(11,125,kPt)]⟩)]
def Qk4 (D:Fn):Lp:=A1 PG (Qfs D) 64 5 (A2 PG 164 5) Qws Q65
def Quc (D:Fn) (G:Lp):Cfg:=(Qfs D).loop 5 Qws Q65 G
def Xs (D:Fn) (G:Lp):Fn:=Ao PG (Quc D G) 64 164 Qik ZF
abbrev OL (o6:List AC) (v46 M N:Int) (p:Pth) (x:Ax3) (t:Trk) (D:Bool) (G L:AC):Option (Nat×List AC):=
 cond (gA o6 2 !=v46) (cond (D) (some (0,(G::I M::I (V (N+1))::pxt p x t [jA o6 0,jA o6 1,jA o6 2]))) (none)) (some (0,(L::I M::I (V (N+1))::pxt p x t [jA o6 0,jA o6 1,jA o6 2])))
theorem Z83 (N:Fn) (L:Rw) (M D:Int) (v44 G v46:Int) (p:Pth) (x:Ax3) (t:Trk):Qk4 N (.vC kPt L::I M::I D::pxt p x t [I v44,I G,I v46])=
 cond (decide (D<M)) ((N (pxt p x t [I (V (D+1))])).bind λo6=>
 cond (gA o6 0 !=v44) (cond (((L++[[I (V (D+1)),I 0,I (V (gA o6 0-v44))]]).length*24).ble 140737488355328) (cond (gA o6 1 !=G) (cond (((L++[[I (V (D+1)),I 0,I (V (gA o6 0-v44))]]++[[I (V (D+1)),I (V (0+1)),I (V (gA o6 1-G))]]).length*24).ble 140737488355328) (OL o6 v46 M D p x t (((L++[[I (V (D+1)),I 0,I (V (gA o6 0-v44))]]++[[I (V (D+1)),I (V (0+1)),I (V (gA o6 1-G))]]++[[I (V (D+1)),I (V (V (0+1)+1)),I (V (gA o6 2-v46))]]).length*24).ble 140737488355328) (.vC kPt (L++[[I (V (D+1)),I 0,I (V (gA o6 0-v44))]]++[[I (V (D+1)),I (V (0+1)),I (V (gA o6 1-G))]]++[[I (V (D+1)),I (V (V (0+1)+1)),I (V (gA o6 2-v46))]])) (.vC kPt (L++[[I (V (D+1)),I 0,I (V (gA o6 0-v44))]]++[[I (V (D+1)),I (V (0+1)),I (V (gA o6 1-G))]]))) (none)) (OL o6 v46 M D p x t (((L++[[I (V (D+1)),I 0,I (V (gA o6 0-v44))]]++[[I (V (D+1)),I (V (V (0+1)+1)),I (V (gA o6 2-v46))]]).length*24).ble 140737488355328) (.vC kPt (L++[[I (V (D+1)),I 0,I (V (gA o6 0-v44))]]++[[I (V (D+1)),I (V (V (0+1)+1)),I (V (gA o6 2-v46))]])) (.vC kPt (L++[[I (V (D+1)),I 0,I (V (gA o6 0-v44))]])))) (none)) (cond (gA o6 1 !=G) (cond (((L++[[I (V (D+1)),I (V (0+1)),I (V (gA o6 1-G))]]).length*24).ble 140737488355328) (OL o6 v46 M D p x t (((L++[[I (V (D+1)),I (V (0+1)),I (V (gA o6 1-G))]]++[[I (V (D+1)),I (V (V (0+1)+1)),I (V (gA o6 2-v46))]]).length*24).ble 140737488355328) (.vC kPt (L++[[I (V (D+1)),I (V (0+1)),I (V (gA o6 1-G))]]++[[I (V (D+1)),I (V (V (0+1)+1)),I (V (gA o6 2-v46))]])) (.vC kPt (L++[[I (V (D+1)),I (V (0+1)),I (V (gA o6 1-G))]]))) (none)) (OL o6 v46 M D p x t (((L++[[I (V (D+1)),I (V (V (0+1)+1)),I (V (gA o6 2-v46))]]).length*24).ble 140737488355328) (.vC kPt (L++[[I (V (D+1)),I (V (V (0+1)+1)),I (V (gA o6 2-v46))]])) (.vC kPt L)))) (some (1,[.vC kPt L])):=by kernel_rfl
theorem Zq3 (M:Fn) (N:Lp) (D G:Int) (p:Pth) (x:Ax3) (t:Trk):Xs M N (pxt p x t [I D,I G])=
 (M (pxt p x t [I (mx 0 (mn D t.length))])).bind λL=>
 (N (.vC kPt []::I (mx 0 (mn G t.length))::I (mx 0 (mn D t.length))::pxt p x t [jA L 0,jA L 1,jA L 2])).bind λo8=>
 cond (o8.1.beq 1) (some [.vC kPt (wA o8.2 0)]) (none):=by kernel_rfl
def Quj:=Am (Qk4 D9)
def K6:=Xs D9 Quj
theorem Q82:Ak PG (Qfs D9):=Ap rfl ⟨Up,trivial⟩
theorem Zdr:An PG (Zb3 K6):=rw2 (C:=Quc D9 Quj) (fl fb Q82) Q82
def Ql3:Sk:=⟨[tf [sd 20000 0]],[(20000,179,cS)],[]⟩
def P6 (M:Fn):Nat×Spec:=(102,E3 Ql3 YY M)
def Qg1:Fn:=Ly PG Qag 64 102 Ql3 YY
theorem Zte (K:Kf) (c:Cv):Qg1 (Ae K c)=
 some [I (V (c.m0.tdiv 256))]:=by kernel_rfl
def DQ:=Qg1
theorem Zk8 (vars:List AC) (R:Type) (K:TV->Mem->Option R):EL PG Qag 64 102 [TV.v false [AC.ptr 20000 0]] ⟨[(20000,(⟨179,(cR 0 vars)⟩:Box))],[]⟩ K=EL PG Qag 64 102 [TV.v false [AC.ptr 20000 0]] ⟨[(20000,(⟨179,(cR 0 vars)⟩:Box))],[]⟩ (λv _=>K v ⟨[(20000,(⟨179,(cR 0 vars)⟩:Box))],[]⟩):=dp (b:=(K (TV.v false [I (V ((gA vars 50).tdiv 256))]) ⟨[(20000,(⟨179,(cR 0 vars)⟩:Box))],[]⟩)) (by kernel_rfl) (Eq.symm (by kernel_rfl))
theorem Ss:An PG (102,E3 Ql3 YY DQ):=So (C:=Qag) (L:=64) (by kernel_rfl) (FnOK.bare rfl rfl rfl) Zc8 eqOk Hq (by kernel_rfl) (by kernel_rfl) (λvars R K=>Zk8 vars R K)
def Qlr (M:Fn):Nat×Spec:=(163,E3 Ql3 YY M)
def PP (D G:Fn):Cfg:=cr [Tx D,P6 G] [102] [102]
def YQ (D G:Fn):Fn:=Ly PG (PP D G) 64 163 Ql3 YY
theorem Z1b (D G:Fn) (K:Kf) (c:Cv):YQ D G (Ae K c)=
 (G (Ae K c)).bind λo2=>
 (D (Bw K.t++[jA o2 0])).bind λo3=>
 some [jA o3 0]:=by kernel_rfl
def GK:=YQ EM DQ
theorem Zie:Ak PG (PP EM DQ):=Lu (rs:=[102]) rfl ⟨T_,Ss,trivial⟩ rfl (DB rfl (Jo LU))
theorem Zf1 (vars : List AC) (R : Type) (K : TV -> Mem -> Option R) : EL PG (PP EM DQ) 64 163 [TV.v false [AC.ptr 20000 0]] ⟨[(20000, (⟨179, (cR 0 vars)⟩ : Box))], []⟩ K = EL PG (PP EM DQ) 64 163 [TV.v false [AC.ptr 20000 0]] ⟨[(20000, (⟨179, (cR 0 vars)⟩ : Box))], []⟩ (λv _ => K v ⟨[(20000, (⟨179, (cR 0 vars)⟩ : Box))], []⟩) := dp (b := ((DQ (cR 0 vars)).bind λo2 =>
 (EM [.vC Au (wA vars 44),jA vars 45,jA vars 46,jA vars 47,jA vars 48,jA vars 49,jA o2 0]).bind λo3=>
 K (TV.v false [jA o3 0]) ⟨[(20000,(⟨179,(cR 0 vars)⟩:Box))],[]⟩)) (by kernel_rfl) (Eq.symm (by kernel_rfl))
theorem Zbi:An PG (163,E3 Ql3 YY GK):=So (C:=PP EM DQ) (L:=64) (by kernel_rfl) (FnOK.bare rfl rfl rfl) Zie eqOk Hq (by kernel_rfl) (by kernel_rfl) (λvars R K=>Zf1 vars R K)
def Qi1:Sk:=⟨[tf [sd 20000 0],tf [sd 20001 0],tf [ci]],[(20000,179,cS),(20001,61,[sa kPt,sa Aa]++cc 7)],[]⟩
def Qhh:Sk:=⟨[TS.tup []],[(20000,179,cS),(20001,61,[sa kPt,sa Aa]++cc 7)],[]⟩
def Zun:=qa 110 Qi1 Qhh
def Qa6 (D G I L M:Fn):Cfg:=cr [P3 D,Zxv G,Zb3 I,Qlr L,P6 M] [165,163,102] [163,102]
def V5 (D G I L M:Fn):Fn:=Ao PG (Qa6 D G I L M) 64 110 Qi1 Qhh
abbrev Qoe (c:Cv) (X:Fn) (L:List AC) (K:Kf) (U:Fn) (V:List AC) (O:Int) (T:Rw) (G:AC):Option (List AC):=
 cond (c.way==0) ((X (jA L 0::Ae K c)).bind λD=>
 (U [jA D 38,jA D 39,jA D 40, .vC Ah (wA D 41), .vC kPt (wA D 42),jA D 1,jA D 2,jA D 3,jA D 4,jA D 5,jA D 6,jA D 7,jA D 8,jA D 9, .vC Aa (wA D 10),jA D 11,jA D 12,jA D 13,jA D 14,jA D 15,jA D 16,jA D 17,jA D 18,jA D 19, .vC Aa (wA D 20),jA D 21,jA D 22,jA D 23,jA D 24,jA D 25,jA D 26,jA D 27,jA D 28,jA D 29, .vC Aa (wA D 30), .vC Au (wA D 45),jA D 46,jA D 47,jA D 48,jA D 49,jA D 50,jA V 0]).bind λM=>
 some (cR 1 D++[G, .vC Aa (wA D 0),I O,jA L 0,jA M 0,jA M 1,jA M 2,jA D 68,jA D 63])) ((U (pxt K.p K.x K.t [jA V 0])).bind λN=>
 some (Ae K c++[G, .vC Aa T,I O,jA L 0,jA N 0,jA N 1,jA N 2,I c.s3,I c.g1]))
theorem Zxl (N O OI EN Bh:Fn) (x0:Int) (L D:Rw) (G T U V X Y a0:Int) (K:Kf) (c:Cv):V5 N O OI EN Bh (I x0::(Ae K c++[.vC kPt L, .vC Aa D,I G,I T,I U,I V,I X,I Y,I a0]))=
 (Bh (Ae K c)).bind λo9=>
 (EN (Ae K c)).bind λM=>
 cond (!c.aL) ((OI (pxt K.p K.x K.t [I x0,jA o9 0])).bind λa1=>
 Qoe c O M K N o9 G D (.vC kPt (wA a1 0))) (Qoe c O M K N o9 G D (.vC kPt L)):=by kernel_rfl
def KS:=V5 D9 PF K6 GK DQ
theorem Znv:Ak PG (Qa6 D9 PF K6 GK DQ):=Lu (rs:=[163,102]) rfl ⟨Up,Z7q,Zdr,Zbi,Ss,trivial⟩ rfl (DB rfl (DB rfl (DB rfl (Jo (Jo LU)))))
theorem Zew:An PG (Zun KS):=rw1 (C:=Qa6 D9 PF K6 GK DQ) Znv
def Qjq:Sk:=⟨[TS.tup []],[(20000,179,cS)],[]⟩
def Qty:=qa 161 Ql3 Qjq
def Qnp:Fn:=Ao PG Qag 64 161 Ql3 Qjq
theorem Zlc (K:Kf) (c:Cv):Qnp (Ae K c)=
 cond (c.g0==0) (some (Ae K {c with o2:=true,g0:=1,g1:=18,g2:= -1})) (some (Ae K c)):=by kernel_rfl
def IY:=Qnp
theorem Q83:An PG (Qty IY):=rw1 (C:=Qag) Zc8
def Qf9:Sk:=⟨[TS.v true [ci,ci,ci],tf [ci]],[],[]⟩
def Qso:=qa 239 Qf9 YY
def Qix:Fn:=Ao PG Qag 64 239 Qf9 YY
theorem Qzb (L D M G:Int):Qix [I L,I D,I M,I G]=
 cond (decide (G<=0)) (some [I 0]) (cond (decide (D<=0)) (some [I 0]) (cond (decide (D=0)) (none) (some [I (V (V (V ((V (G-1)).tdiv D)*G)-V (D*V ((V (V ((V (G-1)).tdiv D)*V (V ((V (G-1)).tdiv D)+1))).tdiv 2))))]))):=by kernel_rfl
def Hx:=Qix
theorem Qy5:An PG (Qso Hx):=rw1 (C:=Qag) Zc8
def X9:=qa 146 ZE Qne
def Qzc:Fn:=Ao PG Qag 64 146 ZE Qne
theorem Z7u (D G L:Int):Qzc [I D,I G,I L]=
 cond (decide (1<=D)) (cond (decide (D<=65536)) (cond (decide (2<=G)) (cond (decide (G<=65536)) (cond (decide (1<=L)) (some [B (decide (L<=16777216))]) (some [B false])) (some [B false])) (some [B false])) (some [B false])) (some [B false]):=by kernel_rfl
def EZ:=Qzc
theorem Qmi:An PG (X9 EZ):=rw1 (C:=Qag) Zc8
def Qdr:Sk:=⟨[TS.v true [ci,ci,ci],tf [ci],tf [ci]],[],[]⟩
def Zb:=qa 206 Qdr YY
def Qap (D G:Fn):Cfg:=cf [Qso D,X9 G]
def Q04:Sk:=⟨[td,tf [ci],td,tf [sd 3 0],td,td,td,tf [ci],tf [ci]]++dd 49,[(3,36,[ci,ci,ci])],[]⟩
def Qxr:List (Ex×Sk):=[(Ex.exit 0,⟨dd 7++[tf [ci]]++dd 50,[],[]⟩)]
def Mt (D G:Fn):Lp:=A1 PG (Qap D G) 64 4 (A2 PG 206 4) Q04 Qxr
def Q3e (D G:Fn) (I:Lp):Cfg:=(Qap D G).loop 4 Q04 Qxr I
def SW (D G:Fn) (I:Lp):Fn:=Ao PG (Q3e D G I) 64 206 Qdr YY
theorem Xo (T U:Fn) (L G D M N O:Int):Mt T U [I L,I G,I D,I M,I N,I O]=
 cond (decide (G<D)) ((T [I M,I N,I O,I (V (D-V ((V (D-G)).tdiv 2)))]).bind λo4=>
 cond (decide (V (L-V (D-V ((V (D-G)).tdiv 2)))>=gA o4 0)) (some (0,[I L,I (V (D-V ((V (D-G)).tdiv 2))),I D,I M,I N,I O])) (some (0,[I L,I G,I (V (V (D-V ((V (D-G)).tdiv 2))-1)),I M,I N,I O]))) (some (1,[I G])):=by kernel_rfl
theorem Q8s (U O:Fn) (T:Lp) (L D N M G:Int):SW U O T [I L,I D,I N,I M,I G]=
 (O [I L,I D,I N]).bind λX=>
 cond (!bA X 0) (some [I 0]) (cond (decide (mx G M>1099511627776)) (some [I 0]) (cond (decide (mn G M< -1099511627776)) (some [I 0]) ((T [I M,I (V (V (0-G)-D)),I (mn (V (D-G)) L),I L,I D,I N]).bind λo6=>
 cond (o6.1.beq 1) (some [I (V (0-gA o6.2 0))]) (none)))):=by kernel_rfl
def Qxx:=Am (Mt Hx EZ)
def F4:=SW Hx EZ Qxx
theorem Qq9:Ak PG (Qap Hx EZ):=Ap rfl ⟨Qy5,Qmi,trivial⟩
theorem Qzd:An PG (Zb F4):=rw2 (C:=Q3e Hx EZ Qxx) (fl fb Qq9) Qq9
def Qhb:Sk:=⟨[tf [sa Aa],tf [ci]],[],[]⟩
def Zcu:=qa 298 Qhb Qne
def Qqk:Sk:=⟨[td,tf [ci],td,td,td,td,td,tf [sa Aa],tf [ci],tf [ci]]++dd 13,[],[]⟩
def Qqt:List (Ex×Sk):=[(Ex.ret,⟨[td,td,td,td,tf [sb]]++dd 18,[],[]⟩),(Ex.exit 0,⟨[td]++dd 22,[],[]⟩)]
def Pu:Lp:=A1 PG Qag 64 2 (A2 PG 298 2) Qqk Qqt
def Q61 (D:Lp):Cfg:=Qag.loop 2 Qqk Qqt D
def RB (D:Lp):Fn:=Ao PG (Q61 D) 64 298 Qhb Qne
theorem Q2x (L:Int) (G:Rw) (M D:Int):Pu [I L, .vC Aa G,I M,I D]=
 cond (decide (D<M)) (cond (decide (0<=D)&&decide (D<(G.length:Int))) (cond (decide (gA (nth [] G D.toNat) 0>L)) (some (1,[B false])) (cond (decide (gA (nth [] G D.toNat) 0<V (0-L))) (some (1,[B false])) (some (0,[I L, .vC Aa G,I M,I (V (D+1))])))) (none)) (some (2,[])):=by kernel_rfl
theorem Qq5 (G:Lp) (D:Rw) (L:Int):RB G [.vC Aa D,I L]=
 (G [I L, .vC Aa D,I (D.length:Int),I 0]).bind λo1=>
 cond (o1.1.beq 1) (some [B (bA o1.2 0)]) (cond (o1.1.beq 2) (some [B true]) (none)):=by kernel_rfl
def Q86:=Am (Pu)
def NF:=RB Q86
theorem Zsw:An PG (Zcu NF):=rw2 (C:=Q61 Q86) (fl fb Zc8) Zc8
def Qez:Sk:=⟨[tf [sa Aa]],[],[]⟩
def Zqa:=qa 297 Qez Qez
def C_limits_Differences_0:Cfg:={cf []with prom:=λb=>cond (Nat.beq b 3) ([(3,3)]) ([])}
def Qpa:Sk:=⟨[tf [sa Aa],td,td,tf [se 3 1],tf [ci]]++dd 20,[],[(3,3,Aa)]⟩
def Q71:List (Ex×Sk):=[(Ex.exit 0,⟨[td,td,td,tf [se 3 1]]++dd 21,[],[(3,3,Aa)]⟩)]
def Ry:Lp:=A1 PG C_limits_Differences_0 64 3 (A2 PG 297 3) Qpa Q71
def Q0i (D:Lp):Cfg:=C_limits_Differences_0.loop 3 Qpa Q71 D
def Se (D:Lp):Fn:=Ao PG (Q0i D) 64 297 Qez Qez
theorem Q4l (L G:Rw) (D:Int):Ry [.vC Aa L, .vC Aa G,I D]=
 cond (decide (D<(G.length:Int))) (cond (decide (0<=D)&&decide (D<(G.length:Int))) (cond (decide (0<=V (D-1))&&decide (V (D-1)<(G.length:Int))) (cond (((L++[[I (V (gA (nth [] G D.toNat) 0-gA (nth [] G (V (D-1)).toNat) 0))]]).length*8).ble 140737488355328) (some (0,[.vC Aa (L++[[I (V (gA (nth [] G D.toNat) 0-gA (nth [] G (V (D-1)).toNat) 0))]]), .vC Aa G,I (V (D+1))])) (none)) (none)) (none)) (some (1,[.vC Aa L])):=by kernel_rfl
theorem Qwf (D:Lp) (G:Rw):Se D [.vC Aa G]=
 (D [.vC Aa [], .vC Aa G,I 1]).bind λo1=>
 cond (o1.1.beq 1) (some [.vC Aa (wA o1.2 0)]) (none):=by kernel_rfl
def Q8f:=Am (Ry)
def O_:=Se Q8f
theorem Q10:Ak PG (C_limits_Differences_0):=Ap rfl trivial
theorem Z64:An PG (Zqa O_):=rw2 (C:=Q0i Q8f) (fl fb Q10) Q10
def Qbb:Sk:=⟨[TS.v true (cc 9++[sa Aa]),tf [sa Aa]],[],[]⟩
def Z5n:=qa 290 Qbb Qne
def Ql8 (D G:Fn):Cfg:={cf [Zcu D,Zqa G]with unroll:=[2]}
def Ta (D G:Fn):Fn:=Ao PG (Ql8 D G) 64 290 Qbb Qne
theorem Zbe (G L:Fn) (V O T U X Y x6 x7 x8:Int) (x9 D:Rw):Ta G L [I V,I O,I T,I U,I X,I Y,I x6,I x7,I x8, .vC Aa x9, .vC Aa D]=
 (L [.vC Aa D]).bind λo6=>
 (G [.vC Aa (wA o6 0),I O]).bind λo7=>
 cond (!bA o7 0) (some [B false]) ((L [.vC Aa (wA o6 0)]).bind λo8=>
 (G [.vC Aa (wA o8 0),I T]).bind λo9=>
 cond (!bA o9 0) (some [B false]) ((L [.vC Aa (wA o8 0)]).bind λM=>
 (G [.vC Aa (wA M 0),I U]).bind λN=>
 cond (!bA N 0) (some [B false]) (some [B true]))):=by kernel_rfl
def KV:=Ta NF O_
theorem Z4s:Ak PG (Ql8 NF O_):=Ap rfl ⟨Zsw,Z64,trivial⟩
theorem Zd0:An PG (Z5n KV):=rw1 (C:=Ql8 NF O_) Z4s
def Qny:Sk:=⟨[TS.v true (cc 9++[sa Aa]++cc 9++[sa Aa]++cc 9++[sa Aa]),tf [sa kPt]],[],[]⟩
def Zy7:=qa 268 Qny Qne
def XG (D:Fn):Cfg:=cf [Z5n D]
def Qyw:Sk:=⟨[td,tf [sa kPt],tf [sd 2 0],td,td,tf [ci],tf [se 13 1],td,tf [ci]]++dd 6++[tf [ci],tf [ci]]++dd 19,[(2,34,cc 9++[sa Aa]++cc 9++[sa Aa]++cc 9++[sa Aa])],[(13,3,Aa)]⟩
def Q7s:List (Ex×Sk):=[(Ex.exit 2,⟨[td,tf [sa kPt],tf [sd 2 0],td,td,tf [ci],tf [se 13 1],td,tf [ci]]++dd 27,[(2,34,cc 9++[sa Aa]++cc 9++[sa Aa]++cc 9++[sa Aa])],[(13,3,Aa)]⟩)]
def HN (D:Fn):Lp:=A1 PG (XG D) 64 6 (A2 PG 268 6) Qyw Q7s
def Qxn (D:Fn) (G:Lp):Cfg:=(XG D).loop 6 Qyw Q7s G
def Qw9:Sk:=⟨[td,tf [sa kPt],tf [sd 2 0],td,td,td,td,td,tf [ci]]++dd 27,[(2,34,cc 9++[sa Aa]++cc 9++[sa Aa]++cc 9++[sa Aa])],[]⟩
def Q7n:List (Ex×Sk):=[(Ex.ret,⟨[td,td,td,td,tf [sb]]++dd 31,[],[]⟩),(Ex.exit 0,⟨[td]++dd 35,[],[]⟩)]
def NH (D:Fn) (G:Lp):Lp:=A1 PG (Qxn D G) 64 2 (A2 PG 268 2) Qw9 Q7n
def Qy9 (D:Fn) (G I:Lp):Cfg:=(Qxn D G).loop 2 Qw9 Q7n I
def Qw (D:Fn) (G I:Lp):Fn:=Ao PG (Qy9 D G I) 64 268 Qny Qne
theorem Qxf (D6:Fn) (v0 v1:Rw) (v2 v3 v4 D v6 v7 v8 v9 v10 v11 v12 G L:Int) (M:Rw) (N O T U v20 v21 v22 X v24:Int) (v25:Rw) (Y v27 v28 a0 v30 v31 a1 v33 a2:Int) (v35:Rw):HN D6 [.vC Aa v0, .vC kPt v1,I v2,I v3,I v4,I D,I v6,I v7,I v8,I v9,I v10,I v11,I v12,I G,I L, .vC Aa M,I N,I O,I T,I U,I v20,I v21,I v22,I X,I v24, .vC Aa v25,I Y,I v27,I v28,I a0,I v30,I v31,I a1,I v33,I a2, .vC Aa v35]=
 cond (decide (D<v4)) (cond (decide (0<=D)&&decide (D<(v1.length:Int))) (cond (decide (v2=(↑0:Int))) (cond (decide (0<=D)&&decide (D<(v0.length:Int))) (some (0,[.vC Aa (v0.set D.toNat [jA (nth [] v1 D.toNat) 0]), .vC kPt v1,I v2,I v3,I v4,I (V (D+1)),I v6,I v7,I v8,I v9,I v10,I v11,I v12,I G,I L, .vC Aa M,I N,I O,I T,I U,I v20,I v21,I v22,I X,I v24, .vC Aa v25,I Y,I v27,I v28,I a0,I v30,I v31,I a1,I v33,I a2, .vC Aa v35])) (none)) (cond (decide (v2=(↑(0+1):Int))) (cond (decide (0<=D)&&decide (D<(v0.length:Int))) (some (0,[.vC Aa (v0.set D.toNat [jA (nth [] v1 D.toNat) 1]), .vC kPt v1,I v2,I v3,I v4,I (V (D+1)),I v6,I v7,I v8,I v9,I v10,I v11,I v12,I G,I L, .vC Aa M,I N,I O,I T,I U,I v20,I v21,I v22,I X,I v24, .vC Aa v25,I Y,I v27,I v28,I a0,I v30,I v31,I a1,I v33,I a2, .vC Aa v35])) (none)) (cond (decide (v2=(↑(0+1+1):Int))) (cond (decide (0<=D)&&decide (D<(v0.length:Int))) (some (0,[.vC Aa (v0.set D.toNat [jA (nth [] v1 D.toNat) 2]), .vC kPt v1,I v2,I v3,I v4,I (V (D+1)),I v6,I v7,I v8,I v9,I v10,I v11,I v12,I G,I L, .vC Aa M,I N,I O,I T,I U,I v20,I v21,I v22,I X,I v24, .vC Aa v25,I Y,I v27,I v28,I a0,I v30,I v31,I a1,I v33,I a2, .vC Aa v35])) (none)) (none)))) (none)) (some (1,[.vC Aa v0, .vC kPt v1,I v2,I v3,I v6,I v7,I v8,I v9,I v10,I v11,I v12,I G,I L, .vC Aa M,I N,I O,I T,I U,I v20,I v21,I v22,I X,I v24, .vC Aa v25,I Y,I v27,I v28,I a0,I v30,I v31,I a1,I v33,I a2, .vC Aa v35])):=by kernel_rfl
abbrev RF (D:Nat×List AC) (G:Bool):Option (Nat×List AC):=
 cond (G) (some (1,[B false])) (some (0,[.vC kPt (wA D.2 1),I (V (gA D.2 3+1)),jA D.2 4,jA D.2 5,jA D.2 6,jA D.2 7,jA D.2 8,jA D.2 9,jA D.2 10,jA D.2 11,jA D.2 12, .vC Aa (wA D.2 13),jA D.2 14,jA D.2 15,jA D.2 16,jA D.2 17,jA D.2 18,jA D.2 19,jA D.2 20,jA D.2 21,jA D.2 22, .vC Aa (wA D.2 23),jA D.2 24,jA D.2 25,jA D.2 26,jA D.2 27,jA D.2 28,jA D.2 29,jA D.2 30,jA D.2 31,jA D.2 32, .vC Aa (wA D.2 33)]))
theorem Qve (D6:Fn) (N6:Lp) (G:Rw) (v1 v2 v3 v4 v5 v6 v7 v8 v9 v10:Int) (v11:Rw) (v12 L M N O T U V v20:Int) (v21:Rw) (v22 X v24 v25 Y v27 v28 a0 v30:Int) (v31:Rw):NH D6 N6 [.vC kPt G,I v1,I v2,I v3,I v4,I v5,I v6,I v7,I v8,I v9,I v10, .vC Aa v11,I v12,I L,I M,I N,I O,I T,I U,I V,I v20, .vC Aa v21,I v22,I X,I v24,I v25,I Y,I v27,I v28,I a0,I v30, .vC Aa v31]=
 cond (decide (v1<3)) (cond (decide ((G.length:Int)=(G.length:Int))) (cond (decide (0<=(G.length:Int))&&decide ((G.length:Int)*(↑8:Int)<=140737488355328)) ((N6 [.vC Aa (List.replicate (G.length:Int).toNat [I 0]), .vC kPt G,I v1,I v1,I (G.length:Int),I 0,I v2,I v3,I v4,I v5,I v6,I v7,I v8,I v9,I v10, .vC Aa v11,I v12,I L,I M,I N,I O,I T,I U,I V,I v20, .vC Aa v21,I v22,I X,I v24,I v25,I Y,I v27,I v28,I a0,I v30, .vC Aa v31]).bind λD=>
 cond (D.1.beq 1) (cond (decide (gA D.2 2=(↑0:Int))) ((D6 [jA D.2 4,jA D.2 5,jA D.2 6,jA D.2 7,jA D.2 8,jA D.2 9,jA D.2 10,jA D.2 11,jA D.2 12, .vC Aa (wA D.2 13), .vC Aa (wA D.2 0)]).bind λo6=>
 RF D (!bA o6 0)) (cond (decide (gA D.2 2=(↑(0+1):Int))) ((D6 [jA D.2 14,jA D.2 15,jA D.2 16,jA D.2 17,jA D.2 18,jA D.2 19,jA D.2 20,jA D.2 21,jA D.2 22, .vC Aa (wA D.2 23), .vC Aa (wA D.2 0)]).bind λo7=>
 RF D (!bA o7 0)) (cond (decide (gA D.2 2=(↑(0+1+1):Int))) ((D6 [jA D.2 24,jA D.2 25,jA D.2 26,jA D.2 27,jA D.2 28,jA D.2 29,jA D.2 30,jA D.2 31,jA D.2 32, .vC Aa (wA D.2 33), .vC Aa (wA D.2 0)]).bind λo8=>
 RF D (!bA o8 0)) (none)))) (none)) (none)) (none)) (some (2,[])):=by kernel_rfl
theorem Qtm (D6:Fn) (N6 N2:Lp) (x0 x1 x2 x3 x4 x5 x6 x7 x8:Int) (x9:Rw) (D G L M N O T U V:Int) (X:Rw) (Y a0 a1 a2 a3 a4 a5 a6 a7:Int) (a8 a9:Rw):Qw D6 N6 N2 [I x0,I x1,I x2,I x3,I x4,I x5,I x6,I x7,I x8, .vC Aa x9,I D,I G,I L,I M,I N,I O,I T,I U,I V, .vC Aa X,I Y,I a0,I a1,I a2,I a3,I a4,I a5,I a6,I a7, .vC Aa a8, .vC kPt a9]=
 (N2 [.vC kPt a9,I 0,I x0,I x1,I x2,I x3,I x4,I x5,I x6,I x7,I x8, .vC Aa x9,I D,I G,I L,I M,I N,I O,I T,I U,I V, .vC Aa X,I Y,I a0,I a1,I a2,I a3,I a4,I a5,I a6,I a7, .vC Aa a8]).bind λo9=>
 cond (o9.1.beq 1) (some [B (bA o9.2 0)]) (cond (o9.1.beq 2) (some [B true]) (none)):=by kernel_rfl
def YK:=Am (HN KV)
def Q8h:=Am (NH KV YK)
def JW:=Qw KV YK Q8h
theorem Qac:Ak PG (XG KV):=Ap rfl ⟨Zd0,trivial⟩
theorem Z7h:An PG (Zy7 JW):=rw2 (C:=Qy9 KV YK Q8h) (fl (fl fb Qac) Qac) Qac
def Qzv:=qa 266 YY YY
def UN:Fn:=Ao PG Qag 64 266 YY YY
theorem Q84 (D:Int):UN [I D]=
 cond (decide (D.tmod 256<0)) (some [I (V (V (D.tdiv 256)-1))]) (some [I (V (D.tdiv 256))]):=by kernel_rfl
def Hs:=UN
theorem Zak:An PG (Qzv Hs):=rw1 (C:=Qag) Zc8
def Qfw:Sk:=⟨[TS.v true [ci,ci,ci,sa Ah,sa kPt],TS.v true (cc 9++[sa Aa]++cc 9++[sa Aa]++cc 9++[sa Aa]),TS.v true ([sa Au]++cc 5),tf [sa Aa]],[],[]⟩
def Zbm:=qa 242 Qfw Qne
def Qkp (D G I:Fn):Cfg:={cf [Zy7 D,P3 G,Qzv I]with lend:=λf=>AQ [268] f,cuts:=[30],prom:=λb=>cond (Nat.beq b 3) ([(9,41)]) ([])}
def Qyn:Sk:=⟨[td,td,td,td,tf [sd 4 0],tf [sd 5 0],tf [sd 6 0],td,td,tf [se 9 3],td,td,tf [sa Aa],tf [ci],tf [ci]]++dd 22,[(4,46,[ci,ci,ci,sa Ah,sa kPt]),(5,34,cc 9++[sa Aa]++cc 9++[sa Aa]++cc 9++[sa Aa]),(6,52,[sa Au]++cc 5)],[(9,41,kPt)]⟩
def Qru:List (Ex×Sk):=[(Ex.ret,⟨dd 8++[tf [sb]]++dd 28,[],[]⟩),(Ex.exit 0,⟨[td]++dd 36,[],[]⟩)]
def SB (D G I:Fn):Lp:=A1 PG (Qkp D G I) 64 3 (A2 PG 242 3) Qyn Qru
def Qv4 (D G I:Fn) (L:Lp):Cfg:=(Qkp D G I).loop 3 Qyn Qru L
def TA (D G I:Fn) (L:Lp):Fn:=Ao PG (Qv4 D G I L) 64 242 Qfw Qne
theorem Q4n (O X Y:Fn) (G M:Rw) (N L:Int) (p:Pth) (x:Ax3) (t:Trk):SB O X Y (.vC kPt G:: .vC Aa M::I N::I L::pxt p x t [])=
 cond (decide (L<N)) (cond (decide (0<=L)&&decide (L<(M.length:Int))) ((Y [jA (nth [] M L.toNat) 0]).bind λo8=>
 (X (pxt p x t [jA o8 0])).bind λD=>
 cond (((G++[[jA D 0,jA D 1,jA D 2]]).length*24).ble 140737488355328) (cond (decide ((↑(G++[[jA D 0,jA D 1,jA D 2]]).length:Int)>4)) (cond (decide (0<=1)&&decide (1<=(↑(G++[[jA D 0,jA D 1,jA D 2]]).length:Int))) (cond ((Int.toNat 1).ble (G++[[jA D 0,jA D 1,jA D 2]]).length) ((O (AG x++[.vC kPt (List.drop (Int.toNat 1) (G++[[jA D 0,jA D 1,jA D 2]]))])).bind λT=>
 cond (!bA T 0) (some (1,[B false])) (some (0,(.vC kPt (List.drop (Int.toNat 1) (G++[[jA D 0,jA D 1,jA D 2]])):: .vC Aa M::I N::I (V (L+1))::pxt p x t [])))) (none)) (none)) ((O (AG x++[.vC kPt (G++[[jA D 0,jA D 1,jA D 2]])])).bind λU=>
 cond (!bA U 0) (some (1,[B false])) (some (0,(.vC kPt (G++[[jA D 0,jA D 1,jA D 2]]):: .vC Aa M::I N::I (V (L+1))::pxt p x t []))))) (none)) (none)) (some (2,[])):=by kernel_rfl
theorem Qub (M N O:Fn) (L:Lp) (D:Rw) (p:Pth) (x:Ax3) (t:Trk):TA M N O L (pxt p x t [.vC Aa D])=
 (L (.vC kPt []:: .vC Aa D::I (D.length:Int)::I 0::pxt p x t [])).bind λG=>
 cond (G.1.beq 1) (some [B (bA G.2 0)]) (cond (G.1.beq 2) (some [B true]) (none)):=by kernel_rfl
def Q2b:=Am (SB JW D9 Hs)
def LK:=TA JW D9 Hs Q2b
theorem Qro:Ak PG (Qkp JW D9 Hs):=Ap rfl ⟨Z7h,Up,Zak,trivial⟩
theorem Z46:An PG (Zbm LK):=rw2 (C:=Qv4 JW D9 Hs Q2b) (fl fb Qro) Qro
def Zbg:=qa 202 Qdr Qne
def Qeb (D:Fn):Cfg:=cf [Qso D]
def S0 (D:Fn):Fn:=Ao PG (Qeb D) 64 202 Qdr Qne
theorem Qum (N:Fn) (G L O M D:Int):S0 N [I G,I L,I O,I M,I D]=
 cond (decide (D<V (0-G))) (some [B false]) (cond (decide (D>G)) (some [B false]) (cond (M==0) (cond (decide (D>L)) (some [B false]) ((N [I G,I L,I O,I (V (0-D))]).bind λo4=>
 cond (decide (M>=gA o4 0)) ((N [I G,I L,I O,I D]).bind λT=>
 some [B (decide (M<=V (16777216-gA T 0)))]) (some [B false]))) ((N [I G,I L,I O,I (V (0-D))]).bind λo6=>
 cond (decide (M>=gA o6 0)) ((N [I G,I L,I O,I D]).bind λU=>
 some [B (decide (M<=V (16777216-gA U 0)))]) (some [B false])))):=by kernel_rfl
def Hn:=S0 Hx
theorem Zgj:Ak PG (Qeb Hx):=Ap rfl ⟨Qy5,trivial⟩
theorem Qvs:An PG (Zbg Hn):=rw1 (C:=Qeb Hx) Zgj
def Qoh:Sk:=⟨[TS.tup [(false,[sa Aa]),(false,[sb])]],[],[]⟩
def Zq1:=qa 265 Qdr Qoh
def WD (D G I:Fn):Cfg:={cf [Zb D,Zbg G,X9 I]with prom:=λb=>cond (Nat.beq b 4) ([(8,3)]) ([])}
def Q1t:Sk:=⟨[td,tf [ci],tf [ci],tf [sd 3 0],td,td,td,td,tf [se 8 1]]++dd 27,[(3,36,[ci,ci,ci])],[(8,3,Aa)]⟩
def Q37:List (Ex×Sk):=[(Ex.ret,⟨dd 6++[tf [CS.nil],tf [sb]]++dd 28,[],[]⟩),(Ex.exit 0,⟨dd 8++[tf [se 8 1]]++dd 27,[],[(8,3,Aa)]⟩)]
def J1 (D G I:Fn):Lp:=A1 PG (WD D G I) 64 4 (A2 PG 265 4) Q1t Q37
def Qze (D G I:Fn) (L:Lp):Cfg:=(WD D G I).loop 4 Q1t Q37 L
def Tt (D G I:Fn) (L:Lp):Fn:=Ao PG (Qze D G I L) 64 265 Qdr Qoh
theorem Tg (T X Y:Fn) (G:Rw) (D U M N O:Int):J1 T X Y [.vC Aa G,I D,I U,I M,I N,I O]=
 cond (decide (D>0)) (cond ((G.length:Int)==4096) (some (1,[B false])) ((T [I M,I N,I O,I D,I U]).bind λL=>
 cond (((G++[[I (V (D+gA L 0))]]).length*8).ble 140737488355328) (some (0,[.vC Aa (G++[[I (V (D+gA L 0))]]),I (V (D+gA L 0)),jA L 0,I M,I N,I O])) (none))) (some (2,[.vC Aa G])):=by kernel_rfl
theorem Qqf (BU V X:Fn) (Y:Lp) (G L M N O:Int):Tt BU V X Y [I G,I L,I M,I N,I O]=
 (X [I G,I L,I M]).bind λT=>
 cond (!bA T 0) (some [.vC Aa [],B false]) ((V [I G,I L,I M,I N,I O]).bind λU=>
 cond (!bA U 0) (some [.vC Aa [],B false]) ((Y [.vC Aa [],I N,I O,I G,I L,I M]).bind λD=>
 cond (D.1.beq 1) (some [.vC Aa [],B (bA D.2 0)]) (cond (D.1.beq 2) (some [.vC Aa (wA D.2 0),B true]) (none)))):=by kernel_rfl
def Q3m:=Am (J1 F4 Hn EZ)
def LN:=Tt F4 Hn EZ Q3m
theorem Q6t:Ak PG (WD F4 Hn EZ):=Ap rfl ⟨Qzd,Qvs,Qmi,trivial⟩
theorem Zei:An PG (Zq1 LN):=rw2 (C:=Qze F4 Hn EZ Q3m) (fl fb Q6t) Q6t
def Qej:Sk:=⟨[TS.v true [ci,ci,ci],TS.v true (cc 6)],[],[]⟩
def Yh:=qa 240 Qej Qoh
def Qf6 (D:Fn):Cfg:=cf [Zq1 D]
def Q40:Sk:=⟨dd 8++[tf [se 25 1],tf [ci]]++dd 18++[tf [sa Aa],tf [ci],tf [ci]]++dd 13,[],[(25,3,Aa)]⟩
def Q5o:List (Ex×Sk):=[(Ex.exit 0,⟨dd 8++[tf [se 25 1]]++dd 35,[],[(25,3,Aa)]⟩)]
def I4 (D:Fn):Lp:=A1 PG (Qf6 D) 64 7 (A2 PG 240 7) Q40 Q5o
def Q09 (D:Fn) (G:Lp):Cfg:=(Qf6 D).loop 7 Q40 Q5o G
def Rn (D:Fn) (G:Lp):Fn:=Ao PG (Q09 D G) 64 240 Qej Qoh
theorem Q0b (O:Fn) (L:Rw) (M:Int) (G:Rw) (N D:Int):I4 O [.vC Aa L,I M, .vC Aa G,I N,I D]=
 cond (decide (D<N)) (cond (decide (0<=D)&&decide (D<(G.length:Int))) (cond (decide (0<=D)&&decide (D<(L.length:Int))) (some (0,[.vC Aa (L.set D.toNat [I (V (M+gA (nth [] G D.toNat) 0))]),I (V (M+gA (nth [] G D.toNat) 0)), .vC Aa G,I N,I (V (D+1))])) (none)) (none)) (some (1,[.vC Aa L])):=by kernel_rfl
theorem Qcb (D:Fn) (G:Lp) (L M N O T U V X Y:Int):Rn D G [I L,I M,I N,I O,I T,I U,I V,I X,I Y]=
 (D [I L,I M,I N,I T,I U]).bind λo3=>
 cond (!bA o3 1) (some [.vC Aa [],B false]) (cond (decide ((↑(wA o3 0).length:Int)=(↑(wA o3 0).length:Int))) (cond (decide (0<=(↑(wA o3 0).length:Int))&&decide ((↑(wA o3 0).length:Int)*(↑8:Int)<=140737488355328)) ((G [.vC Aa (List.replicate (↑(wA o3 0).length:Int).toNat [I 0]),I O, .vC Aa (wA o3 0),I (↑(wA o3 0).length:Int),I 0]).bind λo4=>
 cond (o4.1.beq 1) (some [.vC Aa (wA o4.2 0),B true]) (none)) (none)) (none)):=by kernel_rfl
def Qtb:=Am (I4 LN)
def EA:=Rn LN Qtb
theorem Q7c:Ak PG (Qf6 LN):=Ap rfl ⟨Zei,trivial⟩
theorem Qfq:An PG (Yh EA):=rw2 (C:=Q09 LN Qtb) (fl fb Q7c) Q7c
def Qki:Sk:=⟨[TS.v true [ci,ci,ci,sa Ah,sa kPt],TS.v true (cc 9++[sa Aa]++cc 9++[sa Aa]++cc 9++[sa Aa]),TS.v true ([sa Au]++cc 5),TS.v true [ci,ci,ci],TS.v true (cc 6),tf [ci]],[],[]⟩
def Q76:=qa 205 Qki Qne
def Yi (D G:Fn):Cfg:={cf [Zbm D,Yh G]with rowDst:=[48]}
def Qh (D G:Fn):Fn:=Ao PG (Yi D G) 64 205 Qki Qne
theorem Wh (Lb CM:Fn) (O T U D X Y G L M N:Int) (p:Pth) (x:Ax3) (t:Trk):Qh Lb CM (pxt p x t [I O,I T,I U,I D,I X,I Y,I G,I L,I M,I N])=
 (CM [I O,I T,I U,I D,I X,I Y,I G,I L,I M]).bind λo3=>
 cond (!bA o3 1) (some [B false]) (cond (decide ((↑(wA o3 0).length:Int)>0)) (cond (decide (0<=V ((↑(wA o3 0).length:Int)-1))&&decide (V ((↑(wA o3 0).length:Int)-1)<(↑(wA o3 0).length:Int))) (cond (decide (Ag (nth .vD (nth [] (wA o3 0) (V ((↑(wA o3 0).length:Int)-1)).toNat) 0)>V (N*256))) (some [B false]) (cond ((([[I M],[I L],[I G],[I D]]++wA o3 0).length*8).ble 140737488355328) (cond ((([[I M],[I L],[I G],[I D]]++wA o3 0++[[I (Ag (nth .vD (nth [] (wA o3 0) (V ((↑(wA o3 0).length:Int)-1)).toNat) 0))],[I (Ag (nth .vD (nth [] (wA o3 0) (V ((↑(wA o3 0).length:Int)-1)).toNat) 0))]]).length*8).ble 140737488355328) ((Lb (pxt p x t [.vC Aa ([[I M],[I L],[I G],[I D]]++wA o3 0++[[I (Ag (nth .vD (nth [] (wA o3 0) (V ((↑(wA o3 0).length:Int)-1)).toNat) 0))],[I (Ag (nth .vD (nth [] (wA o3 0) (V ((↑(wA o3 0).length:Int)-1)).toNat) 0))]])])).bind λo4=>
 some [B (bA o4 0)]) (none)) (none))) (none)) (cond (decide (D>V (N*256))) (some [B false]) (cond ((([[I M],[I L],[I G],[I D]]++wA o3 0).length*8).ble 140737488355328) (cond ((([[I M],[I L],[I G],[I D]]++wA o3 0++[[I D],[I D]]).length*8).ble 140737488355328) ((Lb (pxt p x t [.vC Aa ([[I M],[I L],[I G],[I D]]++wA o3 0++[[I D],[I D]])])).bind λo5=>
 some [B (bA o5 0)]) (none)) (none)))):=by kernel_rfl
def Je:=Qh LK EA
theorem Zku:Ak PG (Yi LK EA):=Ap rfl ⟨Z46,Qfq,trivial⟩
theorem Zq0:An PG (Q76 Je):=rw1 (C:=Yi LK EA) Zku
def Qm5:Sk:=⟨[TS.v true [ci,ci,sb,sb,sb],TS.v true [ci,ci,ci],TS.v true (cc 7)],[],[]⟩
def Zzk:=qa 267 Qm5 YY
def Ul:Fn:=Ao PG Qag 64 267 Qm5 YY
theorem Q60 (L M:Int) (U Y x4:Bool) (x5 x6 X x8 x9 N O T D G:Int):Ul [I L,I M,B U,B Y,B x4,I x5,I x6,I X,I x8,I x9,I N,I O,I T,I D,I G]=
 cond (U) (some [I 0]) (cond (G !=0) (some [I (mn (mx D 1) 16777216)]) (cond (D==0) (cond (M==0) (some [I 0]) (some [I (mn (mx (V ((V (X*M)).tdiv 100)) 1) 16777216)])) (cond (L==0) (some [I 0]) (some [I (mn (mx (V ((V (D*L)).tdiv 100)) 1) 16777216)])))):=by kernel_rfl
def Ok:=Ul
theorem Zue:An PG (Zzk Ok):=rw1 (C:=Qag) Zc8
def Qg0:Sk:=⟨[TS.v true [ci,ci,ci,sa Ah,sa kPt],TS.v true ([sa Au]++cc 5),TS.v true [ci,ci,ci],TS.v true [ci,ci,sb,sb,sb],tf [ci]],[],[]⟩
def Zzj:=qa 241 Qg0 YY
def Qb2 (D G I L:Fn):Cfg:=cf [Zzk D,Qgi G,Tx I,Qzv L]
def Ub (D G I L:Fn):Fn:=Ao PG (Qb2 D G I L) 64 241 Qg0 YY
theorem Qwp (X Y Ck Ec:Fn) (D G L M N:Int) (O T U:Bool) (V:Int) (p:Pth) (t:Trk):Ub X Y Ck Ec (De p t [I D,I G,I L,I M,I N,B O,B T,B U,I V])=
 (Ec [I V]).bind λo4=>
 (Ck (Bw t++[jA o4 0])).bind λo5=>
 (Y (Bl p++[jA o5 0])).bind λo6=>
 cond (decide (0<=gA o6 0)&&decide (gA o6 0<((p.aF.map AB).length:Int))) ((X (I M::I N::B O::B T::B U::I D::I G::I L::AT Ah (nth [] (p.aF.map AB) (gA o6 0).toNat))).bind λo7=>
 some [jA o7 0]) (none):=by kernel_rfl
def Lo:=Ub Ok EJ EM Hs
theorem Z8g:Ak PG (Qb2 Ok EJ EM Hs):=Ap rfl ⟨Zue,YU,T_,Zak,trivial⟩
theorem Zpn:An PG (Zzj Lo):=rw1 (C:=Qb2 Ok EJ EM Hs) Z8g
def ZM:Sk:=⟨[TS.v true [ci,ci,ci,sa Ah,sa kPt],TS.v true ([sa Au]++cc 5),TS.v true [ci,ci,ci],TS.v true [ci,ci,sb,sb,sb],TS.v true (cc 6)],[],[]⟩
def Zm5:=qa 204 ZM Qne
def Qce (D G:Fn):Cfg:=cf [Zzj D,Yh G]
def Qva:Sk:=⟨[td,td,td,td,td,tf [sd 5 0],tf [sd 6 0],tf [sd 7 0],tf [sd 8 0],td,td,td,td,tf [ci]]++dd 30++[tf [sa Aa],tf [ci],tf [ci]]++dd 15,[(5,46,[ci,ci,ci,sa Ah,sa kPt]),(6,52,[sa Au]++cc 5),(7,36,[ci,ci,ci]),(8,163,[ci,ci,sb,sb,sb])],[]⟩
def Q8m:List (Ex×Sk):=[(Ex.ret,⟨dd 10++[tf [sb]]++dd 51,[],[]⟩),(Ex.exit 0,⟨[td]++dd 61,[],[]⟩)]
def RX (D G:Fn):Lp:=A1 PG (Qce D G) 64 6 (A2 PG 204 6) Qva Q8m
def Q3d (D G:Fn) (I:Lp):Cfg:=(Qce D G).loop 6 Qva Q8m I
def TX (D G:Fn) (I:Lp):Fn:=Ao PG (Q3d D G I) 64 204 ZM Qne
theorem Qtd (X CM:Fn) (Y:Int) (T:Rw) (U D:Int) (G L M N O:Int) (v20 v21 v22:Bool) (p:Pth) (t:Trk):RX X CM (I Y:: .vC Aa T::I U::I D::De p t [I G,I L,I M,I N,I O,B v20,B v21,B v22])=
 cond (decide (D<U)) (cond (decide (0<=D)&&decide (D<(T.length:Int))) ((X (De p t [I G,I L,I M,I N,I O,B v20,B v21,B v22,jA (nth [] T D.toNat) 0])).bind λo6=>
 cond (decide (V (gA (nth [] T D.toNat) 0-Y)>gA o6 0)) (some (1,[B false])) (some (0,(jA (nth [] T D.toNat) 0:: .vC Aa T::I U::I (V (D+1))::De p t [I G,I L,I M,I N,I O,B v20,B v21,B v22])))) (none)) (some (2,[])):=by kernel_rfl
theorem Qt9 (F5 CM:Fn) (N6:Lp) (D G L N O:Int) (T U V:Bool) (M X Y a0 a1 a2:Int) (p:Pth) (t:Trk):TX F5 CM N6 (De p t [I D,I G,I L,I N,I O,B T,B U,B V,I M,I X,I Y,I a0,I a1,I a2])=
 (CM [I D,I G,I L,I M,I X,I Y,I a0,I a1,I a2]).bind λo7=>
 cond (!bA o7 1) (some [B false]) (cond (((p.aF.map AB).length:Int)==0) (some [B false]) ((F5 (De p t [I D,I G,I L,I N,I O,B T,B U,B V,I M])).bind λo8=>
 cond (decide (X>gA o8 0)) (some [B false]) ((N6 (I M:: .vC Aa (wA o7 0)::I (↑(wA o7 0).length:Int)::I 0::De p t [I D,I G,I L,I N,I O,B T,B U,B V])).bind λo9=>
 cond (o9.1.beq 1) (some [B (bA o9.2 0)]) (cond (o9.1.beq 2) (some [B true]) (none))))):=by kernel_rfl
def Qx1:=Am (RX Lo EA)
def KJ:=TX Lo EA Qx1
theorem Q7y:Ak PG (Qce Lo EA):=Ap rfl ⟨Zpn,Qfq,trivial⟩
theorem Zhq:An PG (Zm5 KJ):=rw2 (C:=Q3d Lo EA Qx1) (fl fb Q7y) Q7y
def ZH:Sk:=⟨[TS.v true (cc 6),tf [ci]],[],[]⟩
def Qia:Sk:=⟨[TS.v true (cc 6)],[],[]⟩
def Q3r:=qa 203 ZH Qia
def Vi:Fn:=Ao PG Qag 64 203 ZH Qia
theorem Z28 (G L O M N T D:Int):Vi [I G,I L,I O,I M,I N,I T,I D]=
 some [I (V (G+D)),I D,I (V (D-L)),I G,I M,I N]:=by kernel_rfl
def Mh:=Vi
theorem Zrp:An PG (Q3r Mh):=rw1 (C:=Qag) Zc8
def Zuj:=qa 201 YY Qez
def Qrq:Sk:=⟨[td,td,td,tf [se 3 1],tf [ci]]++dd 32,[],[(3,3,Aa)]⟩
def Qs6:List (Ex×Sk):=[(Ex.exit 0,⟨[td,td,td,tf [se 3 1]]++dd 33,[],[(3,3,Aa)]⟩)]
def Ky:Lp:=A1 PG C_limits_Differences_0 64 3 (A2 PG 201 3) Qrq Qs6
def Q5k (D:Lp):Cfg:=C_limits_Differences_0.loop 3 Qrq Qs6 D
def Qwl:Sk:=⟨[td,td,td,tf [se 3 1],td,tf [se 16 1],tf [ci]]++dd 30,[],[(3,3,Aa),(16,3,Aa)]⟩
def Q64:List (Ex×Sk):=[(Ex.exit 2,⟨[td,td,td,td,td,tf [se 16 1]]++dd 31,[],[(16,3,Aa)]⟩)]
def M_ (D:Lp):Lp:=A1 PG (Q5k D) 64 8 (A2 PG 201 8) Qwl Q64
def Q3h (D G:Lp):Cfg:=(Q5k D).loop 8 Qwl Q64 G
def Sy (D G:Lp):Fn:=Ao PG (Q3h D G) 64 201 YY Qez
theorem Qsu (G:Rw) (D:Int):Ky [.vC Aa G,I D]=
 cond (decide (D>0)) (cond (((G++[[I D]]).length*8).ble 140737488355328) (some (0,[.vC Aa (G++[[I D]]),I (V (D.tdiv 2))])) (none)) (some (1,[.vC Aa G])):=by kernel_rfl
theorem Q4w (M:Lp) (G L:Rw) (D:Int):M_ M [.vC Aa G, .vC Aa L,I D]=
 cond (decide (D>=0)) (cond (decide (0<=D)&&decide (D<(G.length:Int))) (cond (((L++[[I (V (0-gA (nth [] G D.toNat) 0))]]).length*8).ble 140737488355328) (some (0,[.vC Aa G, .vC Aa (L++[[I (V (0-gA (nth [] G D.toNat) 0))]]),I (V (D-1))])) (none)) (none)) (some (1,[.vC Aa L])):=by kernel_rfl
theorem Qxi (D G:Lp) (L:Int):Sy D G [I L]=
 (D [.vC Aa [],I L]).bind λo3=>
 cond (o3.1.beq 1) (cond ((([]++wA o3.2 0).length*8).ble 140737488355328) (cond ((([]++wA o3.2 0++[[I 0]]).length*8).ble 140737488355328) ((G [.vC Aa (wA o3.2 0), .vC Aa ([]++wA o3.2 0++[[I 0]]),I (V ((↑(wA o3.2 0).length:Int)-1))]).bind λo4=>
 cond (o4.1.beq 1) (some [.vC Aa (wA o4.2 0)]) (none)) (none)) (none)) (none):=by kernel_rfl
def Qm8:=Am (Ky)
def Q1m:=Am (M_ Qm8)
def Mv:=Sy Qm8 Q1m
theorem Yaf:An PG (Zuj Mv):=rw2 (C:=Q3h Qm8 Q1m) (fl (fl fb Q10) Q10) Q10
def Qoc:Sk:=⟨[TS.v true [ci,ci,ci,sa Ah,sa kPt],TS.v true (cc 9++[sa Aa]++cc 9++[sa Aa]++cc 9++[sa Aa]),TS.v true ([sa Au]++cc 5),TS.v true [ci,ci,ci],TS.v true [ci,ci,sb,sb,sb],TS.v true (cc 6),tf [ci]],[],[]⟩
def Qbr:=qa 157 Qoc Qia
def Qj2 (D G I L M N:Fn):Cfg:=cf [Zb D,Q76 G,Zm5 I,Q3r L,Zbg M,Zuj N]
def Q1v:Sk:=⟨dd 6++[tf [ci],tf [sd 7 0],tf [sd 8 0],tf [sd 9 0],tf [sd 10 0],tf [sd 11 0],tf [sd 12 0],td,tf [sd 14 0],tf [sd 15 0],tf [sb]]++dd 6++[tf [sa Aa],tf [ci],tf [ci]]++dd 57,[(7,46,[ci,ci,ci,sa Ah,sa kPt]),(8,34,cc 9++[sa Aa]++cc 9++[sa Aa]++cc 9++[sa Aa]),(9,52,[sa Au]++cc 5),(10,36,[ci,ci,ci]),(11,163,[ci,ci,sb,sb,sb]),(12,171,cc 6),(14,171,cc 6),(15,171,cc 6)],[]⟩
def Q1q:List (Ex×Sk):=[(Ex.exit 0,⟨dd 10++[tf [sd 10 0],td,tf [sd 12 0],td,tf [sd 14 0],tf [sd 15 0],tf [sb]]++dd 66,[(10,36,[ci,ci,ci]),(12,171,cc 6),(14,171,cc 6),(15,171,cc 6)],[]⟩)]
def Uz (D G I L M N:Fn):Lp:=A1 PG (Qj2 D G I L M N) 64 4 (A2 PG 157 4) Q1v Q1q
def Q0u (D G I L M N:Fn) (O:Lp):Cfg:=(Qj2 D G I L M N).loop 4 Q1v Q1q O
def Uq (D G I L M N:Fn) (O:Lp):Fn:=Ao PG (Q0u D G I L M N O) 64 157 Qoc Qia
theorem Qy0 (BU EQ GB DH C0 Hm:Fn) (v0:Int) (v1:Bool) (v2:Rw) (v3 v4:Int) (v46 M v48 v49 a1:Int) (v51 a2 v53:Bool) (N L G O T v59 U X Y v63 a0 v65 a3 a4 v68 v69 v70 a5:Int) (p:Pth) (x:Ax3) (t:Trk):Uz BU EQ GB DH C0 Hm (I v0::B v1:: .vC Aa v2::I v3::I v4::pxt p x t [I v46,I M,I v48,I v49,I a1,B v51,B a2,B v53,I N,I L,I G,I O,I T,I v59,I U,I X,I Y,I v63,I a0,I v65,I a3,I a4,I v68,I v69,I v70,I a5])=
 cond (decide (v4<v3)) (cond (decide (0<=v4)&&decide (v4<(v2.length:Int))) (cond (decide (V (L+V (G+gA (nth [] v2 v4.toNat) 0))<0)) (some (0,(I v0::B v1:: .vC Aa v2::I v3::I (V (v4+1))::pxt p x t [I v46,I M,I v48,I v49,I a1,B v51,B a2,B v53,I N,I L,I G,I O,I T,I v59,I U,I X,I Y,I v63,I a0,I v65,I a3,I a4,I v68,I v69,I v70,I a5]))) ((C0 [I v46,I M,I v48,I (V (L+V (G+gA (nth [] v2 v4.toNat) 0))),I (V (G+gA (nth [] v2 v4.toNat) 0))]).bind λo9=>
 cond (!bA o9 0) (some (0,(I v0::B v1:: .vC Aa v2::I v3::I (V (v4+1))::pxt p x t [I v46,I M,I v48,I v49,I a1,B v51,B a2,B v53,I N,I L,I G,I O,I T,I v59,I U,I X,I Y,I v63,I a0,I v65,I a3,I a4,I v68,I v69,I v70,I a5]))) ((DH [I N,I L,I G,I O,I T,I v59,I (V (L+V (G+gA (nth [] v2 v4.toNat) 0)))]).bind λD=>
 (GB (De p t [I v46,I M,I v48,I v49,I a1,B v51,B a2,B v53,jA D 0,jA D 1,jA D 2,jA D 3,jA D 4,jA D 5])).bind λa6=>
 cond (bA a6 0) ((EQ (pxt p x t [I v46,I M,I v48,jA D 0,jA D 1,jA D 2,jA D 3,jA D 4,jA D 5,I v0])).bind λa7=>
 cond (bA a7 0) (some (1,[B true,I v46,I M,I v48,I N,I L,I G,I O,I T,I v59,I U,I X,I Y,I v63,I a0,I v65,jA D 0,jA D 1,jA D 2,jA D 3,jA D 4,jA D 5])) (some (0,(I v0::B v1:: .vC Aa v2::I v3::I (V (v4+1))::pxt p x t [I v46,I M,I v48,I v49,I a1,B v51,B a2,B v53,I N,I L,I G,I O,I T,I v59,I U,I X,I Y,I v63,I a0,I v65,jA D 0,jA D 1,jA D 2,jA D 3,jA D 4,jA D 5])))) (some (0,(I v0::B v1:: .vC Aa v2::I v3::I (V (v4+1))::pxt p x t [I v46,I M,I v48,I v49,I a1,B v51,B a2,B v53,I N,I L,I G,I O,I T,I v59,I U,I X,I Y,I v63,I a0,I v65,jA D 0,jA D 1,jA D 2,jA D 3,jA D 4,jA D 5])))))) (none)) (some (1,[B v1,I v46,I M,I v48,I N,I L,I G,I O,I T,I v59,I U,I X,I Y,I v63,I a0,I v65,I a3,I a4,I v68,I v69,I v70,I a5])):=by kernel_rfl
theorem Q63 (BU EQ GB DH C0 Hm:Fn) (N4:Lp) (M L N O T:Int) (U X Y:Bool) (a0 a1 a2 a3 a4 a5 a6:Int) (p:Pth) (x:Ax3) (t:Trk):Uq BU EQ GB DH C0 Hm N4 (pxt p x t [I M,I L,I N,I O,I T,B U,B X,B Y,I a0,I a1,I a2,I a3,I a4,I a5,I a6])=
 (Hm [I L]).bind λa7=>
 (N4 (I a6::B false:: .vC Aa (wA a7 0)::I (↑(wA a7 0).length:Int)::I 0::pxt p x t [I M,I L,I N,I O,I T,B U,B X,B Y,I a0,I a1,I a2,I a3,I a4,I a5,I 0,I 0,I 0,I 0,I 0,I 0,I 0,I 0,I 0,I 0,I 0,I 0])).bind λD=>
 cond (D.1.beq 1) (cond (bA D.2 0) (some [jA D.2 16,jA D.2 17,jA D.2 18,jA D.2 19,jA D.2 20,jA D.2 21]) ((BU [jA D.2 1,jA D.2 2,jA D.2 3,jA D.2 5,jA D.2 6]).bind λa8=>
 (DH [jA D.2 4,jA D.2 5,jA D.2 6,jA D.2 7,jA D.2 8,jA D.2 9,I (V (gA D.2 5+gA a8 0))]).bind λG=>
 some [jA G 0,jA G 1,jA G 2,jA G 3,jA G 4,jA G 5])) (none):=by kernel_rfl
def Q32:=Am (Uz F4 Je KJ Mh Hn Mv)
def Fa:=Uq F4 Je KJ Mh Hn Mv Q32
theorem Qqu:Ak PG (Qj2 F4 Je KJ Mh Hn Mv):=Ap rfl ⟨Qzd,Zq0,Zhq,Zrp,Qvs,Yaf,trivial⟩
theorem Zax:An PG (Qbr Fa):=rw2 (C:=Q0u F4 Je KJ Mh Hn Mv Q32) (fl fb Qqu) Qqu
def Qv5:=qa 209 Qej XR
def Qop (D:Fn):Cfg:=cf [Yh D]
def Py (D:Fn):Fn:=Ao PG (Qop D) 64 209 Qej XR
theorem Q9c (G:Fn) (L M N D O T U X Y:Int):Py G [I L,I M,I N,I D,I O,I T,I U,I X,I Y]=
 (G [I L,I M,I N,I D,I O,I T,I U,I X,I Y]).bind λo1=>
 cond (!bA o1 1) (some [I 0,B false]) (cond ((↑(wA o1 0).length:Int)==0) (some [I D,B true]) (cond (decide (0<=V ((↑(wA o1 0).length:Int)-1))&&decide (V ((↑(wA o1 0).length:Int)-1)<(↑(wA o1 0).length:Int))) (some [I (Ag (nth .vD (nth [] (wA o1 0) (V ((↑(wA o1 0).length:Int)-1)).toNat) 0)),B true]) (none))):=by kernel_rfl
def H8:=Py EA
theorem Z17:Ak PG (Qop EA):=Ap rfl ⟨Qfq,trivial⟩
theorem Zn3:An PG (Qv5 H8):=rw1 (C:=Qop EA) Z17
def Zgi:=qa 270 YD YY
def Zkt:Fn:=λ_=>none
def Zvy:=qa 271 YD YY
def Z50:Fn:=λ_=>none
def Zkn:Sk:=⟨[TS.v true [ci,ci,ci,sa Ah,sa kPt],TS.v true (cc 9++[sa Aa]++cc 9++[sa Aa]++cc 9++[sa Aa]),TS.v true ([sa Au]++cc 5),TS.v true [ci,ci,ci],TS.v true [ci,ci,sb,sb,sb],TS.v true (cc 6),tf [ci],tf [ci],TS.v true [ci,ci,ci,ci],tf [ci],tf [ci]],[],[]⟩
def Yab:Sk:=⟨[TS.tup [(true,cc 6),(true,[ci,ci,ci,ci]),(false,[ci])]],[],[]⟩
def Zni (G I L M N D O:Fn):Cfg:=cf [Qbr G,Zb I,Qv5 L,Q76 M,Q3r N,Zgi D,Zvy O]
def Z1t (G I L M N D O:Fn):Fn:=Ao PG (Zni G I L M N D O) 64 245 Zkn Yab
abbrev Zy3 (Fq:Fn) (T U X:Int) (G:List AC) (Y:Int) (a6:List AC) (a0 a1 a7:Int) (BU:Fn) (D L:Int) (DH:Fn) (a2 a3 a4 a5:Int):Option (List AC):=
 (Fq [I T,I U,I X,jA G 0,jA G 1,jA G 2,jA G 3,jA G 4,jA G 5]).bind λa8=>
 cond (decide (V (V (V (Y+gA a6 0)-a0)-a1)>=0)) (cond (decide (gA a8 0>V (a7*256))) ((BU [I T,I U,I X,I D,I L]).bind λa9=>
 (DH [I a1,I D,I L,I a2,I a3,I a4,I (V (D+gA a9 0))]).bind λM=>
 some [jA M 0,jA M 1,jA M 2,jA M 3,jA M 4,jA M 5,I 3,I Y,I a5,I a0,I 0]) ((BU [I T,I U,I X,I D,I L]).bind λb0=>
 (DH [I a1,I D,I L,I a2,I a3,I a4,I (V (D+gA b0 0))]).bind λN=>
 some [jA N 0,jA N 1,jA N 2,jA N 3,jA N 4,jA N 5,I 3,I Y,I a5,I a0,I 18])) ((BU [I T,I U,I X,I D,I L]).bind λb1=>
 (DH [I a1,I D,I L,I a2,I a3,I a4,I (V (D+gA b1 0))]).bind λO=>
 some [jA O 0,jA O 1,jA O 2,jA O 3,jA O 4,jA O 5,I 3,I Y,I a5,I a0,I 18])
def Zfb:=Z1t Fa F4 H8 Je Mh Zkt Z50
def Zfm:=qa 212 Qb5 Qjq
def Qkc (D:Fn):Cfg:=cf [Qbr D]
def Qol (D:Fn):Fn:=Ao PG (Qkc D) 64 212 Qb5 Qjq
theorem Zgz (D:Fn) (G:Int) (K:Kf) (c:Cv):Qol D (I G::Ae K c)=
 (D (pxt K.p K.x K.t [I K.pa,I K.pb,I K.pc,I c.o0,I c.o1,B c.o2,B c.o3,B c.o4,I c.m0,I c.m1,I c.m2,I c.m3,I c.m4,I c.m5,I G])).bind λo1=>
 some (Ae K {c with m0:=gA o1 0,m1:=gA o1 1,m2:=gA o1 2,m3:=gA o1 3,m4:=gA o1 4,m5:=gA o1 5}):=by kernel_rfl
def QJ:=Qol Fa
theorem Zme:Ak PG (Qkc Fa):=Ap rfl ⟨Zax,trivial⟩
theorem Z42:An PG (Zfm QJ):=rw1 (C:=Qkc Fa) Zme
def Q8b:Sk:=⟨[tf [sd 20000 0],tf [ci],TS.v true (cc 7)],[(20000,179,cS)],[]⟩
def Z9h:=qa 215 Q8b Qjq
def RK:Fn:=λ_=>none
theorem Zqi:An PG (Z9h RK):=Mr
def Z4q (D:Fn):Cfg:=cf [O1 D]
def Zh1 (D:Fn):Fn:=Ao PG (Z4q D) 64 244 YD YY
def Zqq:=Zh1 CO
def Z1i:=qa 214 Q8b Qjq
def SQ:Fn:=λ_=>none
theorem Zfu:An PG (Z1i SQ):=Mr
def Z8l:=qa 269 YD YY
def Zgq:Fn:=λ_=>none
def Z5f (D:Fn):Cfg:=cf [Z8l D]
def Zxz (D:Fn):Fn:=Ao PG (Z5f D) 64 243 YD YY
def Zt4:=Zxz Zgq
def Q69:Sk:=⟨[tf [sd 20000 0],TS.v true (cc 7)],[(20000,179,cS)],[]⟩
def Q2p:Sk:=⟨[tf [sb]],[(20000,179,cS)],[]⟩
def Zid:=qa 213 Q69 Q2p
def S2:Fn:=λ_=>none
theorem Zu6:An PG (Zid S2):=Mr
def Qly:Sk:=⟨[TS.tup [(true,cc 7),(false,[sb])]],[],[]⟩
def Qfb (M:Fn):Nat×Spec:=(155,E3 Ql3 Qly M)
def Qz (D G:Fn):Cfg:=cr [Qgi D,Qlr G] [163] [163]
def Qob (D G:Fn):Fn:=Ly PG (Qz D G) 64 155 Ql3 Qly
theorem Zil (D G:Fn) (K:Kf) (c:Cv):Qob D G (Ae K c)=
 (G (Ae K c)).bind λo2=>
 (D (Bl K.p++[jA o2 0])).bind λo3=>
 cond (decide (gA o3 0<0)) (some [I 0,I 0,I 0,I 0,I 0,I 0,I 0,B false]) (cond (decide (0<=gA o3 0)&&decide (gA o3 0<((K.p.aF.map AB).length:Int))) (some (AT Ah (nth [] (K.p.aF.map AB) (gA o3 0).toNat)++[B true])) (none)):=by kernel_rfl
def G3:=Qob EJ GK
theorem Zlt:Ak PG (Qz EJ GK):=Lu (rs:=[163]) rfl ⟨YU,Zbi,trivial⟩ rfl (DB rfl (Jo LU))
theorem Z3d (vars : List AC) (R : Type) (K : TV -> Mem -> Option R) : EL PG (Qz EJ GK) 64 155 [TV.v false [AC.ptr 20000 0]] ⟨[(20000, (⟨179, (cR 0 vars)⟩ : Box))], []⟩ K = EL PG (Qz EJ GK) 64 155 [TV.v false [AC.ptr 20000 0]] ⟨[(20000, (⟨179, (cR 0 vars)⟩ : Box))], []⟩ (λv _ => K v ⟨[(20000, (⟨179, (cR 0 vars)⟩ : Box))], []⟩) := dp (b := ((GK (cR 0 vars)).bind λo2 =>
 (EJ [jA vars 37,jA vars 38,jA vars 39, .vC Ah (wA vars 40), .vC kPt (wA vars 41),jA o2 0]).bind λo3=>
 cond (decide (gA o3 0<0)) (K (TV.tup [(true,[I 0,I 0,I 0,I 0,I 0,I 0,I 0]),(false,[B false])]) ⟨[(20000,(⟨179,(cR 0 vars)⟩:Box))],[]⟩) (cond (decide (0<=gA o3 0)&&decide (gA o3 0<(↑(wA vars 40).length:Int))) (K (TV.tup [(true,[I (Ag (nth .vD (nth [] (wA vars 40) (gA o3 0).toNat) 0)),I (Ag (nth .vD (nth [] (wA vars 40) (gA o3 0).toNat) 1)),I (Ag (nth .vD (nth [] (wA vars 40) (gA o3 0).toNat) 2)),I (Ag (nth .vD (nth [] (wA vars 40) (gA o3 0).toNat) 3)),I (Ag (nth .vD (nth [] (wA vars 40) (gA o3 0).toNat) 4)),I (Ag (nth .vD (nth [] (wA vars 40) (gA o3 0).toNat) 5)),I (Ag (nth .vD (nth [] (wA vars 40) (gA o3 0).toNat) 6))]),(false,[B true])]) ⟨[(20000,(⟨179,(cR 0 vars)⟩:Box))],[]⟩) (none)))) (by kernel_rfl) (Eq.symm (by kernel_rfl))
theorem Q3b:An PG (155,E3 Ql3 Qly G3):=So (C:=Qz EJ GK) (L:=64) (by kernel_rfl) (FnOK.bare rfl rfl rfl) Zlt eqOk Hq (by kernel_rfl) (by kernel_rfl) (λvars R K=>Z3d vars R K)
def Zwm:=qa 162 Qb5 Qjq
def Qg3 (D G I L M N:Fn):Cfg:=cr [Z9h D,Z1i G,Qty I,Zid L,Zfm M,Qfb N] [215,214,161,213,212,155] [155]
def Zt (D G I L M N:Fn):Fn:=Ao PG (Qg3 D G I L M N) 64 162 Qb5 Qjq
abbrev Qdw (c:Cv) (D:List AC) (Y:Fn) (K:Kf) (EW V:Fn) (L:Int) (X:Fn):Option (List AC):=
 cond (!c.y0==gA D 4) ((Y (jA D 0::jA D 1::jA D 2::jA D 3::jA D 4::jA D 5::jA D 6::Ae K c)).bind λG=>
 cond (!bA G 0) (cond (gA G 66==0) ((EW (cR 1 G)).bind λM=>
 some (cR 0 M)) (some (cR 1 G))) (cond (decide (0<=gA D 4)&&decide (gA D 4<(↑(wA G 36).length:Int))) (cond (Ag (nth .vD (nth [] (wA G 36) (gA D 4).toNat) 0)==6) ((V (I L::jA D 0::jA D 1::jA D 2::jA D 3::jA D 4::jA D 5::jA D 6::cR 1 G)).bind λN=>
 some (cR 0 N)) ((X (I L::jA D 0::jA D 1::jA D 2::jA D 3::jA D 4::jA D 5::jA D 6::cR 1 G)).bind λO=>
 some (cR 0 O))) (none))) (cond (decide (0<=gA D 4)&&decide (gA D 4<((K.aA.map Af).length:Int))) (cond (gA (nth [] (K.aA.map Af) (gA D 4).toNat) 0==6) ((V (I L::jA D 0::jA D 1::jA D 2::jA D 3::jA D 4::jA D 5::jA D 6::Ae K c)).bind λT=>
 some (cR 0 T)) ((X (I L::jA D 0::jA D 1::jA D 2::jA D 3::jA D 4::jA D 5::jA D 6::Ae K c)).bind λU=>
 some (cR 0 U))) (none))
theorem Zf2 (L M N O T X:Fn) (G:Int) (K:Kf) (c:Cv):Zt L M N O T X (I G::Ae K c)=
 (X (Ae K c)).bind λD=>
 cond (gA D 6==0) ((T (I G::Ae K c)).bind λU=>
 some (cR 0 U)) (cond (c.o2) (cond (!c.y0==gA D 4) ((T (I G::Ae K c)).bind λV=>
 some (cR 0 V)) (Qdw c D O K N M G L)) (Qdw c D O K N M G L)):=by kernel_rfl
def PD:=Zt RK SQ IY S2 QJ G3
theorem Z00:Ak PG (Qg3 RK SQ IY S2 QJ G3):=Lu (rs:=[155]) rfl ⟨Zqi,Zfu,Q83,Zu6,Z42,Q3b,trivial⟩ rfl (DB rfl (DB rfl (DB rfl (DB rfl (DB rfl (Jo LU))))))
theorem Znr:An PG (Zwm PD):=rw1 (C:=Qg3 RK SQ IY S2 QJ G3) Z00
def Qfd:=qa 147 YY YY
def WU (D:Fn):Cfg:=cf [O1 D]
def Qc3 (D:Fn):Fn:=Ao PG (WU D) 64 147 YY YY
theorem Zud (D:Fn) (G:Int):Qc3 D [I G]=
 (D [I G,I 1048576,I 60000,I 2]).bind λo1=>
 some [jA o1 0]:=by kernel_rfl
def HP:=Qc3 CO
theorem Zpt:Ak PG (WU CO):=Ap rfl ⟨P2,trivial⟩
theorem Qij:An PG (Qfd HP):=rw1 (C:=WU CO) Zpt
def Q26:=qa 238 YY YY
def LL:Fn:=λ_=>none
theorem Qw7:An PG (Q26 LL):=Mr
def Qno:Sk:=⟨[TS.v true [ci,ci,ci,ci],tf [ci],tf [ci]],[],[]⟩
def Zce:=qa 200 Qno Qne
def Qi3 (D G:Fn):Cfg:=cf [Qfd D,Q26 G]
def Zhe (D G:Fn):Fn:=Ao PG (Qi3 D G) 64 200 Qno Qne
def Pv:=Zhe HP LL
theorem Zzp:Ak PG (Qi3 HP LL):=Ap rfl ⟨Qij,Qw7,trivial⟩
theorem Z6p:An PG (Zce Pv):=rw1 (C:=Qi3 HP LL) Zzp
def WZ:Sk:=⟨[TS.v true [ci,ci,ci,ci]],[],[]⟩
def Zu9:=qa 199 Qno WZ
def Qa0 (D G:Fn):Cfg:=cf [Qfd D,Q26 G]
def Zi5 (D G:Fn):Fn:=Ao PG (Qa0 D G) 64 199 Qno WZ
def Pz:=Zi5 HP LL
theorem Z5r:Ak PG (Qa0 HP LL):=Ap rfl ⟨Qij,Qw7,trivial⟩
theorem Zld:An PG (Zu9 Pz):=rw1 (C:=Qa0 HP LL) Z5r
def Qjt:Sk:=⟨[tf [ci]],[(20000,179,cS)],[]⟩
def Zc9:=qa 198 Ql3 Qjt
def Q03:Fn:=Ao PG Qag 64 198 Ql3 Qjt
theorem Ztb (K:Kf) (c:Cv):Q03 (Ae K c)=
 some (I 3::Ae K {c with next:=V (c.idx+1),on:=false,idx:=0,aN:=false,cnt:=0}):=by kernel_rfl
def T8:=Q03
theorem Ziz:An PG (Zc9 T8):=rw1 (C:=Qag) Zc8
def Qrh:=qa 156 Ql3 Qjt
def YJ (D G I:Fn):Cfg:=cp [Zce D,Zu9 G,Zc9 I] [198]
def V0 (D G I:Fn):Fn:=Ao PG (YJ D G I) 64 156 Ql3 Qjt
theorem Zr5 (O T G:Fn) (K:Kf) (c:Cv):V0 O T G (Ae K c)=
 cond (c.aN) (cond (decide (V (c.cnt+1)>1)) (cond (c.aJ) ((G (Ae K {c with cnt:=V (c.cnt+1)})).bind λU=>
 some (jA U 0::cR 1 U)) (some (I 2::Ae K {c with cnt:=V (c.cnt+1)}))) (some (I 2::Ae K {c with cnt:=V (c.cnt+1)}))) (cond (decide (0<=c.idx)&&decide (c.idx<((K.p.aD.map Av).length:Int))) (cond (gA (nth [] (K.p.aD.map Av) c.idx.toNat) 1 !=3) ((G (Ae K {c with cnt:=V (c.cnt+1)})).bind λo8=>
 some (jA o8 0::cR 1 o8)) (cond (decide (0<=gA (nth [] (K.p.aD.map Av) c.idx.toNat) 2)&&decide (gA (nth [] (K.p.aD.map Av) c.idx.toNat) 2<((K.aA.map Af).length:Int))) (cond (gA (nth [] (K.aA.map Af) (gA (nth [] (K.p.aD.map Av) c.idx.toNat) 2).toNat) 0==7) (cond (decide (V (c.cnt+1)<gA (nth [] (K.aA.map Af) (gA (nth [] (K.p.aD.map Av) c.idx.toNat) 2).toNat) 19)) (some (I 3::Ae K {c with cnt:=V (c.cnt+1)})) ((G (Ae K {c with cnt:=V (c.cnt+1)})).bind λX=>
 some (jA X 0::cR 1 X))) (cond (gA (nth [] (K.aA.map Af) (gA (nth [] (K.p.aD.map Av) c.idx.toNat) 2).toNat) 0==8) ((T [I c.s0,I c.s1,I c.s2,I c.s3,jA (nth [] (K.aA.map Af) (gA (nth [] (K.p.aD.map Av) c.idx.toNat) 2).toNat) 19,jA (nth [] (K.aA.map Af) (gA (nth [] (K.p.aD.map Av) c.idx.toNat) 2).toNat) 20]).bind λD=>
 (O [jA D 0,jA D 1,jA D 2,jA D 3,jA (nth [] (K.aA.map Af) (gA (nth [] (K.p.aD.map Av) c.idx.toNat) 2).toNat) 19,jA (nth [] (K.aA.map Af) (gA (nth [] (K.p.aD.map Av) c.idx.toNat) 2).toNat) 20]).bind λN=>
 cond (!bA N 0) (some (I 3::Ae K {c with s0:=gA D 0,s1:=gA D 1,s2:=gA D 2,s3:=gA D 3,cnt:=V (c.cnt+1)})) ((G (Ae K {c with s0:=gA D 0,s1:=gA D 1,s2:=gA D 2,s3:=gA D 3,cnt:=V (c.cnt+1)})).bind λL=>
 some (jA L 0::cR 1 L))) (cond (gA (nth [] (K.aA.map Af) (gA (nth [] (K.p.aD.map Av) c.idx.toNat) 2).toNat) 0==14) (some (I 7::Ae K {c with cnt:=V (c.cnt+1),aI:=7})) ((G (Ae K {c with cnt:=V (c.cnt+1)})).bind λM=>
 some (jA M 0::cR 1 M))))) (none))) (none)):=by kernel_rfl
def LH:=V0 Pv Pz T8
theorem Zcw:Ak PG (YJ Pv Pz T8):=Ap rfl ⟨Z6p,Zld,Ziz,trivial⟩
theorem Q9v:An PG (Qrh LH):=rw1 (C:=YJ Pv Pz T8) Zcw
def Zoh:=qa 160 Qb5 Qjt
def Qib (D:Fn):Cfg:=cp [Qrh D] [156]
def Qfl (D:Fn):Fn:=Ao PG (Qib D) 64 160 Qb5 Qjt
theorem Z8u (G:Fn) (D:Int) (K:Kf) (c:Cv):Qfl G (I D::Ae K c)=
 cond (decide (0<=D)&&decide (D<((K.p.aD.map Av).length:Int))) (cond (gA (nth [] (K.p.aD.map Av) D.toNat) 1==1) ((G (Ae K {c with on:=true,idx:=D,aN:=c.o3,cnt:=0})).bind λT=>
 some (jA T 0::cR 1 T)) (cond (gA (nth [] (K.p.aD.map Av) D.toNat) 1==2) ((G (Ae K {c with on:=true,idx:=D,aN:=c.o3,cnt:=0})).bind λo8=>
 some (jA o8 0::cR 1 o8)) (cond (gA (nth [] (K.p.aD.map Av) D.toNat) 1==6) ((G (Ae K {c with on:=true,idx:=D,aN:=c.o3,cnt:=0})).bind λU=>
 some (jA U 0::cR 1 U)) (cond (gA (nth [] (K.p.aD.map Av) D.toNat) 1==4) ((G (Ae K {c with on:=true,idx:=D,aN:=true,cnt:=0})).bind λL=>
 some (jA L 0::cR 1 L)) (cond (gA (nth [] (K.p.aD.map Av) D.toNat) 1==3) (cond (decide (0<=gA (nth [] (K.p.aD.map Av) D.toNat) 2)&&decide (gA (nth [] (K.p.aD.map Av) D.toNat) 2<((K.aA.map Af).length:Int))) (cond (gA (nth [] (K.aA.map Af) (gA (nth [] (K.p.aD.map Av) D.toNat) 2).toNat) 0==11) ((G (Ae K {c with on:=true,idx:=D,aN:=true,cnt:=0})).bind λM=>
 some (jA M 0::cR 1 M)) ((G (Ae K {c with on:=true,idx:=D,aN:=gA (nth [] (K.aA.map Af) (gA (nth [] (K.p.aD.map Av) D.toNat) 2).toNat) 0==12,cnt:=0})).bind λN=>
 some (jA N 0::cR 1 N))) (none)) ((G (Ae K {c with on:=true,idx:=D,aN:=false,cnt:=0})).bind λO=>
 some (jA O 0::cR 1 O))))))) (none):=by kernel_rfl
def Pr:=Qfl LH
theorem Zj4:Ak PG (Qib LH):=Ap rfl ⟨Q9v,trivial⟩
theorem Z4y:An PG (Zoh Pr):=rw1 (C:=Qib LH) Zj4
def Qic:Sk:=⟨[tf [sa kPt],tf [ci],TS.v true [ci,ci,sb,sb,sb],tf [ci],tf [ci]],[],[]⟩
def Yal:=qa 211 Qic WB
def Qe6 (D:Fn):Cfg:=cf [Qv1 D]
def Q2t:Sk:=⟨[tf [sa kPt],td,td,tf [ci],tf [ci],td,td,tf [sd 7 0],td,td,td,td,tf [ci]]++dd 32,[(7,163,[ci,ci,sb,sb,sb])],[]⟩
def Qw2:List (Ex×Sk):=[(Ex.ret,⟨dd 10++[tf [ci],tf [ci]]++dd 33,[],[]⟩),(Ex.exit 0,⟨[td,td,td,tf [ci]]++dd 41,[],[]⟩)]
def RC (D:Fn):Lp:=A1 PG (Qe6 D) 64 2 (A2 PG 211 2) Q2t Qw2
def Qr8 (D:Fn) (G:Lp):Cfg:=(Qe6 D).loop 2 Q2t Qw2 G
def Qd9 (D:Fn) (G:Lp):Fn:=Ao PG (Qr8 D G) 64 211 Qic WB
theorem Zmg (Y:Fn) (G:Rw) (L M D N O:Int) (T U X:Bool):RC Y [.vC kPt G,I L,I M,I D,I N,I O,B T,B U,B X]=
 cond (decide (D<(G.length:Int))) (cond (decide (0<=D)&&decide (D<(G.length:Int))) ((Y [jA (nth [] G D.toNat) 0,jA (nth [] G D.toNat) 1,jA (nth [] G D.toNat) 2,I N,I O,B T,B U,B X]).bind λo2=>
 cond (bA o2 0) (cond (decide (M<=gA (nth [] G D.toNat) 0)) (cond (decide (gA (nth [] G D.toNat) 0<=L)) (some (1,[jA (nth [] G D.toNat) 0,I D])) (some (0,[.vC kPt G,I L,I M,I (V (D+1)),I N,I O,B T,B U,B X]))) (some (0,[.vC kPt G,I L,I M,I (V (D+1)),I N,I O,B T,B U,B X]))) (some (0,[.vC kPt G,I L,I M,I (V (D+1)),I N,I O,B T,B U,B X]))) (none)) (some (2,[I L])):=by kernel_rfl
theorem Zfq (Y:Fn) (D:Lp) (G:Rw) (L M N:Int) (O T U:Bool) (V X:Int):Qd9 Y D [.vC kPt G,I L,I M,I N,B O,B T,B U,I V,I X]=
 (D [.vC kPt G,I V,I X,I (mx L 0),I M,I N,B O,B T,B U]).bind λo3=>
 cond (o3.1.beq 1) (some [jA o3.2 0,jA o3.2 1]) (cond (o3.1.beq 2) (some [jA o3.2 0,I (-1)]) (none)):=by kernel_rfl
def Qyk:=Am (RC Io)
def PY:=Qd9 Io Qyk
theorem Q79:Ak PG (Qe6 Io):=Ap rfl ⟨Qun,trivial⟩
theorem Z9j:An PG (Yal PY):=rw2 (C:=Qr8 Io Qyk) (fl fb Q79) Q79
def Z2r:=qa 210 XB YY
def Q55:Sk:=⟨[td,tf [ci]]++dd 11++[tf [sa Au],tf [ci],tf [ci]]++dd 28,[],[]⟩
def Qp6:List (Ex×Sk):=[(Ex.ret,⟨[td,td,td,td,tf [ci]]++dd 39,[],[]⟩),(Ex.exit 0,⟨[td]++dd 43,[],[]⟩)]
def Rm:Lp:=A1 PG Qag 64 4 (A2 PG 210 4) Q55 Qp6
def Quz (D:Lp):Cfg:=Qag.loop 4 Q55 Qp6 D
def Q70 (D:Lp):Fn:=Ao PG (Quz D) 64 210 XB YY
theorem Qst (L:Int) (G:Rw) (M D:Int):Rm [I L, .vC Au G,I M,I D]=
 cond (decide (D<M)) (cond (decide (0<=D)&&decide (D<(G.length:Int))) (cond (gA (nth [] G D.toNat) 3 !=0) (cond (decide (0<=V (V (L-gA (nth [] G D.toNat) 2)*gA (nth [] G D.toNat) 3))) (cond (decide (V (V (L-gA (nth [] G D.toNat) 2)*gA (nth [] G D.toNat) 3)<=gA (nth [] G D.toNat) 1)) (some (1,[I (V (gA (nth [] G D.toNat) 0+V (V (L-gA (nth [] G D.toNat) 2)*gA (nth [] G D.toNat) 3)))])) (some (0,[I L, .vC Au G,I M,I (V (D+1))]))) (some (0,[I L, .vC Au G,I M,I (V (D+1))]))) (some (0,[I L, .vC Au G,I M,I (V (D+1))]))) (none)) (some (2,[])):=by kernel_rfl
theorem Z88 (L:Lp) (D:Rw) (N M O T U G:Int):Q70 L [.vC Au D,I N,I M,I O,I T,I U,I G]=
 cond (G==M) (some [I 0]) ((L [I G, .vC Au D,I (D.length:Int),I 0]).bind λo1=>
 cond (o1.1.beq 1) (some [jA o1.2 0]) (cond (o1.1.beq 2) (some [I (-1)]) (none))):=by kernel_rfl
def Lv:=Am (Rm)
def Nx:=Q70 Lv
theorem Zlv:An PG (Z2r Nx):=rw2 (C:=Quz Lv) (fl fb Zc8) Zc8
def Qlo:Sk:=⟨[TS.tup [(false,[ci]),(false,[ci])]],[(20000,179,cS)],[]⟩
def Zy4:=qa 159 Ql3 Qlo
def XW (D G I L:Fn):Cfg:=cf [Yal D,Z2r G,Tx I,Qv5 L]
def Zc (D G I L:Fn):Fn:=Ao PG (XW D G I L) 64 159 Ql3 Qlo
abbrev T9 (Fq:Fn) (K:Kf) (c:Cv) (Ck O Y:Fn) (D:AC):Option (List AC):=
 (Fq [I K.pa,I K.pb,I K.pc,I c.m0,I c.m1,I c.m2,I c.m3,I c.m4,I c.m5]).bind λL=>
 (Ck (Bw K.t++[I (V ((V (V (gA L 0+256)-1)).tdiv 256))])).bind λG=>
 (O (Bw K.t++[jA G 0])).bind λT=>
 cond (gA T 0 !=V ((V (V (gA L 0+256)-1)).tdiv 256)) ((Y [.vC kPt (K.p.aD.map Av),I c.next,I c.o0,I c.o1,B c.o2,B c.o3,B c.o4,D,I (V (gA G 0+1))]).bind λM=>
 (O (Bw K.t++[jA M 0])).bind λU=>
 some (jA U 0::jA M 1::Ae K c)) ((Y [.vC kPt (K.p.aD.map Av),I c.next,I c.o0,I c.o1,B c.o2,B c.o3,B c.o4,D,jA G 0]).bind λN=>
 (O (Bw K.t++[jA N 0])).bind λX=>
 some (jA X 0::jA N 1::Ae K c))
theorem Z8x (D G L M:Fn) (K:Kf) (c:Cv):Zc D G L M (Ae K c)=
 cond (K.closed) (T9 M K c L G D (I K.len)) (T9 M K c L G D (I K.set)):=by kernel_rfl
def QN:=Zc PY Nx EM H8
theorem Z0j:Ak PG (XW PY Nx EM H8):=Ap rfl ⟨Z9j,Zlv,T_,Zn3,trivial⟩
theorem Z3q:An PG (Zy4 QN):=rw1 (C:=XW PY Nx EM H8) Z0j
def Zmz:=qa 109 Ql3 Qjt
def Qga (D G I L:Fn):Cfg:=cp [Zwm D,Qty G,Zoh I,Zy4 L] [162,161,160,159]
def XA (D G I L:Fn):Fn:=Ao PG (Qga D G I L) 64 109 Ql3 Qjt
theorem Zyj (G T U X:Fn) (K:Kf) (c:Cv):XA G T U X (Ae K c)=
 (X (Ae K c)).bind λD=>
 cond (bA D 90) (cond (gA D 52==V (gA D 0*256)) (cond (decide (gA D 1>=0)) ((U (jA D 1::cR 2 D)).bind λo8=>
 cond (decide (0<=gA D 1)&&decide (gA D 1<(↑(wA o8 42).length:Int))) (cond (Ag (nth .vD (nth [] (wA o8 42) (gA D 1).toNat) 2)==gA o8 80) (cond (decide (0<=Ag (nth .vD (nth [] (wA o8 42) (gA D 1).toNat) 2))&&decide (Ag (nth .vD (nth [] (wA o8 42) (gA D 1).toNat) 2)<(↑(wA o8 36).length:Int))) (cond (Ag (nth .vD (nth [] (wA o8 36) (Ag (nth .vD (nth [] (wA o8 42) (gA D 1).toNat) 2)).toNat) 0)==5) (cond (gA o8 83==1) ((T (cR 1 o8)).bind λY=>
 some (jA o8 0::cR 0 Y)) (some (jA o8 0::cR 1 o8))) (some (jA o8 0::cR 1 o8))) (none)) (some (jA o8 0::cR 1 o8))) (none)) (cond (bA D 38) (some (I 7::EV (cR 2 D) [(78,I 7)])) (some (I 1::cR 2 D)))) (cond (gA D 63 !=0) ((G (jA D 0::cR 2 D)).bind λL=>
 cond (bA D 90) (some (I 6::cR 0 L)) (some (I 1::cR 0 L))) ((G (jA D 0::cR 2 D)).bind λN=>
 some (I 1::cR 0 N)))) (cond (gA D 63 !=0) ((G (jA D 0::cR 2 D)).bind λM=>
 cond (bA D 90) (some (I 6::cR 0 M)) (some (I 1::cR 0 M))) ((G (jA D 0::cR 2 D)).bind λO=>
 some (I 1::cR 0 O))):=by kernel_rfl
def JS:=XA PD IY Pr QN
theorem Z1h:Ak PG (Qga PD IY Pr QN):=Ap rfl ⟨Znr,Q83,Z4y,Z3q,trivial⟩
theorem Zpo:An PG (Zmz JS):=rw1 (C:=Qga PD IY Pr QN) Z1h
def Q35:=qa 98 YY Qia
def Qai:Fn:=Ao PG Qag 64 98 YY Qia
theorem Z4u (D:Int):Qai [I D]=
 some [I (V (D*256)),I 0,I 0,I (V (D*256)),I (V (D*256)),I (V (D*256))]:=by kernel_rfl
def Jq:=Qai
theorem Qqe:An PG (Q35 Jq):=rw1 (C:=Qag) Zc8
def Qod:Sk:=⟨[TS.v true (cc 9++[sa Aa]++cc 9++[sa Aa]++cc 9++[sa Aa]),TS.v true [ci,ci,ci],TS.v true [ci,ci,ci]],[],[]⟩
def Zmr:=qa 51 Qod YY
def Xb:Cfg:={cf []with unroll:=[3]}
def Qyu:Fn:=Ao PG Xb 64 51 Qod YY
theorem Zdc (x0 x1 x2 x3 x4 x5 T x7 x8:Int) (x9:Rw) (X Y a0 a1 a2 a3 D a4 a5:Int) (a6:Rw) (a7 a8 a9 b0 b1 b2 G b3 b4:Int) (b5:Rw) (U N L V O M:Int):Qyu [I x0,I x1,I x2,I x3,I x4,I x5,I T,I x7,I x8, .vC Aa x9,I X,I Y,I a0,I a1,I a2,I a3,I D,I a4,I a5, .vC Aa a6,I a7,I a8,I a9,I b0,I b1,I b2,I G,I b3,I b4, .vC Aa b5,I U,I N,I L,I V,I O,I M]=
 cond (U !=V) (cond (N !=O) (cond (L !=M) (some [I (mx (mx (mx 0 T) D) G)]) (some [I (mx (mx 0 T) D)])) (cond (L !=M) (some [I (mx (mx 0 T) G)]) (some [I (mx 0 T)]))) (cond (N !=O) (cond (L !=M) (some [I (mx (mx 0 D) G)]) (some [I (mx 0 D)])) (cond (L !=M) (some [I (mx 0 G)]) (some [I 0]))):=by kernel_rfl
def Nn:=Qyu
theorem Zbv:Ak PG (Xb):=Ap rfl trivial
theorem Zqg:An PG (Zmr Nn):=rw1 (C:=Xb) Zbv
def Qfe:Sk:=⟨[TS.v true [ci,ci,ci],TS.v true [ci,ci,ci],TS.v true [ci,ci,ci],tf [ci]],[],[]⟩
def Z99:=qa 50 Qfe ZE
def Qbt:Cfg:={cf []with unroll:=[2]}
def Q9p:Fn:=Ao PG Qbt 64 50 Qfe ZE
abbrev RE (L M:Int) (D:AC) (N O:Int) (G:AC):Option (List AC):=
 cond (decide (L>M)) (some [D,G,I N]) (cond (decide (L<M)) (some [D,G,I (V (0-N))]) (some [D,G,I O]))
abbrev Tm (O T L M G N U:Int) (D:AC):Option (List AC):=
 cond (decide (O>T)) (RE L M D G N (I G)) (cond (decide (O<T)) (RE L M D G N (I (V (0-G)))) (RE L M D G N (I U)))
theorem Zfg (Y G L U M N X O T D:Int):Q9p [I Y,I G,I L,I U,I M,I N,I X,I O,I T,I D]=
 cond (decide (X>U)) (Tm O M T N D L G (I D)) (cond (decide (X<U)) (Tm O M T N D L G (I (V (0-D)))) (Tm O M T N D L G (I Y))):=by kernel_rfl
def Ot:=Q9p
theorem Zvb:Ak PG (Qbt):=Ap rfl trivial
theorem Z7m:An PG (Z99 Ot):=rw1 (C:=Qbt) Zvb
def Qjx:Sk:=⟨[TS.v true (cc 10),tf [sd 20000 0]],[(20000,52,[se 20000 10]++cc 5)],[(20000,104,Au)]⟩
def Yr:Sk:=⟨[TS.tup []],[(20000,52,[se 20000 10]++cc 5)],[(20000,104,Au)]⟩
def Q13:=qa 48 Qjx Yr
def Vd:Fn:=Ao PG Qag 64 48 Qjx Yr
theorem Q8i (D:Rw) (x1 M x3 X x5 x6 x7 Y x9 L G N O T U:Int):Vd [.vC Au D,I x1,I M,I x3,I X,I x5,I x6,I x7,I Y,I x9,I L,I G,I N,I O,I T,I U]=
 cond (decide ((D.length:Int)>0)) (cond (X !=0) (cond (decide (0<=V ((D.length:Int)-1))&&decide (V ((D.length:Int)-1)<(D.length:Int))) (cond (gA (nth [] D (V ((D.length:Int)-1)).toNat) 3==X) (cond (decide (0<=V ((D.length:Int)-1))&&decide (V ((D.length:Int)-1)<(D.length:Int))) (cond (gA (nth [] D (V ((D.length:Int)-1)).toNat) 7==Y&&(gA (nth [] D (V ((D.length:Int)-1)).toNat) 8==x9&&(gA (nth [] D (V ((D.length:Int)-1)).toNat) 9==L&&true))) (cond (decide (0<=V ((D.length:Int)-1))&&decide (V ((D.length:Int)-1)<(D.length:Int))) (cond (decide (0<=V ((D.length:Int)-1))&&decide (V ((D.length:Int)-1)<(D.length:Int))) (some [.vC Au (D.set (V ((D.length:Int)-1)).toNat [jA (nth [] D (V ((D.length:Int)-1)).toNat) 0,I (V (gA (nth [] D (V ((D.length:Int)-1)).toNat) 1+M)),jA (nth [] D (V ((D.length:Int)-1)).toNat) 2,jA (nth [] D (V ((D.length:Int)-1)).toNat) 3,jA (nth [] D (V ((D.length:Int)-1)).toNat) 4,jA (nth [] D (V ((D.length:Int)-1)).toNat) 5,jA (nth [] D (V ((D.length:Int)-1)).toNat) 6,jA (nth [] D (V ((D.length:Int)-1)).toNat) 7,jA (nth [] D (V ((D.length:Int)-1)).toNat) 8,jA (nth [] D (V ((D.length:Int)-1)).toNat) 9]),I (V (G+M)),I N,I O,I T,I U]) (none)) (none)) (cond (((D++[[I G,I M,I x3,I X,I x5,I x6,I x7,I Y,I x9,I L]]).length*80).ble 140737488355328) (some [.vC Au (D++[[I G,I M,I x3,I X,I x5,I x6,I x7,I Y,I x9,I L]]),I (V (G+M)),I N,I O,I T,I U]) (none))) (none)) (cond (((D++[[I G,I M,I x3,I X,I x5,I x6,I x7,I Y,I x9,I L]]).length*80).ble 140737488355328) (some [.vC Au (D++[[I G,I M,I x3,I X,I x5,I x6,I x7,I Y,I x9,I L]]),I (V (G+M)),I N,I O,I T,I U]) (none))) (none)) (cond (((D++[[I G,I M,I x3,I X,I x5,I x6,I x7,I Y,I x9,I L]]).length*80).ble 140737488355328) (some [.vC Au (D++[[I G,I M,I x3,I X,I x5,I x6,I x7,I Y,I x9,I L]]),I (V (G+M)),I N,I O,I T,I U]) (none))) (cond (((D++[[I G,I M,I x3,I X,I x5,I x6,I x7,I Y,I x9,I L]]).length*80).ble 140737488355328) (some [.vC Au (D++[[I G,I M,I x3,I X,I x5,I x6,I x7,I Y,I x9,I L]]),I (V (G+M)),I N,I O,I T,I U]) (none)):=by kernel_rfl
def My:=Vd
theorem Qpu:An PG (Q13 My):=rw1 (C:=Qag) Zc8
def Qlp:Sk:=⟨[TS.v true [ci,ci,ci],TS.v true [ci,ci,ci],tf [ci],tf [ci],tf [sd 20000 0],tf [sd 20001 0],tf [sd 20002 0],tf [sd 20003 0]],[(20000,41,[ci,ci,ci]),(20001,3,[ci]),(20002,34,cc 9++[sa Aa]++cc 9++[sa Aa]++cc 9++[sa Aa]),(20003,105,[CS.clo 48 [] [(20004,0)]]),(20004,52,[se 20000 10]++cc 5)],[(20000,104,Au)]⟩
def Qg7:Sk:=⟨[TS.tup []],[(20000,41,[ci,ci,ci]),(20001,3,[ci]),(20002,34,cc 9++[sa Aa]++cc 9++[sa Aa]++cc 9++[sa Aa]),(20003,105,[CS.clo 48 [] [(20004,0)]]),(20004,52,[se 20000 10]++cc 5)],[(20000,104,Au)]⟩
def Qxh:=qa 49 Qlp Qg7
def YM (D G I:Fn):Cfg:=cp [Zmr D,Z99 G,Q13 I] [48]
def Qnn (D G I:Fn):Fn:=Ao PG (YM D G I) 64 49 Qlp Qg7
theorem Z0u (OG Pn FJ:Fn) (x0:Rw) (x1 x2 x3 x4 x5 x6 x7 x8 x9 L M G N O T U V X Y a0 a1:Int) (a2:Rw) (a3 a4 a5 a6 a7 a8 a9 b0 b1:Int) (b2:Rw) (b3 b4 b5 b6 b7 b8 b9 c0 c1:Int) (c2:Rw) (c3 c4 c5 c6 c7:Int):Qnn OG Pn FJ [.vC Au x0,I x1,I x2,I x3,I x4,I x5,I x6,I x7,I x8,I x9,I L,I M,I G,I N,I O,I T,I U,I V,I X,I Y,I a0,I a1, .vC Aa a2,I a3,I a4,I a5,I a6,I a7,I a8,I a9,I b0,I b1, .vC Aa b2,I b3,I b4,I b5,I b6,I b7,I b8,I b9,I c0,I c1, .vC Aa c2,I c3,I c4,I c5,I c6,I c7]=
 (Pn [I x9,I L,I M,I x1,I x2,I x3,I x4,I x5,I x6,I G]).bind λD=>
 (OG [I N,I O,I T,I U,I V,I X,I Y,I a0,I a1, .vC Aa a2,I a3,I a4,I a5,I a6,I a7,I a8,I a9,I b0,I b1, .vC Aa b2,I b3,I b4,I b5,I b6,I b7,I b8,I b9,I c0,I c1, .vC Aa c2,I x9,I L,I M,jA D 0,jA D 1,jA D 2]).bind λo6=>
 cond (decide (gA o6 0>0)) ((FJ [.vC Au x0,I 0,jA o6 0,I x7,I 0,I x9,I L,I M,jA D 0,jA D 1,jA D 2,I c3,I c4,I c5,I c6,I c7]).bind λo7=>
 (FJ [.vC Au (wA o7 0),I 0,I x8,I x7,I G,jA D 0,jA D 1,jA D 2,jA D 0,jA D 1,jA D 2,jA o7 1,jA o7 2,jA o7 3,jA o7 4,jA o7 5]).bind λo8=>
 some [.vC Au (wA o8 0),jA D 0,jA D 1,jA D 2,I G,I N,I O,I T,I U,I V,I X,I Y,I a0,I a1, .vC Aa a2,I a3,I a4,I a5,I a6,I a7,I a8,I a9,I b0,I b1, .vC Aa b2,I b3,I b4,I b5,I b6,I b7,I b8,I b9,I c0,I c1, .vC Aa c2,jA o8 1,jA o8 2,jA o8 3,jA o8 4,jA o8 5]) ((FJ [.vC Au x0,I 0,I x8,I x7,I G,jA D 0,jA D 1,jA D 2,jA D 0,jA D 1,jA D 2,I c3,I c4,I c5,I c6,I c7]).bind λo9=>
 some [.vC Au (wA o9 0),jA D 0,jA D 1,jA D 2,I G,I N,I O,I T,I U,I V,I X,I Y,I a0,I a1, .vC Aa a2,I a3,I a4,I a5,I a6,I a7,I a8,I a9,I b0,I b1, .vC Aa b2,I b3,I b4,I b5,I b6,I b7,I b8,I b9,I c0,I c1, .vC Aa c2,jA o9 1,jA o9 2,jA o9 3,jA o9 4,jA o9 5]):=by kernel_rfl
def FM:=Qnn Nn Ot My
theorem Z0i:Ak PG (YM Nn Ot My):=Ap rfl ⟨Zqg,Z7m,Qpu,trivial⟩
theorem Q36:An PG (Qxh FM):=rw1 (C:=YM Nn Ot My) Z0i
def Zo:Sk:=⟨[TS.v true [ci,ci,ci,sa Ah,sa kPt],tf [ci],tf [ci],tf [ci],tf [CS.clo 49 [] [(20000,0),(20001,0),(20002,0),(20003,0)]]],[(20000,41,[ci,ci,ci]),(20001,3,[ci]),(20002,34,cc 9++[sa Aa]++cc 9++[sa Aa]++cc 9++[sa Aa]),(20003,105,[CS.clo 48 [] [(20004,0)]]),(20004,52,[se 20000 10]++cc 5)],[(20000,104,Au)]⟩
def Zzc:=qa 52 Zo Qg7
def V_ (D:Fn):Cfg:={cp [Qxh D] [49]with prom:=λb=>cond (Nat.beq b 4) ([(11,3)]) ([])}
def Q12:Sk:=⟨[td,tf [ci],tf [ci],tf [ci],tf [CS.clo 49 [] [(20000,0),(20001,0),(20002,0),(20003,0)]],tf [sd 5 0],td,td,td,td,tf [ci],tf [se 11 1]]++dd 9++[tf [sa Ah],tf [ci],tf [ci]]++dd 78,[(5,46,[ci,ci,ci,sa Ah,sa kPt]),(20000,41,[ci,ci,ci]),(20001,3,[ci]),(20002,34,cc 9++[sa Aa]++cc 9++[sa Aa]++cc 9++[sa Aa]),(20003,105,[CS.clo 48 [] [(20004,0)]]),(20004,52,[se 20000 10]++cc 5)],[(11,3,Aa),(20000,104,Au)]⟩
def Qpi:List (Ex×Sk):=[(Ex.exit 0,⟨[td,tf [ci],tf [ci],tf [ci],tf [CS.clo 49 [] [(20000,0),(20001,0),(20002,0),(20003,0)]],tf [sd 5 0],td,td,td,td,td,tf [se 11 1]]++dd 90,[(5,46,[ci,ci,ci,sa Ah,sa kPt]),(20000,41,[ci,ci,ci]),(20001,3,[ci]),(20002,34,cc 9++[sa Aa]++cc 9++[sa Aa]++cc 9++[sa Aa]),(20003,105,[CS.clo 48 [] [(20004,0)]]),(20004,52,[se 20000 10]++cc 5)],[(11,3,Aa),(20000,104,Au)]⟩)]
def Ui (D:Fn):Lp:=A1 PG (V_ D) 64 4 (A2 PG 52 4) Q12 Qpi
def Q4m (D:Fn) (G:Lp):Cfg:=(V_ D).loop 4 Q12 Qpi G
def Q4u:Sk:=⟨[td,tf [ci],tf [ci],tf [ci],tf [CS.clo 49 [] [(20000,0),(20001,0),(20002,0),(20003,0)]],tf [sd 5 0],td,td,td,td,td,tf [se 11 1]]++dd 26++[tf [ci],tf [ci]]++dd 62,[(5,46,[ci,ci,ci,sa Ah,sa kPt]),(20000,41,[ci,ci,ci]),(20001,3,[ci]),(20002,34,cc 9++[sa Aa]++cc 9++[sa Aa]++cc 9++[sa Aa]),(20003,105,[CS.clo 48 [] [(20004,0)]]),(20004,52,[se 20000 10]++cc 5)],[(11,3,Aa),(20000,104,Au)]⟩
def Qzn:List (Ex×Sk):=[(Ex.exit 2,⟨[td]++dd 101,[(20000,41,[ci,ci,ci]),(20001,3,[ci]),(20002,34,cc 9++[sa Aa]++cc 9++[sa Aa]++cc 9++[sa Aa]),(20003,105,[CS.clo 48 [] [(20004,0)]]),(20004,52,[se 20000 10]++cc 5)],[(20000,104,Au)]⟩)]
def UI (D:Fn) (G:Lp):Lp:=A1 PG (Q4m D G) 64 10 (A2 PG 52 10) Q4u Qzn
def Q6h (G:Fn) (I D:Lp):Cfg:=(Q4m G I).loop 10 Q4u Qzn D
def Qck (G:Fn) (I D:Lp):Fn:=Ao PG (Q6h G I D) 64 52 Zo Qg7
theorem Qxv (B5:Fn) (v0 v1:Rw) (v2 v3 v4 v5:Int) (v6:Rw) (v7 v8 v9 v10 v11:Int) (v12 D:Rw) (G L M N O T v20 v21 v22 U v24 v25 X:Int) (v27:Rw) (v28 Y v30 v31 a0 v33 a1 v35 v36:Int) (v37:Rw) (v38 a2 v40 a3 v42 a4 v44 a5 v46:Int) (a6:Rw) (v48 v49 a7 v51 a8:Int):Ui B5 [.vC Aa v0, .vC Au v1,I v2,I v3,I v4,I v5, .vC Ah v6,I v7,I v8,I v9,I v10,I v11, .vC Ah v12, .vC kPt D,I G,I L,I M,I N,I O,I T,I v20,I v21,I v22,I U,I v24,I v25,I X, .vC Aa v27,I v28,I Y,I v30,I v31,I a0,I v33,I a1,I v35,I v36, .vC Aa v37,I v38,I a2,I v40,I a3,I v42,I a4,I v44,I a5,I v46, .vC Aa a6,I v48,I v49,I a7,I v51,I a8]=
 cond (decide (v8<v7)) (cond (decide (0<=v8)&&decide (v8<(v6.length:Int))) (cond (((v0++[[I v5]]).length*8).ble 140737488355328) (some (0,[.vC Aa (v0++[[I v5]]), .vC Au v1,I v2,I v3,I v4,I (V (v5+gA (nth [] v6 v8.toNat) 3)), .vC Ah v6,I v7,I (V (v8+1)),I v9,I v10,I v11, .vC Ah v12, .vC kPt D,I G,I L,I M,I N,I O,I T,I v20,I v21,I v22,I U,I v24,I v25,I X, .vC Aa v27,I v28,I Y,I v30,I v31,I a0,I v33,I a1,I v35,I v36, .vC Aa v37,I v38,I a2,I v40,I a3,I v42,I a4,I v44,I a5,I v46, .vC Aa a6,I v48,I v49,I a7,I v51,I a8])) (none)) (none)) (some (1,[.vC Aa v0, .vC Au v1,I v2,I v3,I v4,I v9,I v10,I v11, .vC Ah v12, .vC kPt D,I G,I L,I M,I N,I O,I T,I v20,I v21,I v22,I U,I v24,I v25,I X, .vC Aa v27,I v28,I Y,I v30,I v31,I a0,I v33,I a1,I v35,I v36, .vC Aa v37,I v38,I a2,I v40,I a3,I v42,I a4,I v44,I a5,I v46, .vC Aa a6,I v48,I v49,I a7,I v51,I a8])):=by kernel_rfl
abbrev Ri (M:Bool) (B5:Fn) (v1:Rw) (N O G L:AC) (v12 a0 a1 a2 a3 a4 a5 a6 v20 v21 v22 a7 v24:Int) (v25:Rw) (a8 v27 v28 a9 v30 v31 b0 v33 b1:Int) (v35:Rw) (v36 v37 v38 b2 v40 b3 v42 b4 v44:Int) (b5:Rw) (v46 b6 v48 v49 b7:Int) (v0:Rw) (v2 v3 v4 v5 v6 v7 v8 v9:Int) (v10 v11:Rw) (T U X Y:AC):Option (Nat×List AC):=
 cond (M) ((B5 [.vC Au v1,T,U,X,N,O,G,Y,L,I v12,I a0,I a1,I a2,I a3,I a4,I a5,I a6,I v20,I v21,I v22,I a7,I v24, .vC Aa v25,I a8,I v27,I v28,I a9,I v30,I v31,I b0,I v33,I b1, .vC Aa v35,I v36,I v37,I v38,I b2,I v40,I b3,I v42,I b4,I v44, .vC Aa b5,I v46,I b6,I v48,I v49,I b7]).bind λD=>
 some (0,[.vC Aa v0, .vC Au (wA D 0),I v2,I v3,I v4,I v5,I (V (v6+1)),I v7,I v8,I v9, .vC Ah v10, .vC kPt v11,jA D 1,jA D 2,jA D 3,jA D 4,jA D 5,jA D 6,jA D 7,jA D 8,jA D 9,jA D 10,jA D 11,jA D 12,jA D 13, .vC Aa (wA D 14),jA D 15,jA D 16,jA D 17,jA D 18,jA D 19,jA D 20,jA D 21,jA D 22,jA D 23, .vC Aa (wA D 24),jA D 25,jA D 26,jA D 27,jA D 28,jA D 29,jA D 30,jA D 31,jA D 32,jA D 33, .vC Aa (wA D 34),jA D 35,jA D 36,jA D 37,jA D 38,jA D 39])) (none)
abbrev Z1 (v0 v1:Rw) (v2 v3 v4 v5 v6 v7 v8 v9:Int) (v10 v11:Rw) (v12 O T U X Y a0 a1 v20 v21 v22 a2 v24:Int) (v25:Rw) (a3 v27 v28 a4 v30 v31 a5 v33 a6:Int) (v35:Rw) (v36 v37 v38 a7 v40 a8 v42 a9 v44:Int) (b0:Rw) (v46 b1 v48 v49 b2:Int) (B5:Fn) (b5 L b9 c0 c1:Bool) (b6 b7 b8 M N D b3 G b4:AC):Option (Nat×List AC):=
 cond (b5) (cond (b5) (cond (L) (cond (b9) (some (0,[.vC Aa v0, .vC Au v1,I v2,I v3,I v4,I v5,I (V (v6+1)),I v7,I v8,I v9, .vC Ah v10, .vC kPt v11,I v12,I O,I T,I U,I X,I Y,I a0,I a1,I v20,I v21,I v22,I a2,I v24, .vC Aa v25,I a3,I v27,I v28,I a4,I v30,I v31,I a5,I v33,I a6, .vC Aa v35,I v36,I v37,I v38,I a7,I v40,I a8,I v42,I a9,I v44, .vC Aa b0,I v46,I b1,I v48,I v49,I b2])) (cond (c0) (cond (c1) (cond (decide (v4<0)) (Ri L B5 v1 M N D G v12 O T U X Y a0 a1 v20 v21 v22 a2 v24 v25 a3 v27 v28 a4 v30 v31 a5 v33 a6 v35 v36 v37 v38 a7 v40 a8 v42 a9 v44 b0 v46 b1 v48 v49 b2 v0 v2 v3 v4 v5 v6 v7 v8 v9 v10 v11 b6 b7 b8 b3) (Ri L B5 v1 M N D G v12 O T U X Y a0 a1 v20 v21 v22 a2 v24 v25 a3 v27 v28 a4 v30 v31 a5 v33 a6 v35 v36 v37 v38 a7 v40 a8 v42 a9 v44 b0 v46 b1 v48 v49 b2 v0 v2 v3 v4 v5 v6 v7 v8 v9 v10 v11 b6 b7 b8 b4)) (none)) (cond (decide (v4<0)) (Ri L B5 v1 M N D G v12 O T U X Y a0 a1 v20 v21 v22 a2 v24 v25 a3 v27 v28 a4 v30 v31 a5 v33 a6 v35 v36 v37 v38 a7 v40 a8 v42 a9 v44 b0 v46 b1 v48 v49 b2 v0 v2 v3 v4 v5 v6 v7 v8 v9 v10 v11 (I v7) (I v8) (I v9) b3) (Ri L B5 v1 M N D G v12 O T U X Y a0 a1 v20 v21 v22 a2 v24 v25 a3 v27 v28 a4 v30 v31 a5 v33 a6 v35 v36 v37 v38 a7 v40 a8 v42 a9 v44 b0 v46 b1 v48 v49 b2 v0 v2 v3 v4 v5 v6 v7 v8 v9 v10 v11 (I v7) (I v8) (I v9) b4)))) (none)) (none)) (none)
theorem Q6x (B5:Fn) (N4:Lp) (G v1:Rw) (L M v4 v5 D v7 v8 v9:Int) (v10 v11:Rw) (v12 N O T U X Y a0 v20 v21 v22 a1 v24:Int) (v25:Rw) (a2 v27 v28 a3 v30 v31 a4 v33 a5:Int) (v35:Rw) (v36 v37 v38 a6 v40 a7 v42 a8 v44:Int) (a9:Rw) (v46 b0 v48 v49 b1:Int):UI B5 N4 [.vC Aa G, .vC Au v1,I L,I M,I v4,I v5,I D,I v7,I v8,I v9, .vC Ah v10, .vC kPt v11,I v12,I N,I O,I T,I U,I X,I Y,I a0,I v20,I v21,I v22,I a1,I v24, .vC Aa v25,I a2,I v27,I v28,I a3,I v30,I v31,I a4,I v33,I a5, .vC Aa v35,I v36,I v37,I v38,I a6,I v40,I a7,I v42,I a8,I v44, .vC Aa a9,I v46,I b0,I v48,I v49,I b1]=
 cond (decide (D<v5)) (cond (decide (v4<0)) (Z1 G v1 L M v4 v5 D v7 v8 v9 v10 v11 v12 N O T U X Y a0 v20 v21 v22 a1 v24 v25 a2 v27 v28 a3 v30 v31 a4 v33 a5 v35 v36 v37 v38 a6 v40 a7 v42 a8 v44 a9 v46 b0 v48 v49 b1 B5 (decide (0<=V (V ((v10.length:Int)-1)-D))&&decide (V (V ((v10.length:Int)-1)-D)<(G.length:Int))) (decide (0<=V (V ((v10.length:Int)-1)-D))&&decide (V (V ((v10.length:Int)-1)-D)<(v10.length:Int))) (decide (mx (Ag (nth .vD (nth [] G (V (V ((v10.length:Int)-1)-D)).toNat) 0)) L>=mn (V (Ag (nth .vD (nth [] G (V (V ((v10.length:Int)-1)-D)).toNat) 0)+Ag (nth .vD (nth [] v10 (V (V ((v10.length:Int)-1)-D)).toNat) 3))) M)) (decide (V (V ((v10.length:Int)-1)-D)>0)) (decide (0<=V (V (V ((v10.length:Int)-1)-D)-1))&&decide (V (V (V ((v10.length:Int)-1)-D)-1)<(v10.length:Int))) (I (Ag (nth .vD (nth [] v10 (V (V (V ((v10.length:Int)-1)-D)-1)).toNat) 0))) (I (Ag (nth .vD (nth [] v10 (V (V (V ((v10.length:Int)-1)-D)-1)).toNat) 1))) (I (Ag (nth .vD (nth [] v10 (V (V (V ((v10.length:Int)-1)-D)-1)).toNat) 2))) (I (Ag (nth .vD (nth [] v10 (V (V ((v10.length:Int)-1)-D)).toNat) 0))) (I (Ag (nth .vD (nth [] v10 (V (V ((v10.length:Int)-1)-D)).toNat) 1))) (I (Ag (nth .vD (nth [] v10 (V (V ((v10.length:Int)-1)-D)).toNat) 2))) (I (mn (V (Ag (nth .vD (nth [] G (V (V ((v10.length:Int)-1)-D)).toNat) 0)+Ag (nth .vD (nth [] v10 (V (V ((v10.length:Int)-1)-D)).toNat) 3))) M)) (I (V (mn (V (Ag (nth .vD (nth [] G (V (V ((v10.length:Int)-1)-D)).toNat) 0)+Ag (nth .vD (nth [] v10 (V (V ((v10.length:Int)-1)-D)).toNat) 3))) M-mx (Ag (nth .vD (nth [] G (V (V ((v10.length:Int)-1)-D)).toNat) 0)) L))) (I (mx (Ag (nth .vD (nth [] G (V (V ((v10.length:Int)-1)-D)).toNat) 0)) L))) (Z1 G v1 L M v4 v5 D v7 v8 v9 v10 v11 v12 N O T U X Y a0 v20 v21 v22 a1 v24 v25 a2 v27 v28 a3 v30 v31 a4 v33 a5 v35 v36 v37 v38 a6 v40 a7 v42 a8 v44 a9 v46 b0 v48 v49 b1 B5 (decide (0<=D)&&decide (D<(G.length:Int))) (decide (0<=D)&&decide (D<(v10.length:Int))) (decide (mx (gA (nth [] G D.toNat) 0) L>=mn (V (gA (nth [] G D.toNat) 0+gA (nth [] v10 D.toNat) 3)) M)) (decide (D>0)) (decide (0<=V (D-1))&&decide (V (D-1)<(v10.length:Int))) (jA (nth [] v10 (V (D-1)).toNat) 0) (jA (nth [] v10 (V (D-1)).toNat) 1) (jA (nth [] v10 (V (D-1)).toNat) 2) (jA (nth [] v10 D.toNat) 0) (jA (nth [] v10 D.toNat) 1) (jA (nth [] v10 D.toNat) 2) (I (mn (V (gA (nth [] G D.toNat) 0+gA (nth [] v10 D.toNat) 3)) M)) (I (V (mn (V (gA (nth [] G D.toNat) 0+gA (nth [] v10 D.toNat) 3)) M-mx (gA (nth [] G D.toNat) 0) L))) (I (mx (gA (nth [] G D.toNat) 0) L)))) (some (1,[.vC Au v1,I v12,I N,I O,I T,I U,I X,I Y,I a0,I v20,I v21,I v22,I a1,I v24, .vC Aa v25,I a2,I v27,I v28,I a3,I v30,I v31,I a4,I v33,I a5, .vC Aa v35,I v36,I v37,I v38,I a6,I v40,I a7,I v42,I a8,I v44, .vC Aa a9,I v46,I b0,I v48,I v49,I b1])):=by kernel_rfl
theorem Zpu (B5:Fn) (N4 L:Lp) (x0:Rw) (x1 x2 x3:Int) (x4 x5:Rw) (x6 x7 x8 x9 M N O T U V X Y a0 a1 a2 a3:Int) (a4:Rw) (a5 a6 a7 a8 a9 b0 b1 b2 b3:Int) (b4:Rw) (b5 b6 b7 b8 b9 c0 c1 c2 c3:Int) (c4:Rw) (c5 c6 c7 c8 c9:Int):Qck B5 N4 L [.vC Au x0,I x1,I x2,I x3, .vC Ah x4, .vC kPt x5,I x6,I x7,I x8,I x9,I M,I N,I O,I T,I U,I V,I X,I Y,I a0,I a1,I a2,I a3, .vC Aa a4,I a5,I a6,I a7,I a8,I a9,I b0,I b1,I b2,I b3, .vC Aa b4,I b5,I b6,I b7,I b8,I b9,I c0,I c1,I c2,I c3, .vC Aa c4,I c5,I c6,I c7,I c8,I c9]=
 (N4 [.vC Aa [], .vC Au x0,I x6,I x7,I x8,I 0, .vC Ah x4,I (x4.length:Int),I 0,I x1,I x2,I x3, .vC Ah x4, .vC kPt x5,I x9,I M,I N,I O,I T,I U,I V,I X,I Y,I a0,I a1,I a2,I a3, .vC Aa a4,I a5,I a6,I a7,I a8,I a9,I b0,I b1,I b2,I b3, .vC Aa b4,I b5,I b6,I b7,I b8,I b9,I c0,I c1,I c2,I c3, .vC Aa c4,I c5,I c6,I c7,I c8,I c9]).bind λD=>
 cond (D.1.beq 1) ((L [.vC Aa (wA D.2 0), .vC Au (wA D.2 1),jA D.2 2,jA D.2 3,jA D.2 4,I (↑(wA D.2 8).length:Int),I 0,jA D.2 5,jA D.2 6,jA D.2 7, .vC Ah (wA D.2 8), .vC kPt (wA D.2 9),jA D.2 10,jA D.2 11,jA D.2 12,jA D.2 13,jA D.2 14,jA D.2 15,jA D.2 16,jA D.2 17,jA D.2 18,jA D.2 19,jA D.2 20,jA D.2 21,jA D.2 22, .vC Aa (wA D.2 23),jA D.2 24,jA D.2 25,jA D.2 26,jA D.2 27,jA D.2 28,jA D.2 29,jA D.2 30,jA D.2 31,jA D.2 32, .vC Aa (wA D.2 33),jA D.2 34,jA D.2 35,jA D.2 36,jA D.2 37,jA D.2 38,jA D.2 39,jA D.2 40,jA D.2 41,jA D.2 42, .vC Aa (wA D.2 43),jA D.2 44,jA D.2 45,jA D.2 46,jA D.2 47,jA D.2 48]).bind λG=>
 cond (G.1.beq 1) (some [.vC Au (wA G.2 0),jA G.2 1,jA G.2 2,jA G.2 3,jA G.2 4,jA G.2 5,jA G.2 6,jA G.2 7,jA G.2 8,jA G.2 9,jA G.2 10,jA G.2 11,jA G.2 12,jA G.2 13, .vC Aa (wA G.2 14),jA G.2 15,jA G.2 16,jA G.2 17,jA G.2 18,jA G.2 19,jA G.2 20,jA G.2 21,jA G.2 22,jA G.2 23, .vC Aa (wA G.2 24),jA G.2 25,jA G.2 26,jA G.2 27,jA G.2 28,jA G.2 29,jA G.2 30,jA G.2 31,jA G.2 32,jA G.2 33, .vC Aa (wA G.2 34),jA G.2 35,jA G.2 36,jA G.2 37,jA G.2 38,jA G.2 39]) (none)) (none):=by kernel_rfl
def OJ:=Am (Ui FM)
def Qex:=Am (UI FM OJ)
def PJ:=Qck FM OJ Qex
theorem Qlw:Ak PG (V_ FM):=Ap rfl ⟨Q36,trivial⟩
theorem Zqx:An PG (Zzc PJ):=rw2 (C:=Q6h FM OJ Qex) (fl (fl fb Qlw) Qlw) Qlw
def Qlb:=qa 17 Qbz YY
def Qz6:List (Ex×Sk):=[(Ex.exit 0,⟨[td,td,td,tf [ci]]++dd 15,[],[]⟩)]
def RL:Lp:=A1 PG Qag 64 3 (A2 PG 17 3) Qxe Qz6
def Q9x (D:Lp):Cfg:=Qag.loop 3 Qxe Qz6 D
def Qy4 (D:Lp):Fn:=Ao PG (Q9x D) 64 17 Qbz YY
theorem Q0o (L:Int) (G:Rw) (M D:Int):RL [I L, .vC Ah G,I M,I D]=
 cond (decide (D<M)) (cond (decide (0<=D)&&decide (D<(G.length:Int))) (some (0,[I (V (L+gA (nth [] G D.toNat) 3)), .vC Ah G,I M,I (V (D+1))])) (none)) (some (1,[I L])):=by kernel_rfl
theorem Zm4 (G:Lp) (L M N:Int) (D O:Rw):Qy4 G [I L,I M,I N, .vC Ah D, .vC kPt O]=
 (G [I 0, .vC Ah D,I (D.length:Int),I 0]).bind λo1=>
 cond (o1.1.beq 1) (some [jA o1.2 0]) (none):=by kernel_rfl
def RY:=Am (RL)
def Hi:=Qy4 RY
theorem Qh4:An PG (Qlb Hi):=rw2 (C:=Q9x RY) (fl fb Zc8) Zc8
def Qog:Sk:=⟨[TS.v true [ci,ci,ci,sa Ah,sa kPt],TS.v true (cc 9++[sa Aa]++cc 9++[sa Aa]++cc 9++[sa Aa]),TS.v true [ci,ci,ci],tf [ci],tf [ci]],[],[]⟩
def Xl:Sk:=⟨[TS.v true ([sa Au]++cc 5)],[],[]⟩
def Qsg:=qa 16 Qog Xl
def Qgb (D G I L M:Fn):Cfg:=cp [Zzc D,Qxh G,Q13 I,Ql0 L,Qlb M] [52,49,48]
def Qfc (D G I L M:Fn):Fn:=Ao PG (Qgb D G I L M) 64 16 Qog Xl
theorem Zgm (Lt B5 FJ DG D7:Fn) (x0 x1 x2:Int) (x3 x4:Rw) (x5 x6 x7 x8 x9 M N O T:Int) (U:Rw) (V X Y a0 a1 a2 a3 a4 a5:Int) (a6:Rw) (a7 a8 a9 b0 b1 b2 b3 b4 b5:Int) (b6:Rw) (D G L b7 b8:Int):Qfc Lt B5 FJ DG D7 [I x0,I x1,I x2, .vC Ah x3, .vC kPt x4,I x5,I x6,I x7,I x8,I x9,I M,I N,I O,I T, .vC Aa U,I V,I X,I Y,I a0,I a1,I a2,I a3,I a4,I a5, .vC Aa a6,I a7,I a8,I a9,I b0,I b1,I b2,I b3,I b4,I b5, .vC Aa b6,I D,I G,I L,I b7,I b8]=
 (D7 [I x0,I x1,I x2, .vC Ah x3, .vC kPt x4]).bind λo5=>
 (DG [I b7,jA o5 0]).bind λo6=>
 (DG [I b8,jA o5 0]).bind λo7=>
 cond (decide (gA o6 0>gA o7 0)) ((Lt [.vC Au [],I x0,I x1,I x2, .vC Ah x3, .vC kPt x4,I (mn (gA o6 0) (gA o7 0)),I (mx (gA o6 0) (gA o7 0)),I (-1),I D,I G,I L,I (-1),I x5,I x6,I x7,I x8,I x9,I M,I N,I O,I T, .vC Aa U,I V,I X,I Y,I a0,I a1,I a2,I a3,I a4,I a5, .vC Aa a6,I a7,I a8,I a9,I b0,I b1,I b2,I b3,I b4,I b5, .vC Aa b6,I 0,jA o6 0,I D,I G,I L]).bind λo8=>
 some [.vC Au (wA o8 0),jA o8 35,jA o8 36,jA o8 37,jA o8 38,jA o8 39]) ((Lt [.vC Au [],I x0,I x1,I x2, .vC Ah x3, .vC kPt x4,I (mn (gA o6 0) (gA o7 0)),I (mx (gA o6 0) (gA o7 0)),I 1,I D,I G,I L,I 1,I x5,I x6,I x7,I x8,I x9,I M,I N,I O,I T, .vC Aa U,I V,I X,I Y,I a0,I a1,I a2,I a3,I a4,I a5, .vC Aa a6,I a7,I a8,I a9,I b0,I b1,I b2,I b3,I b4,I b5, .vC Aa b6,I 0,jA o6 0,I D,I G,I L]).bind λo9=>
 some [.vC Au (wA o9 0),jA o9 35,jA o9 36,jA o9 37,jA o9 38,jA o9 39]):=by kernel_rfl
def JK:=Qfc PJ FM My He Hi
theorem Zik:Ak PG (Qgb PJ FM My He Hi):=Ap rfl ⟨Zqx,Q36,Qpu,Y8,Qh4,trivial⟩
theorem Qpy:An PG (Qsg JK):=rw1 (C:=Qgb PJ FM My He Hi) Zik
def Zti:=qa 103 Qia Qne
def Qay:Fn:=Ao PG Qag 64 103 Qia Qne
theorem Zzi (D G L M N O:Int):Qay [I D,I G,I L,I M,I N,I O]=
 cond (G==0) (cond (L==0) (cond (M==D) (some [B (N==D)]) (some [B false])) (some [B false])) (some [B false]):=by kernel_rfl
def Ll:=Qay
theorem Zm9:An PG (Zti Ll):=rw1 (C:=Qag) Zc8
def Qu4:Sk:=⟨[TS.v true [ci,ci,ci,sa Ah,sa kPt],TS.v true (cc 9++[sa Aa]++cc 9++[sa Aa]++cc 9++[sa Aa]),TS.v true ([sa Au]++cc 5),TS.v true (cc 6),tf [ci]],[],[]⟩
def Qyf:Sk:=⟨[TS.tup [(true,[sa Au]++cc 5),(true,cc 6),(false,[sb])]],[],[]⟩
def Zl0:=qa 158 Qu4 Qyf
def SJ:Fn:=λ_=>none
theorem Zra:An PG (Zl0 SJ):=Mr
def Xw:Sk:=⟨[TS.tup [(false,[ci]),(false,[sb])]],[(20000,179,cS)],[]⟩
def Zom:=qa 108 Ql3 Xw
def Wj (D G:Fn):Cfg:=cf [Zl0 D,Qbr G]
def XQ (D G:Fn):Fn:=Ao PG (Wj D G) 64 108 Ql3 Xw
abbrev Yd (M:Fn) (K:Kf) (c:Cv) (G L:AC):Option (List AC):=
 (M (pxt K.p K.x K.t [I c.m0,I c.m1,I c.m2,I c.m3,I c.m4,I c.m5,L])).bind λD=>
 cond (!bA D 12) (some (G::B true::Ae K c)) (cond (c.way==1) (some (G::B true::EV (Ae K c) [(44, .vC Au (wA D 0)),(45,jA D 1),(46,jA D 2),(47,jA D 3),(48,jA D 4),(49,jA D 5),(50,jA D 6),(51,jA D 7),(52,jA D 8),(53,jA D 9),(54,jA D 10),(55,jA D 11),(71,I 2),(89,B true)])) (some (G::B true::EV (Ae K c) [(44, .vC Au (wA D 0)),(45,jA D 1),(46,jA D 2),(47,jA D 3),(48,jA D 4),(49,jA D 5),(50,jA D 6),(51,jA D 7),(52,jA D 8),(53,jA D 9),(54,jA D 10),(55,jA D 11),(58,B true),(71,I 0),(89,B true)])))
abbrev Qec (c:Cv) (L:Fn) (K:Kf) (M:Fn) (D:AC):Option (List AC):=
 cond (!c.aM) ((L (pxt K.p K.x K.t [I K.pa,I K.pb,I K.pc,I c.o0,I c.o1,B c.o2,B c.o3,B c.o4,I c.m0,I c.m1,I c.m2,I c.m3,I c.m4,I c.m5,I K.t.length])).bind λo8=>
 some (D::B true::Ae K {c with m0:=gA o8 0,m1:=gA o8 1,m2:=gA o8 2,m3:=gA o8 3,m4:=gA o8 4,m5:=gA o8 5})) (cond (c.m0 !=V (K.t.length*256)) ((L (pxt K.p K.x K.t [I K.pa,I K.pb,I K.pc,I c.o0,I c.o1,B c.o2,B c.o3,B c.o4,I c.m0,I c.m1,I c.m2,I c.m3,I c.m4,I c.m5,I K.t.length])).bind λG=>
 some (D::B true::Ae K {c with m0:=gA G 0,m1:=gA G 1,m2:=gA G 2,m3:=gA G 3,m4:=gA G 4,m5:=gA G 5})) (cond (c.way==2) (Yd M K c D (I K.len)) (Yd M K c D (I c.home))))
theorem Zns (D G:Fn) (K:Kf) (c:Cv):XQ D G (Ae K c)=
 cond (c.way==0) (some (I 0::B false::Ae K c)) (cond (c.way==2) (Qec c G K D (I 5)) (Qec c G K D (I 4))):=by kernel_rfl
def K3:=XQ SJ Fa
theorem Zdv:Ak PG (Wj SJ Fa):=Ap rfl ⟨Zra,Zax,trivial⟩
theorem Z0n:An PG (Zom K3):=rw1 (C:=Wj SJ Fa) Zdv
def Zvc:=qa 107 Ql3 Xw
def Qgo (D:Fn):Cfg:=cp [Qrh D] [156]
def Ql5 (D:Fn):Fn:=Ao PG (Qgo D) 64 107 Ql3 Xw
theorem Zqp (D:Fn) (K:Kf) (c:Cv):Ql5 D (Ae K c)=
 cond (!c.on) (some (I 0::B false::Ae K c)) ((D (Ae K c)).bind λo1=>
 some (jA o1 0::B true::cR 1 o1)):=by kernel_rfl
def LI:=Ql5 LH
theorem Z2f:Ak PG (Qgo LH):=Ap rfl ⟨Q9v,trivial⟩
theorem Z1z:An PG (Zvc LI):=rw1 (C:=Qgo LH) Z2f
def Zvr:=qa 106 Ql3 Xw
def Qhi:Fn:=Ao PG Qag 64 106 Ql3 Xw
theorem Zj9 (K:Kf) (c:Cv):Qhi (Ae K c)=
 cond (!c.aH) (some (I 0::B false::Ae K c)) (cond (!c.aM) (some (I 0::B false::Ae K c)) (some (I 8::B true::Ae K {c with aI:=8}))):=by kernel_rfl
def LE:=Qhi
theorem Zek:An PG (Zvr LE):=rw1 (C:=Qag) Zc8
def Zon:=qa 105 Ql3 Xw
def Vx:Fn:=Ao PG Qag 64 105 Ql3 Xw
theorem Zdd (K:Kf) (c:Cv):Vx (Ae K c)=
 some (I c.aI::B (c.aI !=0)::Ae K c):=by kernel_rfl
def J5:=Vx
theorem Zq2:An PG (Zon J5):=rw1 (C:=Qag) Zc8
def Zov:=qa 104 Ql3 Xw
def Qih (D G:Fn):Cfg:=cr [Q35 D,P6 G] [102] [102]
def Qh6 (D G:Fn):Fn:=Ao PG (Qih D G) 64 104 Ql3 Xw
theorem Zp4 (D G:Fn) (K:Kf) (c:Cv):Qh6 D G (Ae K c)=
 cond (c.g0 !=2) (some (I 0::B false::Ae K c)) ((G (Ae K c)).bind λo2=>
 (D [jA o2 0]).bind λo3=>
 some (I 6::B true::Ae K {c with m0:=gA o3 0,m1:=gA o3 1,m2:=gA o3 2,m3:=gA o3 3,m4:=gA o3 4,m5:=gA o3 5})):=by kernel_rfl
def Ln:=Qh6 Jq DQ
theorem Zvx:Ak PG (Qih Jq DQ):=Lu (rs:=[102]) rfl ⟨Qqe,Ss,trivial⟩ rfl (DB rfl (Jo LU))
theorem Zmp:An PG (Zov Ln):=rw1 (C:=Qih Jq DQ) Zvx
def Qm7:Sk:=⟨[TS.v true [ci,ci,ci,ci],tf [ci]],[],[]⟩
def Z81:=qa 101 Qm7 WZ
def XC:Fn:=Ao PG Qag 64 101 Qm7 WZ
theorem Zrh (L G D N M:Int):XC [I L,I G,I D,I N,I M]=
 cond (decide (G<D)) (some [I L,I (mn (V (G+M)) D),I D,I (V (N+V (L*mn (V (G+M)) D)))]) (some [I L,I (mx (V (G-M)) D),I D,I (V (N+V (L*mx (V (G-M)) D)))]):=by kernel_rfl
def K_:=XC
theorem Zdo:An PG (Z81 K_):=rw1 (C:=Qag) Zc8
def Zuz (M:Fn):Nat×Spec:=(100,E3 Ql3 Qne M)
def PB (D:Fn):Cfg:=cr [Qfb D] [155] [155]
def U9 (D:Fn):Fn:=Ly PG (PB D) 64 100 Ql3 Qne
theorem Zb0 (D:Fn) (K:Kf) (c:Cv):U9 D (Ae K c)=
 (D (Ae K c)).bind λo1=>
 cond (bA o1 7) (cond (decide (0<=gA o1 4)&&decide (gA o1 4<((K.aA.map Af).length:Int))) (cond (gA (nth [] (K.aA.map Af) (gA o1 4).toNat) 0==6) (some [B (c.y0==gA o1 4)]) (some [B false])) (none)) (some [B false]):=by kernel_rfl
def Ml:=U9 G3
theorem Zpc:Ak PG (PB G3):=Lu (rs:=[155]) rfl ⟨Q3b,trivial⟩ rfl (Jo LU)
theorem Zkx (vars : List AC) (R : Type) (K : TV -> Mem -> Option R) : EL PG (PB G3) 64 100 [TV.v false [AC.ptr 20000 0]] ⟨[(20000, (⟨179, (cR 0 vars)⟩ : Box))], []⟩ K = EL PG (PB G3) 64 100 [TV.v false [AC.ptr 20000 0]] ⟨[(20000, (⟨179, (cR 0 vars)⟩ : Box))], []⟩ (λv _ => K v ⟨[(20000, (⟨179, (cR 0 vars)⟩ : Box))], []⟩) := dp (b := ((G3 (cR 0 vars)).bind λo1 =>
 cond (bA o1 7) (cond (decide (0<=gA o1 4)&&decide (gA o1 4<(↑(wA vars 35).length:Int))) (cond (Ag (nth .vD (nth [] (wA vars 35) (gA o1 4).toNat) 0)==6) (K (TV.v false [B ((gA vars 79)==gA o1 4)]) ⟨[(20000,(⟨179,(cR 0 vars)⟩:Box))],[]⟩) (K (TV.v false [B false]) ⟨[(20000,(⟨179,(cR 0 vars)⟩:Box))],[]⟩)) (none)) (K (TV.v false [B false]) ⟨[(20000,(⟨179,(cR 0 vars)⟩:Box))],[]⟩))) (by kernel_rfl) (Eq.symm (by kernel_rfl))
theorem Zfl:An PG (100,E3 Ql3 Qne Ml):=So (C:=PB G3) (L:=64) (by kernel_rfl) (FnOK.bare rfl rfl rfl) Zpc eqOk Hq (by kernel_rfl) (by kernel_rfl) (λvars R K=>Zkx vars R K)
def Q5h:Sk:=⟨[td,tf [ci],td,td,td,tf [ci],tf [ci]]++dd 6++[tf [sa Ah],tf [ci],tf [ci]]++dd 18,[(20000,179,cS)],[]⟩
def Qpg:List (Ex×Sk):=[(Ex.exit 0,⟨dd 6++[tf [ci]]++dd 27,[(20000,179,cS)],[]⟩)]
def Z10:Lp:=A1 PG Qag 64 3 (A2 PG 197 3) Q5h Qpg
def Zzt (D:Lp):Cfg:=Qag.loop 3 Q5h Qpg D
def Zkc (D:Lp):Fn:=Ly PG (Zzt D) 64 197 Qb5 YY
def Zql:=Am (Z10)
def Zva:=Zkc Zql
def Zhu:=qa 196 Qb5 Qjt
def Zsj:Fn:=λ_=>none
def Z9n (D G I:Fn):Cfg:=cr [Zhu D,Qlr G,Qfb I] [196,163,155] [163,155]
def Z05 (D G I:Fn):Fn:=Ao PG (Z9n D G I) 64 153 Ql3 Qjq
def Z1n:=Z05 Zsj GK G3
def Z93:Sk:=⟨[TS.v true [ci,ci,ci],tf [ci],TS.v true [ci,ci,ci],TS.v true [ci,ci,ci]],[],[]⟩
def Z5w:=qa 195 Z93 ZE
def Zpy:Fn:=λ_=>none
def Zw5 (D G I:Fn):Cfg:=cr [Z5w D,P3 G,P6 I] [102] [102]
def Zzy (D G I:Fn):Fn:=Ao PG (Zw5 D G I) 64 152 Qb5 Qjq
abbrev Z8z (O:Int) (T:Fn) (c:Cv) (K:Kf) (D:List AC) (G:AC):Option (List AC):=
 cond (decide (V (O.tdiv 1048576)=(↑0:Int))) ((T [I c.g0,I c.g1,I c.g2,I K.lag,jA D 0,jA D 1,jA D 2,G,jA D 1,jA D 2]).bind λL=>
 some (Ae K {c with g0:=gA L 0,g1:=gA L 1,g2:=gA L 2})) (cond (decide (V (O.tdiv 1048576)=(↑(0+1):Int))) ((T [I c.g0,I c.g1,I c.g2,I K.lag,jA D 0,jA D 1,jA D 2,jA D 0,G,jA D 2]).bind λM=>
 some (Ae K {c with g0:=gA M 0,g1:=gA M 1,g2:=gA M 2})) (cond (decide (V (O.tdiv 1048576)=(↑(0+1+1):Int))) ((T [I c.g0,I c.g1,I c.g2,I K.lag,jA D 0,jA D 1,jA D 2,jA D 0,jA D 1,G]).bind λN=>
 some (Ae K {c with g0:=gA N 0,g1:=gA N 1,g2:=gA N 2})) (none)))
def Qbu:=Zzy Zpy D9 DQ
def Zf:Sk:=⟨[],[],[]⟩
def Zc4:=qa 96 Zf ZE
def Ws:Fn:=Ao PG Qag 64 96 Zf ZE
theorem Zfi:Ws []=
 some [I 0,I 0,I (-1)]:=by kernel_rfl
def PS:=Ws
theorem Zlk:An PG (Zc4 PS):=rw1 (C:=Qag) Zc8
def Qrc:Sk:=⟨[tf [sd 20000 0],TS.v true [ci,ci,ci]],[(20000,179,cS)],[]⟩
def Zol:=qa 99 Qrc Qjq
def NR:Fn:=λ_=>none
theorem Zg2:An PG (Zol NR):=Mr
attribute [go_sem] TM V6 UU Tl UX VR WP YE O9 OL Qoe RF Zy3 Qdw T9 RE Tm Ri Z1 Yd Qec Z8z
end Go.Bm
