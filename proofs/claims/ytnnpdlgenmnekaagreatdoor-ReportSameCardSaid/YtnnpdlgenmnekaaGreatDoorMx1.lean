/- functions of the program and of the references, as models -/
import Derived.Test.YtnnpdlgenmnekaaGreatDoorSeShelf
import Derived.Test.YtnnpdlgenmnekaaGreatDoorSeExt
import Derived.Test.YtnnpdlgenmnekaaGreatDoorSePre
import Derived.Test.YtnnpdlgenmnekaaGreatDoorSeKc
import Derived.Test.YtnnpdlgenmnekaaGreatDoorSeBld
import Derived.Test.YtnnpdlgenmnekaaGreatDoorSeStr
import Derived.Test.YtnnpdlgenmnekaaGreatDoorSeFmA
import Derived.Test.YtnnpdlgenmnekaaGreatDoorSeFmB
import Derived.Test.YtnnpdlgenmnekaaGreatDoorSeFmC
import Derived.Test.YtnnpdlgenmnekaaGreatDoorSeFmD
import Derived.Test.YtnnpdlgenmnekaaGreatDoorSeFmE
import Derived.Test.YtnnpdlgenmnekaaGreatDoorSeFmF
import Derived.Test.YtnnpdlgenmnekaaGreatDoorBmTy
set_option linter.unusedSimpArgs false
set_option linter.unusedVariables false
set_option maxRecDepth 100000
noncomputable section
open Go.IntKind (wrap)
namespace Go.Bm
open Go.Proofs
def qa (n:Nat) (s o:Sk) (M:Fn):Nat×Spec:=(n,Ac s o M)
def Qc1:Sk:=⟨[tf [sa kPt],tf [sa kPt]],[],[]⟩
def Qhz:Sk:=⟨[tf [sb]],[],[]⟩
def Zle:=qa 27 Qc1 Qhz
def C_cncref30_SamePulses_0:Cfg:=cf []
def Zcg:Sk:=⟨[tf [sa kPt],tf [sa kPt]]++dd 10++[tf [ci],tf [ci]]++dd 12,[],[]⟩
def Q1i:List (Ex×Sk):=[(Ex.ret,⟨[td,td,td,td,tf [sb]]++dd 21,[],[]⟩),(Ex.exit 0,⟨[td]++dd 25,[],[]⟩)]
def SD:Lp:=AL PG C_cncref30_SamePulses_0 64 4 (AN PG 27 4) Zcg Q1i
def Qu6 (D:Lp):Cfg:=C_cncref30_SamePulses_0.loop 4 Zcg Q1i D
def Qh0 (D:Lp):Fn:=An PG (Qu6 D) 64 27 Qc1 Qhz
theorem Q4l (G L:Rw) (M D:Int):SD [.vC kPt G, .vC kPt L,I M,I D]=
 cond (decide (D<M)) (cond (decide (0<=D)&&decide (D<(G.length:Int))) (cond (decide (0<=D)&&decide (D<(L.length:Int))) (cond (!(gA (nth [] G D.toNat) 0==gA (nth [] L D.toNat) 0&&(gA (nth [] G D.toNat) 1==gA (nth [] L D.toNat) 1&&(gA (nth [] G D.toNat) 2==gA (nth [] L D.toNat) 2&&true)))) (some (1,[B false])) (some (0,[.vC kPt G, .vC kPt L,I M,I (V (D+1))]))) (none)) (none)) (some (2,[])):=by kernel_rfl
theorem Z3k (L:Lp) (D G:Rw):Qh0 L [.vC kPt D, .vC kPt G]=
 cond ((D.length:Int) !=(G.length:Int)) (some [B false]) ((L [.vC kPt D, .vC kPt G,I (D.length:Int),I 0]).bind λo1=>
 cond (o1.1.beq 1) (some [B (bA o1.2 0)]) (cond (o1.1.beq 2) (some [B true]) (none))):=by kernel_rfl
def Qvf:=Am (SD)
def PW:=Qh0 Qvf
theorem Q7t:Ai PG (C_cncref30_SamePulses_0):=Ao rfl trivial
theorem Zt7:Al PG (Zle PW):=rw2 (C:=Qu6 Qvf) (fl fb Q7t) Q7t
def ZE:Sk:=⟨[TS.v true (cc 9++[sa Aa]),tf [ci]],[],[]⟩
def Y2:Sk:=⟨[tf [ci]],[],[]⟩
def Q8r:=qa 60 ZE Y2
def Q4f:Fn:=An PG C_cncref30_SamePulses_0 64 60 ZE Y2
theorem Zdl (L M N O S T G U X:Int) (Y:Rw) (D:Int):Q4f [I L,I M,I N,I O,I S,I T,I G,I U,I X, .vC Aa Y,I D]=
 cond (D== -1) (some [I (V (0-G))]) (some [I 0]):=by kernel_rfl
def Jx:=Q4f
theorem Zd1:Ai PG (C_cncref30_SamePulses_0):=Ao rfl trivial
theorem Q1u:Al PG (Q8r Jx):=rw1 (C:=C_cncref30_SamePulses_0) Zd1
def Qbx:Sk:=⟨[TS.v true (cc 9++[sa Aa]),TS.v true (cc 10),tf [ci],tf [ci]],[],[]⟩
def Yaj:=qa 61 Qbx Y2
def WN (D:Fn):Cfg:=cf [Q8r D]
def PZ (D:Fn):Fn:=An PG (WN D) 64 61 Qbx Y2
abbrev TM (D G M:Int) (L:Bool):Option (List AC):=
 cond (L) (some [I (V (0-mn (V (D-G)) M))]) (some [I (V (mn (V (D-G)) M-M))])
abbrev VZ (D:Int) (G:Fn) (L M N O S T U V X:Int) (Y:Rw) (a0 a1 a2:Int):Option (List AC):=
 cond (decide (D=(↑0:Int))) ((G [I L,I M,I N,I O,I S,I T,I U,I V,I X, .vC Aa Y,I a0]).bind λa3=>
 some [jA a3 0]) (cond (decide (D=(↑(0+1):Int))) ((G [I L,I M,I N,I O,I S,I T,I U,I V,I X, .vC Aa Y,I a1]).bind λa4=>
 some [jA a4 0]) (cond (decide (D=(↑(0+1+1):Int))) ((G [I L,I M,I N,I O,I S,I T,I U,I V,I X, .vC Aa Y,I a2]).bind λa5=>
 some [jA a5 0]) (none)))
abbrev UN (D:Int) (T:Fn) (U V X Y x4 x5 S x7 x8:Int) (x9:Rw) (L M N G I:Int) (O:Bool):Option (List AC):=
 cond (O) (VZ D T U V X Y x4 x5 S x7 x8 x9 L M N) (cond (decide (D=(↑0:Int))) (TM G I S (L== -1)) (cond (decide (D=(↑(0+1):Int))) (TM G I S (M== -1)) (cond (decide (D=(↑(0+1+1):Int))) (TM G I S (N== -1)) (none))))
abbrev Tg (D:Int) (U:Fn) (V X Y x3 x4 x5 x6 x7 x8:Int) (x9:Rw) (G I L M N:Int) (O S T:Bool):Option (List AC):=
 cond (decide (D=(↑0:Int))) (UN D U V X Y x3 x4 x5 x6 x7 x8 x9 G I L M N O) (cond (decide (D=(↑(0+1):Int))) (UN D U V X Y x3 x4 x5 x6 x7 x8 x9 G I L M N S) (cond (decide (D=(↑(0+1+1):Int))) (UN D U V X Y x3 x4 x5 x6 x7 x8 x9 G I L M N T) (none)))
theorem Qjo (V:Fn) (X Y x2 x3 x4 x5 x6 x7 x8:Int) (x9:Rw) (N a1 a2 a0 O S T D G L M U:Int):PZ V [I X,I Y,I x2,I x3,I x4,I x5,I x6,I x7,I x8, .vC Aa x9,I N,I a1,I a2,I a0,I O,I S,I T,I D,I G,I L,I M,I U]=
 cond (a0 !=0) (VZ M V X Y x2 x3 x4 x5 x6 x7 x8 x9 D G L) (cond (decide (M=(↑0:Int))) (Tg M V X Y x2 x3 x4 x5 x6 x7 x8 x9 D G L U N (O==D) (O==G) (O==L)) (cond (decide (M=(↑(0+1):Int))) (Tg M V X Y x2 x3 x4 x5 x6 x7 x8 x9 D G L U N (S==D) (S==G) (S==L)) (cond (decide (M=(↑(0+1+1):Int))) (Tg M V X Y x2 x3 x4 x5 x6 x7 x8 x9 D G L U N (T==D) (T==G) (T==L)) (none)))):=by kernel_rfl
def R0:=PZ Jx
theorem Zgp:Ai PG (WN Jx):=Ao rfl ⟨Q1u,trivial⟩
theorem Zv8:Al PG (Yaj R0):=rw1 (C:=WN Jx) Zgp
def Z2v:=qa 111 ZE Y2
def Q6q:Fn:=An PG C_cncref30_SamePulses_0 64 111 ZE Y2
theorem Zf5 (D L M N O S T U X:Int) (Y:Rw) (G:Int):Q6q [I D,I L,I M,I N,I O,I S,I T,I U,I X, .vC Aa Y,I G]=
 cond (decide (D<=0)) (some [I 0]) (cond (decide (V (2*D)<=0)) (some [I 0]) (cond (decide (V (2*D)=0)) (none) (cond (decide (V (2*D)=0)) (none) (cond (decide ((V (V (2*G)+D)).tmod (V (2*D))<0)) (some [I (V (V ((V (V (2*G)+D)).tdiv (V (2*D)))-1))]) (some [I (V ((V (V (2*G)+D)).tdiv (V (2*D))))]))))):=by kernel_rfl
def Kq:=Q6q
theorem Yad:Ai PG (C_cncref30_SamePulses_0):=Ao rfl trivial
theorem Zdd:Al PG (Z2v Kq):=rw1 (C:=C_cncref30_SamePulses_0) Yad
def Yv:Sk:=⟨[tf [si .u64],tf [sb]],[],[]⟩
def XU:Sk:=⟨[TS.tup [(false,[ci]),(false,[sb])]],[],[]⟩
def Wf:=qa 130 Yv XU
def Qgu:Fn:=An PG C_cncref30_SamePulses_0 64 130 Yv XU
theorem Qo7 (D:Int) (G:Bool):Qgu [U D,B G]=
 cond (G) (cond (decide (D<=9223372036854775808)) (some [I (V (wrap .u64 (0-D))),B true]) (cond (!G) (cond (decide (D<9223372036854775808)) (some [I (V D),B true]) (some [I 0,B false])) (some [I 0,B false]))) (cond (!G) (cond (decide (D<9223372036854775808)) (some [I (V D),B true]) (some [I 0,B false])) (some [I 0,B false])):=by kernel_rfl
def EO:=Qgu
theorem Zu0:Ai PG (C_cncref30_SamePulses_0):=Ao rfl trivial
theorem Qjd:Al PG (Wf EO):=rw1 (C:=C_cncref30_SamePulses_0) Zu0
def Qdv:Sk:=⟨[tf [ci],tf [ci],tf [sb],tf [sb]],[],[]⟩
def Q3t:=qa 129 Qdv Qhz
def Qkl:Fn:=An PG C_cncref30_SamePulses_0 64 129 Qdv Qhz
theorem Qz6 (G L:Int) (M D:Bool):Qkl [I G,I L,B M,B D]=
 cond (G==0) (cond (M) (some [B D]) (some [B false])) (cond (G==1) (cond (M) (some [B !D]) (some [B false])) (cond (decide (L>0)) (some [B true]) (cond (L==0) (some [B !D]) (some [B false])))):=by kernel_rfl
def HO:=Qkl
theorem Ya5:Ai PG (C_cncref30_SamePulses_0):=Ao rfl trivial
theorem Zb1:Al PG (Q3t HO):=rw1 (C:=C_cncref30_SamePulses_0) Ya5
def YH:Sk:=⟨[tf [ci],tf [ci]],[],[]⟩
def W2:=qa 128 YH Y2
def Qia:Fn:=An PG C_cncref30_SamePulses_0 64 128 YH Y2
theorem Qt6 (D G:Int):Qia [I D,I G]=
 cond (D==0) (some [I 0]) (cond (G==0) (some [I 0]) (cond (decide (D<0)==decide (G<0)) (some [I 1]) (some [I (-1)]))):=by kernel_rfl
def FK:=Qia
theorem Zee:Ai PG (C_cncref30_SamePulses_0):=Ao rfl trivial
theorem Qct:Al PG (W2 FK):=rw1 (C:=C_cncref30_SamePulses_0) Zee
def V7:Sk:=⟨[tf [si .u64],tf [si .u64],tf [si .u64]],[],[]⟩
def Qm3:Sk:=⟨[TS.tup [(false,[si .u64]),(false,[si .u64])]],[],[]⟩
def Q94:=qa 127 V7 Qm3
def Xp (D:Fn):Cfg:=cf [(172,Ac Q9y Q81 D)]
def Qs4:Sk:=⟨[td,td,tf [si .u64],td,td,td,td,td,tf [si .u64],tf [si .u64],tf [si .u64],tf [si .u64],td,tf [si .u64],tf [si .u64],tf [si .u64],tf [si .u64]]++dd 118,[],[]⟩
def Q53:List (Ex×Sk):=[(Ex.exit 0,⟨[td,td,tf [si .u64],td,td,td,td,td,tf [si .u64],tf [si .u64],tf [si .u64],tf [si .u64],td,tf [si .u64],tf [si .u64],tf [si .u64]]++dd 119,[],[]⟩)]
def LE (D:Fn):Lp:=AL PG (Xp D) 64 17 (AN PG 127 17) Qs4 Q53
def Q33 (G:Fn) (D:Lp):Cfg:=(Xp G).loop 17 Qs4 Q53 D
def Qvz:Sk:=⟨[td,td,tf [si .u64],td,td,td,td,td,tf [si .u64],tf [si .u64],tf [si .u64],td,td,td,tf [si .u64],tf [si .u64],tf [si .u64],tf [si .u64],tf [si .u64]]++dd 116,[],[]⟩
def Q35:List (Ex×Sk):=[(Ex.exit 2,⟨[td,td,tf [si .u64],td,td,td,td,td,tf [si .u64],td,td,td,td,td,tf [si .u64],tf [si .u64],td,tf [si .u64],tf [si .u64]]++dd 116,[],[]⟩)]
def Pm (G:Fn) (D:Lp):Lp:=AL PG (Q33 G D) 64 24 (AN PG 127 24) Qvz Q35
def Qz8 (I:Fn) (D G:Lp):Cfg:=(Q33 I D).loop 24 Qvz Q35 G
def Qcz (I:Fn) (D G:Lp):Fn:=An PG (Qz8 I D G) 64 127 V7 Qm3
theorem Zop (DI:Fn) (M N D I O L S G T:Int):LE DI [U M,U N,U D,U I,U O,U L,U S,U G,U T]=
 cond (decide (G>=4294967296)) (cond (decide (wrap .u64 (T+D)>=4294967296)) (some (1,[U M,U N,U D,U I,U O,U L,U S,U (wrap .u64 (G-1))])) (some (0,[U M,U N,U D,U I,U O,U L,U S,U (wrap .u64 (G-1)),U (wrap .u64 (T+D))]))) (cond (decide (wrap .u64 (G*I)>wrap .u64 (wrap .u64 (4294967296*T)+L))) (cond (decide (wrap .u64 (T+D)>=4294967296)) (some (1,[U M,U N,U D,U I,U O,U L,U S,U (wrap .u64 (G-1))])) (some (0,[U M,U N,U D,U I,U O,U L,U S,U (wrap .u64 (G-1)),U (wrap .u64 (T+D))]))) (some (1,[U M,U N,U D,U I,U O,U L,U S,U G]))):=by kernel_rfl
theorem Zmv (DI:Fn) (N17:Lp) (L M G T I N O S D:Int):Pm DI N17 [U L,U M,U G,U T,U I,U N,U O,U S,U D]=
 cond (decide (D>=4294967296)) (cond (decide (wrap .u64 (O+G)>=4294967296)) (some (1,[U L,U M,U I,U N,U S,U (wrap .u64 (D-1))])) (some (0,[U L,U M,U G,U T,U I,U N,U (wrap .u64 (O+G)),U S,U (wrap .u64 (D-1))]))) (cond (decide (wrap .u64 (D*T)>wrap .u64 (wrap .u64 (4294967296*O)+I))) (cond (decide (wrap .u64 (O+G)>=4294967296)) (some (1,[U L,U M,U I,U N,U S,U (wrap .u64 (D-1))])) (some (0,[U L,U M,U G,U T,U I,U N,U (wrap .u64 (O+G)),U S,U (wrap .u64 (D-1))]))) (some (1,[U L,U M,U I,U N,U S,U D]))):=by kernel_rfl
theorem Qzn (O:Fn) (M N:Lp) (L I G:Int):Qcz O M N [U L,U I,U G]=
 cond (G==0) (none) (cond (decide (G<=L)) (none) (cond (L==0) (cond (decide (G=0)) (none) (cond (decide (G=0)) (none) (some [U (wrap .u64 (I.tdiv G)),U (I.tmod G)]))) ((O [U G]).bind λo6=>
 cond (decide (wrap .u64 (gA o6 0)<0)) (none) (cond (decide (wrap .u64 (gA o6 0)<0)) (none) (cond (decide (wrap .u64 (64-wrap .u64 (gA o6 0))<0)) (none) (cond (decide (wrap .u64 (gA o6 0)<0)) (none) (cond (decide ((wrap .u64 (G*2^min (wrap .u64 (gA o6 0)).toNat IntKind.u64.bits)).fdiv (2^min (Int.toNat 32) IntKind.u64.bits)=0)) (none) ((M [U (wrap .u64 (G*2^min (wrap .u64 (gA o6 0)).toNat IntKind.u64.bits)),U (wrap .u64 (gA o6 0)),U ((wrap .u64 (G*2^min (wrap .u64 (gA o6 0)).toNat IntKind.u64.bits)).fdiv (2^min (Int.toNat 32) IntKind.u64.bits)),U (wrap .u64 (↑(BitVec.ofInt IntKind.u64.bits (wrap .u64 (G*2^min (wrap .u64 (gA o6 0)).toNat IntKind.u64.bits))&&&BitVec.ofInt IntKind.u64.bits 4294967295).toNat:Int)),U (wrap .u64 (↑(BitVec.ofInt IntKind.u64.bits (wrap .u64 (L*2^min (wrap .u64 (gA o6 0)).toNat IntKind.u64.bits))|||BitVec.ofInt IntKind.u64.bits (I.fdiv (2^min (wrap .u64 (64-wrap .u64 (gA o6 0))).toNat IntKind.u64.bits))).toNat:Int)),U ((wrap .u64 (I*2^min (wrap .u64 (gA o6 0)).toNat IntKind.u64.bits)).fdiv (2^min (Int.toNat 32) IntKind.u64.bits)),U (wrap .u64 (↑(BitVec.ofInt IntKind.u64.bits (wrap .u64 (I*2^min (wrap .u64 (gA o6 0)).toNat IntKind.u64.bits))&&&BitVec.ofInt IntKind.u64.bits 4294967295).toNat:Int)),U (wrap .u64 ((wrap .u64 (↑(BitVec.ofInt IntKind.u64.bits (wrap .u64 (L*2^min (wrap .u64 (gA o6 0)).toNat IntKind.u64.bits))|||BitVec.ofInt IntKind.u64.bits (I.fdiv (2^min (wrap .u64 (64-wrap .u64 (gA o6 0))).toNat IntKind.u64.bits))).toNat:Int)).tdiv ((wrap .u64 (G*2^min (wrap .u64 (gA o6 0)).toNat IntKind.u64.bits)).fdiv (2^min (Int.toNat 32) IntKind.u64.bits)))),U (wrap .u64 (wrap .u64 (↑(BitVec.ofInt IntKind.u64.bits (wrap .u64 (L*2^min (wrap .u64 (gA o6 0)).toNat IntKind.u64.bits))|||BitVec.ofInt IntKind.u64.bits (I.fdiv (2^min (wrap .u64 (64-wrap .u64 (gA o6 0))).toNat IntKind.u64.bits))).toNat:Int)-wrap .u64 (wrap .u64 ((wrap .u64 (↑(BitVec.ofInt IntKind.u64.bits (wrap .u64 (L*2^min (wrap .u64 (gA o6 0)).toNat IntKind.u64.bits))|||BitVec.ofInt IntKind.u64.bits (I.fdiv (2^min (wrap .u64 (64-wrap .u64 (gA o6 0))).toNat IntKind.u64.bits))).toNat:Int)).tdiv ((wrap .u64 (G*2^min (wrap .u64 (gA o6 0)).toNat IntKind.u64.bits)).fdiv (2^min (Int.toNat 32) IntKind.u64.bits)))*(wrap .u64 (G*2^min (wrap .u64 (gA o6 0)).toNat IntKind.u64.bits)).fdiv (2^min (Int.toNat 32) IntKind.u64.bits))))]).bind λD=>
 cond (D.1.beq 1) (cond (decide (gA D.2 2=0)) (none) ((N [U (gA D.2 0),U (gA D.2 1),U (gA D.2 2),U (gA D.2 3),U (gA D.2 6),U (gA D.2 7),U (wrap .u64 (wrap .u64 (wrap .u64 (wrap .u64 (gA D.2 4*4294967296)+gA D.2 5)-wrap .u64 (gA D.2 7*gA D.2 0))-wrap .u64 (wrap .u64 ((wrap .u64 (wrap .u64 (wrap .u64 (gA D.2 4*4294967296)+gA D.2 5)-wrap .u64 (gA D.2 7*gA D.2 0))).tdiv (gA D.2 2))*gA D.2 2))),U (wrap .u64 (wrap .u64 (wrap .u64 (gA D.2 4*4294967296)+gA D.2 5)-wrap .u64 (gA D.2 7*gA D.2 0))),U (wrap .u64 ((wrap .u64 (wrap .u64 (wrap .u64 (gA D.2 4*4294967296)+gA D.2 5)-wrap .u64 (gA D.2 7*gA D.2 0))).tdiv (gA D.2 2)))]).bind λo8=>
 cond (o8.1.beq 1) (cond (decide (gA o8.2 1<0)) (none) (some [U (wrap .u64 (wrap .u64 (gA o8.2 3*4294967296)+gA o8.2 5)),U ((wrap .u64 (wrap .u64 (wrap .u64 (gA o8.2 4*4294967296)+gA o8.2 2)-wrap .u64 (gA o8.2 5*gA o8.2 0))).fdiv (2^min (gA o8.2 1).toNat IntKind.u64.bits))])) (none))) (none))))))))):=by kernel_rfl
def Ux:=Am (LE Iw)
def Qfv:=Am (Pm Iw Ux)
def Gz:=Qcz Iw Ux Qfv
theorem Qpn:Ai PG (Xp Iw):=Ao rfl ⟨Zxy,trivial⟩
theorem Qrv:Al PG (Q94 Gz):=rw2 (C:=Qz8 Iw Ux Qfv) (fl (fl fb Qpn) Qpn) Qpn
def Qi5:Sk:=⟨[tf [si .u64],tf [si .u64]],[],[]⟩
def Qbp:Sk:=⟨[TS.v true [si .u64,si .u64]],[],[]⟩
def TJ:=qa 125 Qi5 Qbp
def X8 (D:Fn):Cfg:=cf [(171,Ac Zi U4 D)]
def Q82 (D:Fn):Fn:=An PG (X8 D) 64 125 Qi5 Qbp
theorem Zih (D:Fn) (G I:Int):Q82 D [U G,U I]=
 (D [U G,U I]).bind λo1=>
 some [U (gA o1 0),U (gA o1 1)]:=by kernel_rfl
def Ej:=Q82 H3
theorem Zgr:Ai PG (X8 H3):=Ao rfl ⟨Qu4,trivial⟩
theorem Uz:Al PG (TJ Ej):=rw1 (C:=X8 H3) Zgr
def Qai:Sk:=⟨[tf [si .u64]],[],[]⟩
def Qa8:=qa 126 Y2 Qai
def Qsd:Fn:=An PG C_cncref30_SamePulses_0 64 126 Y2 Qai
theorem Zco (D:Int):Qsd [I D]=
 cond (decide (D<0)) (some [U (wrap .u64 (wrap .u64 (V (0-V (D+1)))+1))]) (some [U (wrap .u64 D)]):=by kernel_rfl
def F_:=Qsd
theorem Zj9:Ai PG (C_cncref30_SamePulses_0):=Ao rfl trivial
theorem VF:Al PG (Qa8 F_):=rw1 (C:=C_cncref30_SamePulses_0) Zj9
def Qo5:=qa 124 Y2 Qhz
def Vr:Fn:=An PG C_cncref30_SamePulses_0 64 124 Y2 Qhz
theorem Q3i (D:Int):Vr [I D]=
 cond (D==0) (some [B true]) (cond (D==1) (some [B true]) (some [B (D==2)])):=by kernel_rfl
def FG:=Vr
theorem Zx2:Ai PG (C_cncref30_SamePulses_0):=Ao rfl trivial
theorem Qmy:Al PG (Qo5 FG):=rw1 (C:=C_cncref30_SamePulses_0) Zx2
def WY:Sk:=⟨[tf [ci],tf [ci],tf [ci],tf [ci]],[],[]⟩
def L2:=qa 82 WY XU
def Qo4 (D G I L M N O:Fn):Cfg:=cf [Wf D,Q3t G,W2 I,Q94 L,TJ M,Qa8 N,Qo5 O]
def SM (D G I L M N O:Fn):Fn:=An PG (Qo4 D G I L M N O) 64 82 WY XU
abbrev UR (T:Fn) (V:Int) (G:List AC) (S:Fn) (L D:AC):Option (List AC):=
 (T [I V,L,B (decide (gA G 1>0)),D]).bind λO=>
 cond (bA O 0) (cond (wrap .u64 (gA G 0+1)==0) (some [I 0,B false]) ((S [U (wrap .u64 (gA G 0+1)),D]).bind λM=>
 some [jA M 0,B (bA M 1)])) ((S [U (gA G 0),D]).bind λN=>
 some [jA N 0,B (bA N 1)])
abbrev VL (D L:List AC) (M:Fn) (N:Int) (O:Fn) (G:AC):Option (List AC):=
 cond (decide (gA D 1>wrap .u64 (gA L 0-gA D 1))) (UR M N D O (I 1) G) (cond (decide (gA D 1<wrap .u64 (gA L 0-gA D 1))) (UR M N D O (I (-1)) G) (UR M N D O (I 0) G))
theorem Q8u (V X Y Fx BD M Dz:Fn) (N O S T:Int):SM V X Y Fx BD M Dz [I N,I O,I S,I T]=
 cond (S==0) (some [I 0,B false]) ((Dz [I T]).bind λa0=>
 cond (!bA a0 0) (some [I 0,B false]) ((M [I N]).bind λa1=>
 (M [I O]).bind λa2=>
 (BD [U (gA a1 0),U (gA a2 0)]).bind λG=>
 (M [I S]).bind λD=>
 cond (decide (gA G 0>=gA D 0)) (some [I 0,B false]) ((Fx [U (gA G 0),U (gA G 1),U (gA D 0)]).bind λL=>
 (Y [I N,I O]).bind λa3=>
 cond (!decide (gA a3 0<0)==decide (S<0)) ((Y [I N,I O]).bind λa4=>
 VL L D X T V (B (gA a4 0 !=0))) (VL L D X T V (B false))))):=by kernel_rfl
def Bw:=SM EO HO FK Gz Ej F_ FG
theorem Z04:Ai PG (Qo4 EO HO FK Gz Ej F_ FG):=Ao rfl ⟨Qjd,Zb1,Qct,Qrv,Uz,VF,Qmy,trivial⟩
theorem K4:Al PG (L2 Bw):=rw1 (C:=Qo4 EO HO FK Gz Ej F_ FG) Z04
def Zv4:=qa 112 ZE Y2
def U_ (D:Fn):Cfg:=cf [L2 D]
def Qzl (D:Fn):Fn:=An PG (U_ D) 64 112 ZE Y2
theorem Zza (N:Fn) (O S T U X Y x6 M L:Int) (G:Rw) (D:Int):Qzl N [I O,I S,I T,I U,I X,I Y,I x6,I M,I L, .vC Aa G,I D]=
 cond (decide (V ((G.length:Int)-1)<0)) (some [I 0]) (cond (decide (V (D-M)<=0)) (cond (decide (0<=0)&&decide (0<(G.length:Int))) (some [jA (nth [] G 0) 0]) (none)) (cond (decide (L<=0)) (cond (decide (0<=0)&&decide (0<(G.length:Int))) (some [jA (nth [] G 0) 0]) (none)) (cond (decide (L=0)) (none) (cond (decide (V ((V (D-M)).tdiv L)>=V ((G.length:Int)-1))) (cond (decide (0<=V ((G.length:Int)-1))&&decide (V ((G.length:Int)-1)<(G.length:Int))) (some [jA (nth [] G (V ((G.length:Int)-1)).toNat) 0]) (none)) (cond (decide (0<=V (V ((V (D-M)).tdiv L)+1))&&decide (V (V ((V (D-M)).tdiv L)+1)<(G.length:Int))) (cond (decide (0<=V ((V (D-M)).tdiv L))&&decide (V ((V (D-M)).tdiv L)<(G.length:Int))) ((N [I (V (Af (nth .vD (nth [] G (V (V ((V (D-M)).tdiv L)+1)).toNat) 0)-Af (nth .vD (nth [] G (V ((V (D-M)).tdiv L)).toNat) 0))),I (V (V (D-M)-V (V ((V (D-M)).tdiv L)*L))),I L,I 2]).bind λo1=>
 cond (decide (0<=V ((V (D-M)).tdiv L))&&decide (V ((V (D-M)).tdiv L)<(G.length:Int))) (some [I (V (Af (nth .vD (nth [] G (V ((V (D-M)).tdiv L)).toNat) 0)+gA o1 0))]) (none)) (none)) (none)))))):=by kernel_rfl
def JS:=Qzl Bw
theorem Zm9:Ai PG (U_ Bw):=Ao rfl ⟨K4,trivial⟩
theorem Z1a:Al PG (Zv4 JS):=rw1 (C:=U_ Bw) Zm9
def Z9s:=qa 59 ZE Y2
def Wc (D G:Fn):Cfg:=cf [Z2v D,Zv4 G]
def Qyz (D G:Fn):Fn:=An PG (Wc D G) 64 59 ZE Y2
theorem Zzu (OX NH:Fn) (G L M N O S T U X:Int) (Y:Rw) (D:Int):Qyz OX NH [I G,I L,I M,I N,I O,I S,I T,I U,I X, .vC Aa Y,I D]=
 (NH [I G,I L,I M,I N,I O,I S,I T,I U,I X, .vC Aa Y,I D]).bind λo2=>
 (OX [I G,I L,I M,I N,I O,I S,I T,I U,I X, .vC Aa Y,I (V (D+gA o2 0))]).bind λo3=>
 some [jA o3 0]:=by kernel_rfl
def Mj:=Qyz Kq JS
theorem Zos:Ai PG (Wc Kq JS):=Ao rfl ⟨Zdd,Z1a,trivial⟩
theorem Zu5:Al PG (Z9s Mj):=rw1 (C:=Wc Kq JS) Zos
def Xy:Sk:=⟨[TS.v true ([sa As]++cc 5),tf [ci]],[],[]⟩
def Zah:=qa 58 Xy Y2
def Zbt:Sk:=⟨[td,tf [ci],tf [sd 2 0],td,td,tf [ci],tf [ci]]++dd 29,[(2,52,[sa As]++cc 5)],[]⟩
def Q7c:List (Ex×Sk):=[(Ex.exit 0,⟨dd 6++[tf [ci]]++dd 29,[],[]⟩)]
def Sv:Lp:=AL PG C_cncref30_SamePulses_0 64 2 (AN PG 58 2) Zbt Q7c
def Q2i (D:Lp):Cfg:=C_cncref30_SamePulses_0.loop 2 Zbt Q7c D
def Qzc (D:Lp):Fn:=An PG (Q2i D) 64 58 Xy Y2
theorem Qdb (M G D:Int) (L:Rw) (N O S T U:Int):Sv [I M,I G,I D, .vC As L,I N,I O,I S,I T,I U]=
 cond (decide (G<D)) (cond (decide (0<=V ((V (G+D)).tdiv 2))&&decide (V ((V (G+D)).tdiv 2)<(L.length:Int))) (cond (decide (M<=V (Af (nth .vD (nth [] L (V ((V (G+D)).tdiv 2)).toNat) 0)+Af (nth .vD (nth [] L (V ((V (G+D)).tdiv 2)).toNat) 1)))) (some (0,[I M,I G,I (V ((V (G+D)).tdiv 2)), .vC As L,I N,I O,I S,I T,I U])) (some (0,[I M,I (V (V ((V (G+D)).tdiv 2)+1)),I D, .vC As L,I N,I O,I S,I T,I U]))) (none)) (some (1,[I D])):=by kernel_rfl
theorem Z9p (G:Lp) (D:Rw) (L M N O S T:Int):Qzc G [.vC As D,I L,I M,I N,I O,I S,I T]=
 (G [I T,I 0,I (V ((D.length:Int)-1)), .vC As D,I L,I M,I N,I O,I S]).bind λo1=>
 cond (o1.1.beq 1) (some [jA o1.2 0]) (none):=by kernel_rfl
def L7:=Am (Sv)
def IT:=Qzc L7
theorem Q4i:Ai PG (C_cncref30_SamePulses_0):=Ao rfl trivial
theorem Q5g:Al PG (Zah IT):=rw2 (C:=Q2i L7) (fl fb Q4i) Q4i
def Qhh:Sk:=⟨[TS.v true [ci,ci,ci,sa Aj,sa kPt],tf [ci]],[],[]⟩
def Wv:Sk:=⟨[TS.tup [(false,[ci]),(false,[ci])]],[],[]⟩
def Qg9:=qa 81 Qhh Wv
def Qx5:Sk:=⟨[td,tf [ci],tf [sd 2 0]]++dd 8++[tf [sa Aj],tf [ci],tf [ci]]++dd 24,[(2,46,[ci,ci,ci,sa Aj,sa kPt])],[]⟩
def Zbp:List (Ex×Sk):=[(Ex.ret,⟨[td,td,td,td,tf [ci],tf [ci]]++dd 32,[],[]⟩),(Ex.exit 0,⟨[td]++dd 37,[],[]⟩)]
def Sf:Lp:=AL PG C_cncref30_SamePulses_0 64 3 (AN PG 81 3) Qx5 Zbp
def Q7m (D:Lp):Cfg:=C_cncref30_SamePulses_0.loop 3 Qx5 Zbp D
def Qzd (D:Lp):Fn:=An PG (Q7m D) 64 81 Qhh Wv
theorem Q7r (L:Int) (G:Rw) (M D O S T:Int) (N U:Rw):Sf [I L, .vC Aj G,I M,I D,I O,I S,I T, .vC Aj N, .vC kPt U]=
 cond (decide (D<M)) (cond (decide (0<=D)&&decide (D<(G.length:Int))) (cond (decide (L<gA (nth [] G D.toNat) 3)) (some (1,[I D,I L])) (cond (D==V ((N.length:Int)-1)) (some (1,[I D,jA (nth [] G D.toNat) 3])) (some (0,[I (V (L-gA (nth [] G D.toNat) 3)), .vC Aj G,I M,I (V (D+1)),I O,I S,I T, .vC Aj N, .vC kPt U])))) (none)) (some (2,[])):=by kernel_rfl
theorem Qvp (G:Lp) (L M N:Int) (D O:Rw) (S:Int):Qzd G [I L,I M,I N, .vC Aj D, .vC kPt O,I S]=
 (G [I (mx S 0), .vC Aj D,I (D.length:Int),I 0,I L,I M,I N, .vC Aj D, .vC kPt O]).bind λo1=>
 cond (o1.1.beq 1) (some [jA o1.2 0,jA o1.2 1]) (cond (o1.1.beq 2) (some [I (-1),I 0]) (none)):=by kernel_rfl
def M9:=Am (Sf)
def Ey:=Qzd M9
theorem Q12:Ai PG (C_cncref30_SamePulses_0):=Ao rfl trivial
theorem YY:Al PG (Qg9 Ey):=rw2 (C:=Q7m M9) (fl fb Q12) Q12
def ZP:Sk:=⟨[TS.v true [ci,ci,ci]],[],[]⟩
def Yax:=qa 36 Qhh ZP
def Xl (D G:Fn):Cfg:={cf [L2 D,Qg9 G]with unroll:=[9]}
def Qbl (D G:Fn):Fn:=An PG (Xl D G) 64 36 Qhh ZP
theorem Zpe (AK Do:Fn) (L M N:Int) (G X:Rw) (Y:Int):Qbl AK Do [I L,I M,I N, .vC Aj G, .vC kPt X,I Y]=
 (Do [I L,I M,I N, .vC Aj G, .vC kPt X,I Y]).bind λD=>
 cond (decide (gA D 0<0)) (some [I L,I M,I N]) (cond (decide (gA D 0>0)) (cond (decide (0<=V (gA D 0-1))&&decide (V (gA D 0-1)<(G.length:Int))) (cond (decide (0<=gA D 0)&&decide (gA D 0<(G.length:Int))) ((AK [I (V (gA (nth [] G (gA D 0).toNat) 0-gA (nth [] G (V (gA D 0-1)).toNat) 0)),jA D 1,jA (nth [] G (gA D 0).toNat) 3,I 2]).bind λo8=>
 (AK [I (V (gA (nth [] G (gA D 0).toNat) 1-gA (nth [] G (V (gA D 0-1)).toNat) 1)),jA D 1,jA (nth [] G (gA D 0).toNat) 3,I 2]).bind λo9=>
 (AK [I (V (gA (nth [] G (gA D 0).toNat) 2-gA (nth [] G (V (gA D 0-1)).toNat) 2)),jA D 1,jA (nth [] G (gA D 0).toNat) 3,I 2]).bind λO=>
 some [I (V (gA (nth [] G (V (gA D 0-1)).toNat) 0+gA o8 0)),I (V (gA (nth [] G (V (gA D 0-1)).toNat) 1+gA o9 0)),I (V (gA (nth [] G (V (gA D 0-1)).toNat) 2+gA O 0))]) (none)) (none)) (cond (decide (0<=gA D 0)&&decide (gA D 0<(G.length:Int))) ((AK [I (V (gA (nth [] G (gA D 0).toNat) 0-L)),jA D 1,jA (nth [] G (gA D 0).toNat) 3,I 2]).bind λS=>
 (AK [I (V (gA (nth [] G (gA D 0).toNat) 1-M)),jA D 1,jA (nth [] G (gA D 0).toNat) 3,I 2]).bind λT=>
 (AK [I (V (gA (nth [] G (gA D 0).toNat) 2-N)),jA D 1,jA (nth [] G (gA D 0).toNat) 3,I 2]).bind λU=>
 some [I (V (L+gA S 0)),I (V (M+gA T 0)),I (V (N+gA U 0))]) (none))):=by kernel_rfl
def Q_:=Qbl Bw Ey
theorem Zlf:Ai PG (Xl Bw Ey):=Ao rfl ⟨K4,YY,trivial⟩
theorem Zg4:Al PG (Yax Q_):=rw1 (C:=Xl Bw Ey) Zlf
def Qnl:=qa 47 YH Y2
def Za4:Fn:=An PG C_cncref30_SamePulses_0 64 47 YH Y2
theorem Zq3 (D G:Int):Za4 [I D,I G]=
 some [I (mx 0 (mn D G))]:=by kernel_rfl
def G9:=Za4
theorem Zyl:Ai PG (C_cncref30_SamePulses_0):=Ao rfl trivial
theorem Ze:Al PG (Qnl G9):=rw1 (C:=C_cncref30_SamePulses_0) Zyl
def Tu:=qa 57 Xy Y2
def Qq7 (D G:Fn):Cfg:=cf [Zah D,Qnl G]
def Ql2 (D G:Fn):Fn:=An PG (Qq7 D G) 64 57 Xy Y2
theorem Zsl (M N:Fn) (D:Rw) (G L O S T U:Int):Ql2 M N [.vC As D,I G,I L,I O,I S,I T,I U]=
 (N [I U,I G]).bind λo2=>
 (M [.vC As D,I G,I L,I O,I S,I T,jA o2 0]).bind λo3=>
 cond (decide (gA o3 0<0)) (some [I L]) (cond (decide (0<=gA o3 0)&&decide (gA o3 0<(D.length:Int))) (cond (decide (0<=gA o3 0)&&decide (gA o3 0<(D.length:Int))) (cond (decide (0<=gA o3 0)&&decide (gA o3 0<(D.length:Int))) (some [I (V (gA (nth [] D (gA o3 0).toNat) 2+V (gA (nth [] D (gA o3 0).toNat) 3*V (gA o2 0-gA (nth [] D (gA o3 0).toNat) 0))))]) (none)) (none)) (none)):=by kernel_rfl
def ED:=Ql2 IT G9
theorem Z3a:Ai PG (Qq7 IT G9):=Ao rfl ⟨Q5g,Ze,trivial⟩
theorem T_:Al PG (Tu ED):=rw1 (C:=Qq7 IT G9) Z3a
def WI:Sk:=⟨[TS.v true [ci,ci,ci,sa Aj,sa kPt],TS.v true (cc 9++[sa Aa]++cc 9++[sa Aa]++cc 9++[sa Aa]),TS.v true ([sa As]++cc 5),tf [ci]],[],[]⟩
def Sl:=qa 21 WI ZP
def Qgr (D G I L M N O:Fn):Cfg:={cf [Yaj D,Q8r G,Z9s I,Zah L,Yax M,Tu N,Qnl O]with unroll:=[6]}
def Qcc (D G I L M N O:Fn):Fn:=An PG (Qgr D G I L M N O) 64 21 WI ZP
abbrev WJ (U:Fn) (x:Ax3) (N D:List AC) (X:Fn) (t:Trk) (G:AC) (Y:Fn) (O:List AC) (L:AC):Option (List AC):=
 (U [I x.c.step,I x.c.aS,I x.c.bD,I x.c.bE,I x.c.low,I x.c.aY,I x.c.bB,I x.c.aV,I x.c.aO, .vC Aa (x.c.aW.map Aq),jA N 2]).bind λM=>
 cond (decide (gA D 0<0)) ((X [I x.c.step,I x.c.aS,I x.c.bD,I x.c.bE,I x.c.low,I x.c.aY,I x.c.bB,I x.c.aV,I x.c.aO, .vC Aa (x.c.aW.map Aq),I t.aT.z]).bind λS=>
 some [G,L,I (V (gA M 0+gA S 0))]) (cond (decide (0<=gA D 0)&&decide (gA D 0<((t.aE.map AS).length:Int))) ((Y (I x.c.step::I x.c.aS::I x.c.bD::I x.c.bE::I x.c.low::I x.c.aY::I x.c.bB::I x.c.aV::I x.c.aO:: .vC Aa (x.c.aW.map Aq)::(AM As (nth [] (t.aE.map AS) (gA D 0).toNat)++[I (V (V (0+1)+1)),jA O 0]))).bind λT=>
 some [G,L,I (V (gA M 0+gA T 0))]) (none))
abbrev YI (O:Fn) (x:Ax3) (L D:List AC) (S:Fn) (t:Trk) (T:Fn) (M:List AC) (G:AC):Option (List AC):=
 (O [I x.b.step,I x.b.aS,I x.b.bD,I x.b.bE,I x.b.low,I x.b.aY,I x.b.bB,I x.b.aV,I x.b.aO, .vC Aa (x.b.aW.map Aq),jA L 1]).bind λN=>
 cond (decide (gA D 0<0)) ((S [I x.b.step,I x.b.aS,I x.b.bD,I x.b.bE,I x.b.low,I x.b.aY,I x.b.bB,I x.b.aV,I x.b.aO, .vC Aa (x.b.aW.map Aq),I t.aT.y]).bind λU=>
 WJ O x L D S t G T M (I (V (gA N 0+gA U 0)))) (cond (decide (0<=gA D 0)&&decide (gA D 0<((t.aE.map AS).length:Int))) ((T (I x.b.step::I x.b.aS::I x.b.bD::I x.b.bE::I x.b.low::I x.b.aY::I x.b.bB::I x.b.aV::I x.b.aO:: .vC Aa (x.b.aW.map Aq)::(AM As (nth [] (t.aE.map AS) (gA D 0).toNat)++[I (V (0+1)),jA M 0]))).bind λX=>
 WJ O x L D S t G T M (I (V (gA N 0+gA X 0)))) (none))
theorem Z75 (O S T FX Nw B0 Ds:Fn) (M:Int) (p:Pth) (x:Ax3) (t:Trk):Qcc O S T FX Nw B0 Ds (pxt p x t [I M])=
 (Ds [I M,I t.length]).bind λG=>
 (B0 [.vC As (t.aE.map AS),I t.length,I t.aQ,I t.aT.x,I t.aT.y,I t.aT.z,jA G 0]).bind λU=>
 (Nw [I p.aQ.x,I p.aQ.y,I p.aQ.z, .vC Aj (p.aF.map Ay), .vC kPt (p.aD.map At),jA U 0]).bind λL=>
 (FX [.vC As (t.aE.map AS),I t.length,I t.aQ,I t.aT.x,I t.aT.y,I t.aT.z,jA G 0]).bind λD=>
 (T [I x.a.step,I x.a.aS,I x.a.bD,I x.a.bE,I x.a.low,I x.a.aY,I x.a.bB,I x.a.aV,I x.a.aO, .vC Aa (x.a.aW.map Aq),jA L 0]).bind λN=>
 cond (decide (gA D 0<0)) ((S [I x.a.step,I x.a.aS,I x.a.bD,I x.a.bE,I x.a.low,I x.a.aY,I x.a.bB,I x.a.aV,I x.a.aO, .vC Aa (x.a.aW.map Aq),I t.aT.x]).bind λX=>
 YI T x L D S t O G (I (V (gA N 0+gA X 0)))) (cond (decide (0<=gA D 0)&&decide (gA D 0<((t.aE.map AS).length:Int))) ((O (I x.a.step::I x.a.aS::I x.a.bD::I x.a.bE::I x.a.low::I x.a.aY::I x.a.bB::I x.a.aV::I x.a.aO:: .vC Aa (x.a.aW.map Aq)::(AM As (nth [] (t.aE.map AS) (gA D 0).toNat)++[I 0,jA G 0]))).bind λY=>
 YI T x L D S t O G (I (V (gA N 0+gA Y 0)))) (none)):=by kernel_rfl
def El:=Qcc R0 Jx Mj IT Q_ ED G9
theorem Z2u:Ai PG (Qgr R0 Jx Mj IT Q_ ED G9):=Ao rfl ⟨Zv8,Q1u,Zu5,Q5g,Zg4,T_,Ze,trivial⟩
theorem Um:Al PG (Sl El):=rw1 (C:=Qgr R0 Jx Mj IT Q_ ED G9) Z2u
def Qb2:Sk:=⟨[tf [ci],TS.v true (cc 13++[sb,ci,sb]++cc 5++[sb])],[],[]⟩
def Zfz:=qa 217 Qb2 Y2
def Qls:Fn:=An PG C_cncref30_SamePulses_0 64 217 Qb2 Y2
theorem Yae (G x1 x2 x3 x4 x5 x6 x7 x8 x9 M N O S:Int) (T:Bool) (U:Int) (X:Bool) (Y a0 a1 D a2:Int) (L:Bool):Qls [I G,I x1,I x2,I x3,I x4,I x5,I x6,I x7,I x8,I x9,I M,I N,I O,I S,B T,I U,B X,I Y,I a0,I a1,I D,I a2,B L]=
 cond (x1 !=10) (some [I G]) (cond (decide (D<0)) (some [I G]) (cond (decide (D>=16)) (some [I G]) (cond (decide (wrap .u64 D<0)) (none) (cond (L) (some [I (V (↑(BitVec.ofInt IntKind.i64.bits G|||BitVec.ofInt IntKind.i64.bits (V (1*2^min (wrap .u64 D).toNat IntKind.i64.bits))).toNat:Int))]) (some [I (V (↑(BitVec.ofInt IntKind.i64.bits G&&& ~~~BitVec.ofInt IntKind.i64.bits (V (1*2^min (wrap .u64 D).toNat IntKind.i64.bits))).toNat:Int))]))))):=by kernel_rfl
def Km:=Qls
theorem Zj0:Ai PG (C_cncref30_SamePulses_0):=Ao rfl trivial
theorem Z8m:Al PG (Zfz Km):=rw1 (C:=C_cncref30_SamePulses_0) Zj0
def Qip:Sk:=⟨[TS.v true [ci,ci,ci],TS.v true [ci,ci,sb,sb,sb]],[],[]⟩
def Qxm:=qa 216 Qip Qhz
def Qlm:Fn:=An PG C_cncref30_SamePulses_0 64 216 Qip Qhz
theorem Z8n (M D N O S:Int) (T G L:Bool):Qlm [I M,I D,I N,I O,I S,B T,B G,B L]=
 cond (D==1) (some [B true]) (cond (D==3) (some [B true]) (cond (D==6) (some [B true]) (cond (D==4) (cond (L) (some [B true]) (some [B G])) (cond (D==2) (some [B G]) (some [B false]))))):=by kernel_rfl
def Ik:=Qlm
theorem Zjf:Ai PG (C_cncref30_SamePulses_0):=Ao rfl trivial
theorem Qwd:Al PG (Qxm Ik):=rw1 (C:=C_cncref30_SamePulses_0) Zjf
def Qcg:Sk:=⟨[tf [sd 20000 0],tf [ci]],[(20000,179,cS)],[]⟩
def Yr:Sk:=⟨[tf [sa Aa]],[(20000,179,cS)],[]⟩
def Zyw:=qa 165 Qcg Yr
def Qpu (D G:Fn):Cfg:={cf [Zfz D,Qxm G]with prom:=λb=>cond (Nat.beq b 2) ([(5,3)]) ([])}
def Qsk:Sk:=⟨[tf [sd 20000 0],tf [ci],td,td,td,tf [se 5 1]]++dd 84,[(20000,179,cS)],[(5,3,Aa)]⟩
def Q7o:List (Ex×Sk):=[(Ex.exit 0,⟨[td,td,td,td,td,tf [se 5 1]]++dd 84,[(20000,179,cS)],[(5,3,Aa)]⟩)]
def RJ (D G:Fn):Lp:=AL PG (Qpu D G) 64 2 (AN PG 165 2) Qsk Q7o
def Qtc (D G:Fn) (I:Lp):Cfg:=(Qpu D G).loop 2 Qsk Q7o I
def Qpb (D G:Fn) (I:Lp):Fn:=An PG (Qtc D G I) 64 165 Qcg Yr
abbrev OZ (K:Kf) (c:Cv) (D:Rw) (M:Fn) (L:Int):Option (Nat×List AC):=
 cond (gA (nth [] (K.p.aD.map At) c.aK.toNat) 1==5) (cond (((D++[[jA (nth [] (K.p.aD.map At) c.aK.toNat) 2]]).length*8).ble 140737488355328) (cond (decide (0<=gA (nth [] (K.p.aD.map At) c.aK.toNat) 2)&&decide (gA (nth [] (K.p.aD.map At) c.aK.toNat) 2<((K.aA.map Ag).length:Int))) ((M (I c.outs::AM Ah (nth [] (K.aA.map Ag) (gA (nth [] (K.p.aD.map At) c.aK.toNat) 2).toNat))).bind λG=>
 some (0,(.vC Aa (D++[[jA (nth [] (K.p.aD.map At) c.aK.toNat) 2]])::I L::Ad K {c with outs:=gA G 0,aK:=V (c.aK+1)}))) (none)) (none)) (some (0,(.vC Aa D::I L::Ad K {c with aK:=V (c.aK+1)})))
theorem Zot (L M:Fn) (D:Rw) (G:Int) (K:Kf) (c:Cv):RJ L M (.vC Aa D::I G::Ad K c)=
 cond (decide (c.aK<((K.p.aD.map At).length:Int))) (cond (decide (0<=c.aK)&&decide (c.aK<((K.p.aD.map At).length:Int))) (cond (decide (gA (nth [] (K.p.aD.map At) c.aK.toNat) 0>G)) (some (1,(.vC Aa D::Ad K c))) (cond (gA (nth [] (K.p.aD.map At) c.aK.toNat) 0==G) (cond (decide (c.aK>=c.next)) ((M [jA (nth [] (K.p.aD.map At) c.aK.toNat) 0,jA (nth [] (K.p.aD.map At) c.aK.toNat) 1,jA (nth [] (K.p.aD.map At) c.aK.toNat) 2,I c.o0,I c.o1,B c.o2,B c.o3,B c.o4]).bind λN=>
 cond (bA N 0) (some (1,(.vC Aa D::Ad K c))) (OZ K c D L G)) (OZ K c D L G)) (OZ K c D L G))) (none)) (some (1,(.vC Aa D::Ad K c))):=by kernel_rfl
theorem Ya7 (M N:Fn) (G:Lp) (L:Int) (K:Kf) (c:Cv):Qpb M N G (I L::Ad K c)=
 (G (.vC Aa []::I L::Ad K c)).bind λD=>
 cond (D.1.beq 1) (some (.vC Aa (wA D.2 0)::cR 1 D.2)) (none):=by kernel_rfl
def Q26:=Am (RJ Km Ik)
def Px:=Qpb Km Ik Q26
theorem Q0o:Ai PG (Qpu Km Ik):=Ao rfl ⟨Z8m,Qwd,trivial⟩
theorem Z8y:Al PG (Zyw Px):=rw2 (C:=Qtc Km Ik Q26) (fl fb Q0o) Q0o
def Qjj:Sk:=⟨[TS.v true [ci,ci,ci,sa Aj,sa kPt],TS.v true (cc 9++[sa Aa]++cc 9++[sa Aa]++cc 9++[sa Aa]),TS.v true ([sa As]++cc 5),tf [ci],tf [ci]],[],[]⟩
def ZQ:Sk:=⟨[tf [sa kPt]],[],[]⟩
def Zc0:=qa 164 Qjj ZQ
def Qgi (D:Fn):Cfg:={cf [Sl D]with prom:=λb=>cond (Nat.beq b 5) ([(11,125)]) ([]),unroll:=[9]}
def Qyd:Sk:=⟨[td,td,td,td,tf [ci],tf [sd 5 0],tf [sd 6 0],tf [sd 7 0],td,td,td,tf [se 11 3],tf [sd 12 0],tf [ci]]++dd 54,[(5,46,[ci,ci,ci,sa Aj,sa kPt]),(6,34,cc 9++[sa Aa]++cc 9++[sa Aa]++cc 9++[sa Aa]),(7,52,[sa As]++cc 5),(12,41,[ci,ci,ci])],[(11,125,kPt)]⟩
def Q8c:List (Ex×Sk):=[(Ex.exit 0,⟨dd 11++[tf [se 11 3]]++dd 56,[],[(11,125,kPt)]⟩)]
def Rb (D:Fn):Lp:=AL PG (Qgi D) 64 5 (AN PG 164 5) Qyd Q8c
def Qv4 (D:Fn) (G:Lp):Cfg:=(Qgi D).loop 5 Qyd Q8c G
def R7 (D:Fn) (G:Lp):Fn:=An PG (Qv4 D G) 64 164 Qjj ZQ
abbrev LO (o6:List AC) (v46 M N:Int) (p:Pth) (x:Ax3) (t:Trk) (D:Bool) (G L:AC):Option (Nat×List AC):=
 cond (gA o6 2 !=v46) (cond (D) (some (0,(G::I M::I (V (N+1))::pxt p x t [jA o6 0,jA o6 1,jA o6 2]))) (none)) (some (0,(L::I M::I (V (N+1))::pxt p x t [jA o6 0,jA o6 1,jA o6 2])))
theorem Zbh (N:Fn) (L:Rw) (M D:Int) (v44 G v46:Int) (p:Pth) (x:Ax3) (t:Trk):Rb N (.vC kPt L::I M::I D::pxt p x t [I v44,I G,I v46])=
 cond (decide (D<M)) ((N (pxt p x t [I (V (D+1))])).bind λo6=>
 cond (gA o6 0 !=v44) (cond (((L++[[I (V (D+1)),I 0,I (V (gA o6 0-v44))]]).length*24).ble 140737488355328) (cond (gA o6 1 !=G) (cond (((L++[[I (V (D+1)),I 0,I (V (gA o6 0-v44))]]++[[I (V (D+1)),I (V (0+1)),I (V (gA o6 1-G))]]).length*24).ble 140737488355328) (LO o6 v46 M D p x t (((L++[[I (V (D+1)),I 0,I (V (gA o6 0-v44))]]++[[I (V (D+1)),I (V (0+1)),I (V (gA o6 1-G))]]++[[I (V (D+1)),I (V (V (0+1)+1)),I (V (gA o6 2-v46))]]).length*24).ble 140737488355328) (.vC kPt (L++[[I (V (D+1)),I 0,I (V (gA o6 0-v44))]]++[[I (V (D+1)),I (V (0+1)),I (V (gA o6 1-G))]]++[[I (V (D+1)),I (V (V (0+1)+1)),I (V (gA o6 2-v46))]])) (.vC kPt (L++[[I (V (D+1)),I 0,I (V (gA o6 0-v44))]]++[[I (V (D+1)),I (V (0+1)),I (V (gA o6 1-G))]]))) (none)) (LO o6 v46 M D p x t (((L++[[I (V (D+1)),I 0,I (V (gA o6 0-v44))]]++[[I (V (D+1)),I (V (V (0+1)+1)),I (V (gA o6 2-v46))]]).length*24).ble 140737488355328) (.vC kPt (L++[[I (V (D+1)),I 0,I (V (gA o6 0-v44))]]++[[I (V (D+1)),I (V (V (0+1)+1)),I (V (gA o6 2-v46))]])) (.vC kPt (L++[[I (V (D+1)),I 0,I (V (gA o6 0-v44))]])))) (none)) (cond (gA o6 1 !=G) (cond (((L++[[I (V (D+1)),I (V (0+1)),I (V (gA o6 1-G))]]).length*24).ble 140737488355328) (LO o6 v46 M D p x t (((L++[[I (V (D+1)),I (V (0+1)),I (V (gA o6 1-G))]]++[[I (V (D+1)),I (V (V (0+1)+1)),I (V (gA o6 2-v46))]]).length*24).ble 140737488355328) (.vC kPt (L++[[I (V (D+1)),I (V (0+1)),I (V (gA o6 1-G))]]++[[I (V (D+1)),I (V (V (0+1)+1)),I (V (gA o6 2-v46))]])) (.vC kPt (L++[[I (V (D+1)),I (V (0+1)),I (V (gA o6 1-G))]]))) (none)) (LO o6 v46 M D p x t (((L++[[I (V (D+1)),I (V (V (0+1)+1)),I (V (gA o6 2-v46))]]).length*24).ble 140737488355328) (.vC kPt (L++[[I (V (D+1)),I (V (V (0+1)+1)),I (V (gA o6 2-v46))]])) (.vC kPt L)))) (some (1,[.vC kPt L])):=by kernel_rfl
theorem Qzy (M:Fn) (N:Lp) (D G:Int) (p:Pth) (x:Ax3) (t:Trk):R7 M N (pxt p x t [I D,I G])=
 (M (pxt p x t [I (mx 0 (mn D t.length))])).bind λL=>
 (N (.vC kPt []::I (mx 0 (mn G t.length))::I (mx 0 (mn D t.length))::pxt p x t [jA L 0,jA L 1,jA L 2])).bind λo8=>
 cond (o8.1.beq 1) (some [.vC kPt (wA o8.2 0)]) (none):=by kernel_rfl
def Qwa:=Am (Rb El)
def JL:=R7 El Qwa
theorem Q98:Ai PG (Qgi El):=Ao rfl ⟨Um,trivial⟩
theorem Zel:Al PG (Zc0 JL):=rw2 (C:=Qv4 El Qwa) (fl fb Q98) Q98
def Qnp:Sk:=⟨[tf [sd 20000 0]],[(20000,179,cS)],[]⟩
def PR (M:Fn):Nat×Spec:=(102,ET Qnp Y2 M)
def Qhw:Fn:=Lm PG C_cncref30_SamePulses_0 64 102 Qnp Y2
theorem Zug (K:Kf) (c:Cv):Qhw (Ad K c)=
 some [I (V (c.m0.tdiv 256))]:=by kernel_rfl
def Db:=Qhw
theorem Yba:Ai PG (C_cncref30_SamePulses_0):=Ao rfl trivial
theorem Zl8 (vars:List AC) (R:Type) (K:TV->Mem->Option R):EB PG C_cncref30_SamePulses_0 64 102 [TV.v false [AC.ptr 20000 0]] ⟨[(20000,(⟨179,(cR 0 vars)⟩:Box))],[]⟩ K=EB PG C_cncref30_SamePulses_0 64 102 [TV.v false [AC.ptr 20000 0]] ⟨[(20000,(⟨179,(cR 0 vars)⟩:Box))],[]⟩ (λv _=>K v ⟨[(20000,(⟨179,(cR 0 vars)⟩:Box))],[]⟩):=dh (b:=(K (TV.v false [I (V ((gA vars 50).tdiv 256))]) ⟨[(20000,(⟨179,(cR 0 vars)⟩:Box))],[]⟩)) (by kernel_rfl) (Eq.symm (by kernel_rfl))
theorem PV:Al PG (102,ET Qnp Y2 Db):=Sn (C:=C_cncref30_SamePulses_0) (L:=64) (by kernel_rfl) (FnOK.bare rfl rfl rfl) Yba eqOk Hk (by kernel_rfl) (by kernel_rfl) (λvars R K=>Zl8 vars R K)
def Rf (M:Fn):Nat×Spec:=(163,ET Qnp Y2 M)
def PE (D G:Fn):Cfg:=cr [Tu D,PR G] [102] [102]
def YT (D G:Fn):Fn:=Lm PG (PE D G) 64 163 Qnp Y2
theorem Z2i (D G:Fn) (K:Kf) (c:Cv):YT D G (Ad K c)=
 (G (Ad K c)).bind λo2=>
 (D (Br K.t++[jA o2 0])).bind λo3=>
 some [jA o3 0]:=by kernel_rfl
def DG:=YT ED Db
theorem Zi3:Ai PG (PE ED Db):=Hx (rs:=[102]) rfl ⟨T_,PV,trivial⟩ rfl (Ci rfl (FE HG))
theorem Zgs (vars : List AC) (R : Type) (K : TV -> Mem -> Option R) : EB PG (PE ED Db) 64 163 [TV.v false [AC.ptr 20000 0]] ⟨[(20000, (⟨179, (cR 0 vars)⟩ : Box))], []⟩ K = EB PG (PE ED Db) 64 163 [TV.v false [AC.ptr 20000 0]] ⟨[(20000, (⟨179, (cR 0 vars)⟩ : Box))], []⟩ (λv _ => K v ⟨[(20000, (⟨179, (cR 0 vars)⟩ : Box))], []⟩) := dh (b := ((Db (cR 0 vars)).bind λo2 =>
 (ED [.vC As (wA vars 44),jA vars 45,jA vars 46,jA vars 47,jA vars 48,jA vars 49,jA o2 0]).bind λo3=>
 K (TV.v false [jA o3 0]) ⟨[(20000,(⟨179,(cR 0 vars)⟩:Box))],[]⟩)) (by kernel_rfl) (Eq.symm (by kernel_rfl))
theorem Rt:Al PG (163,ET Qnp Y2 DG):=Sn (C:=PE ED Db) (L:=64) (by kernel_rfl) (FnOK.bare rfl rfl rfl) Zi3 eqOk Hk (by kernel_rfl) (by kernel_rfl) (λvars R K=>Zgs vars R K)
def Qj4:Sk:=⟨[tf [sd 20000 0],tf [sd 20001 0],tf [ci]],[(20000,179,cS),(20001,61,[sa kPt,sa Aa]++cc 7)],[]⟩
def Qif:Sk:=⟨[TS.tup []],[(20000,179,cS),(20001,61,[sa kPt,sa Aa]++cc 7)],[]⟩
def Zvp:=qa 110 Qj4 Qif
def Qbj (D G I L M:Fn):Cfg:=cr [Sl D,Zyw G,Zc0 I,Rf L,PR M] [165,163,102] [163,102]
def VY (D G I L M:Fn):Fn:=An PG (Qbj D G I L M) 64 110 Qj4 Qif
abbrev Qp8 (c:Cv) (V:Fn) (L:List AC) (K:Kf) (T:Fn) (U:List AC) (O:Int) (S:Rw) (G:AC):Option (List AC):=
 cond (c.way==0) ((V (jA L 0::Ad K c)).bind λD=>
 (T [jA D 38,jA D 39,jA D 40, .vC Aj (wA D 41), .vC kPt (wA D 42),jA D 1,jA D 2,jA D 3,jA D 4,jA D 5,jA D 6,jA D 7,jA D 8,jA D 9, .vC Aa (wA D 10),jA D 11,jA D 12,jA D 13,jA D 14,jA D 15,jA D 16,jA D 17,jA D 18,jA D 19, .vC Aa (wA D 20),jA D 21,jA D 22,jA D 23,jA D 24,jA D 25,jA D 26,jA D 27,jA D 28,jA D 29, .vC Aa (wA D 30), .vC As (wA D 45),jA D 46,jA D 47,jA D 48,jA D 49,jA D 50,jA U 0]).bind λM=>
 some (cR 1 D++[G, .vC Aa (wA D 0),I O,jA L 0,jA M 0,jA M 1,jA M 2,jA D 68,jA D 63])) ((T (pxt K.p K.x K.t [jA U 0])).bind λN=>
 some (Ad K c++[G, .vC Aa S,I O,jA L 0,jA N 0,jA N 1,jA N 2,I c.s3,I c.g1]))
theorem Zyn (N O Oi BM A3:Fn) (x0:Int) (L D:Rw) (G S T U V X Y:Int) (K:Kf) (c:Cv):VY N O Oi BM A3 (I x0::(Ad K c++[.vC kPt L, .vC Aa D,I G,I S,I T,I U,I V,I X,I Y]))=
 (A3 (Ad K c)).bind λo9=>
 (BM (Ad K c)).bind λM=>
 cond (!c.aL) ((Oi (pxt K.p K.x K.t [I x0,jA o9 0])).bind λa0=>
 Qp8 c O M K N o9 G D (.vC kPt (wA a0 0))) (Qp8 c O M K N o9 G D (.vC kPt L)):=by kernel_rfl
def L_:=VY El Px JL DG Db
theorem Zou:Ai PG (Qbj El Px JL DG Db):=Hx (rs:=[163,102]) rfl ⟨Um,Z8y,Zel,Rt,PV,trivial⟩ rfl (Ci rfl (Ci rfl (Ci rfl (FE (FE HG)))))
theorem Zfp:Al PG (Zvp L_):=rw1 (C:=Qbj El Px JL DG Db) Zou
def Qkz:Sk:=⟨[TS.tup []],[(20000,179,cS)],[]⟩
def X9:=qa 161 Qnp Qkz
def Qpg:Fn:=An PG C_cncref30_SamePulses_0 64 161 Qnp Qkz
theorem Zmc (K:Kf) (c:Cv):Qpg (Ad K c)=
 cond (c.g0==0) (some (Ad K {c with o2:=true,g0:=1,g1:=18,g2:= -1})) (some (Ad K c)):=by kernel_rfl
def GC:=Qpg
theorem Z2b:Ai PG (C_cncref30_SamePulses_0):=Ao rfl trivial
theorem Qoo:Al PG (X9 GC):=rw1 (C:=C_cncref30_SamePulses_0) Z2b
def Qgz:Sk:=⟨[TS.v true [ci,ci,ci],tf [ci]],[],[]⟩
def Qur:=qa 239 Qgz Y2
def Qjz:Fn:=An PG C_cncref30_SamePulses_0 64 239 Qgz Y2
theorem Q0q (L D M G:Int):Qjz [I L,I D,I M,I G]=
 cond (decide (G<=0)) (some [I 0]) (cond (decide (D<=0)) (some [I 0]) (cond (decide (D=0)) (none) (some [I (V (V (V ((V (G-1)).tdiv D)*G)-V (D*V ((V (V ((V (G-1)).tdiv D)*V (V ((V (G-1)).tdiv D)+1))).tdiv 2))))]))):=by kernel_rfl
def Hq:=Qjz
theorem Ze7:Ai PG (C_cncref30_SamePulses_0):=Ao rfl trivial
theorem Q0k:Al PG (Qur Hq):=rw1 (C:=C_cncref30_SamePulses_0) Ze7
def Yb:=qa 146 ZP Qhz
def Q0r:Fn:=An PG C_cncref30_SamePulses_0 64 146 ZP Qhz
theorem Z83 (D G L:Int):Q0r [I D,I G,I L]=
 cond (decide (1<=D)) (cond (decide (D<=65536)) (cond (decide (2<=G)) (cond (decide (G<=65536)) (cond (decide (1<=L)) (some [B (decide (L<=16777216))]) (some [B false])) (some [B false])) (some [B false])) (some [B false])) (some [B false]):=by kernel_rfl
def ES:=Q0r
theorem Zvb:Ai PG (C_cncref30_SamePulses_0):=Ao rfl trivial
theorem Qn8:Al PG (Yb ES):=rw1 (C:=C_cncref30_SamePulses_0) Zvb
def Qea:Sk:=⟨[TS.v true [ci,ci,ci],tf [ci],tf [ci]],[],[]⟩
def Zl:=qa 206 Qea Y2
def Qa2 (D G:Fn):Cfg:=cf [Qur D,Yb G]
def Q2k:Sk:=⟨[td,tf [ci],td,tf [sd 3 0],td,td,td,tf [ci],tf [ci]]++dd 49,[(3,36,[ci,ci,ci])],[]⟩
def Qy5:List (Ex×Sk):=[(Ex.exit 0,⟨dd 7++[tf [ci]]++dd 50,[],[]⟩)]
def Mb (D G:Fn):Lp:=AL PG (Qa2 D G) 64 4 (AN PG 206 4) Q2k Qy5
def Q4m (D G:Fn) (I:Lp):Cfg:=(Qa2 D G).loop 4 Q2k Qy5 I
def SQ (D G:Fn) (I:Lp):Fn:=An PG (Q4m D G I) 64 206 Qea Y2
theorem Xk (S T:Fn) (L G D M N O:Int):Mb S T [I L,I G,I D,I M,I N,I O]=
 cond (decide (G<D)) ((S [I M,I N,I O,I (V (D-V ((V (D-G)).tdiv 2)))]).bind λo4=>
 cond (decide (V (L-V (D-V ((V (D-G)).tdiv 2)))>=gA o4 0)) (some (0,[I L,I (V (D-V ((V (D-G)).tdiv 2))),I D,I M,I N,I O])) (some (0,[I L,I G,I (V (V (D-V ((V (D-G)).tdiv 2))-1)),I M,I N,I O]))) (some (1,[I G])):=by kernel_rfl
theorem Q9x (T O:Fn) (S:Lp) (L D N M G:Int):SQ T O S [I L,I D,I N,I M,I G]=
 (O [I L,I D,I N]).bind λU=>
 cond (!bA U 0) (some [I 0]) (cond (decide (mx G M>1099511627776)) (some [I 0]) (cond (decide (mn G M< -1099511627776)) (some [I 0]) ((S [I M,I (V (V (0-G)-D)),I (mn (V (D-G)) L),I L,I D,I N]).bind λo6=>
 cond (o6.1.beq 1) (some [I (V (0-gA o6.2 0))]) (none)))):=by kernel_rfl
def Qzb:=Am (Mb Hq ES)
def E4:=SQ Hq ES Qzb
theorem Qte:Ai PG (Qa2 Hq ES):=Ao rfl ⟨Q0k,Qn8,trivial⟩
theorem Qcs:Al PG (Zl E4):=rw2 (C:=Q4m Hq ES Qzb) (fl fb Qte) Qte
def Qh9:Sk:=⟨[tf [sa Aa],tf [ci]],[],[]⟩
def Zdn:=qa 298 Qh9 Qhz
def Qsn:Sk:=⟨[td,tf [ci],td,td,td,td,td,tf [sa Aa],tf [ci],tf [ci]]++dd 13,[],[]⟩
def Qsz:List (Ex×Sk):=[(Ex.ret,⟨[td,td,td,td,tf [sb]]++dd 18,[],[]⟩),(Ex.exit 0,⟨[td]++dd 22,[],[]⟩)]
def Vv:Lp:=AL PG C_cncref30_SamePulses_0 64 2 (AN PG 298 2) Qsn Qsz
def Q79 (D:Lp):Cfg:=C_cncref30_SamePulses_0.loop 2 Qsn Qsz D
def U3 (D:Lp):Fn:=An PG (Q79 D) 64 298 Qh9 Qhz
theorem Zxw (L:Int) (G:Rw) (M D:Int):Vv [I L, .vC Aa G,I M,I D]=
 cond (decide (D<M)) (cond (decide (0<=D)&&decide (D<(G.length:Int))) (cond (decide (gA (nth [] G D.toNat) 0>L)) (some (1,[B false])) (cond (decide (gA (nth [] G D.toNat) 0<V (0-L))) (some (1,[B false])) (some (0,[I L, .vC Aa G,I M,I (V (D+1))])))) (none)) (some (2,[])):=by kernel_rfl
theorem Zfk (G:Lp) (D:Rw) (L:Int):U3 G [.vC Aa D,I L]=
 (G [I L, .vC Aa D,I (D.length:Int),I 0]).bind λo1=>
 cond (o1.1.beq 1) (some [B (bA o1.2 0)]) (cond (o1.1.beq 2) (some [B true]) (none)):=by kernel_rfl
def Zaa:=Am (Vv)
def P3:=U3 Zaa
theorem Qra:Ai PG (C_cncref30_SamePulses_0):=Ao rfl trivial
theorem Zty:Al PG (Zdn P3):=rw2 (C:=Q79 Zaa) (fl fb Qra) Qra
def Qfp:Sk:=⟨[tf [sa Aa]],[],[]⟩
def Zrd:=qa 297 Qfp Qfp
def C_limits_Differences_0:Cfg:={cf []with prom:=λb=>cond (Nat.beq b 3) ([(3,3)]) ([])}
def Qq9:Sk:=⟨[tf [sa Aa],td,td,tf [se 3 1],tf [ci]]++dd 20,[],[(3,3,Aa)]⟩
def Q86:List (Ex×Sk):=[(Ex.exit 0,⟨[td,td,td,tf [se 3 1]]++dd 21,[],[(3,3,Aa)]⟩)]
def Qqq:Lp:=AL PG C_limits_Differences_0 64 3 (AN PG 297 3) Qq9 Q86
def Q1x (D:Lp):Cfg:=C_limits_Differences_0.loop 3 Qq9 Q86 D
def XM (D:Lp):Fn:=An PG (Q1x D) 64 297 Qfp Qfp
theorem Z0b (L G:Rw) (D:Int):Qqq [.vC Aa L, .vC Aa G,I D]=
 cond (decide (D<(G.length:Int))) (cond (decide (0<=D)&&decide (D<(G.length:Int))) (cond (decide (0<=V (D-1))&&decide (V (D-1)<(G.length:Int))) (cond (((L++[[I (V (gA (nth [] G D.toNat) 0-gA (nth [] G (V (D-1)).toNat) 0))]]).length*8).ble 140737488355328) (some (0,[.vC Aa (L++[[I (V (gA (nth [] G D.toNat) 0-gA (nth [] G (V (D-1)).toNat) 0))]]), .vC Aa G,I (V (D+1))])) (none)) (none)) (none)) (some (1,[.vC Aa L])):=by kernel_rfl
theorem Zn5 (D:Lp) (G:Rw):XM D [.vC Aa G]=
 (D [.vC Aa [], .vC Aa G,I 1]).bind λo1=>
 cond (o1.1.beq 1) (some [.vC Aa (wA o1.2 0)]) (none):=by kernel_rfl
def Q9k:=Am (Qqq)
def Rn:=XM Q9k
theorem Q3a:Ai PG (C_limits_Differences_0):=Ao rfl trivial
theorem Z8d:Al PG (Zrd Rn):=rw2 (C:=Q1x Q9k) (fl fb Q3a) Q3a
def Qbq:Sk:=⟨[TS.v true (cc 9++[sa Aa]),tf [sa Aa]],[],[]⟩
def Z6t:=qa 290 Qbq Qhz
def Qnx (D G:Fn):Cfg:={cf [Zdn D,Zrd G]with unroll:=[2]}
def Qcl (D G:Fn):Fn:=An PG (Qnx D G) 64 290 Qbq Qhz
theorem Ybd (G L:Fn) (U O S T V X Y x7 x8:Int) (x9 D:Rw):Qcl G L [I U,I O,I S,I T,I V,I X,I Y,I x7,I x8, .vC Aa x9, .vC Aa D]=
 (L [.vC Aa D]).bind λo6=>
 (G [.vC Aa (wA o6 0),I O]).bind λo7=>
 cond (!bA o7 0) (some [B false]) ((L [.vC Aa (wA o6 0)]).bind λo8=>
 (G [.vC Aa (wA o8 0),I S]).bind λo9=>
 cond (!bA o9 0) (some [B false]) ((L [.vC Aa (wA o8 0)]).bind λM=>
 (G [.vC Aa (wA M 0),I T]).bind λN=>
 cond (!bA N 0) (some [B false]) (some [B true]))):=by kernel_rfl
def Me:=Qcl P3 Rn
theorem Z5w:Ai PG (Qnx P3 Rn):=Ao rfl ⟨Zty,Z8d,trivial⟩
theorem Zet:Al PG (Z6t Me):=rw1 (C:=Qnx P3 Rn) Z5w
def Qpq:Sk:=⟨[TS.v true (cc 9++[sa Aa]++cc 9++[sa Aa]++cc 9++[sa Aa]),tf [sa kPt]],[],[]⟩
def Z0a:=qa 268 Qpq Qhz
def XE (D:Fn):Cfg:=cf [Z6t D]
def Q0d:Sk:=⟨[td,tf [sa kPt],tf [sd 2 0],td,td,tf [ci],tf [se 13 1],td,tf [ci]]++dd 6++[tf [ci],tf [ci]]++dd 19,[(2,34,cc 9++[sa Aa]++cc 9++[sa Aa]++cc 9++[sa Aa])],[(13,3,Aa)]⟩
def Q8y:List (Ex×Sk):=[(Ex.exit 2,⟨[td,tf [sa kPt],tf [sd 2 0],td,td,tf [ci],tf [se 13 1],td,tf [ci]]++dd 27,[(2,34,cc 9++[sa Aa]++cc 9++[sa Aa]++cc 9++[sa Aa])],[(13,3,Aa)]⟩)]
def LK (D:Fn):Lp:=AL PG (XE D) 64 6 (AN PG 268 6) Q0d Q8y
def Qy1 (D:Fn) (G:Lp):Cfg:=(XE D).loop 6 Q0d Q8y G
def Qyq:Sk:=⟨[td,tf [sa kPt],tf [sd 2 0],td,td,td,td,td,tf [ci]]++dd 27,[(2,34,cc 9++[sa Aa]++cc 9++[sa Aa]++cc 9++[sa Aa])],[]⟩
def Q8t:List (Ex×Sk):=[(Ex.ret,⟨[td,td,td,td,tf [sb]]++dd 31,[],[]⟩),(Ex.exit 0,⟨[td]++dd 35,[],[]⟩)]
def SC (D:Fn) (G:Lp):Lp:=AL PG (Qy1 D G) 64 2 (AN PG 268 2) Qyq Q8t
def Q0p (D:Fn) (G I:Lp):Cfg:=(Qy1 D G).loop 2 Qyq Q8t I
def S0 (D:Fn) (G I:Lp):Fn:=An PG (Q0p D G I) 64 268 Qpq Qhz
theorem Zqc (DN:Fn) (v0 v1:Rw) (v2 v3 v4 D v6 v7 v8 v9 v10 v11 v12 G L:Int) (M:Rw) (N O S T v20 v21 v22 U v24:Int) (v25:Rw) (X v27 v28 Y v30 v31 a0 v33 a1:Int) (v35:Rw):LK DN [.vC Aa v0, .vC kPt v1,I v2,I v3,I v4,I D,I v6,I v7,I v8,I v9,I v10,I v11,I v12,I G,I L, .vC Aa M,I N,I O,I S,I T,I v20,I v21,I v22,I U,I v24, .vC Aa v25,I X,I v27,I v28,I Y,I v30,I v31,I a0,I v33,I a1, .vC Aa v35]=
 cond (decide (D<v4)) (cond (decide (0<=D)&&decide (D<(v1.length:Int))) (cond (decide (v2=(↑0:Int))) (cond (decide (0<=D)&&decide (D<(v0.length:Int))) (some (0,[.vC Aa (v0.set D.toNat [jA (nth [] v1 D.toNat) 0]), .vC kPt v1,I v2,I v3,I v4,I (V (D+1)),I v6,I v7,I v8,I v9,I v10,I v11,I v12,I G,I L, .vC Aa M,I N,I O,I S,I T,I v20,I v21,I v22,I U,I v24, .vC Aa v25,I X,I v27,I v28,I Y,I v30,I v31,I a0,I v33,I a1, .vC Aa v35])) (none)) (cond (decide (v2=(↑(0+1):Int))) (cond (decide (0<=D)&&decide (D<(v0.length:Int))) (some (0,[.vC Aa (v0.set D.toNat [jA (nth [] v1 D.toNat) 1]), .vC kPt v1,I v2,I v3,I v4,I (V (D+1)),I v6,I v7,I v8,I v9,I v10,I v11,I v12,I G,I L, .vC Aa M,I N,I O,I S,I T,I v20,I v21,I v22,I U,I v24, .vC Aa v25,I X,I v27,I v28,I Y,I v30,I v31,I a0,I v33,I a1, .vC Aa v35])) (none)) (cond (decide (v2=(↑(0+1+1):Int))) (cond (decide (0<=D)&&decide (D<(v0.length:Int))) (some (0,[.vC Aa (v0.set D.toNat [jA (nth [] v1 D.toNat) 2]), .vC kPt v1,I v2,I v3,I v4,I (V (D+1)),I v6,I v7,I v8,I v9,I v10,I v11,I v12,I G,I L, .vC Aa M,I N,I O,I S,I T,I v20,I v21,I v22,I U,I v24, .vC Aa v25,I X,I v27,I v28,I Y,I v30,I v31,I a0,I v33,I a1, .vC Aa v35])) (none)) (none)))) (none)) (some (1,[.vC Aa v0, .vC kPt v1,I v2,I v3,I v6,I v7,I v8,I v9,I v10,I v11,I v12,I G,I L, .vC Aa M,I N,I O,I S,I T,I v20,I v21,I v22,I U,I v24, .vC Aa v25,I X,I v27,I v28,I Y,I v30,I v31,I a0,I v33,I a1, .vC Aa v35])):=by kernel_rfl
abbrev Rz (D:Nat×List AC) (G:Bool):Option (Nat×List AC):=
 cond (G) (some (1,[B false])) (some (0,[.vC kPt (wA D.2 1),I (V (gA D.2 3+1)),jA D.2 4,jA D.2 5,jA D.2 6,jA D.2 7,jA D.2 8,jA D.2 9,jA D.2 10,jA D.2 11,jA D.2 12, .vC Aa (wA D.2 13),jA D.2 14,jA D.2 15,jA D.2 16,jA D.2 17,jA D.2 18,jA D.2 19,jA D.2 20,jA D.2 21,jA D.2 22, .vC Aa (wA D.2 23),jA D.2 24,jA D.2 25,jA D.2 26,jA D.2 27,jA D.2 28,jA D.2 29,jA D.2 30,jA D.2 31,jA D.2 32, .vC Aa (wA D.2 33)]))
theorem Zma (DN:Fn) (N6:Lp) (G:Rw) (v1 v2 v3 v4 v5 v6 v7 v8 v9 v10:Int) (v11:Rw) (v12 L M N O S T U v20:Int) (v21:Rw) (v22 V v24 v25 X v27 v28 Y v30:Int) (v31:Rw):SC DN N6 [.vC kPt G,I v1,I v2,I v3,I v4,I v5,I v6,I v7,I v8,I v9,I v10, .vC Aa v11,I v12,I L,I M,I N,I O,I S,I T,I U,I v20, .vC Aa v21,I v22,I V,I v24,I v25,I X,I v27,I v28,I Y,I v30, .vC Aa v31]=
 cond (decide (v1<3)) (cond (decide ((G.length:Int)=(G.length:Int))) (cond (decide (0<=(G.length:Int))&&decide ((G.length:Int)*(↑8:Int)<=140737488355328)) ((N6 [.vC Aa (List.replicate (G.length:Int).toNat [I 0]), .vC kPt G,I v1,I v1,I (G.length:Int),I 0,I v2,I v3,I v4,I v5,I v6,I v7,I v8,I v9,I v10, .vC Aa v11,I v12,I L,I M,I N,I O,I S,I T,I U,I v20, .vC Aa v21,I v22,I V,I v24,I v25,I X,I v27,I v28,I Y,I v30, .vC Aa v31]).bind λD=>
 cond (D.1.beq 1) (cond (decide (gA D.2 2=(↑0:Int))) ((DN [jA D.2 4,jA D.2 5,jA D.2 6,jA D.2 7,jA D.2 8,jA D.2 9,jA D.2 10,jA D.2 11,jA D.2 12, .vC Aa (wA D.2 13), .vC Aa (wA D.2 0)]).bind λo6=>
 Rz D (!bA o6 0)) (cond (decide (gA D.2 2=(↑(0+1):Int))) ((DN [jA D.2 14,jA D.2 15,jA D.2 16,jA D.2 17,jA D.2 18,jA D.2 19,jA D.2 20,jA D.2 21,jA D.2 22, .vC Aa (wA D.2 23), .vC Aa (wA D.2 0)]).bind λo7=>
 Rz D (!bA o7 0)) (cond (decide (gA D.2 2=(↑(0+1+1):Int))) ((DN [jA D.2 24,jA D.2 25,jA D.2 26,jA D.2 27,jA D.2 28,jA D.2 29,jA D.2 30,jA D.2 31,jA D.2 32, .vC Aa (wA D.2 33), .vC Aa (wA D.2 0)]).bind λo8=>
 Rz D (!bA o8 0)) (none)))) (none)) (none)) (none)) (some (2,[])):=by kernel_rfl
theorem Zji (DN:Fn) (N6 N2:Lp) (x0 x1 x2 x3 x4 x5 x6 x7 x8:Int) (x9:Rw) (D G L M N O S T U:Int) (V:Rw) (X Y a0 a1 a2 a3 a4 a5 a6:Int) (a7 a8:Rw):S0 DN N6 N2 [I x0,I x1,I x2,I x3,I x4,I x5,I x6,I x7,I x8, .vC Aa x9,I D,I G,I L,I M,I N,I O,I S,I T,I U, .vC Aa V,I X,I Y,I a0,I a1,I a2,I a3,I a4,I a5,I a6, .vC Aa a7, .vC kPt a8]=
 (N2 [.vC kPt a8,I 0,I x0,I x1,I x2,I x3,I x4,I x5,I x6,I x7,I x8, .vC Aa x9,I D,I G,I L,I M,I N,I O,I S,I T,I U, .vC Aa V,I X,I Y,I a0,I a1,I a2,I a3,I a4,I a5,I a6, .vC Aa a7]).bind λo9=>
 cond (o9.1.beq 1) (some [B (bA o9.2 0)]) (cond (o9.1.beq 2) (some [B true]) (none)):=by kernel_rfl
def YO:=Am (LK Me)
def Q9m:=Am (SC Me YO)
def Nd:=S0 Me YO Q9m
theorem Qas:Ai PG (XE Me):=Ao rfl ⟨Zet,trivial⟩
theorem Z8o:Al PG (Z0a Nd):=rw2 (C:=Q0p Me YO Q9m) (fl (fl fb Qas) Qas) Qas
def Q1c:=qa 266 Y2 Y2
def Qnz:Fn:=An PG C_cncref30_SamePulses_0 64 266 Y2 Y2
theorem Z7t (D:Int):Qnz [I D]=
 cond (decide (D.tmod 256<0)) (some [I (V (V (D.tdiv 256)-1))]) (some [I (V (D.tdiv 256))]):=by kernel_rfl
def ID:=Qnz
theorem Zr2:Ai PG (C_cncref30_SamePulses_0):=Ao rfl trivial
theorem Zbf:Al PG (Q1c ID):=rw1 (C:=C_cncref30_SamePulses_0) Zr2
def Qgm:Sk:=⟨[TS.v true [ci,ci,ci,sa Aj,sa kPt],TS.v true (cc 9++[sa Aa]++cc 9++[sa Aa]++cc 9++[sa Aa]),TS.v true ([sa As]++cc 5),tf [sa Aa]],[],[]⟩
def Zck:=qa 242 Qgm Qhz
def Ql3 (D G I:Fn):Cfg:={cf [Z0a D,Sl G,Q1c I]with lend:=λf=>AH [268] f,cuts:=[30],prom:=λb=>cond (Nat.beq b 3) ([(9,41)]) ([])}
def Qz2:Sk:=⟨[td,td,td,td,tf [sd 4 0],tf [sd 5 0],tf [sd 6 0],td,td,tf [se 9 3],td,td,tf [sa Aa],tf [ci],tf [ci]]++dd 22,[(4,46,[ci,ci,ci,sa Aj,sa kPt]),(5,34,cc 9++[sa Aa]++cc 9++[sa Aa]++cc 9++[sa Aa]),(6,52,[sa As]++cc 5)],[(9,41,kPt)]⟩
def Qty:List (Ex×Sk):=[(Ex.ret,⟨dd 8++[tf [sb]]++dd 28,[],[]⟩),(Ex.exit 0,⟨[td]++dd 36,[],[]⟩)]
def Zk (D G I:Fn):Lp:=AL PG (Ql3 D G I) 64 3 (AN PG 242 3) Qz2 Qty
def Qxo (D G I:Fn) (L:Lp):Cfg:=(Ql3 D G I).loop 3 Qz2 Qty L
def Qfg (D G I:Fn) (L:Lp):Fn:=An PG (Qxo D G I L) 64 242 Qgm Qhz
theorem Z0d (O U X:Fn) (G M:Rw) (N L:Int) (p:Pth) (x:Ax3) (t:Trk):Zk O U X (.vC kPt G:: .vC Aa M::I N::I L::pxt p x t [])=
 cond (decide (L<N)) (cond (decide (0<=L)&&decide (L<(M.length:Int))) ((X [jA (nth [] M L.toNat) 0]).bind λo8=>
 (U (pxt p x t [jA o8 0])).bind λD=>
 cond (((G++[[jA D 0,jA D 1,jA D 2]]).length*24).ble 140737488355328) (cond (decide ((↑(G++[[jA D 0,jA D 1,jA D 2]]).length:Int)>4)) (cond (decide (0<=1)&&decide (1<=(↑(G++[[jA D 0,jA D 1,jA D 2]]).length:Int))) (cond ((Int.toNat 1).ble (G++[[jA D 0,jA D 1,jA D 2]]).length) ((O (AE x++[.vC kPt (List.drop (Int.toNat 1) (G++[[jA D 0,jA D 1,jA D 2]]))])).bind λS=>
 cond (!bA S 0) (some (1,[B false])) (some (0,(.vC kPt (List.drop (Int.toNat 1) (G++[[jA D 0,jA D 1,jA D 2]])):: .vC Aa M::I N::I (V (L+1))::pxt p x t [])))) (none)) (none)) ((O (AE x++[.vC kPt (G++[[jA D 0,jA D 1,jA D 2]])])).bind λT=>
 cond (!bA T 0) (some (1,[B false])) (some (0,(.vC kPt (G++[[jA D 0,jA D 1,jA D 2]]):: .vC Aa M::I N::I (V (L+1))::pxt p x t []))))) (none)) (none)) (some (2,[])):=by kernel_rfl
theorem Zj7 (M N O:Fn) (L:Lp) (D:Rw) (p:Pth) (x:Ax3) (t:Trk):Qfg M N O L (pxt p x t [.vC Aa D])=
 (L (.vC kPt []:: .vC Aa D::I (D.length:Int)::I 0::pxt p x t [])).bind λG=>
 cond (G.1.beq 1) (some [B (bA G.2 0)]) (cond (G.1.beq 2) (some [B true]) (none)):=by kernel_rfl
def Q3l:=Am (Zk Nd El ID)
def QB:=Qfg Nd El ID Q3l
theorem Qts:Ai PG (Ql3 Nd El ID):=Ao rfl ⟨Z8o,Um,Zbf,trivial⟩
theorem Z57:Al PG (Zck QB):=rw2 (C:=Qxo Nd El ID Q3l) (fl fb Qts) Qts
def Zcd:=qa 202 Qea Qhz
def Qex (D:Fn):Cfg:=cf [Qur D]
def SU (D:Fn):Fn:=An PG (Qex D) 64 202 Qea Qhz
theorem Qwc (N:Fn) (G L O M D:Int):SU N [I G,I L,I O,I M,I D]=
 cond (decide (D<V (0-G))) (some [B false]) (cond (decide (D>G)) (some [B false]) (cond (M==0) (cond (decide (D>L)) (some [B false]) ((N [I G,I L,I O,I (V (0-D))]).bind λo4=>
 cond (decide (M>=gA o4 0)) ((N [I G,I L,I O,I D]).bind λS=>
 some [B (decide (M<=V (16777216-gA S 0)))]) (some [B false]))) ((N [I G,I L,I O,I (V (0-D))]).bind λo6=>
 cond (decide (M>=gA o6 0)) ((N [I G,I L,I O,I D]).bind λT=>
 some [B (decide (M<=V (16777216-gA T 0)))]) (some [B false])))):=by kernel_rfl
def Hh:=SU Hq
theorem Zg8:Ai PG (Qex Hq):=Ao rfl ⟨Q0k,trivial⟩
theorem Qxf:Al PG (Zcd Hh):=rw1 (C:=Qex Hq) Zg8
def Qqb:Sk:=⟨[TS.tup [(false,[sa Aa]),(false,[sb])]],[],[]⟩
def Zr0:=qa 265 Qea Qqb
def Wx (D G I:Fn):Cfg:={cf [Zl D,Zcd G,Yb I]with prom:=λb=>cond (Nat.beq b 4) ([(8,3)]) ([])}
def Q25:Sk:=⟨[td,tf [ci],tf [ci],tf [sd 3 0],td,td,td,td,tf [se 8 1]]++dd 27,[(3,36,[ci,ci,ci])],[(8,3,Aa)]⟩
def Q5j:List (Ex×Sk):=[(Ex.ret,⟨dd 6++[tf [CS.nil],tf [sb]]++dd 28,[],[]⟩),(Ex.exit 0,⟨dd 8++[tf [se 8 1]]++dd 27,[],[(8,3,Aa)]⟩)]
def JW (D G I:Fn):Lp:=AL PG (Wx D G I) 64 4 (AN PG 265 4) Q25 Q5j
def Q0s (D G I:Fn) (L:Lp):Cfg:=(Wx D G I).loop 4 Q25 Q5j L
def To (D G I:Fn) (L:Lp):Fn:=An PG (Q0s D G I L) 64 265 Qea Qqb
theorem Tb (S U X:Fn) (G:Rw) (D T M N O:Int):JW S U X [.vC Aa G,I D,I T,I M,I N,I O]=
 cond (decide (D>0)) (cond ((G.length:Int)==4096) (some (1,[B false])) ((S [I M,I N,I O,I D,I T]).bind λL=>
 cond (((G++[[I (V (D+gA L 0))]]).length*8).ble 140737488355328) (some (0,[.vC Aa (G++[[I (V (D+gA L 0))]]),I (V (D+gA L 0)),jA L 0,I M,I N,I O])) (none))) (some (2,[.vC Aa G])):=by kernel_rfl
theorem Qsg (Y U V:Fn) (X:Lp) (G L M N O:Int):To Y U V X [I G,I L,I M,I N,I O]=
 (V [I G,I L,I M]).bind λS=>
 cond (!bA S 0) (some [.vC Aa [],B false]) ((U [I G,I L,I M,I N,I O]).bind λT=>
 cond (!bA T 0) (some [.vC Aa [],B false]) ((X [.vC Aa [],I N,I O,I G,I L,I M]).bind λD=>
 cond (D.1.beq 1) (some [.vC Aa [],B (bA D.2 0)]) (cond (D.1.beq 2) (some [.vC Aa (wA D.2 0),B true]) (none)))):=by kernel_rfl
def Q4u:=Am (JW E4 Hh ES)
def Ly:=To E4 Hh ES Q4u
theorem Q73:Ai PG (Wx E4 Hh ES):=Ao rfl ⟨Qcs,Qxf,Qn8,trivial⟩
theorem Ze6:Al PG (Zr0 Ly):=rw2 (C:=Q0s E4 Hh ES Q4u) (fl fb Q73) Q73
def Qe7:Sk:=⟨[TS.v true [ci,ci,ci],TS.v true (cc 6)],[],[]⟩
def Ym:=qa 240 Qe7 Qqb
def Qgx (D:Fn):Cfg:=cf [Zr0 D]
def Q6c:Sk:=⟨dd 8++[tf [se 25 1],tf [ci]]++dd 18++[tf [sa Aa],tf [ci],tf [ci]]++dd 13,[],[(25,3,Aa)]⟩
def Q6z:List (Ex×Sk):=[(Ex.exit 0,⟨dd 8++[tf [se 25 1]]++dd 35,[],[(25,3,Aa)]⟩)]
def Qm (D:Fn):Lp:=AL PG (Qgx D) 64 7 (AN PG 240 7) Q6c Q6z
def Q2o (D:Fn) (G:Lp):Cfg:=(Qgx D).loop 7 Q6c Q6z G
def UM (D:Fn) (G:Lp):Fn:=An PG (Q2o D G) 64 240 Qe7 Qqb
theorem Zul (O:Fn) (L:Rw) (M:Int) (G:Rw) (N D:Int):Qm O [.vC Aa L,I M, .vC Aa G,I N,I D]=
 cond (decide (D<N)) (cond (decide (0<=D)&&decide (D<(G.length:Int))) (cond (decide (0<=D)&&decide (D<(L.length:Int))) (some (0,[.vC Aa (L.set D.toNat [I (V (M+gA (nth [] G D.toNat) 0))]),I (V (M+gA (nth [] G D.toNat) 0)), .vC Aa G,I N,I (V (D+1))])) (none)) (none)) (some (1,[.vC Aa L])):=by kernel_rfl
theorem Q0n (D:Fn) (G:Lp) (L M N O S T U V X:Int):UM D G [I L,I M,I N,I O,I S,I T,I U,I V,I X]=
 (D [I L,I M,I N,I S,I T]).bind λo3=>
 cond (!bA o3 1) (some [.vC Aa [],B false]) (cond (decide ((↑(wA o3 0).length:Int)=(↑(wA o3 0).length:Int))) (cond (decide (0<=(↑(wA o3 0).length:Int))&&decide ((↑(wA o3 0).length:Int)*(↑8:Int)<=140737488355328)) ((G [.vC Aa (List.replicate (↑(wA o3 0).length:Int).toNat [I 0]),I O, .vC Aa (wA o3 0),I (↑(wA o3 0).length:Int),I 0]).bind λo4=>
 cond (o4.1.beq 1) (some [.vC Aa (wA o4.2 0),B true]) (none)) (none)) (none)):=by kernel_rfl
def Qvd:=Am (Qm Ly)
def FH:=UM Ly Qvd
theorem Q8j:Ai PG (Qgx Ly):=Ao rfl ⟨Ze6,trivial⟩
theorem Qgf:Al PG (Ym FH):=rw2 (C:=Q2o Ly Qvd) (fl fb Q8j) Q8j
def Qlv:Sk:=⟨[TS.v true [ci,ci,ci,sa Aj,sa kPt],TS.v true (cc 9++[sa Aa]++cc 9++[sa Aa]++cc 9++[sa Aa]),TS.v true ([sa As]++cc 5),TS.v true [ci,ci,ci],TS.v true (cc 6),tf [ci]],[],[]⟩
def Q9a:=qa 205 Qlv Qhz
def Yn (D G:Fn):Cfg:={cf [Zck D,Ym G]with rowDst:=[48]}
def ZN (D G:Fn):Fn:=An PG (Yn D G) 64 205 Qlv Qhz
theorem Zeq (Y CA:Fn) (O S T D U X G L M N:Int) (p:Pth) (x:Ax3) (t:Trk):ZN Y CA (pxt p x t [I O,I S,I T,I D,I U,I X,I G,I L,I M,I N])=
 (CA [I O,I S,I T,I D,I U,I X,I G,I L,I M]).bind λo3=>
 cond (!bA o3 1) (some [B false]) (cond (decide ((↑(wA o3 0).length:Int)>0)) (cond (decide (0<=V ((↑(wA o3 0).length:Int)-1))&&decide (V ((↑(wA o3 0).length:Int)-1)<(↑(wA o3 0).length:Int))) (cond (decide (Af (nth .vD (nth [] (wA o3 0) (V ((↑(wA o3 0).length:Int)-1)).toNat) 0)>V (N*256))) (some [B false]) (cond ((([[I M],[I L],[I G],[I D]]++wA o3 0).length*8).ble 140737488355328) (cond ((([[I M],[I L],[I G],[I D]]++wA o3 0++[[I (Af (nth .vD (nth [] (wA o3 0) (V ((↑(wA o3 0).length:Int)-1)).toNat) 0))],[I (Af (nth .vD (nth [] (wA o3 0) (V ((↑(wA o3 0).length:Int)-1)).toNat) 0))]]).length*8).ble 140737488355328) ((Y (pxt p x t [.vC Aa ([[I M],[I L],[I G],[I D]]++wA o3 0++[[I (Af (nth .vD (nth [] (wA o3 0) (V ((↑(wA o3 0).length:Int)-1)).toNat) 0))],[I (Af (nth .vD (nth [] (wA o3 0) (V ((↑(wA o3 0).length:Int)-1)).toNat) 0))]])])).bind λo4=>
 some [B (bA o4 0)]) (none)) (none))) (none)) (cond (decide (D>V (N*256))) (some [B false]) (cond ((([[I M],[I L],[I G],[I D]]++wA o3 0).length*8).ble 140737488355328) (cond ((([[I M],[I L],[I G],[I D]]++wA o3 0++[[I D],[I D]]).length*8).ble 140737488355328) ((Y (pxt p x t [.vC Aa ([[I M],[I L],[I G],[I D]]++wA o3 0++[[I D],[I D]])])).bind λo5=>
 some [B (bA o5 0)]) (none)) (none)))):=by kernel_rfl
def I8:=ZN QB FH
theorem Zlq:Ai PG (Yn QB FH):=Ao rfl ⟨Z57,Qgf,trivial⟩
theorem Qzt:Al PG (Q9a I8):=rw1 (C:=Yn QB FH) Zlq
def Qos:Sk:=⟨[TS.v true [ci,ci,sb,sb,sb],TS.v true [ci,ci,ci],TS.v true (cc 7)],[],[]⟩
def Z0n:=qa 267 Qos Y2
def Qka:Fn:=An PG C_cncref30_SamePulses_0 64 267 Qos Y2
theorem Z36 (L M:Int) (T X Y:Bool) (x5 x6 U x8 x9 N O S D G:Int):Qka [I L,I M,B T,B X,B Y,I x5,I x6,I U,I x8,I x9,I N,I O,I S,I D,I G]=
 cond (T) (some [I 0]) (cond (G !=0) (some [I (mn (mx D 1) 16777216)]) (cond (D==0) (cond (M==0) (some [I 0]) (some [I (mn (mx (V ((V (U*M)).tdiv 100)) 1) 16777216)])) (cond (L==0) (some [I 0]) (some [I (mn (mx (V ((V (D*L)).tdiv 100)) 1) 16777216)])))):=by kernel_rfl
def QF:=Qka
theorem Z29:Ai PG (C_cncref30_SamePulses_0):=Ao rfl trivial
theorem Zvh:Al PG (Z0n QF):=rw1 (C:=C_cncref30_SamePulses_0) Z29
def Qhv:Sk:=⟨[TS.v true [ci,ci,ci,sa Aj,sa kPt],TS.v true ([sa As]++cc 5),TS.v true [ci,ci,ci],TS.v true [ci,ci,sb,sb,sb],tf [ci]],[],[]⟩
def Z0l:=qa 241 Qhv Y2
def Qce (D G I L:Fn):Cfg:=cf [Z0n D,Qg9 G,Tu I,Q1c L]
def Qi1 (D G I L:Fn):Fn:=An PG (Qce D G I L) 64 241 Qhv Y2
theorem Zoe (V X Y DQ:Fn) (D G L M N:Int) (O S T:Bool) (U:Int) (p:Pth) (t:Trk):Qi1 V X Y DQ (EL p t [I D,I G,I L,I M,I N,B O,B S,B T,I U])=
 (DQ [I U]).bind λo4=>
 (Y (Br t++[jA o4 0])).bind λo5=>
 (X (Bu p++[jA o5 0])).bind λo6=>
 cond (decide (0<=gA o6 0)&&decide (gA o6 0<((p.aF.map Ay).length:Int))) ((V (I M::I N::B O::B S::B T::I D::I G::I L::AM Aj (nth [] (p.aF.map Ay) (gA o6 0).toNat))).bind λo7=>
 some [jA o7 0]) (none):=by kernel_rfl
def Np:=Qi1 QF Ey ED ID
theorem Z9n:Ai PG (Qce QF Ey ED ID):=Ao rfl ⟨Zvh,YY,T_,Zbf,trivial⟩
theorem Zqo:Al PG (Z0l Np):=rw1 (C:=Qce QF Ey ED ID) Z9n
def ZX:Sk:=⟨[TS.v true [ci,ci,ci,sa Aj,sa kPt],TS.v true ([sa As]++cc 5),TS.v true [ci,ci,ci],TS.v true [ci,ci,sb,sb,sb],TS.v true (cc 6)],[],[]⟩
def Zn3:=qa 204 ZX Qhz
def Qcq (D G:Fn):Cfg:=cf [Z0l D,Ym G]
def Qw0:Sk:=⟨[td,td,td,td,td,tf [sd 5 0],tf [sd 6 0],tf [sd 7 0],tf [sd 8 0],td,td,td,td,tf [ci]]++dd 30++[tf [sa Aa],tf [ci],tf [ci]]++dd 15,[(5,46,[ci,ci,ci,sa Aj,sa kPt]),(6,52,[sa As]++cc 5),(7,36,[ci,ci,ci]),(8,163,[ci,ci,sb,sb,sb])],[]⟩
def Q9r:List (Ex×Sk):=[(Ex.ret,⟨dd 10++[tf [sb]]++dd 51,[],[]⟩),(Ex.exit 0,⟨[td]++dd 61,[],[]⟩)]
def W5 (D G:Fn):Lp:=AL PG (Qcq D G) 64 6 (AN PG 204 6) Qw0 Q9r
def Q4k (D G:Fn) (I:Lp):Cfg:=(Qcq D G).loop 6 Qw0 Q9r I
def Qhb (D G:Fn) (I:Lp):Fn:=An PG (Q4k D G I) 64 204 ZX Qhz
theorem Zi6 (U Y:Fn) (X:Int) (S:Rw) (T D:Int) (G L M N O:Int) (v20 v21 v22:Bool) (p:Pth) (t:Trk):W5 U Y (I X:: .vC Aa S::I T::I D::EL p t [I G,I L,I M,I N,I O,B v20,B v21,B v22])=
 cond (decide (D<T)) (cond (decide (0<=D)&&decide (D<(S.length:Int))) ((U (EL p t [I G,I L,I M,I N,I O,B v20,B v21,B v22,jA (nth [] S D.toNat) 0])).bind λo6=>
 cond (decide (V (gA (nth [] S D.toNat) 0-X)>gA o6 0)) (some (1,[B false])) (some (0,(jA (nth [] S D.toNat) 0:: .vC Aa S::I T::I (V (D+1))::EL p t [I G,I L,I M,I N,I O,B v20,B v21,B v22])))) (none)) (some (2,[])):=by kernel_rfl
theorem Zj4 (F2 CA:Fn) (N6:Lp) (D G L N O:Int) (S T U:Bool) (M V X Y a0 a1:Int) (p:Pth) (t:Trk):Qhb F2 CA N6 (EL p t [I D,I G,I L,I N,I O,B S,B T,B U,I M,I V,I X,I Y,I a0,I a1])=
 (CA [I D,I G,I L,I M,I V,I X,I Y,I a0,I a1]).bind λo7=>
 cond (!bA o7 1) (some [B false]) (cond (((p.aF.map Ay).length:Int)==0) (some [B false]) ((F2 (EL p t [I D,I G,I L,I N,I O,B S,B T,B U,I M])).bind λo8=>
 cond (decide (V>gA o8 0)) (some [B false]) ((N6 (I M:: .vC Aa (wA o7 0)::I (↑(wA o7 0).length:Int)::I 0::EL p t [I D,I G,I L,I N,I O,B S,B T,B U])).bind λo9=>
 cond (o9.1.beq 1) (some [B (bA o9.2 0)]) (cond (o9.1.beq 2) (some [B true]) (none))))):=by kernel_rfl
def Qze:=Am (W5 Np FH)
def LX:=Qhb Np FH Qze
theorem Q83:Ai PG (Qcq Np FH):=Ao rfl ⟨Zqo,Qgf,trivial⟩
theorem Zij:Al PG (Zn3 LX):=rw2 (C:=Q4k Np FH Qze) (fl fb Q83) Q83
def ZS:Sk:=⟨[TS.v true (cc 6),tf [ci]],[],[]⟩
def Qi8:Sk:=⟨[TS.v true (cc 6)],[],[]⟩
def Q41:=qa 203 ZS Qi8
def Va:Fn:=An PG C_cncref30_SamePulses_0 64 203 ZS Qi8
theorem Z4e (G L O M N S D:Int):Va [I G,I L,I O,I M,I N,I S,I D]=
 some [I (V (G+D)),I D,I (V (D-L)),I G,I M,I N]:=by kernel_rfl
def Jj:=Va
theorem Z9b:Ai PG (C_cncref30_SamePulses_0):=Ao rfl trivial
theorem Q0c:Al PG (Q41 Jj):=rw1 (C:=C_cncref30_SamePulses_0) Z9b
def Zvm:=qa 201 Y2 Qfp
def Qtu:Sk:=⟨[td,td,td,tf [se 3 1],tf [ci]]++dd 32,[],[(3,3,Aa)]⟩
def Qu7:List (Ex×Sk):=[(Ex.exit 0,⟨[td,td,td,tf [se 3 1]]++dd 33,[],[(3,3,Aa)]⟩)]
def QJ:Lp:=AL PG C_limits_Differences_0 64 3 (AN PG 201 3) Qtu Qu7
def Q6w (D:Lp):Cfg:=C_limits_Differences_0.loop 3 Qtu Qu7 D
def Qx4:Sk:=⟨[td,td,td,tf [se 3 1],td,tf [se 16 1],tf [ci]]++dd 30,[],[(3,3,Aa),(16,3,Aa)]⟩
def Q8b:List (Ex×Sk):=[(Ex.exit 2,⟨[td,td,td,td,td,tf [se 16 1]]++dd 31,[],[(16,3,Aa)]⟩)]
def RD (D:Lp):Lp:=AL PG (Q6w D) 64 8 (AN PG 201 8) Qx4 Q8b
def Q4p (D G:Lp):Cfg:=(Q6w D).loop 8 Qx4 Q8b G
def YV (D G:Lp):Fn:=An PG (Q4p D G) 64 201 Y2 Qfp
theorem Zh5 (G:Rw) (D:Int):QJ [.vC Aa G,I D]=
 cond (decide (D>0)) (cond (((G++[[I D]]).length*8).ble 140737488355328) (some (0,[.vC Aa (G++[[I D]]),I (V (D.tdiv 2))])) (none)) (some (1,[.vC Aa G])):=by kernel_rfl
theorem Z0v (M:Lp) (G L:Rw) (D:Int):RD M [.vC Aa G, .vC Aa L,I D]=
 cond (decide (D>=0)) (cond (decide (0<=D)&&decide (D<(G.length:Int))) (cond (((L++[[I (V (0-gA (nth [] G D.toNat) 0))]]).length*8).ble 140737488355328) (some (0,[.vC Aa G, .vC Aa (L++[[I (V (0-gA (nth [] G D.toNat) 0))]]),I (V (D-1))])) (none)) (none)) (some (1,[.vC Aa L])):=by kernel_rfl
theorem Zqj (D G:Lp) (L:Int):YV D G [I L]=
 (D [.vC Aa [],I L]).bind λo3=>
 cond (o3.1.beq 1) (cond ((([]++wA o3.2 0).length*8).ble 140737488355328) (cond ((([]++wA o3.2 0++[[I 0]]).length*8).ble 140737488355328) ((G [.vC Aa (wA o3.2 0), .vC Aa ([]++wA o3.2 0++[[I 0]]),I (V ((↑(wA o3.2 0).length:Int)-1))]).bind λo4=>
 cond (o4.1.beq 1) (some [.vC Aa (wA o4.2 0)]) (none)) (none)) (none)) (none):=by kernel_rfl
def Qox:=Am (QJ)
def Q2y:=Am (RD Qox)
def Pa:=YV Qox Q2y
theorem W_:Ai PG (C_limits_Differences_0):=Ao rfl trivial
theorem Ybc:Al PG (Zvm Pa):=rw2 (C:=Q4p Qox Q2y) (fl (fl fb W_) W_) W_
def Qp5:Sk:=⟨[TS.v true [ci,ci,ci,sa Aj,sa kPt],TS.v true (cc 9++[sa Aa]++cc 9++[sa Aa]++cc 9++[sa Aa]),TS.v true ([sa As]++cc 5),TS.v true [ci,ci,ci],TS.v true [ci,ci,sb,sb,sb],TS.v true (cc 6),tf [ci]],[],[]⟩
def Qb6:=qa 157 Qp5 Qi8
def Qlg (D G I L M N:Fn):Cfg:=cf [Zl D,Q9a G,Zn3 I,Q41 L,Zcd M,Zvm N]
def Q27:Sk:=⟨dd 6++[tf [ci],tf [sd 7 0],tf [sd 8 0],tf [sd 9 0],tf [sd 10 0],tf [sd 11 0],tf [sd 12 0],td,tf [sd 14 0],tf [sd 15 0],tf [sb]]++dd 6++[tf [sa Aa],tf [ci],tf [ci]]++dd 57,[(7,46,[ci,ci,ci,sa Aj,sa kPt]),(8,34,cc 9++[sa Aa]++cc 9++[sa Aa]++cc 9++[sa Aa]),(9,52,[sa As]++cc 5),(10,36,[ci,ci,ci]),(11,163,[ci,ci,sb,sb,sb]),(12,171,cc 6),(14,171,cc 6),(15,171,cc 6)],[]⟩
def Q22:List (Ex×Sk):=[(Ex.exit 0,⟨dd 10++[tf [sd 10 0],td,tf [sd 12 0],td,tf [sd 14 0],tf [sd 15 0],tf [sb]]++dd 66,[(10,36,[ci,ci,ci]),(12,171,cc 6),(14,171,cc 6),(15,171,cc 6)],[]⟩)]
def Qmm (D G I L M N:Fn):Lp:=AL PG (Qlg D G I L M N) 64 4 (AN PG 157 4) Q27 Q22
def Q19 (D G I L M N:Fn) (O:Lp):Cfg:=(Qlg D G I L M N).loop 4 Q27 Q22 O
def Qlb (D G I L M N:Fn) (O:Lp):Fn:=An PG (Q19 D G I L M N O) 64 157 Qp5 Qi8
theorem Zs0 (Bx DC Gp Cq CQ Hf:Fn) (v0:Int) (v1:Bool) (v2:Rw) (v3 v4:Int) (v46 M v48 v49 a0:Int) (v51 a1 v53:Bool) (N L G O S v59 T U X v63 Y v65 a2 a3 v68 v69 v70 a4:Int) (p:Pth) (x:Ax3) (t:Trk):Qmm Bx DC Gp Cq CQ Hf (I v0::B v1:: .vC Aa v2::I v3::I v4::pxt p x t [I v46,I M,I v48,I v49,I a0,B v51,B a1,B v53,I N,I L,I G,I O,I S,I v59,I T,I U,I X,I v63,I Y,I v65,I a2,I a3,I v68,I v69,I v70,I a4])=
 cond (decide (v4<v3)) (cond (decide (0<=v4)&&decide (v4<(v2.length:Int))) (cond (decide (V (L+V (G+gA (nth [] v2 v4.toNat) 0))<0)) (some (0,(I v0::B v1:: .vC Aa v2::I v3::I (V (v4+1))::pxt p x t [I v46,I M,I v48,I v49,I a0,B v51,B a1,B v53,I N,I L,I G,I O,I S,I v59,I T,I U,I X,I v63,I Y,I v65,I a2,I a3,I v68,I v69,I v70,I a4]))) ((CQ [I v46,I M,I v48,I (V (L+V (G+gA (nth [] v2 v4.toNat) 0))),I (V (G+gA (nth [] v2 v4.toNat) 0))]).bind λo9=>
 cond (!bA o9 0) (some (0,(I v0::B v1:: .vC Aa v2::I v3::I (V (v4+1))::pxt p x t [I v46,I M,I v48,I v49,I a0,B v51,B a1,B v53,I N,I L,I G,I O,I S,I v59,I T,I U,I X,I v63,I Y,I v65,I a2,I a3,I v68,I v69,I v70,I a4]))) ((Cq [I N,I L,I G,I O,I S,I v59,I (V (L+V (G+gA (nth [] v2 v4.toNat) 0)))]).bind λD=>
 (Gp (EL p t [I v46,I M,I v48,I v49,I a0,B v51,B a1,B v53,jA D 0,jA D 1,jA D 2,jA D 3,jA D 4,jA D 5])).bind λa5=>
 cond (bA a5 0) ((DC (pxt p x t [I v46,I M,I v48,jA D 0,jA D 1,jA D 2,jA D 3,jA D 4,jA D 5,I v0])).bind λa6=>
 cond (bA a6 0) (some (1,[B true,I v46,I M,I v48,I N,I L,I G,I O,I S,I v59,I T,I U,I X,I v63,I Y,I v65,jA D 0,jA D 1,jA D 2,jA D 3,jA D 4,jA D 5])) (some (0,(I v0::B v1:: .vC Aa v2::I v3::I (V (v4+1))::pxt p x t [I v46,I M,I v48,I v49,I a0,B v51,B a1,B v53,I N,I L,I G,I O,I S,I v59,I T,I U,I X,I v63,I Y,I v65,jA D 0,jA D 1,jA D 2,jA D 3,jA D 4,jA D 5])))) (some (0,(I v0::B v1:: .vC Aa v2::I v3::I (V (v4+1))::pxt p x t [I v46,I M,I v48,I v49,I a0,B v51,B a1,B v53,I N,I L,I G,I O,I S,I v59,I T,I U,I X,I v63,I Y,I v65,jA D 0,jA D 1,jA D 2,jA D 3,jA D 4,jA D 5])))))) (none)) (some (1,[B v1,I v46,I M,I v48,I N,I L,I G,I O,I S,I v59,I T,I U,I X,I v63,I Y,I v65,I a2,I a3,I v68,I v69,I v70,I a4])):=by kernel_rfl
theorem Z4f (Bx DC Gp Cq CQ Hf:Fn) (N4:Lp) (M L N O S:Int) (T U X:Bool) (Y a0 a1 a2 a3 a4 a5:Int) (p:Pth) (x:Ax3) (t:Trk):Qlb Bx DC Gp Cq CQ Hf N4 (pxt p x t [I M,I L,I N,I O,I S,B T,B U,B X,I Y,I a0,I a1,I a2,I a3,I a4,I a5])=
 (Hf [I L]).bind λa6=>
 (N4 (I a5::B false:: .vC Aa (wA a6 0)::I (↑(wA a6 0).length:Int)::I 0::pxt p x t [I M,I L,I N,I O,I S,B T,B U,B X,I Y,I a0,I a1,I a2,I a3,I a4,I 0,I 0,I 0,I 0,I 0,I 0,I 0,I 0,I 0,I 0,I 0,I 0])).bind λD=>
 cond (D.1.beq 1) (cond (bA D.2 0) (some [jA D.2 16,jA D.2 17,jA D.2 18,jA D.2 19,jA D.2 20,jA D.2 21]) ((Bx [jA D.2 1,jA D.2 2,jA D.2 3,jA D.2 5,jA D.2 6]).bind λa7=>
 (Cq [jA D.2 4,jA D.2 5,jA D.2 6,jA D.2 7,jA D.2 8,jA D.2 9,I (V (gA D.2 5+gA a7 0))]).bind λG=>
 some [jA G 0,jA G 1,jA G 2,jA G 3,jA G 4,jA G 5])) (none):=by kernel_rfl
def Q5d:=Am (Qmm E4 I8 LX Jj Hh Pa)
def Fi:=Qlb E4 I8 LX Jj Hh Pa Q5d
theorem Qs0:Ai PG (Qlg E4 I8 LX Jj Hh Pa):=Ao rfl ⟨Qcs,Qzt,Zij,Q0c,Qxf,Ybc,trivial⟩
theorem Qqk:Al PG (Qb6 Fi):=rw2 (C:=Q19 E4 I8 LX Jj Hh Pa Q5d) (fl fb Qs0) Qs0
def Qxp:=qa 209 Qe7 XU
def Qqj (D:Fn):Cfg:=cf [Ym D]
def Po (D:Fn):Fn:=An PG (Qqj D) 64 209 Qe7 XU
theorem Zae (G:Fn) (L M N D O S T U X:Int):Po G [I L,I M,I N,I D,I O,I S,I T,I U,I X]=
 (G [I L,I M,I N,I D,I O,I S,I T,I U,I X]).bind λo1=>
 cond (!bA o1 1) (some [I 0,B false]) (cond ((↑(wA o1 0).length:Int)==0) (some [I D,B true]) (cond (decide (0<=V ((↑(wA o1 0).length:Int)-1))&&decide (V ((↑(wA o1 0).length:Int)-1)<(↑(wA o1 0).length:Int))) (some [I (Af (nth .vD (nth [] (wA o1 0) (V ((↑(wA o1 0).length:Int)-1)).toNat) 0)),B true]) (none))):=by kernel_rfl
def GB:=Po FH
theorem Z28:Ai PG (Qqj FH):=Ao rfl ⟨Qgf,trivial⟩
theorem Qyj:Al PG (Qxp GB):=rw1 (C:=Qqj FH) Z28
def Zg7:=qa 270 YH Y2
def Qqm (D:Fn):Cfg:=cf [L2 D]
def XA (D:Fn):Fn:=An PG (Qqm D) 64 270 YH Y2
theorem Z1e (D:Fn) (G L:Int):XA D [I G,I L]=
 (D [I G,I L,I 4096,I 0]).bind λo1=>
 some [jA o1 0]:=by kernel_rfl
def PY:=XA Bw
theorem Z5v:Ai PG (Qqm Bw):=Ao rfl ⟨K4,trivial⟩
theorem Ybf:Al PG (Zg7 PY):=rw1 (C:=Qqm Bw) Z5v
def Zw4:=qa 271 YH Y2
def ZZ:Fn:=An PG C_cncref30_SamePulses_0 64 271 YH Y2
theorem Zjq (D G:Int):ZZ [I D,I G]=
 some [I (mx (V (D-G)) (V (G-D)))]:=by kernel_rfl
def Rl:=ZZ
theorem Zdj:Ai PG (C_cncref30_SamePulses_0):=Ao rfl trivial
theorem Zsi:Al PG (Zw4 Rl):=rw1 (C:=C_cncref30_SamePulses_0) Zdj
def YE:Sk:=⟨[TS.v true [ci,ci,ci,sa Aj,sa kPt],TS.v true (cc 9++[sa Aa]++cc 9++[sa Aa]++cc 9++[sa Aa]),TS.v true ([sa As]++cc 5),TS.v true [ci,ci,ci],TS.v true [ci,ci,sb,sb,sb],TS.v true (cc 6),tf [ci],tf [ci],TS.v true [ci,ci,ci,ci],tf [ci],tf [ci]],[],[]⟩
def Qq3:Sk:=⟨[TS.tup [(true,cc 6),(true,[ci,ci,ci,ci]),(false,[ci])]],[],[]⟩
def Zm6:=qa 245 YE Qq3
def ZV (D G I L M N O:Fn):Cfg:=cf [Qb6 D,Zl G,Qxp I,Q9a L,Q41 M,Zg7 N,Zw4 O]
def Qlc (D G I L M N O:Fn):Fn:=An PG (ZV D G I L M N O) 64 245 YE Qq3
abbrev Qiu (DX:Fn) (S T U:Int) (G:List AC) (X:Int) (a5:List AC) (Y a0 a6:Int) (Bx:Fn) (D L:Int) (Cq:Fn) (a1 a2 a3 a4:Int):Option (List AC):=
 (DX [I S,I T,I U,jA G 0,jA G 1,jA G 2,jA G 3,jA G 4,jA G 5]).bind λa7=>
 cond (decide (V (V (V (X+gA a5 0)-Y)-a0)>=0)) (cond (decide (gA a7 0>V (a6*256))) ((Bx [I S,I T,I U,I D,I L]).bind λa8=>
 (Cq [I a0,I D,I L,I a1,I a2,I a3,I (V (D+gA a8 0))]).bind λM=>
 some [jA M 0,jA M 1,jA M 2,jA M 3,jA M 4,jA M 5,I 3,I X,I a4,I Y,I 0]) ((Bx [I S,I T,I U,I D,I L]).bind λa9=>
 (Cq [I a0,I D,I L,I a1,I a2,I a3,I (V (D+gA a9 0))]).bind λN=>
 some [jA N 0,jA N 1,jA N 2,jA N 3,jA N 4,jA N 5,I 3,I X,I a4,I Y,I 18])) ((Bx [I S,I T,I U,I D,I L]).bind λb0=>
 (Cq [I a0,I D,I L,I a1,I a2,I a3,I (V (D+gA b0 0))]).bind λO=>
 some [jA O 0,jA O 1,jA O 2,jA O 3,jA O 4,jA O 5,I 3,I X,I a4,I Y,I 18])
theorem Z1p (CD Bx DX DC Cq L9 KP:Fn) (S T U a9 b0:Int) (b7 b1 b2:Bool) (M X Y a0 a1 a2 a3 b3 a4 L N O b4 b5:Int) (p:Pth) (x:Ax3) (t:Trk):Qlc CD Bx DX DC Cq L9 KP (pxt p x t [I S,I T,I U,I a9,I b0,B b7,B b1,B b2,I M,I X,I Y,I a0,I a1,I a2,I a3,I b3,I a4,I L,I N,I O,I b4,I b5])=
 (KP [I b5,I N]).bind λb8=>
 (L9 [I b3,jA b8 0]).bind λa5=>
 cond (a4==1) ((KP [I b4,I N]).bind λb9=>
 (L9 [I b3,jA b9 0]).bind λb6=>
 (Cq [I M,I X,I Y,I a0,I a1,I a2,I (V (gA a5 0-gA b6 0))]).bind λG=>
 cond (V (gA a5 0-gA b6 0) !=0) ((DC (pxt p x t [I S,I T,I U,jA G 0,jA G 1,jA G 2,jA G 3,jA G 4,jA G 5,I a3])).bind λc0=>
 cond (bA c0 0) (some [jA G 0,jA G 1,jA G 2,jA G 3,jA G 4,jA G 5,I 2,I L,I N,I (V (gA a5 0-V (gA G 0-L))),I 0]) ((CD (pxt p x t [I S,I T,I U,I a9,I b0,B false,B b1,B b2,I M,I X,I Y,I a0,I a1,I a2,I a3])).bind λa6=>
 some [jA a6 0,jA a6 1,jA a6 2,jA a6 3,jA a6 4,jA a6 5,I a4,I L,I N,I O,I 0])) ((CD (pxt p x t [I S,I T,I U,I a9,I b0,B false,B b1,B b2,I M,I X,I Y,I a0,I a1,I a2,I a3])).bind λa7=>
 some [jA a7 0,jA a7 1,jA a7 2,jA a7 3,jA a7 4,jA a7 5,I a4,I L,I N,I O,I 0])) (cond (a4==2) ((Cq [I M,I X,I Y,I a0,I a1,I a2,I (V (V (V (L+gA a5 0)-O)-M))]).bind λD=>
 cond (decide (V (V (V (L+gA a5 0)-O)-M)>=0)) ((DC (pxt p x t [I S,I T,I U,jA D 0,jA D 1,jA D 2,jA D 3,jA D 4,jA D 5,I a3])).bind λc1=>
 cond (bA c1 0) (some [jA D 0,jA D 1,jA D 2,jA D 3,jA D 4,jA D 5,I a4,I L,I N,I O,I 0]) (Qiu DX S T U D L a5 O M a3 Bx X Y Cq a0 a1 a2 N)) (Qiu DX S T U D L a5 O M a3 Bx X Y Cq a0 a1 a2 N)) ((CD (pxt p x t [I S,I T,I U,I a9,I b0,B false,B b1,B b2,I M,I X,I Y,I a0,I a1,I a2,I a3])).bind λa8=>
 some [jA a8 0,jA a8 1,jA a8 2,jA a8 3,jA a8 4,jA a8 5,I a4,I L,I N,I O,I 0])):=by kernel_rfl
def JK:=Qlc Fi E4 GB I8 Jj PY Rl
theorem Zoh:Ai PG (ZV Fi E4 GB I8 Jj PY Rl):=Ao rfl ⟨Qqk,Qcs,Qyj,Qzt,Q0c,Ybf,Zsi,trivial⟩
theorem Zhf:Al PG (Zm6 JK):=rw1 (C:=ZV Fi E4 GB I8 Jj PY Rl) Zoh
def WO:=qa 212 Qcg Qkz
def Qlq (D:Fn):Cfg:=cf [Qb6 D]
def Qqg (D:Fn):Fn:=An PG (Qlq D) 64 212 Qcg Qkz
theorem Zht (D:Fn) (G:Int) (K:Kf) (c:Cv):Qqg D (I G::Ad K c)=
 (D (pxt K.p K.x K.t [I K.pa,I K.pb,I K.pc,I c.o0,I c.o1,B c.o2,B c.o3,B c.o4,I c.m0,I c.m1,I c.m2,I c.m3,I c.m4,I c.m5,I G])).bind λo1=>
 some (Ad K {c with m0:=gA o1 0,m1:=gA o1 1,m2:=gA o1 2,m3:=gA o1 3,m4:=gA o1 4,m5:=gA o1 5}):=by kernel_rfl
def HF:=Qqg Fi
theorem Znb:Ai PG (Qlq Fi):=Ao rfl ⟨Qqk,trivial⟩
theorem Qnk:Al PG (WO HF):=rw1 (C:=Qlq Fi) Znb
def Qnr:Sk:=⟨[tf [sd 20000 0],tf [ci],TS.v true (cc 7)],[(20000,179,cS)],[]⟩
def Yal:=qa 215 Qnr Qkz
def Qlz (D G I:Fn):Cfg:=cp [X9 D,Zm6 G,WO I] [161,212]
def Xs (D G I:Fn):Fn:=An PG (Qlz D G I) 64 215 Qnr Qkz
theorem Zm1 (G L M:Fn) (D O S T U V X N:Int) (K:Kf) (c:Cv):Xs G L M (I D::I O::I S::I T::I U::I V::I X::I N::Ad K c)=
 cond (c.g0 !=0) ((M (I D::Ad K c)).bind λo3=>
 some (DR (cR 0 o3) [(82,I 3)])) ((L (pxt K.p K.x K.t [I K.pa,I K.pb,I K.pc,I c.o0,I c.o1,B c.o2,B c.o3,B c.o4,I c.m0,I c.m1,I c.m2,I c.m3,I c.m4,I c.m5,I D,I N,I c.e0,I c.e1,I c.e2,I c.e3,I c.before,I c.s3])).bind λo4=>
 cond (gA o4 10 !=0) ((G (Ad K {c with m0:=gA o4 0,m1:=gA o4 1,m2:=gA o4 2,m3:=gA o4 3,m4:=gA o4 4,m5:=gA o4 5,e0:=gA o4 6,e1:=gA o4 7,e2:=gA o4 8,e3:=gA o4 9})).bind λY=>
 some (cR 0 Y)) (some (Ad K {c with m0:=gA o4 0,m1:=gA o4 1,m2:=gA o4 2,m3:=gA o4 3,m4:=gA o4 4,m5:=gA o4 5,e0:=gA o4 6,e1:=gA o4 7,e2:=gA o4 8,e3:=gA o4 9}))):=by kernel_rfl
def Pp:=Xs GC JK HF
theorem Zso:Ai PG (Qlz GC JK HF):=Ao rfl ⟨Qoo,Zhf,Qnk,trivial⟩
theorem Zrm:Al PG (Yal Pp):=rw1 (C:=Qlz GC JK HF) Zso
def Zgf:=qa 244 YH Y2
def Qnb (D:Fn):Cfg:=cf [L2 D]
def XG (D:Fn):Fn:=An PG (Qnb D) 64 244 YH Y2
theorem Zid (D:Fn) (G L:Int):XG D [I G,I L]=
 (D [I 4096,I L,I G,I 0]).bind λo1=>
 some [jA o1 0]:=by kernel_rfl
def J6:=XG Bw
theorem Z47:Ai PG (Qnb Bw):=Ao rfl ⟨K4,trivial⟩
theorem Z9y:Al PG (Zgf J6):=rw1 (C:=Qnb Bw) Z47
def Z2o:=qa 214 Qnr Qkz
def Xn (D G I:Fn):Cfg:=cr [Zgf D,Rf G,WO I] [163,212] [163]
def Qok (D G I:Fn):Fn:=An PG (Xn D G I) 64 214 Qnr Qkz
theorem Zda (L M O:Fn) (S T U X Y G x6 N:Int) (K:Kf) (c:Cv):Qok L M O (I S::I T::I U::I X::I Y::I G::I x6::I N::Ad K c)=
 (O (I S::Ad K c)).bind λD=>
 cond (decide (0<=G)&&decide (G<(↑(wA D 35).length:Int))) (cond (Af (nth .vD (nth [] (wA D 35) G.toNat) 19)==3) ((M (cR 0 D)).bind λo6=>
 (L [I N,I (V (gA o6 0-gA D 80))]).bind λo7=>
 some (DR (cR 0 D) [(67,I (V (gA D 81+V (V (1*gA o7 0)*256))))])) ((M (cR 0 D)).bind λo8=>
 (L [I N,I (V (gA o8 0-gA D 80))]).bind λo9=>
 some (DR (cR 0 D) [(67,I (V (gA D 81+V (V (-1*gA o9 0)*256))))]))) (none):=by kernel_rfl
def Qk:=Qok J6 DG HF
theorem Zie:Ai PG (Xn J6 DG HF):=Hx (rs:=[163]) rfl ⟨Z9y,Rt,Qnk,trivial⟩ rfl (Ci rfl (FE (Ci rfl HG)))
theorem Zgl:Al PG (Z2o Qk):=rw1 (C:=Xn J6 DG HF) Zie
def Z9t:=qa 269 YH Y2
def Qj2:Fn:=An PG C_cncref30_SamePulses_0 64 269 YH Y2
theorem Z7w (G D:Int):Qj2 [I G,I D]=
 cond (decide (D=0)) (none) (cond (decide (D=0)) (none) (cond (decide (G.tmod D<0)) (some [I (V (V (G.tdiv D)-1))]) (some [I (V (G.tdiv D))]))):=by kernel_rfl
def JO:=Qj2
theorem Z9l:Ai PG (C_cncref30_SamePulses_0):=Ao rfl trivial
theorem Z7p:Al PG (Z9t JO):=rw1 (C:=C_cncref30_SamePulses_0) Z9l
def Zxj:=qa 243 YH Y2
def Qnv (D:Fn):Cfg:=cf [Z9t D]
def Qh2 (D:Fn):Fn:=An PG (Qnv D) 64 243 YH Y2
theorem Z1n (D:Fn) (G L:Int):Qh2 D [I G,I L]=
 cond (L== -1) ((D [I G,I 1048576]).bind λo2=>
 some [I (V (gA o2 0*1048576))]) ((D [I (V (0-G)),I 1048576]).bind λo3=>
 some [I (V (V (0-gA o3 0)*1048576))]):=by kernel_rfl
def Ki:=Qh2 JO
theorem Zz3:Ai PG (Qnv JO):=Ao rfl ⟨Z7p,trivial⟩
theorem Zkb:Al PG (Zxj Ki):=rw1 (C:=Qnv JO) Zz3
def Qms:Sk:=⟨[tf [sd 20000 0],TS.v true (cc 7)],[(20000,179,cS)],[]⟩
def Qgg:Sk:=⟨[tf [sb]],[(20000,179,cS)],[]⟩
def Zi2:=qa 213 Qms Qgg
def Vo (D G:Fn):Cfg:=cr [Rf D,Zxj G] [163] [163]
def Qk6 (D G:Fn):Fn:=An PG (Vo D G) 64 213 Qms Qgg
theorem Zxi (G L:Fn) (M N O S D T U:Int) (K:Kf) (c:Cv):Qk6 G L (I M::I N::I O::I S::I D::I T::I U::Ad K c)=
 (L [I c.before,I c.s0]).bind λo3=>
 cond (decide (0<=D)&&decide (D<((K.aA.map Ag).length:Int))) (cond (gA (nth [] (K.aA.map Ag) D.toNat) 0 !=6) (cond (c.s1==0) (some (B false::Ad K c)) (cond (decide (V (V (c.s3-gA o3 0)*c.s0)<0)) (some (B false::Ad K c)) ((G (Ad K c)).bind λo4=>
 some (B true::Ad K {c with y0:=D,y1:=gA o4 0,y2:=c.s3,e0:=1,e1:=c.m0,e2:=gA o3 0,e3:=0})))) ((G (Ad K c)).bind λX=>
 some (B true::Ad K {c with y0:=D,y1:=gA X 0,y2:=c.s3,e0:=1,e1:=c.m0,e2:=gA o3 0,e3:=0}))) (none):=by kernel_rfl
def Qo:=Qk6 DG Ki
theorem Ybg:Ai PG (Vo DG Ki):=Hx (rs:=[163]) rfl ⟨Rt,Zkb,trivial⟩ rfl (FE (Ci rfl HG))
theorem Zv6:Al PG (Zi2 Qo):=rw1 (C:=Vo DG Ki) Ybg
def Qni:Sk:=⟨[TS.tup [(true,cc 7),(false,[sb])]],[],[]⟩
def Qf1 (M:Fn):Nat×Spec:=(155,ET Qnp Qni M)
def Qu (D G:Fn):Cfg:=cr [Qg9 D,Rf G] [163] [163]
def Qp4 (D G:Fn):Fn:=Lm PG (Qu D G) 64 155 Qnp Qni
theorem Zi9 (D G:Fn) (K:Kf) (c:Cv):Qp4 D G (Ad K c)=
 (G (Ad K c)).bind λo2=>
 (D (Bu K.p++[jA o2 0])).bind λo3=>
 cond (decide (gA o3 0<0)) (some [I 0,I 0,I 0,I 0,I 0,I 0,I 0,B false]) (cond (decide (0<=gA o3 0)&&decide (gA o3 0<((K.p.aF.map Ay).length:Int))) (some (AM Aj (nth [] (K.p.aF.map Ay) (gA o3 0).toNat)++[B true])) (none)):=by kernel_rfl
def FB:=Qp4 Ey DG
theorem Zmp:Ai PG (Qu Ey DG):=Hx (rs:=[163]) rfl ⟨YY,Rt,trivial⟩ rfl (Ci rfl (FE HG))
theorem Z4k (vars : List AC) (R : Type) (K : TV -> Mem -> Option R) : EB PG (Qu Ey DG) 64 155 [TV.v false [AC.ptr 20000 0]] ⟨[(20000, (⟨179, (cR 0 vars)⟩ : Box))], []⟩ K = EB PG (Qu Ey DG) 64 155 [TV.v false [AC.ptr 20000 0]] ⟨[(20000, (⟨179, (cR 0 vars)⟩ : Box))], []⟩ (λv _ => K v ⟨[(20000, (⟨179, (cR 0 vars)⟩ : Box))], []⟩) := dh (b := ((DG (cR 0 vars)).bind λo2 =>
 (Ey [jA vars 37,jA vars 38,jA vars 39, .vC Aj (wA vars 40), .vC kPt (wA vars 41),jA o2 0]).bind λo3=>
 cond (decide (gA o3 0<0)) (K (TV.tup [(true,[I 0,I 0,I 0,I 0,I 0,I 0,I 0]),(false,[B false])]) ⟨[(20000,(⟨179,(cR 0 vars)⟩:Box))],[]⟩) (cond (decide (0<=gA o3 0)&&decide (gA o3 0<(↑(wA vars 40).length:Int))) (K (TV.tup [(true,[I (Af (nth .vD (nth [] (wA vars 40) (gA o3 0).toNat) 0)),I (Af (nth .vD (nth [] (wA vars 40) (gA o3 0).toNat) 1)),I (Af (nth .vD (nth [] (wA vars 40) (gA o3 0).toNat) 2)),I (Af (nth .vD (nth [] (wA vars 40) (gA o3 0).toNat) 3)),I (Af (nth .vD (nth [] (wA vars 40) (gA o3 0).toNat) 4)),I (Af (nth .vD (nth [] (wA vars 40) (gA o3 0).toNat) 5)),I (Af (nth .vD (nth [] (wA vars 40) (gA o3 0).toNat) 6))]),(false,[B true])]) ⟨[(20000,(⟨179,(cR 0 vars)⟩:Box))],[]⟩) (none)))) (by kernel_rfl) (Eq.symm (by kernel_rfl))
theorem Qhe:Al PG (155,ET Qnp Qni FB):=Sn (C:=Qu Ey DG) (L:=64) (by kernel_rfl) (FnOK.bare rfl rfl rfl) Zmp eqOk Hk (by kernel_rfl) (by kernel_rfl) (λvars R K=>Z4k vars R K)
def Zxr:=qa 162 Qcg Qkz
def Qhy (D G I L M N:Fn):Cfg:=cr [Yal D,Z2o G,X9 I,Zi2 L,WO M,Qf1 N] [215,214,161,213,212,155] [155]
def ZD (D G I L M N:Fn):Fn:=An PG (Qhy D G I L M N) 64 162 Qcg Qkz
abbrev Tq (c:Cv) (D:List AC) (X:Fn) (K:Kf) (Y U:Fn) (L:Int) (V:Fn):Option (List AC):=
 cond (!c.y0==gA D 4) ((X (jA D 0::jA D 1::jA D 2::jA D 3::jA D 4::jA D 5::jA D 6::Ad K c)).bind λG=>
 cond (!bA G 0) (cond (gA G 66==0) ((Y (cR 1 G)).bind λM=>
 some (cR 0 M)) (some (cR 1 G))) (cond (decide (0<=gA D 4)&&decide (gA D 4<(↑(wA G 36).length:Int))) (cond (Af (nth .vD (nth [] (wA G 36) (gA D 4).toNat) 0)==6) ((U (I L::jA D 0::jA D 1::jA D 2::jA D 3::jA D 4::jA D 5::jA D 6::cR 1 G)).bind λN=>
 some (cR 0 N)) ((V (I L::jA D 0::jA D 1::jA D 2::jA D 3::jA D 4::jA D 5::jA D 6::cR 1 G)).bind λO=>
 some (cR 0 O))) (none))) (cond (decide (0<=gA D 4)&&decide (gA D 4<((K.aA.map Ag).length:Int))) (cond (gA (nth [] (K.aA.map Ag) (gA D 4).toNat) 0==6) ((U (I L::jA D 0::jA D 1::jA D 2::jA D 3::jA D 4::jA D 5::jA D 6::Ad K c)).bind λS=>
 some (cR 0 S)) ((V (I L::jA D 0::jA D 1::jA D 2::jA D 3::jA D 4::jA D 5::jA D 6::Ad K c)).bind λT=>
 some (cR 0 T))) (none))
theorem Zgt (L M N O S V:Fn) (G:Int) (K:Kf) (c:Cv):ZD L M N O S V (I G::Ad K c)=
 (V (Ad K c)).bind λD=>
 cond (gA D 6==0) ((S (I G::Ad K c)).bind λT=>
 some (cR 0 T)) (cond (c.o2) (cond (!c.y0==gA D 4) ((S (I G::Ad K c)).bind λU=>
 some (cR 0 U)) (Tq c D O K N M G L)) (Tq c D O K N M G L)):=by kernel_rfl
def Pv:=ZD Pp Qk GC Qo HF FB
theorem Z15:Ai PG (Qhy Pp Qk GC Qo HF FB):=Hx (rs:=[155]) rfl ⟨Zrm,Zgl,Qoo,Zv6,Qnk,Qhe,trivial⟩ rfl (Ci rfl (Ci rfl (Ci rfl (Ci rfl (Ci rfl (FE HG))))))
theorem Zoq:Al PG (Zxr Pv):=rw1 (C:=Qhy Pp Qk GC Qo HF FB) Z15
def Qf3:=qa 147 Y2 Y2
def WP (D:Fn):Cfg:=cf [L2 D]
def Ti (D:Fn):Fn:=An PG (WP D) 64 147 Y2 Y2
theorem Q2j (D:Fn) (G:Int):Ti D [I G]=
 (D [I G,I 1048576,I 60000,I 2]).bind λo1=>
 some [jA o1 0]:=by kernel_rfl
def EU:=Ti Bw
theorem Zqw:Ai PG (WP Bw):=Ao rfl ⟨K4,trivial⟩
theorem Qji:Al PG (Qf3 EU):=rw1 (C:=WP Bw) Zqw
def Q4e:=qa 238 Y2 Y2
def Qjl:Fn:=An PG C_cncref30_SamePulses_0 64 238 Y2 Y2
theorem Zdq (D:Int):Qjl [I D]=
 cond (D==3) (some [I 1]) (cond (D==4) (some [I (-1)]) (some [I 0])):=by kernel_rfl
def GQ:=Qjl
theorem Z49:Ai PG (C_cncref30_SamePulses_0):=Ao rfl trivial
theorem Qyo:Al PG (Q4e GQ):=rw1 (C:=C_cncref30_SamePulses_0) Z49
def Qpf:Sk:=⟨[TS.v true [ci,ci,ci,ci],tf [ci],tf [ci]],[],[]⟩
def Zc9:=qa 200 Qpf Qhz
def Qj7 (D G:Fn):Cfg:=cf [Qf3 D,Q4e G]
def Xo (D G:Fn):Fn:=An PG (Qj7 D G) 64 200 Qpf Qhz
theorem Zqv (D O:Fn) (S G L T M N:Int):Xo D O [I S,I G,I L,I T,I M,I N]=
 (O [I M]).bind λo3=>
 cond (gA o3 0==0) (cond (M==5) (cond (G==0) (some [B (L==0)]) (some [B false])) (some [B false])) (cond (S==gA o3 0) ((D [I N]).bind λo4=>
 cond (G==gA o4 0) ((D [I N]).bind λU=>
 some [B (L==gA U 0)]) (some [B false])) (some [B false])):=by kernel_rfl
def Ml:=Xo EU GQ
theorem Z0t:Ai PG (Qj7 EU GQ):=Ao rfl ⟨Qji,Qyo,trivial⟩
theorem Z7v:Al PG (Zc9 Ml):=rw1 (C:=Qj7 EU GQ) Z0t
def WV:Sk:=⟨[TS.v true [ci,ci,ci,ci]],[],[]⟩
def Zwa:=qa 199 Qpf WV
def Qbe (D G:Fn):Cfg:=cf [Qf3 D,Q4e G]
def Yd (D G:Fn):Fn:=An PG (Qbe D G) 64 199 Qpf WV
theorem Zmj (M S:Fn) (L D T G N O:Int):Yd M S [I L,I D,I T,I G,I N,I O]=
 (S [I N]).bind λo3=>
 cond (N==5) (some [I L,I D,I 0,I G]) (cond (gA o3 0==0) (some [I L,I D,I T,I G]) (cond (D==0) ((M [I O]).bind λo4=>
 some [jA o3 0,I D,jA o4 0,I G]) (cond (L==gA o3 0) ((M [I O]).bind λU=>
 some [jA o3 0,I D,jA U 0,I G]) (some [I L,I D,I 0,I G])))):=by kernel_rfl
def KM:=Yd EU GQ
theorem Z6y:Ai PG (Qbe EU GQ):=Ao rfl ⟨Qji,Qyo,trivial⟩
theorem Zmd:Al PG (Zwa KM):=rw1 (C:=Qbe EU GQ) Z6y
def Qk2:Sk:=⟨[tf [ci]],[(20000,179,cS)],[]⟩
def Zd3:=qa 198 Qnp Qk2
def Qer:Fn:=An PG C_cncref30_SamePulses_0 64 198 Qnp Qk2
theorem Zud (K:Kf) (c:Cv):Qer (Ad K c)=
 some (I 3::Ad K {c with next:=V (c.idx+1),on:=false,idx:=0,aN:=false,cnt:=0}):=by kernel_rfl
def Om:=Qer
theorem Ze0:Ai PG (C_cncref30_SamePulses_0):=Ao rfl trivial
theorem Zjp:Al PG (Zd3 Om):=rw1 (C:=C_cncref30_SamePulses_0) Ze0
def Qtl:=qa 156 Qnp Qk2
def YN (D G I:Fn):Cfg:=cp [Zc9 D,Zwa G,Zd3 I] [198]
def VT (D G I:Fn):Fn:=An PG (YN D G I) 64 156 Qnp Qk2
theorem Zs8 (O S G:Fn) (K:Kf) (c:Cv):VT O S G (Ad K c)=
 cond (c.aN) (cond (decide (V (c.cnt+1)>1)) (cond (c.aJ) ((G (Ad K {c with cnt:=V (c.cnt+1)})).bind λT=>
 some (jA T 0::cR 1 T)) (some (I 2::Ad K {c with cnt:=V (c.cnt+1)}))) (some (I 2::Ad K {c with cnt:=V (c.cnt+1)}))) (cond (decide (0<=c.idx)&&decide (c.idx<((K.p.aD.map At).length:Int))) (cond (gA (nth [] (K.p.aD.map At) c.idx.toNat) 1 !=3) ((G (Ad K {c with cnt:=V (c.cnt+1)})).bind λo8=>
 some (jA o8 0::cR 1 o8)) (cond (decide (0<=gA (nth [] (K.p.aD.map At) c.idx.toNat) 2)&&decide (gA (nth [] (K.p.aD.map At) c.idx.toNat) 2<((K.aA.map Ag).length:Int))) (cond (gA (nth [] (K.aA.map Ag) (gA (nth [] (K.p.aD.map At) c.idx.toNat) 2).toNat) 0==7) (cond (decide (V (c.cnt+1)<gA (nth [] (K.aA.map Ag) (gA (nth [] (K.p.aD.map At) c.idx.toNat) 2).toNat) 19)) (some (I 3::Ad K {c with cnt:=V (c.cnt+1)})) ((G (Ad K {c with cnt:=V (c.cnt+1)})).bind λU=>
 some (jA U 0::cR 1 U))) (cond (gA (nth [] (K.aA.map Ag) (gA (nth [] (K.p.aD.map At) c.idx.toNat) 2).toNat) 0==8) ((S [I c.s0,I c.s1,I c.s2,I c.s3,jA (nth [] (K.aA.map Ag) (gA (nth [] (K.p.aD.map At) c.idx.toNat) 2).toNat) 19,jA (nth [] (K.aA.map Ag) (gA (nth [] (K.p.aD.map At) c.idx.toNat) 2).toNat) 20]).bind λD=>
 (O [jA D 0,jA D 1,jA D 2,jA D 3,jA (nth [] (K.aA.map Ag) (gA (nth [] (K.p.aD.map At) c.idx.toNat) 2).toNat) 19,jA (nth [] (K.aA.map Ag) (gA (nth [] (K.p.aD.map At) c.idx.toNat) 2).toNat) 20]).bind λN=>
 cond (!bA N 0) (some (I 3::Ad K {c with s0:=gA D 0,s1:=gA D 1,s2:=gA D 2,s3:=gA D 3,cnt:=V (c.cnt+1)})) ((G (Ad K {c with s0:=gA D 0,s1:=gA D 1,s2:=gA D 2,s3:=gA D 3,cnt:=V (c.cnt+1)})).bind λL=>
 some (jA L 0::cR 1 L))) (cond (gA (nth [] (K.aA.map Ag) (gA (nth [] (K.p.aD.map At) c.idx.toNat) 2).toNat) 0==14) (some (I 7::Ad K {c with cnt:=V (c.cnt+1),aI:=7})) ((G (Ad K {c with cnt:=V (c.cnt+1)})).bind λM=>
 some (jA M 0::cR 1 M))))) (none))) (none)):=by kernel_rfl
def Kc:=VT Ml KM Om
theorem Zdp:Ai PG (YN Ml KM Om):=Ao rfl ⟨Z7v,Zmd,Zjp,trivial⟩
theorem Zaw:Al PG (Qtl Kc):=rw1 (C:=YN Ml KM Om) Zdp
def Zpb:=qa 160 Qcg Qk2
def Qja (D:Fn):Cfg:=cp [Qtl D] [156]
def Qgc (D:Fn):Fn:=An PG (Qja D) 64 160 Qcg Qk2
theorem Z90 (G:Fn) (D:Int) (K:Kf) (c:Cv):Qgc G (I D::Ad K c)=
 cond (decide (0<=D)&&decide (D<((K.p.aD.map At).length:Int))) (cond (gA (nth [] (K.p.aD.map At) D.toNat) 1==1) ((G (Ad K {c with on:=true,idx:=D,aN:=c.o3,cnt:=0})).bind λS=>
 some (jA S 0::cR 1 S)) (cond (gA (nth [] (K.p.aD.map At) D.toNat) 1==2) ((G (Ad K {c with on:=true,idx:=D,aN:=c.o3,cnt:=0})).bind λo8=>
 some (jA o8 0::cR 1 o8)) (cond (gA (nth [] (K.p.aD.map At) D.toNat) 1==6) ((G (Ad K {c with on:=true,idx:=D,aN:=c.o3,cnt:=0})).bind λT=>
 some (jA T 0::cR 1 T)) (cond (gA (nth [] (K.p.aD.map At) D.toNat) 1==4) ((G (Ad K {c with on:=true,idx:=D,aN:=true,cnt:=0})).bind λL=>
 some (jA L 0::cR 1 L)) (cond (gA (nth [] (K.p.aD.map At) D.toNat) 1==3) (cond (decide (0<=gA (nth [] (K.p.aD.map At) D.toNat) 2)&&decide (gA (nth [] (K.p.aD.map At) D.toNat) 2<((K.aA.map Ag).length:Int))) (cond (gA (nth [] (K.aA.map Ag) (gA (nth [] (K.p.aD.map At) D.toNat) 2).toNat) 0==11) ((G (Ad K {c with on:=true,idx:=D,aN:=true,cnt:=0})).bind λM=>
 some (jA M 0::cR 1 M)) ((G (Ad K {c with on:=true,idx:=D,aN:=gA (nth [] (K.aA.map Ag) (gA (nth [] (K.p.aD.map At) D.toNat) 2).toNat) 0==12,cnt:=0})).bind λN=>
 some (jA N 0::cR 1 N))) (none)) ((G (Ad K {c with on:=true,idx:=D,aN:=false,cnt:=0})).bind λO=>
 some (jA O 0::cR 1 O))))))) (none):=by kernel_rfl
def Pj:=Qgc Kc
theorem Zk0:Ai PG (Qja Kc):=Ao rfl ⟨Zaw,trivial⟩
theorem Z52:Al PG (Zpb Pj):=rw1 (C:=Qja Kc) Zk0
def Qjb:Sk:=⟨[tf [sa kPt],tf [ci],TS.v true [ci,ci,sb,sb,sb],tf [ci],tf [ci]],[],[]⟩
def Ybm:=qa 211 Qjb Wv
def Qfw (D:Fn):Cfg:=cf [Qxm D]
def Q34:Sk:=⟨[tf [sa kPt],td,td,tf [ci],tf [ci],td,td,tf [sd 7 0],td,td,td,td,tf [ci]]++dd 32,[(7,163,[ci,ci,sb,sb,sb])],[]⟩
def Qyk:List (Ex×Sk):=[(Ex.ret,⟨dd 10++[tf [ci],tf [ci]]++dd 33,[],[]⟩),(Ex.exit 0,⟨[td,td,td,tf [ci]]++dd 41,[],[]⟩)]
def Rx (D:Fn):Lp:=AL PG (Qfw D) 64 2 (AN PG 211 2) Q34 Qyk
def Quf (D:Fn) (G:Lp):Cfg:=(Qfw D).loop 2 Q34 Qyk G
def Qev (D:Fn) (G:Lp):Fn:=An PG (Quf D G) 64 211 Qjb Wv
theorem Zne (X:Fn) (G:Rw) (L M D N O:Int) (S T U:Bool):Rx X [.vC kPt G,I L,I M,I D,I N,I O,B S,B T,B U]=
 cond (decide (D<(G.length:Int))) (cond (decide (0<=D)&&decide (D<(G.length:Int))) ((X [jA (nth [] G D.toNat) 0,jA (nth [] G D.toNat) 1,jA (nth [] G D.toNat) 2,I N,I O,B S,B T,B U]).bind λo2=>
 cond (bA o2 0) (cond (decide (M<=gA (nth [] G D.toNat) 0)) (cond (decide (gA (nth [] G D.toNat) 0<=L)) (some (1,[jA (nth [] G D.toNat) 0,I D])) (some (0,[.vC kPt G,I L,I M,I (V (D+1)),I N,I O,B S,B T,B U]))) (some (0,[.vC kPt G,I L,I M,I (V (D+1)),I N,I O,B S,B T,B U]))) (some (0,[.vC kPt G,I L,I M,I (V (D+1)),I N,I O,B S,B T,B U]))) (none)) (some (2,[I L])):=by kernel_rfl
theorem Zgh (X:Fn) (D:Lp) (G:Rw) (L M N:Int) (O S T:Bool) (U V:Int):Qev X D [.vC kPt G,I L,I M,I N,B O,B S,B T,I U,I V]=
 (D [.vC kPt G,I U,I V,I (mx L 0),I M,I N,B O,B S,B T]).bind λo3=>
 cond (o3.1.beq 1) (some [jA o3.2 0,jA o3.2 1]) (cond (o3.1.beq 2) (some [jA o3.2 0,I (-1)]) (none)):=by kernel_rfl
def Qzz:=Am (Rx Ik)
def PK:=Qev Ik Qzz
theorem Q9e:Ai PG (Qfw Ik):=Ao rfl ⟨Qwd,trivial⟩
theorem Yam:Al PG (Ybm PK):=rw2 (C:=Quf Ik Qzz) (fl fb Q9e) Q9e
def Z3x:=qa 210 Xy Y2
def Q7e:Sk:=⟨[td,tf [ci]]++dd 11++[tf [sa As],tf [ci],tf [ci]]++dd 28,[],[]⟩
def Qr7:List (Ex×Sk):=[(Ex.ret,⟨[td,td,td,td,tf [ci]]++dd 39,[],[]⟩),(Ex.exit 0,⟨[td]++dd 43,[],[]⟩)]
def Rm:Lp:=AL PG C_cncref30_SamePulses_0 64 4 (AN PG 210 4) Q7e Qr7
def Qwp (D:Lp):Cfg:=C_cncref30_SamePulses_0.loop 4 Q7e Qr7 D
def Q85 (D:Lp):Fn:=An PG (Qwp D) 64 210 Xy Y2
theorem Quv (L:Int) (G:Rw) (M D:Int):Rm [I L, .vC As G,I M,I D]=
 cond (decide (D<M)) (cond (decide (0<=D)&&decide (D<(G.length:Int))) (cond (gA (nth [] G D.toNat) 3 !=0) (cond (decide (0<=V (V (L-gA (nth [] G D.toNat) 2)*gA (nth [] G D.toNat) 3))) (cond (decide (V (V (L-gA (nth [] G D.toNat) 2)*gA (nth [] G D.toNat) 3)<=gA (nth [] G D.toNat) 1)) (some (1,[I (V (gA (nth [] G D.toNat) 0+V (V (L-gA (nth [] G D.toNat) 2)*gA (nth [] G D.toNat) 3)))])) (some (0,[I L, .vC As G,I M,I (V (D+1))]))) (some (0,[I L, .vC As G,I M,I (V (D+1))]))) (some (0,[I L, .vC As G,I M,I (V (D+1))]))) (none)) (some (2,[])):=by kernel_rfl
theorem Yaf (L:Lp) (D:Rw) (N M O S T G:Int):Q85 L [.vC As D,I N,I M,I O,I S,I T,I G]=
 cond (G==M) (some [I 0]) ((L [I G, .vC As D,I (D.length:Int),I 0]).bind λo1=>
 cond (o1.1.beq 1) (some [jA o1.2 0]) (cond (o1.1.beq 2) (some [I (-1)]) (none))):=by kernel_rfl
def Li:=Am (Rm)
def Nh:=Q85 Li
theorem Zan:Ai PG (C_cncref30_SamePulses_0):=Ao rfl trivial
theorem Zmr:Al PG (Z3x Nh):=rw2 (C:=Qwp Li) (fl fb Zan) Zan
def Qm6:Sk:=⟨[TS.tup [(false,[ci]),(false,[ci])]],[(20000,179,cS)],[]⟩
def Zz7:=qa 159 Qnp Qm6
def XZ (D G I L:Fn):Cfg:=cf [Ybm D,Z3x G,Tu I,Qxp L]
def Zm (D G I L:Fn):Fn:=An PG (XZ D G I L) 64 159 Qnp Qm6
abbrev T9 (Y:Fn) (K:Kf) (c:Cv) (B0 O X:Fn) (D:AC):Option (List AC):=
 (Y [I K.pa,I K.pb,I K.pc,I c.m0,I c.m1,I c.m2,I c.m3,I c.m4,I c.m5]).bind λL=>
 (B0 (Br K.t++[I (V ((V (V (gA L 0+256)-1)).tdiv 256))])).bind λG=>
 (O (Br K.t++[jA G 0])).bind λS=>
 cond (gA S 0 !=V ((V (V (gA L 0+256)-1)).tdiv 256)) ((X [.vC kPt (K.p.aD.map At),I c.next,I c.o0,I c.o1,B c.o2,B c.o3,B c.o4,D,I (V (gA G 0+1))]).bind λM=>
 (O (Br K.t++[jA M 0])).bind λT=>
 some (jA T 0::jA M 1::Ad K c)) ((X [.vC kPt (K.p.aD.map At),I c.next,I c.o0,I c.o1,B c.o2,B c.o3,B c.o4,D,jA G 0]).bind λN=>
 (O (Br K.t++[jA N 0])).bind λU=>
 some (jA U 0::jA N 1::Ad K c))
theorem Z94 (D G L M:Fn) (K:Kf) (c:Cv):Zm D G L M (Ad K c)=
 cond (K.closed) (T9 M K c L G D (I K.len)) (T9 M K c L G D (I K.set)):=by kernel_rfl
def QI:=Zm PK Nh ED GB
theorem Z1m:Ai PG (XZ PK Nh ED GB):=Ao rfl ⟨Yam,Zmr,T_,Qyj,trivial⟩
theorem Z4v:Al PG (Zz7 QI):=rw1 (C:=XZ PK Nh ED GB) Z1m
def Znw:=qa 109 Qnp Qk2
def Qg0 (D G I L:Fn):Cfg:=cp [Zxr D,X9 G,Zpb I,Zz7 L] [162,161,160,159]
def Xx (D G I L:Fn):Fn:=An PG (Qg0 D G I L) 64 109 Qnp Qk2
theorem Zzi (G S T U:Fn) (K:Kf) (c:Cv):Xx G S T U (Ad K c)=
 (U (Ad K c)).bind λD=>
 cond (bA D 90) (cond (gA D 52==V (gA D 0*256)) (cond (decide (gA D 1>=0)) ((T (jA D 1::cR 2 D)).bind λo8=>
 cond (decide (0<=gA D 1)&&decide (gA D 1<(↑(wA o8 42).length:Int))) (cond (Af (nth .vD (nth [] (wA o8 42) (gA D 1).toNat) 2)==gA o8 80) (cond (decide (0<=Af (nth .vD (nth [] (wA o8 42) (gA D 1).toNat) 2))&&decide (Af (nth .vD (nth [] (wA o8 42) (gA D 1).toNat) 2)<(↑(wA o8 36).length:Int))) (cond (Af (nth .vD (nth [] (wA o8 36) (Af (nth .vD (nth [] (wA o8 42) (gA D 1).toNat) 2)).toNat) 0)==5) (cond (gA o8 83==1) ((S (cR 1 o8)).bind λX=>
 some (jA o8 0::cR 0 X)) (some (jA o8 0::cR 1 o8))) (some (jA o8 0::cR 1 o8))) (none)) (some (jA o8 0::cR 1 o8))) (none)) (cond (bA D 38) (some (I 7::DR (cR 2 D) [(78,I 7)])) (some (I 1::cR 2 D)))) (cond (gA D 63 !=0) ((G (jA D 0::cR 2 D)).bind λL=>
 cond (bA D 90) (some (I 6::cR 0 L)) (some (I 1::cR 0 L))) ((G (jA D 0::cR 2 D)).bind λN=>
 some (I 1::cR 0 N)))) (cond (gA D 63 !=0) ((G (jA D 0::cR 2 D)).bind λM=>
 cond (bA D 90) (some (I 6::cR 0 M)) (some (I 1::cR 0 M))) ((G (jA D 0::cR 2 D)).bind λO=>
 some (I 1::cR 0 O))):=by kernel_rfl
def KT:=Xx Pv GC Pj QI
theorem Z2n:Ai PG (Qg0 Pv GC Pj QI):=Ao rfl ⟨Zoq,Qoo,Z52,Z4v,trivial⟩
theorem Zqp:Al PG (Znw KT):=rw1 (C:=Qg0 Pv GC Pj QI) Z2n
def Q5h:=qa 98 Y2 Qi8
def Qay:Fn:=An PG C_cncref30_SamePulses_0 64 98 Y2 Qi8
theorem Z5y (D:Int):Qay [I D]=
 some [I (V (D*256)),I 0,I 0,I (V (D*256)),I (V (D*256)),I (V (D*256))]:=by kernel_rfl
def Je:=Qay
theorem Zml:Ai PG (C_cncref30_SamePulses_0):=Ao rfl trivial
theorem Qse:Al PG (Q5h Je):=rw1 (C:=C_cncref30_SamePulses_0) Zml
def Qp6:Sk:=⟨[TS.v true (cc 9++[sa Aa]++cc 9++[sa Aa]++cc 9++[sa Aa]),TS.v true [ci,ci,ci],TS.v true [ci,ci,ci]],[],[]⟩
def Zno:=qa 51 Qp6 Y2
def W8:Cfg:={cf []with unroll:=[3]}
def Qz9:Fn:=An PG W8 64 51 Qp6 Y2
theorem Zd4 (x0 x1 x2 x3 x4 x5 S x7 x8:Int) (x9:Rw) (V X Y a0 a1 a2 D a3 a4:Int) (a5:Rw) (a6 a7 a8 a9 b0 b1 G b2 b3:Int) (b4:Rw) (T N L U O M:Int):Qz9 [I x0,I x1,I x2,I x3,I x4,I x5,I S,I x7,I x8, .vC Aa x9,I V,I X,I Y,I a0,I a1,I a2,I D,I a3,I a4, .vC Aa a5,I a6,I a7,I a8,I a9,I b0,I b1,I G,I b2,I b3, .vC Aa b4,I T,I N,I L,I U,I O,I M]=
 cond (T !=U) (cond (N !=O) (cond (L !=M) (some [I (mx (mx (mx 0 S) D) G)]) (some [I (mx (mx 0 S) D)])) (cond (L !=M) (some [I (mx (mx 0 S) G)]) (some [I (mx 0 S)]))) (cond (N !=O) (cond (L !=M) (some [I (mx (mx 0 D) G)]) (some [I (mx 0 D)])) (cond (L !=M) (some [I (mx 0 G)]) (some [I 0]))):=by kernel_rfl
def MJ:=Qz9
theorem Zcs:Ai PG (W8):=Ao rfl trivial
theorem Zrk:Al PG (Zno MJ):=rw1 (C:=W8) Zcs
def Qf4:Sk:=⟨[TS.v true [ci,ci,ci],TS.v true [ci,ci,ci],TS.v true [ci,ci,ci],tf [ci]],[],[]⟩
def Ya8:=qa 50 Qf4 ZP
def Qb8:Cfg:={cf []with unroll:=[2]}
def Zaq:Fn:=An PG Qb8 64 50 Qf4 ZP
abbrev Ry (L M:Int) (D:AC) (N O:Int) (G:AC):Option (List AC):=
 cond (decide (L>M)) (some [D,G,I N]) (cond (decide (L<M)) (some [D,G,I (V (0-N))]) (some [D,G,I O]))
abbrev Tj (O S L M G N T:Int) (D:AC):Option (List AC):=
 cond (decide (O>S)) (Ry L M D G N (I G)) (cond (decide (O<S)) (Ry L M D G N (I (V (0-G)))) (Ry L M D G N (I T)))
theorem Zf9 (X G L T M N U O S D:Int):Zaq [I X,I G,I L,I T,I M,I N,I U,I O,I S,I D]=
 cond (decide (U>T)) (Tj O M S N D L G (I D)) (cond (decide (U<T)) (Tj O M S N D L G (I (V (0-D)))) (Tj O M S N D L G (I X))):=by kernel_rfl
def NV:=Zaq
theorem Zwd:Ai PG (Qb8):=Ao rfl trivial
theorem Z8t:Al PG (Ya8 NV):=rw1 (C:=Qb8) Zwd
def Qla:Sk:=⟨[TS.v true (cc 10),tf [sd 20000 0]],[(20000,52,[se 20000 10]++cc 5)],[(20000,104,As)]⟩
def Yu:Sk:=⟨[TS.tup []],[(20000,52,[se 20000 10]++cc 5)],[(20000,104,As)]⟩
def Q3d:=qa 48 Qla Yu
def U6:Fn:=An PG C_cncref30_SamePulses_0 64 48 Qla Yu
theorem Q9n (D:Rw) (x1 M x3 U x5 x6 x7 X Y L G N O S T:Int):U6 [.vC As D,I x1,I M,I x3,I U,I x5,I x6,I x7,I X,I Y,I L,I G,I N,I O,I S,I T]=
 cond (decide ((D.length:Int)>0)) (cond (U !=0) (cond (decide (0<=V ((D.length:Int)-1))&&decide (V ((D.length:Int)-1)<(D.length:Int))) (cond (gA (nth [] D (V ((D.length:Int)-1)).toNat) 3==U) (cond (decide (0<=V ((D.length:Int)-1))&&decide (V ((D.length:Int)-1)<(D.length:Int))) (cond (gA (nth [] D (V ((D.length:Int)-1)).toNat) 7==X&&(gA (nth [] D (V ((D.length:Int)-1)).toNat) 8==Y&&(gA (nth [] D (V ((D.length:Int)-1)).toNat) 9==L&&true))) (cond (decide (0<=V ((D.length:Int)-1))&&decide (V ((D.length:Int)-1)<(D.length:Int))) (cond (decide (0<=V ((D.length:Int)-1))&&decide (V ((D.length:Int)-1)<(D.length:Int))) (some [.vC As (D.set (V ((D.length:Int)-1)).toNat [jA (nth [] D (V ((D.length:Int)-1)).toNat) 0,I (V (gA (nth [] D (V ((D.length:Int)-1)).toNat) 1+M)),jA (nth [] D (V ((D.length:Int)-1)).toNat) 2,jA (nth [] D (V ((D.length:Int)-1)).toNat) 3,jA (nth [] D (V ((D.length:Int)-1)).toNat) 4,jA (nth [] D (V ((D.length:Int)-1)).toNat) 5,jA (nth [] D (V ((D.length:Int)-1)).toNat) 6,jA (nth [] D (V ((D.length:Int)-1)).toNat) 7,jA (nth [] D (V ((D.length:Int)-1)).toNat) 8,jA (nth [] D (V ((D.length:Int)-1)).toNat) 9]),I (V (G+M)),I N,I O,I S,I T]) (none)) (none)) (cond (((D++[[I G,I M,I x3,I U,I x5,I x6,I x7,I X,I Y,I L]]).length*80).ble 140737488355328) (some [.vC As (D++[[I G,I M,I x3,I U,I x5,I x6,I x7,I X,I Y,I L]]),I (V (G+M)),I N,I O,I S,I T]) (none))) (none)) (cond (((D++[[I G,I M,I x3,I U,I x5,I x6,I x7,I X,I Y,I L]]).length*80).ble 140737488355328) (some [.vC As (D++[[I G,I M,I x3,I U,I x5,I x6,I x7,I X,I Y,I L]]),I (V (G+M)),I N,I O,I S,I T]) (none))) (none)) (cond (((D++[[I G,I M,I x3,I U,I x5,I x6,I x7,I X,I Y,I L]]).length*80).ble 140737488355328) (some [.vC As (D++[[I G,I M,I x3,I U,I x5,I x6,I x7,I X,I Y,I L]]),I (V (G+M)),I N,I O,I S,I T]) (none))) (cond (((D++[[I G,I M,I x3,I U,I x5,I x6,I x7,I X,I Y,I L]]).length*80).ble 140737488355328) (some [.vC As (D++[[I G,I M,I x3,I U,I x5,I x6,I x7,I X,I Y,I L]]),I (V (G+M)),I N,I O,I S,I T]) (none)):=by kernel_rfl
def Mi:=U6
theorem Zpk:Ai PG (C_cncref30_SamePulses_0):=Ao rfl trivial
theorem Qrt:Al PG (Q3d Mi):=rw1 (C:=C_cncref30_SamePulses_0) Zpk
def Qm7:Sk:=⟨[TS.v true [ci,ci,ci],TS.v true [ci,ci,ci],tf [ci],tf [ci],tf [sd 20000 0],tf [sd 20001 0],tf [sd 20002 0],tf [sd 20003 0]],[(20000,41,[ci,ci,ci]),(20001,3,[ci]),(20002,34,cc 9++[sa Aa]++cc 9++[sa Aa]++cc 9++[sa Aa]),(20003,105,[CS.clo 48 [] [(20004,0)]]),(20004,52,[se 20000 10]++cc 5)],[(20000,104,As)]⟩
def Qh5:Sk:=⟨[TS.tup []],[(20000,41,[ci,ci,ci]),(20001,3,[ci]),(20002,34,cc 9++[sa Aa]++cc 9++[sa Aa]++cc 9++[sa Aa]),(20003,105,[CS.clo 48 [] [(20004,0)]]),(20004,52,[se 20000 10]++cc 5)],[(20000,104,As)]⟩
def Qyw:=qa 49 Qm7 Qh5
def YQ (D G Fw:Fn):Cfg:=cp [Zno D,Ya8 G,Q3d Fw] [48]
def Qpe (D G Fw:Fn):Fn:=An PG (YQ D G Fw) 64 49 Qm7 Qh5
theorem Z1z (Og Pd Fw:Fn) (x0:Rw) (x1 x2 x3 x4 x5 x6 x7 x8 x9 L M G N O S T U V X Y a0:Int) (a1:Rw) (a2 a3 a4 a5 a6 a7 a8 a9 b0:Int) (b1:Rw) (b2 b3 b4 b5 b6 b7 b8 b9 c0:Int) (c1:Rw) (c2 c3 c4 c5 c6:Int):Qpe Og Pd Fw [.vC As x0,I x1,I x2,I x3,I x4,I x5,I x6,I x7,I x8,I x9,I L,I M,I G,I N,I O,I S,I T,I U,I V,I X,I Y,I a0, .vC Aa a1,I a2,I a3,I a4,I a5,I a6,I a7,I a8,I a9,I b0, .vC Aa b1,I b2,I b3,I b4,I b5,I b6,I b7,I b8,I b9,I c0, .vC Aa c1,I c2,I c3,I c4,I c5,I c6]=
 (Pd [I x9,I L,I M,I x1,I x2,I x3,I x4,I x5,I x6,I G]).bind λD=>
 (Og [I N,I O,I S,I T,I U,I V,I X,I Y,I a0, .vC Aa a1,I a2,I a3,I a4,I a5,I a6,I a7,I a8,I a9,I b0, .vC Aa b1,I b2,I b3,I b4,I b5,I b6,I b7,I b8,I b9,I c0, .vC Aa c1,I x9,I L,I M,jA D 0,jA D 1,jA D 2]).bind λo6=>
 cond (decide (gA o6 0>0)) ((Fw [.vC As x0,I 0,jA o6 0,I x7,I 0,I x9,I L,I M,jA D 0,jA D 1,jA D 2,I c2,I c3,I c4,I c5,I c6]).bind λo7=>
 (Fw [.vC As (wA o7 0),I 0,I x8,I x7,I G,jA D 0,jA D 1,jA D 2,jA D 0,jA D 1,jA D 2,jA o7 1,jA o7 2,jA o7 3,jA o7 4,jA o7 5]).bind λo8=>
 some [.vC As (wA o8 0),jA D 0,jA D 1,jA D 2,I G,I N,I O,I S,I T,I U,I V,I X,I Y,I a0, .vC Aa a1,I a2,I a3,I a4,I a5,I a6,I a7,I a8,I a9,I b0, .vC Aa b1,I b2,I b3,I b4,I b5,I b6,I b7,I b8,I b9,I c0, .vC Aa c1,jA o8 1,jA o8 2,jA o8 3,jA o8 4,jA o8 5]) ((Fw [.vC As x0,I 0,I x8,I x7,I G,jA D 0,jA D 1,jA D 2,jA D 0,jA D 1,jA D 2,I c2,I c3,I c4,I c5,I c6]).bind λo9=>
 some [.vC As (wA o9 0),jA D 0,jA D 1,jA D 2,I G,I N,I O,I S,I T,I U,I V,I X,I Y,I a0, .vC Aa a1,I a2,I a3,I a4,I a5,I a6,I a7,I a8,I a9,I b0, .vC Aa b1,I b2,I b3,I b4,I b5,I b6,I b7,I b8,I b9,I c0, .vC Aa c1,jA o9 1,jA o9 2,jA o9 3,jA o9 4,jA o9 5]):=by kernel_rfl
def FA:=Qpe MJ NV Mi
theorem Z1l:Ai PG (YQ MJ NV Mi):=Ao rfl ⟨Zrk,Z8t,Qrt,trivial⟩
theorem Q5i:Al PG (Qyw FA):=rw1 (C:=YQ MJ NV Mi) Z1l
def Zy:Sk:=⟨[TS.v true [ci,ci,ci,sa Aj,sa kPt],tf [ci],tf [ci],tf [ci],tf [CS.clo 49 [] [(20000,0),(20001,0),(20002,0),(20003,0)]]],[(20000,41,[ci,ci,ci]),(20001,3,[ci]),(20002,34,cc 9++[sa Aa]++cc 9++[sa Aa]++cc 9++[sa Aa]),(20003,105,[CS.clo 48 [] [(20004,0)]]),(20004,52,[se 20000 10]++cc 5)],[(20000,104,As)]⟩
def Z0g:=qa 52 Zy Qh5
def V3 (D:Fn):Cfg:={cp [Qyw D] [49]with prom:=λb=>cond (Nat.beq b 4) ([(11,3)]) ([])}
def Q3c:Sk:=⟨[td,tf [ci],tf [ci],tf [ci],tf [CS.clo 49 [] [(20000,0),(20001,0),(20002,0),(20003,0)]],tf [sd 5 0],td,td,td,td,tf [ci],tf [se 11 1]]++dd 9++[tf [sa Aj],tf [ci],tf [ci]]++dd 78,[(5,46,[ci,ci,ci,sa Aj,sa kPt]),(20000,41,[ci,ci,ci]),(20001,3,[ci]),(20002,34,cc 9++[sa Aa]++cc 9++[sa Aa]++cc 9++[sa Aa]),(20003,105,[CS.clo 48 [] [(20004,0)]]),(20004,52,[se 20000 10]++cc 5)],[(11,3,Aa),(20000,104,As)]⟩
def Qrg:List (Ex×Sk):=[(Ex.exit 0,⟨[td,tf [ci],tf [ci],tf [ci],tf [CS.clo 49 [] [(20000,0),(20001,0),(20002,0),(20003,0)]],tf [sd 5 0],td,td,td,td,td,tf [se 11 1]]++dd 90,[(5,46,[ci,ci,ci,sa Aj,sa kPt]),(20000,41,[ci,ci,ci]),(20001,3,[ci]),(20002,34,cc 9++[sa Aa]++cc 9++[sa Aa]++cc 9++[sa Aa]),(20003,105,[CS.clo 48 [] [(20004,0)]]),(20004,52,[se 20000 10]++cc 5)],[(11,3,Aa),(20000,104,As)]⟩)]
def Ug (D:Fn):Lp:=AL PG (V3 D) 64 4 (AN PG 52 4) Q3c Qrg
def Q5y (D:Fn) (G:Lp):Cfg:=(V3 D).loop 4 Q3c Qrg G
def Q55:Sk:=⟨[td,tf [ci],tf [ci],tf [ci],tf [CS.clo 49 [] [(20000,0),(20001,0),(20002,0),(20003,0)]],tf [sd 5 0],td,td,td,td,td,tf [se 11 1]]++dd 26++[tf [ci],tf [ci]]++dd 62,[(5,46,[ci,ci,ci,sa Aj,sa kPt]),(20000,41,[ci,ci,ci]),(20001,3,[ci]),(20002,34,cc 9++[sa Aa]++cc 9++[sa Aa]++cc 9++[sa Aa]),(20003,105,[CS.clo 48 [] [(20004,0)]]),(20004,52,[se 20000 10]++cc 5)],[(11,3,Aa),(20000,104,As)]⟩
def Q02:List (Ex×Sk):=[(Ex.exit 2,⟨[td]++dd 101,[(20000,41,[ci,ci,ci]),(20001,3,[ci]),(20002,34,cc 9++[sa Aa]++cc 9++[sa Aa]++cc 9++[sa Aa]),(20003,105,[CS.clo 48 [] [(20004,0)]]),(20004,52,[se 20000 10]++cc 5)],[(20000,104,As)]⟩)]
def UF (D:Fn) (G:Lp):Lp:=AL PG (Q5y D G) 64 10 (AN PG 52 10) Q55 Q02
def Q7s (G:Fn) (I D:Lp):Cfg:=(Q5y G I).loop 10 Q55 Q02 D
def Qc0 (G:Fn) (I D:Lp):Fn:=An PG (Q7s G I D) 64 52 Zy Qh5
theorem Qza (BO:Fn) (v0 v1:Rw) (v2 v3 v4 v5:Int) (v6:Rw) (v7 v8 v9 v10 v11:Int) (v12 D:Rw) (G L M N O S v20 v21 v22 T v24 v25 U:Int) (v27:Rw) (v28 X v30 v31 Y v33 a0 v35 v36:Int) (v37:Rw) (v38 a1 v40 a2 v42 a3 v44 a4 v46:Int) (a5:Rw) (v48 v49 a6 v51 a7:Int):Ug BO [.vC Aa v0, .vC As v1,I v2,I v3,I v4,I v5, .vC Aj v6,I v7,I v8,I v9,I v10,I v11, .vC Aj v12, .vC kPt D,I G,I L,I M,I N,I O,I S,I v20,I v21,I v22,I T,I v24,I v25,I U, .vC Aa v27,I v28,I X,I v30,I v31,I Y,I v33,I a0,I v35,I v36, .vC Aa v37,I v38,I a1,I v40,I a2,I v42,I a3,I v44,I a4,I v46, .vC Aa a5,I v48,I v49,I a6,I v51,I a7]=
 cond (decide (v8<v7)) (cond (decide (0<=v8)&&decide (v8<(v6.length:Int))) (cond (((v0++[[I v5]]).length*8).ble 140737488355328) (some (0,[.vC Aa (v0++[[I v5]]), .vC As v1,I v2,I v3,I v4,I (V (v5+gA (nth [] v6 v8.toNat) 3)), .vC Aj v6,I v7,I (V (v8+1)),I v9,I v10,I v11, .vC Aj v12, .vC kPt D,I G,I L,I M,I N,I O,I S,I v20,I v21,I v22,I T,I v24,I v25,I U, .vC Aa v27,I v28,I X,I v30,I v31,I Y,I v33,I a0,I v35,I v36, .vC Aa v37,I v38,I a1,I v40,I a2,I v42,I a3,I v44,I a4,I v46, .vC Aa a5,I v48,I v49,I a6,I v51,I a7])) (none)) (none)) (some (1,[.vC Aa v0, .vC As v1,I v2,I v3,I v4,I v9,I v10,I v11, .vC Aj v12, .vC kPt D,I G,I L,I M,I N,I O,I S,I v20,I v21,I v22,I T,I v24,I v25,I U, .vC Aa v27,I v28,I X,I v30,I v31,I Y,I v33,I a0,I v35,I v36, .vC Aa v37,I v38,I a1,I v40,I a2,I v42,I a3,I v44,I a4,I v46, .vC Aa a5,I v48,I v49,I a6,I v51,I a7])):=by kernel_rfl
abbrev Rh (M:Bool) (BO:Fn) (v1:Rw) (N O G L:AC) (v12 Y a0 a1 a2 a3 a4 a5 v20 v21 v22 a6 v24:Int) (v25:Rw) (a7 v27 v28 a8 v30 v31 a9 v33 b0:Int) (v35:Rw) (v36 v37 v38 b1 v40 b2 v42 b3 v44:Int) (b4:Rw) (v46 b5 v48 v49 b6:Int) (v0:Rw) (v2 v3 v4 v5 v6 v7 v8 v9:Int) (v10 v11:Rw) (S T U X:AC):Option (Nat×List AC):=
 cond (M) ((BO [.vC As v1,S,T,U,N,O,G,X,L,I v12,I Y,I a0,I a1,I a2,I a3,I a4,I a5,I v20,I v21,I v22,I a6,I v24, .vC Aa v25,I a7,I v27,I v28,I a8,I v30,I v31,I a9,I v33,I b0, .vC Aa v35,I v36,I v37,I v38,I b1,I v40,I b2,I v42,I b3,I v44, .vC Aa b4,I v46,I b5,I v48,I v49,I b6]).bind λD=>
 some (0,[.vC Aa v0, .vC As (wA D 0),I v2,I v3,I v4,I v5,I (V (v6+1)),I v7,I v8,I v9, .vC Aj v10, .vC kPt v11,jA D 1,jA D 2,jA D 3,jA D 4,jA D 5,jA D 6,jA D 7,jA D 8,jA D 9,jA D 10,jA D 11,jA D 12,jA D 13, .vC Aa (wA D 14),jA D 15,jA D 16,jA D 17,jA D 18,jA D 19,jA D 20,jA D 21,jA D 22,jA D 23, .vC Aa (wA D 24),jA D 25,jA D 26,jA D 27,jA D 28,jA D 29,jA D 30,jA D 31,jA D 32,jA D 33, .vC Aa (wA D 34),jA D 35,jA D 36,jA D 37,jA D 38,jA D 39])) (none)
abbrev Qag (v0 v1:Rw) (v2 v3 v4 v5 v6 v7 v8 v9:Int) (v10 v11:Rw) (v12 O S T U X Y a0 v20 v21 v22 a1 v24:Int) (v25:Rw) (a2 v27 v28 a3 v30 v31 a4 v33 a5:Int) (v35:Rw) (v36 v37 v38 a6 v40 a7 v42 a8 v44:Int) (a9:Rw) (v46 b0 v48 v49 b1:Int) (BO:Fn) (b4 L b8 b9 c0:Bool) (b5 b6 b7 M N D b2 G b3:AC):Option (Nat×List AC):=
 cond (b4) (cond (b4) (cond (L) (cond (b8) (some (0,[.vC Aa v0, .vC As v1,I v2,I v3,I v4,I v5,I (V (v6+1)),I v7,I v8,I v9, .vC Aj v10, .vC kPt v11,I v12,I O,I S,I T,I U,I X,I Y,I a0,I v20,I v21,I v22,I a1,I v24, .vC Aa v25,I a2,I v27,I v28,I a3,I v30,I v31,I a4,I v33,I a5, .vC Aa v35,I v36,I v37,I v38,I a6,I v40,I a7,I v42,I a8,I v44, .vC Aa a9,I v46,I b0,I v48,I v49,I b1])) (cond (b9) (cond (c0) (cond (decide (v4<0)) (Rh L BO v1 M N D G v12 O S T U X Y a0 v20 v21 v22 a1 v24 v25 a2 v27 v28 a3 v30 v31 a4 v33 a5 v35 v36 v37 v38 a6 v40 a7 v42 a8 v44 a9 v46 b0 v48 v49 b1 v0 v2 v3 v4 v5 v6 v7 v8 v9 v10 v11 b5 b6 b7 b2) (Rh L BO v1 M N D G v12 O S T U X Y a0 v20 v21 v22 a1 v24 v25 a2 v27 v28 a3 v30 v31 a4 v33 a5 v35 v36 v37 v38 a6 v40 a7 v42 a8 v44 a9 v46 b0 v48 v49 b1 v0 v2 v3 v4 v5 v6 v7 v8 v9 v10 v11 b5 b6 b7 b3)) (none)) (cond (decide (v4<0)) (Rh L BO v1 M N D G v12 O S T U X Y a0 v20 v21 v22 a1 v24 v25 a2 v27 v28 a3 v30 v31 a4 v33 a5 v35 v36 v37 v38 a6 v40 a7 v42 a8 v44 a9 v46 b0 v48 v49 b1 v0 v2 v3 v4 v5 v6 v7 v8 v9 v10 v11 (I v7) (I v8) (I v9) b2) (Rh L BO v1 M N D G v12 O S T U X Y a0 v20 v21 v22 a1 v24 v25 a2 v27 v28 a3 v30 v31 a4 v33 a5 v35 v36 v37 v38 a6 v40 a7 v42 a8 v44 a9 v46 b0 v48 v49 b1 v0 v2 v3 v4 v5 v6 v7 v8 v9 v10 v11 (I v7) (I v8) (I v9) b3)))) (none)) (none)) (none)
theorem Q76 (BO:Fn) (N4:Lp) (G v1:Rw) (L M v4 v5 D v7 v8 v9:Int) (v10 v11:Rw) (v12 N O S T U X Y v20 v21 v22 a0 v24:Int) (v25:Rw) (a1 v27 v28 a2 v30 v31 a3 v33 a4:Int) (v35:Rw) (v36 v37 v38 a5 v40 a6 v42 a7 v44:Int) (a8:Rw) (v46 a9 v48 v49 b0:Int):UF BO N4 [.vC Aa G, .vC As v1,I L,I M,I v4,I v5,I D,I v7,I v8,I v9, .vC Aj v10, .vC kPt v11,I v12,I N,I O,I S,I T,I U,I X,I Y,I v20,I v21,I v22,I a0,I v24, .vC Aa v25,I a1,I v27,I v28,I a2,I v30,I v31,I a3,I v33,I a4, .vC Aa v35,I v36,I v37,I v38,I a5,I v40,I a6,I v42,I a7,I v44, .vC Aa a8,I v46,I a9,I v48,I v49,I b0]=
 cond (decide (D<v5)) (cond (decide (v4<0)) (Qag G v1 L M v4 v5 D v7 v8 v9 v10 v11 v12 N O S T U X Y v20 v21 v22 a0 v24 v25 a1 v27 v28 a2 v30 v31 a3 v33 a4 v35 v36 v37 v38 a5 v40 a6 v42 a7 v44 a8 v46 a9 v48 v49 b0 BO (decide (0<=V (V ((v10.length:Int)-1)-D))&&decide (V (V ((v10.length:Int)-1)-D)<(G.length:Int))) (decide (0<=V (V ((v10.length:Int)-1)-D))&&decide (V (V ((v10.length:Int)-1)-D)<(v10.length:Int))) (decide (mx (Af (nth .vD (nth [] G (V (V ((v10.length:Int)-1)-D)).toNat) 0)) L>=mn (V (Af (nth .vD (nth [] G (V (V ((v10.length:Int)-1)-D)).toNat) 0)+Af (nth .vD (nth [] v10 (V (V ((v10.length:Int)-1)-D)).toNat) 3))) M)) (decide (V (V ((v10.length:Int)-1)-D)>0)) (decide (0<=V (V (V ((v10.length:Int)-1)-D)-1))&&decide (V (V (V ((v10.length:Int)-1)-D)-1)<(v10.length:Int))) (I (Af (nth .vD (nth [] v10 (V (V (V ((v10.length:Int)-1)-D)-1)).toNat) 0))) (I (Af (nth .vD (nth [] v10 (V (V (V ((v10.length:Int)-1)-D)-1)).toNat) 1))) (I (Af (nth .vD (nth [] v10 (V (V (V ((v10.length:Int)-1)-D)-1)).toNat) 2))) (I (Af (nth .vD (nth [] v10 (V (V ((v10.length:Int)-1)-D)).toNat) 0))) (I (Af (nth .vD (nth [] v10 (V (V ((v10.length:Int)-1)-D)).toNat) 1))) (I (Af (nth .vD (nth [] v10 (V (V ((v10.length:Int)-1)-D)).toNat) 2))) (I (mn (V (Af (nth .vD (nth [] G (V (V ((v10.length:Int)-1)-D)).toNat) 0)+Af (nth .vD (nth [] v10 (V (V ((v10.length:Int)-1)-D)).toNat) 3))) M)) (I (V (mn (V (Af (nth .vD (nth [] G (V (V ((v10.length:Int)-1)-D)).toNat) 0)+Af (nth .vD (nth [] v10 (V (V ((v10.length:Int)-1)-D)).toNat) 3))) M-mx (Af (nth .vD (nth [] G (V (V ((v10.length:Int)-1)-D)).toNat) 0)) L))) (I (mx (Af (nth .vD (nth [] G (V (V ((v10.length:Int)-1)-D)).toNat) 0)) L))) (Qag G v1 L M v4 v5 D v7 v8 v9 v10 v11 v12 N O S T U X Y v20 v21 v22 a0 v24 v25 a1 v27 v28 a2 v30 v31 a3 v33 a4 v35 v36 v37 v38 a5 v40 a6 v42 a7 v44 a8 v46 a9 v48 v49 b0 BO (decide (0<=D)&&decide (D<(G.length:Int))) (decide (0<=D)&&decide (D<(v10.length:Int))) (decide (mx (gA (nth [] G D.toNat) 0) L>=mn (V (gA (nth [] G D.toNat) 0+gA (nth [] v10 D.toNat) 3)) M)) (decide (D>0)) (decide (0<=V (D-1))&&decide (V (D-1)<(v10.length:Int))) (jA (nth [] v10 (V (D-1)).toNat) 0) (jA (nth [] v10 (V (D-1)).toNat) 1) (jA (nth [] v10 (V (D-1)).toNat) 2) (jA (nth [] v10 D.toNat) 0) (jA (nth [] v10 D.toNat) 1) (jA (nth [] v10 D.toNat) 2) (I (mn (V (gA (nth [] G D.toNat) 0+gA (nth [] v10 D.toNat) 3)) M)) (I (V (mn (V (gA (nth [] G D.toNat) 0+gA (nth [] v10 D.toNat) 3)) M-mx (gA (nth [] G D.toNat) 0) L))) (I (mx (gA (nth [] G D.toNat) 0) L)))) (some (1,[.vC As v1,I v12,I N,I O,I S,I T,I U,I X,I Y,I v20,I v21,I v22,I a0,I v24, .vC Aa v25,I a1,I v27,I v28,I a2,I v30,I v31,I a3,I v33,I a4, .vC Aa v35,I v36,I v37,I v38,I a5,I v40,I a6,I v42,I a7,I v44, .vC Aa a8,I v46,I a9,I v48,I v49,I b0])):=by kernel_rfl
theorem Zqx (BO:Fn) (N4 L:Lp) (x0:Rw) (x1 x2 x3:Int) (x4 x5:Rw) (x6 x7 x8 x9 M N O S T U V X Y a0 a1 a2:Int) (a3:Rw) (a4 a5 a6 a7 a8 a9 b0 b1 b2:Int) (b3:Rw) (b4 b5 b6 b7 b8 b9 c0 c1 c2:Int) (c3:Rw) (c4 c5 c6 c7 c8:Int):Qc0 BO N4 L [.vC As x0,I x1,I x2,I x3, .vC Aj x4, .vC kPt x5,I x6,I x7,I x8,I x9,I M,I N,I O,I S,I T,I U,I V,I X,I Y,I a0,I a1,I a2, .vC Aa a3,I a4,I a5,I a6,I a7,I a8,I a9,I b0,I b1,I b2, .vC Aa b3,I b4,I b5,I b6,I b7,I b8,I b9,I c0,I c1,I c2, .vC Aa c3,I c4,I c5,I c6,I c7,I c8]=
 (N4 [.vC Aa [], .vC As x0,I x6,I x7,I x8,I 0, .vC Aj x4,I (x4.length:Int),I 0,I x1,I x2,I x3, .vC Aj x4, .vC kPt x5,I x9,I M,I N,I O,I S,I T,I U,I V,I X,I Y,I a0,I a1,I a2, .vC Aa a3,I a4,I a5,I a6,I a7,I a8,I a9,I b0,I b1,I b2, .vC Aa b3,I b4,I b5,I b6,I b7,I b8,I b9,I c0,I c1,I c2, .vC Aa c3,I c4,I c5,I c6,I c7,I c8]).bind λD=>
 cond (D.1.beq 1) ((L [.vC Aa (wA D.2 0), .vC As (wA D.2 1),jA D.2 2,jA D.2 3,jA D.2 4,I (↑(wA D.2 8).length:Int),I 0,jA D.2 5,jA D.2 6,jA D.2 7, .vC Aj (wA D.2 8), .vC kPt (wA D.2 9),jA D.2 10,jA D.2 11,jA D.2 12,jA D.2 13,jA D.2 14,jA D.2 15,jA D.2 16,jA D.2 17,jA D.2 18,jA D.2 19,jA D.2 20,jA D.2 21,jA D.2 22, .vC Aa (wA D.2 23),jA D.2 24,jA D.2 25,jA D.2 26,jA D.2 27,jA D.2 28,jA D.2 29,jA D.2 30,jA D.2 31,jA D.2 32, .vC Aa (wA D.2 33),jA D.2 34,jA D.2 35,jA D.2 36,jA D.2 37,jA D.2 38,jA D.2 39,jA D.2 40,jA D.2 41,jA D.2 42, .vC Aa (wA D.2 43),jA D.2 44,jA D.2 45,jA D.2 46,jA D.2 47,jA D.2 48]).bind λG=>
 cond (G.1.beq 1) (some [.vC As (wA G.2 0),jA G.2 1,jA G.2 2,jA G.2 3,jA G.2 4,jA G.2 5,jA G.2 6,jA G.2 7,jA G.2 8,jA G.2 9,jA G.2 10,jA G.2 11,jA G.2 12,jA G.2 13, .vC Aa (wA G.2 14),jA G.2 15,jA G.2 16,jA G.2 17,jA G.2 18,jA G.2 19,jA G.2 20,jA G.2 21,jA G.2 22,jA G.2 23, .vC Aa (wA G.2 24),jA G.2 25,jA G.2 26,jA G.2 27,jA G.2 28,jA G.2 29,jA G.2 30,jA G.2 31,jA G.2 32,jA G.2 33, .vC Aa (wA G.2 34),jA G.2 35,jA G.2 36,jA G.2 37,jA G.2 38,jA G.2 39]) (none)) (none):=by kernel_rfl
def Oj:=Am (Ug FA)
def Qfn:=Am (UF FA Oj)
def PA:=Qc0 FA Oj Qfn
theorem Qnf:Ai PG (V3 FA):=Ao rfl ⟨Q5i,trivial⟩
theorem Zrx:Al PG (Z0g PA):=rw2 (C:=Q7s FA Oj Qfn) (fl (fl fb Qnf) Qnf) Qnf
def Yl:Sk:=⟨[TS.v true [ci,ci,ci,sa Aj,sa kPt]],[],[]⟩
def Q8h:=qa 17 Yl Y2
def Qye:Sk:=⟨[td,td,td,tf [ci],td,td,td,tf [sa Aj],tf [ci],tf [ci]]++dd 9,[],[]⟩
def Q1m:List (Ex×Sk):=[(Ex.exit 0,⟨[td,td,td,tf [ci]]++dd 15,[],[]⟩)]
def RH:Lp:=AL PG C_cncref30_SamePulses_0 64 3 (AN PG 17 3) Qye Q1m
def Zay (D:Lp):Cfg:=C_cncref30_SamePulses_0.loop 3 Qye Q1m D
def Q0j (D:Lp):Fn:=An PG (Zay D) 64 17 Yl Y2
theorem Q13 (L:Int) (G:Rw) (M D:Int):RH [I L, .vC Aj G,I M,I D]=
 cond (decide (D<M)) (cond (decide (0<=D)&&decide (D<(G.length:Int))) (some (0,[I (V (L+gA (nth [] G D.toNat) 3)), .vC Aj G,I M,I (V (D+1))])) (none)) (some (1,[I L])):=by kernel_rfl
theorem Zn2 (G:Lp) (L M N:Int) (D O:Rw):Q0j G [I L,I M,I N, .vC Aj D, .vC kPt O]=
 (G [I 0, .vC Aj D,I (D.length:Int),I 0]).bind λo1=>
 cond (o1.1.beq 1) (some [jA o1.2 0]) (none):=by kernel_rfl
def RW:=Am (RH)
def Js:=Q0j RW
theorem Q75:Ai PG (C_cncref30_SamePulses_0):=Ao rfl trivial
theorem Q54:Al PG (Q8h Js):=rw2 (C:=Zay RW) (fl fb Q75) Q75
def Qqa:Sk:=⟨[TS.v true [ci,ci,ci,sa Aj,sa kPt],TS.v true (cc 9++[sa Aa]++cc 9++[sa Aa]++cc 9++[sa Aa]),TS.v true [ci,ci,ci],tf [ci],tf [ci]],[],[]⟩
def Xh:Sk:=⟨[TS.v true ([sa As]++cc 5)],[],[]⟩
def Zhl:=qa 16 Qqa Xh
def Qg1 (D G Fw I L:Fn):Cfg:=cp [Z0g D,Qyw G,Q3d Fw,Qnl I,Q8h L] [52,49,48]
def Qf2 (D G Fw I L:Fn):Fn:=An PG (Qg1 D G Fw I L) 64 16 Qqa Xh
theorem Zhb (Lf BO Fw Ds Ge:Fn) (x0 x1 x2:Int) (x3 x4:Rw) (x5 x6 x7 x8 x9 M N O S:Int) (T:Rw) (U V X Y a0 a1 a2 a3 a4:Int) (a5:Rw) (a6 a7 a8 a9 b0 b1 b2 b3 b4:Int) (b5:Rw) (D G L b6 b7:Int):Qf2 Lf BO Fw Ds Ge [I x0,I x1,I x2, .vC Aj x3, .vC kPt x4,I x5,I x6,I x7,I x8,I x9,I M,I N,I O,I S, .vC Aa T,I U,I V,I X,I Y,I a0,I a1,I a2,I a3,I a4, .vC Aa a5,I a6,I a7,I a8,I a9,I b0,I b1,I b2,I b3,I b4, .vC Aa b5,I D,I G,I L,I b6,I b7]=
 (Ge [I x0,I x1,I x2, .vC Aj x3, .vC kPt x4]).bind λo5=>
 (Ds [I b6,jA o5 0]).bind λo6=>
 (Ds [I b7,jA o5 0]).bind λo7=>
 cond (decide (gA o6 0>gA o7 0)) ((Lf [.vC As [],I x0,I x1,I x2, .vC Aj x3, .vC kPt x4,I (mn (gA o6 0) (gA o7 0)),I (mx (gA o6 0) (gA o7 0)),I (-1),I D,I G,I L,I (-1),I x5,I x6,I x7,I x8,I x9,I M,I N,I O,I S, .vC Aa T,I U,I V,I X,I Y,I a0,I a1,I a2,I a3,I a4, .vC Aa a5,I a6,I a7,I a8,I a9,I b0,I b1,I b2,I b3,I b4, .vC Aa b5,I 0,jA o6 0,I D,I G,I L]).bind λo8=>
 some [.vC As (wA o8 0),jA o8 35,jA o8 36,jA o8 37,jA o8 38,jA o8 39]) ((Lf [.vC As [],I x0,I x1,I x2, .vC Aj x3, .vC kPt x4,I (mn (gA o6 0) (gA o7 0)),I (mx (gA o6 0) (gA o7 0)),I 1,I D,I G,I L,I 1,I x5,I x6,I x7,I x8,I x9,I M,I N,I O,I S, .vC Aa T,I U,I V,I X,I Y,I a0,I a1,I a2,I a3,I a4, .vC Aa a5,I a6,I a7,I a8,I a9,I b0,I b1,I b2,I b3,I b4, .vC Aa b5,I 0,jA o6 0,I D,I G,I L]).bind λo9=>
 some [.vC As (wA o9 0),jA o9 35,jA o9 36,jA o9 37,jA o9 38,jA o9 39]):=by kernel_rfl
def Pr:=Qf2 PA FA Mi G9 Js
theorem Zi8:Ai PG (Qg1 PA FA Mi G9 Js):=Ao rfl ⟨Zrx,Q5i,Qrt,Ze,Q54,trivial⟩
theorem Zdx:Al PG (Zhl Pr):=rw1 (C:=Qg1 PA FA Mi G9 Js) Zi8
def Zun:=qa 103 Qi8 Qhz
def Qba:Fn:=An PG C_cncref30_SamePulses_0 64 103 Qi8 Qhz
theorem Z0k (D G L M N O:Int):Qba [I D,I G,I L,I M,I N,I O]=
 cond (G==0) (cond (L==0) (cond (M==D) (some [B (N==D)]) (some [B false])) (some [B false])) (some [B false]):=by kernel_rfl
def K8:=Qba
theorem Zlr:Ai PG (C_cncref30_SamePulses_0):=Ao rfl trivial
theorem Zn8:Al PG (Zun K8):=rw1 (C:=C_cncref30_SamePulses_0) Zlr
def Qwu:Sk:=⟨[TS.v true [ci,ci,ci,sa Aj,sa kPt],TS.v true (cc 9++[sa Aa]++cc 9++[sa Aa]++cc 9++[sa Aa]),TS.v true ([sa As]++cc 5),TS.v true (cc 6),tf [ci]],[],[]⟩
def Qzu:Sk:=⟨[TS.tup [(true,[sa As]++cc 5),(true,cc 6),(false,[sb])]],[],[]⟩
def Zmy:=qa 158 Qwu Qzu
def SG:Fn:=λ_=>none
theorem Zr9:Al PG (Zmy SG):=Rk
def Xt:Sk:=⟨[TS.tup [(false,[ci]),(false,[sb])]],[(20000,179,cS)],[]⟩
def Zpg:=qa 108 Qnp Xt
def Wb (D G:Fn):Cfg:=cf [Zmy D,Qb6 G]
def XS (D G:Fn):Fn:=An PG (Wb D G) 64 108 Qnp Xt
abbrev Yh (M:Fn) (K:Kf) (c:Cv) (G L:AC):Option (List AC):=
 (M (pxt K.p K.x K.t [I c.m0,I c.m1,I c.m2,I c.m3,I c.m4,I c.m5,L])).bind λD=>
 cond (!bA D 12) (some (G::B true::Ad K c)) (cond (c.way==1) (some (G::B true::DR (Ad K c) [(44, .vC As (wA D 0)),(45,jA D 1),(46,jA D 2),(47,jA D 3),(48,jA D 4),(49,jA D 5),(50,jA D 6),(51,jA D 7),(52,jA D 8),(53,jA D 9),(54,jA D 10),(55,jA D 11),(71,I 2),(89,B true)])) (some (G::B true::DR (Ad K c) [(44, .vC As (wA D 0)),(45,jA D 1),(46,jA D 2),(47,jA D 3),(48,jA D 4),(49,jA D 5),(50,jA D 6),(51,jA D 7),(52,jA D 8),(53,jA D 9),(54,jA D 10),(55,jA D 11),(58,B true),(71,I 0),(89,B true)])))
abbrev Qe0 (c:Cv) (L:Fn) (K:Kf) (M:Fn) (D:AC):Option (List AC):=
 cond (!c.aM) ((L (pxt K.p K.x K.t [I K.pa,I K.pb,I K.pc,I c.o0,I c.o1,B c.o2,B c.o3,B c.o4,I c.m0,I c.m1,I c.m2,I c.m3,I c.m4,I c.m5,I K.t.length])).bind λo8=>
 some (D::B true::Ad K {c with m0:=gA o8 0,m1:=gA o8 1,m2:=gA o8 2,m3:=gA o8 3,m4:=gA o8 4,m5:=gA o8 5})) (cond (c.m0 !=V (K.t.length*256)) ((L (pxt K.p K.x K.t [I K.pa,I K.pb,I K.pc,I c.o0,I c.o1,B c.o2,B c.o3,B c.o4,I c.m0,I c.m1,I c.m2,I c.m3,I c.m4,I c.m5,I K.t.length])).bind λG=>
 some (D::B true::Ad K {c with m0:=gA G 0,m1:=gA G 1,m2:=gA G 2,m3:=gA G 3,m4:=gA G 4,m5:=gA G 5})) (cond (c.way==2) (Yh M K c D (I K.len)) (Yh M K c D (I c.home))))
theorem Zor (D G:Fn) (K:Kf) (c:Cv):XS D G (Ad K c)=
 cond (c.way==0) (some (I 0::B false::Ad K c)) (cond (c.way==2) (Qe0 c G K D (I 5)) (Qe0 c G K D (I 4))):=by kernel_rfl
def KR:=XS SG Fi
theorem Zeo:Ai PG (Wb SG Fi):=Ao rfl ⟨Zr9,Qqk,trivial⟩
theorem Z1s:Al PG (Zpg KR):=rw1 (C:=Wb SG Fi) Zeo
def Zwf:=qa 107 Qnp Xt
def Qhj (D:Fn):Cfg:=cp [Qtl D] [156]
def Qns (D:Fn):Fn:=An PG (Qhj D) 64 107 Qnp Xt
theorem Zrs (D:Fn) (K:Kf) (c:Cv):Qns D (Ad K c)=
 cond (!c.on) (some (I 0::B false::Ad K c)) ((D (Ad K c)).bind λo1=>
 some (jA o1 0::B true::cR 1 o1)):=by kernel_rfl
def Kg:=Qns Kc
theorem Z3e:Ai PG (Qhj Kc):=Ao rfl ⟨Zaw,trivial⟩
theorem Z21:Al PG (Zwf Kg):=rw1 (C:=Qhj Kc) Z3e
def Zww:=qa 106 Qnp Xt
def Qig:Fn:=An PG C_cncref30_SamePulses_0 64 106 Qnp Xt
theorem Zk5 (K:Kf) (c:Cv):Qig (Ad K c)=
 cond (!c.aH) (some (I 0::B false::Ad K c)) (cond (!c.aM) (some (I 0::B false::Ad K c)) (some (I 8::B true::Ad K {c with aI:=8}))):=by kernel_rfl
def Lv:=Qig
theorem Zrp:Ai PG (C_cncref30_SamePulses_0):=Ao rfl trivial
theorem Ze8:Al PG (Zww Lv):=rw1 (C:=C_cncref30_SamePulses_0) Zrp
def Zph:=qa 105 Qnp Xt
def Vn:Fn:=An PG C_cncref30_SamePulses_0 64 105 Qnp Xt
theorem Zd5 (K:Kf) (c:Cv):Vn (Ad K c)=
 some (I c.aI::B (c.aI !=0)::Ad K c):=by kernel_rfl
def Lb:=Vn
theorem Z2m:Ai PG (C_cncref30_SamePulses_0):=Ao rfl trivial
theorem Zr1:Al PG (Zph Lb):=rw1 (C:=C_cncref30_SamePulses_0) Z2m
def Zpq:=qa 104 Qnp Xt
def Qjg (D G:Fn):Cfg:=cr [Q5h D,PR G] [102] [102]
def Qi4 (D G:Fn):Fn:=An PG (Qjg D G) 64 104 Qnp Xt
theorem Zq7 (D G:Fn) (K:Kf) (c:Cv):Qi4 D G (Ad K c)=
 cond (c.g0 !=2) (some (I 0::B false::Ad K c)) ((G (Ad K c)).bind λo2=>
 (D [jA o2 0]).bind λo3=>
 some (I 6::B true::Ad K {c with m0:=gA o3 0,m1:=gA o3 1,m2:=gA o3 2,m3:=gA o3 3,m4:=gA o3 4,m5:=gA o3 5})):=by kernel_rfl
def K_:=Qi4 Je Db
theorem Zw3:Ai PG (Qjg Je Db):=Hx (rs:=[102]) rfl ⟨Qse,PV,trivial⟩ rfl (Ci rfl (FE HG))
theorem Znn:Al PG (Zpq K_):=rw1 (C:=Qjg Je Db) Zw3
def Qov:Sk:=⟨[TS.v true [ci,ci,ci,ci],tf [ci]],[],[]⟩
def Z98:=qa 101 Qov WV
def Xz:Fn:=An PG C_cncref30_SamePulses_0 64 101 Qov WV
theorem Zsg (L G D N M:Int):Xz [I L,I G,I D,I N,I M]=
 cond (decide (G<D)) (some [I L,I (mn (V (G+M)) D),I D,I (V (N+V (L*mn (V (G+M)) D)))]) (some [I L,I (mx (V (G-M)) D),I D,I (V (N+V (L*mx (V (G-M)) D)))]):=by kernel_rfl
def KX:=Xz
theorem Z9a:Ai PG (C_cncref30_SamePulses_0):=Ao rfl trivial
theorem Zeh:Al PG (Z98 KX):=rw1 (C:=C_cncref30_SamePulses_0) Z9a
def Zvz (M:Fn):Nat×Spec:=(100,ET Qnp Qhz M)
def Ps (D:Fn):Cfg:=cr [Qf1 D] [155] [155]
def U0 (D:Fn):Fn:=Lm PG (Ps D) 64 100 Qnp Qhz
theorem Zcy (D:Fn) (K:Kf) (c:Cv):U0 D (Ad K c)=
 (D (Ad K c)).bind λo1=>
 cond (bA o1 7) (cond (decide (0<=gA o1 4)&&decide (gA o1 4<((K.aA.map Ag).length:Int))) (cond (gA (nth [] (K.aA.map Ag) (gA o1 4).toNat) 0==6) (some [B (c.y0==gA o1 4)]) (some [B false])) (none)) (some [B false]):=by kernel_rfl
def L3:=U0 FB
theorem Zqa:Ai PG (Ps FB):=Hx (rs:=[155]) rfl ⟨Qhe,trivial⟩ rfl (FE HG)
theorem Zlv (vars : List AC) (R : Type) (K : TV -> Mem -> Option R) : EB PG (Ps FB) 64 100 [TV.v false [AC.ptr 20000 0]] ⟨[(20000, (⟨179, (cR 0 vars)⟩ : Box))], []⟩ K = EB PG (Ps FB) 64 100 [TV.v false [AC.ptr 20000 0]] ⟨[(20000, (⟨179, (cR 0 vars)⟩ : Box))], []⟩ (λv _ => K v ⟨[(20000, (⟨179, (cR 0 vars)⟩ : Box))], []⟩) := dh (b := ((FB (cR 0 vars)).bind λo1 =>
 cond (bA o1 7) (cond (decide (0<=gA o1 4)&&decide (gA o1 4<(↑(wA vars 35).length:Int))) (cond (Af (nth .vD (nth [] (wA vars 35) (gA o1 4).toNat) 0)==6) (K (TV.v false [B ((gA vars 79)==gA o1 4)]) ⟨[(20000,(⟨179,(cR 0 vars)⟩:Box))],[]⟩) (K (TV.v false [B false]) ⟨[(20000,(⟨179,(cR 0 vars)⟩:Box))],[]⟩)) (none)) (K (TV.v false [B false]) ⟨[(20000,(⟨179,(cR 0 vars)⟩:Box))],[]⟩))) (by kernel_rfl) (Eq.symm (by kernel_rfl))
theorem Zgd:Al PG (100,ET Qnp Qhz L3):=Sn (C:=Ps FB) (L:=64) (by kernel_rfl) (FnOK.bare rfl rfl rfl) Zqa eqOk Hk (by kernel_rfl) (by kernel_rfl) (λvars R K=>Zlv vars R K)
def Q6r:Sk:=⟨[td,tf [ci],td,td,td,tf [ci],tf [ci]]++dd 6++[tf [sa Aj],tf [ci],tf [ci]]++dd 18,[(20000,179,cS)],[]⟩
def Qrd:List (Ex×Sk):=[(Ex.exit 0,⟨dd 6++[tf [ci]]++dd 27,[(20000,179,cS)],[]⟩)]
def Z22:Lp:=AL PG C_cncref30_SamePulses_0 64 3 (AN PG 197 3) Q6r Qrd
def Z0y (D:Lp):Cfg:=C_cncref30_SamePulses_0.loop 3 Q6r Qrd D
def Zk9 (D:Lp):Fn:=Lm PG (Z0y D) 64 197 Qcg Y2
def Zro:=Am (Z22)
def Zwc:=Zk9 Zro
def Zlh:=qa 154 Qcg Qkz
def TI:Fn:=λ_=>none
theorem Ya1:Al PG (Zlh TI):=Rk
def Zim:=qa 196 Qcg Qk2
def S_:Fn:=λ_=>none
theorem Zkv:Al PG (Zim S_):=Rk
def Z4m:=qa 153 Qnp Qkz
def Qql (D G I:Fn):Cfg:=cr [Zim D,Rf G,Qf1 I] [196,163,155] [163,155]
def Z2a (D G I:Fn):Fn:=An PG (Qql D G I) 64 153 Qnp Qkz
def Q3:=Z2a S_ DG FB
theorem Z73:Ai PG (Qql S_ DG FB):=Hx (rs:=[163,155]) rfl ⟨Zkv,Rt,Qhe,trivial⟩ rfl (Ci rfl (FE (FE HG)))
theorem Zqh:Al PG (Z4m Q3):=rw1 (C:=Qql S_ DG FB) Z73
def Zb3:Sk:=⟨[TS.v true [ci,ci,ci],tf [ci],TS.v true [ci,ci,ci],TS.v true [ci,ci,ci]],[],[]⟩
def Z63:=qa 195 Zb3 ZP
def SP:Fn:=λ_=>none
theorem Zrf:Al PG (Z63 SP):=Rk
attribute [go_sem] TM VZ UN Tg UR VL WJ YI OZ LO Qp8 Rz Qiu Tq T9 Ry Tj Rh Qag Yh Qe0
end Go.Bm
