/- functions of the program and of the references, as models -/
import Derived.Test.YtnnpdlgenmnekaaGreatDoorSeShelf
import Derived.Test.YtnnpdlgenmnekaaGreatDoorSeExt
import Derived.Test.YtnnpdlgenmnekaaGreatDoorSePre
import Derived.Test.YtnnpdlgenmnekaaGreatDoorSeKc
import Derived.Test.YtnnpdlgenmnekaaGreatDoorSeBld
import Derived.Test.YtnnpdlgenmnekaaGreatDoorSeStr
import Derived.Test.YtnnpdlgenmnekaaGreatDoorSeFmA
import Derived.Test.YtnnpdlgenmnekaaGreatDoorSeFmB
import Derived.Test.YtnnpdlgenmnekaaGreatDoorSeFmC
import Derived.Test.YtnnpdlgenmnekaaGreatDoorSeFmD
import Derived.Test.YtnnpdlgenmnekaaGreatDoorSeFmE
import Derived.Test.YtnnpdlgenmnekaaGreatDoorSeFmF
import Derived.Test.YtnnpdlgenmnekaaGreatDoorBmTy
set_option linter.unusedSimpArgs false
set_option linter.unusedVariables false
set_option maxRecDepth 100000
noncomputable section
open Go.IntKind (wrap)
namespace Go.Bm
open Go.Proofs
def qa (n:Nat) (s o:Sk) (M:Fn):Nat×Spec:=(n,Ad s o M)
def Qek:Sk:=⟨[tf [sa kPt],tf [sa kPt]],[],[]⟩
def Qjj:Sk:=⟨[tf [sb]],[],[]⟩
def Znv:=qa 27 Qek Qjj
def C_cncref30_SamePulses_0:Cfg:=cf []
def Zeo:Sk:=⟨[tf [sa kPt],tf [sa kPt]]++dd 10++[tf [ci],tf [ci]]++dd 12,[],[]⟩
def Q3f:List (Ex×Sk):=[(Ex.ret,⟨[td,td,td,td,tf [sb]]++dd 21,[],[]⟩),(Ex.exit 0,⟨[td]++dd 25,[],[]⟩)]
def Tc:Lp:=AL PG C_cncref30_SamePulses_0 64 4 (AK PG 27 4) Zeo Q3f
def Qwx (D:Lp):Cfg:=C_cncref30_SamePulses_0.loop 4 Zeo Q3f D
def Qjk (D:Lp):Fn:=An PG (Qwx D) 64 27 Qek Qjj
theorem Q6k (G L:Rw) (M D:Int):Tc [.vC kPt G, .vC kPt L,I M,I D]=
 cond (decide (D<M)) (cond (decide (0<=D)&&decide (D<(G.length:Int))) (cond (decide (0<=D)&&decide (D<(L.length:Int))) (cond (!(gA (nth [] G D.toNat) 0==gA (nth [] L D.toNat) 0&&(gA (nth [] G D.toNat) 1==gA (nth [] L D.toNat) 1&&(gA (nth [] G D.toNat) 2==gA (nth [] L D.toNat) 2&&true)))) (some (1,[B false])) (some (0,[.vC kPt G, .vC kPt L,I M,I (V (D+1))]))) (none)) (none)) (some (2,[])):=by kernel_rfl
theorem Z6s (L:Lp) (D G:Rw):Qjk L [.vC kPt D, .vC kPt G]=
 cond ((D.length:Int) !=(G.length:Int)) (some [B false]) ((L [.vC kPt D, .vC kPt G,I (D.length:Int),I 0]).bind λo1=>
 cond (o1.1.beq 1) (some [B (bA o1.2 0)]) (cond (o1.1.beq 2) (some [B true]) (none))):=by kernel_rfl
def Qw6:=Am (Tc)
def NF:=Qjk Qw6
theorem Q9q:Aj PG (C_cncref30_SamePulses_0):=Ao rfl trivial
theorem Zwv:Al PG (Znv NF):=rw2 (C:=Qwx Qw6) (fl fb Q9q) Q9q
def Yr:Sk:=⟨[TS.v true ([sa kPt,sa Aa]++cc 7),TS.v true ([sa kPt,sa Aa]++cc 7)],[],[]⟩
def Z0r:=qa 64 Yr Qjj
def Xu (D:Fn):Cfg:=cf [Znv D]
def Q58:Sk:=⟨[td,td,tf [sc 2 0],tf [sc 3 0]]++dd 19++[tf [ci],tf [ci]]++dd 47,[(2,61,[sa kPt,sa Aa]++cc 7),(3,61,[sa kPt,sa Aa]++cc 7)],[]⟩
def Q7o:List (Ex×Sk):=[(Ex.ret,⟨[td,td,td,td,tf [sb]]++dd 67,[],[]⟩),(Ex.exit 0,⟨[td,td,tf [sc 2 0],tf [sc 3 0]]++dd 68,[(2,61,[sa kPt,sa Aa]++cc 7),(3,61,[sa kPt,sa Aa]++cc 7)],[]⟩)]
def Tz (D:Fn):Lp:=AL PG (Xu D) 64 4 (AK PG 64 4) Q58 Q7o
def Q97 (D:Fn) (G:Lp):Cfg:=(Xu D).loop 4 Q58 Q7o G
def Qgl (D:Fn) (G:Lp):Fn:=An PG (Q97 D G) 64 64 Yr Qjj
theorem Q62 (Gr:Fn) (X D:Int) (Y U:Rw) (v4 v5 v6 v7 v8 v9 v10:Int) (v11 v12:Rw) (G L M N O S T:Int):Tz Gr [I X,I D, .vC kPt Y, .vC Aa U,I v4,I v5,I v6,I v7,I v8,I v9,I v10, .vC kPt v11, .vC Aa v12,I G,I L,I M,I N,I O,I S,I T]=
 cond (decide (D<X)) (cond (decide (0<=D)&&decide (D<(U.length:Int))) (cond (decide (0<=D)&&decide (D<(v12.length:Int))) (cond (gA (nth [] U D.toNat) 0 !=gA (nth [] v12 D.toNat) 0) (some (1,[B false])) (some (0,[I X,I (V (D+1)), .vC kPt Y, .vC Aa U,I v4,I v5,I v6,I v7,I v8,I v9,I v10, .vC kPt v11, .vC Aa v12,I G,I L,I M,I N,I O,I S,I T]))) (none)) (none)) (some (2,[.vC kPt Y, .vC Aa U,I v4,I v5,I v6,I v7,I v8,I v9,I v10, .vC kPt v11, .vC Aa v12,I G,I L,I M,I N,I O,I S,I T])):=by kernel_rfl
theorem Zfa (Y:Fn) (N4:Lp) (V U:Rw) (x2 x3 x4 x5 x6 x7 x8:Int) (X D:Rw) (G L M N O S T:Int):Qgl Y N4 [.vC kPt V, .vC Aa U,I x2,I x3,I x4,I x5,I x6,I x7,I x8, .vC kPt X, .vC Aa D,I G,I L,I M,I N,I O,I S,I T]=
 (Y [.vC kPt V, .vC kPt X]).bind λo3=>
 cond (!bA o3 0) (some [B false]) (cond ((U.length:Int) !=(D.length:Int)) (some [B false]) ((N4 [I (U.length:Int),I 0, .vC kPt V, .vC Aa U,I x2,I x3,I x4,I x5,I x6,I x7,I x8, .vC kPt X, .vC Aa D,I G,I L,I M,I N,I O,I S,I T]).bind λo4=>
 cond (o4.1.beq 1) (some [B (bA o4.2 0)]) (cond (o4.1.beq 2) (cond (gA o4.2 2==gA o4.2 11) (cond (gA o4.2 3==gA o4.2 12) (cond (gA o4.2 4==gA o4.2 13&&(gA o4.2 5==gA o4.2 14&&(gA o4.2 6==gA o4.2 15&&true))) (cond (gA o4.2 7==gA o4.2 16) (some [B (gA o4.2 8==gA o4.2 17)]) (some [B false])) (some [B false])) (some [B false])) (some [B false])) (none)))):=by kernel_rfl
def Zdt:=Am (Tz NF)
def IH:=Qgl NF Zdt
theorem Qy2:Aj PG (Xu NF):=Ao rfl ⟨Zwv,trivial⟩
theorem Z42:Al PG (Z0r IH):=rw2 (C:=Q97 NF Zdt) (fl fb Qy2) Qy2
def Qrt:Sk:=⟨[tf [sa [Kd.sl kPt,Kd.sl Aa,kI,kI,kI,kI,kI,kI,kI]],tf [sa [Kd.sl kPt,Kd.sl Aa,kI,kI,kI,kI,kI,kI,kI]]],[],[]⟩
def Ze9:=qa 24 Qrt Qjj
def Zu (D:Fn):Cfg:=cf [Z0r D]
def Q2q:Sk:=⟨[tf [sa [Kd.sl kPt,Kd.sl Aa,kI,kI,kI,kI,kI,kI,kI]],tf [sa [Kd.sl kPt,Kd.sl Aa,kI,kI,kI,kI,kI,kI,kI]]]++dd 10++[tf [ci],tf [ci]]++dd 13,[],[]⟩
def Q4h:List (Ex×Sk):=[(Ex.ret,⟨[td,td,td,td,tf [sb]]++dd 22,[],[]⟩),(Ex.exit 0,⟨[td]++dd 26,[],[]⟩)]
def UU (D:Fn):Lp:=AL PG (Zu D) 64 4 (AK PG 24 4) Q2q Q4h
def Zc9 (D:Fn) (G:Lp):Cfg:=(Zu D).loop 4 Q2q Q4h G
def WS (D:Fn) (G:Lp):Fn:=An PG (Zc9 D G) 64 24 Qrt Qjj
theorem Qtt (N:Fn) (G L:Rw) (M D:Int):UU N [.vC [Kd.sl kPt,Kd.sl Aa,kI,kI,kI,kI,kI,kI,kI] G, .vC [Kd.sl kPt,Kd.sl Aa,kI,kI,kI,kI,kI,kI,kI] L,I M,I D]=
 cond (decide (D<M)) (cond (decide (0<=D)&&decide (D<(G.length:Int))) (cond (decide (0<=D)&&decide (D<(L.length:Int))) ((N [.vC kPt (wA (nth [] G D.toNat) 0), .vC Aa (wA (nth [] G D.toNat) 1),jA (nth [] G D.toNat) 2,jA (nth [] G D.toNat) 3,jA (nth [] G D.toNat) 4,jA (nth [] G D.toNat) 5,jA (nth [] G D.toNat) 6,jA (nth [] G D.toNat) 7,jA (nth [] G D.toNat) 8, .vC kPt (wA (nth [] L D.toNat) 0), .vC Aa (wA (nth [] L D.toNat) 1),jA (nth [] L D.toNat) 2,jA (nth [] L D.toNat) 3,jA (nth [] L D.toNat) 4,jA (nth [] L D.toNat) 5,jA (nth [] L D.toNat) 6,jA (nth [] L D.toNat) 7,jA (nth [] L D.toNat) 8]).bind λo2=>
 cond (!bA o2 0) (some (1,[B false])) (some (0,[.vC [Kd.sl kPt,Kd.sl Aa,kI,kI,kI,kI,kI,kI,kI] G, .vC [Kd.sl kPt,Kd.sl Aa,kI,kI,kI,kI,kI,kI,kI] L,I M,I (V (D+1))]))) (none)) (none)) (some (2,[])):=by kernel_rfl
theorem Z50 (M:Fn) (L:Lp) (D G:Rw):WS M L [.vC [Kd.sl kPt,Kd.sl Aa,kI,kI,kI,kI,kI,kI,kI] D, .vC [Kd.sl kPt,Kd.sl Aa,kI,kI,kI,kI,kI,kI,kI] G]=
 cond ((D.length:Int) !=(G.length:Int)) (some [B false]) ((L [.vC [Kd.sl kPt,Kd.sl Aa,kI,kI,kI,kI,kI,kI,kI] D, .vC [Kd.sl kPt,Kd.sl Aa,kI,kI,kI,kI,kI,kI,kI] G,I (D.length:Int),I 0]).bind λo3=>
 cond (o3.1.beq 1) (some [B (bA o3.2 0)]) (cond (o3.1.beq 2) (some [B true]) (none))):=by kernel_rfl
def Qzm:=Am (UU IH)
def NK:=WS IH Qzm
theorem Qwc:Aj PG (Zu IH):=Ao rfl ⟨Z42,trivial⟩
theorem Z3r:Al PG (Ze9 NK):=rw2 (C:=Zc9 IH Qzm) (fl fb Qwc) Qwc
def Qan:Sk:=⟨[TS.v true (cc 9++[sa Aa]),tf [ci]],[],[]⟩
def ZM:Sk:=⟨[tf [ci]],[],[]⟩
def Zas:=qa 60 Qan ZM
def Q6d:Fn:=An PG C_cncref30_SamePulses_0 64 60 Qan ZM
theorem Zfz (L M N O S T G U X:Int) (Y:Rw) (D:Int):Q6d [I L,I M,I N,I O,I S,I T,I G,I U,I X, .vC Aa Y,I D]=
 cond (D== -1) (some [I (V (0-G))]) (some [I 0]):=by kernel_rfl
def JQ:=Q6d
theorem Zgd:Aj PG (C_cncref30_SamePulses_0):=Ao rfl trivial
theorem Q3r:Al PG (Zas JQ):=rw1 (C:=C_cncref30_SamePulses_0) Zgd
def Qde:Sk:=⟨[TS.v true (cc 9++[sa Aa]),TS.v true (cc 10),tf [ci],tf [ci]],[],[]⟩
def Ydi:=qa 61 Qde ZM
def Xs (D:Fn):Cfg:=cf [Zas D]
def Qp (D:Fn):Fn:=An PG (Xs D) 64 61 Qde ZM
abbrev Ur (D G M:Int) (L:Bool):Option (List AC):=
 cond (L) (some [I (V (0-mn (V (D-G)) M))]) (some [I (V (mn (V (D-G)) M-M))])
abbrev Wz (D:Int) (G:Fn) (L M N O S T U V X:Int) (Y:Rw) (a0 a1 a2:Int):Option (List AC):=
 cond (decide (D=(↑0:Int))) ((G [I L,I M,I N,I O,I S,I T,I U,I V,I X, .vC Aa Y,I a0]).bind λa3=>
 some [jA a3 0]) (cond (decide (D=(↑(0+1):Int))) ((G [I L,I M,I N,I O,I S,I T,I U,I V,I X, .vC Aa Y,I a1]).bind λa4=>
 some [jA a4 0]) (cond (decide (D=(↑(0+1+1):Int))) ((G [I L,I M,I N,I O,I S,I T,I U,I V,I X, .vC Aa Y,I a2]).bind λa5=>
 some [jA a5 0]) (none)))
abbrev Vo (D:Int) (T:Fn) (U V X Y x4 x5 S x7 x8:Int) (x9:Rw) (L M N G I:Int) (O:Bool):Option (List AC):=
 cond (O) (Wz D T U V X Y x4 x5 S x7 x8 x9 L M N) (cond (decide (D=(↑0:Int))) (Ur G I S (L== -1)) (cond (decide (D=(↑(0+1):Int))) (Ur G I S (M== -1)) (cond (decide (D=(↑(0+1+1):Int))) (Ur G I S (N== -1)) (none))))
abbrev T0 (D:Int) (U:Fn) (V X Y x3 x4 x5 x6 x7 x8:Int) (x9:Rw) (G I L M N:Int) (O S T:Bool):Option (List AC):=
 cond (decide (D=(↑0:Int))) (Vo D U V X Y x3 x4 x5 x6 x7 x8 x9 G I L M N O) (cond (decide (D=(↑(0+1):Int))) (Vo D U V X Y x3 x4 x5 x6 x7 x8 x9 G I L M N S) (cond (decide (D=(↑(0+1+1):Int))) (Vo D U V X Y x3 x4 x5 x6 x7 x8 x9 G I L M N T) (none)))
theorem Qlc (V:Fn) (X Y x2 x3 x4 x5 x6 x7 x8:Int) (x9:Rw) (N a1 a2 a0 O S T D G L M U:Int):Qp V [I X,I Y,I x2,I x3,I x4,I x5,I x6,I x7,I x8, .vC Aa x9,I N,I a1,I a2,I a0,I O,I S,I T,I D,I G,I L,I M,I U]=
 cond (a0 !=0) (Wz M V X Y x2 x3 x4 x5 x6 x7 x8 x9 D G L) (cond (decide (M=(↑0:Int))) (T0 M V X Y x2 x3 x4 x5 x6 x7 x8 x9 D G L U N (O==D) (O==G) (O==L)) (cond (decide (M=(↑(0+1):Int))) (T0 M V X Y x2 x3 x4 x5 x6 x7 x8 x9 D G L U N (S==D) (S==G) (S==L)) (cond (decide (M=(↑(0+1+1):Int))) (T0 M V X Y x2 x3 x4 x5 x6 x7 x8 x9 D G L U N (T==D) (T==G) (T==L)) (none)))):=by kernel_rfl
def Sz:=Qp JQ
theorem Zi2:Aj PG (Xs JQ):=Ao rfl ⟨Q3r,trivial⟩
theorem Zy4:Al PG (Ydi Sz):=rw1 (C:=Xs JQ) Zi2
def Z52:=qa 111 Qan ZM
def Q8j:Fn:=An PG C_cncref30_SamePulses_0 64 111 Qan ZM
theorem Zii (D L M N O S T U X:Int) (Y:Rw) (G:Int):Q8j [I D,I L,I M,I N,I O,I S,I T,I U,I X, .vC Aa Y,I G]=
 cond (decide (D<=0)) (some [I 0]) (cond (decide (V (2*D)<=0)) (some [I 0]) (cond (decide (V (2*D)=0)) (none) (cond (decide (V (2*D)=0)) (none) (cond (decide ((V (V (2*G)+D)).tmod (V (2*D))<0)) (some [I (V (V ((V (V (2*G)+D)).tdiv (V (2*D)))-1))]) (some [I (V ((V (V (2*G)+D)).tdiv (V (2*D))))]))))):=by kernel_rfl
def KM:=Q8j
theorem Ydd:Aj PG (C_cncref30_SamePulses_0):=Ao rfl trivial
theorem Zfq:Al PG (Z52 KM):=rw1 (C:=C_cncref30_SamePulses_0) Ydd
def Zb:Sk:=⟨[tf [se .u64],tf [sb]],[],[]⟩
def Yz:Sk:=⟨[TS.tup [(false,[ci]),(false,[sb])]],[],[]⟩
def WU:=qa 130 Zb Yz
def Qie:Fn:=An PG C_cncref30_SamePulses_0 64 130 Zb Yz
theorem Qqr (D:Int) (G:Bool):Qie [U D,B G]=
 cond (G) (cond (decide (D<=9223372036854775808)) (some [I (V (wrap .u64 (0-D))),B true]) (cond (!G) (cond (decide (D<9223372036854775808)) (some [I (V D),B true]) (some [I 0,B false])) (some [I 0,B false]))) (cond (!G) (cond (decide (D<9223372036854775808)) (some [I (V D),B true]) (some [I 0,B false])) (some [I 0,B false])):=by kernel_rfl
def EU:=Qie
theorem Zxq:Aj PG (C_cncref30_SamePulses_0):=Ao rfl trivial
theorem Qk0:Al PG (WU EU):=rw1 (C:=C_cncref30_SamePulses_0) Zxq
def Qfe:Sk:=⟨[tf [ci],tf [ci],tf [sb],tf [sb]],[],[]⟩
def Q5u:=qa 129 Qfe Qjj
def Ql5:Fn:=An PG C_cncref30_SamePulses_0 64 129 Qfe Qjj
theorem Q10 (G L:Int) (M D:Bool):Ql5 [I G,I L,B M,B D]=
 cond (G==0) (cond (M) (some [B D]) (some [B false])) (cond (G==1) (cond (M) (some [B !D]) (some [B false])) (cond (decide (L>0)) (some [B true]) (cond (L==0) (some [B !D]) (some [B false])))):=by kernel_rfl
def H2:=Ql5
theorem Yd4:Aj PG (C_cncref30_SamePulses_0):=Ao rfl trivial
theorem Zea:Al PG (Q5u H2):=rw1 (C:=C_cncref30_SamePulses_0) Yd4
def Zo:Sk:=⟨[tf [ci],tf [ci]],[],[]⟩
def XH:=qa 128 Zo ZM
def Qju:Fn:=An PG C_cncref30_SamePulses_0 64 128 Zo ZM
theorem Qvw (D G:Int):Qju [I D,I G]=
 cond (D==0) (some [I 0]) (cond (G==0) (some [I 0]) (cond (decide (D<0)==decide (G<0)) (some [I 1]) (some [I (-1)]))):=by kernel_rfl
def FO:=Qju
theorem Zgs:Aj PG (C_cncref30_SamePulses_0):=Ao rfl trivial
theorem Qed:Al PG (XH FO):=rw1 (C:=C_cncref30_SamePulses_0) Zgs
def WJ:Sk:=⟨[tf [se .u64],tf [se .u64],tf [se .u64]],[],[]⟩
def Qol:Sk:=⟨[TS.tup [(false,[se .u64]),(false,[se .u64])]],[],[]⟩
def Zca:=qa 127 WJ Qol
def X7 (D:Fn):Cfg:=cf [(172,Ad Zb3 Za5 D)]
def Qur:Sk:=⟨[td,td,tf [se .u64],td,td,td,td,td,tf [se .u64],tf [se .u64],tf [se .u64],tf [se .u64],td,tf [se .u64],tf [se .u64],tf [se .u64],tf [se .u64]]++dd 118,[],[]⟩
def Q7w:List (Ex×Sk):=[(Ex.exit 0,⟨[td,td,tf [se .u64],td,td,td,td,td,tf [se .u64],tf [se .u64],tf [se .u64],tf [se .u64],td,tf [se .u64],tf [se .u64],tf [se .u64]]++dd 119,[],[]⟩)]
def LW (D:Fn):Lp:=AL PG (X7 D) 64 17 (AK PG 127 17) Qur Q7w
def Q50 (G:Fn) (D:Lp):Cfg:=(X7 G).loop 17 Qur Q7w D
def Qxq:Sk:=⟨[td,td,tf [se .u64],td,td,td,td,td,tf [se .u64],tf [se .u64],tf [se .u64],td,td,td,tf [se .u64],tf [se .u64],tf [se .u64],tf [se .u64],tf [se .u64]]++dd 116,[],[]⟩
def Q52:List (Ex×Sk):=[(Ex.exit 2,⟨[td,td,tf [se .u64],td,td,td,td,td,tf [se .u64],td,td,td,td,td,tf [se .u64],tf [se .u64],td,tf [se .u64],tf [se .u64]]++dd 116,[],[]⟩)]
def PJ (G:Fn) (D:Lp):Lp:=AL PG (Q50 G D) 64 24 (AK PG 127 24) Qxq Q52
def Q12 (I:Fn) (D G:Lp):Cfg:=(Q50 I D).loop 24 Qxq Q52 G
def Qei (I:Fn) (D G:Lp):Fn:=An PG (Q12 I D G) 64 127 WJ Qol
theorem Zq6 (DL:Fn) (M N D I O L S G T:Int):LW DL [U M,U N,U D,U I,U O,U L,U S,U G,U T]=
 cond (decide (G>=4294967296)) (cond (decide (wrap .u64 (T+D)>=4294967296)) (some (1,[U M,U N,U D,U I,U O,U L,U S,U (wrap .u64 (G-1))])) (some (0,[U M,U N,U D,U I,U O,U L,U S,U (wrap .u64 (G-1)),U (wrap .u64 (T+D))]))) (cond (decide (wrap .u64 (G*I)>wrap .u64 (wrap .u64 (4294967296*T)+L))) (cond (decide (wrap .u64 (T+D)>=4294967296)) (some (1,[U M,U N,U D,U I,U O,U L,U S,U (wrap .u64 (G-1))])) (some (0,[U M,U N,U D,U I,U O,U L,U S,U (wrap .u64 (G-1)),U (wrap .u64 (T+D))]))) (some (1,[U M,U N,U D,U I,U O,U L,U S,U G]))):=by kernel_rfl
theorem Zpd (DL:Fn) (N17:Lp) (L M G T I N O S D:Int):PJ DL N17 [U L,U M,U G,U T,U I,U N,U O,U S,U D]=
 cond (decide (D>=4294967296)) (cond (decide (wrap .u64 (O+G)>=4294967296)) (some (1,[U L,U M,U I,U N,U S,U (wrap .u64 (D-1))])) (some (0,[U L,U M,U G,U T,U I,U N,U (wrap .u64 (O+G)),U S,U (wrap .u64 (D-1))]))) (cond (decide (wrap .u64 (D*T)>wrap .u64 (wrap .u64 (4294967296*O)+I))) (cond (decide (wrap .u64 (O+G)>=4294967296)) (some (1,[U L,U M,U I,U N,U S,U (wrap .u64 (D-1))])) (some (0,[U L,U M,U G,U T,U I,U N,U (wrap .u64 (O+G)),U S,U (wrap .u64 (D-1))]))) (some (1,[U L,U M,U I,U N,U S,U D]))):=by kernel_rfl
theorem Q1g (O:Fn) (M N:Lp) (L I G:Int):Qei O M N [U L,U I,U G]=
 cond (G==0) (none) (cond (decide (G<=L)) (none) (cond (L==0) (cond (decide (G=0)) (none) (cond (decide (G=0)) (none) (some [U (wrap .u64 (I.tdiv G)),U (I.tmod G)]))) ((O [U G]).bind λo6=>
 cond (decide (wrap .u64 (gA o6 0)<0)) (none) (cond (decide (wrap .u64 (gA o6 0)<0)) (none) (cond (decide (wrap .u64 (64-wrap .u64 (gA o6 0))<0)) (none) (cond (decide (wrap .u64 (gA o6 0)<0)) (none) (cond (decide ((wrap .u64 (G*2^min (wrap .u64 (gA o6 0)).toNat IntKind.u64.bits)).fdiv (2^min (Int.toNat 32) IntKind.u64.bits)=0)) (none) ((M [U (wrap .u64 (G*2^min (wrap .u64 (gA o6 0)).toNat IntKind.u64.bits)),U (wrap .u64 (gA o6 0)),U ((wrap .u64 (G*2^min (wrap .u64 (gA o6 0)).toNat IntKind.u64.bits)).fdiv (2^min (Int.toNat 32) IntKind.u64.bits)),U (wrap .u64 (↑(BitVec.ofInt IntKind.u64.bits (wrap .u64 (G*2^min (wrap .u64 (gA o6 0)).toNat IntKind.u64.bits))&&&BitVec.ofInt IntKind.u64.bits 4294967295).toNat:Int)),U (wrap .u64 (↑(BitVec.ofInt IntKind.u64.bits (wrap .u64 (L*2^min (wrap .u64 (gA o6 0)).toNat IntKind.u64.bits))|||BitVec.ofInt IntKind.u64.bits (I.fdiv (2^min (wrap .u64 (64-wrap .u64 (gA o6 0))).toNat IntKind.u64.bits))).toNat:Int)),U ((wrap .u64 (I*2^min (wrap .u64 (gA o6 0)).toNat IntKind.u64.bits)).fdiv (2^min (Int.toNat 32) IntKind.u64.bits)),U (wrap .u64 (↑(BitVec.ofInt IntKind.u64.bits (wrap .u64 (I*2^min (wrap .u64 (gA o6 0)).toNat IntKind.u64.bits))&&&BitVec.ofInt IntKind.u64.bits 4294967295).toNat:Int)),U (wrap .u64 ((wrap .u64 (↑(BitVec.ofInt IntKind.u64.bits (wrap .u64 (L*2^min (wrap .u64 (gA o6 0)).toNat IntKind.u64.bits))|||BitVec.ofInt IntKind.u64.bits (I.fdiv (2^min (wrap .u64 (64-wrap .u64 (gA o6 0))).toNat IntKind.u64.bits))).toNat:Int)).tdiv ((wrap .u64 (G*2^min (wrap .u64 (gA o6 0)).toNat IntKind.u64.bits)).fdiv (2^min (Int.toNat 32) IntKind.u64.bits)))),U (wrap .u64 (wrap .u64 (↑(BitVec.ofInt IntKind.u64.bits (wrap .u64 (L*2^min (wrap .u64 (gA o6 0)).toNat IntKind.u64.bits))|||BitVec.ofInt IntKind.u64.bits (I.fdiv (2^min (wrap .u64 (64-wrap .u64 (gA o6 0))).toNat IntKind.u64.bits))).toNat:Int)-wrap .u64 (wrap .u64 ((wrap .u64 (↑(BitVec.ofInt IntKind.u64.bits (wrap .u64 (L*2^min (wrap .u64 (gA o6 0)).toNat IntKind.u64.bits))|||BitVec.ofInt IntKind.u64.bits (I.fdiv (2^min (wrap .u64 (64-wrap .u64 (gA o6 0))).toNat IntKind.u64.bits))).toNat:Int)).tdiv ((wrap .u64 (G*2^min (wrap .u64 (gA o6 0)).toNat IntKind.u64.bits)).fdiv (2^min (Int.toNat 32) IntKind.u64.bits)))*(wrap .u64 (G*2^min (wrap .u64 (gA o6 0)).toNat IntKind.u64.bits)).fdiv (2^min (Int.toNat 32) IntKind.u64.bits))))]).bind λD=>
 cond (D.1.beq 1) (cond (decide (gA D.2 2=0)) (none) ((N [U (gA D.2 0),U (gA D.2 1),U (gA D.2 2),U (gA D.2 3),U (gA D.2 6),U (gA D.2 7),U (wrap .u64 (wrap .u64 (wrap .u64 (wrap .u64 (gA D.2 4*4294967296)+gA D.2 5)-wrap .u64 (gA D.2 7*gA D.2 0))-wrap .u64 (wrap .u64 ((wrap .u64 (wrap .u64 (wrap .u64 (gA D.2 4*4294967296)+gA D.2 5)-wrap .u64 (gA D.2 7*gA D.2 0))).tdiv (gA D.2 2))*gA D.2 2))),U (wrap .u64 (wrap .u64 (wrap .u64 (gA D.2 4*4294967296)+gA D.2 5)-wrap .u64 (gA D.2 7*gA D.2 0))),U (wrap .u64 ((wrap .u64 (wrap .u64 (wrap .u64 (gA D.2 4*4294967296)+gA D.2 5)-wrap .u64 (gA D.2 7*gA D.2 0))).tdiv (gA D.2 2)))]).bind λo8=>
 cond (o8.1.beq 1) (cond (decide (gA o8.2 1<0)) (none) (some [U (wrap .u64 (wrap .u64 (gA o8.2 3*4294967296)+gA o8.2 5)),U ((wrap .u64 (wrap .u64 (wrap .u64 (gA o8.2 4*4294967296)+gA o8.2 2)-wrap .u64 (gA o8.2 5*gA o8.2 0))).fdiv (2^min (gA o8.2 1).toNat IntKind.u64.bits))])) (none))) (none))))))))):=by kernel_rfl
def U7:=Am (LW IL)
def Qhf:=Am (PJ IL U7)
def GF:=Qei IL U7 Qhf
theorem Qq5:Aj PG (X7 IL):=Ao rfl ⟨Z0v,trivial⟩
theorem Qti:Al PG (Zca GF):=rw2 (C:=Q12 IL U7 Qhf) (fl (fl fb Qq5) Qq5) Qq5
def Qks:Sk:=⟨[tf [se .u64],tf [se .u64]],[],[]⟩
def Qc5:Sk:=⟨[TS.v true [se .u64,se .u64]],[],[]⟩
def Up:=qa 125 Qks Qc5
def YN (D:Fn):Cfg:=cf [(171,Ad Z4 VF D)]
def Za6 (D:Fn):Fn:=An PG (YN D) 64 125 Qks Qc5
theorem Zkz (D:Fn) (G I:Int):Za6 D [U G,U I]=
 (D [U G,U I]).bind λo1=>
 some [U (gA o1 0),U (gA o1 1)]:=by kernel_rfl
def Et:=Za6 Ih
theorem Zi4:Aj PG (YN Ih):=Ao rfl ⟨Qwv,trivial⟩
theorem U9:Al PG (Up Et):=rw1 (C:=YN Ih) Zi4
def Qbv:Sk:=⟨[tf [se .u64]],[],[]⟩
def Qcl:=qa 126 ZM Qbv
def Qt2:Fn:=An PG C_cncref30_SamePulses_0 64 126 ZM Qbv
theorem Zev (D:Int):Qt2 [I D]=
 cond (decide (D<0)) (some [U (wrap .u64 (wrap .u64 (V (0-V (D+1)))+1))]) (some [U (wrap .u64 D)]):=by kernel_rfl
def Gc:=Qt2
theorem Zmr:Aj PG (C_cncref30_SamePulses_0):=Ao rfl trivial
theorem We:Al PG (Qcl Gc):=rw1 (C:=C_cncref30_SamePulses_0) Zmr
def Qqp:=qa 124 ZM Qjj
def V2:Fn:=An PG C_cncref30_SamePulses_0 64 124 ZM Qjj
theorem Q5j (D:Int):V2 [I D]=
 cond (D==0) (some [B true]) (cond (D==1) (some [B true]) (some [B (D==2)])):=by kernel_rfl
def FL:=V2
theorem Z00:Aj PG (C_cncref30_SamePulses_0):=Ao rfl trivial
theorem Qog:Al PG (Qqp FL):=rw1 (C:=C_cncref30_SamePulses_0) Z00
def XD:Sk:=⟨[tf [ci],tf [ci],tf [ci],tf [ci]],[],[]⟩
def Mn:=qa 82 XD Yz
def Qqo (Bc D G I L M N:Fn):Cfg:=cf [WU Bc,Q5u D,XH G,Zca I,Up L,Qcl M,Qqp N]
def Tm (Bc D G I L M N:Fn):Fn:=An PG (Qqo Bc D G I L M N) 64 82 XD Yz
abbrev Vs (S:Fn) (T:Int) (G:List AC) (Bc:Fn) (L D:AC):Option (List AC):=
 (S [I T,L,B (decide (gA G 1>0)),D]).bind λO=>
 cond (bA O 0) (cond (wrap .u64 (gA G 0+1)==0) (some [I 0,B false]) ((Bc [U (wrap .u64 (gA G 0+1)),D]).bind λM=>
 some [jA M 0,B (bA M 1)])) ((Bc [U (gA G 0),D]).bind λN=>
 some [jA N 0,B (bA N 1)])
abbrev Wk (D L:List AC) (M:Fn) (N:Int) (Bc:Fn) (G:AC):Option (List AC):=
 cond (decide (gA D 1>wrap .u64 (gA L 0-gA D 1))) (Vs M N D Bc (I 1) G) (cond (decide (gA D 1<wrap .u64 (gA L 0-gA D 1))) (Vs M N D Bc (I (-1)) G) (Vs M N D Bc (I 0) G))
theorem Zaw (Bc V X FG BC M DA:Fn) (N O S T:Int):Tm Bc V X FG BC M DA [I N,I O,I S,I T]=
 cond (S==0) (some [I 0,B false]) ((DA [I T]).bind λY=>
 cond (!bA Y 0) (some [I 0,B false]) ((M [I N]).bind λa0=>
 (M [I O]).bind λa1=>
 (BC [U (gA a0 0),U (gA a1 0)]).bind λG=>
 (M [I S]).bind λD=>
 cond (decide (gA G 0>=gA D 0)) (some [I 0,B false]) ((FG [U (gA G 0),U (gA G 1),U (gA D 0)]).bind λL=>
 (X [I N,I O]).bind λa2=>
 cond (!decide (gA a2 0<0)==decide (S<0)) ((X [I N,I O]).bind λa3=>
 Wk L D V T Bc (B (gA a3 0 !=0))) (Wk L D V T Bc (B false))))):=by kernel_rfl
def Bt:=Tm EU H2 FO GF Et Gc FL
theorem Z36:Aj PG (Qqo EU H2 FO GF Et Gc FL):=Ao rfl ⟨Qk0,Zea,Qed,Qti,U9,We,Qog,trivial⟩
theorem Ln:Al PG (Mn Bt):=rw1 (C:=Qqo EU H2 FO GF Et Gc FL) Z36
def Zyy:=qa 112 Qan ZM
def VL (D:Fn):Cfg:=cf [Mn D]
def Q1c (D:Fn):Fn:=An PG (VL D) 64 112 Qan ZM
theorem Z2d (N:Fn) (O S T U X Y x6 M L:Int) (G:Rw) (D:Int):Q1c N [I O,I S,I T,I U,I X,I Y,I x6,I M,I L, .vC Aa G,I D]=
 cond (decide (V ((G.length:Int)-1)<0)) (some [I 0]) (cond (decide (V (D-M)<=0)) (cond (decide (0<=0)&&decide (0<(G.length:Int))) (some [jA (nth [] G 0) 0]) (none)) (cond (decide (L<=0)) (cond (decide (0<=0)&&decide (0<(G.length:Int))) (some [jA (nth [] G 0) 0]) (none)) (cond (decide (L=0)) (none) (cond (decide (V ((V (D-M)).tdiv L)>=V ((G.length:Int)-1))) (cond (decide (0<=V ((G.length:Int)-1))&&decide (V ((G.length:Int)-1)<(G.length:Int))) (some [jA (nth [] G (V ((G.length:Int)-1)).toNat) 0]) (none)) (cond (decide (0<=V (V ((V (D-M)).tdiv L)+1))&&decide (V (V ((V (D-M)).tdiv L)+1)<(G.length:Int))) (cond (decide (0<=V ((V (D-M)).tdiv L))&&decide (V ((V (D-M)).tdiv L)<(G.length:Int))) ((N [I (V (Af (nth .vD (nth [] G (V (V ((V (D-M)).tdiv L)+1)).toNat) 0)-Af (nth .vD (nth [] G (V ((V (D-M)).tdiv L)).toNat) 0))),I (V (V (D-M)-V (V ((V (D-M)).tdiv L)*L))),I L,I 2]).bind λo1=>
 cond (decide (0<=V ((V (D-M)).tdiv L))&&decide (V ((V (D-M)).tdiv L)<(G.length:Int))) (some [I (V (Af (nth .vD (nth [] G (V ((V (D-M)).tdiv L)).toNat) 0)+gA o1 0))]) (none)) (none)) (none)))))):=by kernel_rfl
def Kc:=Q1c Bt
theorem Zpo:Aj PG (VL Bt):=Ao rfl ⟨Ln,trivial⟩
theorem Z4b:Al PG (Zyy Kc):=rw1 (C:=VL Bt) Zpo
def Ycr:=qa 59 Qan ZM
def WQ (D G:Fn):Cfg:=cf [Z52 D,Zyy G]
def Q0r (D G:Fn):Fn:=An PG (WQ D G) 64 59 Qan ZM
theorem Z2w (Pg Ob:Fn) (G L M N O S T U X:Int) (Y:Rw) (D:Int):Q0r Pg Ob [I G,I L,I M,I N,I O,I S,I T,I U,I X, .vC Aa Y,I D]=
 (Ob [I G,I L,I M,I N,I O,I S,I T,I U,I X, .vC Aa Y,I D]).bind λo2=>
 (Pg [I G,I L,I M,I N,I O,I S,I T,I U,I X, .vC Aa Y,I (V (D+gA o2 0))]).bind λo3=>
 some [jA o3 0]:=by kernel_rfl
def M_:=Q0r KM Kc
theorem Zq8:Aj PG (WQ KM Kc):=Ao rfl ⟨Zfq,Z4b,trivial⟩
theorem Zxv:Al PG (Ycr M_):=rw1 (C:=WQ KM Kc) Zq8
def Yf:Sk:=⟨[TS.v true ([sa Ap]++cc 5),tf [ci]],[],[]⟩
def Qqh:=qa 58 Yf ZM
def Zd2:Sk:=⟨[td,tf [ci],tf [sc 2 0],td,td,tf [ci],tf [ci]]++dd 29,[(2,52,[sa Ap]++cc 5)],[]⟩
def Q88:List (Ex×Sk):=[(Ex.exit 0,⟨dd 6++[tf [ci]]++dd 29,[],[]⟩)]
def S1:Lp:=AL PG C_cncref30_SamePulses_0 64 2 (AK PG 58 2) Zd2 Q88
def Q4g (D:Lp):Cfg:=C_cncref30_SamePulses_0.loop 2 Zd2 Q88 D
def Q04 (D:Lp):Fn:=An PG (Q4g D) 64 58 Yf ZM
theorem Qeu (M G D:Int) (L:Rw) (N O S T U:Int):S1 [I M,I G,I D, .vC Ap L,I N,I O,I S,I T,I U]=
 cond (decide (G<D)) (cond (decide (0<=V ((V (G+D)).tdiv 2))&&decide (V ((V (G+D)).tdiv 2)<(L.length:Int))) (cond (decide (M<=V (Af (nth .vD (nth [] L (V ((V (G+D)).tdiv 2)).toNat) 0)+Af (nth .vD (nth [] L (V ((V (G+D)).tdiv 2)).toNat) 1)))) (some (0,[I M,I G,I (V ((V (G+D)).tdiv 2)), .vC Ap L,I N,I O,I S,I T,I U])) (some (0,[I M,I (V (V ((V (G+D)).tdiv 2)+1)),I D, .vC Ap L,I N,I O,I S,I T,I U]))) (none)) (some (1,[I D])):=by kernel_rfl
theorem Yco (G:Lp) (D:Rw) (L M N O S T:Int):Q04 G [.vC Ap D,I L,I M,I N,I O,I S,I T]=
 (G [I T,I 0,I (V ((D.length:Int)-1)), .vC Ap D,I L,I M,I N,I O,I S]).bind λo1=>
 cond (o1.1.beq 1) (some [jA o1.2 0]) (none):=by kernel_rfl
def Mr:=Am (S1)
def GM:=Q04 Mr
theorem Q6h:Aj PG (C_cncref30_SamePulses_0):=Ao rfl trivial
theorem Qjy:Al PG (Qqh GM):=rw2 (C:=Q4g Mr) (fl fb Q6h) Q6h
def Qi1:Sk:=⟨[TS.v true [ci,ci,ci,sa Ag,sa kPt],tf [ci]],[],[]⟩
def W9:Sk:=⟨[TS.tup [(false,[ci]),(false,[ci])]],[],[]⟩
def Qiu:=qa 81 Qi1 W9
def Qz0:Sk:=⟨[td,tf [ci],tf [sc 2 0]]++dd 8++[tf [sa Ag],tf [ci],tf [ci]]++dd 24,[(2,46,[ci,ci,ci,sa Ag,sa kPt])],[]⟩
def Zdy:List (Ex×Sk):=[(Ex.ret,⟨[td,td,td,td,tf [ci],tf [ci]]++dd 32,[],[]⟩),(Ex.exit 0,⟨[td]++dd 37,[],[]⟩)]
def SO:Lp:=AL PG C_cncref30_SamePulses_0 64 3 (AK PG 81 3) Qz0 Zdy
def Q9h (D:Lp):Cfg:=C_cncref30_SamePulses_0.loop 3 Qz0 Zdy D
def Q05 (D:Lp):Fn:=An PG (Q9h D) 64 81 Qi1 W9
theorem Q9m (L:Int) (G:Rw) (M D O S T:Int) (N U:Rw):SO [I L, .vC Ag G,I M,I D,I O,I S,I T, .vC Ag N, .vC kPt U]=
 cond (decide (D<M)) (cond (decide (0<=D)&&decide (D<(G.length:Int))) (cond (decide (L<gA (nth [] G D.toNat) 3)) (some (1,[I D,I L])) (cond (D==V ((N.length:Int)-1)) (some (1,[I D,jA (nth [] G D.toNat) 3])) (some (0,[I (V (L-gA (nth [] G D.toNat) 3)), .vC Ag G,I M,I (V (D+1)),I O,I S,I T, .vC Ag N, .vC kPt U])))) (none)) (some (2,[])):=by kernel_rfl
theorem Qxf (G:Lp) (L M N:Int) (D O:Rw) (S:Int):Q05 G [I L,I M,I N, .vC Ag D, .vC kPt O,I S]=
 (G [I (mx S 0), .vC Ag D,I (D.length:Int),I 0,I L,I M,I N, .vC Ag D, .vC kPt O]).bind λo1=>
 cond (o1.1.beq 1) (some [jA o1.2 0,jA o1.2 1]) (cond (o1.1.beq 2) (some [I (-1),I 0]) (none)):=by kernel_rfl
def Ns:=Am (SO)
def EE:=Q05 Ns
theorem Q30:Aj PG (C_cncref30_SamePulses_0):=Ao rfl trivial
theorem ZH:Al PG (Qiu EE):=rw2 (C:=Q9h Ns) (fl fb Q30) Q30
def Qay:Sk:=⟨[TS.v true [ci,ci,ci]],[],[]⟩
def Ydw:=qa 36 Qi1 Qay
def X3 (D G:Fn):Cfg:={cf [Mn D,Qiu G]with unroll:=[9]}
def Qc0 (D G:Fn):Fn:=An PG (X3 D G) 64 36 Qi1 Qay
theorem Zrx (AH Ds:Fn) (L M N:Int) (G X:Rw) (Y:Int):Qc0 AH Ds [I L,I M,I N, .vC Ag G, .vC kPt X,I Y]=
 (Ds [I L,I M,I N, .vC Ag G, .vC kPt X,I Y]).bind λD=>
 cond (decide (gA D 0<0)) (some [I L,I M,I N]) (cond (decide (gA D 0>0)) (cond (decide (0<=V (gA D 0-1))&&decide (V (gA D 0-1)<(G.length:Int))) (cond (decide (0<=gA D 0)&&decide (gA D 0<(G.length:Int))) ((AH [I (V (gA (nth [] G (gA D 0).toNat) 0-gA (nth [] G (V (gA D 0-1)).toNat) 0)),jA D 1,jA (nth [] G (gA D 0).toNat) 3,I 2]).bind λo8=>
 (AH [I (V (gA (nth [] G (gA D 0).toNat) 1-gA (nth [] G (V (gA D 0-1)).toNat) 1)),jA D 1,jA (nth [] G (gA D 0).toNat) 3,I 2]).bind λo9=>
 (AH [I (V (gA (nth [] G (gA D 0).toNat) 2-gA (nth [] G (V (gA D 0-1)).toNat) 2)),jA D 1,jA (nth [] G (gA D 0).toNat) 3,I 2]).bind λO=>
 some [I (V (gA (nth [] G (V (gA D 0-1)).toNat) 0+gA o8 0)),I (V (gA (nth [] G (V (gA D 0-1)).toNat) 1+gA o9 0)),I (V (gA (nth [] G (V (gA D 0-1)).toNat) 2+gA O 0))]) (none)) (none)) (cond (decide (0<=gA D 0)&&decide (gA D 0<(G.length:Int))) ((AH [I (V (gA (nth [] G (gA D 0).toNat) 0-L)),jA D 1,jA (nth [] G (gA D 0).toNat) 3,I 2]).bind λS=>
 (AH [I (V (gA (nth [] G (gA D 0).toNat) 1-M)),jA D 1,jA (nth [] G (gA D 0).toNat) 3,I 2]).bind λT=>
 (AH [I (V (gA (nth [] G (gA D 0).toNat) 2-N)),jA D 1,jA (nth [] G (gA D 0).toNat) 3,I 2]).bind λU=>
 some [I (V (L+gA S 0)),I (V (M+gA T 0)),I (V (N+gA U 0))]) (none))):=by kernel_rfl
def RF:=Qc0 Bt EE
theorem Znw:Aj PG (X3 Bt EE):=Ao rfl ⟨Ln,ZH,trivial⟩
theorem Zjg:Al PG (Ydw RF):=rw1 (C:=X3 Bt EE) Znw
def Ve:=qa 47 Zo ZM
def Zda:Fn:=An PG C_cncref30_SamePulses_0 64 47 Zo ZM
theorem Zto (D G:Int):Zda [I D,I G]=
 some [I (mx 0 (mn D G))]:=by kernel_rfl
def Fi:=Zda
theorem Z1j:Aj PG (C_cncref30_SamePulses_0):=Ao rfl trivial
theorem S5:Al PG (Ve Fi):=rw1 (C:=C_cncref30_SamePulses_0) Z1j
def Q5:=qa 57 Yf ZM
def Qss (D G:Fn):Cfg:=cf [Qqh D,Ve G]
def Qnp (D G:Fn):Fn:=An PG (Qss D G) 64 57 Yf ZM
theorem Zu7 (M N:Fn) (D:Rw) (G L O S T U:Int):Qnp M N [.vC Ap D,I G,I L,I O,I S,I T,I U]=
 (N [I U,I G]).bind λo2=>
 (M [.vC Ap D,I G,I L,I O,I S,I T,jA o2 0]).bind λo3=>
 cond (decide (gA o3 0<0)) (some [I L]) (cond (decide (0<=gA o3 0)&&decide (gA o3 0<(D.length:Int))) (cond (decide (0<=gA o3 0)&&decide (gA o3 0<(D.length:Int))) (cond (decide (0<=gA o3 0)&&decide (gA o3 0<(D.length:Int))) (some [I (V (gA (nth [] D (gA o3 0).toNat) 2+V (gA (nth [] D (gA o3 0).toNat) 3*V (gA o2 0-gA (nth [] D (gA o3 0).toNat) 0))))]) (none)) (none)) (none)):=by kernel_rfl
def DQ:=Qnp GM Fi
theorem Z6g:Aj PG (Qss GM Fi):=Ao rfl ⟨Qjy,S5,trivial⟩
theorem Rl:Al PG (Q5 DQ):=rw1 (C:=Qss GM Fi) Z6g
def Xm:Sk:=⟨[TS.v true [ci,ci,ci,sa Ag,sa kPt],TS.v true (cc 9++[sa Aa]++cc 9++[sa Aa]++cc 9++[sa Aa]),TS.v true ([sa Ap]++cc 5),tf [ci]],[],[]⟩
def SW:=qa 21 Xm Qay
def Qic (Fw D G I L M N:Fn):Cfg:={cf [Ydi Fw,Zas D,Ycr G,Qqh I,Ydw L,Q5 M,Ve N]with unroll:=[6]}
def Qdv (Fw D G I L M N:Fn):Fn:=An PG (Qic Fw D G I L M N) 64 21 Xm Qay
abbrev Xn (U:Fn) (x:Ax3) (N D:List AC) (X:Fn) (t:Trk) (G:AC) (Fw:Fn) (O:List AC) (L:AC):Option (List AC):=
 (U [I x.c.step,I x.c.aS,I x.c.bF,I x.c.bG,I x.c.low,I x.c.aY,I x.c.bB,I x.c.aV,I x.c.aO, .vC Aa (x.c.aW.map As),jA N 2]).bind λM=>
 cond (decide (gA D 0<0)) ((X [I x.c.step,I x.c.aS,I x.c.bF,I x.c.bG,I x.c.low,I x.c.aY,I x.c.bB,I x.c.aV,I x.c.aO, .vC Aa (x.c.aW.map As),I t.aT.z]).bind λS=>
 some [G,L,I (V (gA M 0+gA S 0))]) (cond (decide (0<=gA D 0)&&decide (gA D 0<((t.aE.map AG).length:Int))) ((Fw (I x.c.step::I x.c.aS::I x.c.bF::I x.c.bG::I x.c.low::I x.c.aY::I x.c.bB::I x.c.aV::I x.c.aO:: .vC Aa (x.c.aW.map As)::(AM Ap (nth [] (t.aE.map AG) (gA D 0).toNat)++[I (V (V (0+1)+1)),jA O 0]))).bind λT=>
 some [G,L,I (V (gA M 0+gA T 0))]) (none))
abbrev Zp (O:Fn) (x:Ax3) (L D:List AC) (S:Fn) (t:Trk) (Fw:Fn) (M:List AC) (G:AC):Option (List AC):=
 (O [I x.b.step,I x.b.aS,I x.b.bF,I x.b.bG,I x.b.low,I x.b.aY,I x.b.bB,I x.b.aV,I x.b.aO, .vC Aa (x.b.aW.map As),jA L 1]).bind λN=>
 cond (decide (gA D 0<0)) ((S [I x.b.step,I x.b.aS,I x.b.bF,I x.b.bG,I x.b.low,I x.b.aY,I x.b.bB,I x.b.aV,I x.b.aO, .vC Aa (x.b.aW.map As),I t.aT.y]).bind λT=>
 Xn O x L D S t G Fw M (I (V (gA N 0+gA T 0)))) (cond (decide (0<=gA D 0)&&decide (gA D 0<((t.aE.map AG).length:Int))) ((Fw (I x.b.step::I x.b.aS::I x.b.bF::I x.b.bG::I x.b.low::I x.b.aY::I x.b.bB::I x.b.aV::I x.b.aO:: .vC Aa (x.b.aW.map As)::(AM Ap (nth [] (t.aE.map AG) (gA D 0).toNat)++[I (V (0+1)),jA M 0]))).bind λU=>
 Xn O x L D S t G Fw M (I (V (gA N 0+gA U 0)))) (none))
theorem Ya7 (Fw O S Y NR Bw Cd:Fn) (M:Int) (p:Pth) (x:Ax3) (t:Trk):Qdv Fw O S Y NR Bw Cd (pxt p x t [I M])=
 (Cd [I M,I t.length]).bind λG=>
 (Bw [.vC Ap (t.aE.map AG),I t.length,I t.aQ,I t.aT.x,I t.aT.y,I t.aT.z,jA G 0]).bind λT=>
 (NR [I p.aQ.x,I p.aQ.y,I p.aQ.z, .vC Ag (p.aF.map Aw), .vC kPt (p.aD.map At),jA T 0]).bind λL=>
 (Y [.vC Ap (t.aE.map AG),I t.length,I t.aQ,I t.aT.x,I t.aT.y,I t.aT.z,jA G 0]).bind λD=>
 (S [I x.a.step,I x.a.aS,I x.a.bF,I x.a.bG,I x.a.low,I x.a.aY,I x.a.bB,I x.a.aV,I x.a.aO, .vC Aa (x.a.aW.map As),jA L 0]).bind λN=>
 cond (decide (gA D 0<0)) ((O [I x.a.step,I x.a.aS,I x.a.bF,I x.a.bG,I x.a.low,I x.a.aY,I x.a.bB,I x.a.aV,I x.a.aO, .vC Aa (x.a.aW.map As),I t.aT.x]).bind λU=>
 Zp S x L D O t Fw G (I (V (gA N 0+gA U 0)))) (cond (decide (0<=gA D 0)&&decide (gA D 0<((t.aE.map AG).length:Int))) ((Fw (I x.a.step::I x.a.aS::I x.a.bF::I x.a.bG::I x.a.low::I x.a.aY::I x.a.bB::I x.a.aV::I x.a.aO:: .vC Aa (x.a.aW.map As)::(AM Ap (nth [] (t.aE.map AG) (gA D 0).toNat)++[I 0,jA G 0]))).bind λX=>
 Zp S x L D O t Fw G (I (V (gA N 0+gA X 0)))) (none)):=by kernel_rfl
def DV:=Qdv Sz JQ M_ GM RF DQ Fi
theorem Z5z:Aj PG (Qic Sz JQ M_ GM RF DQ Fi):=Ao rfl ⟨Zy4,Q3r,Zxv,Qjy,Zjg,Rl,S5,trivial⟩
theorem UV:Al PG (SW DV):=rw1 (C:=Qic Sz JQ M_ GM RF DQ Fi) Z5z
def Qdj:Sk:=⟨[tf [ci],TS.v true (cc 13++[sb,ci,sb]++cc 5++[sb])],[],[]⟩
def Zid:=qa 217 Qdj ZM
def Qne:Fn:=An PG C_cncref30_SamePulses_0 64 217 Qdj ZM
theorem Yde (G x1 x2 x3 x4 x5 x6 x7 x8 x9 M N O S:Int) (T:Bool) (U:Int) (X:Bool) (Y a0 a1 D a2:Int) (L:Bool):Qne [I G,I x1,I x2,I x3,I x4,I x5,I x6,I x7,I x8,I x9,I M,I N,I O,I S,B T,I U,B X,I Y,I a0,I a1,I D,I a2,B L]=
 cond (x1 !=10) (some [I G]) (cond (decide (D<0)) (some [I G]) (cond (decide (D>=16)) (some [I G]) (cond (decide (wrap .u64 D<0)) (none) (cond (L) (some [I (V (↑(BitVec.ofInt IntKind.i64.bits G|||BitVec.ofInt IntKind.i64.bits (V (1*2^min (wrap .u64 D).toNat IntKind.i64.bits))).toNat:Int))]) (some [I (V (↑(BitVec.ofInt IntKind.i64.bits G&&& ~~~BitVec.ofInt IntKind.i64.bits (V (1*2^min (wrap .u64 D).toNat IntKind.i64.bits))).toNat:Int))]))))):=by kernel_rfl
def KJ:=Qne
theorem Zmi:Aj PG (C_cncref30_SamePulses_0):=Ao rfl trivial
theorem Ybn:Al PG (Zid KJ):=rw1 (C:=C_cncref30_SamePulses_0) Zmi
def Qkd:Sk:=⟨[TS.v true [ci,ci,ci],TS.v true [ci,ci,sb,sb,sb]],[],[]⟩
def Qzd:=qa 216 Qkd Qjj
def Qm8:Fn:=An PG C_cncref30_SamePulses_0 64 216 Qkd Qjj
theorem Ybo (M D N O S:Int) (T G L:Bool):Qm8 [I M,I D,I N,I O,I S,B T,B G,B L]=
 cond (D==1) (some [B true]) (cond (D==3) (some [B true]) (cond (D==6) (some [B true]) (cond (D==4) (cond (L) (some [B true]) (some [B G])) (cond (D==2) (some [B G]) (some [B false]))))):=by kernel_rfl
def Iz:=Qm8
theorem Zlx:Aj PG (C_cncref30_SamePulses_0):=Ao rfl trivial
theorem Qx3:Al PG (Qzd Iz):=rw1 (C:=C_cncref30_SamePulses_0) Zlx
def Qdz:Sk:=⟨[tf [sc 20000 0],tf [ci]],[(20000,179,cS)],[]⟩
def Y7:Sk:=⟨[tf [sa Aa]],[(20000,179,cS)],[]⟩
def Z1z:=qa 165 Qdz Y7
def Qrd (D G:Fn):Cfg:={cf [Zid D,Qzd G]with prom:=λb=>cond (Nat.beq b 2) ([(5,3)]) ([])}
def Qt7:Sk:=⟨[tf [sc 20000 0],tf [ci],td,td,td,tf [sd 5 1]]++dd 84,[(20000,179,cS)],[(5,3,Aa)]⟩
def Q9j:List (Ex×Sk):=[(Ex.exit 0,⟨[td,td,td,td,td,tf [sd 5 1]]++dd 84,[(20000,179,cS)],[(5,3,Aa)]⟩)]
def Sf (D G:Fn):Lp:=AL PG (Qrd D G) 64 2 (AK PG 165 2) Qt7 Q9j
def Qu0 (D G:Fn) (I:Lp):Cfg:=(Qrd D G).loop 2 Qt7 Q9j I
def Qqv (D G:Fn) (I:Lp):Fn:=An PG (Qu0 D G I) 64 165 Qdz Y7
abbrev Pi (K:Kf) (c:Cv) (D:Rw) (M:Fn) (L:Int):Option (Nat×List AC):=
 cond (gA (nth [] (K.p.aD.map At) c.aK.toNat) 1==5) (cond (((D++[[jA (nth [] (K.p.aD.map At) c.aK.toNat) 2]]).length*8).ble 140737488355328) (cond (decide (0<=gA (nth [] (K.p.aD.map At) c.aK.toNat) 2)&&decide (gA (nth [] (K.p.aD.map At) c.aK.toNat) 2<((K.aA.map Ah).length:Int))) ((M (I c.outs::AM Ai (nth [] (K.aA.map Ah) (gA (nth [] (K.p.aD.map At) c.aK.toNat) 2).toNat))).bind λG=>
 some (0,(.vC Aa (D++[[jA (nth [] (K.p.aD.map At) c.aK.toNat) 2]])::I L::Ac K {c with outs:=gA G 0,aK:=V (c.aK+1)}))) (none)) (none)) (some (0,(.vC Aa D::I L::Ac K {c with aK:=V (c.aK+1)})))
theorem Zq9 (L M:Fn) (D:Rw) (G:Int) (K:Kf) (c:Cv):Sf L M (.vC Aa D::I G::Ac K c)=
 cond (decide (c.aK<((K.p.aD.map At).length:Int))) (cond (decide (0<=c.aK)&&decide (c.aK<((K.p.aD.map At).length:Int))) (cond (decide (gA (nth [] (K.p.aD.map At) c.aK.toNat) 0>G)) (some (1,(.vC Aa D::Ac K c))) (cond (gA (nth [] (K.p.aD.map At) c.aK.toNat) 0==G) (cond (decide (c.aK>=c.next)) ((M [jA (nth [] (K.p.aD.map At) c.aK.toNat) 0,jA (nth [] (K.p.aD.map At) c.aK.toNat) 1,jA (nth [] (K.p.aD.map At) c.aK.toNat) 2,I c.o0,I c.o1,B c.o2,B c.o3,B c.o4]).bind λN=>
 cond (bA N 0) (some (1,(.vC Aa D::Ac K c))) (Pi K c D L G)) (Pi K c D L G)) (Pi K c D L G))) (none)) (some (1,(.vC Aa D::Ac K c))):=by kernel_rfl
theorem Yd5 (M N:Fn) (G:Lp) (L:Int) (K:Kf) (c:Cv):Qqv M N G (I L::Ac K c)=
 (G (.vC Aa []::I L::Ac K c)).bind λD=>
 cond (D.1.beq 1) (some (.vC Aa (wA D.2 0)::cR 1 D.2)) (none):=by kernel_rfl
def Q46:=Am (Sf KJ Iz)
def Ni:=Qqv KJ Iz Q46
theorem Q2k:Aj PG (Qrd KJ Iz):=Ao rfl ⟨Ybn,Qx3,trivial⟩
theorem Ybz:Al PG (Z1z Ni):=rw2 (C:=Qu0 KJ Iz Q46) (fl fb Q2k) Q2k
def Qk7:Sk:=⟨[TS.v true [ci,ci,ci,sa Ag,sa kPt],TS.v true (cc 9++[sa Aa]++cc 9++[sa Aa]++cc 9++[sa Aa]),TS.v true ([sa Ap]++cc 5),tf [ci],tf [ci]],[],[]⟩
def Qaz:Sk:=⟨[tf [sa kPt]],[],[]⟩
def Zfb:=qa 164 Qk7 Qaz
def Qh3 (D:Fn):Cfg:={cf [SW D]with prom:=λb=>cond (Nat.beq b 5) ([(11,125)]) ([]),unroll:=[9]}
def Qz7:Sk:=⟨[td,td,td,td,tf [ci],tf [sc 5 0],tf [sc 6 0],tf [sc 7 0],td,td,td,tf [sd 11 3],tf [sc 12 0],tf [ci]]++dd 54,[(5,46,[ci,ci,ci,sa Ag,sa kPt]),(6,34,cc 9++[sa Aa]++cc 9++[sa Aa]++cc 9++[sa Aa]),(7,52,[sa Ap]++cc 5),(12,41,[ci,ci,ci])],[(11,125,kPt)]⟩
def Zac:List (Ex×Sk):=[(Ex.exit 0,⟨dd 11++[tf [sd 11 3]]++dd 56,[],[(11,125,kPt)]⟩)]
def RI (D:Fn):Lp:=AL PG (Qh3 D) 64 5 (AK PG 164 5) Qz7 Zac
def Qxu (D:Fn) (G:Lp):Cfg:=(Qh3 D).loop 5 Qz7 Zac G
def SE (D:Fn) (G:Lp):Fn:=An PG (Qxu D G) 64 164 Qk7 Qaz
abbrev L7 (o6:List AC) (v46 M N:Int) (p:Pth) (x:Ax3) (t:Trk) (D:Bool) (G L:AC):Option (Nat×List AC):=
 cond (gA o6 2 !=v46) (cond (D) (some (0,(G::I M::I (V (N+1))::pxt p x t [jA o6 0,jA o6 1,jA o6 2]))) (none)) (some (0,(L::I M::I (V (N+1))::pxt p x t [jA o6 0,jA o6 1,jA o6 2])))
theorem Zdo (N:Fn) (L:Rw) (M D:Int) (v44 G v46:Int) (p:Pth) (x:Ax3) (t:Trk):RI N (.vC kPt L::I M::I D::pxt p x t [I v44,I G,I v46])=
 cond (decide (D<M)) ((N (pxt p x t [I (V (D+1))])).bind λo6=>
 cond (gA o6 0 !=v44) (cond (((L++[[I (V (D+1)),I 0,I (V (gA o6 0-v44))]]).length*24).ble 140737488355328) (cond (gA o6 1 !=G) (cond (((L++[[I (V (D+1)),I 0,I (V (gA o6 0-v44))]]++[[I (V (D+1)),I (V (0+1)),I (V (gA o6 1-G))]]).length*24).ble 140737488355328) (L7 o6 v46 M D p x t (((L++[[I (V (D+1)),I 0,I (V (gA o6 0-v44))]]++[[I (V (D+1)),I (V (0+1)),I (V (gA o6 1-G))]]++[[I (V (D+1)),I (V (V (0+1)+1)),I (V (gA o6 2-v46))]]).length*24).ble 140737488355328) (.vC kPt (L++[[I (V (D+1)),I 0,I (V (gA o6 0-v44))]]++[[I (V (D+1)),I (V (0+1)),I (V (gA o6 1-G))]]++[[I (V (D+1)),I (V (V (0+1)+1)),I (V (gA o6 2-v46))]])) (.vC kPt (L++[[I (V (D+1)),I 0,I (V (gA o6 0-v44))]]++[[I (V (D+1)),I (V (0+1)),I (V (gA o6 1-G))]]))) (none)) (L7 o6 v46 M D p x t (((L++[[I (V (D+1)),I 0,I (V (gA o6 0-v44))]]++[[I (V (D+1)),I (V (V (0+1)+1)),I (V (gA o6 2-v46))]]).length*24).ble 140737488355328) (.vC kPt (L++[[I (V (D+1)),I 0,I (V (gA o6 0-v44))]]++[[I (V (D+1)),I (V (V (0+1)+1)),I (V (gA o6 2-v46))]])) (.vC kPt (L++[[I (V (D+1)),I 0,I (V (gA o6 0-v44))]])))) (none)) (cond (gA o6 1 !=G) (cond (((L++[[I (V (D+1)),I (V (0+1)),I (V (gA o6 1-G))]]).length*24).ble 140737488355328) (L7 o6 v46 M D p x t (((L++[[I (V (D+1)),I (V (0+1)),I (V (gA o6 1-G))]]++[[I (V (D+1)),I (V (V (0+1)+1)),I (V (gA o6 2-v46))]]).length*24).ble 140737488355328) (.vC kPt (L++[[I (V (D+1)),I (V (0+1)),I (V (gA o6 1-G))]]++[[I (V (D+1)),I (V (V (0+1)+1)),I (V (gA o6 2-v46))]])) (.vC kPt (L++[[I (V (D+1)),I (V (0+1)),I (V (gA o6 1-G))]]))) (none)) (L7 o6 v46 M D p x t (((L++[[I (V (D+1)),I (V (V (0+1)+1)),I (V (gA o6 2-v46))]]).length*24).ble 140737488355328) (.vC kPt (L++[[I (V (D+1)),I (V (V (0+1)+1)),I (V (gA o6 2-v46))]])) (.vC kPt L)))) (some (1,[.vC kPt L])):=by kernel_rfl
theorem Q1r (M:Fn) (N:Lp) (D G:Int) (p:Pth) (x:Ax3) (t:Trk):SE M N (pxt p x t [I D,I G])=
 (M (pxt p x t [I (mx 0 (mn D t.length))])).bind λL=>
 (N (.vC kPt []::I (mx 0 (mn G t.length))::I (mx 0 (mn D t.length))::pxt p x t [jA L 0,jA L 1,jA L 2])).bind λo8=>
 cond (o8.1.beq 1) (some [.vC kPt (wA o8.2 0)]) (none):=by kernel_rfl
def Qx0:=Am (RI DV)
def I1:=SE DV Qx0
theorem Zcd:Aj PG (Qh3 DV):=Ao rfl ⟨UV,trivial⟩
theorem Zgz:Al PG (Zfb I1):=rw2 (C:=Qxu DV Qx0) (fl fb Zcd) Zcd
def Qo7:Sk:=⟨[tf [sc 20000 0]],[(20000,179,cS)],[]⟩
def Qh (M:Fn):Nat×Spec:=(102,Em Qo7 ZM M)
def Qjg:Fn:=LD PG C_cncref30_SamePulses_0 64 102 Qo7 ZM
theorem Zw5 (K:Kf) (c:Cv):Qjg (Ac K c)=
 some [I (V (c.m0.tdiv 256))]:=by kernel_rfl
def CZ:=Qjg
theorem Yd9:Aj PG (C_cncref30_SamePulses_0):=Ao rfl trivial
theorem Zon (vars:List AC) (R:Type) (K:TV->Mem->Option R):EH PG C_cncref30_SamePulses_0 64 102 [TV.v false [AC.ptr 20000 0]] ⟨[(20000,(⟨179,(cR 0 vars)⟩:Box))],[]⟩ K=EH PG C_cncref30_SamePulses_0 64 102 [TV.v false [AC.ptr 20000 0]] ⟨[(20000,(⟨179,(cR 0 vars)⟩:Box))],[]⟩ (λv _=>K v ⟨[(20000,(⟨179,(cR 0 vars)⟩:Box))],[]⟩):=db (b:=(K (TV.v false [I (V ((gA vars 50).tdiv 256))]) ⟨[(20000,(⟨179,(cR 0 vars)⟩:Box))],[]⟩)) (by kernel_rfl) (Eq.symm (by kernel_rfl))
theorem Qm:Al PG (102,Em Qo7 ZM CZ):=Qg (C:=C_cncref30_SamePulses_0) (L:=64) (by kernel_rfl) (FnOK.bare rfl rfl rfl) Yd9 eqOk Gn (by kernel_rfl) (by kernel_rfl) (λvars R K=>Zon vars R K)
def Pc (M:Fn):Nat×Spec:=(163,Em Qo7 ZM M)
def P4 (D G:Fn):Cfg:=cr [Q5 D,Qh G] [102] [102]
def ZC (D G:Fn):Fn:=LD PG (P4 D G) 64 163 Qo7 ZM
theorem Z5m (D G:Fn) (K:Kf) (c:Cv):ZC D G (Ac K c)=
 (G (Ac K c)).bind λo2=>
 (D (A0 K.t++[jA o2 0])).bind λo3=>
 some [jA o3 0]:=by kernel_rfl
def C0:=ZC DQ CZ
theorem Zll:Aj PG (P4 DQ CZ):=GJ (rs:=[102]) rfl ⟨Rl,Qm,trivial⟩ rfl (Ca rfl (EI G4))
theorem Zi5 (vars : List AC) (R : Type) (K : TV -> Mem -> Option R) : EH PG (P4 DQ CZ) 64 163 [TV.v false [AC.ptr 20000 0]] ⟨[(20000, (⟨179, (cR 0 vars)⟩ : Box))], []⟩ K = EH PG (P4 DQ CZ) 64 163 [TV.v false [AC.ptr 20000 0]] ⟨[(20000, (⟨179, (cR 0 vars)⟩ : Box))], []⟩ (λv _ => K v ⟨[(20000, (⟨179, (cR 0 vars)⟩ : Box))], []⟩) := db (b := ((CZ (cR 0 vars)).bind λo2 =>
 (DQ [.vC Ap (wA vars 44),jA vars 45,jA vars 46,jA vars 47,jA vars 48,jA vars 49,jA o2 0]).bind λo3=>
 K (TV.v false [jA o3 0]) ⟨[(20000,(⟨179,(cR 0 vars)⟩:Box))],[]⟩)) (by kernel_rfl) (Eq.symm (by kernel_rfl))
theorem PB:Al PG (163,Em Qo7 ZM C0):=Qg (C:=P4 DQ CZ) (L:=64) (by kernel_rfl) (FnOK.bare rfl rfl rfl) Zll eqOk Gn (by kernel_rfl) (by kernel_rfl) (λvars R K=>Zi5 vars R K)
def Qlr:Sk:=⟨[tf [sc 20000 0],tf [sc 20001 0],tf [ci]],[(20000,179,cS),(20001,61,[sa kPt,sa Aa]++cc 7)],[]⟩
def Qj2:Sk:=⟨[TS.tup []],[(20000,179,cS),(20001,61,[sa kPt,sa Aa]++cc 7)],[]⟩
def Zyh:=qa 110 Qlr Qj2
def Qcy (D G I L M:Fn):Cfg:=cr [SW D,Z1z G,Zfb I,Pc L,Qh M] [165,163,102] [163,102]
def Wy (D G I L M:Fn):Fn:=An PG (Qcy D G I L M) 64 110 Qlr Qj2
abbrev RZ (c:Cv) (V:Fn) (L:List AC) (K:Kf) (T:Fn) (U:List AC) (O:Int) (S:Rw) (G:AC):Option (List AC):=
 cond (c.way==0) ((V (jA L 0::Ac K c)).bind λD=>
 (T [jA D 38,jA D 39,jA D 40, .vC Ag (wA D 41), .vC kPt (wA D 42),jA D 1,jA D 2,jA D 3,jA D 4,jA D 5,jA D 6,jA D 7,jA D 8,jA D 9, .vC Aa (wA D 10),jA D 11,jA D 12,jA D 13,jA D 14,jA D 15,jA D 16,jA D 17,jA D 18,jA D 19, .vC Aa (wA D 20),jA D 21,jA D 22,jA D 23,jA D 24,jA D 25,jA D 26,jA D 27,jA D 28,jA D 29, .vC Aa (wA D 30), .vC Ap (wA D 45),jA D 46,jA D 47,jA D 48,jA D 49,jA D 50,jA U 0]).bind λM=>
 some (cR 1 D++[G, .vC Aa (wA D 0),I O,jA L 0,jA M 0,jA M 1,jA M 2,jA D 68,jA D 63])) ((T (pxt K.p K.x K.t [jA U 0])).bind λN=>
 some (Ac K c++[G, .vC Aa S,I O,jA L 0,jA N 0,jA N 1,jA N 2,I c.s3,I c.g1]))
theorem Z1l (N O OJ Be AX:Fn) (x0:Int) (L D:Rw) (G S T U V X Y:Int) (K:Kf) (c:Cv):Wy N O OJ Be AX (I x0::(Ac K c++[.vC kPt L, .vC Aa D,I G,I S,I T,I U,I V,I X,I Y]))=
 (AX (Ac K c)).bind λo9=>
 (Be (Ac K c)).bind λM=>
 cond (!c.aL) ((OJ (pxt K.p K.x K.t [I x0,jA o9 0])).bind λa0=>
 RZ c O M K N o9 G D (.vC kPt (wA a0 0))) (RZ c O M K N o9 G D (.vC kPt L)):=by kernel_rfl
def Mv:=Wy DV Ni I1 C0 CZ
theorem Zra:Aj PG (Qcy DV Ni I1 C0 CZ):=GJ (rs:=[163,102]) rfl ⟨UV,Ybz,Zgz,PB,Qm,trivial⟩ rfl (Ca rfl (Ca rfl (Ca rfl (EI (EI G4)))))
theorem Zh3:Al PG (Zyh Mv):=rw1 (C:=Qcy DV Ni I1 C0 CZ) Zra
def Qmk:Sk:=⟨[TS.tup []],[(20000,179,cS)],[]⟩
def YO:=qa 161 Qo7 Qmk
def Qqz:Fn:=An PG C_cncref30_SamePulses_0 64 161 Qo7 Qmk
theorem Zor (K:Kf) (c:Cv):Qqz (Ac K c)=
 cond (c.g0==0) (some (Ac K {c with o2:=true,g0:=1,g1:=18,g2:= -1})) (some (Ac K c)):=by kernel_rfl
def GH:=Qqz
theorem Z5g:Aj PG (C_cncref30_SamePulses_0):=Ao rfl trivial
theorem Qp5:Al PG (YO GH):=rw1 (C:=C_cncref30_SamePulses_0) Z5g
def Qik:Sk:=⟨[TS.v true [ci,ci,ci],tf [ci]],[],[]⟩
def Qwh:=qa 239 Qik ZM
def Qlm:Fn:=An PG C_cncref30_SamePulses_0 64 239 Qik ZM
theorem Q2m (L D M G:Int):Qlm [I L,I D,I M,I G]=
 cond (decide (G<=0)) (some [I 0]) (cond (decide (D<=0)) (some [I 0]) (cond (decide (D=0)) (none) (some [I (V (V (V ((V (G-1)).tdiv D)*G)-V (D*V ((V (V ((V (G-1)).tdiv D)*V (V ((V (G-1)).tdiv D)+1))).tdiv 2))))]))):=by kernel_rfl
def HC:=Qlm
theorem Zhm:Aj PG (C_cncref30_SamePulses_0):=Ao rfl trivial
theorem Q2g:Al PG (Qwh HC):=rw1 (C:=C_cncref30_SamePulses_0) Zhm
def YQ:=qa 146 Qay Qjj
def Q2n:Fn:=An PG C_cncref30_SamePulses_0 64 146 Qay Qjj
theorem Yb2 (D G L:Int):Q2n [I D,I G,I L]=
 cond (decide (1<=D)) (cond (decide (D<=65536)) (cond (decide (2<=G)) (cond (decide (G<=65536)) (cond (decide (1<=L)) (some [B (decide (L<=16777216))]) (some [B false])) (some [B false])) (some [B false])) (some [B false])) (some [B false]):=by kernel_rfl
def EX:=Q2n
theorem Zx1:Aj PG (C_cncref30_SamePulses_0):=Ao rfl trivial
theorem Qpp:Al PG (YQ EX):=rw1 (C:=C_cncref30_SamePulses_0) Zx1
def Qfs:Sk:=⟨[TS.v true [ci,ci,ci],tf [ci],tf [ci]],[],[]⟩
def Z7:=qa 206 Qfs ZM
def Qcf (D G:Fn):Cfg:=cf [Qwh D,YQ G]
def Q4j:Sk:=⟨[td,tf [ci],td,tf [sc 3 0],td,td,td,tf [ci],tf [ci]]++dd 49,[(3,36,[ci,ci,ci])],[]⟩
def Q0x:List (Ex×Sk):=[(Ex.exit 0,⟨dd 7++[tf [ci]]++dd 50,[],[]⟩)]
def Mx (D G:Fn):Lp:=AL PG (Qcf D G) 64 4 (AK PG 206 4) Q4j Q0x
def Q6m (D G:Fn) (I:Lp):Cfg:=(Qcf D G).loop 4 Q4j Q0x I
def Tq (D G:Fn) (I:Lp):Fn:=An PG (Q6m D G I) 64 206 Qfs ZM
theorem X2 (S T:Fn) (L G D M N O:Int):Mx S T [I L,I G,I D,I M,I N,I O]=
 cond (decide (G<D)) ((S [I M,I N,I O,I (V (D-V ((V (D-G)).tdiv 2)))]).bind λo4=>
 cond (decide (V (L-V (D-V ((V (D-G)).tdiv 2)))>=gA o4 0)) (some (0,[I L,I (V (D-V ((V (D-G)).tdiv 2))),I D,I M,I N,I O])) (some (0,[I L,I G,I (V (V (D-V ((V (D-G)).tdiv 2))-1)),I M,I N,I O]))) (some (1,[I G])):=by kernel_rfl
theorem Zb1 (T O:Fn) (S:Lp) (L D N M G:Int):Tq T O S [I L,I D,I N,I M,I G]=
 (O [I L,I D,I N]).bind λU=>
 cond (!bA U 0) (some [I 0]) (cond (decide (mx G M>1099511627776)) (some [I 0]) (cond (decide (mn G M< -1099511627776)) (some [I 0]) ((S [I M,I (V (V (0-G)-D)),I (mn (V (D-G)) L),I L,I D,I N]).bind λo6=>
 cond (o6.1.beq 1) (some [I (V (0-gA o6.2 0))]) (none)))):=by kernel_rfl
def Q02:=Am (Mx HC EX)
def E8:=Tq HC EX Q02
theorem Qu2:Aj PG (Qcf HC EX):=Ao rfl ⟨Q2g,Qpp,trivial⟩
theorem Qec:Al PG (Z7 E8):=rw2 (C:=Q6m HC EX Q02) (fl fb Qu2) Qu2
def Qjt:Sk:=⟨[tf [sa Aa],tf [ci]],[],[]⟩
def Zf1:=qa 298 Qjt Qjj
def Qt9:Sk:=⟨[td,tf [ci],td,td,td,td,td,tf [sa Aa],tf [ci],tf [ci]]++dd 13,[],[]⟩
def Quk:List (Ex×Sk):=[(Ex.ret,⟨[td,td,td,td,tf [sb]]++dd 18,[],[]⟩),(Ex.exit 0,⟨[td]++dd 22,[],[]⟩)]
def V6:Lp:=AL PG C_cncref30_SamePulses_0 64 2 (AK PG 298 2) Qt9 Quk
def Q99 (D:Lp):Cfg:=C_cncref30_SamePulses_0.loop 2 Qt9 Quk D
def VD (D:Lp):Fn:=An PG (Q99 D) 64 298 Qjt Qjj
theorem Z0t (L:Int) (G:Rw) (M D:Int):V6 [I L, .vC Aa G,I M,I D]=
 cond (decide (D<M)) (cond (decide (0<=D)&&decide (D<(G.length:Int))) (cond (decide (gA (nth [] G D.toNat) 0>L)) (some (1,[B false])) (cond (decide (gA (nth [] G D.toNat) 0<V (0-L))) (some (1,[B false])) (some (0,[I L, .vC Aa G,I M,I (V (D+1))])))) (none)) (some (2,[])):=by kernel_rfl
theorem Zhx (G:Lp) (D:Rw) (L:Int):VD G [.vC Aa D,I L]=
 (G [I L, .vC Aa D,I (D.length:Int),I 0]).bind λo1=>
 cond (o1.1.beq 1) (some [B (bA o1.2 0)]) (cond (o1.1.beq 2) (some [B true]) (none)):=by kernel_rfl
def Zcf:=Am (V6)
def Qu:=VD Zcf
theorem Qsw:Aj PG (C_cncref30_SamePulses_0):=Ao rfl trivial
theorem Zwl:Al PG (Zf1 Qu):=rw2 (C:=Q99 Zcf) (fl fb Qsw) Qsw
def Qg9:Sk:=⟨[tf [sa Aa]],[],[]⟩
def Zty:=qa 297 Qg9 Qg9
def C_limits_Differences_0:Cfg:={cf []with prom:=λb=>cond (Nat.beq b 3) ([(3,3)]) ([])}
def Qsu:Sk:=⟨[tf [sa Aa],td,td,tf [sd 3 1],tf [ci]]++dd 20,[],[(3,3,Aa)]⟩
def Zba:List (Ex×Sk):=[(Ex.exit 0,⟨[td,td,td,tf [sd 3 1]]++dd 21,[],[(3,3,Aa)]⟩)]
def Qsa:Lp:=AL PG C_limits_Differences_0 64 3 (AK PG 297 3) Qsu Zba
def Q3u (D:Lp):Cfg:=C_limits_Differences_0.loop 3 Qsu Zba D
def Yu (D:Lp):Fn:=An PG (Q3u D) 64 297 Qg9 Qg9
theorem Z3b (L G:Rw) (D:Int):Qsa [.vC Aa L, .vC Aa G,I D]=
 cond (decide (D<(G.length:Int))) (cond (decide (0<=D)&&decide (D<(G.length:Int))) (cond (decide (0<=V (D-1))&&decide (V (D-1)<(G.length:Int))) (cond (((L++[[I (V (gA (nth [] G D.toNat) 0-gA (nth [] G (V (D-1)).toNat) 0))]]).length*8).ble 140737488355328) (some (0,[.vC Aa (L++[[I (V (gA (nth [] G D.toNat) 0-gA (nth [] G (V (D-1)).toNat) 0))]]), .vC Aa G,I (V (D+1))])) (none)) (none)) (none)) (some (1,[.vC Aa L])):=by kernel_rfl
theorem Zqk (D:Lp) (G:Rw):Yu D [.vC Aa G]=
 (D [.vC Aa [], .vC Aa G,I 1]).bind λo1=>
 cond (o1.1.beq 1) (some [.vC Aa (wA o1.2 0)]) (none):=by kernel_rfl
def Zbl:=Am (Qsa)
def RS:=Yu Zbl
theorem Q5a:Aj PG (C_limits_Differences_0):=Ao rfl trivial
theorem Ybe:Al PG (Zty RS):=rw2 (C:=Q3u Zbl) (fl fb Q5a) Q5a
def Qc6:Sk:=⟨[TS.v true (cc 9++[sa Aa]),tf [sa Aa]],[],[]⟩
def Z9w:=qa 290 Qc6 Qjj
def Qpg (D G:Fn):Cfg:={cf [Zf1 D,Zty G]with unroll:=[2]}
def Qd6 (D G:Fn):Fn:=An PG (Qpg D G) 64 290 Qc6 Qjj
theorem Yed (G L:Fn) (U O S T V X Y x7 x8:Int) (x9 D:Rw):Qd6 G L [I U,I O,I S,I T,I V,I X,I Y,I x7,I x8, .vC Aa x9, .vC Aa D]=
 (L [.vC Aa D]).bind λo6=>
 (G [.vC Aa (wA o6 0),I O]).bind λo7=>
 cond (!bA o7 0) (some [B false]) ((L [.vC Aa (wA o6 0)]).bind λo8=>
 (G [.vC Aa (wA o8 0),I S]).bind λo9=>
 cond (!bA o9 0) (some [B false]) ((L [.vC Aa (wA o8 0)]).bind λM=>
 (G [.vC Aa (wA M 0),I T]).bind λN=>
 cond (!bA N 0) (some [B false]) (some [B true]))):=by kernel_rfl
def MJ:=Qd6 Qu RS
theorem Z8z:Aj PG (Qpg Qu RS):=Ao rfl ⟨Zwl,Ybe,trivial⟩
theorem Zg7:Al PG (Z9w MJ):=rw1 (C:=Qpg Qu RS) Z8z
def Qq9:Sk:=⟨[TS.v true (cc 9++[sa Aa]++cc 9++[sa Aa]++cc 9++[sa Aa]),tf [sa kPt]],[],[]⟩
def Z3a:=qa 268 Qq9 Qjj
def Yl (D:Fn):Cfg:=cf [Z9w D]
def Q17:Sk:=⟨[td,tf [sa kPt],tf [sc 2 0],td,td,tf [ci],tf [sd 13 1],td,tf [ci]]++dd 6++[tf [ci],tf [ci]]++dd 19,[(2,34,cc 9++[sa Aa]++cc 9++[sa Aa]++cc 9++[sa Aa])],[(13,3,Aa)]⟩
def Za0:List (Ex×Sk):=[(Ex.exit 2,⟨[td,tf [sa kPt],tf [sc 2 0],td,td,tf [ci],tf [sd 13 1],td,tf [ci]]++dd 27,[(2,34,cc 9++[sa Aa]++cc 9++[sa Aa]++cc 9++[sa Aa])],[(13,3,Aa)]⟩)]
def L2 (D:Fn):Lp:=AL PG (Yl D) 64 6 (AK PG 268 6) Q17 Za0
def Q0t (D:Fn) (G:Lp):Cfg:=(Yl D).loop 6 Q17 Za0 G
def Q0j:Sk:=⟨[td,tf [sa kPt],tf [sc 2 0],td,td,td,td,td,tf [ci]]++dd 27,[(2,34,cc 9++[sa Aa]++cc 9++[sa Aa]++cc 9++[sa Aa])],[]⟩
def Zav:List (Ex×Sk):=[(Ex.ret,⟨[td,td,td,td,tf [sb]]++dd 31,[],[]⟩),(Ex.exit 0,⟨[td]++dd 35,[],[]⟩)]
def Tb (D:Fn) (G:Lp):Lp:=AL PG (Q0t D G) 64 2 (AK PG 268 2) Q0j Zav
def Q2l (D:Fn) (G I:Lp):Cfg:=(Q0t D G).loop 2 Q0j Zav I
def Ty (D:Fn) (G I:Lp):Fn:=An PG (Q2l D G I) 64 268 Qq9 Qjj
theorem Zsw (DT:Fn) (v0 v1:Rw) (v2 v3 v4 D v6 v7 v8 v9 v10 v11 v12 G L:Int) (M:Rw) (N O S T v20 v21 v22 U v24:Int) (v25:Rw) (X v27 v28 Y v30 v31 a0 v33 a1:Int) (v35:Rw):L2 DT [.vC Aa v0, .vC kPt v1,I v2,I v3,I v4,I D,I v6,I v7,I v8,I v9,I v10,I v11,I v12,I G,I L, .vC Aa M,I N,I O,I S,I T,I v20,I v21,I v22,I U,I v24, .vC Aa v25,I X,I v27,I v28,I Y,I v30,I v31,I a0,I v33,I a1, .vC Aa v35]=
 cond (decide (D<v4)) (cond (decide (0<=D)&&decide (D<(v1.length:Int))) (cond (decide (v2=(↑0:Int))) (cond (decide (0<=D)&&decide (D<(v0.length:Int))) (some (0,[.vC Aa (v0.set D.toNat [jA (nth [] v1 D.toNat) 0]), .vC kPt v1,I v2,I v3,I v4,I (V (D+1)),I v6,I v7,I v8,I v9,I v10,I v11,I v12,I G,I L, .vC Aa M,I N,I O,I S,I T,I v20,I v21,I v22,I U,I v24, .vC Aa v25,I X,I v27,I v28,I Y,I v30,I v31,I a0,I v33,I a1, .vC Aa v35])) (none)) (cond (decide (v2=(↑(0+1):Int))) (cond (decide (0<=D)&&decide (D<(v0.length:Int))) (some (0,[.vC Aa (v0.set D.toNat [jA (nth [] v1 D.toNat) 1]), .vC kPt v1,I v2,I v3,I v4,I (V (D+1)),I v6,I v7,I v8,I v9,I v10,I v11,I v12,I G,I L, .vC Aa M,I N,I O,I S,I T,I v20,I v21,I v22,I U,I v24, .vC Aa v25,I X,I v27,I v28,I Y,I v30,I v31,I a0,I v33,I a1, .vC Aa v35])) (none)) (cond (decide (v2=(↑(0+1+1):Int))) (cond (decide (0<=D)&&decide (D<(v0.length:Int))) (some (0,[.vC Aa (v0.set D.toNat [jA (nth [] v1 D.toNat) 2]), .vC kPt v1,I v2,I v3,I v4,I (V (D+1)),I v6,I v7,I v8,I v9,I v10,I v11,I v12,I G,I L, .vC Aa M,I N,I O,I S,I T,I v20,I v21,I v22,I U,I v24, .vC Aa v25,I X,I v27,I v28,I Y,I v30,I v31,I a0,I v33,I a1, .vC Aa v35])) (none)) (none)))) (none)) (some (1,[.vC Aa v0, .vC kPt v1,I v2,I v3,I v6,I v7,I v8,I v9,I v10,I v11,I v12,I G,I L, .vC Aa M,I N,I O,I S,I T,I v20,I v21,I v22,I U,I v24, .vC Aa v25,I X,I v27,I v28,I Y,I v30,I v31,I a0,I v33,I a1, .vC Aa v35])):=by kernel_rfl
abbrev R9 (D:Nat×List AC) (G:Bool):Option (Nat×List AC):=
 cond (G) (some (1,[B false])) (some (0,[.vC kPt (wA D.2 1),I (V (gA D.2 3+1)),jA D.2 4,jA D.2 5,jA D.2 6,jA D.2 7,jA D.2 8,jA D.2 9,jA D.2 10,jA D.2 11,jA D.2 12, .vC Aa (wA D.2 13),jA D.2 14,jA D.2 15,jA D.2 16,jA D.2 17,jA D.2 18,jA D.2 19,jA D.2 20,jA D.2 21,jA D.2 22, .vC Aa (wA D.2 23),jA D.2 24,jA D.2 25,jA D.2 26,jA D.2 27,jA D.2 28,jA D.2 29,jA D.2 30,jA D.2 31,jA D.2 32, .vC Aa (wA D.2 33)]))
theorem Zop (DT:Fn) (N6:Lp) (G:Rw) (v1 v2 v3 v4 v5 v6 v7 v8 v9 v10:Int) (v11:Rw) (v12 L M N O S T U v20:Int) (v21:Rw) (v22 V v24 v25 X v27 v28 Y v30:Int) (v31:Rw):Tb DT N6 [.vC kPt G,I v1,I v2,I v3,I v4,I v5,I v6,I v7,I v8,I v9,I v10, .vC Aa v11,I v12,I L,I M,I N,I O,I S,I T,I U,I v20, .vC Aa v21,I v22,I V,I v24,I v25,I X,I v27,I v28,I Y,I v30, .vC Aa v31]=
 cond (decide (v1<3)) (cond (decide ((G.length:Int)=(G.length:Int))) (cond (decide (0<=(G.length:Int))&&decide ((G.length:Int)*(↑8:Int)<=140737488355328)) ((N6 [.vC Aa (List.replicate (G.length:Int).toNat [I 0]), .vC kPt G,I v1,I v1,I (G.length:Int),I 0,I v2,I v3,I v4,I v5,I v6,I v7,I v8,I v9,I v10, .vC Aa v11,I v12,I L,I M,I N,I O,I S,I T,I U,I v20, .vC Aa v21,I v22,I V,I v24,I v25,I X,I v27,I v28,I Y,I v30, .vC Aa v31]).bind λD=>
 cond (D.1.beq 1) (cond (decide (gA D.2 2=(↑0:Int))) ((DT [jA D.2 4,jA D.2 5,jA D.2 6,jA D.2 7,jA D.2 8,jA D.2 9,jA D.2 10,jA D.2 11,jA D.2 12, .vC Aa (wA D.2 13), .vC Aa (wA D.2 0)]).bind λo6=>
 R9 D (!bA o6 0)) (cond (decide (gA D.2 2=(↑(0+1):Int))) ((DT [jA D.2 14,jA D.2 15,jA D.2 16,jA D.2 17,jA D.2 18,jA D.2 19,jA D.2 20,jA D.2 21,jA D.2 22, .vC Aa (wA D.2 23), .vC Aa (wA D.2 0)]).bind λo7=>
 R9 D (!bA o7 0)) (cond (decide (gA D.2 2=(↑(0+1+1):Int))) ((DT [jA D.2 24,jA D.2 25,jA D.2 26,jA D.2 27,jA D.2 28,jA D.2 29,jA D.2 30,jA D.2 31,jA D.2 32, .vC Aa (wA D.2 33), .vC Aa (wA D.2 0)]).bind λo8=>
 R9 D (!bA o8 0)) (none)))) (none)) (none)) (none)) (some (2,[])):=by kernel_rfl
theorem Zl0 (DT:Fn) (N6 N2:Lp) (x0 x1 x2 x3 x4 x5 x6 x7 x8:Int) (x9:Rw) (D G L M N O S T U:Int) (V:Rw) (X Y a0 a1 a2 a3 a4 a5 a6:Int) (a7 a8:Rw):Ty DT N6 N2 [I x0,I x1,I x2,I x3,I x4,I x5,I x6,I x7,I x8, .vC Aa x9,I D,I G,I L,I M,I N,I O,I S,I T,I U, .vC Aa V,I X,I Y,I a0,I a1,I a2,I a3,I a4,I a5,I a6, .vC Aa a7, .vC kPt a8]=
 (N2 [.vC kPt a8,I 0,I x0,I x1,I x2,I x3,I x4,I x5,I x6,I x7,I x8, .vC Aa x9,I D,I G,I L,I M,I N,I O,I S,I T,I U, .vC Aa V,I X,I Y,I a0,I a1,I a2,I a3,I a4,I a5,I a6, .vC Aa a7]).bind λo9=>
 cond (o9.1.beq 1) (some [B (bA o9.2 0)]) (cond (o9.1.beq 2) (some [B true]) (none)):=by kernel_rfl
def Zx:=Am (L2 MJ)
def Zbn:=Am (Tb MJ Zx)
def Nv:=Ty MJ Zx Zbn
theorem Qb5:Aj PG (Yl MJ):=Ao rfl ⟨Zg7,trivial⟩
theorem Ybp:Al PG (Z3a Nv):=rw2 (C:=Q2l MJ Zx Zbn) (fl (fl fb Qb5) Qb5) Qb5
def Q28:=qa 266 ZM ZM
def Qpi:Fn:=An PG C_cncref30_SamePulses_0 64 266 ZM ZM
theorem Yax (D:Int):Qpi [I D]=
 cond (decide (D.tmod 256<0)) (some [I (V (V (D.tdiv 256)-1))]) (some [I (V (D.tdiv 256))]):=by kernel_rfl
def IU:=Qpi
theorem Zuo:Aj PG (C_cncref30_SamePulses_0):=Ao rfl trivial
theorem Zdm:Al PG (Q28 IU):=rw1 (C:=C_cncref30_SamePulses_0) Zuo
def Qh7:Sk:=⟨[TS.v true [ci,ci,ci,sa Ag,sa kPt],TS.v true (cc 9++[sa Aa]++cc 9++[sa Aa]++cc 9++[sa Aa]),TS.v true ([sa Ap]++cc 5),tf [sa Aa]],[],[]⟩
def Zer:=qa 242 Qh7 Qjj
def Qnq (D G I:Fn):Cfg:={cf [Z3a D,SW G,Q28 I]with lend:=λf=>AN [268] f,cuts:=[30],prom:=λb=>cond (Nat.beq b 3) ([(9,41)]) ([])}
def Q1w:Sk:=⟨[td,td,td,td,tf [sc 4 0],tf [sc 5 0],tf [sc 6 0],td,td,tf [sd 9 3],td,td,tf [sa Aa],tf [ci],tf [ci]]++dd 22,[(4,46,[ci,ci,ci,sa Ag,sa kPt]),(5,34,cc 9++[sa Aa]++cc 9++[sa Aa]++cc 9++[sa Aa]),(6,52,[sa Ap]++cc 5)],[(9,41,kPt)]⟩
def Qvn:List (Ex×Sk):=[(Ex.ret,⟨dd 8++[tf [sb]]++dd 28,[],[]⟩),(Ex.exit 0,⟨[td]++dd 36,[],[]⟩)]
def Z6 (D G I:Fn):Lp:=AL PG (Qnq D G I) 64 3 (AK PG 242 3) Q1w Qvn
def Qzg (D G I:Fn) (L:Lp):Cfg:=(Qnq D G I).loop 3 Q1w Qvn L
def Qgz (D G I:Fn) (L:Lp):Fn:=An PG (Qzg D G I L) 64 242 Qh7 Qjj
theorem Z3d (O U X:Fn) (G M:Rw) (N L:Int) (p:Pth) (x:Ax3) (t:Trk):Z6 O U X (.vC kPt G:: .vC Aa M::I N::I L::pxt p x t [])=
 cond (decide (L<N)) (cond (decide (0<=L)&&decide (L<(M.length:Int))) ((X [jA (nth [] M L.toNat) 0]).bind λo8=>
 (U (pxt p x t [jA o8 0])).bind λD=>
 cond (((G++[[jA D 0,jA D 1,jA D 2]]).length*24).ble 140737488355328) (cond (decide ((↑(G++[[jA D 0,jA D 1,jA D 2]]).length:Int)>4)) (cond (decide (0<=1)&&decide (1<=(↑(G++[[jA D 0,jA D 1,jA D 2]]).length:Int))) (cond ((Int.toNat 1).ble (G++[[jA D 0,jA D 1,jA D 2]]).length) ((O (AI x++[.vC kPt (List.drop (Int.toNat 1) (G++[[jA D 0,jA D 1,jA D 2]]))])).bind λS=>
 cond (!bA S 0) (some (1,[B false])) (some (0,(.vC kPt (List.drop (Int.toNat 1) (G++[[jA D 0,jA D 1,jA D 2]])):: .vC Aa M::I N::I (V (L+1))::pxt p x t [])))) (none)) (none)) ((O (AI x++[.vC kPt (G++[[jA D 0,jA D 1,jA D 2]])])).bind λT=>
 cond (!bA T 0) (some (1,[B false])) (some (0,(.vC kPt (G++[[jA D 0,jA D 1,jA D 2]]):: .vC Aa M::I N::I (V (L+1))::pxt p x t []))))) (none)) (none)) (some (2,[])):=by kernel_rfl
theorem Zmp (M N O:Fn) (L:Lp) (D:Rw) (p:Pth) (x:Ax3) (t:Trk):Qgz M N O L (pxt p x t [.vC Aa D])=
 (L (.vC kPt []:: .vC Aa D::I (D.length:Int)::I 0::pxt p x t [])).bind λG=>
 cond (G.1.beq 1) (some [B (bA G.2 0)]) (cond (G.1.beq 2) (some [B true]) (none)):=by kernel_rfl
def Q5m:=Am (Z6 Nv DV IU)
def Q3:=Qgz Nv DV IU Q5m
theorem Qvg:Aj PG (Qnq Nv DV IU):=Ao rfl ⟨Ybp,UV,Zdm,trivial⟩
theorem Z9a:Al PG (Zer Q3):=rw2 (C:=Qzg Nv DV IU Q5m) (fl fb Qvg) Qvg
def Zel:=qa 202 Qfs Qjj
def Qge (D:Fn):Cfg:=cf [Qwh D]
def Tt (D:Fn):Fn:=An PG (Qge D) 64 202 Qfs Qjj
theorem Qx2 (N:Fn) (G L O M D:Int):Tt N [I G,I L,I O,I M,I D]=
 cond (decide (D<V (0-G))) (some [B false]) (cond (decide (D>G)) (some [B false]) (cond (M==0) (cond (decide (D>L)) (some [B false]) ((N [I G,I L,I O,I (V (0-D))]).bind λo4=>
 cond (decide (M>=gA o4 0)) ((N [I G,I L,I O,I D]).bind λS=>
 some [B (decide (M<=V (16777216-gA S 0)))]) (some [B false]))) ((N [I G,I L,I O,I (V (0-D))]).bind λo6=>
 cond (decide (M>=gA o6 0)) ((N [I G,I L,I O,I D]).bind λT=>
 some [B (decide (M<=V (16777216-gA T 0)))]) (some [B false])))):=by kernel_rfl
def Hw:=Tt HC
theorem Zjk:Aj PG (Qge HC):=Ao rfl ⟨Q2g,trivial⟩
theorem Qy5:Al PG (Zel Hw):=rw1 (C:=Qge HC) Zjk
def Qru:Sk:=⟨[TS.tup [(false,[sa Aa]),(false,[sb])]],[],[]⟩
def Zum:=qa 265 Qfs Qru
def Xa (D G I:Fn):Cfg:={cf [Z7 D,Zel G,YQ I]with prom:=λb=>cond (Nat.beq b 4) ([(8,3)]) ([])}
def Q45:Sk:=⟨[td,tf [ci],tf [ci],tf [sc 3 0],td,td,td,td,tf [sd 8 1]]++dd 27,[(3,36,[ci,ci,ci])],[(8,3,Aa)]⟩
def Q7e:List (Ex×Sk):=[(Ex.ret,⟨dd 6++[tf [CS.nil],tf [sb]]++dd 28,[],[]⟩),(Ex.exit 0,⟨dd 8++[tf [sd 8 1]]++dd 27,[],[(8,3,Aa)]⟩)]
def Ki (D G I:Fn):Lp:=AL PG (Xa D G I) 64 4 (AK PG 265 4) Q45 Q7e
def Q2o (D G I:Fn) (L:Lp):Cfg:=(Xa D G I).loop 4 Q45 Q7e L
def T8 (D G I:Fn) (L:Lp):Fn:=An PG (Q2o D G I L) 64 265 Qfs Qru
theorem TT (S U X:Fn) (G:Rw) (D T M N O:Int):Ki S U X [.vC Aa G,I D,I T,I M,I N,I O]=
 cond (decide (D>0)) (cond ((G.length:Int)==4096) (some (1,[B false])) ((S [I M,I N,I O,I D,I T]).bind λL=>
 cond (((G++[[I (V (D+gA L 0))]]).length*8).ble 140737488355328) (some (0,[.vC Aa (G++[[I (V (D+gA L 0))]]),I (V (D+gA L 0)),jA L 0,I M,I N,I O])) (none))) (some (2,[.vC Aa G])):=by kernel_rfl
theorem Qt3 (Y U V:Fn) (X:Lp) (G L M N O:Int):T8 Y U V X [I G,I L,I M,I N,I O]=
 (V [I G,I L,I M]).bind λS=>
 cond (!bA S 0) (some [.vC Aa [],B false]) ((U [I G,I L,I M,I N,I O]).bind λT=>
 cond (!bA T 0) (some [.vC Aa [],B false]) ((X [.vC Aa [],I N,I O,I G,I L,I M]).bind λD=>
 cond (D.1.beq 1) (some [.vC Aa [],B (bA D.2 0)]) (cond (D.1.beq 2) (some [.vC Aa (wA D.2 0),B true]) (none)))):=by kernel_rfl
def Q6u:=Am (Ki E8 Hw EX)
def LP:=T8 E8 Hw EX Q6u
theorem Q90:Aj PG (Xa E8 Hw EX):=Ao rfl ⟨Qec,Qy5,Qpp,trivial⟩
theorem Zhl:Al PG (Zum LP):=rw2 (C:=Q2o E8 Hw EX Q6u) (fl fb Q90) Q90
def Qgp:Sk:=⟨[TS.v true [ci,ci,ci],TS.v true (cc 6)],[],[]⟩
def Y1:=qa 240 Qgp Qru
def Qii (D:Fn):Cfg:=cf [Zum D]
def Q76:Sk:=⟨dd 8++[tf [sd 25 1],tf [ci]]++dd 18++[tf [sa Aa],tf [ci],tf [ci]]++dd 13,[],[(25,3,Aa)]⟩
def Q8t:List (Ex×Sk):=[(Ex.exit 0,⟨dd 8++[tf [sd 25 1]]++dd 35,[],[(25,3,Aa)]⟩)]
def QN (D:Fn):Lp:=AL PG (Qii D) 64 7 (AK PG 240 7) Q76 Q8t
def Q4o (D:Fn) (G:Lp):Cfg:=(Qii D).loop 7 Q76 Q8t G
def Vn (D:Fn) (G:Lp):Fn:=An PG (Q4o D G) 64 240 Qgp Qru
theorem Zxa (O:Fn) (L:Rw) (M:Int) (G:Rw) (N D:Int):QN O [.vC Aa L,I M, .vC Aa G,I N,I D]=
 cond (decide (D<N)) (cond (decide (0<=D)&&decide (D<(G.length:Int))) (cond (decide (0<=D)&&decide (D<(L.length:Int))) (some (0,[.vC Aa (L.set D.toNat [I (V (M+gA (nth [] G D.toNat) 0))]),I (V (M+gA (nth [] G D.toNat) 0)), .vC Aa G,I N,I (V (D+1))])) (none)) (none)) (some (1,[.vC Aa L])):=by kernel_rfl
theorem Q2j (D:Fn) (G:Lp) (L M N O S T U V X:Int):Vn D G [I L,I M,I N,I O,I S,I T,I U,I V,I X]=
 (D [I L,I M,I N,I S,I T]).bind λo3=>
 cond (!bA o3 1) (some [.vC Aa [],B false]) (cond (decide ((↑(wA o3 0).length:Int)=(↑(wA o3 0).length:Int))) (cond (decide (0<=(↑(wA o3 0).length:Int))&&decide ((↑(wA o3 0).length:Int)*(↑8:Int)<=140737488355328)) ((G [.vC Aa (List.replicate (↑(wA o3 0).length:Int).toNat [I 0]),I O, .vC Aa (wA o3 0),I (↑(wA o3 0).length:Int),I 0]).bind λo4=>
 cond (o4.1.beq 1) (some [.vC Aa (wA o4.2 0),B true]) (none)) (none)) (none)):=by kernel_rfl
def Qw4:=Am (QN LP)
def FM:=Vn LP Qw4
theorem Zaj:Aj PG (Qii LP):=Ao rfl ⟨Zhl,trivial⟩
theorem Qh0:Al PG (Y1 FM):=rw2 (C:=Q4o LP Qw4) (fl fb Zaj) Zaj
def Qni:Sk:=⟨[TS.v true [ci,ci,ci,sa Ag,sa kPt],TS.v true (cc 9++[sa Aa]++cc 9++[sa Aa]++cc 9++[sa Aa]),TS.v true ([sa Ap]++cc 5),TS.v true [ci,ci,ci],TS.v true (cc 6),tf [ci]],[],[]⟩
def Zbc:=qa 205 Qni Qjj
def Y2 (D G:Fn):Cfg:={cf [Zer D,Y1 G]with rowDst:=[48]}
def Qaw (D G:Fn):Fn:=An PG (Y2 D G) 64 205 Qni Qjj
theorem Zg5 (Y CB:Fn) (O S T D U X G L M N:Int) (p:Pth) (x:Ax3) (t:Trk):Qaw Y CB (pxt p x t [I O,I S,I T,I D,I U,I X,I G,I L,I M,I N])=
 (CB [I O,I S,I T,I D,I U,I X,I G,I L,I M]).bind λo3=>
 cond (!bA o3 1) (some [B false]) (cond (decide ((↑(wA o3 0).length:Int)>0)) (cond (decide (0<=V ((↑(wA o3 0).length:Int)-1))&&decide (V ((↑(wA o3 0).length:Int)-1)<(↑(wA o3 0).length:Int))) (cond (decide (Af (nth .vD (nth [] (wA o3 0) (V ((↑(wA o3 0).length:Int)-1)).toNat) 0)>V (N*256))) (some [B false]) (cond ((([[I M],[I L],[I G],[I D]]++wA o3 0).length*8).ble 140737488355328) (cond ((([[I M],[I L],[I G],[I D]]++wA o3 0++[[I (Af (nth .vD (nth [] (wA o3 0) (V ((↑(wA o3 0).length:Int)-1)).toNat) 0))],[I (Af (nth .vD (nth [] (wA o3 0) (V ((↑(wA o3 0).length:Int)-1)).toNat) 0))]]).length*8).ble 140737488355328) ((Y (pxt p x t [.vC Aa ([[I M],[I L],[I G],[I D]]++wA o3 0++[[I (Af (nth .vD (nth [] (wA o3 0) (V ((↑(wA o3 0).length:Int)-1)).toNat) 0))],[I (Af (nth .vD (nth [] (wA o3 0) (V ((↑(wA o3 0).length:Int)-1)).toNat) 0))]])])).bind λo4=>
 some [B (bA o4 0)]) (none)) (none))) (none)) (cond (decide (D>V (N*256))) (some [B false]) (cond ((([[I M],[I L],[I G],[I D]]++wA o3 0).length*8).ble 140737488355328) (cond ((([[I M],[I L],[I G],[I D]]++wA o3 0++[[I D],[I D]]).length*8).ble 140737488355328) ((Y (pxt p x t [.vC Aa ([[I M],[I L],[I G],[I D]]++wA o3 0++[[I D],[I D]])])).bind λo5=>
 some [B (bA o5 0)]) (none)) (none)))):=by kernel_rfl
def Ju:=Qaw Q3 FM
theorem Zn5:Aj PG (Y2 Q3 FM):=Ao rfl ⟨Z9a,Qh0,trivial⟩
theorem Q1m:Al PG (Zbc Ju):=rw1 (C:=Y2 Q3 FM) Zn5
def Qqa:Sk:=⟨[TS.v true [ci,ci,sb,sb,sb],TS.v true [ci,ci,ci],TS.v true (cc 7)],[],[]⟩
def Z3o:=qa 267 Qqa ZM
def Qlw:Fn:=An PG C_cncref30_SamePulses_0 64 267 Qqa ZM
theorem Z7b (L M:Int) (T X Y:Bool) (x5 x6 U x8 x9 N O S D G:Int):Qlw [I L,I M,B T,B X,B Y,I x5,I x6,I U,I x8,I x9,I N,I O,I S,I D,I G]=
 cond (T) (some [I 0]) (cond (G !=0) (some [I (mn (mx D 1) 16777216)]) (cond (D==0) (cond (M==0) (some [I 0]) (some [I (mn (mx (V ((V (U*M)).tdiv 100)) 1) 16777216)])) (cond (L==0) (some [I 0]) (some [I (mn (mx (V ((V (D*L)).tdiv 100)) 1) 16777216)])))):=by kernel_rfl
def Q6:=Qlw
theorem Z6f:Aj PG (C_cncref30_SamePulses_0):=Ao rfl trivial
theorem Zx9:Al PG (Z3o Q6):=rw1 (C:=C_cncref30_SamePulses_0) Z6f
def Qjf:Sk:=⟨[TS.v true [ci,ci,ci,sa Ag,sa kPt],TS.v true ([sa Ap]++cc 5),TS.v true [ci,ci,ci],TS.v true [ci,ci,sb,sb,sb],tf [ci]],[],[]⟩
def Z3m:=qa 241 Qjf ZM
def Qdx (D G I L:Fn):Cfg:=cf [Z3o D,Qiu G,Q5 I,Q28 L]
def Qkp (D G I L:Fn):Fn:=An PG (Qdx D G I L) 64 241 Qjf ZM
theorem Zqt (V X Y DY:Fn) (D G L M N:Int) (O S T:Bool) (U:Int) (p:Pth) (t:Trk):Qkp V X Y DY (EQ p t [I D,I G,I L,I M,I N,B O,B S,B T,I U])=
 (DY [I U]).bind λo4=>
 (Y (A0 t++[jA o4 0])).bind λo5=>
 (X (Bk p++[jA o5 0])).bind λo6=>
 cond (decide (0<=gA o6 0)&&decide (gA o6 0<((p.aF.map Aw).length:Int))) ((V (I M::I N::B O::B S::B T::I D::I G::I L::AM Ag (nth [] (p.aF.map Aw) (gA o6 0).toNat))).bind λo7=>
 some [jA o7 0]) (none):=by kernel_rfl
def NI:=Qkp Q6 EE DQ IU
theorem Ycm:Aj PG (Qdx Q6 EE DQ IU):=Ao rfl ⟨Zx9,ZH,Rl,Zdm,trivial⟩
theorem Zta:Al PG (Z3m NI):=rw1 (C:=Qdx Q6 EE DQ IU) Ycm
def Qa9:Sk:=⟨[TS.v true [ci,ci,ci,sa Ag,sa kPt],TS.v true ([sa Ap]++cc 5),TS.v true [ci,ci,ci],TS.v true [ci,ci,sb,sb,sb],TS.v true (cc 6)],[],[]⟩
def Zqj:=qa 204 Qa9 Qjj
def Qea (D G:Fn):Cfg:=cf [Z3m D,Y1 G]
def Qyo:Sk:=⟨[td,td,td,td,td,tf [sc 5 0],tf [sc 6 0],tf [sc 7 0],tf [sc 8 0],td,td,td,td,tf [ci]]++dd 30++[tf [sa Aa],tf [ci],tf [ci]]++dd 15,[(5,46,[ci,ci,ci,sa Ag,sa kPt]),(6,52,[sa Ap]++cc 5),(7,36,[ci,ci,ci]),(8,163,[ci,ci,sb,sb,sb])],[]⟩
def Zbt:List (Ex×Sk):=[(Ex.ret,⟨dd 10++[tf [sb]]++dd 51,[],[]⟩),(Ex.exit 0,⟨[td]++dd 61,[],[]⟩)]
def XL (D G:Fn):Lp:=AL PG (Qea D G) 64 6 (AK PG 204 6) Qyo Zbt
def Q6j (D G:Fn) (I:Lp):Cfg:=(Qea D G).loop 6 Qyo Zbt I
def Qiw (D G:Fn) (I:Lp):Fn:=An PG (Q6j D G I) 64 204 Qa9 Qjj
theorem Zlo (U Y:Fn) (X:Int) (S:Rw) (T D:Int) (G L M N O:Int) (v20 v21 v22:Bool) (p:Pth) (t:Trk):XL U Y (I X:: .vC Aa S::I T::I D::EQ p t [I G,I L,I M,I N,I O,B v20,B v21,B v22])=
 cond (decide (D<T)) (cond (decide (0<=D)&&decide (D<(S.length:Int))) ((U (EQ p t [I G,I L,I M,I N,I O,B v20,B v21,B v22,jA (nth [] S D.toNat) 0])).bind λo6=>
 cond (decide (V (gA (nth [] S D.toNat) 0-X)>gA o6 0)) (some (1,[B false])) (some (0,(jA (nth [] S D.toNat) 0:: .vC Aa S::I T::I (V (D+1))::EQ p t [I G,I L,I M,I N,I O,B v20,B v21,B v22])))) (none)) (some (2,[])):=by kernel_rfl
theorem Zmm (F5 CB:Fn) (N6:Lp) (D G L N O:Int) (S T U:Bool) (M V X Y a0 a1:Int) (p:Pth) (t:Trk):Qiw F5 CB N6 (EQ p t [I D,I G,I L,I N,I O,B S,B T,B U,I M,I V,I X,I Y,I a0,I a1])=
 (CB [I D,I G,I L,I M,I V,I X,I Y,I a0,I a1]).bind λo7=>
 cond (!bA o7 1) (some [B false]) (cond (((p.aF.map Aw).length:Int)==0) (some [B false]) ((F5 (EQ p t [I D,I G,I L,I N,I O,B S,B T,B U,I M])).bind λo8=>
 cond (decide (V>gA o8 0)) (some [B false]) ((N6 (I M:: .vC Aa (wA o7 0)::I (↑(wA o7 0).length:Int)::I 0::EQ p t [I D,I G,I L,I N,I O,B S,B T,B U])).bind λo9=>
 cond (o9.1.beq 1) (some [B (bA o9.2 0)]) (cond (o9.1.beq 2) (some [B true]) (none))))):=by kernel_rfl
def Q06:=Am (XL NI FM)
def Mi:=Qiw NI FM Q06
theorem Za7:Aj PG (Qea NI FM):=Ao rfl ⟨Zta,Qh0,trivial⟩
theorem Zk1:Al PG (Zqj Mi):=rw2 (C:=Q6j NI FM Q06) (fl fb Za7) Za7
def Qa3:Sk:=⟨[TS.v true (cc 6),tf [ci]],[],[]⟩
def Qkv:Sk:=⟨[TS.v true (cc 6)],[],[]⟩
def Q6z:=qa 203 Qa3 Qkv
def VM:Fn:=An PG C_cncref30_SamePulses_0 64 203 Qa3 Qkv
theorem Z7k (G L O M N S D:Int):VM [I G,I L,I O,I M,I N,I S,I D]=
 some [I (V (G+D)),I D,I (V (D-L)),I G,I M,I N]:=by kernel_rfl
def JF:=VM
theorem Yca:Aj PG (C_cncref30_SamePulses_0):=Ao rfl trivial
theorem Q16:Al PG (Q6z JF):=rw1 (C:=C_cncref30_SamePulses_0) Yca
def Zye:=qa 201 ZM Qg9
def Qvj:Sk:=⟨[td,td,td,tf [sd 3 1],tf [ci]]++dd 32,[],[(3,3,Aa)]⟩
def Qwy:List (Ex×Sk):=[(Ex.exit 0,⟨[td,td,td,tf [sd 3 1]]++dd 33,[],[(3,3,Aa)]⟩)]
def Q_:Lp:=AL PG C_limits_Differences_0 64 3 (AK PG 201 3) Qvj Qwy
def Q8o (D:Lp):Cfg:=C_limits_Differences_0.loop 3 Qvj Qwy D
def Qzz:Sk:=⟨[td,td,td,tf [sd 3 1],td,tf [sd 16 1],tf [ci]]++dd 30,[],[(3,3,Aa),(16,3,Aa)]⟩
def Zab:List (Ex×Sk):=[(Ex.exit 2,⟨[td,td,td,td,td,tf [sd 16 1]]++dd 31,[],[(16,3,Aa)]⟩)]
def Sc (D:Lp):Lp:=AL PG (Q8o D) 64 8 (AK PG 201 8) Qzz Zab
def Q6p (D G:Lp):Cfg:=(Q8o D).loop 8 Qzz Zab G
def ZE (D G:Lp):Fn:=An PG (Q6p D G) 64 201 ZM Qg9
theorem Zkm (G:Rw) (D:Int):Q_ [.vC Aa G,I D]=
 cond (decide (D>0)) (cond (((G++[[I D]]).length*8).ble 140737488355328) (some (0,[.vC Aa (G++[[I D]]),I (V (D.tdiv 2))])) (none)) (some (1,[.vC Aa G])):=by kernel_rfl
theorem Z3y (M:Lp) (G L:Rw) (D:Int):Sc M [.vC Aa G, .vC Aa L,I D]=
 cond (decide (D>=0)) (cond (decide (0<=D)&&decide (D<(G.length:Int))) (cond (((L++[[I (V (0-gA (nth [] G D.toNat) 0))]]).length*8).ble 140737488355328) (some (0,[.vC Aa G, .vC Aa (L++[[I (V (0-gA (nth [] G D.toNat) 0))]]),I (V (D-1))])) (none)) (none)) (some (1,[.vC Aa L])):=by kernel_rfl
theorem Zs5 (D G:Lp) (L:Int):ZE D G [I L]=
 (D [.vC Aa [],I L]).bind λo3=>
 cond (o3.1.beq 1) (cond ((([]++wA o3.2 0).length*8).ble 140737488355328) (cond ((([]++wA o3.2 0++[[I 0]]).length*8).ble 140737488355328) ((G [.vC Aa (wA o3.2 0), .vC Aa ([]++wA o3.2 0++[[I 0]]),I (V ((↑(wA o3.2 0).length:Int)-1))]).bind λo4=>
 cond (o4.1.beq 1) (some [.vC Aa (wA o4.2 0)]) (none)) (none)) (none)) (none):=by kernel_rfl
def Qqf:=Am (Q_)
def Q4y:=Am (Sc Qqf)
def Pw:=ZE Qqf Q4y
theorem XR:Aj PG (C_limits_Differences_0):=Ao rfl trivial
theorem Yeb:Al PG (Zye Pw):=rw2 (C:=Q6p Qqf Q4y) (fl (fl fb XR) XR) XR
def Qrn:Sk:=⟨[TS.v true [ci,ci,ci,sa Ag,sa kPt],TS.v true (cc 9++[sa Aa]++cc 9++[sa Aa]++cc 9++[sa Aa]),TS.v true ([sa Ap]++cc 5),TS.v true [ci,ci,ci],TS.v true [ci,ci,sb,sb,sb],TS.v true (cc 6),tf [ci]],[],[]⟩
def Qdp:=qa 157 Qrn Qkv
def Qm1 (D G I L M N:Fn):Cfg:=cf [Z7 D,Zbc G,Zqj I,Q6z L,Zel M,Zye N]
def Q47:Sk:=⟨dd 6++[tf [ci],tf [sc 7 0],tf [sc 8 0],tf [sc 9 0],tf [sc 10 0],tf [sc 11 0],tf [sc 12 0],td,tf [sc 14 0],tf [sc 15 0],tf [sb]]++dd 6++[tf [sa Aa],tf [ci],tf [ci]]++dd 57,[(7,46,[ci,ci,ci,sa Ag,sa kPt]),(8,34,cc 9++[sa Aa]++cc 9++[sa Aa]++cc 9++[sa Aa]),(9,52,[sa Ap]++cc 5),(10,36,[ci,ci,ci]),(11,163,[ci,ci,sb,sb,sb]),(12,171,cc 6),(14,171,cc 6),(15,171,cc 6)],[]⟩
def Q42:List (Ex×Sk):=[(Ex.exit 0,⟨dd 10++[tf [sc 10 0],td,tf [sc 12 0],td,tf [sc 14 0],tf [sc 15 0],tf [sb]]++dd 66,[(10,36,[ci,ci,ci]),(12,171,cc 6),(14,171,cc 6),(15,171,cc 6)],[]⟩)]
def Qn5 (D G I L M N:Fn):Lp:=AL PG (Qm1 D G I L M N) 64 4 (AK PG 157 4) Q47 Q42
def Q37 (D G I L M N:Fn) (O:Lp):Cfg:=(Qm1 D G I L M N).loop 4 Q47 Q42 O
def Qmx (D G I L M N:Fn) (O:Lp):Fn:=An PG (Q37 D G I L M N O) 64 157 Qrn Qkv
theorem Zvo (Bu DE Gu Cq CV Hu:Fn) (v0:Int) (v1:Bool) (v2:Rw) (v3 v4:Int) (v46 M v48 v49 a0:Int) (v51 a1 v53:Bool) (N L G O S v59 T U X v63 Y v65 a2 a3 v68 v69 v70 a4:Int) (p:Pth) (x:Ax3) (t:Trk):Qn5 Bu DE Gu Cq CV Hu (I v0::B v1:: .vC Aa v2::I v3::I v4::pxt p x t [I v46,I M,I v48,I v49,I a0,B v51,B a1,B v53,I N,I L,I G,I O,I S,I v59,I T,I U,I X,I v63,I Y,I v65,I a2,I a3,I v68,I v69,I v70,I a4])=
 cond (decide (v4<v3)) (cond (decide (0<=v4)&&decide (v4<(v2.length:Int))) (cond (decide (V (L+V (G+gA (nth [] v2 v4.toNat) 0))<0)) (some (0,(I v0::B v1:: .vC Aa v2::I v3::I (V (v4+1))::pxt p x t [I v46,I M,I v48,I v49,I a0,B v51,B a1,B v53,I N,I L,I G,I O,I S,I v59,I T,I U,I X,I v63,I Y,I v65,I a2,I a3,I v68,I v69,I v70,I a4]))) ((CV [I v46,I M,I v48,I (V (L+V (G+gA (nth [] v2 v4.toNat) 0))),I (V (G+gA (nth [] v2 v4.toNat) 0))]).bind λo9=>
 cond (!bA o9 0) (some (0,(I v0::B v1:: .vC Aa v2::I v3::I (V (v4+1))::pxt p x t [I v46,I M,I v48,I v49,I a0,B v51,B a1,B v53,I N,I L,I G,I O,I S,I v59,I T,I U,I X,I v63,I Y,I v65,I a2,I a3,I v68,I v69,I v70,I a4]))) ((Cq [I N,I L,I G,I O,I S,I v59,I (V (L+V (G+gA (nth [] v2 v4.toNat) 0)))]).bind λD=>
 (Gu (EQ p t [I v46,I M,I v48,I v49,I a0,B v51,B a1,B v53,jA D 0,jA D 1,jA D 2,jA D 3,jA D 4,jA D 5])).bind λa5=>
 cond (bA a5 0) ((DE (pxt p x t [I v46,I M,I v48,jA D 0,jA D 1,jA D 2,jA D 3,jA D 4,jA D 5,I v0])).bind λa6=>
 cond (bA a6 0) (some (1,[B true,I v46,I M,I v48,I N,I L,I G,I O,I S,I v59,I T,I U,I X,I v63,I Y,I v65,jA D 0,jA D 1,jA D 2,jA D 3,jA D 4,jA D 5])) (some (0,(I v0::B v1:: .vC Aa v2::I v3::I (V (v4+1))::pxt p x t [I v46,I M,I v48,I v49,I a0,B v51,B a1,B v53,I N,I L,I G,I O,I S,I v59,I T,I U,I X,I v63,I Y,I v65,jA D 0,jA D 1,jA D 2,jA D 3,jA D 4,jA D 5])))) (some (0,(I v0::B v1:: .vC Aa v2::I v3::I (V (v4+1))::pxt p x t [I v46,I M,I v48,I v49,I a0,B v51,B a1,B v53,I N,I L,I G,I O,I S,I v59,I T,I U,I X,I v63,I Y,I v65,jA D 0,jA D 1,jA D 2,jA D 3,jA D 4,jA D 5])))))) (none)) (some (1,[B v1,I v46,I M,I v48,I N,I L,I G,I O,I S,I v59,I T,I U,I X,I v63,I Y,I v65,I a2,I a3,I v68,I v69,I v70,I a4])):=by kernel_rfl
theorem Z7l (Bu DE Gu Cq CV Hu:Fn) (N4:Lp) (M L N O S:Int) (T U X:Bool) (Y a0 a1 a2 a3 a4 a5:Int) (p:Pth) (x:Ax3) (t:Trk):Qmx Bu DE Gu Cq CV Hu N4 (pxt p x t [I M,I L,I N,I O,I S,B T,B U,B X,I Y,I a0,I a1,I a2,I a3,I a4,I a5])=
 (Hu [I L]).bind λa6=>
 (N4 (I a5::B false:: .vC Aa (wA a6 0)::I (↑(wA a6 0).length:Int)::I 0::pxt p x t [I M,I L,I N,I O,I S,B T,B U,B X,I Y,I a0,I a1,I a2,I a3,I a4,I 0,I 0,I 0,I 0,I 0,I 0,I 0,I 0,I 0,I 0,I 0,I 0])).bind λD=>
 cond (D.1.beq 1) (cond (bA D.2 0) (some [jA D.2 16,jA D.2 17,jA D.2 18,jA D.2 19,jA D.2 20,jA D.2 21]) ((Bu [jA D.2 1,jA D.2 2,jA D.2 3,jA D.2 5,jA D.2 6]).bind λa7=>
 (Cq [jA D.2 4,jA D.2 5,jA D.2 6,jA D.2 7,jA D.2 8,jA D.2 9,I (V (gA D.2 5+gA a7 0))]).bind λG=>
 some [jA G 0,jA G 1,jA G 2,jA G 3,jA G 4,jA G 5])) (none):=by kernel_rfl
def Q7b:=Am (Qn5 E8 Ju Mi JF Hw Pw)
def Fs:=Qmx E8 Ju Mi JF Hw Pw Q7b
theorem Qul:Aj PG (Qm1 E8 Ju Mi JF Hw Pw):=Ao rfl ⟨Qec,Q1m,Zk1,Q16,Qy5,Yeb,trivial⟩
theorem Qr4:Al PG (Qdp Fs):=rw2 (C:=Q37 E8 Ju Mi JF Hw Pw Q7b) (fl fb Qul) Qul
def Qzi:=qa 209 Qgp Yz
def Qr3 (D:Fn):Cfg:=cf [Y1 D]
def PM (D:Fn):Fn:=An PG (Qr3 D) 64 209 Qgp Yz
theorem Zcj (G:Fn) (L M N D O S T U X:Int):PM G [I L,I M,I N,I D,I O,I S,I T,I U,I X]=
 (G [I L,I M,I N,I D,I O,I S,I T,I U,I X]).bind λo1=>
 cond (!bA o1 1) (some [I 0,B false]) (cond ((↑(wA o1 0).length:Int)==0) (some [I D,B true]) (cond (decide (0<=V ((↑(wA o1 0).length:Int)-1))&&decide (V ((↑(wA o1 0).length:Int)-1)<(↑(wA o1 0).length:Int))) (some [I (Af (nth .vD (nth [] (wA o1 0) (V ((↑(wA o1 0).length:Int)-1)).toNat) 0)),B true]) (none))):=by kernel_rfl
def GG:=PM FM
theorem Z6e:Aj PG (Qr3 FM):=Ao rfl ⟨Qh0,trivial⟩
theorem Q0d:Al PG (Qzi GG):=rw1 (C:=Qr3 FM) Z6e
def Zjj:=qa 270 Zo ZM
def Qr6 (D:Fn):Cfg:=cf [Mn D]
def Yh (D:Fn):Fn:=An PG (Qr6 D) 64 270 Zo ZM
theorem Z4g (D:Fn) (G L:Int):Yh D [I G,I L]=
 (D [I G,I L,I 4096,I 0]).bind λo1=>
 some [jA o1 0]:=by kernel_rfl
def Qo:=Yh Bt
theorem Z8y:Aj PG (Qr6 Bt):=Ao rfl ⟨Ln,trivial⟩
theorem Yef:Al PG (Zjj Qo):=rw1 (C:=Qr6 Bt) Z8y
def Zzz:=qa 271 Zo ZM
def Qbc:Fn:=An PG C_cncref30_SamePulses_0 64 271 Zo ZM
theorem Zl8 (D G:Int):Qbc [I D,I G]=
 some [I (mx (V (D-G)) (V (G-D)))]:=by kernel_rfl
def RP:=Qbc
theorem Zfw:Aj PG (C_cncref30_SamePulses_0):=Ao rfl trivial
theorem Zu4:Al PG (Zzz RP):=rw1 (C:=C_cncref30_SamePulses_0) Zfw
def Zl:Sk:=⟨[TS.v true [ci,ci,ci,sa Ag,sa kPt],TS.v true (cc 9++[sa Aa]++cc 9++[sa Aa]++cc 9++[sa Aa]),TS.v true ([sa Ap]++cc 5),TS.v true [ci,ci,ci],TS.v true [ci,ci,sb,sb,sb],TS.v true (cc 6),tf [ci],tf [ci],TS.v true [ci,ci,ci,ci],tf [ci],tf [ci]],[],[]⟩
def Qso:Sk:=⟨[TS.tup [(true,cc 6),(true,[ci,ci,ci,ci]),(false,[ci])]],[],[]⟩
def Zpl:=qa 245 Zl Qso
def Qa6 (D G I L M N O:Fn):Cfg:=cf [Qdp D,Z7 G,Qzi I,Zbc L,Q6z M,Zjj N,Zzz O]
def Qmy (D G I L M N O:Fn):Fn:=An PG (Qa6 D G I L M N O) 64 245 Zl Qso
abbrev Qki (D9:Fn) (S T U:Int) (G:List AC) (X:Int) (a5:List AC) (Y a0 a6:Int) (Bu:Fn) (D L:Int) (Cq:Fn) (a1 a2 a3 a4:Int):Option (List AC):=
 (D9 [I S,I T,I U,jA G 0,jA G 1,jA G 2,jA G 3,jA G 4,jA G 5]).bind λa7=>
 cond (decide (V (V (V (X+gA a5 0)-Y)-a0)>=0)) (cond (decide (gA a7 0>V (a6*256))) ((Bu [I S,I T,I U,I D,I L]).bind λa8=>
 (Cq [I a0,I D,I L,I a1,I a2,I a3,I (V (D+gA a8 0))]).bind λM=>
 some [jA M 0,jA M 1,jA M 2,jA M 3,jA M 4,jA M 5,I 3,I X,I a4,I Y,I 0]) ((Bu [I S,I T,I U,I D,I L]).bind λa9=>
 (Cq [I a0,I D,I L,I a1,I a2,I a3,I (V (D+gA a9 0))]).bind λN=>
 some [jA N 0,jA N 1,jA N 2,jA N 3,jA N 4,jA N 5,I 3,I X,I a4,I Y,I 18])) ((Bu [I S,I T,I U,I D,I L]).bind λb0=>
 (Cq [I a0,I D,I L,I a1,I a2,I a3,I (V (D+gA b0 0))]).bind λO=>
 some [jA O 0,jA O 1,jA O 2,jA O 3,jA O 4,jA O 5,I 3,I X,I a4,I Y,I 18])
theorem Z4t (CF Bu D9 DE Cq Mu Lc:Fn) (S T U a9 b0:Int) (b7 b1 b2:Bool) (M X Y a0 a1 a2 a3 b3 a4 L N O b4 b5:Int) (p:Pth) (x:Ax3) (t:Trk):Qmy CF Bu D9 DE Cq Mu Lc (pxt p x t [I S,I T,I U,I a9,I b0,B b7,B b1,B b2,I M,I X,I Y,I a0,I a1,I a2,I a3,I b3,I a4,I L,I N,I O,I b4,I b5])=
 (Lc [I b5,I N]).bind λb8=>
 (Mu [I b3,jA b8 0]).bind λa5=>
 cond (a4==1) ((Lc [I b4,I N]).bind λb9=>
 (Mu [I b3,jA b9 0]).bind λb6=>
 (Cq [I M,I X,I Y,I a0,I a1,I a2,I (V (gA a5 0-gA b6 0))]).bind λG=>
 cond (V (gA a5 0-gA b6 0) !=0) ((DE (pxt p x t [I S,I T,I U,jA G 0,jA G 1,jA G 2,jA G 3,jA G 4,jA G 5,I a3])).bind λc0=>
 cond (bA c0 0) (some [jA G 0,jA G 1,jA G 2,jA G 3,jA G 4,jA G 5,I 2,I L,I N,I (V (gA a5 0-V (gA G 0-L))),I 0]) ((CF (pxt p x t [I S,I T,I U,I a9,I b0,B false,B b1,B b2,I M,I X,I Y,I a0,I a1,I a2,I a3])).bind λa6=>
 some [jA a6 0,jA a6 1,jA a6 2,jA a6 3,jA a6 4,jA a6 5,I a4,I L,I N,I O,I 0])) ((CF (pxt p x t [I S,I T,I U,I a9,I b0,B false,B b1,B b2,I M,I X,I Y,I a0,I a1,I a2,I a3])).bind λa7=>
 some [jA a7 0,jA a7 1,jA a7 2,jA a7 3,jA a7 4,jA a7 5,I a4,I L,I N,I O,I 0])) (cond (a4==2) ((Cq [I M,I X,I Y,I a0,I a1,I a2,I (V (V (V (L+gA a5 0)-O)-M))]).bind λD=>
 cond (decide (V (V (V (L+gA a5 0)-O)-M)>=0)) ((DE (pxt p x t [I S,I T,I U,jA D 0,jA D 1,jA D 2,jA D 3,jA D 4,jA D 5,I a3])).bind λc1=>
 cond (bA c1 0) (some [jA D 0,jA D 1,jA D 2,jA D 3,jA D 4,jA D 5,I a4,I L,I N,I O,I 0]) (Qki D9 S T U D L a5 O M a3 Bu X Y Cq a0 a1 a2 N)) (Qki D9 S T U D L a5 O M a3 Bu X Y Cq a0 a1 a2 N)) ((CF (pxt p x t [I S,I T,I U,I a9,I b0,B false,B b1,B b2,I M,I X,I Y,I a0,I a1,I a2,I a3])).bind λa8=>
 some [jA a8 0,jA a8 1,jA a8 2,jA a8 3,jA a8 4,jA a8 5,I a4,I L,I N,I O,I 0])):=by kernel_rfl
def J5:=Qmy Fs E8 GG Ju JF Qo RP
theorem Zqw:Aj PG (Qa6 Fs E8 GG Ju JF Qo RP):=Ao rfl ⟨Qr4,Qec,Q0d,Q1m,Q16,Yef,Zu4,trivial⟩
theorem Zjs:Al PG (Zpl J5):=rw1 (C:=Qa6 Fs E8 GG Ju JF Qo RP) Zqw
def Xt:=qa 212 Qdz Qmk
def Qnc (D:Fn):Cfg:=cf [Qdp D]
def Qr0 (D:Fn):Fn:=An PG (Qnc D) 64 212 Qdz Qmk
theorem Zka (D:Fn) (G:Int) (K:Kf) (c:Cv):Qr0 D (I G::Ac K c)=
 (D (pxt K.p K.x K.t [I K.pa,I K.pb,I K.pc,I c.o0,I c.o1,B c.o2,B c.o3,B c.o4,I c.m0,I c.m1,I c.m2,I c.m3,I c.m4,I c.m5,I G])).bind λo1=>
 some (Ac K {c with m0:=gA o1 0,m1:=gA o1 1,m2:=gA o1 2,m3:=gA o1 3,m4:=gA o1 4,m5:=gA o1 5}):=by kernel_rfl
def HS:=Qr0 Fs
theorem Zpq:Aj PG (Qnc Fs):=Ao rfl ⟨Qr4,trivial⟩
theorem Qo3:Al PG (Xt HS):=rw1 (C:=Qnc Fs) Zpq
def Qpa:Sk:=⟨[tf [sc 20000 0],tf [ci],TS.v true (cc 7)],[(20000,179,cS)],[]⟩
def Ydk:=qa 215 Qpa Qmk
def Qnm (D G I:Fn):Cfg:=cp [YO D,Zpl G,Xt I] [161,212]
def X_ (D G I:Fn):Fn:=An PG (Qnm D G I) 64 215 Qpa Qmk
theorem Zpi (G L M:Fn) (D O S T U V X N:Int) (K:Kf) (c:Cv):X_ G L M (I D::I O::I S::I T::I U::I V::I X::I N::Ac K c)=
 cond (c.g0 !=0) ((M (I D::Ac K c)).bind λo3=>
 some (Dt (cR 0 o3) [(82,I 3)])) ((L (pxt K.p K.x K.t [I K.pa,I K.pb,I K.pc,I c.o0,I c.o1,B c.o2,B c.o3,B c.o4,I c.m0,I c.m1,I c.m2,I c.m3,I c.m4,I c.m5,I D,I N,I c.e0,I c.e1,I c.e2,I c.e3,I c.before,I c.s3])).bind λo4=>
 cond (gA o4 10 !=0) ((G (Ac K {c with m0:=gA o4 0,m1:=gA o4 1,m2:=gA o4 2,m3:=gA o4 3,m4:=gA o4 4,m5:=gA o4 5,e0:=gA o4 6,e1:=gA o4 7,e2:=gA o4 8,e3:=gA o4 9})).bind λY=>
 some (cR 0 Y)) (some (Ac K {c with m0:=gA o4 0,m1:=gA o4 1,m2:=gA o4 2,m3:=gA o4 3,m4:=gA o4 4,m5:=gA o4 5,e0:=gA o4 6,e1:=gA o4 7,e2:=gA o4 8,e3:=gA o4 9}))):=by kernel_rfl
def PN:=X_ GH J5 HS
theorem Zvc:Aj PG (Qnm GH J5 HS):=Ao rfl ⟨Qp5,Zjs,Qo3,trivial⟩
theorem Zt8:Al PG (Ydk PN):=rw1 (C:=Qnm GH J5 HS) Zvc
def Zis:=qa 244 Zo ZM
def Qou (D:Fn):Cfg:=cf [Mn D]
def Yn (D:Fn):Fn:=An PG (Qou D) 64 244 Zo ZM
theorem Zkv (D:Fn) (G L:Int):Yn D [I G,I L]=
 (D [I 4096,I L,I G,I 0]).bind λo1=>
 some [jA o1 0]:=by kernel_rfl
def Ku:=Yn Bt
theorem Z8f:Aj PG (Qou Bt):=Ao rfl ⟨Ln,trivial⟩
theorem Ycx:Al PG (Zis Ku):=rw1 (C:=Qou Bt) Z8f
def Z5s:=qa 214 Qpa Qmk
def X5 (Mt D G:Fn):Cfg:=cr [Zis Mt,Pc D,Xt G] [163,212] [163]
def Qp1 (Mt D G:Fn):Fn:=An PG (X5 Mt D G) 64 214 Qpa Qmk
theorem Zfm (Mt L N:Fn) (O S T U X G Y M:Int) (K:Kf) (c:Cv):Qp1 Mt L N (I O::I S::I T::I U::I X::I G::I Y::I M::Ac K c)=
 (N (I O::Ac K c)).bind λD=>
 cond (decide (0<=G)&&decide (G<(↑(wA D 35).length:Int))) (cond (Af (nth .vD (nth [] (wA D 35) G.toNat) 19)==3) ((L (cR 0 D)).bind λo6=>
 (Mt [I M,I (V (gA o6 0-gA D 80))]).bind λo7=>
 some (Dt (cR 0 D) [(67,I (V (gA D 81+V (V (1*gA o7 0)*256))))])) ((L (cR 0 D)).bind λo8=>
 (Mt [I M,I (V (gA o8 0-gA D 80))]).bind λo9=>
 some (Dt (cR 0 D) [(67,I (V (gA D 81+V (V (-1*gA o9 0)*256))))]))) (none):=by kernel_rfl
def QL:=Qp1 Ku C0 HS
theorem Zkw:Aj PG (X5 Ku C0 HS):=GJ (rs:=[163]) rfl ⟨Ycx,PB,Qo3,trivial⟩ rfl (Ca rfl (EI (Ca rfl G4)))
theorem Ziy:Al PG (Z5s QL):=rw1 (C:=X5 Ku C0 HS) Zkw
def Ycs:=qa 269 Zo ZM
def Qlp:Fn:=An PG C_cncref30_SamePulses_0 64 269 Zo ZM
theorem Ya0 (G D:Int):Qlp [I G,I D]=
 cond (decide (D=0)) (none) (cond (decide (D=0)) (none) (cond (decide (G.tmod D<0)) (some [I (V (V (G.tdiv D)-1))]) (some [I (V (G.tdiv D))]))):=by kernel_rfl
def J9:=Qlp
theorem Yck:Aj PG (C_cncref30_SamePulses_0):=Ao rfl trivial
theorem Yau:Al PG (Ycs J9):=rw1 (C:=C_cncref30_SamePulses_0) Yck
def Z0f:=qa 243 Zo ZM
def Qpf (D:Fn):Cfg:=cf [Ycs D]
def Qjm (D:Fn):Fn:=An PG (Qpf D) 64 243 Zo ZM
theorem Z4s (D:Fn) (G L:Int):Qjm D [I G,I L]=
 cond (L== -1) ((D [I G,I 1048576]).bind λo2=>
 some [I (V (gA o2 0*1048576))]) ((D [I (V (0-G)),I 1048576]).bind λo3=>
 some [I (V (V (0-gA o3 0)*1048576))]):=by kernel_rfl
def KG:=Qjm J9
theorem Z23:Aj PG (Qpf J9):=Ao rfl ⟨Yau,trivial⟩
theorem Zmu:Al PG (Z0f KG):=rw1 (C:=Qpf J9) Z23
def Qob:Sk:=⟨[tf [sc 20000 0],TS.v true (cc 7)],[(20000,179,cS)],[]⟩
def Qh1:Sk:=⟨[tf [sb]],[(20000,179,cS)],[]⟩
def Zlk:=qa 213 Qob Qh1
def VZ (D G:Fn):Cfg:=cr [Pc D,Z0f G] [163] [163]
def Qms (D G:Fn):Fn:=An PG (VZ D G) 64 213 Qob Qh1
theorem Z0e (G L:Fn) (M N O S D T U:Int) (K:Kf) (c:Cv):Qms G L (I M::I N::I O::I S::I D::I T::I U::Ac K c)=
 (L [I c.before,I c.s0]).bind λo3=>
 cond (decide (0<=D)&&decide (D<((K.aA.map Ah).length:Int))) (cond (gA (nth [] (K.aA.map Ah) D.toNat) 0 !=6) (cond (c.s1==0) (some (B false::Ac K c)) (cond (decide (V (V (c.s3-gA o3 0)*c.s0)<0)) (some (B false::Ac K c)) ((G (Ac K c)).bind λo4=>
 some (B true::Ac K {c with y0:=D,y1:=gA o4 0,y2:=c.s3,e0:=1,e1:=c.m0,e2:=gA o3 0,e3:=0})))) ((G (Ac K c)).bind λX=>
 some (B true::Ac K {c with y0:=D,y1:=gA X 0,y2:=c.s3,e0:=1,e1:=c.m0,e2:=gA o3 0,e3:=0}))) (none):=by kernel_rfl
def QQ:=Qms C0 KG
theorem Yeg:Aj PG (VZ C0 KG):=GJ (rs:=[163]) rfl ⟨PB,Zmu,trivial⟩ rfl (EI (Ca rfl G4))
theorem Zy0:Al PG (Zlk QQ):=rw1 (C:=VZ C0 KG) Yeg
def Qo1:Sk:=⟨[TS.tup [(true,cc 7),(false,[sb])]],[],[]⟩
def Um (M:Fn):Nat×Spec:=(155,Em Qo7 Qo1 M)
def QW (D G:Fn):Cfg:=cr [Qiu D,Pc G] [163] [163]
def Qrm (D G:Fn):Fn:=LD PG (QW D G) 64 155 Qo7 Qo1
theorem Zls (D G:Fn) (K:Kf) (c:Cv):Qrm D G (Ac K c)=
 (G (Ac K c)).bind λo2=>
 (D (Bk K.p++[jA o2 0])).bind λo3=>
 cond (decide (gA o3 0<0)) (some [I 0,I 0,I 0,I 0,I 0,I 0,I 0,B false]) (cond (decide (0<=gA o3 0)&&decide (gA o3 0<((K.p.aF.map Aw).length:Int))) (some (AM Ag (nth [] (K.p.aF.map Aw) (gA o3 0).toNat)++[B true])) (none)):=by kernel_rfl
def EG:=Qrm EE C0
theorem Zo6:Aj PG (QW EE C0):=GJ (rs:=[163]) rfl ⟨ZH,PB,trivial⟩ rfl (Ca rfl (EI G4))
theorem Z7q (vars : List AC) (R : Type) (K : TV -> Mem -> Option R) : EH PG (QW EE C0) 64 155 [TV.v false [AC.ptr 20000 0]] ⟨[(20000, (⟨179, (cR 0 vars)⟩ : Box))], []⟩ K = EH PG (QW EE C0) 64 155 [TV.v false [AC.ptr 20000 0]] ⟨[(20000, (⟨179, (cR 0 vars)⟩ : Box))], []⟩ (λv _ => K v ⟨[(20000, (⟨179, (cR 0 vars)⟩ : Box))], []⟩) := db (b := ((C0 (cR 0 vars)).bind λo2 =>
 (EE [jA vars 37,jA vars 38,jA vars 39, .vC Ag (wA vars 40), .vC kPt (wA vars 41),jA o2 0]).bind λo3=>
 cond (decide (gA o3 0<0)) (K (TV.tup [(true,[I 0,I 0,I 0,I 0,I 0,I 0,I 0]),(false,[B false])]) ⟨[(20000,(⟨179,(cR 0 vars)⟩:Box))],[]⟩) (cond (decide (0<=gA o3 0)&&decide (gA o3 0<(↑(wA vars 40).length:Int))) (K (TV.tup [(true,[I (Af (nth .vD (nth [] (wA vars 40) (gA o3 0).toNat) 0)),I (Af (nth .vD (nth [] (wA vars 40) (gA o3 0).toNat) 1)),I (Af (nth .vD (nth [] (wA vars 40) (gA o3 0).toNat) 2)),I (Af (nth .vD (nth [] (wA vars 40) (gA o3 0).toNat) 3)),I (Af (nth .vD (nth [] (wA vars 40) (gA o3 0).toNat) 4)),I (Af (nth .vD (nth [] (wA vars 40) (gA o3 0).toNat) 5)),I (Af (nth .vD (nth [] (wA vars 40) (gA o3 0).toNat) 6))]),(false,[B true])]) ⟨[(20000,(⟨179,(cR 0 vars)⟩:Box))],[]⟩) (none)))) (by kernel_rfl) (Eq.symm (by kernel_rfl))
theorem Ux:Al PG (155,Em Qo7 Qo1 EG):=Qg (C:=QW EE C0) (L:=64) (by kernel_rfl) (FnOK.bare rfl rfl rfl) Zo6 eqOk Gn (by kernel_rfl) (by kernel_rfl) (λvars R K=>Z7q vars R K)
def Z0m:=qa 162 Qdz Qmk
def Qji (D G I L M N:Fn):Cfg:=cr [Ydk D,Z5s G,YO I,Zlk L,Xt M,Um N] [215,214,161,213,212,155] [155]
def Qam (D G I L M N:Fn):Fn:=An PG (Qji D G I L M N) 64 162 Qdz Qmk
abbrev T_ (c:Cv) (D:List AC) (X:Fn) (K:Kf) (Y U:Fn) (L:Int) (V:Fn):Option (List AC):=
 cond (!c.y0==gA D 4) ((X (jA D 0::jA D 1::jA D 2::jA D 3::jA D 4::jA D 5::jA D 6::Ac K c)).bind λG=>
 cond (!bA G 0) (cond (gA G 66==0) ((Y (cR 1 G)).bind λM=>
 some (cR 0 M)) (some (cR 1 G))) (cond (decide (0<=gA D 4)&&decide (gA D 4<(↑(wA G 36).length:Int))) (cond (Af (nth .vD (nth [] (wA G 36) (gA D 4).toNat) 0)==6) ((U (I L::jA D 0::jA D 1::jA D 2::jA D 3::jA D 4::jA D 5::jA D 6::cR 1 G)).bind λN=>
 some (cR 0 N)) ((V (I L::jA D 0::jA D 1::jA D 2::jA D 3::jA D 4::jA D 5::jA D 6::cR 1 G)).bind λO=>
 some (cR 0 O))) (none))) (cond (decide (0<=gA D 4)&&decide (gA D 4<((K.aA.map Ah).length:Int))) (cond (gA (nth [] (K.aA.map Ah) (gA D 4).toNat) 0==6) ((U (I L::jA D 0::jA D 1::jA D 2::jA D 3::jA D 4::jA D 5::jA D 6::Ac K c)).bind λS=>
 some (cR 0 S)) ((V (I L::jA D 0::jA D 1::jA D 2::jA D 3::jA D 4::jA D 5::jA D 6::Ac K c)).bind λT=>
 some (cR 0 T))) (none))
theorem Zi6 (L M N O S V:Fn) (G:Int) (K:Kf) (c:Cv):Qam L M N O S V (I G::Ac K c)=
 (V (Ac K c)).bind λD=>
 cond (gA D 6==0) ((S (I G::Ac K c)).bind λT=>
 some (cR 0 T)) (cond (c.o2) (cond (!c.y0==gA D 4) ((S (I G::Ac K c)).bind λU=>
 some (cR 0 U)) (T_ c D O K N M G L)) (T_ c D O K N M G L)):=by kernel_rfl
def PT:=Qam PN QL GH QQ HS EG
theorem Z5a:Aj PG (Qji PN QL GH QQ HS EG):=GJ (rs:=[155]) rfl ⟨Zt8,Ziy,Qp5,Zy0,Qo3,Ux,trivial⟩ rfl (Ca rfl (Ca rfl (Ca rfl (Ca rfl (Ca rfl (EI G4))))))
theorem Zq7:Al PG (Z0m PT):=rw1 (C:=Qji PN QL GH QQ HS EG) Z5a
def Qhm:=qa 147 ZM ZM
def Xv (D:Fn):Cfg:=cf [Mn D]
def T2 (D:Fn):Fn:=An PG (Xv D) 64 147 ZM ZM
theorem Q4i (D:Fn) (G:Int):T2 D [I G]=
 (D [I G,I 1048576,I 60000,I 2]).bind λo1=>
 some [jA o1 0]:=by kernel_rfl
def EY:=T2 Bt
theorem Zti:Aj PG (Xv Bt):=Ao rfl ⟨Ln,trivial⟩
theorem Qk6:Al PG (Qhm EY):=rw1 (C:=Xv Bt) Zti
def Q6c:=qa 238 ZM ZM
def Qk9:Fn:=An PG C_cncref30_SamePulses_0 64 238 ZM ZM
theorem Zf4 (D:Int):Qk9 [I D]=
 cond (D==3) (some [I 1]) (cond (D==4) (some [I (-1)]) (some [I 0])):=by kernel_rfl
def GZ:=Qk9
theorem Z8h:Aj PG (C_cncref30_SamePulses_0):=Ao rfl trivial
theorem Q0h:Al PG (Q6c GZ):=rw1 (C:=C_cncref30_SamePulses_0) Z8h
def Qqy:Sk:=⟨[TS.v true [ci,ci,ci,ci],tf [ci],tf [ci]],[],[]⟩
def Zfl:=qa 200 Qqy Qjj
def Qlt (D G:Fn):Cfg:=cf [Qhm D,Q6c G]
def X6 (D G:Fn):Fn:=An PG (Qlt D G) 64 200 Qqy Qjj
theorem Zth (D O:Fn) (S G L T M N:Int):X6 D O [I S,I G,I L,I T,I M,I N]=
 (O [I M]).bind λo3=>
 cond (gA o3 0==0) (cond (M==5) (cond (G==0) (some [B (L==0)]) (some [B false])) (some [B false])) (cond (S==gA o3 0) ((D [I N]).bind λo4=>
 cond (G==gA o4 0) ((D [I N]).bind λU=>
 some [B (L==gA U 0)]) (some [B false])) (some [B false])):=by kernel_rfl
def Nb:=X6 EY GZ
theorem Z3v:Aj PG (Qlt EY GZ):=Ao rfl ⟨Qk6,Q0h,trivial⟩
theorem Yaz:Al PG (Zfl Nb):=rw1 (C:=Qlt EY GZ) Z3v
def XA:Sk:=⟨[TS.v true [ci,ci,ci,ci]],[],[]⟩
def Zy5:=qa 199 Qqy XA
def Qcs (D G:Fn):Cfg:=cf [Qhm D,Q6c G]
def YR (D G:Fn):Fn:=An PG (Qcs D G) 64 199 Qqy XA
theorem Zo0 (M S:Fn) (L D T G N O:Int):YR M S [I L,I D,I T,I G,I N,I O]=
 (S [I N]).bind λo3=>
 cond (N==5) (some [I L,I D,I 0,I G]) (cond (gA o3 0==0) (some [I L,I D,I T,I G]) (cond (D==0) ((M [I O]).bind λo4=>
 some [jA o3 0,I D,jA o4 0,I G]) (cond (L==gA o3 0) ((M [I O]).bind λU=>
 some [jA o3 0,I D,jA U 0,I G]) (some [I L,I D,I 0,I G])))):=by kernel_rfl
def La:=YR EY GZ
theorem Z91:Aj PG (Qcs EY GZ):=Ao rfl ⟨Qk6,Q0h,trivial⟩
theorem Zos:Al PG (Zy5 La):=rw1 (C:=Qcs EY GZ) Z91
def Qmn:Sk:=⟨[tf [ci]],[(20000,179,cS)],[]⟩
def Zgg:=qa 198 Qo7 Qmn
def Qf8:Fn:=An PG C_cncref30_SamePulses_0 64 198 Qo7 Qmn
theorem Zw1 (K:Kf) (c:Cv):Qf8 (Ac K c)=
 some (I 3::Ac K {c with next:=V (c.idx+1),on:=false,idx:=0,aN:=false,cnt:=0}):=by kernel_rfl
def ON:=Qf8
theorem Zhf:Aj PG (C_cncref30_SamePulses_0):=Ao rfl trivial
theorem Zl7:Al PG (Zgg ON):=rw1 (C:=C_cncref30_SamePulses_0) Zhf
def Qva:=qa 156 Qo7 Qmn
def Zw (D G I:Fn):Cfg:=cp [Zfl D,Zy5 G,Zgg I] [198]
def Wt (D G I:Fn):Fn:=An PG (Zw D G I) 64 156 Qo7 Qmn
theorem Zvv (O S G:Fn) (K:Kf) (c:Cv):Wt O S G (Ac K c)=
 cond (c.aN) (cond (decide (V (c.cnt+1)>1)) (cond (c.aJ) ((G (Ac K {c with cnt:=V (c.cnt+1)})).bind λT=>
 some (jA T 0::cR 1 T)) (some (I 2::Ac K {c with cnt:=V (c.cnt+1)}))) (some (I 2::Ac K {c with cnt:=V (c.cnt+1)}))) (cond (decide (0<=c.idx)&&decide (c.idx<((K.p.aD.map At).length:Int))) (cond (gA (nth [] (K.p.aD.map At) c.idx.toNat) 1 !=3) ((G (Ac K {c with cnt:=V (c.cnt+1)})).bind λo8=>
 some (jA o8 0::cR 1 o8)) (cond (decide (0<=gA (nth [] (K.p.aD.map At) c.idx.toNat) 2)&&decide (gA (nth [] (K.p.aD.map At) c.idx.toNat) 2<((K.aA.map Ah).length:Int))) (cond (gA (nth [] (K.aA.map Ah) (gA (nth [] (K.p.aD.map At) c.idx.toNat) 2).toNat) 0==7) (cond (decide (V (c.cnt+1)<gA (nth [] (K.aA.map Ah) (gA (nth [] (K.p.aD.map At) c.idx.toNat) 2).toNat) 19)) (some (I 3::Ac K {c with cnt:=V (c.cnt+1)})) ((G (Ac K {c with cnt:=V (c.cnt+1)})).bind λU=>
 some (jA U 0::cR 1 U))) (cond (gA (nth [] (K.aA.map Ah) (gA (nth [] (K.p.aD.map At) c.idx.toNat) 2).toNat) 0==8) ((S [I c.s0,I c.s1,I c.s2,I c.s3,jA (nth [] (K.aA.map Ah) (gA (nth [] (K.p.aD.map At) c.idx.toNat) 2).toNat) 19,jA (nth [] (K.aA.map Ah) (gA (nth [] (K.p.aD.map At) c.idx.toNat) 2).toNat) 20]).bind λD=>
 (O [jA D 0,jA D 1,jA D 2,jA D 3,jA (nth [] (K.aA.map Ah) (gA (nth [] (K.p.aD.map At) c.idx.toNat) 2).toNat) 19,jA (nth [] (K.aA.map Ah) (gA (nth [] (K.p.aD.map At) c.idx.toNat) 2).toNat) 20]).bind λN=>
 cond (!bA N 0) (some (I 3::Ac K {c with s0:=gA D 0,s1:=gA D 1,s2:=gA D 2,s3:=gA D 3,cnt:=V (c.cnt+1)})) ((G (Ac K {c with s0:=gA D 0,s1:=gA D 1,s2:=gA D 2,s3:=gA D 3,cnt:=V (c.cnt+1)})).bind λL=>
 some (jA L 0::cR 1 L))) (cond (gA (nth [] (K.aA.map Ah) (gA (nth [] (K.p.aD.map At) c.idx.toNat) 2).toNat) 0==14) (some (I 7::Ac K {c with cnt:=V (c.cnt+1),aI:=7})) ((G (Ac K {c with cnt:=V (c.cnt+1)})).bind λM=>
 some (jA M 0::cR 1 M))))) (none))) (none)):=by kernel_rfl
def KD:=Wt Nb La ON
theorem Zf3:Aj PG (Zw Nb La ON):=Ao rfl ⟨Yaz,Zos,Zl7,trivial⟩
theorem Zc0:Al PG (Qva KD):=rw1 (C:=Zw Nb La ON) Zf3
def Zrt:=qa 160 Qdz Qmn
def Qkx (D:Fn):Cfg:=cp [Qva D] [156]
def Qhv (D:Fn):Fn:=An PG (Qkx D) 64 160 Qdz Qmn
theorem Ycz (G:Fn) (D:Int) (K:Kf) (c:Cv):Qhv G (I D::Ac K c)=
 cond (decide (0<=D)&&decide (D<((K.p.aD.map At).length:Int))) (cond (gA (nth [] (K.p.aD.map At) D.toNat) 1==1) ((G (Ac K {c with on:=true,idx:=D,aN:=c.o3,cnt:=0})).bind λS=>
 some (jA S 0::cR 1 S)) (cond (gA (nth [] (K.p.aD.map At) D.toNat) 1==2) ((G (Ac K {c with on:=true,idx:=D,aN:=c.o3,cnt:=0})).bind λo8=>
 some (jA o8 0::cR 1 o8)) (cond (gA (nth [] (K.p.aD.map At) D.toNat) 1==6) ((G (Ac K {c with on:=true,idx:=D,aN:=c.o3,cnt:=0})).bind λT=>
 some (jA T 0::cR 1 T)) (cond (gA (nth [] (K.p.aD.map At) D.toNat) 1==4) ((G (Ac K {c with on:=true,idx:=D,aN:=true,cnt:=0})).bind λL=>
 some (jA L 0::cR 1 L)) (cond (gA (nth [] (K.p.aD.map At) D.toNat) 1==3) (cond (decide (0<=gA (nth [] (K.p.aD.map At) D.toNat) 2)&&decide (gA (nth [] (K.p.aD.map At) D.toNat) 2<((K.aA.map Ah).length:Int))) (cond (gA (nth [] (K.aA.map Ah) (gA (nth [] (K.p.aD.map At) D.toNat) 2).toNat) 0==11) ((G (Ac K {c with on:=true,idx:=D,aN:=true,cnt:=0})).bind λM=>
 some (jA M 0::cR 1 M)) ((G (Ac K {c with on:=true,idx:=D,aN:=gA (nth [] (K.aA.map Ah) (gA (nth [] (K.p.aD.map At) D.toNat) 2).toNat) 0==12,cnt:=0})).bind λN=>
 some (jA N 0::cR 1 N))) (none)) ((G (Ac K {c with on:=true,idx:=D,aN:=false,cnt:=0})).bind λO=>
 some (jA O 0::cR 1 O))))))) (none):=by kernel_rfl
def PH:=Qhv KD
theorem Znj:Aj PG (Qkx KD):=Ao rfl ⟨Zc0,trivial⟩
theorem Z85:Al PG (Zrt PH):=rw1 (C:=Qkx KD) Znj
def Qky:Sk:=⟨[tf [sa kPt],tf [ci],TS.v true [ci,ci,sb,sb,sb],tf [ci],tf [ci]],[],[]⟩
def Yen:=qa 211 Qky W9
def Qhg (D:Fn):Cfg:=cf [Qzd D]
def Q51:Sk:=⟨[tf [sa kPt],td,td,tf [ci],tf [ci],td,td,tf [sc 7 0],td,td,td,td,tf [ci]]++dd 32,[(7,163,[ci,ci,sb,sb,sb])],[]⟩
def Q0e:List (Ex×Sk):=[(Ex.ret,⟨dd 10++[tf [ci],tf [ci]]++dd 33,[],[]⟩),(Ex.exit 0,⟨[td,td,td,tf [ci]]++dd 41,[],[]⟩)]
def R6 (D:Fn):Lp:=AL PG (Qhg D) 64 2 (AK PG 211 2) Q51 Q0e
def Qv5 (D:Fn) (G:Lp):Cfg:=(Qhg D).loop 2 Q51 Q0e G
def Qgc (D:Fn) (G:Lp):Fn:=An PG (Qv5 D G) 64 211 Qky W9
theorem Zpu (X:Fn) (G:Rw) (L M D N O:Int) (S T U:Bool):R6 X [.vC kPt G,I L,I M,I D,I N,I O,B S,B T,B U]=
 cond (decide (D<(G.length:Int))) (cond (decide (0<=D)&&decide (D<(G.length:Int))) ((X [jA (nth [] G D.toNat) 0,jA (nth [] G D.toNat) 1,jA (nth [] G D.toNat) 2,I N,I O,B S,B T,B U]).bind λo2=>
 cond (bA o2 0) (cond (decide (M<=gA (nth [] G D.toNat) 0)) (cond (decide (gA (nth [] G D.toNat) 0<=L)) (some (1,[jA (nth [] G D.toNat) 0,I D])) (some (0,[.vC kPt G,I L,I M,I (V (D+1)),I N,I O,B S,B T,B U]))) (some (0,[.vC kPt G,I L,I M,I (V (D+1)),I N,I O,B S,B T,B U]))) (some (0,[.vC kPt G,I L,I M,I (V (D+1)),I N,I O,B S,B T,B U]))) (none)) (some (2,[I L])):=by kernel_rfl
theorem Ziu (X:Fn) (D:Lp) (G:Rw) (L M N:Int) (O S T:Bool) (U V:Int):Qgc X D [.vC kPt G,I L,I M,I N,B O,B S,B T,I U,I V]=
 (D [.vC kPt G,I U,I V,I (mx L 0),I M,I N,B O,B S,B T]).bind λo3=>
 cond (o3.1.beq 1) (some [jA o3.2 0,jA o3.2 1]) (cond (o3.1.beq 2) (some [jA o3.2 0,I (-1)]) (none)):=by kernel_rfl
def Q1s:=Am (R6 Iz)
def Qa:=Qgc Iz Q1s
theorem Zbh:Aj PG (Qhg Iz):=Ao rfl ⟨Qx3,trivial⟩
theorem Ydl:Al PG (Yen Qa):=rw2 (C:=Qv5 Iz Q1s) (fl fb Zbh) Zbh
def Z65:=qa 210 Yf ZM
def Q9a:Sk:=⟨[td,tf [ci]]++dd 11++[tf [sa Ap],tf [ci],tf [ci]]++dd 28,[],[]⟩
def Qtv:List (Ex×Sk):=[(Ex.ret,⟨[td,td,td,td,tf [ci]]++dd 39,[],[]⟩),(Ex.exit 0,⟨[td]++dd 43,[],[]⟩)]
def RQ:Lp:=AL PG C_cncref30_SamePulses_0 64 4 (AK PG 210 4) Q9a Qtv
def Qyd (D:Lp):Cfg:=C_cncref30_SamePulses_0.loop 4 Q9a Qtv D
def Za9 (D:Lp):Fn:=An PG (Qyd D) 64 210 Yf ZM
theorem Qwm (L:Int) (G:Rw) (M D:Int):RQ [I L, .vC Ap G,I M,I D]=
 cond (decide (D<M)) (cond (decide (0<=D)&&decide (D<(G.length:Int))) (cond (gA (nth [] G D.toNat) 3 !=0) (cond (decide (0<=V (V (L-gA (nth [] G D.toNat) 2)*gA (nth [] G D.toNat) 3))) (cond (decide (V (V (L-gA (nth [] G D.toNat) 2)*gA (nth [] G D.toNat) 3)<=gA (nth [] G D.toNat) 1)) (some (1,[I (V (gA (nth [] G D.toNat) 0+V (V (L-gA (nth [] G D.toNat) 2)*gA (nth [] G D.toNat) 3)))])) (some (0,[I L, .vC Ap G,I M,I (V (D+1))]))) (some (0,[I L, .vC Ap G,I M,I (V (D+1))]))) (some (0,[I L, .vC Ap G,I M,I (V (D+1))]))) (none)) (some (2,[])):=by kernel_rfl
theorem Ydf (L:Lp) (D:Rw) (N M O S T G:Int):Za9 L [.vC Ap D,I N,I M,I O,I S,I T,I G]=
 cond (G==M) (some [I 0]) ((L [I G, .vC Ap D,I (D.length:Int),I 0]).bind λo1=>
 cond (o1.1.beq 1) (some [jA o1.2 0]) (cond (o1.1.beq 2) (some [I (-1)]) (none))):=by kernel_rfl
def LA:=Am (RQ)
def Nz:=Za9 LA
theorem Zcs:Aj PG (C_cncref30_SamePulses_0):=Ao rfl trivial
theorem Zo9:Al PG (Z65 Nz):=rw2 (C:=Qyd LA) (fl fb Zcs) Zcs
def Qop:Sk:=⟨[TS.tup [(false,[ci]),(false,[ci])]],[(20000,179,cS)],[]⟩
def Z27:=qa 159 Qo7 Qop
def YE (D G I L:Fn):Cfg:=cf [Yen D,Z65 G,Q5 I,Qzi L]
def Z8 (D G I L:Fn):Fn:=An PG (YE D G I L) 64 159 Qo7 Qop
abbrev UH (Y:Fn) (K:Kf) (c:Cv) (Bw O X:Fn) (D:AC):Option (List AC):=
 (Y [I K.pa,I K.pb,I K.pc,I c.m0,I c.m1,I c.m2,I c.m3,I c.m4,I c.m5]).bind λL=>
 (Bw (A0 K.t++[I (V ((V (V (gA L 0+256)-1)).tdiv 256))])).bind λG=>
 (O (A0 K.t++[jA G 0])).bind λS=>
 cond (gA S 0 !=V ((V (V (gA L 0+256)-1)).tdiv 256)) ((X [.vC kPt (K.p.aD.map At),I c.next,I c.o0,I c.o1,B c.o2,B c.o3,B c.o4,D,I (V (gA G 0+1))]).bind λM=>
 (O (A0 K.t++[jA M 0])).bind λT=>
 some (jA T 0::jA M 1::Ac K c)) ((X [.vC kPt (K.p.aD.map At),I c.next,I c.o0,I c.o1,B c.o2,B c.o3,B c.o4,D,jA G 0]).bind λN=>
 (O (A0 K.t++[jA N 0])).bind λU=>
 some (jA U 0::jA N 1::Ac K c))
theorem Yc3 (D G L M:Fn) (K:Kf) (c:Cv):Z8 D G L M (Ac K c)=
 cond (K.closed) (UH M K c L G D (I K.len)) (UH M K c L G D (I K.set)):=by kernel_rfl
def Q9:=Z8 Qa Nz DQ GG
theorem Z4r:Aj PG (YE Qa Nz DQ GG):=Ao rfl ⟨Ydl,Zo9,Rl,Q0d,trivial⟩
theorem Z72:Al PG (Z27 Q9):=rw1 (C:=YE Qa Nz DQ GG) Z4r
def Zqc:=qa 109 Qo7 Qmn
def Qil (D G I L:Fn):Cfg:=cp [Z0m D,YO G,Zrt I,Z27 L] [162,161,160,159]
def Ye (D G I L:Fn):Fn:=An PG (Qil D G I L) 64 109 Qo7 Qmn
theorem Z2l (G S T U:Fn) (K:Kf) (c:Cv):Ye G S T U (Ac K c)=
 (U (Ac K c)).bind λD=>
 cond (bA D 90) (cond (gA D 52==V (gA D 0*256)) (cond (decide (gA D 1>=0)) ((T (jA D 1::cR 2 D)).bind λo8=>
 cond (decide (0<=gA D 1)&&decide (gA D 1<(↑(wA o8 42).length:Int))) (cond (Af (nth .vD (nth [] (wA o8 42) (gA D 1).toNat) 2)==gA o8 80) (cond (decide (0<=Af (nth .vD (nth [] (wA o8 42) (gA D 1).toNat) 2))&&decide (Af (nth .vD (nth [] (wA o8 42) (gA D 1).toNat) 2)<(↑(wA o8 36).length:Int))) (cond (Af (nth .vD (nth [] (wA o8 36) (Af (nth .vD (nth [] (wA o8 42) (gA D 1).toNat) 2)).toNat) 0)==5) (cond (gA o8 83==1) ((S (cR 1 o8)).bind λX=>
 some (jA o8 0::cR 0 X)) (some (jA o8 0::cR 1 o8))) (some (jA o8 0::cR 1 o8))) (none)) (some (jA o8 0::cR 1 o8))) (none)) (cond (bA D 38) (some (I 7::Dt (cR 2 D) [(78,I 7)])) (some (I 1::cR 2 D)))) (cond (gA D 63 !=0) ((G (jA D 0::cR 2 D)).bind λL=>
 cond (bA D 90) (some (I 6::cR 0 L)) (some (I 1::cR 0 L))) ((G (jA D 0::cR 2 D)).bind λN=>
 some (I 1::cR 0 N)))) (cond (gA D 63 !=0) ((G (jA D 0::cR 2 D)).bind λM=>
 cond (bA D 90) (some (I 6::cR 0 M)) (some (I 1::cR 0 M))) ((G (jA D 0::cR 2 D)).bind λO=>
 some (I 1::cR 0 O))):=by kernel_rfl
def J6:=Ye PT GH PH Q9
theorem Z5r:Aj PG (Qil PT GH PH Q9):=Ao rfl ⟨Zq7,Qp5,Z85,Z72,trivial⟩
theorem Ztb:Al PG (Zqc J6):=rw1 (C:=Qil PT GH PH Q9) Z5r
def Qj1:=qa 98 ZM Qkv
def Qcb:Fn:=An PG C_cncref30_SamePulses_0 64 98 ZM Qkv
theorem Z81 (D:Int):Qcb [I D]=
 some [I (V (D*256)),I 0,I 0,I (V (D*256)),I (V (D*256)),I (V (D*256))]:=by kernel_rfl
def Hb:=Qcb
theorem Zo3:Aj PG (C_cncref30_SamePulses_0):=Ao rfl trivial
theorem WE:Al PG (Qj1 Hb):=rw1 (C:=C_cncref30_SamePulses_0) Zo3
def Qro:Sk:=⟨[TS.v true (cc 9++[sa Aa]++cc 9++[sa Aa]++cc 9++[sa Aa]),TS.v true [ci,ci,ci],TS.v true [ci,ci,ci]],[],[]⟩
def Zp3:=qa 51 Qro ZM
def XO:Cfg:={cf []with unroll:=[3]}
def Q13:Fn:=An PG XO 64 51 Qro ZM
theorem Zgi (x0 x1 x2 x3 x4 x5 S x7 x8:Int) (x9:Rw) (V X Y a0 a1 a2 D a3 a4:Int) (a5:Rw) (a6 a7 a8 a9 b0 b1 G b2 b3:Int) (b4:Rw) (T N L U O M:Int):Q13 [I x0,I x1,I x2,I x3,I x4,I x5,I S,I x7,I x8, .vC Aa x9,I V,I X,I Y,I a0,I a1,I a2,I D,I a3,I a4, .vC Aa a5,I a6,I a7,I a8,I a9,I b0,I b1,I G,I b2,I b3, .vC Aa b4,I T,I N,I L,I U,I O,I M]=
 cond (T !=U) (cond (N !=O) (cond (L !=M) (some [I (mx (mx (mx 0 S) D) G)]) (some [I (mx (mx 0 S) D)])) (cond (L !=M) (some [I (mx (mx 0 S) G)]) (some [I (mx 0 S)]))) (cond (N !=O) (cond (L !=M) (some [I (mx (mx 0 D) G)]) (some [I (mx 0 D)])) (cond (L !=M) (some [I (mx 0 G)]) (some [I 0]))):=by kernel_rfl
def No:=Q13
theorem Ze0:Aj PG (XO):=Ao rfl trivial
theorem Zt6:Al PG (Zp3 No):=rw1 (C:=XO) Ze0
def Qhn:Sk:=⟨[TS.v true [ci,ci,ci],TS.v true [ci,ci,ci],TS.v true [ci,ci,ci],tf [ci]],[],[]⟩
def Yd7:=qa 50 Qhn Qay
def Qdr:Cfg:={cf []with unroll:=[2]}
def Zcv:Fn:=An PG Qdr 64 50 Qhn Qay
abbrev R8 (L M:Int) (D:AC) (N O:Int) (G:AC):Option (List AC):=
 cond (decide (L>M)) (some [D,G,I N]) (cond (decide (L<M)) (some [D,G,I (V (0-N))]) (some [D,G,I O]))
abbrev T3 (O S L M G N T:Int) (D:AC):Option (List AC):=
 cond (decide (O>S)) (R8 L M D G N (I G)) (cond (decide (O<S)) (R8 L M D G N (I (V (0-G)))) (R8 L M D G N (I T)))
theorem Zim (X G L T M N U O S D:Int):Zcv [I X,I G,I L,I T,I M,I N,I U,I O,I S,I D]=
 cond (decide (U>T)) (T3 O M S N D L G (I D)) (cond (decide (U<T)) (T3 O M S N D L G (I (V (0-D)))) (T3 O M S N D L G (I X))):=by kernel_rfl
def Oq:=Zcv
theorem Zy9:Aj PG (Qdr):=Ao rfl trivial
theorem Ybu:Al PG (Yd7 Oq):=rw1 (C:=Qdr) Zy9
def Qmw:Sk:=⟨[TS.v true (cc 10),tf [sc 20000 0]],[(20000,52,[sd 20000 10]++cc 5)],[(20000,104,Ap)]⟩
def Za:Sk:=⟨[TS.tup []],[(20000,52,[sd 20000 10]++cc 5)],[(20000,104,Ap)]⟩
def Q5d:=qa 48 Qmw Za
def VH:Fn:=An PG C_cncref30_SamePulses_0 64 48 Qmw Za
theorem Zbo (D:Rw) (x1 M x3 U x5 x6 x7 X Y L G N O S T:Int):VH [.vC Ap D,I x1,I M,I x3,I U,I x5,I x6,I x7,I X,I Y,I L,I G,I N,I O,I S,I T]=
 cond (decide ((D.length:Int)>0)) (cond (U !=0) (cond (decide (0<=V ((D.length:Int)-1))&&decide (V ((D.length:Int)-1)<(D.length:Int))) (cond (gA (nth [] D (V ((D.length:Int)-1)).toNat) 3==U) (cond (decide (0<=V ((D.length:Int)-1))&&decide (V ((D.length:Int)-1)<(D.length:Int))) (cond (gA (nth [] D (V ((D.length:Int)-1)).toNat) 7==X&&(gA (nth [] D (V ((D.length:Int)-1)).toNat) 8==Y&&(gA (nth [] D (V ((D.length:Int)-1)).toNat) 9==L&&true))) (cond (decide (0<=V ((D.length:Int)-1))&&decide (V ((D.length:Int)-1)<(D.length:Int))) (cond (decide (0<=V ((D.length:Int)-1))&&decide (V ((D.length:Int)-1)<(D.length:Int))) (some [.vC Ap (D.set (V ((D.length:Int)-1)).toNat [jA (nth [] D (V ((D.length:Int)-1)).toNat) 0,I (V (gA (nth [] D (V ((D.length:Int)-1)).toNat) 1+M)),jA (nth [] D (V ((D.length:Int)-1)).toNat) 2,jA (nth [] D (V ((D.length:Int)-1)).toNat) 3,jA (nth [] D (V ((D.length:Int)-1)).toNat) 4,jA (nth [] D (V ((D.length:Int)-1)).toNat) 5,jA (nth [] D (V ((D.length:Int)-1)).toNat) 6,jA (nth [] D (V ((D.length:Int)-1)).toNat) 7,jA (nth [] D (V ((D.length:Int)-1)).toNat) 8,jA (nth [] D (V ((D.length:Int)-1)).toNat) 9]),I (V (G+M)),I N,I O,I S,I T]) (none)) (none)) (cond (((D++[[I G,I M,I x3,I U,I x5,I x6,I x7,I X,I Y,I L]]).length*80).ble 140737488355328) (some [.vC Ap (D++[[I G,I M,I x3,I U,I x5,I x6,I x7,I X,I Y,I L]]),I (V (G+M)),I N,I O,I S,I T]) (none))) (none)) (cond (((D++[[I G,I M,I x3,I U,I x5,I x6,I x7,I X,I Y,I L]]).length*80).ble 140737488355328) (some [.vC Ap (D++[[I G,I M,I x3,I U,I x5,I x6,I x7,I X,I Y,I L]]),I (V (G+M)),I N,I O,I S,I T]) (none))) (none)) (cond (((D++[[I G,I M,I x3,I U,I x5,I x6,I x7,I X,I Y,I L]]).length*80).ble 140737488355328) (some [.vC Ap (D++[[I G,I M,I x3,I U,I x5,I x6,I x7,I X,I Y,I L]]),I (V (G+M)),I N,I O,I S,I T]) (none))) (cond (((D++[[I G,I M,I x3,I U,I x5,I x6,I x7,I X,I Y,I L]]).length*80).ble 140737488355328) (some [.vC Ap (D++[[I G,I M,I x3,I U,I x5,I x6,I x7,I X,I Y,I L]]),I (V (G+M)),I N,I O,I S,I T]) (none)):=by kernel_rfl
def M9:=VH
theorem Zr6:Aj PG (C_cncref30_SamePulses_0):=Ao rfl trivial
theorem Qtg:Al PG (Q5d M9):=rw1 (C:=C_cncref30_SamePulses_0) Zr6
def Qoq:Sk:=⟨[TS.v true [ci,ci,ci],TS.v true [ci,ci,ci],tf [ci],tf [ci],tf [sc 20000 0],tf [sc 20001 0],tf [sc 20002 0],tf [sc 20003 0]],[(20000,41,[ci,ci,ci]),(20001,3,[ci]),(20002,34,cc 9++[sa Aa]++cc 9++[sa Aa]++cc 9++[sa Aa]),(20003,105,[CS.clo 48 [] [(20004,0)]]),(20004,52,[sd 20000 10]++cc 5)],[(20000,104,Ap)]⟩
def Qjo:Sk:=⟨[TS.tup []],[(20000,41,[ci,ci,ci]),(20001,3,[ci]),(20002,34,cc 9++[sa Aa]++cc 9++[sa Aa]++cc 9++[sa Aa]),(20003,105,[CS.clo 48 [] [(20004,0)]]),(20004,52,[sd 20000 10]++cc 5)],[(20000,104,Ap)]⟩
def Q0p:=qa 49 Qoq Qjo
def Zz (D Pz G:Fn):Cfg:=cp [Zp3 D,Yd7 Pz,Q5d G] [48]
def Qqx (D Pz G:Fn):Fn:=An PG (Zz D Pz G) 64 49 Qoq Qjo
theorem Z45 (OH Pz FF:Fn) (x0:Rw) (x1 x2 x3 x4 x5 x6 x7 x8 x9 L M G N O S T U V X Y a0:Int) (a1:Rw) (a2 a3 a4 a5 a6 a7 a8 a9 b0:Int) (b1:Rw) (b2 b3 b4 b5 b6 b7 b8 b9 c0:Int) (c1:Rw) (c2 c3 c4 c5 c6:Int):Qqx OH Pz FF [.vC Ap x0,I x1,I x2,I x3,I x4,I x5,I x6,I x7,I x8,I x9,I L,I M,I G,I N,I O,I S,I T,I U,I V,I X,I Y,I a0, .vC Aa a1,I a2,I a3,I a4,I a5,I a6,I a7,I a8,I a9,I b0, .vC Aa b1,I b2,I b3,I b4,I b5,I b6,I b7,I b8,I b9,I c0, .vC Aa c1,I c2,I c3,I c4,I c5,I c6]=
 (Pz [I x9,I L,I M,I x1,I x2,I x3,I x4,I x5,I x6,I G]).bind λD=>
 (OH [I N,I O,I S,I T,I U,I V,I X,I Y,I a0, .vC Aa a1,I a2,I a3,I a4,I a5,I a6,I a7,I a8,I a9,I b0, .vC Aa b1,I b2,I b3,I b4,I b5,I b6,I b7,I b8,I b9,I c0, .vC Aa c1,I x9,I L,I M,jA D 0,jA D 1,jA D 2]).bind λo6=>
 cond (decide (gA o6 0>0)) ((FF [.vC Ap x0,I 0,jA o6 0,I x7,I 0,I x9,I L,I M,jA D 0,jA D 1,jA D 2,I c2,I c3,I c4,I c5,I c6]).bind λo7=>
 (FF [.vC Ap (wA o7 0),I 0,I x8,I x7,I G,jA D 0,jA D 1,jA D 2,jA D 0,jA D 1,jA D 2,jA o7 1,jA o7 2,jA o7 3,jA o7 4,jA o7 5]).bind λo8=>
 some [.vC Ap (wA o8 0),jA D 0,jA D 1,jA D 2,I G,I N,I O,I S,I T,I U,I V,I X,I Y,I a0, .vC Aa a1,I a2,I a3,I a4,I a5,I a6,I a7,I a8,I a9,I b0, .vC Aa b1,I b2,I b3,I b4,I b5,I b6,I b7,I b8,I b9,I c0, .vC Aa c1,jA o8 1,jA o8 2,jA o8 3,jA o8 4,jA o8 5]) ((FF [.vC Ap x0,I 0,I x8,I x7,I G,jA D 0,jA D 1,jA D 2,jA D 0,jA D 1,jA D 2,I c2,I c3,I c4,I c5,I c6]).bind λo9=>
 some [.vC Ap (wA o9 0),jA D 0,jA D 1,jA D 2,I G,I N,I O,I S,I T,I U,I V,I X,I Y,I a0, .vC Aa a1,I a2,I a3,I a4,I a5,I a6,I a7,I a8,I a9,I b0, .vC Aa b1,I b2,I b3,I b4,I b5,I b6,I b7,I b8,I b9,I c0, .vC Aa c1,jA o9 1,jA o9 2,jA o9 3,jA o9 4,jA o9 5]):=by kernel_rfl
def FJ:=Qqx No Oq M9
theorem Z4q:Aj PG (Zz No Oq M9):=Ao rfl ⟨Zt6,Ybu,Qtg,trivial⟩
theorem Q7d:Al PG (Q0p FJ):=rw1 (C:=Zz No Oq M9) Z4q
def Qah:Sk:=⟨[TS.v true [ci,ci,ci,sa Ag,sa kPt],tf [ci],tf [ci],tf [ci],tf [CS.clo 49 [] [(20000,0),(20001,0),(20002,0),(20003,0)]]],[(20000,41,[ci,ci,ci]),(20001,3,[ci]),(20002,34,cc 9++[sa Aa]++cc 9++[sa Aa]++cc 9++[sa Aa]),(20003,105,[CS.clo 48 [] [(20004,0)]]),(20004,52,[sd 20000 10]++cc 5)],[(20000,104,Ap)]⟩
def Z3h:=qa 52 Qah Qjo
def WF (D:Fn):Cfg:={cp [Q0p D] [49]with prom:=λb=>cond (Nat.beq b 4) ([(11,3)]) ([])}
def Q5c:Sk:=⟨[td,tf [ci],tf [ci],tf [ci],tf [CS.clo 49 [] [(20000,0),(20001,0),(20002,0),(20003,0)]],tf [sc 5 0],td,td,td,td,tf [ci],tf [sd 11 1]]++dd 9++[tf [sa Ag],tf [ci],tf [ci]]++dd 78,[(5,46,[ci,ci,ci,sa Ag,sa kPt]),(20000,41,[ci,ci,ci]),(20001,3,[ci]),(20002,34,cc 9++[sa Aa]++cc 9++[sa Aa]++cc 9++[sa Aa]),(20003,105,[CS.clo 48 [] [(20004,0)]]),(20004,52,[sd 20000 10]++cc 5)],[(11,3,Aa),(20000,104,Ap)]⟩
def Qs2:List (Ex×Sk):=[(Ex.exit 0,⟨[td,tf [ci],tf [ci],tf [ci],tf [CS.clo 49 [] [(20000,0),(20001,0),(20002,0),(20003,0)]],tf [sc 5 0],td,td,td,td,td,tf [sd 11 1]]++dd 90,[(5,46,[ci,ci,ci,sa Ag,sa kPt]),(20000,41,[ci,ci,ci]),(20001,3,[ci]),(20002,34,cc 9++[sa Aa]++cc 9++[sa Aa]++cc 9++[sa Aa]),(20003,105,[CS.clo 48 [] [(20004,0)]]),(20004,52,[sd 20000 10]++cc 5)],[(11,3,Aa),(20000,104,Ap)]⟩)]
def UO (D:Fn):Lp:=AL PG (WF D) 64 4 (AK PG 52 4) Q5c Qs2
def Q7s (D:Fn) (G:Lp):Cfg:=(WF D).loop 4 Q5c Qs2 G
def Q7y:Sk:=⟨[td,tf [ci],tf [ci],tf [ci],tf [CS.clo 49 [] [(20000,0),(20001,0),(20002,0),(20003,0)]],tf [sc 5 0],td,td,td,td,td,tf [sd 11 1]]++dd 26++[tf [ci],tf [ci]]++dd 62,[(5,46,[ci,ci,ci,sa Ag,sa kPt]),(20000,41,[ci,ci,ci]),(20001,3,[ci]),(20002,34,cc 9++[sa Aa]++cc 9++[sa Aa]++cc 9++[sa Aa]),(20003,105,[CS.clo 48 [] [(20004,0)]]),(20004,52,[sd 20000 10]++cc 5)],[(11,3,Aa),(20000,104,Ap)]⟩
def Q2z:List (Ex×Sk):=[(Ex.exit 2,⟨[td]++dd 101,[(20000,41,[ci,ci,ci]),(20001,3,[ci]),(20002,34,cc 9++[sa Aa]++cc 9++[sa Aa]++cc 9++[sa Aa]),(20003,105,[CS.clo 48 [] [(20004,0)]]),(20004,52,[sd 20000 10]++cc 5)],[(20000,104,Ap)]⟩)]
def Vc (D:Fn) (G:Lp):Lp:=AL PG (Q7s D G) 64 10 (AK PG 52 10) Q7y Q2z
def Q9o (G:Fn) (I D:Lp):Cfg:=(Q7s G I).loop 10 Q7y Q2z D
def Qej (G:Fn) (I D:Lp):Fn:=An PG (Q9o G I D) 64 52 Qah Qjo
theorem Q01 (BL:Fn) (v0 v1:Rw) (v2 v3 v4 v5:Int) (v6:Rw) (v7 v8 v9 v10 v11:Int) (v12 D:Rw) (G L M N O S v20 v21 v22 T v24 v25 U:Int) (v27:Rw) (v28 X v30 v31 Y v33 a0 v35 v36:Int) (v37:Rw) (v38 a1 v40 a2 v42 a3 v44 a4 v46:Int) (a5:Rw) (v48 v49 a6 v51 a7:Int):UO BL [.vC Aa v0, .vC Ap v1,I v2,I v3,I v4,I v5, .vC Ag v6,I v7,I v8,I v9,I v10,I v11, .vC Ag v12, .vC kPt D,I G,I L,I M,I N,I O,I S,I v20,I v21,I v22,I T,I v24,I v25,I U, .vC Aa v27,I v28,I X,I v30,I v31,I Y,I v33,I a0,I v35,I v36, .vC Aa v37,I v38,I a1,I v40,I a2,I v42,I a3,I v44,I a4,I v46, .vC Aa a5,I v48,I v49,I a6,I v51,I a7]=
 cond (decide (v8<v7)) (cond (decide (0<=v8)&&decide (v8<(v6.length:Int))) (cond (((v0++[[I v5]]).length*8).ble 140737488355328) (some (0,[.vC Aa (v0++[[I v5]]), .vC Ap v1,I v2,I v3,I v4,I (V (v5+gA (nth [] v6 v8.toNat) 3)), .vC Ag v6,I v7,I (V (v8+1)),I v9,I v10,I v11, .vC Ag v12, .vC kPt D,I G,I L,I M,I N,I O,I S,I v20,I v21,I v22,I T,I v24,I v25,I U, .vC Aa v27,I v28,I X,I v30,I v31,I Y,I v33,I a0,I v35,I v36, .vC Aa v37,I v38,I a1,I v40,I a2,I v42,I a3,I v44,I a4,I v46, .vC Aa a5,I v48,I v49,I a6,I v51,I a7])) (none)) (none)) (some (1,[.vC Aa v0, .vC Ap v1,I v2,I v3,I v4,I v9,I v10,I v11, .vC Ag v12, .vC kPt D,I G,I L,I M,I N,I O,I S,I v20,I v21,I v22,I T,I v24,I v25,I U, .vC Aa v27,I v28,I X,I v30,I v31,I Y,I v33,I a0,I v35,I v36, .vC Aa v37,I v38,I a1,I v40,I a2,I v42,I a3,I v44,I a4,I v46, .vC Aa a5,I v48,I v49,I a6,I v51,I a7])):=by kernel_rfl
abbrev RN (M:Bool) (BL:Fn) (v1:Rw) (N O G L:AC) (v12 Y a0 a1 a2 a3 a4 a5 v20 v21 v22 a6 v24:Int) (v25:Rw) (a7 v27 v28 a8 v30 v31 a9 v33 b0:Int) (v35:Rw) (v36 v37 v38 b1 v40 b2 v42 b3 v44:Int) (b4:Rw) (v46 b5 v48 v49 b6:Int) (v0:Rw) (v2 v3 v4 v5 v6 v7 v8 v9:Int) (v10 v11:Rw) (S T U X:AC):Option (Nat×List AC):=
 cond (M) ((BL [.vC Ap v1,S,T,U,N,O,G,X,L,I v12,I Y,I a0,I a1,I a2,I a3,I a4,I a5,I v20,I v21,I v22,I a6,I v24, .vC Aa v25,I a7,I v27,I v28,I a8,I v30,I v31,I a9,I v33,I b0, .vC Aa v35,I v36,I v37,I v38,I b1,I v40,I b2,I v42,I b3,I v44, .vC Aa b4,I v46,I b5,I v48,I v49,I b6]).bind λD=>
 some (0,[.vC Aa v0, .vC Ap (wA D 0),I v2,I v3,I v4,I v5,I (V (v6+1)),I v7,I v8,I v9, .vC Ag v10, .vC kPt v11,jA D 1,jA D 2,jA D 3,jA D 4,jA D 5,jA D 6,jA D 7,jA D 8,jA D 9,jA D 10,jA D 11,jA D 12,jA D 13, .vC Aa (wA D 14),jA D 15,jA D 16,jA D 17,jA D 18,jA D 19,jA D 20,jA D 21,jA D 22,jA D 23, .vC Aa (wA D 24),jA D 25,jA D 26,jA D 27,jA D 28,jA D 29,jA D 30,jA D 31,jA D 32,jA D 33, .vC Aa (wA D 34),jA D 35,jA D 36,jA D 37,jA D 38,jA D 39])) (none)
abbrev Qbt (v0 v1:Rw) (v2 v3 v4 v5 v6 v7 v8 v9:Int) (v10 v11:Rw) (v12 O S T U X Y a0 v20 v21 v22 a1 v24:Int) (v25:Rw) (a2 v27 v28 a3 v30 v31 a4 v33 a5:Int) (v35:Rw) (v36 v37 v38 a6 v40 a7 v42 a8 v44:Int) (a9:Rw) (v46 b0 v48 v49 b1:Int) (BL:Fn) (b4 L b8 b9 c0:Bool) (b5 b6 b7 M N D b2 G b3:AC):Option (Nat×List AC):=
 cond (b4) (cond (b4) (cond (L) (cond (b8) (some (0,[.vC Aa v0, .vC Ap v1,I v2,I v3,I v4,I v5,I (V (v6+1)),I v7,I v8,I v9, .vC Ag v10, .vC kPt v11,I v12,I O,I S,I T,I U,I X,I Y,I a0,I v20,I v21,I v22,I a1,I v24, .vC Aa v25,I a2,I v27,I v28,I a3,I v30,I v31,I a4,I v33,I a5, .vC Aa v35,I v36,I v37,I v38,I a6,I v40,I a7,I v42,I a8,I v44, .vC Aa a9,I v46,I b0,I v48,I v49,I b1])) (cond (b9) (cond (c0) (cond (decide (v4<0)) (RN L BL v1 M N D G v12 O S T U X Y a0 v20 v21 v22 a1 v24 v25 a2 v27 v28 a3 v30 v31 a4 v33 a5 v35 v36 v37 v38 a6 v40 a7 v42 a8 v44 a9 v46 b0 v48 v49 b1 v0 v2 v3 v4 v5 v6 v7 v8 v9 v10 v11 b5 b6 b7 b2) (RN L BL v1 M N D G v12 O S T U X Y a0 v20 v21 v22 a1 v24 v25 a2 v27 v28 a3 v30 v31 a4 v33 a5 v35 v36 v37 v38 a6 v40 a7 v42 a8 v44 a9 v46 b0 v48 v49 b1 v0 v2 v3 v4 v5 v6 v7 v8 v9 v10 v11 b5 b6 b7 b3)) (none)) (cond (decide (v4<0)) (RN L BL v1 M N D G v12 O S T U X Y a0 v20 v21 v22 a1 v24 v25 a2 v27 v28 a3 v30 v31 a4 v33 a5 v35 v36 v37 v38 a6 v40 a7 v42 a8 v44 a9 v46 b0 v48 v49 b1 v0 v2 v3 v4 v5 v6 v7 v8 v9 v10 v11 (I v7) (I v8) (I v9) b2) (RN L BL v1 M N D G v12 O S T U X Y a0 v20 v21 v22 a1 v24 v25 a2 v27 v28 a3 v30 v31 a4 v33 a5 v35 v36 v37 v38 a6 v40 a7 v42 a8 v44 a9 v46 b0 v48 v49 b1 v0 v2 v3 v4 v5 v6 v7 v8 v9 v10 v11 (I v7) (I v8) (I v9) b3)))) (none)) (none)) (none)
theorem Q94 (BL:Fn) (N4:Lp) (G v1:Rw) (L M v4 v5 D v7 v8 v9:Int) (v10 v11:Rw) (v12 N O S T U X Y v20 v21 v22 a0 v24:Int) (v25:Rw) (a1 v27 v28 a2 v30 v31 a3 v33 a4:Int) (v35:Rw) (v36 v37 v38 a5 v40 a6 v42 a7 v44:Int) (a8:Rw) (v46 a9 v48 v49 b0:Int):Vc BL N4 [.vC Aa G, .vC Ap v1,I L,I M,I v4,I v5,I D,I v7,I v8,I v9, .vC Ag v10, .vC kPt v11,I v12,I N,I O,I S,I T,I U,I X,I Y,I v20,I v21,I v22,I a0,I v24, .vC Aa v25,I a1,I v27,I v28,I a2,I v30,I v31,I a3,I v33,I a4, .vC Aa v35,I v36,I v37,I v38,I a5,I v40,I a6,I v42,I a7,I v44, .vC Aa a8,I v46,I a9,I v48,I v49,I b0]=
 cond (decide (D<v5)) (cond (decide (v4<0)) (Qbt G v1 L M v4 v5 D v7 v8 v9 v10 v11 v12 N O S T U X Y v20 v21 v22 a0 v24 v25 a1 v27 v28 a2 v30 v31 a3 v33 a4 v35 v36 v37 v38 a5 v40 a6 v42 a7 v44 a8 v46 a9 v48 v49 b0 BL (decide (0<=V (V ((v10.length:Int)-1)-D))&&decide (V (V ((v10.length:Int)-1)-D)<(G.length:Int))) (decide (0<=V (V ((v10.length:Int)-1)-D))&&decide (V (V ((v10.length:Int)-1)-D)<(v10.length:Int))) (decide (mx (Af (nth .vD (nth [] G (V (V ((v10.length:Int)-1)-D)).toNat) 0)) L>=mn (V (Af (nth .vD (nth [] G (V (V ((v10.length:Int)-1)-D)).toNat) 0)+Af (nth .vD (nth [] v10 (V (V ((v10.length:Int)-1)-D)).toNat) 3))) M)) (decide (V (V ((v10.length:Int)-1)-D)>0)) (decide (0<=V (V (V ((v10.length:Int)-1)-D)-1))&&decide (V (V (V ((v10.length:Int)-1)-D)-1)<(v10.length:Int))) (I (Af (nth .vD (nth [] v10 (V (V (V ((v10.length:Int)-1)-D)-1)).toNat) 0))) (I (Af (nth .vD (nth [] v10 (V (V (V ((v10.length:Int)-1)-D)-1)).toNat) 1))) (I (Af (nth .vD (nth [] v10 (V (V (V ((v10.length:Int)-1)-D)-1)).toNat) 2))) (I (Af (nth .vD (nth [] v10 (V (V ((v10.length:Int)-1)-D)).toNat) 0))) (I (Af (nth .vD (nth [] v10 (V (V ((v10.length:Int)-1)-D)).toNat) 1))) (I (Af (nth .vD (nth [] v10 (V (V ((v10.length:Int)-1)-D)).toNat) 2))) (I (mn (V (Af (nth .vD (nth [] G (V (V ((v10.length:Int)-1)-D)).toNat) 0)+Af (nth .vD (nth [] v10 (V (V ((v10.length:Int)-1)-D)).toNat) 3))) M)) (I (V (mn (V (Af (nth .vD (nth [] G (V (V ((v10.length:Int)-1)-D)).toNat) 0)+Af (nth .vD (nth [] v10 (V (V ((v10.length:Int)-1)-D)).toNat) 3))) M-mx (Af (nth .vD (nth [] G (V (V ((v10.length:Int)-1)-D)).toNat) 0)) L))) (I (mx (Af (nth .vD (nth [] G (V (V ((v10.length:Int)-1)-D)).toNat) 0)) L))) (Qbt G v1 L M v4 v5 D v7 v8 v9 v10 v11 v12 N O S T U X Y v20 v21 v22 a0 v24 v25 a1 v27 v28 a2 v30 v31 a3 v33 a4 v35 v36 v37 v38 a5 v40 a6 v42 a7 v44 a8 v46 a9 v48 v49 b0 BL (decide (0<=D)&&decide (D<(G.length:Int))) (decide (0<=D)&&decide (D<(v10.length:Int))) (decide (mx (gA (nth [] G D.toNat) 0) L>=mn (V (gA (nth [] G D.toNat) 0+gA (nth [] v10 D.toNat) 3)) M)) (decide (D>0)) (decide (0<=V (D-1))&&decide (V (D-1)<(v10.length:Int))) (jA (nth [] v10 (V (D-1)).toNat) 0) (jA (nth [] v10 (V (D-1)).toNat) 1) (jA (nth [] v10 (V (D-1)).toNat) 2) (jA (nth [] v10 D.toNat) 0) (jA (nth [] v10 D.toNat) 1) (jA (nth [] v10 D.toNat) 2) (I (mn (V (gA (nth [] G D.toNat) 0+gA (nth [] v10 D.toNat) 3)) M)) (I (V (mn (V (gA (nth [] G D.toNat) 0+gA (nth [] v10 D.toNat) 3)) M-mx (gA (nth [] G D.toNat) 0) L))) (I (mx (gA (nth [] G D.toNat) 0) L)))) (some (1,[.vC Ap v1,I v12,I N,I O,I S,I T,I U,I X,I Y,I v20,I v21,I v22,I a0,I v24, .vC Aa v25,I a1,I v27,I v28,I a2,I v30,I v31,I a3,I v33,I a4, .vC Aa v35,I v36,I v37,I v38,I a5,I v40,I a6,I v42,I a7,I v44, .vC Aa a8,I v46,I a9,I v48,I v49,I b0])):=by kernel_rfl
theorem Ztj (BL:Fn) (N4 L:Lp) (x0:Rw) (x1 x2 x3:Int) (x4 x5:Rw) (x6 x7 x8 x9 M N O S T U V X Y a0 a1 a2:Int) (a3:Rw) (a4 a5 a6 a7 a8 a9 b0 b1 b2:Int) (b3:Rw) (b4 b5 b6 b7 b8 b9 c0 c1 c2:Int) (c3:Rw) (c4 c5 c6 c7 c8:Int):Qej BL N4 L [.vC Ap x0,I x1,I x2,I x3, .vC Ag x4, .vC kPt x5,I x6,I x7,I x8,I x9,I M,I N,I O,I S,I T,I U,I V,I X,I Y,I a0,I a1,I a2, .vC Aa a3,I a4,I a5,I a6,I a7,I a8,I a9,I b0,I b1,I b2, .vC Aa b3,I b4,I b5,I b6,I b7,I b8,I b9,I c0,I c1,I c2, .vC Aa c3,I c4,I c5,I c6,I c7,I c8]=
 (N4 [.vC Aa [], .vC Ap x0,I x6,I x7,I x8,I 0, .vC Ag x4,I (x4.length:Int),I 0,I x1,I x2,I x3, .vC Ag x4, .vC kPt x5,I x9,I M,I N,I O,I S,I T,I U,I V,I X,I Y,I a0,I a1,I a2, .vC Aa a3,I a4,I a5,I a6,I a7,I a8,I a9,I b0,I b1,I b2, .vC Aa b3,I b4,I b5,I b6,I b7,I b8,I b9,I c0,I c1,I c2, .vC Aa c3,I c4,I c5,I c6,I c7,I c8]).bind λD=>
 cond (D.1.beq 1) ((L [.vC Aa (wA D.2 0), .vC Ap (wA D.2 1),jA D.2 2,jA D.2 3,jA D.2 4,I (↑(wA D.2 8).length:Int),I 0,jA D.2 5,jA D.2 6,jA D.2 7, .vC Ag (wA D.2 8), .vC kPt (wA D.2 9),jA D.2 10,jA D.2 11,jA D.2 12,jA D.2 13,jA D.2 14,jA D.2 15,jA D.2 16,jA D.2 17,jA D.2 18,jA D.2 19,jA D.2 20,jA D.2 21,jA D.2 22, .vC Aa (wA D.2 23),jA D.2 24,jA D.2 25,jA D.2 26,jA D.2 27,jA D.2 28,jA D.2 29,jA D.2 30,jA D.2 31,jA D.2 32, .vC Aa (wA D.2 33),jA D.2 34,jA D.2 35,jA D.2 36,jA D.2 37,jA D.2 38,jA D.2 39,jA D.2 40,jA D.2 41,jA D.2 42, .vC Aa (wA D.2 43),jA D.2 44,jA D.2 45,jA D.2 46,jA D.2 47,jA D.2 48]).bind λG=>
 cond (G.1.beq 1) (some [.vC Ap (wA G.2 0),jA G.2 1,jA G.2 2,jA G.2 3,jA G.2 4,jA G.2 5,jA G.2 6,jA G.2 7,jA G.2 8,jA G.2 9,jA G.2 10,jA G.2 11,jA G.2 12,jA G.2 13, .vC Aa (wA G.2 14),jA G.2 15,jA G.2 16,jA G.2 17,jA G.2 18,jA G.2 19,jA G.2 20,jA G.2 21,jA G.2 22,jA G.2 23, .vC Aa (wA G.2 24),jA G.2 25,jA G.2 26,jA G.2 27,jA G.2 28,jA G.2 29,jA G.2 30,jA G.2 31,jA G.2 32,jA G.2 33, .vC Aa (wA G.2 34),jA G.2 35,jA G.2 36,jA G.2 37,jA G.2 38,jA G.2 39]) (none)) (none):=by kernel_rfl
def OK:=Am (UO FJ)
def Qg6:=Am (Vc FJ OK)
def PZ:=Qej FJ OK Qg6
theorem Qoy:Aj PG (WF FJ):=Ao rfl ⟨Q7d,trivial⟩
theorem Zuj:Al PG (Z3h PZ):=rw2 (C:=Q9o FJ OK Qg6) (fl (fl fb Qoy) Qoy) Qoy
def Y0:Sk:=⟨[TS.v true [ci,ci,ci,sa Ag,sa kPt]],[],[]⟩
def Zah:=qa 17 Y0 ZM
def Qz8:Sk:=⟨[td,td,td,tf [ci],td,td,td,tf [sa Ag],tf [ci],tf [ci]]++dd 9,[],[]⟩
def Q3j:List (Ex×Sk):=[(Ex.exit 0,⟨[td,td,td,tf [ci]]++dd 15,[],[]⟩)]
def Se:Lp:=AL PG C_cncref30_SamePulses_0 64 3 (AK PG 17 3) Qz8 Q3j
def Zc3 (D:Lp):Cfg:=C_cncref30_SamePulses_0.loop 3 Qz8 Q3j D
def Q2f (D:Lp):Fn:=An PG (Zc3 D) 64 17 Y0 ZM
theorem Q31 (L:Int) (G:Rw) (M D:Int):Se [I L, .vC Ag G,I M,I D]=
 cond (decide (D<M)) (cond (decide (0<=D)&&decide (D<(G.length:Int))) (some (0,[I (V (L+gA (nth [] G D.toNat) 3)), .vC Ag G,I M,I (V (D+1))])) (none)) (some (1,[I L])):=by kernel_rfl
theorem Zqi (G:Lp) (L M N:Int) (D O:Rw):Q2f G [I L,I M,I N, .vC Ag D, .vC kPt O]=
 (G [I 0, .vC Ag D,I (D.length:Int),I 0]).bind λo1=>
 cond (o1.1.beq 1) (some [jA o1.2 0]) (none):=by kernel_rfl
def Su:=Am (Se)
def JK:=Q2f Su
theorem Q93:Aj PG (C_cncref30_SamePulses_0):=Ao rfl trivial
theorem Q7x:Al PG (Zah JK):=rw2 (C:=Zc3 Su) (fl fb Q93) Q93
def Qrs:Sk:=⟨[TS.v true [ci,ci,ci,sa Ag,sa kPt],TS.v true (cc 9++[sa Aa]++cc 9++[sa Aa]++cc 9++[sa Aa]),TS.v true [ci,ci,ci],tf [ci],tf [ci]],[],[]⟩
def XZ:Sk:=⟨[TS.v true ([sa Ap]++cc 5)],[],[]⟩
def Qwb:=qa 16 Qrs XZ
def Qim (D G I L M:Fn):Cfg:=cp [Z3h D,Q0p G,Q5d I,Ve L,Zah M] [52,49,48]
def Qhl (D G I L M:Fn):Fn:=An PG (Qim D G I L M) 64 16 Qrs XZ
theorem Zjn (Lx BL FF Cd Gh:Fn) (x0 x1 x2:Int) (x3 x4:Rw) (x5 x6 x7 x8 x9 M N O S:Int) (T:Rw) (U V X Y a0 a1 a2 a3 a4:Int) (a5:Rw) (a6 a7 a8 a9 b0 b1 b2 b3 b4:Int) (b5:Rw) (D G L b6 b7:Int):Qhl Lx BL FF Cd Gh [I x0,I x1,I x2, .vC Ag x3, .vC kPt x4,I x5,I x6,I x7,I x8,I x9,I M,I N,I O,I S, .vC Aa T,I U,I V,I X,I Y,I a0,I a1,I a2,I a3,I a4, .vC Aa a5,I a6,I a7,I a8,I a9,I b0,I b1,I b2,I b3,I b4, .vC Aa b5,I D,I G,I L,I b6,I b7]=
 (Gh [I x0,I x1,I x2, .vC Ag x3, .vC kPt x4]).bind λo5=>
 (Cd [I b6,jA o5 0]).bind λo6=>
 (Cd [I b7,jA o5 0]).bind λo7=>
 cond (decide (gA o6 0>gA o7 0)) ((Lx [.vC Ap [],I x0,I x1,I x2, .vC Ag x3, .vC kPt x4,I (mn (gA o6 0) (gA o7 0)),I (mx (gA o6 0) (gA o7 0)),I (-1),I D,I G,I L,I (-1),I x5,I x6,I x7,I x8,I x9,I M,I N,I O,I S, .vC Aa T,I U,I V,I X,I Y,I a0,I a1,I a2,I a3,I a4, .vC Aa a5,I a6,I a7,I a8,I a9,I b0,I b1,I b2,I b3,I b4, .vC Aa b5,I 0,jA o6 0,I D,I G,I L]).bind λo8=>
 some [.vC Ap (wA o8 0),jA o8 35,jA o8 36,jA o8 37,jA o8 38,jA o8 39]) ((Lx [.vC Ap [],I x0,I x1,I x2, .vC Ag x3, .vC kPt x4,I (mn (gA o6 0) (gA o7 0)),I (mx (gA o6 0) (gA o7 0)),I 1,I D,I G,I L,I 1,I x5,I x6,I x7,I x8,I x9,I M,I N,I O,I S, .vC Aa T,I U,I V,I X,I Y,I a0,I a1,I a2,I a3,I a4, .vC Aa a5,I a6,I a7,I a8,I a9,I b0,I b1,I b2,I b3,I b4, .vC Aa b5,I 0,jA o6 0,I D,I G,I L]).bind λo9=>
 some [.vC Ap (wA o9 0),jA o9 35,jA o9 36,jA o9 37,jA o9 38,jA o9 39]):=by kernel_rfl
def J0:=Qhl PZ FJ M9 Fi JK
theorem Zlr:Aj PG (Qim PZ FJ M9 Fi JK):=Ao rfl ⟨Zuj,Q7d,Qtg,S5,Q7x,trivial⟩
theorem Qtm:Al PG (Qwb J0):=rw1 (C:=Qim PZ FJ M9 Fi JK) Zlr
def Ydu:=qa 208 Yf Qay
def Za2:Sk:=⟨[td,tf [ci],tf [sc 2 0],td,tf [sc 4 0]]++dd 8++[tf [sa Ap],tf [ci],tf [ci]]++dd 29,[(2,52,[sa Ap]++cc 5),(4,41,[ci,ci,ci])],[]⟩
def Qtz:List (Ex×Sk):=[(Ex.ret,⟨[td,td,td,td,tf [sc 4 0]]++dd 40,[(4,41,[ci,ci,ci])],[]⟩),(Ex.exit 0,⟨[td,td,tf [sc 2 0],td,tf [sc 4 0]]++dd 40,[(2,52,[sa Ap]++cc 5),(4,41,[ci,ci,ci])],[]⟩)]
def Sx:Lp:=AL PG C_cncref30_SamePulses_0 64 3 (AK PG 208 3) Za2 Qtz
def Zdq (D:Lp):Cfg:=C_cncref30_SamePulses_0.loop 3 Za2 Qtz D
def Qmj (D:Lp):Fn:=An PG (Zdq D) 64 208 Yf Qay
theorem Z6m (L:Int) (G:Rw) (M D:Int) (N:Rw) (O S T U X v10 v11 v12:Int):Sx [I L, .vC Ap G,I M,I D, .vC Ap N,I O,I S,I T,I U,I X,I v10,I v11,I v12]=
 cond (decide (D<M)) (cond (decide (0<=D)&&decide (D<(G.length:Int))) (cond (decide (L>V (gA (nth [] G D.toNat) 0+gA (nth [] G D.toNat) 1))) (some (0,[I L, .vC Ap G,I M,I (V (D+1)), .vC Ap N,I O,I S,I T,I U,I X,I v10,I v11,I v12])) (cond (gA (nth [] G D.toNat) 3 !=0) (some (1,[jA (nth [] G D.toNat) 7,jA (nth [] G D.toNat) 8,jA (nth [] G D.toNat) 9])) (cond (L==V (gA (nth [] G D.toNat) 0+gA (nth [] G D.toNat) 1)) (some (1,[jA (nth [] G D.toNat) 7,jA (nth [] G D.toNat) 8,jA (nth [] G D.toNat) 9])) (some (1,[jA (nth [] G D.toNat) 4,jA (nth [] G D.toNat) 5,jA (nth [] G D.toNat) 6]))))) (none)) (some (2,[.vC Ap N,I O,I S,I T,I U,I X,I v10,I v11,I v12])):=by kernel_rfl
theorem Z75 (L:Lp) (D:Rw) (G M N O S T:Int):Qmj L [.vC Ap D,I G,I M,I N,I O,I S,I T]=
 (L [I (mx 0 (mn T G)), .vC Ap D,I (D.length:Int),I 0, .vC Ap D,I G,I M,I N,I O,I S,I 0,I 0,I 0]).bind λo1=>
 cond (o1.1.beq 1) (some [jA o1.2 0,jA o1.2 1,jA o1.2 2]) (cond (o1.1.beq 2) (some [jA o1.2 3,jA o1.2 4,jA o1.2 5]) (none)):=by kernel_rfl
def Zb9:=Am (Sx)
def TG:=Qmj Zb9
theorem Zdk:Aj PG (C_cncref30_SamePulses_0):=Ao rfl trivial
theorem Zxj:Al PG (Ydu TG):=rw2 (C:=Zdq Zb9) (fl fb Zdk) Zdk
def Zm8:=qa 207 Yf Qjj
def Qpc (D G:Fn):Cfg:=cf [Qqh D,Ve G]
def Qfc (D G:Fn):Fn:=An PG (Qpc D G) 64 207 Yf Qjj
theorem Zrw (L M:Fn) (D:Rw) (G N O S T U:Int):Qfc L M [.vC Ap D,I G,I N,I O,I S,I T,I U]=
 (M [I U,I G]).bind λo2=>
 (L [.vC Ap D,I G,I N,I O,I S,I T,jA o2 0]).bind λo3=>
 cond (decide (gA o3 0<0)) (some [B false]) (cond (decide (0<=gA o3 0)&&decide (gA o3 0<(D.length:Int))) (cond (gA (nth [] D (gA o3 0).toNat) 3==0) (cond (decide (gA (nth [] D (gA o3 0).toNat) 0<gA o2 0)) (some [B (decide (gA o2 0<V (gA (nth [] D (gA o3 0).toNat) 0+gA (nth [] D (gA o3 0).toNat) 1)))]) (some [B false])) (some [B false])) (none)):=by kernel_rfl
def Qy:=Qfc GM Fi
theorem Zj2:Aj PG (Qpc GM Fi):=Ao rfl ⟨Qjy,S5,trivial⟩
theorem Zs8:Al PG (Zm8 Qy):=rw1 (C:=Qpc GM Fi) Zj2
def Q3q:=qa 103 Qkv Qjj
def Qcn:Fn:=An PG C_cncref30_SamePulses_0 64 103 Qkv Qjj
theorem Z3l (D G L M N O:Int):Qcn [I D,I G,I L,I M,I N,I O]=
 cond (G==0) (cond (L==0) (cond (M==D) (some [B (N==D)]) (some [B false])) (some [B false])) (some [B false]):=by kernel_rfl
def HF:=Qcn
theorem Zn6:Aj PG (C_cncref30_SamePulses_0):=Ao rfl trivial
theorem Qzw:Al PG (Q3q HF):=rw1 (C:=C_cncref30_SamePulses_0) Zn6
def Zr:Sk:=⟨[TS.v true [ci,ci,ci,sa Ag,sa kPt],TS.v true (cc 9++[sa Aa]++cc 9++[sa Aa]++cc 9++[sa Aa]),TS.v true ([sa Ap]++cc 5),TS.v true (cc 6),tf [ci]],[],[]⟩
def Qc9:Sk:=⟨[TS.tup [(true,[sa Ap]++cc 5),(true,cc 6),(false,[sb])]],[],[]⟩
def Qy4:=qa 158 Zr Qc9
def Qc3 (D G I L M N:Fn):Cfg:={cf [Qj1 D,Qwb G,Q5 I,Ydu L,Zm8 M,Q3q N]with ownBut:=[10]}
def Qa1 (D G I L M N:Fn):Fn:=An PG (Qc3 D G I L M N) 64 158 Zr Qc9
theorem Yd6 (X Y Bw NP Ov BP:Fn) (L M N O S T U:Int) (p:Pth) (x:Ax3) (t:Trk):Qa1 X Y Bw NP Ov BP (pxt p x t [I L,I M,I N,I O,I S,I T,I U])=
 (BP [I L,I M,I N,I O,I S,I T]).bind λo6=>
 cond (!bA o6 0) (some [.vC Ap [],I 0,I 0,I 0,I 0,I 0,I 0,I 0,I 0,I 0,I 0,I 0,B false]) ((Ov (A0 t++[I (V (L.tdiv 256))])).bind λo7=>
 cond (bA o7 0) (some [.vC Ap [],I 0,I 0,I 0,I 0,I 0,I 0,I 0,I 0,I 0,I 0,I 0,B false]) ((NP (A0 t++[I (V (L.tdiv 256))])).bind λo8=>
 (Bw (A0 t++[I (V (L.tdiv 256))])).bind λo9=>
 (Y (Bk p++(AI x++[jA o8 0,jA o8 1,jA o8 2,jA o9 0,I U]))).bind λD=>
 (X [I 0]).bind λG=>
 some [.vC Ap (wA D 0),jA D 1,jA D 2,jA D 3,jA D 4,jA D 5,jA G 0,jA G 1,jA G 2,jA G 3,jA G 4,jA G 5,B true])):=by kernel_rfl
def Kr:=Qa1 Hb J0 DQ TG Qy HF
theorem Zqs:Aj PG (Qc3 Hb J0 DQ TG Qy HF):=Ao rfl ⟨WE,Qtm,Rl,Zxj,Zs8,Qzw,trivial⟩
theorem Q1v:Al PG (Qy4 Kr):=rw1 (C:=Qc3 Hb J0 DQ TG Qy HF) Zqs
def Ya:Sk:=⟨[TS.tup [(false,[ci]),(false,[sb])]],[(20000,179,cS)],[]⟩
def Zrz:=qa 108 Qo7 Ya
def WP (D G:Fn):Cfg:=cf [Qy4 D,Qdp G]
def SL (D G:Fn):Fn:=An PG (WP D G) 64 108 Qo7 Ya
abbrev Qe (M:Fn) (K:Kf) (c:Cv) (G L:AC):Option (List AC):=
 (M (pxt K.p K.x K.t [I c.m0,I c.m1,I c.m2,I c.m3,I c.m4,I c.m5,L])).bind λD=>
 cond (!bA D 12) (some (G::B true::Ac K c)) (cond (c.way==1) (some (G::B true::Dt (Ac K c) [(44, .vC Ap (wA D 0)),(45,jA D 1),(46,jA D 2),(47,jA D 3),(48,jA D 4),(49,jA D 5),(50,jA D 6),(51,jA D 7),(52,jA D 8),(53,jA D 9),(54,jA D 10),(55,jA D 11),(71,I 2),(89,B true)])) (some (G::B true::Dt (Ac K c) [(44, .vC Ap (wA D 0)),(45,jA D 1),(46,jA D 2),(47,jA D 3),(48,jA D 4),(49,jA D 5),(50,jA D 6),(51,jA D 7),(52,jA D 8),(53,jA D 9),(54,jA D 10),(55,jA D 11),(58,B true),(71,I 0),(89,B true)])))
abbrev Uf (c:Cv) (L:Fn) (K:Kf) (M:Fn) (D:AC):Option (List AC):=
 cond (!c.aM) ((L (pxt K.p K.x K.t [I K.pa,I K.pb,I K.pc,I c.o0,I c.o1,B c.o2,B c.o3,B c.o4,I c.m0,I c.m1,I c.m2,I c.m3,I c.m4,I c.m5,I K.t.length])).bind λo8=>
 some (D::B true::Ac K {c with m0:=gA o8 0,m1:=gA o8 1,m2:=gA o8 2,m3:=gA o8 3,m4:=gA o8 4,m5:=gA o8 5})) (cond (c.m0 !=V (K.t.length*256)) ((L (pxt K.p K.x K.t [I K.pa,I K.pb,I K.pc,I c.o0,I c.o1,B c.o2,B c.o3,B c.o4,I c.m0,I c.m1,I c.m2,I c.m3,I c.m4,I c.m5,I K.t.length])).bind λG=>
 some (D::B true::Ac K {c with m0:=gA G 0,m1:=gA G 1,m2:=gA G 2,m3:=gA G 3,m4:=gA G 4,m5:=gA G 5})) (cond (c.way==2) (Qe M K c D (I K.len)) (Qe M K c D (I c.home))))
theorem Qz6 (D G:Fn) (K:Kf) (c:Cv):SL D G (Ac K c)=
 cond (c.way==0) (some (I 0::B false::Ac K c)) (cond (c.way==2) (Uf c G K D (I 5)) (Uf c G K D (I 4))):=by kernel_rfl
def IX:=SL Kr Fs
theorem Zg3:Aj PG (WP Kr Fs):=Ao rfl ⟨Q1v,Qr4,trivial⟩
theorem Z4x:Al PG (Zrz IX):=rw1 (C:=WP Kr Fs) Zg3
def Zzb:=qa 107 Qo7 Ya
def Qi3 (D:Fn):Cfg:=cp [Qva D] [156]
def Qpb (D:Fn):Fn:=An PG (Qi3 D) 64 107 Qo7 Ya
theorem Zue (D:Fn) (K:Kf) (c:Cv):Qpb D (Ac K c)=
 cond (!c.on) (some (I 0::B false::Ac K c)) ((D (Ac K c)).bind λo1=>
 some (jA o1 0::B true::cR 1 o1)):=by kernel_rfl
def LO:=Qpb KD
theorem Z6k:Aj PG (Qi3 KD):=Ao rfl ⟨Zc0,trivial⟩
theorem Z58:Al PG (Zzb LO):=rw1 (C:=Qi3 KD) Z6k
def Zzp:=qa 106 Qo7 Ya
def Qj3:Fn:=An PG C_cncref30_SamePulses_0 64 106 Qo7 Ya
theorem Zno (K:Kf) (c:Cv):Qj3 (Ac K c)=
 cond (!c.aH) (some (I 0::B false::Ac K c)) (cond (!c.aM) (some (I 0::B false::Ac K c)) (some (I 8::B true::Ac K {c with aI:=8}))):=by kernel_rfl
def LL:=Qj3
theorem Zub:Aj PG (C_cncref30_SamePulses_0):=Ao rfl trivial
theorem Zhn:Al PG (Zzp LL):=rw1 (C:=C_cncref30_SamePulses_0) Zub
def Zr0:=qa 105 Qo7 Ya
def VY:Fn:=An PG C_cncref30_SamePulses_0 64 105 Qo7 Ya
theorem Zgj (K:Kf) (c:Cv):VY (Ac K c)=
 some (I c.aI::B (c.aI !=0)::Ac K c):=by kernel_rfl
def Lu:=VY
theorem Z5q:Aj PG (C_cncref30_SamePulses_0):=Ao rfl trivial
theorem Zun:Al PG (Zr0 Lu):=rw1 (C:=C_cncref30_SamePulses_0) Z5q
def Zsc:=qa 104 Qo7 Ya
def Qk4 (D G:Fn):Cfg:=cr [Qj1 D,Qh G] [102] [102]
def Qkr (D G:Fn):Fn:=An PG (Qk4 D G) 64 104 Qo7 Ya
theorem Zts (D G:Fn) (K:Kf) (c:Cv):Qkr D G (Ac K c)=
 cond (c.g0 !=2) (some (I 0::B false::Ac K c)) ((G (Ac K c)).bind λo2=>
 (D [jA o2 0]).bind λo3=>
 some (I 6::B true::Ac K {c with m0:=gA o3 0,m1:=gA o3 1,m2:=gA o3 2,m3:=gA o3 3,m4:=gA o3 4,m5:=gA o3 5})):=by kernel_rfl
def Ls:=Qkr Hb CZ
theorem Zzy:Aj PG (Qk4 Hb CZ):=GJ (rs:=[102]) rfl ⟨WE,Qm,trivial⟩ rfl (Ca rfl (EI G4))
theorem Zp2:Al PG (Zsc Ls):=rw1 (C:=Qk4 Hb CZ) Zzy
def Qqd:Sk:=⟨[TS.v true [ci,ci,ci,ci],tf [ci]],[],[]⟩
def Yc6:=qa 101 Qqd XA
def Yg:Fn:=An PG C_cncref30_SamePulses_0 64 101 Qqd XA
theorem Zu2 (L G D N M:Int):Yg [I L,I G,I D,I N,I M]=
 cond (decide (G<D)) (some [I L,I (mn (V (G+M)) D),I D,I (V (N+V (L*mn (V (G+M)) D)))]) (some [I L,I (mx (V (G-M)) D),I D,I (V (N+V (L*mx (V (G-M)) D)))]):=by kernel_rfl
def Ka:=Yg
theorem Yb9:Aj PG (C_cncref30_SamePulses_0):=Ao rfl trivial
theorem Zgv:Al PG (Yc6 Ka):=rw1 (C:=C_cncref30_SamePulses_0) Yb9
def Zyu (M:Fn):Nat×Spec:=(100,Em Qo7 Qjj M)
def PQ (D:Fn):Cfg:=cr [Um D] [155] [155]
def VA (D:Fn):Fn:=LD PG (PQ D) 64 100 Qo7 Qjj
theorem Ze7 (D:Fn) (K:Kf) (c:Cv):VA D (Ac K c)=
 (D (Ac K c)).bind λo1=>
 cond (bA o1 7) (cond (decide (0<=gA o1 4)&&decide (gA o1 4<((K.aA.map Ah).length:Int))) (cond (gA (nth [] (K.aA.map Ah) (gA o1 4).toNat) 0==6) (some [B (c.y0==gA o1 4)]) (some [B false])) (none)) (some [B false]):=by kernel_rfl
def K3:=VA EG
theorem Zsu:Aj PG (PQ EG):=GJ (rs:=[155]) rfl ⟨Ux,trivial⟩ rfl (EI G4)
theorem Zoa (vars : List AC) (R : Type) (K : TV -> Mem -> Option R) : EH PG (PQ EG) 64 100 [TV.v false [AC.ptr 20000 0]] ⟨[(20000, (⟨179, (cR 0 vars)⟩ : Box))], []⟩ K = EH PG (PQ EG) 64 100 [TV.v false [AC.ptr 20000 0]] ⟨[(20000, (⟨179, (cR 0 vars)⟩ : Box))], []⟩ (λv _ => K v ⟨[(20000, (⟨179, (cR 0 vars)⟩ : Box))], []⟩) := db (b := ((EG (cR 0 vars)).bind λo1 =>
 cond (bA o1 7) (cond (decide (0<=gA o1 4)&&decide (gA o1 4<(↑(wA vars 35).length:Int))) (cond (Af (nth .vD (nth [] (wA vars 35) (gA o1 4).toNat) 0)==6) (K (TV.v false [B ((gA vars 79)==gA o1 4)]) ⟨[(20000,(⟨179,(cR 0 vars)⟩:Box))],[]⟩) (K (TV.v false [B false]) ⟨[(20000,(⟨179,(cR 0 vars)⟩:Box))],[]⟩)) (none)) (K (TV.v false [B false]) ⟨[(20000,(⟨179,(cR 0 vars)⟩:Box))],[]⟩))) (by kernel_rfl) (Eq.symm (by kernel_rfl))
theorem Ziq:Al PG (100,Em Qo7 Qjj K3):=Qg (C:=PQ EG) (L:=64) (by kernel_rfl) (FnOK.bare rfl rfl rfl) Zsu eqOk Gn (by kernel_rfl) (by kernel_rfl) (λvars R K=>Zoa vars R K)
def Zx8 (M:Fn):Nat×Spec:=(197,Em Qdz ZM M)
def Q8k:Sk:=⟨[td,tf [ci],td,td,td,tf [ci],tf [ci]]++dd 6++[tf [sa Ag],tf [ci],tf [ci]]++dd 18,[(20000,179,cS)],[]⟩
def Qsz:List (Ex×Sk):=[(Ex.exit 0,⟨dd 6++[tf [ci]]++dd 27,[(20000,179,cS)],[]⟩)]
def KY:Lp:=AL PG C_cncref30_SamePulses_0 64 3 (AK PG 197 3) Q8k Qsz
def UK (D:Lp):Cfg:=C_cncref30_SamePulses_0.loop 3 Q8k Qsz D
def Zh (D:Lp):Fn:=LD PG (UK D) 64 197 Qdz ZM
theorem Zkb (M L O:Int) (G:Rw) (N D:Int) (K:Kf) (c:Cv):KY (I M::I L::I O:: .vC Ag G::I N::I D::Ac K c)=
 cond (decide (D<N)) (cond (decide (0<=D)&&decide (D<(G.length:Int))) (cond (decide (V (L+gA (nth [] G D.toNat) 3)<=M)) (cond (gA (nth [] G D.toNat) 6 !=0) (some (0,(I M::I (V (L+gA (nth [] G D.toNat) 3))::I (V (L+gA (nth [] G D.toNat) 3)):: .vC Ag G::I N::I (V (D+1))::Ac K c))) (some (0,(I M::I (V (L+gA (nth [] G D.toNat) 3))::I O:: .vC Ag G::I N::I (V (D+1))::Ac K c)))) (some (0,(I M::I (V (L+gA (nth [] G D.toNat) 3))::I O:: .vC Ag G::I N::I (V (D+1))::Ac K c)))) (none)) (some (1,(I O::Ac K c))):=by kernel_rfl
theorem Zs1 (D:Lp) (G:Int) (K:Kf) (c:Cv):Zh D (I G::Ac K c)=
 (D (I G::I 0::I 0:: .vC Ag (K.p.aF.map Aw)::I ((K.p.aF.map Aw).length:Int)::I 0::Ac K c)).bind λo1=>
 cond (o1.1.beq 1) (some [jA o1.2 0]) (none):=by kernel_rfl
def LG:=Am (KY)
def LV:=Zh LG
theorem Qyk:Aj PG (C_cncref30_SamePulses_0):=Ao rfl trivial
theorem Yem (M L O:Int) (G:Rw) (N D:Int) (o:List AC):KY (I M::I L::I O:: .vC Ag G::I N::I D::cR 0 o)=
 cond (decide (D<N)) (cond (decide (0<=D)&&decide (D<(G.length:Int))) (cond (decide (V (L+gA (nth [] G D.toNat) 3)<=M)) (cond (gA (nth [] G D.toNat) 6 !=0) (some (0,(I M::I (V (L+gA (nth [] G D.toNat) 3))::I (V (L+gA (nth [] G D.toNat) 3)):: .vC Ag G::I N::I (V (D+1))::cR 0 o))) (some (0,(I M::I (V (L+gA (nth [] G D.toNat) 3))::I O:: .vC Ag G::I N::I (V (D+1))::cR 0 o)))) (some (0,(I M::I (V (L+gA (nth [] G D.toNat) 3))::I O:: .vC Ag G::I N::I (V (D+1))::cR 0 o)))) (none)) (some (1,(I O::cR 0 o))):=by kernel_rfl
theorem Ua (o:List AC) (D:Rw) (L M:Int):∀(n:Nat) (N O G:Int) (a:Nat×List AC),CA KY n (I L::I N::I O:: .vC Ag D::I M::I G::cR 0 o)=some a->∃r:Int,a=(1,I r::cR 0 o)
  |0,_,_,_,_,h=>by cases h
  |n+1,N,O,G,a,h=>by
    have h:((KY (I L::I N::I O:: .vC Ag D::I M::I G::cR 0 o)).bind λq=>if q.1=0 then CA KY n q.2 else some q)=some a:=h;rw[Yem]at h;cases S:decide (G<M)<;>rw[S]at h
    · injection h with h
      exact⟨O,h.symm⟩
    cases T:(decide (0<=G)&&decide (G<(D.length:Int)))<;>rw[T]at h
    · cases h
    cases U:decide (V (N+gA (nth [] D G.toNat) 3)<=L)<;>rw[U]at h
    · exact Ua o D L M n _ _ _ a h
    cases X:(gA (nth [] D G.toNat) 6 !=0)<;>rw[X]at h
    · exact Ua o D L M n _ _ _ a h
    · exact Ua o D L M n _ _ _ a h
theorem Zp5 (vars:List AC) (R:Type) (K:TV->Mem->Option R):EH PG (UK LG) 64 197 [TV.v false [AC.ptr 20000 0],TV.v false [jA vars 0]] ⟨[(20000,(⟨179,cR 1 vars⟩:Box))],[]⟩ K=EH PG (UK LG) 64 197 [TV.v false [AC.ptr 20000 0],TV.v false [jA vars 0]] ⟨[(20000,(⟨179,cR 1 vars⟩:Box))],[]⟩ (λv _=>K v ⟨[(20000,(⟨179,cR 1 vars⟩:Box))],[]⟩):=
  db (b:=(LG (jA vars 0::I 0::I 0:: .vC Ag (wA vars 41)::I ((wA vars 41).length:Int)::I 0::cR 1 vars)).bind λo=>cond (o.1.beq 1) (K (TV.v false [jA o.2 0]) ⟨[(20000,(⟨179,cR 1 o.2⟩:Box))],[]⟩) (none)) (by kernel_rfl)
  (db (b := (LG (jA vars 0 :: I 0 :: I 0 :: .vC Ag (wA vars 41) :: I ((wA vars 41).length : Int) :: I 0 :: cR 1 vars)).bind λo => cond (o.1.beq 1) (K (TV.v false [jA o.2 0]) ⟨[(20000, (⟨179, cR 1 vars⟩ : Box))], []⟩) (none)) (by
    cases h:LG (jA vars 0::I 0::I 0:: .vC Ag (wA vars 41)::I ((wA vars 41).length:Int)::I 0::cR 1 vars)with
    |none=>rfl
    |some a=>
      obtain⟨n,D⟩:=P2 h;obtain⟨r,rfl⟩:=Ua (cR 1 vars) (wA vars 41) (gA vars 0) _ n 0 0 0 a D;rfl) (by kernel_rfl))
theorem Zvb:Al PG (197,Em Qdz ZM LV):=Qg (C:=UK LG) (L:=64) (by kernel_rfl) ((FnOK.bare rfl rfl rfl).loop Qyk eqOk Gn (by kernel_rfl) (by kernel_rfl)) Qyk eqOk Gn (by kernel_rfl) (by kernel_rfl) (λvars R K=>Zp5 vars R K)
def Zny:=qa 154 Qdz Qmk
def Qrq (D G I L:Fn):Cfg:=cr [Qy4 D,Zx8 G,Pc I,Um L] [197,163,155] [197,163,155]
def Qdn (D G I L:Fn):Fn:=An PG (Qrq D G I L) 64 154 Qdz Qmk
theorem Zfj (M N O S:Fn) (G:Int) (K:Kf) (c:Cv):Qdn M N O S (I G::Ac K c)=
 (S (Ac K c)).bind λo4=>
 cond (!bA o4 7) (some (Ac K c)) (cond (decide (G<=0)) (some (Ac K c)) (cond (c.way !=0) (some (Ac K c)) (cond (c.on) (some (Ac K c)) (cond (c.aI !=0) (some (Ac K c)) (cond (!c.o2) (some (Ac K c)) (cond (gA o4 6 !=0) (some (Ac K c)) ((O (Ac K c)).bind λL=>
 (N (jA L 0::Ac K c)).bind λo6=>
 (M (pxt K.p K.x K.t [I c.m0,I c.m1,I c.m2,I c.m3,I c.m4,I c.m5,I (mx (mx 0 (V (gA L 0-G))) (gA o6 0))])).bind λD=>
 cond (!bA D 12) (some (Ac K c)) (some (Dt (Ac K c) [(44, .vC Ap (wA D 0)),(45,jA D 1),(46,jA D 2),(47,jA D 3),(48,jA D 4),(49,jA D 5),(50,jA D 6),(51,jA D 7),(52,jA D 8),(53,jA D 9),(54,jA D 10),(55,jA D 11),(58,B false),(71,I 1),(72,jA L 0)]))))))))):=by kernel_rfl
def Q7:=Qdn Kr LV C0 EG
theorem Zk7:Aj PG (Qrq Kr LV C0 EG):=GJ (rs:=[197,163,155]) rfl ⟨Q1v,Zvb,PB,Ux,trivial⟩ rfl (Ca rfl (EI (EI (EI G4))))
theorem Ydz:Al PG (Zny Q7):=rw1 (C:=Qrq Kr LV C0 EG) Zk7
attribute [go_sem] Ur Wz Vo T0 Vs Wk Xn Zp Pi L7 RZ R9 Qki T_ UH R8 T3 RN Qbt Qe Uf
end Go.Bm
