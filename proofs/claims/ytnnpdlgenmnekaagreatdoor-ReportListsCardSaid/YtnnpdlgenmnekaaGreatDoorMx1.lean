/- functions of the program and of the references, as models -/
import Derived.Test.YtnnpdlgenmnekaaGreatDoorSeShelf
import Derived.Test.YtnnpdlgenmnekaaGreatDoorSeExt
import Derived.Test.YtnnpdlgenmnekaaGreatDoorSePre
import Derived.Test.YtnnpdlgenmnekaaGreatDoorSeKc
import Derived.Test.YtnnpdlgenmnekaaGreatDoorSeBld
import Derived.Test.YtnnpdlgenmnekaaGreatDoorSeStr
import Derived.Test.YtnnpdlgenmnekaaGreatDoorSeFmA
import Derived.Test.YtnnpdlgenmnekaaGreatDoorSeFmB
import Derived.Test.YtnnpdlgenmnekaaGreatDoorSeFmC
import Derived.Test.YtnnpdlgenmnekaaGreatDoorSeFmD
import Derived.Test.YtnnpdlgenmnekaaGreatDoorSeFmE
import Derived.Test.YtnnpdlgenmnekaaGreatDoorSeFmF
import Derived.Test.YtnnpdlgenmnekaaGreatDoorBmTy
set_option linter.unusedSimpArgs false
set_option linter.unusedVariables false
set_option maxRecDepth 100000
noncomputable section
open Go.IntKind (wrap)
namespace Go.Bm
open Go.Proofs
def q7 (n:Nat) (s o:Sk) (M:Fn):Nat×Spec:=(n,Aj s o M)
def K9:Nat:=24
def Ed:Sk:=⟨[tf [ci]],[],[]⟩
def Ez:Sk:=⟨[tf [CS.str]],[],[]⟩
def Kq:=q7 123 Ed Ez
def IQ (A:Fn):Cfg:=cf [Kq A]
def Ji (A:Fn):Fn:=Bh PG (IQ A) 64 123 Ed Ez
theorem Se (D:Fn) (A:Int):Ji D [I A]=
 cond (decide (A<0)) ((D [I (V (0-A))]).bind λo2=>
 cond (((ByteArray.mk #[45]).size+(Ah (nth .vD o2 0)).size).ble 9223372036854775807) (some [AC.raw (Value.string ((ByteArray.mk #[45])++Ah (nth .vD o2 0)))]) (none)) (cond (decide (A<10)) (some [AC.raw (Value.string (DX [[AC.int IntKind.u8 (IntKind.u8.wrap (V (48+A)))]]))]) ((D [I (V (A.tdiv 10))]).bind λo3=>
 cond (((Ah (nth .vD o3 0)).size+(DX [[AC.int IntKind.u8 (IntKind.u8.wrap (V (48+A.tmod 10)))]]).size).ble 9223372036854775807) (some [AC.raw (Value.string (Ah (nth .vD o3 0)++DX [[AC.int IntKind.u8 (IntKind.u8.wrap (V (48+A.tmod 10)))]]))]) (none))):=by kernel_rfl
def MP (M:Fn):Fn:=Ji M
def EV:Nat->Fn
 |0=>λ_=>none
 |n+1=>MP (EV n)
theorem Ui {M:Fn} (h:Av PG (123,Aj Ed Ez M)):Ak PG (IQ M):=BY rfl ⟨h,trivial⟩
theorem OS {M:Fn} (h:Av PG (123,Aj Ed Ez M)):Av PG (123,Aj Ed Ez (MP M)):=F0 (C:=IQ M) (L:=64) (by kernel_rfl) (FnOK.bare rfl rfl rfl) (Ui h) eqOk CI (by kernel_rfl) (by kernel_rfl)
theorem K2:∀n,Av PG (123,Aj Ed Ez (EV n))
 |0=>TK
 |n+1=>OS (K2 n)
def D0:=EV K9
theorem RM:Av PG (Kq D0):=K2 K9
def Is:Sk:=⟨[tf [ci],TS.v true ([sc kPt,sc kInts]++cc 7)],[],[]⟩
def Up:=q7 78 Is Ez
def IV (A:Fn):Cfg:=cf [Kq A]
def NB:Sk:=⟨[td,td,td,td,td,tf [CS.str]]++dd 20++[tf [sc kInts],tf [ci],tf [ci]]++dd 11,[],[]⟩
def LH:List (Ex×Sk):=[(Ex.exit 0,⟨[td,td,td,td,td,tf [CS.str]]++dd 34,[],[]⟩)]
def Jv (A:Fn):Lp:=Cm PG (IV A) 64 3 (Ck PG 78 3) NB LH
def K7 (A:Fn) (D:Lp):Cfg:=(IV A).loop 3 NB LH D
def Hg (A:Fn) (D:Lp):Fn:=Bh PG (K7 A D) 64 78 Is Ez
theorem Uf (L:Fn) (E:ByteArray) (G:Rw) (J D:Int):Jv L [AC.raw (Go.Value.string E), .vC kInts G,I J,I D]=
 cond (decide (D<J)) (cond (decide (0<=D)&&decide (D<(G.length:Int))) ((L [jA (nth [] G D.toNat) 0]).bind λA=>
 cond (((ByteArray.mk #[32,111,117,116,112,117,116]).size+(Ah (nth .vD A 0)).size).ble 9223372036854775807) (cond (((Ah (AC.raw (Value.string E))).size+((ByteArray.mk #[32,111,117,116,112,117,116])++Ah (nth .vD A 0)).size).ble 9223372036854775807) (some (0,[AC.raw (Value.string (Ah (AC.raw (Value.string E))++((ByteArray.mk #[32,111,117,116,112,117,116])++Ah (nth .vD A 0)))), .vC kInts G,I J,I (V (D+1))])) (none)) (none)) (none)) (some (1,[AC.raw (Value.string (Ah (AC.raw (Value.string E))))])):=by kernel_rfl
theorem SL (J:Fn) (O:Lp) (Q:Int) (V N:Rw) (S T X Y x7 x8 U:Int):Hg J O [I Q, .vC kPt V, .vC kInts N,I S,I T,I X,I Y,I x7,I x8,I U]=
 (J [I Q]).bind λA=>
 cond (((Ah (nth .vD A 0)).size+(ByteArray.mk #[32,109,111,100,101]).size).ble 9223372036854775807) ((J [I S]).bind λD=>
 cond (((Ah (nth .vD A 0)++(ByteArray.mk #[32,109,111,100,101])).size+(Ah (nth .vD D 0)).size).ble 9223372036854775807) (cond (((Ah (nth .vD A 0)++(ByteArray.mk #[32,109,111,100,101])++Ah (nth .vD D 0)).size+(ByteArray.mk #[32,97,116]).size).ble 9223372036854775807) ((J [I T]).bind λE=>
 cond (((Ah (nth .vD A 0)++(ByteArray.mk #[32,109,111,100,101])++Ah (nth .vD D 0)++(ByteArray.mk #[32,97,116])).size+(Ah (nth .vD E 0)).size).ble 9223372036854775807) (cond (((Ah (nth .vD A 0)++(ByteArray.mk #[32,109,111,100,101])++Ah (nth .vD D 0)++(ByteArray.mk #[32,97,116])++Ah (nth .vD E 0)).size+(ByteArray.mk #[32,102,97,117,108,116]).size).ble 9223372036854775807) ((J [I U]).bind λL=>
 cond (((Ah (nth .vD A 0)++(ByteArray.mk #[32,109,111,100,101])++Ah (nth .vD D 0)++(ByteArray.mk #[32,97,116])++Ah (nth .vD E 0)++(ByteArray.mk #[32,102,97,117,108,116])).size+(Ah (nth .vD L 0)).size).ble 9223372036854775807) ((O [AC.raw (Value.string (Ah (nth .vD A 0)++(ByteArray.mk #[32,109,111,100,101])++Ah (nth .vD D 0)++(ByteArray.mk #[32,97,116])++Ah (nth .vD E 0)++(ByteArray.mk #[32,102,97,117,108,116])++Ah (nth .vD L 0))), .vC kInts N,I (N.length:Int),I 0]).bind λG=>
 cond (G.1.beq 1) (cond (((Ah (nth .vD G.2 0)).size+(ByteArray.mk #[10]).size).ble 9223372036854775807) (some [AC.raw (Value.string (Ah (nth .vD G.2 0)++(ByteArray.mk #[10])))]) (none)) (none)) (none)) (none)) (none)) (none)) (none)) (none):=by kernel_rfl
def HC:=AD (Jv D0)
def Cd:=Hg D0 HC
theorem M1:Ak PG (IV D0):=BY rfl ⟨RM,trivial⟩
theorem Qm:Av PG (Up Cd):=rw2 (C:=K7 D0 HC) (fl fb M1) M1
def HO:Sk:=⟨[tf [sc [Kd.sl kPt,Kd.sl kInts,kI,kI,kI,kI,kI,kI,kI]]],[],[]⟩
def Ox:=q7 32 HO Ez
def IX (A:Fn):Cfg:=cf [Up A]
def KR:Sk:=⟨[tf [sc [Kd.sl kPt,Kd.sl kInts,kI,kI,kI,kI,kI,kI,kI]],td,td,tf [CS.str],td,td,tf [sc [Kd.sl kPt,Kd.sl kInts,kI,kI,kI,kI,kI,kI,kI]],tf [ci],tf [ci]]++dd 41,[],[]⟩
def Kk:List (Ex×Sk):=[(Ex.exit 0,⟨[td,td,td,tf [CS.str]]++dd 46,[],[]⟩)]
def FB (A:Fn):Lp:=Cm PG (IX A) 64 3 (Ck PG 32 3) KR Kk
def Ly (A:Fn) (D:Lp):Cfg:=(IX A).loop 3 KR Kk D
def Ke (A:Fn) (D:Lp):Fn:=Bh PG (Ly A D) 64 32 HO Ez
abbrev Eg (J:Fn) (A:Int) (D:Rw) (E:ByteArray) (L:Rw) (N:Int):Option (Nat×List AC):=
 (J [I A, .vC kPt (wA (nth [] D A.toNat) 0), .vC kInts (wA (nth [] D A.toNat) 1),jA (nth [] D A.toNat) 2,jA (nth [] D A.toNat) 3,jA (nth [] D A.toNat) 4,jA (nth [] D A.toNat) 5,jA (nth [] D A.toNat) 6,jA (nth [] D A.toNat) 7,jA (nth [] D A.toNat) 8]).bind λG=>
 cond (((Ah (AC.raw (Value.string E))).size+(Ah (nth .vD G 0)).size).ble 9223372036854775807) (some (0,[.vC [Kd.sl kPt,Kd.sl kInts,kI,kI,kI,kI,kI,kI,kI] L,AC.raw (Value.string (Ah (AC.raw (Value.string E))++Ah (nth .vD G 0))), .vC [Kd.sl kPt,Kd.sl kInts,kI,kI,kI,kI,kI,kI,kI] D,I N,I (V (A+1))])) (none)
theorem M3 (L:Fn) (D:Rw) (G:ByteArray) (E:Rw) (J A:Int):FB L [.vC [Kd.sl kPt,Kd.sl kInts,kI,kI,kI,kI,kI,kI,kI] D,AC.raw (Go.Value.string G), .vC [Kd.sl kPt,Kd.sl kInts,kI,kI,kI,kI,kI,kI,kI] E,I J,I A]=
 cond (decide (A<J)) (cond (decide (0<=A)&&decide (A<(E.length:Int))) (cond (A==0) (Eg L A E G D J) (cond (decide (0<=V (A-1))&&decide (V (A-1)<(D.length:Int))) (cond (gA (nth [] E A.toNat) 2 !=gA (nth [] D (V (A-1)).toNat) 2) (Eg L A E G D J) (cond (decide (0<=V (A-1))&&decide (V (A-1)<(D.length:Int))) (cond (gA (nth [] E A.toNat) 8 !=gA (nth [] D (V (A-1)).toNat) 8) (Eg L A E G D J) (cond (decide ((↑(wA (nth [] E A.toNat) 1).length:Int)>0)) (Eg L A E G D J) (some (0,[.vC [Kd.sl kPt,Kd.sl kInts,kI,kI,kI,kI,kI,kI,kI] D,AC.raw (Value.string (Ah (AC.raw (Value.string G)))), .vC [Kd.sl kPt,Kd.sl kInts,kI,kI,kI,kI,kI,kI,kI] E,I J,I (V (A+1))])))) (none))) (none))) (none)) (some (1,[AC.raw (Value.string (Ah (AC.raw (Value.string G))))])):=by kernel_rfl
theorem T1 (G:Fn) (D:Lp) (A:Rw):Ke G D [.vC [Kd.sl kPt,Kd.sl kInts,kI,kI,kI,kI,kI,kI,kI] A]=
 (D [.vC [Kd.sl kPt,Kd.sl kInts,kI,kI,kI,kI,kI,kI,kI] A,AC.raw (Value.string (ByteArray.mk #[])), .vC [Kd.sl kPt,Kd.sl kInts,kI,kI,kI,kI,kI,kI,kI] A,I (A.length:Int),I 0]).bind λE=>
 cond (E.1.beq 1) (some [AC.raw (Value.string (Ah (nth .vD E.2 0)))]) (none):=by kernel_rfl
def Ii:=AD (FB Cd)
def CV:=Ke Cd Ii
theorem KN:Ak PG (IX Cd):=BY rfl ⟨Qm,trivial⟩
theorem Pa:Av PG (Ox CV):=rw2 (C:=Ly Cd Ii) (fl fb KN) KN
def Hu:Sk:=⟨[tf [CS.bool]],[],[]⟩
def Nz:=q7 19 HO Hu
def IL:Cfg:=cf []
def KU:Fn:=Bh PG IL 64 19 HO Hu
theorem LW (A:Rw):KU [.vC [Kd.sl kPt,Kd.sl kInts,kI,kI,kI,kI,kI,kI,kI] A]=
 cond (decide ((A.length:Int)>0)) (cond (decide (0<=V ((A.length:Int)-1))&&decide (V ((A.length:Int)-1)<(A.length:Int))) (some [B (gA (nth [] A (V ((A.length:Int)-1)).toNat) 2==7)]) (none)) (some [B false]):=by kernel_rfl
def B4:=KU
theorem RL:Ak PG (IL):=BY rfl trivial
theorem Lk:Av PG (Nz B4):=rw1 (C:=IL) RL
def Iv:Sk:=⟨[tf [sc kPt],tf [sc kPt]],[],[]⟩
def Px:=q7 27 Iv Hu
def NP:Sk:=⟨[tf [sc kPt],tf [sc kPt]]++dd 10++[tf [ci],tf [ci]]++dd 12,[],[]⟩
def LY:List (Ex×Sk):=[(Ex.ret,⟨[td,td,td,td,tf [CS.bool]]++dd 21,[],[]⟩),(Ex.exit 0,⟨[td]++dd 25,[],[]⟩)]
def Gy:Lp:=Cm PG IL 64 4 (Ck PG 27 4) NP LY
def Ko (A:Lp):Cfg:=IL.loop 4 NP LY A
def IU (A:Lp):Fn:=Bh PG (Ko A) 64 27 Iv Hu
theorem Mx (D E:Rw) (G A:Int):Gy [.vC kPt D, .vC kPt E,I G,I A]=
 cond (decide (A<G)) (cond (decide (0<=A)&&decide (A<(D.length:Int))) (cond (decide (0<=A)&&decide (A<(E.length:Int))) (cond (!(gA (nth [] D A.toNat) 0==gA (nth [] E A.toNat) 0&&(gA (nth [] D A.toNat) 1==gA (nth [] E A.toNat) 1&&(gA (nth [] D A.toNat) 2==gA (nth [] E A.toNat) 2&&true)))) (some (1,[B false])) (some (0,[.vC kPt D, .vC kPt E,I G,I (V (A+1))]))) (none)) (none)) (some (2,[])):=by kernel_rfl
theorem Tj (E:Lp) (A D:Rw):IU E [.vC kPt A, .vC kPt D]=
 cond ((A.length:Int) !=(D.length:Int)) (some [B false]) ((E [.vC kPt A, .vC kPt D,I (A.length:Int),I 0]).bind λo1=>
 cond (o1.1.beq 1) (some [B (bA o1.2 0)]) (cond (o1.1.beq 2) (some [B true]) (none))):=by kernel_rfl
def Kv:=AD (Gy)
def CM:=IU Kv
theorem M5:Ak PG (IL):=BY rfl trivial
theorem Q3:Av PG (Px CM):=rw2 (C:=Ko Kv) (fl fb M5) M5
def Jf:Sk:=⟨[tf [sc kPt]],[],[]⟩
def Ov:=q7 26 HO Jf
def C_report_Pulses_0:Cfg:={cf []with prom:=λb=>cond (Nat.beq b 3) ([(3,125)]) ([])}
def Kw:Sk:=⟨[td,td,td,tf [CS.own 3 3],td,td,tf [sc [Kd.sl kPt,Kd.sl kInts,kI,kI,kI,kI,kI,kI,kI]],tf [ci],tf [ci]]++dd 9,[],[(3,125,kPt)]⟩
def MI:List (Ex×Sk):=[(Ex.exit 0,⟨[td,td,td,tf [CS.own 3 3]]++dd 14,[],[(3,125,kPt)]⟩)]
def E4:Lp:=Cm PG C_report_Pulses_0 64 3 (Ck PG 26 3) Kw MI
def Nt (A:Lp):Cfg:=C_report_Pulses_0.loop 3 Kw MI A
def KE (A:Lp):Fn:=Bh PG (Nt A) 64 26 HO Jf
theorem Ma (E D:Rw) (G A:Int):E4 [.vC kPt E, .vC [Kd.sl kPt,Kd.sl kInts,kI,kI,kI,kI,kI,kI,kI] D,I G,I A]=
 cond (decide (A<G)) (cond (decide (0<=A)&&decide (A<(D.length:Int))) (cond (((E++wA (nth [] D A.toNat) 0).length*24).ble 140737488355328) (some (0,[.vC kPt (E++wA (nth [] D A.toNat) 0), .vC [Kd.sl kPt,Kd.sl kInts,kI,kI,kI,kI,kI,kI,kI] D,I G,I (V (A+1))])) (none)) (none)) (some (1,[.vC kPt E])):=by kernel_rfl
theorem Qj (D:Lp) (A:Rw):KE D [.vC [Kd.sl kPt,Kd.sl kInts,kI,kI,kI,kI,kI,kI,kI] A]=
 (D [.vC kPt [], .vC [Kd.sl kPt,Kd.sl kInts,kI,kI,kI,kI,kI,kI,kI] A,I (A.length:Int),I 0]).bind λo1=>
 cond (o1.1.beq 1) (some [.vC kPt (wA o1.2 0)]) (none):=by kernel_rfl
def Ms:=AD (E4)
def CX:=KE Ms
theorem Nu:Ak PG (C_report_Pulses_0):=BY rfl trivial
theorem SZ:Av PG (Ov CX):=rw2 (C:=Nt Ms) (fl fb Nu) Nu
def QA:=q7 30 HO Jf
def C_report_Positions_0:Cfg:={cf []with prom:=λb=>cond (Nat.beq b 3) ([(3,41)]) ([])}
def NM:Sk:=⟨[td,td,td,tf [CS.own 3 3],td,td,tf [sc [Kd.sl kPt,Kd.sl kInts,kI,kI,kI,kI,kI,kI,kI]],tf [ci],tf [ci]]++dd 10,[],[(3,41,kPt)]⟩
def K4:List (Ex×Sk):=[(Ex.exit 0,⟨[td,td,td,tf [CS.own 3 3]]++dd 15,[],[(3,41,kPt)]⟩)]
def E2:Lp:=Cm PG C_report_Positions_0 64 3 (Ck PG 30 3) NM K4
def Kl (A:Lp):Cfg:=C_report_Positions_0.loop 3 NM K4 A
def Kt (A:Lp):Fn:=Bh PG (Kl A) 64 30 HO Jf
theorem M_ (E D:Rw) (G A:Int):E2 [.vC kPt E, .vC [Kd.sl kPt,Kd.sl kInts,kI,kI,kI,kI,kI,kI,kI] D,I G,I A]=
 cond (decide (A<G)) (cond (decide (0<=A)&&decide (A<(D.length:Int))) (cond (((E++[[jA (nth [] D A.toNat) 4,jA (nth [] D A.toNat) 5,jA (nth [] D A.toNat) 6]]).length*24).ble 140737488355328) (some (0,[.vC kPt (E++[[jA (nth [] D A.toNat) 4,jA (nth [] D A.toNat) 5,jA (nth [] D A.toNat) 6]]), .vC [Kd.sl kPt,Kd.sl kInts,kI,kI,kI,kI,kI,kI,kI] D,I G,I (V (A+1))])) (none)) (none)) (some (1,[.vC kPt E])):=by kernel_rfl
theorem Q2 (D:Lp) (A:Rw):Kt D [.vC [Kd.sl kPt,Kd.sl kInts,kI,kI,kI,kI,kI,kI,kI] A]=
 (D [.vC kPt [], .vC [Kd.sl kPt,Kd.sl kInts,kI,kI,kI,kI,kI,kI,kI] A,I (A.length:Int),I 0]).bind λo1=>
 cond (o1.1.beq 1) (some [.vC kPt (wA o1.2 0)]) (none):=by kernel_rfl
def Mp:=AD (E2)
def CZ:=Kt Mp
theorem Mg:Ak PG (C_report_Positions_0):=BY rfl trivial
theorem Qf:Av PG (QA CZ):=rw2 (C:=Kl Mp) (fl fb Mg) Mg
def Jx:Sk:=⟨[tf [ci],tf [ci]],[],[]⟩
def DM:=q7 12 Jx Ed
def JT:Fn:=Bh PG IL 64 12 Jx Ed
theorem QI (D A:Int):JT [I D,I A]=
 cond (decide (A=0)) (none) (cond (decide (A=0)) (none) (some [I ((V (D.tmod A+A)).tmod A)])):=by kernel_rfl
def BM:=JT
theorem Sf:Ak PG (IL):=BY rfl trivial
theorem J6:Av PG (DM BM):=rw1 (C:=IL) Sf
abbrev GU (A D G:Int) (E:Bool):Option (List AC):=
 cond (E) (some [I (V (0-mn (V (A-D)) G))]) (some [I (V (mn (V (A-D)) G-G))])
abbrev JP (A:Int) (D:Fn) (E G J L N O Q S T:Int) (U:Rw) (V X Y:Int):Option (List AC):=
 cond (decide (A=(↑0:Int))) ((D [I E,I G,I J,I L,I N,I O,I Q,I S,I T, .vC kInts U,I V]).bind λa0=>
 some [jA a0 0]) (cond (decide (A=(↑(0+1):Int))) ((D [I E,I G,I J,I L,I N,I O,I Q,I S,I T, .vC kInts U,I X]).bind λa1=>
 some [jA a1 0]) (cond (decide (A=(↑(0+1+1):Int))) ((D [I E,I G,I J,I L,I N,I O,I Q,I S,I T, .vC kInts U,I Y]).bind λa2=>
 some [jA a2 0]) (none)))
abbrev Hh (A:Int) (Q:Fn) (S T U V X Y O x7 x8:Int) (x9:Rw) (G J L D E:Int) (N:Bool):Option (List AC):=
 cond (N) (JP A Q S T U V X Y O x7 x8 x9 G J L) (cond (decide (A=(↑0:Int))) (GU D E O (G== -1)) (cond (decide (A=(↑(0+1):Int))) (GU D E O (J== -1)) (cond (decide (A=(↑(0+1+1):Int))) (GU D E O (L== -1)) (none))))
abbrev QZ (A:Int) (S:Fn) (T U V X Y x5 x6 x7 x8:Int) (x9:Rw) (D E G J L:Int) (N O Q:Bool):Option (List AC):=
 cond (decide (A=(↑0:Int))) (Hh A S T U V X Y x5 x6 x7 x8 x9 D E G J L N) (cond (decide (A=(↑(0+1):Int))) (Hh A S T U V X Y x5 x6 x7 x8 x9 D E G J L O) (cond (decide (A=(↑(0+1+1):Int))) (Hh A S T U V X Y x5 x6 x7 x8 x9 D E G J L Q) (none)))
abbrev Hk (O:Fn) (Q:Int) (D:List AC) (N:Fn) (E A:AC):Option (List AC):=
 (O [I Q,E,B (decide (gA D 1>0)),A]).bind λL=>
 cond (bA L 0) (cond (wrap .u64 (gA D 0+1)==0) (some [I 0,B false]) ((N [U (wrap .u64 (gA D 0+1)),A]).bind λG=>
 some [jA G 0,B (bA G 1)])) ((N [U (gA D 0),A]).bind λJ=>
 some [jA J 0,B (bA J 1)])
abbrev N_ (A E:List AC) (G:Fn) (J:Int) (L:Fn) (D:AC):Option (List AC):=
 cond (decide (gA A 1>wrap .u64 (gA E 0-gA A 1))) (Hk G J A L (I 1) D) (cond (decide (gA A 1<wrap .u64 (gA E 0-gA A 1))) (Hk G J A L (I (-1)) D) (Hk G J A L (I 0) D))
abbrev HH (Q:Fn) (x:Ax3) (J A:List AC) (S:Fn) (t:Trk) (D:AC) (T:Fn) (L:List AC) (E:AC):Option (List AC):=
 (Q [I x.c.step,I x.c.aS,I x.c.bD,I x.c.bE,I x.c.low,I x.c.aY,I x.c.bB,I x.c.aV,I x.c.aO, .vC kInts (x.c.aW.map Ct),jA J 2]).bind λG=>
 cond (decide (gA A 0<0)) ((S [I x.c.step,I x.c.aS,I x.c.bD,I x.c.bE,I x.c.low,I x.c.aY,I x.c.bB,I x.c.aV,I x.c.aO, .vC kInts (x.c.aW.map Ct),I t.aT.z]).bind λN=>
 some [D,E,I (V (gA G 0+gA N 0))]) (cond (decide (0<=gA A 0)&&decide (gA A 0<((t.aE.map EB).length:Int))) ((T (I x.c.step::I x.c.aS::I x.c.bD::I x.c.bE::I x.c.low::I x.c.aY::I x.c.bB::I x.c.aV::I x.c.aO:: .vC kInts (x.c.aW.map Ct)::(Ap B_ (nth [] (t.aE.map EB) (gA A 0).toNat)++[I (V (V (0+1)+1)),jA L 0]))).bind λO=>
 some [D,E,I (V (gA G 0+gA O 0))]) (none))
abbrev PB (L:Fn) (x:Ax3) (E A:List AC) (N:Fn) (t:Trk) (O:Fn) (G:List AC) (D:AC):Option (List AC):=
 (L [I x.b.step,I x.b.aS,I x.b.bD,I x.b.bE,I x.b.low,I x.b.aY,I x.b.bB,I x.b.aV,I x.b.aO, .vC kInts (x.b.aW.map Ct),jA E 1]).bind λJ=>
 cond (decide (gA A 0<0)) ((N [I x.b.step,I x.b.aS,I x.b.bD,I x.b.bE,I x.b.low,I x.b.aY,I x.b.bB,I x.b.aV,I x.b.aO, .vC kInts (x.b.aW.map Ct),I t.aT.y]).bind λQ=>
 HH L x E A N t D O G (I (V (gA J 0+gA Q 0)))) (cond (decide (0<=gA A 0)&&decide (gA A 0<((t.aE.map EB).length:Int))) ((O (I x.b.step::I x.b.aS::I x.b.bD::I x.b.bE::I x.b.low::I x.b.aY::I x.b.bB::I x.b.aV::I x.b.aO:: .vC kInts (x.b.aW.map Ct)::(Ap B_ (nth [] (t.aE.map EB) (gA A 0).toNat)++[I (V (0+1)),jA G 0]))).bind λS=>
 HH L x E A N t D O G (I (V (gA J 0+gA S 0)))) (none))
abbrev TX (K:Kf) (c:Cv) (A:Rw) (G:Fn) (E:Int):Option (Nat×List AC):=
 cond (gA (nth [] (K.p.aD.map C2) c.aK.toNat) 1==5) (cond (((A++[[jA (nth [] (K.p.aD.map C2) c.aK.toNat) 2]]).length*8).ble 140737488355328) (cond (decide (0<=gA (nth [] (K.p.aD.map C2) c.aK.toNat) 2)&&decide (gA (nth [] (K.p.aD.map C2) c.aK.toNat) 2<((K.aA.map Fq).length:Int))) ((G (I c.outs::Ap Bj (nth [] (K.aA.map Fq) (gA (nth [] (K.p.aD.map C2) c.aK.toNat) 2).toNat))).bind λD=>
 some (0,(.vC kInts (A++[[jA (nth [] (K.p.aD.map C2) c.aK.toNat) 2]])::I E::BB K {c with outs:=gA D 0,aK:=V (c.aK+1)}))) (none)) (none)) (some (0,(.vC kInts A::I E::BB K {c with aK:=V (c.aK+1)})))
abbrev Sp (o6:List AC) (v46 G J:Int) (p:Pth) (x:Ax3) (t:Trk) (A:Bool) (D E:AC):Option (Nat×List AC):=
 cond (gA o6 2 !=v46) (cond (A) (some (0,(D::I G::I (V (J+1))::pxt p x t [jA o6 0,jA o6 1,jA o6 2]))) (none)) (some (0,(E::I G::I (V (J+1))::pxt p x t [jA o6 0,jA o6 1,jA o6 2])))
abbrev Ul (c:Cv) (S:Fn) (E:List AC) (K:Kf) (O:Fn) (Q:List AC) (L:Int) (N:Rw) (D:AC):Option (List AC):=
 cond (c.way==0) ((S (jA E 0::BB K c)).bind λA=>
 (O [jA A 38,jA A 39,jA A 40, .vC A8 (wA A 41), .vC kPt (wA A 42),jA A 1,jA A 2,jA A 3,jA A 4,jA A 5,jA A 6,jA A 7,jA A 8,jA A 9, .vC kInts (wA A 10),jA A 11,jA A 12,jA A 13,jA A 14,jA A 15,jA A 16,jA A 17,jA A 18,jA A 19, .vC kInts (wA A 20),jA A 21,jA A 22,jA A 23,jA A 24,jA A 25,jA A 26,jA A 27,jA A 28,jA A 29, .vC kInts (wA A 30), .vC B_ (wA A 45),jA A 46,jA A 47,jA A 48,jA A 49,jA A 50,jA Q 0]).bind λG=>
 some (cR 1 A++[D, .vC kInts (wA A 0),I L,jA E 0,jA G 0,jA G 1,jA G 2,jA A 68,jA A 63])) ((O (pxt K.p K.x K.t [jA Q 0])).bind λJ=>
 some (BB K c++[D, .vC kInts N,I L,jA E 0,jA J 0,jA J 1,jA J 2,I c.s3,I c.g1]))
abbrev N2 (A:Nat×List AC) (D:Bool):Option (Nat×List AC):=
 cond (D) (some (1,[B false])) (some (0,[.vC kPt (wA A.2 1),I (V (gA A.2 3+1)),jA A.2 4,jA A.2 5,jA A.2 6,jA A.2 7,jA A.2 8,jA A.2 9,jA A.2 10,jA A.2 11,jA A.2 12, .vC kInts (wA A.2 13),jA A.2 14,jA A.2 15,jA A.2 16,jA A.2 17,jA A.2 18,jA A.2 19,jA A.2 20,jA A.2 21,jA A.2 22, .vC kInts (wA A.2 23),jA A.2 24,jA A.2 25,jA A.2 26,jA A.2 27,jA A.2 28,jA A.2 29,jA A.2 30,jA A.2 31,jA A.2 32, .vC kInts (wA A.2 33)]))
abbrev Sz (Jh:Fn) (N O Q:Int) (D:List AC) (S:Int) (a2:List AC) (T U a3:Int) (Hx:Fn) (A E:Int) (I9:Fn) (X Y a0 a1:Int):Option (List AC):=
 (Jh [I N,I O,I Q,jA D 0,jA D 1,jA D 2,jA D 3,jA D 4,jA D 5]).bind λa4=>
 cond (decide (V (V (V (S+gA a2 0)-T)-U)>=0)) (cond (decide (gA a4 0>V (a3*256))) ((Hx [I N,I O,I Q,I A,I E]).bind λa5=>
 (I9 [I U,I A,I E,I X,I Y,I a0,I (V (A+gA a5 0))]).bind λG=>
 some [jA G 0,jA G 1,jA G 2,jA G 3,jA G 4,jA G 5,I 3,I S,I a1,I T,I 0]) ((Hx [I N,I O,I Q,I A,I E]).bind λa6=>
 (I9 [I U,I A,I E,I X,I Y,I a0,I (V (A+gA a6 0))]).bind λJ=>
 some [jA J 0,jA J 1,jA J 2,jA J 3,jA J 4,jA J 5,I 3,I S,I a1,I T,I 18])) ((Hx [I N,I O,I Q,I A,I E]).bind λa7=>
 (I9 [I U,I A,I E,I X,I Y,I a0,I (V (A+gA a7 0))]).bind λL=>
 some [jA L 0,jA L 1,jA L 2,jA L 3,jA L 4,jA L 5,I 3,I S,I a1,I T,I 18])
abbrev Rd (c:Cv) (A:List AC) (T:Fn) (K:Kf) (U Q:Fn) (E:Int) (S:Fn):Option (List AC):=
 cond (!c.y0==gA A 4) ((T (jA A 0::jA A 1::jA A 2::jA A 3::jA A 4::jA A 5::jA A 6::BB K c)).bind λD=>
 cond (!bA D 0) (cond (gA D 66==0) ((U (cR 1 D)).bind λG=>
 some (cR 0 G)) (some (cR 1 D))) (cond (decide (0<=gA A 4)&&decide (gA A 4<(↑(wA D 36).length:Int))) (cond (Ad (nth .vD (nth [] (wA D 36) (gA A 4).toNat) 0)==6) ((Q (I E::jA A 0::jA A 1::jA A 2::jA A 3::jA A 4::jA A 5::jA A 6::cR 1 D)).bind λJ=>
 some (cR 0 J)) ((S (I E::jA A 0::jA A 1::jA A 2::jA A 3::jA A 4::jA A 5::jA A 6::cR 1 D)).bind λL=>
 some (cR 0 L))) (none))) (cond (decide (0<=gA A 4)&&decide (gA A 4<((K.aA.map Fq).length:Int))) (cond (gA (nth [] (K.aA.map Fq) (gA A 4).toNat) 0==6) ((Q (I E::jA A 0::jA A 1::jA A 2::jA A 3::jA A 4::jA A 5::jA A 6::BB K c)).bind λN=>
 some (cR 0 N)) ((S (I E::jA A 0::jA A 1::jA A 2::jA A 3::jA A 4::jA A 5::jA A 6::BB K c)).bind λO=>
 some (cR 0 O))) (none))
abbrev Sx (T:Fn) (K:Kf) (c:Cv) (U L S:Fn) (A:AC):Option (List AC):=
 (T [I K.pa,I K.pb,I K.pc,I c.m0,I c.m1,I c.m2,I c.m3,I c.m4,I c.m5]).bind λE=>
 (U (Gv K.t++[I (V ((V (V (gA E 0+256)-1)).tdiv 256))])).bind λD=>
 (L (Gv K.t++[jA D 0])).bind λN=>
 cond (gA N 0 !=V ((V (V (gA E 0+256)-1)).tdiv 256)) ((S [.vC kPt (K.p.aD.map C2),I c.next,I c.o0,I c.o1,B c.o2,B c.o3,B c.o4,A,I (V (gA D 0+1))]).bind λG=>
 (L (Gv K.t++[jA G 0])).bind λO=>
 some (jA O 0::jA G 1::BB K c)) ((S [.vC kPt (K.p.aD.map C2),I c.next,I c.o0,I c.o1,B c.o2,B c.o3,B c.o4,A,jA D 0]).bind λJ=>
 (L (Gv K.t++[jA J 0])).bind λQ=>
 some (jA Q 0::jA J 1::BB K c))
abbrev F6 (E G:Int) (A:AC) (J L:Int) (D:AC):Option (List AC):=
 cond (decide (E>G)) (some [A,D,I J]) (cond (decide (E<G)) (some [A,D,I (V (0-J))]) (some [A,D,I L]))
abbrev Q1 (L N E G D J O:Int) (A:AC):Option (List AC):=
 cond (decide (L>N)) (F6 E G A D J (I D)) (cond (decide (L<N)) (F6 E G A D J (I (V (0-D)))) (F6 E G A D J (I O)))
abbrev FX (G:Bool) (EP:Fn) (v1:Rw) (J L D E:AC) (v12 T U X Y a0 a1 a2 v20 v21 v22 a3 v24:Int) (v25:Rw) (a4 v27 v28 a5 v30 v31 a6 v33 a7:Int) (v35:Rw) (v36 v37 v38 b0 v40 b1 v42 b2 v44:Int) (b3:Rw) (v46 b4 v48 v49 b5:Int) (v0:Rw) (v2 v3 v4 v5 v6 v7 v8 v9:Int) (v10 v11:Rw) (N O Q S:AC):Option (Nat×List AC):=
 cond (G) ((EP [.vC B_ v1,N,O,Q,J,L,D,S,E,I v12,I T,I U,I X,I Y,I a0,I a1,I a2,I v20,I v21,I v22,I a3,I v24, .vC kInts v25,I a4,I v27,I v28,I a5,I v30,I v31,I a6,I v33,I a7, .vC kInts v35,I v36,I v37,I v38,I b0,I v40,I b1,I v42,I b2,I v44, .vC kInts b3,I v46,I b4,I v48,I v49,I b5]).bind λA=>
 some (0,[.vC kInts v0, .vC B_ (wA A 0),I v2,I v3,I v4,I v5,I (V (v6+1)),I v7,I v8,I v9, .vC A8 v10, .vC kPt v11,jA A 1,jA A 2,jA A 3,jA A 4,jA A 5,jA A 6,jA A 7,jA A 8,jA A 9,jA A 10,jA A 11,jA A 12,jA A 13, .vC kInts (wA A 14),jA A 15,jA A 16,jA A 17,jA A 18,jA A 19,jA A 20,jA A 21,jA A 22,jA A 23, .vC kInts (wA A 24),jA A 25,jA A 26,jA A 27,jA A 28,jA A 29,jA A 30,jA A 31,jA A 32,jA A 33, .vC kInts (wA A 34),jA A 35,jA A 36,jA A 37,jA A 38,jA A 39])) (none)
abbrev Qb (v0 v1:Rw) (v2 v3 v4 v5 v6 v7 v8 v9:Int) (v10 v11:Rw) (v12 L N O Q S T U v20 v21 v22 X v24:Int) (v25:Rw) (Y v27 v28 a0 v30 v31 a1 v33 a2:Int) (v35:Rw) (v36 v37 v38 a3 v40 a4 v42 a5 v44:Int) (a6:Rw) (v46 a7 v48 v49 b0:Int) (EP:Fn) (b3 E c0 c1 c2:Bool) (b4 b5 b6 G J A b1 D b2:AC):Option (Nat×List AC):=
 cond (b3) (cond (b3) (cond (E) (cond (c0) (some (0,[.vC kInts v0, .vC B_ v1,I v2,I v3,I v4,I v5,I (V (v6+1)),I v7,I v8,I v9, .vC A8 v10, .vC kPt v11,I v12,I L,I N,I O,I Q,I S,I T,I U,I v20,I v21,I v22,I X,I v24, .vC kInts v25,I Y,I v27,I v28,I a0,I v30,I v31,I a1,I v33,I a2, .vC kInts v35,I v36,I v37,I v38,I a3,I v40,I a4,I v42,I a5,I v44, .vC kInts a6,I v46,I a7,I v48,I v49,I b0])) (cond (c1) (cond (c2) (cond (decide (v4<0)) (FX E EP v1 G J A D v12 L N O Q S T U v20 v21 v22 X v24 v25 Y v27 v28 a0 v30 v31 a1 v33 a2 v35 v36 v37 v38 a3 v40 a4 v42 a5 v44 a6 v46 a7 v48 v49 b0 v0 v2 v3 v4 v5 v6 v7 v8 v9 v10 v11 b4 b5 b6 b1) (FX E EP v1 G J A D v12 L N O Q S T U v20 v21 v22 X v24 v25 Y v27 v28 a0 v30 v31 a1 v33 a2 v35 v36 v37 v38 a3 v40 a4 v42 a5 v44 a6 v46 a7 v48 v49 b0 v0 v2 v3 v4 v5 v6 v7 v8 v9 v10 v11 b4 b5 b6 b2)) (none)) (cond (decide (v4<0)) (FX E EP v1 G J A D v12 L N O Q S T U v20 v21 v22 X v24 v25 Y v27 v28 a0 v30 v31 a1 v33 a2 v35 v36 v37 v38 a3 v40 a4 v42 a5 v44 a6 v46 a7 v48 v49 b0 v0 v2 v3 v4 v5 v6 v7 v8 v9 v10 v11 (I v7) (I v8) (I v9) b1) (FX E EP v1 G J A D v12 L N O Q S T U v20 v21 v22 X v24 v25 Y v27 v28 a0 v30 v31 a1 v33 a2 v35 v36 v37 v38 a3 v40 a4 v42 a5 v44 a6 v46 a7 v48 v49 b0 v0 v2 v3 v4 v5 v6 v7 v8 v9 v10 v11 (I v7) (I v8) (I v9) b2)))) (none)) (none)) (none)
abbrev HN (G:Fn) (K:Kf) (c:Cv) (D E:AC):Option (List AC):=
 (G (pxt K.p K.x K.t [I c.m0,I c.m1,I c.m2,I c.m3,I c.m4,I c.m5,E])).bind λA=>
 cond (!bA A 12) (some (D::B true::BB K c)) (cond (c.way==1) (some (D::B true::DL (BB K c) [(44, .vC B_ (wA A 0)),(45,jA A 1),(46,jA A 2),(47,jA A 3),(48,jA A 4),(49,jA A 5),(50,jA A 6),(51,jA A 7),(52,jA A 8),(53,jA A 9),(54,jA A 10),(55,jA A 11),(71,I 2),(89,B true)])) (some (D::B true::DL (BB K c) [(44, .vC B_ (wA A 0)),(45,jA A 1),(46,jA A 2),(47,jA A 3),(48,jA A 4),(49,jA A 5),(50,jA A 6),(51,jA A 7),(52,jA A 8),(53,jA A 9),(54,jA A 10),(55,jA A 11),(58,B true),(71,I 0),(89,B true)])))
abbrev Rn (c:Cv) (E:Fn) (K:Kf) (G:Fn) (A:AC):Option (List AC):=
 cond (!c.aM) ((E (pxt K.p K.x K.t [I K.pa,I K.pb,I K.pc,I c.o0,I c.o1,B c.o2,B c.o3,B c.o4,I c.m0,I c.m1,I c.m2,I c.m3,I c.m4,I c.m5,I K.t.length])).bind λo8=>
 some (A::B true::BB K {c with m0:=gA o8 0,m1:=gA o8 1,m2:=gA o8 2,m3:=gA o8 3,m4:=gA o8 4,m5:=gA o8 5})) (cond (c.m0 !=V (K.t.length*256)) ((E (pxt K.p K.x K.t [I K.pa,I K.pb,I K.pc,I c.o0,I c.o1,B c.o2,B c.o3,B c.o4,I c.m0,I c.m1,I c.m2,I c.m3,I c.m4,I c.m5,I K.t.length])).bind λD=>
 some (A::B true::BB K {c with m0:=gA D 0,m1:=gA D 1,m2:=gA D 2,m3:=gA D 3,m4:=gA D 4,m5:=gA D 5})) (cond (c.way==2) (HN G K c A (I K.len)) (HN G K c A (I c.home))))
attribute [go_sem] Eg GU JP Hh QZ Hk N_ HH PB TX Sp Ul N2 Sz Rd Sx F6 Q1 FX Qb HN Rn
end Go.Bm
