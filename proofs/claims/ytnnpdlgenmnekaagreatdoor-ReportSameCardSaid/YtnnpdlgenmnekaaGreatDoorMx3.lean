/- functions of the program and of the references, as models -/
import Derived.Test.YtnnpdlgenmnekaaGreatDoorMx2
set_option linter.unusedSimpArgs false
set_option linter.unusedVariables false
set_option maxRecDepth 100000
noncomputable section
open Go.IntKind (wrap)
namespace Go.Bm
open Go.Proofs
def Zk3:=qa 292 Qi5 Qm3
def Qwk:Fn:=An PG C_cncref30_SamePulses_0 64 292 Qi5 Qm3
theorem Zq5 (D G:Int):Qwk [U D,U G]=
 some [U (wrap .u64 (wrap .u64 (wrap .u64 (D.fdiv (2^min (Int.toNat 32) IntKind.u64.bits)*G.fdiv (2^min (Int.toNat 32) IntKind.u64.bits))+(wrap .u64 (wrap .u64 (D.fdiv (2^min (Int.toNat 32) IntKind.u64.bits)*wrap .u64 (↑(BitVec.ofInt IntKind.u64.bits G&&&BitVec.ofInt IntKind.u64.bits 4294967295).toNat:Int))+(wrap .u64 (wrap .u64 (↑(BitVec.ofInt IntKind.u64.bits D&&&BitVec.ofInt IntKind.u64.bits 4294967295).toNat:Int)*wrap .u64 (↑(BitVec.ofInt IntKind.u64.bits G&&&BitVec.ofInt IntKind.u64.bits 4294967295).toNat:Int))).fdiv (2^min (Int.toNat 32) IntKind.u64.bits))).fdiv (2^min (Int.toNat 32) IntKind.u64.bits))+(wrap .u64 (wrap .u64 (wrap .u64 (↑(BitVec.ofInt IntKind.u64.bits D&&&BitVec.ofInt IntKind.u64.bits 4294967295).toNat:Int)*G.fdiv (2^min (Int.toNat 32) IntKind.u64.bits))+wrap .u64 (↑(BitVec.ofInt IntKind.u64.bits (wrap .u64 (wrap .u64 (D.fdiv (2^min (Int.toNat 32) IntKind.u64.bits)*wrap .u64 (↑(BitVec.ofInt IntKind.u64.bits G&&&BitVec.ofInt IntKind.u64.bits 4294967295).toNat:Int))+(wrap .u64 (wrap .u64 (↑(BitVec.ofInt IntKind.u64.bits D&&&BitVec.ofInt IntKind.u64.bits 4294967295).toNat:Int)*wrap .u64 (↑(BitVec.ofInt IntKind.u64.bits G&&&BitVec.ofInt IntKind.u64.bits 4294967295).toNat:Int))).fdiv (2^min (Int.toNat 32) IntKind.u64.bits)))&&&BitVec.ofInt IntKind.u64.bits 4294967295).toNat:Int))).fdiv (2^min (Int.toNat 32) IntKind.u64.bits))),U (wrap .u64 (↑(BitVec.ofInt IntKind.u64.bits (wrap .u64 (wrap .u64 (wrap .u64 (wrap .u64 (↑(BitVec.ofInt IntKind.u64.bits D&&&BitVec.ofInt IntKind.u64.bits 4294967295).toNat:Int)*G.fdiv (2^min (Int.toNat 32) IntKind.u64.bits))+wrap .u64 (↑(BitVec.ofInt IntKind.u64.bits (wrap .u64 (wrap .u64 (D.fdiv (2^min (Int.toNat 32) IntKind.u64.bits)*wrap .u64 (↑(BitVec.ofInt IntKind.u64.bits G&&&BitVec.ofInt IntKind.u64.bits 4294967295).toNat:Int))+(wrap .u64 (wrap .u64 (↑(BitVec.ofInt IntKind.u64.bits D&&&BitVec.ofInt IntKind.u64.bits 4294967295).toNat:Int)*wrap .u64 (↑(BitVec.ofInt IntKind.u64.bits G&&&BitVec.ofInt IntKind.u64.bits 4294967295).toNat:Int))).fdiv (2^min (Int.toNat 32) IntKind.u64.bits)))&&&BitVec.ofInt IntKind.u64.bits 4294967295).toNat:Int))*2^min (Int.toNat 32) IntKind.u64.bits))|||BitVec.ofInt IntKind.u64.bits (wrap .u64 (↑(BitVec.ofInt IntKind.u64.bits (wrap .u64 (wrap .u64 (↑(BitVec.ofInt IntKind.u64.bits D&&&BitVec.ofInt IntKind.u64.bits 4294967295).toNat:Int)*wrap .u64 (↑(BitVec.ofInt IntKind.u64.bits G&&&BitVec.ofInt IntKind.u64.bits 4294967295).toNat:Int)))&&&BitVec.ofInt IntKind.u64.bits 4294967295).toNat:Int))).toNat:Int))]:=by kernel_rfl
def Qey:=Qwk
def Quq:Sk:=⟨[tf [si .u64],tf [si .u64],tf [si .u64],tf [si .u64],tf [sb]],[],[]⟩
def Z4y:=qa 277 Quq Qhz
def Z26 (D:Fn):Cfg:=cf [Zk3 D]
def Qfx (D:Fn):Fn:=An PG (Z26 D) 64 277 Quq Qhz
theorem Zfl (D:Fn) (G I L M:Int) (N:Bool):Qfx D [U G,U I,U L,U M,B N]=
 (D [U G,U I]).bind λo2=>
 (D [U L,U M]).bind λo3=>
 cond (decide (gA o2 0<gA o3 0)) (some [B true]) (cond (gA o2 0==gA o3 0) (cond (decide (gA o2 1<gA o3 1)) (some [B true]) (cond (gA o2 1==gA o3 1) (some [B !N]) (some [B false]))) (some [B false])):=by kernel_rfl
def Qhc:=Qfx Qey
def Q46 (D:Fn):Cfg:=cf [Z4y D]
def Q5m:Sk:=⟨[tf [ci]]++dd 6++[tf [si .u64],tf [si .u64],tf [si .u64],tf [si .u64]]++dd 51,[],[]⟩
def Qva:List (Ex×Sk):=[(Ex.exit 0,⟨[tf [ci]]++dd 6++[tf [si .u64],tf [si .u64],tf [si .u64]]++dd 52,[],[]⟩)]
def Mc (D:Fn):Lp:=AL PG (Q46 D) 64 3 (AN PG 254 3) Q5m Qva
def Zlp (D:Fn) (G:Lp):Cfg:=(Q46 D).loop 3 Q5m Qva G
def Qlw (D:Fn) (G:Lp):Fn:=An PG (Zlp D G) 64 254 Qfs Y2
theorem Qvl (O:Fn) (N G M L D:Int):Mc O [I N,U G,U M,U L,U D]=
 cond (decide (D>0)) ((O [U (wrap .u64 (wrap .u64 (L+D)*wrap .u64 (L+D))),U M,U G,U G,B false]).bind λo3=>
 cond (bA o3 0) (some (0,[I N,U G,U M,U (wrap .u64 (L+D)),U (D.fdiv (2^min (Int.toNat 1) IntKind.u64.bits))])) (some (0,[I N,U G,U M,U L,U (D.fdiv (2^min (Int.toNat 1) IntKind.u64.bits))]))) (some (1,[I N,U G,U M,U L])):=by kernel_rfl
theorem Zjo (G:Fn) (L:Lp) (D M N:Int):Qlw G L [I D,I M,I N]=
 (L [I D,U (wrap .u64 (V (mx D (V (0-D))*M))),U (wrap .u64 N),U 0,U 134217728]).bind λo4=>
 cond (o4.1.beq 1) ((G [U (wrap .u64 (wrap .u64 (wrap .u64 (2*gA o4.2 3)+1)*wrap .u64 (wrap .u64 (2*gA o4.2 3)+1))),U (gA o4.2 2),U (wrap .u64 (2*gA o4.2 1)),U (wrap .u64 (2*gA o4.2 1)),B (decide (gA o4.2 0<0))]).bind λO=>
 cond (bA O 0) (cond (decide (gA o4.2 0<0)) (some [I (V (0-V (wrap .u64 (gA o4.2 3+1))))]) (some [I (V (wrap .u64 (gA o4.2 3+1)))])) (cond (decide (gA o4.2 0<0)) (some [I (V (0-V (gA o4.2 3)))]) (some [I (V (gA o4.2 3))]))) (none):=by kernel_rfl
def Z78:=Am (Mc Qhc)
def TN:=Qlw Qhc Z78
abbrev PN (G_:Fn) (x2 x6:Int) (GW:Fn) (x3 x7:Int) (O S:Bool) (M D N:AC):Option (List AC):=
 cond (O) (cond (S) (some [I 0,I 0,I 0,I 0,B false]) ((G_ [I x2,I x6]).bind λG=>
 (GW [M,jA G 0,D]).bind λT=>
 (GW [N,jA G 0,D]).bind λU=>
 (G_ [I x3,I x7]).bind λV=>
 some [jA T 0,jA U 0,jA G 0,jA V 0,B true])) ((G_ [I x2,I x6]).bind λL=>
 (GW [M,jA L 0,D]).bind λX=>
 (GW [N,jA L 0,D]).bind λY=>
 (G_ [I x3,I x7]).bind λa0=>
 some [jA X 0,jA Y 0,jA L 0,jA a0 0,B true])
abbrev Qq0 (Hc:Fn) (D G S T L M U X:Int) (Y GW:Fn) (N:Int):Option (List AC):=
 (Hc [I D,I G,I S,I T,I L,I M,I U,I X]).bind λO=>
 cond (decide (gA O 0>0)) (PN Y S U GW T X (V (0-V (D+L))==0) (V (0-V (G+M))==0) (I (V (0-V (D+L)))) (I (V (V (V (0-V (D+L))*V (0-V (D+L)))+V (V (0-V (G+M))*V (0-V (G+M)))))) (I (V (0-V (G+M))))) (PN Y S U GW T X (V (N*V (M-G))==0) (V (N*V (D-L))==0) (I (V (N*V (M-G)))) (I (V (V (V (N*V (M-G))*V (N*V (M-G)))+V (V (N*V (D-L))*V (N*V (D-L)))))) (I (V (N*V (D-L)))))
abbrev Zdc (x9:Bool) (Y:Fn) (N O:Int) (GW:Fn) (S T D G:Int) (Hc:Fn) (L M:Int) (Mz:Fn) (x8:Int):Option (List AC):=
 cond (x9) (PN Y N O GW S T (V (0-D)==0) (V (0-G)==0) (I (V (0-D))) (I (V (V (V (0-D)*V (0-D))+V (V (0-G)*V (0-G))))) (I (V (0-G)))) ((Hc [I D,I G,I N,I S,I L,I M,I O,I T]).bind λU=>
 cond (decide (gA U 0>0)) ((Mz [I D,I G,I N,I S,I L,I M,I O,I T]).bind λX=>
 cond (decide (V (gA X 0*x8)>0)) (PN Y N O GW S T (V (D+L)==0) (V (G+M)==0) (I (V (D+L))) (I (V (V (V (D+L)*V (D+L))+V (V (G+M)*V (G+M))))) (I (V (G+M)))) (Qq0 Hc D G N S L M O T Y GW x8)) (Qq0 Hc D G N S L M O T Y GW x8))
abbrev Qj6 (G:Bool) (D:List AC) (Mz M:Fn):Option (List AC):=
 cond (G) (cond (gA D 0==gA D 4) (some [B (gA D 1==gA D 5)]) (some [B false])) ((Mz [jA D 0,jA D 1,jA D 2,jA D 3,jA D 4,jA D 5,jA D 6,jA D 7]).bind λI=>
 cond (gA I 0 !=0) (some [B true]) ((M [jA D 0,jA D 1,jA D 2,jA D 3,jA D 4,jA D 5,jA D 6,jA D 7]).bind λL=>
 some [B (decide (gA L 0<0))]))
abbrev Z97 (T:Fn) (x9 N O:Int) (U:Fn) (x0 x1 x2 x3 x4 x5 x6 x7 x8 X:Int) (M:Bool) (Y:Int) (a0:Bool) (a1 a2 a3 a4 a5:Int) (a6:Bool) (S a7 Mz:Fn):Option (List AC):=
 (T [I x9,I N,I O]).bind λa8=>
 cond (!bA a8 0) (some [B false]) ((U [I x0,I x1,I x2,I x3,I x4,I x5,I x6,I x7,I x8,I x9,I N,I O,I X,B M,I Y,B a0,I a1,I a2,I a3,I a4,I a5,B a6]).bind λD=>
 (S [jA D 0,jA D 1,jA D 2,jA D 3,jA D 0,jA D 1,jA D 2,jA D 3]).bind λG=>
 (S [jA D 4,jA D 5,jA D 6,jA D 7,jA D 4,jA D 5,jA D 6,jA D 7]).bind λL=>
 cond (decide (gA G 0<64)) (some [B false]) (cond (decide (gA L 0<64)) (some [B false]) (cond (decide (V (V (gA G 0+gA L 0)-16)>0)) ((a7 [I (V (V (gA G 0+gA L 0)-16)),I (V (V (gA G 0+gA L 0)-16)),I (V (4*gA G 0)),jA L 0]).bind λa9=>
 cond (decide (gA a9 0>0)) (some [B false]) (Qj6 M D Mz S)) (Qj6 M D Mz S))))
abbrev Qml (M:Fn) (D:Nat×List AC) (L:AC):Option (Nat×List AC):=
 (M [.vC Ah (wA D.2 2),jA D.2 6]).bind λG=>
 cond (((wA D.2 1++[[jA D.2 3,jA G 0,jA D.2 6]]).length*24).ble 140737488355328) (some (0,[.vC Aj (wA D.2 0), .vC kPt (wA D.2 1++[[jA D.2 3,jA G 0,jA D.2 6]]), .vC Ah (wA D.2 2),jA D.2 3,jA D.2 4,L,B (bA D.2 5), .vC Ah (wA D.2 7),jA D.2 8,I (V (gA D.2 9+1)),jA D.2 10,jA D.2 11,jA D.2 12, .vC Aj (wA D.2 13), .vC kPt (wA D.2 14),jA D.2 15,jA D.2 16,jA D.2 17,jA D.2 18,jA D.2 19,jA D.2 20])) (none)
abbrev Qlt (L0:Fn) (v2:Rw) (v9 v5:Int) (a1:Lp) (v0 v1:Rw) (v3:Int) (L M:AC) (v7:Rw) (v8 v10 v11 v12:Int) (a2 a3:Rw) (N O S T U V:AC) (X:List AC) (LR Is:Fn) (Y:AC):Option (Nat×List AC):=
 (L0 [.vC Ah v2,I v9,I v5]).bind λG=>
 (a1 [.vC Aj v0, .vC kPt v1, .vC Ah v2,I v3,L,M,I v9, .vC Ah v7,I v8,I v9, .vC kPt (wA G 0),I (↑(wA G 0).length:Int),I 0,I v10,I v11,I v12, .vC Aj a2, .vC kPt a3,N,O,S,T,U,V,I 0,I 0,I 0,I 0,I v9,jA X 0,Y]).bind λD=>
 cond (D.1.beq 1) (some (1,[jA D.2 0,jA D.2 1,jA D.2 2,jA D.2 3])) (cond (D.1.beq 2) ((LR [.vC Ah (wA D.2 2),jA D.2 6]).bind λa0=>
 cond (decide (gA a0 0>=0)) (Qml Is D (jA D.2 6)) (Qml Is D (I (-1)))) (none))
abbrev Qef (Tl:Fn) (X:Rw) (Y:Int) (Uq L0:Fn) (v2:Rw) (v5:Int) (a0:Lp) (v0 v1:Rw) (v3 v8 v10 v11 v12:Int) (a1 a2:Rw) (LR Is:Fn) (D G L M N O S T:AC):Option (Nat×List AC):=
 (Tl (AM Ah (nth [] X Y.toNat)++[D])).bind λU=>
 (Uq (AM Ah (nth [] X Y.toNat))).bind λa3=>
 cond (bA a3 0) (Qlt L0 v2 Y v5 a0 v0 v1 v3 D G X v8 v10 v11 v12 a1 a2 L M N O S T U LR Is (I (mn (V (gA (nth [] X Y.toNat) 14*16)) 16777216))) (Qlt L0 v2 Y v5 a0 v0 v1 v3 D G X v8 v10 v11 v12 a1 a2 L M N O S T U LR Is (I 0))
abbrev Z4p (a7:Fn) (G:Rw) (D:Int) (a8:Fn) (v1:Rw) (U:Int) (v0 v2:Rw) (v5:Int) (v6:Bool) (v8 v10 v11 v12:Int) (S T:Rw) (X Y a0 a1 a2 v20:Int) (a3 Tl Uq L0:Fn) (a4:Lp) (LR Is:Fn) (a5 N:AC):Option (Nat×List AC):=
 (a7 [jA (nth [] G D.toNat) 0]).bind λa6=>
 cond (!bA a6 0) ((a8 (AM Ah (nth [] G D.toNat))).bind λO=>
 cond (((v1++[[I U,jA O 0,I D]]).length*24).ble 140737488355328) (some (0,[.vC Aj v0, .vC kPt (v1++[[I U,jA O 0,I D]]), .vC Ah v2,I U,a5,I v5,B v6, .vC Ah G,I v8,I (V (D+1)),I v10,I v11,I v12, .vC Aj S, .vC kPt T,I X,I Y,I a0,I a1,I a2,I v20])) (none)) (cond (!v6) ((a3 [jA (nth [] G D.toNat) 2,jA (nth [] G D.toNat) 3,jA (nth [] G D.toNat) 4]).bind λL=>
 (a3 [jA (nth [] G D.toNat) 2,jA (nth [] G D.toNat) 3,jA (nth [] G D.toNat) 4]).bind λM=>
 Qef Tl G D Uq L0 v2 v5 a4 v0 v1 U v8 v10 v11 v12 S T LR Is N (B true) (jA L 0) (jA L 1) (jA L 2) (jA M 0) (jA M 1) (jA M 2)) (Qef Tl G D Uq L0 v2 v5 a4 v0 v1 U v8 v10 v11 v12 S T LR Is N (B v6) (I X) (I Y) (I a0) (I a1) (I a2) (I v20)))
def Qy0:Sk:=⟨[tf [ci],TS.v true ([sa kPt,sa Aa]++cc 7)],[],[]⟩
def Zbq:Sk:=⟨[tf [CS.str]],[],[]⟩
def Qee (D:Fn):Cfg:=cf [(122,Ac Q2w Qw8 D)]
def Quj:Sk:=⟨[td,td,td,td,td,tf [CS.str]]++dd 20++[tf [sa Aa],tf [ci],tf [ci]]++dd 11,[],[]⟩
def Qxj:List (Ex×Sk):=[(Ex.exit 0,⟨[td,td,td,td,td,tf [CS.str]]++dd 34,[],[]⟩)]
def RB (D:Fn):Lp:=AL PG (Qee D) 64 3 (AN PG 76 3) Quj Qxj
def Qz7 (D:Fn) (G:Lp):Cfg:=(Qee D).loop 3 Quj Qxj G
def XJ (D:Fn) (G:Lp):Fn:=An PG (Qz7 D G) 64 76 Qy0 Zbq
theorem Zsu (O:Fn) (L:ByteArray) (M:Rw) (N G:Int):RB O [AC.raw (Go.Value.string L), .vC Aa M,I N,I G]=
 cond (decide (G<N)) (cond (decide (0<=G)&&decide (G<(M.length:Int))) ((O [jA (nth [] M G.toNat) 0]).bind λD=>
 cond (((ByteArray.mk #[32,111,117,116,112,117,116]).size+(A7 (nth .vD D 0)).size).ble 9223372036854775807) (cond (((A7 (AC.raw (Value.string L))).size+((ByteArray.mk #[32,111,117,116,112,117,116])++A7 (nth .vD D 0)).size).ble 9223372036854775807) (some (0,[AC.raw (Value.string (A7 (AC.raw (Value.string L))++((ByteArray.mk #[32,111,117,116,112,117,116])++A7 (nth .vD D 0)))), .vC Aa M,I N,I (V (G+1))])) (none)) (none)) (none)) (some (1,[AC.raw (Value.string (A7 (AC.raw (Value.string L))))])):=by kernel_rfl
theorem Zu3 (N:Fn) (T:Lp) (U:Int) (x1 S:Rw) (V X x5 x6 x7 x8 Y:Int):XJ N T [I U, .vC kPt x1, .vC Aa S,I V,I X,I x5,I x6,I x7,I x8,I Y]=
 (N [I U]).bind λD=>
 cond (((A7 (nth .vD D 0)).size+(ByteArray.mk #[32,109,111,100,101]).size).ble 9223372036854775807) ((N [I V]).bind λG=>
 cond (((A7 (nth .vD D 0)++(ByteArray.mk #[32,109,111,100,101])).size+(A7 (nth .vD G 0)).size).ble 9223372036854775807) (cond (((A7 (nth .vD D 0)++(ByteArray.mk #[32,109,111,100,101])++A7 (nth .vD G 0)).size+(ByteArray.mk #[32,97,116]).size).ble 9223372036854775807) ((N [I X]).bind λL=>
 cond (((A7 (nth .vD D 0)++(ByteArray.mk #[32,109,111,100,101])++A7 (nth .vD G 0)++(ByteArray.mk #[32,97,116])).size+(A7 (nth .vD L 0)).size).ble 9223372036854775807) (cond (((A7 (nth .vD D 0)++(ByteArray.mk #[32,109,111,100,101])++A7 (nth .vD G 0)++(ByteArray.mk #[32,97,116])++A7 (nth .vD L 0)).size+(ByteArray.mk #[32,102,97,117,108,116]).size).ble 9223372036854775807) ((N [I Y]).bind λO=>
 cond (((A7 (nth .vD D 0)++(ByteArray.mk #[32,109,111,100,101])++A7 (nth .vD G 0)++(ByteArray.mk #[32,97,116])++A7 (nth .vD L 0)++(ByteArray.mk #[32,102,97,117,108,116])).size+(A7 (nth .vD O 0)).size).ble 9223372036854775807) ((T [AC.raw (Value.string (A7 (nth .vD D 0)++(ByteArray.mk #[32,109,111,100,101])++A7 (nth .vD G 0)++(ByteArray.mk #[32,97,116])++A7 (nth .vD L 0)++(ByteArray.mk #[32,102,97,117,108,116])++A7 (nth .vD O 0))), .vC Aa S,I (S.length:Int),I 0]).bind λM=>
 cond (M.1.beq 1) (cond (((A7 (nth .vD M.2 0)).size+(ByteArray.mk #[10]).size).ble 9223372036854775807) (some [AC.raw (Value.string (A7 (nth .vD M.2 0)++(ByteArray.mk #[10])))]) (none)) (none)) (none)) (none)) (none)) (none)) (none)) (none):=by kernel_rfl
def Q3h:=Am (RB LN)
def Qbg:=XJ LN Q3h
theorem Qzw:Ai PG (Qee LN):=Ao rfl ⟨Z18,trivial⟩
theorem Z8p:Al PG (76,Ac Qy0 Zbq Qbg):=rw2 (C:=Qz7 LN Q3h) (fl fb Qzw) Qzw
attribute [go_sem] PN Qq0 Zdc Qj6 Z97 Qml Qlt Qef Z4p
end Go.Bm
