/- functions of the program and of the references, as models -/
import Derived.Test.YtnnpdlgenmnekaaGreatDoorMx2
set_option linter.unusedSimpArgs false
set_option linter.unusedVariables false
set_option maxRecDepth 100000
noncomputable section
open Go.IntKind (wrap)
namespace Go.Bm
open Go.Proofs
abbrev P0 (Hf:Fn) (x2 x6:Int) (G5:Fn) (x3 x7:Int) (O T:Bool) (M D N:AC):Option (List AC):=
 cond (O) (cond (T) (some [I 0,I 0,I 0,I 0,B false]) ((Hf [I x2,I x6]).bind λG=>
 (G5 [M,jA G 0,D]).bind λU=>
 (G5 [N,jA G 0,D]).bind λV=>
 (Hf [I x3,I x7]).bind λX=>
 some [jA U 0,jA V 0,jA G 0,jA X 0,B true])) ((Hf [I x2,I x6]).bind λL=>
 (G5 [M,jA L 0,D]).bind λY=>
 (G5 [N,jA L 0,D]).bind λa0=>
 (Hf [I x3,I x7]).bind λa1=>
 some [jA Y 0,jA a0 0,jA L 0,jA a1 0,B true])
abbrev Qo1 (Hk:Fn) (D G T U L M X Y:Int) (Hf G5:Fn) (N:Int):Option (List AC):=
 (Hk [I D,I G,I T,I U,I L,I M,I X,I Y]).bind λO=>
 cond (decide (gA O 0>0)) (P0 Hf T X G5 U Y (V (0-V (D+L))==0) (V (0-V (G+M))==0) (I (V (0-V (D+L)))) (I (V (V (V (0-V (D+L))*V (0-V (D+L)))+V (V (0-V (G+M))*V (0-V (G+M)))))) (I (V (0-V (G+M))))) (P0 Hf T X G5 U Y (V (N*V (M-G))==0) (V (N*V (D-L))==0) (I (V (N*V (M-G)))) (I (V (V (V (N*V (M-G))*V (N*V (M-G)))+V (V (N*V (D-L))*V (N*V (D-L)))))) (I (V (N*V (D-L)))))
abbrev Zch (x9:Bool) (Hf:Fn) (N O:Int) (G5:Fn) (T U D G:Int) (Hk:Fn) (L M:Int) (Nm:Fn) (x8:Int):Option (List AC):=
 cond (x9) (P0 Hf N O G5 T U (V (0-D)==0) (V (0-G)==0) (I (V (0-D))) (I (V (V (V (0-D)*V (0-D))+V (V (0-G)*V (0-G))))) (I (V (0-G)))) ((Hk [I D,I G,I N,I T,I L,I M,I O,I U]).bind λX=>
 cond (decide (gA X 0>0)) ((Nm [I D,I G,I N,I T,I L,I M,I O,I U]).bind λY=>
 cond (decide (V (gA Y 0*x8)>0)) (P0 Hf N O G5 T U (V (D+L)==0) (V (G+M)==0) (I (V (D+L))) (I (V (V (V (D+L)*V (D+L))+V (V (G+M)*V (G+M))))) (I (V (G+M)))) (Qo1 Hk D G N T L M O U Hf G5 x8)) (Qo1 Hk D G N T L M O U Hf G5 x8))
abbrev Qi2 (G:Bool) (D:List AC) (Nm Hk:Fn):Option (List AC):=
 cond (G) (cond (gA D 0==gA D 4) (some [B (gA D 1==gA D 5)]) (some [B false])) ((Nm [jA D 0,jA D 1,jA D 2,jA D 3,jA D 4,jA D 5,jA D 6,jA D 7]).bind λI=>
 cond (gA I 0 !=0) (some [B true]) ((Hk [jA D 0,jA D 1,jA D 2,jA D 3,jA D 4,jA D 5,jA D 6,jA D 7]).bind λL=>
 some [B (decide (gA L 0<0))]))
abbrev Z80 (T:Fn) (x9 N O:Int) (U:Fn) (x0 x1 x2 x3 x4 x5 x6 x7 x8 X:Int) (M:Bool) (Y:Int) (a0:Bool) (a1 a2 a3 a4 a5:Int) (a6:Bool) (Hk a7 Nm:Fn):Option (List AC):=
 (T [I x9,I N,I O]).bind λa8=>
 cond (!bA a8 0) (some [B false]) ((U [I x0,I x1,I x2,I x3,I x4,I x5,I x6,I x7,I x8,I x9,I N,I O,I X,B M,I Y,B a0,I a1,I a2,I a3,I a4,I a5,B a6]).bind λD=>
 (Hk [jA D 0,jA D 1,jA D 2,jA D 3,jA D 0,jA D 1,jA D 2,jA D 3]).bind λG=>
 (Hk [jA D 4,jA D 5,jA D 6,jA D 7,jA D 4,jA D 5,jA D 6,jA D 7]).bind λL=>
 cond (decide (gA G 0<64)) (some [B false]) (cond (decide (gA L 0<64)) (some [B false]) (cond (decide (V (V (gA G 0+gA L 0)-16)>0)) ((a7 [I (V (V (gA G 0+gA L 0)-16)),I (V (V (gA G 0+gA L 0)-16)),I (V (4*gA G 0)),jA L 0]).bind λa9=>
 cond (decide (gA a9 0>0)) (some [B false]) (Qi2 M D Nm Hk)) (Qi2 M D Nm Hk))))
abbrev Qk5 (M:Fn) (D:Nat×List AC) (L:AC):Option (Nat×List AC):=
 (M [.vC Ai (wA D.2 2),jA D.2 6]).bind λG=>
 cond (((wA D.2 1++[[jA D.2 3,jA G 0,jA D.2 6]]).length*24).ble 140737488355328) (some (0,[.vC Ah (wA D.2 0), .vC kPt (wA D.2 1++[[jA D.2 3,jA G 0,jA D.2 6]]), .vC Ai (wA D.2 2),jA D.2 3,jA D.2 4,L,B (bA D.2 5), .vC Ai (wA D.2 7),jA D.2 8,I (V (gA D.2 9+1)),jA D.2 10,jA D.2 11,jA D.2 12, .vC Ah (wA D.2 13), .vC kPt (wA D.2 14),jA D.2 15,jA D.2 16,jA D.2 17,jA D.2 18,jA D.2 19,jA D.2 20])) (none)
abbrev Qkf (Mj:Fn) (v2:Rw) (v9 v5:Int) (a2:Lp) (v0 v1:Rw) (v3:Int) (L M:AC) (v7:Rw) (v8 v10 v11 v12:Int) (a3 a4:Rw) (N O T U V X:AC) (Y:List AC) (Mb Iy:Fn) (a0:AC):Option (Nat×List AC):=
 (Mj [.vC Ai v2,I v9,I v5]).bind λG=>
 (a2 [.vC Ah v0, .vC kPt v1, .vC Ai v2,I v3,L,M,I v9, .vC Ai v7,I v8,I v9, .vC kPt (wA G 0),I (↑(wA G 0).length:Int),I 0,I v10,I v11,I v12, .vC Ah a3, .vC kPt a4,N,O,T,U,V,X,I 0,I 0,I 0,I 0,I v9,jA Y 0,a0]).bind λD=>
 cond (D.1.beq 1) (some (1,[jA D.2 0,jA D.2 1,jA D.2 2,jA D.2 3])) (cond (D.1.beq 2) ((Mb [.vC Ai (wA D.2 2),jA D.2 6]).bind λa1=>
 cond (decide (gA a1 0>=0)) (Qk5 Iy D (jA D.2 6)) (Qk5 Iy D (I (-1)))) (none))
abbrev Qdx (Tp:Fn) (Y:Rw) (v9:Int) (Uu Mj:Fn) (v2:Rw) (v5:Int) (a0:Lp) (v0 v1:Rw) (v3 v8 v10 v11 v12:Int) (a1 a2:Rw) (Mb Iy:Fn) (D G L M N O T U:AC):Option (Nat×List AC):=
 (Tp (AT Ai (nth [] Y v9.toNat)++[D])).bind λX=>
 (Uu (AT Ai (nth [] Y v9.toNat))).bind λa3=>
 cond (bA a3 0) (Qkf Mj v2 v9 v5 a0 v0 v1 v3 D G Y v8 v10 v11 v12 a1 a2 L M N O T U X Mb Iy (I (mn (V (gA (nth [] Y v9.toNat) 14*16)) 16777216))) (Qkf Mj v2 v9 v5 a0 v0 v1 v3 D G Y v8 v10 v11 v12 a1 a2 L M N O T U X Mb Iy (I 0))
abbrev Z3j (a8:Fn) (G:Rw) (D:Int) (a9:Fn) (v1:Rw) (X:Int) (v0 v2:Rw) (v5:Int) (v6:Bool) (v8 v10 v11 v12:Int) (T U:Rw) (Y a0 a1 a2 a3 v20:Int) (a4 Tp Uu Mj:Fn) (a5:Lp) (Mb Iy:Fn) (a6 N:AC):Option (Nat×List AC):=
 (a8 [jA (nth [] G D.toNat) 0]).bind λa7=>
 cond (!bA a7 0) ((a9 (AT Ai (nth [] G D.toNat))).bind λO=>
 cond (((v1++[[I X,jA O 0,I D]]).length*24).ble 140737488355328) (some (0,[.vC Ah v0, .vC kPt (v1++[[I X,jA O 0,I D]]), .vC Ai v2,I X,a6,I v5,B v6, .vC Ai G,I v8,I (V (D+1)),I v10,I v11,I v12, .vC Ah T, .vC kPt U,I Y,I a0,I a1,I a2,I a3,I v20])) (none)) (cond (!v6) ((a4 [jA (nth [] G D.toNat) 2,jA (nth [] G D.toNat) 3,jA (nth [] G D.toNat) 4]).bind λL=>
 (a4 [jA (nth [] G D.toNat) 2,jA (nth [] G D.toNat) 3,jA (nth [] G D.toNat) 4]).bind λM=>
 Qdx Tp G D Uu Mj v2 v5 a5 v0 v1 X v8 v10 v11 v12 T U Mb Iy N (B true) (jA L 0) (jA L 1) (jA L 2) (jA M 0) (jA M 1) (jA M 2)) (Qdx Tp G D Uu Mj v2 v5 a5 v0 v1 X v8 v10 v11 v12 T U Mb Iy N (B v6) (I Y) (I a0) (I a1) (I a2) (I a3) (I v20)))
def Qxm:Sk:=⟨[tf [ci],TS.v true ([sa kPt,sa Aa]++cc 7)],[],[]⟩
def Zat:Sk:=⟨[tf [CS.str]],[],[]⟩
def Qdv (D:Fn):Cfg:=cf [(122,Ac Q1k Qvl D)]
def Qsb:Sk:=⟨[td,td,td,td,td,tf [CS.str]]++dd 20++[tf [sa Aa],tf [ci],tf [ci]]++dd 11,[],[]⟩
def Qvy:List (Ex×Sk):=[(Ex.exit 0,⟨[td,td,td,td,td,tf [CS.str]]++dd 34,[],[]⟩)]
def RH (D:Fn):Lp:=A1 PG (Qdv D) 64 3 (A2 PG 76 3) Qsb Qvy
def Qys (D:Fn) (G:Lp):Cfg:=(Qdv D).loop 3 Qsb Qvy G
def XJ (D:Fn) (G:Lp):Fn:=Ao PG (Qys D G) 64 76 Qxm Zat
theorem Zrv (O:Fn) (L:ByteArray) (M:Rw) (N G:Int):RH O [AC.raw (Go.Value.string L), .vC Aa M,I N,I G]=
 cond (decide (G<N)) (cond (decide (0<=G)&&decide (G<(M.length:Int))) ((O [jA (nth [] M G.toNat) 0]).bind λD=>
 cond (((ByteArray.mk #[32,111,117,116,112,117,116]).size+(Bp (nth .vD D 0)).size).ble 9223372036854775807) (cond (((Bp (AC.raw (Value.string L))).size+((ByteArray.mk #[32,111,117,116,112,117,116])++Bp (nth .vD D 0)).size).ble 9223372036854775807) (some (0,[AC.raw (Value.string (Bp (AC.raw (Value.string L))++((ByteArray.mk #[32,111,117,116,112,117,116])++Bp (nth .vD D 0)))), .vC Aa M,I N,I (V (G+1))])) (none)) (none)) (none)) (some (1,[AC.raw (Value.string (Bp (AC.raw (Value.string L))))])):=by kernel_rfl
theorem Zt0 (N:Fn) (U:Lp) (V:Int) (x1 T:Rw) (X Y x5 x6 x7 x8 x9:Int):XJ N U [I V, .vC kPt x1, .vC Aa T,I X,I Y,I x5,I x6,I x7,I x8,I x9]=
 (N [I V]).bind λD=>
 cond (((Bp (nth .vD D 0)).size+(ByteArray.mk #[32,109,111,100,101]).size).ble 9223372036854775807) ((N [I X]).bind λG=>
 cond (((Bp (nth .vD D 0)++(ByteArray.mk #[32,109,111,100,101])).size+(Bp (nth .vD G 0)).size).ble 9223372036854775807) (cond (((Bp (nth .vD D 0)++(ByteArray.mk #[32,109,111,100,101])++Bp (nth .vD G 0)).size+(ByteArray.mk #[32,97,116]).size).ble 9223372036854775807) ((N [I Y]).bind λL=>
 cond (((Bp (nth .vD D 0)++(ByteArray.mk #[32,109,111,100,101])++Bp (nth .vD G 0)++(ByteArray.mk #[32,97,116])).size+(Bp (nth .vD L 0)).size).ble 9223372036854775807) (cond (((Bp (nth .vD D 0)++(ByteArray.mk #[32,109,111,100,101])++Bp (nth .vD G 0)++(ByteArray.mk #[32,97,116])++Bp (nth .vD L 0)).size+(ByteArray.mk #[32,102,97,117,108,116]).size).ble 9223372036854775807) ((N [I x9]).bind λO=>
 cond (((Bp (nth .vD D 0)++(ByteArray.mk #[32,109,111,100,101])++Bp (nth .vD G 0)++(ByteArray.mk #[32,97,116])++Bp (nth .vD L 0)++(ByteArray.mk #[32,102,97,117,108,116])).size+(Bp (nth .vD O 0)).size).ble 9223372036854775807) ((U [AC.raw (Value.string (Bp (nth .vD D 0)++(ByteArray.mk #[32,109,111,100,101])++Bp (nth .vD G 0)++(ByteArray.mk #[32,97,116])++Bp (nth .vD L 0)++(ByteArray.mk #[32,102,97,117,108,116])++Bp (nth .vD O 0))), .vC Aa T,I (T.length:Int),I 0]).bind λM=>
 cond (M.1.beq 1) (cond (((Bp (nth .vD M.2 0)).size+(ByteArray.mk #[10]).size).ble 9223372036854775807) (some [AC.raw (Value.string (Bp (nth .vD M.2 0)++(ByteArray.mk #[10])))]) (none)) (none)) (none)) (none)) (none)) (none)) (none)) (none):=by kernel_rfl
def Q18:=Am (RH L8)
def Qa2:=XJ L8 Q18
theorem Qyh:Ak PG (Qdv L8):=Ap rfl ⟨Z03,trivial⟩
theorem Z7i:An PG (76,Ac Qxm Zat Qa2):=rw2 (C:=Qys L8 Q18) (fl fb Qyh) Qyh
attribute [go_sem] P0 Qo1 Zch Qi2 Z80 Qk5 Qkf Qdx Z3j
end Go.Bm
