/- functions of the program and of the references, as models -/
import Derived.Test.YtnnpdlgenmnekaaGreatDoorMx1
set_option linter.unusedSimpArgs false
set_option linter.unusedVariables false
set_option maxRecDepth 100000
noncomputable section
open Go.IntKind (wrap)
namespace Go.Bm
open Go.Proofs
abbrev Uk (L:Int) (N:Fn) (c:Cv) (K:Kf) (A:List AC) (D:AC):Option (List AC):=
 cond (decide (V (L.tdiv 1048576)=(↑0:Int))) ((N [I c.g0,I c.g1,I c.g2,I K.lag,jA A 0,jA A 1,jA A 2,D,jA A 1,jA A 2]).bind λE=>
 some (BB K {c with g0:=gA E 0,g1:=gA E 1,g2:=gA E 2})) (cond (decide (V (L.tdiv 1048576)=(↑(0+1):Int))) ((N [I c.g0,I c.g1,I c.g2,I K.lag,jA A 0,jA A 1,jA A 2,jA A 0,D,jA A 2]).bind λG=>
 some (BB K {c with g0:=gA G 0,g1:=gA G 1,g2:=gA G 2})) (cond (decide (V (L.tdiv 1048576)=(↑(0+1+1):Int))) ((N [I c.g0,I c.g1,I c.g2,I K.lag,jA A 0,jA A 1,jA A 2,jA A 0,jA A 1,D]).bind λJ=>
 some (BB K {c with g0:=gA J 0,g1:=gA J 1,g2:=gA J 2})) (none)))
abbrev Q5 (T:Int) (U X:Rw) (Y v6 v7 v8 v9 v10 v11:Int) (v12 D:Rw) (E G J L N v20 v1 v2 S:Int) (O:Bool) (Q:AC) (A:List AC):Option (Nat×List AC):=
 cond (O) (some (1,(I T:: .vC kPt U:: .vC kInts X::I Y::I v6::I v7::I v8::I v9::I v10::I v11:: .vC kPt v12:: .vC kInts D::Q::I E::I G::I J::I L::I N::I v20::A))) (some (0,(I T::I v1::I (V (v2+1)):: .vC kPt U:: .vC kInts X::I Y::I v6::I v7::I v8::I v9::I v10::I v11:: .vC kPt v12:: .vC kInts D::I S::I E::I G::I J::I L::I N::I v20::A)))
abbrev JA (O:Lp) (G:Nat×List AC) (S Q:Fn) (J:AC) (L:List AC):Option (List AC):=
 (O (J::I (↑5:Int)::I 0:: .vC kPt (wA G.2 0):: .vC kInts (wA G.2 1)::jA G.2 2::jA G.2 3::jA G.2 4::jA G.2 5::jA G.2 6::jA G.2 7::jA G.2 8:: .vC kPt []:: .vC kInts []::I 0::I 0::I 0::I 0::I 0::I 0::I 0::L)).bind λA=>
 cond (A.1.beq 1) (cond (gA A.2 12==0) ((S (cR 19 A.2)).bind λN=>
 (Q (jA A.2 0::(cR 1 N++[.vC kPt (wA A.2 10), .vC kInts (wA A.2 11),jA N 0,jA A.2 13,jA A.2 14,jA A.2 15,jA A.2 16,jA A.2 17,jA A.2 18]))).bind λD=>
 some (.vC kPt (wA D 90):: .vC kInts (wA D 91)::jA D 92::jA D 93::jA D 94::jA D 95::jA D 96::jA D 97::jA D 98::cR 0 D)) ((Q (jA A.2 0::(cR 19 A.2++[.vC kPt (wA A.2 10), .vC kInts (wA A.2 11),jA A.2 12,jA A.2 13,jA A.2 14,jA A.2 15,jA A.2 16,jA A.2 17,jA A.2 18]))).bind λE=>
 some (.vC kPt (wA E 90):: .vC kInts (wA E 91)::jA E 92::jA E 93::jA E 94::jA E 95::jA E 96::jA E 97::jA E 98::cR 0 E))) (none)
abbrev Ua (V:Fn) (A:Nat×List AC) (X Q S:Fn) (E:Lp) (T U:Fn):Option (List AC):=
 (V (DL (cR 9 A.2) [(58,B true),(86,jA A.2 76)])).bind λG=>
 cond (!bA G 0) ((X [jA A.2 73,jA A.2 74,jA A.2 75,jA A.2 76,jA A.2 42]).bind λD=>
 (Q (DL (cR 9 A.2) [(58,B true),(64,jA D 0),(65,jA D 1),(66,jA D 2),(67,jA D 3),(86,jA A.2 76)])).bind λJ=>
 (S [jA A.2 59,jA A.2 60,jA A.2 61,jA A.2 62,jA A.2 63,jA A.2 64]).bind λL=>
 JA E A T U (jA J 0) (DL (cR 9 A.2) [(58,B true),(64,jA D 0),(65,jA D 1),(66,jA D 2),(67,jA D 3),(86,jA A.2 76),(88,B (bA L 0))])) ((Q (DL (cR 9 A.2) [(58,B true),(86,jA A.2 76)])).bind λN=>
 (S [jA A.2 59,jA A.2 60,jA A.2 61,jA A.2 62,jA A.2 63,jA A.2 64]).bind λO=>
 JA E A T U (jA N 0) (DL (cR 9 A.2) [(58,B true),(86,jA A.2 76),(88,B (bA O 0))]))
abbrev Ru (U:Fn) (T:Rw) (D:Int) (G:Rw) (A:Int) (J:Rw) (L N O:Int) (Q:Bool) (S E:Int):Option (List AC):=
 (U [jA (nth [] T D.toNat) 0]).bind λo6=>
 cond (bA o6 0) (cond (((G++[[I A,I 2,I D]]).length*24).ble 140737488355328) (some [.vC A8 J, .vC kPt (G++[[I A,I 2,I D]]),I L,I N,I O,B Q,I A,I S,I E]) (none)) (cond (gA (nth [] T D.toNat) 0==10) (cond (((G++[[I A,I 5,I D]]).length*24).ble 140737488355328) (some [.vC A8 J, .vC kPt (G++[[I A,I 5,I D]]),I L,I N,I O,B Q,I A,I S,I E]) (none)) (cond (gA (nth [] T D.toNat) 0==13) (cond (((G++[[I A,I 4,I D]]).length*24).ble 140737488355328) (some [.vC A8 J, .vC kPt (G++[[I A,I 4,I D]]),I L,I N,I O,B Q,I A,I S,I E]) (none)) (cond (((G++[[I A,I 3,I D]]).length*24).ble 140737488355328) (some [.vC A8 J, .vC kPt (G++[[I A,I 3,I D]]),I L,I N,I O,B Q,I A,I S,I E]) (none))))
abbrev QL (Q:Int) (N:List AC) (L:Fn) (A O:List AC):Option (List AC):=
 cond (Q==2) (cond (decide (gA N 0>0)) ((L [U (wrap .u64 (gA A 0+1)),B false]).bind λD=>
 some [jA D 0,B (bA D 1)]) (cond (decide (gA O 0>gA A 0)) ((L [U (wrap .u64 (gA A 0+1)),B false]).bind λE=>
 some [jA E 0,B (bA E 1)]) ((L [U (gA A 0),B false]).bind λG=>
 some [jA G 0,B (bA G 1)]))) ((L [U (gA A 0),B false]).bind λJ=>
 some [jA J 0,B (bA J 1)])
abbrev OW (A:Bool) (Y x1:Rw) (x2 x3 x4 D E G J L N:Int) (QH:Fn) (x9 O Q:Int) (S:Bool) (T U X:AC):Option (List AC):=
 cond (!A) (some [.vC A8 Y, .vC kPt x1,I x2,I x3,I x4,B true,I D,I E,I G]) (cond (S) (some [.vC A8 Y, .vC kPt x1,I J,I L,I N,B A,I D,I E,I G]) ((QH [T,U,X,I x2,I x3,I x4]).bind λo2=>
 cond (((Y++[[I x2,I x3,I x4,jA o2 0,I x9,I O,I Q]]).length*56).ble 140737488355328) (some [.vC A8 (Y++[[I x2,I x3,I x4,jA o2 0,I x9,I O,I Q]]), .vC kPt x1,I J,I L,I N,B A,I (V (D+gA o2 0)),I E,I G]) (none)))
abbrev QW (Y:Fn) (x3:Int) (T:Fn) (D:List AC) (E:Bool) (G A J L:AC):Option (List AC):=
 cond (E) ((Y [I x3,G,B true,A]).bind λV=>
 cond (bA V 0) ((T [U (wrap .u64 (wrap .u64 ((gA D 0).tdiv 2)+1)),A]).bind λN=>
 some [jA N 0,B (bA N 1)]) ((T [U (wrap .u64 ((gA D 0).tdiv 2)),A]).bind λO=>
 some [jA O 0,B (bA O 1)])) ((Y [I x3,J,L,A]).bind λX=>
 cond (bA X 0) ((T [U (wrap .u64 (wrap .u64 ((gA D 0).tdiv 2)+1)),A]).bind λQ=>
 some [jA Q 0,B (bA Q 1)]) ((T [U (wrap .u64 ((gA D 0).tdiv 2)),A]).bind λS=>
 some [jA S 0,B (bA S 1)]))
abbrev GZ (o1:List AC) (G:Int) (A D E:AC):Option (List AC):=
 cond (decide (gA o1 2=(↑0:Int))) (some [I G,A,D]) (cond (decide (gA o1 2=(↑(0+1):Int))) (some [E,I G,D]) (cond (decide (gA o1 2=(↑(0+1+1):Int))) (some [E,A,I G]) (none)))
abbrev OL (o1:List AC) (G J:Int) (A D E:AC):Option (List AC):=
 cond (decide (gA o1 1=(↑0:Int))) (GZ o1 G A D (I J)) (cond (decide (gA o1 1=(↑(0+1):Int))) (GZ o1 G (I J) D E) (cond (decide (gA o1 1=(↑(0+1+1):Int))) (GZ o1 G A (I J) E) (none)))
abbrev Gh (o1:List AC) (A:AC) (E G J:Int) (D:AC):Option (List AC):=
 cond (decide (gA o1 2=(↑0:Int))) (some [A,D,I E]) (cond (decide (gA o1 2=(↑(0+1):Int))) (some [A,D,I G]) (cond (decide (gA o1 2=(↑(0+1+1):Int))) (some [A,D,I J]) (none)))
abbrev Qn (o1:List AC) (D E G:Int) (A:AC):Option (List AC):=
 cond (decide (gA o1 1=(↑0:Int))) (Gh o1 A D E G (I D)) (cond (decide (gA o1 1=(↑(0+1):Int))) (Gh o1 A D E G (I E)) (cond (decide (gA o1 1=(↑(0+1+1):Int))) (Gh o1 A D E G (I G)) (none)))
abbrev If (O:Fn) (D:AC) (G J:Int) (A E:AC) (Q S:Int):Option (List AC):=
 (O [D,I ((V (V (G+J)+1)).fdiv (2^min (Int.toNat 1) IntKind.i64.bits)),A,I 2]).bind λL=>
 (O [E,I ((V (V (G+J)+1)).fdiv (2^min (Int.toNat 1) IntKind.i64.bits)),A,I 2]).bind λN=>
 some [jA L 0,jA N 0,I ((V (V (G+J)+1)).fdiv (2^min (Int.toNat 1) IntKind.i64.bits)),I ((V (V (Q+S)+1)).fdiv (2^min (Int.toNat 1) IntKind.i64.bits)),B true]
abbrev FN (L:Fn) (N O Q S:Int) (G J:Bool) (A D E:AC):Option (List AC):=
 cond (G) (cond (J) (some [I 0,I 0,I 0,I 0,B false]) (If L A N O D E Q S)) (If L A N O D E Q S)
abbrev PE (X:Bool) (S:Fn) (L N O Q A D:Int) (Y:Fn) (E G J:Int) (Jt:Fn):Option (List AC):=
 cond (X) (FN S L N O Q (V (0-A)==0) (V (0-D)==0) (I (V (0-A))) (I (V (V (V (0-A)*V (0-A))+V (V (0-D)*V (0-D))))) (I (V (0-D)))) ((Y [I A,I D,I L,I O,I E,I G,I N,I Q]).bind λT=>
 cond (decide (gA T 0<=0)) (FN S L N O Q (V (J*V (G-D))==0) (V (J*V (A-E))==0) (I (V (J*V (G-D)))) (I (V (V (V (J*V (G-D))*V (J*V (G-D)))+V (V (J*V (A-E))*V (J*V (A-E)))))) (I (V (J*V (A-E))))) ((Jt [I A,I D,I L,I O,I E,I G,I N,I Q]).bind λU=>
 cond (decide (V (gA U 0*J)<=0)) (FN S L N O Q (V (0-V (A+E))==0) (V (0-V (D+G))==0) (I (V (0-V (A+E)))) (I (V (V (V (0-V (A+E))*V (0-V (A+E)))+V (V (0-V (D+G))*V (0-V (D+G)))))) (I (V (0-V (D+G))))) (FN S L N O Q (V (A+E)==0) (V (D+G)==0) (I (V (A+E))) (I (V (V (V (A+E)*V (A+E))+V (V (D+G)*V (D+G))))) (I (V (D+G))))))
abbrev Sd (Rf OC:Fn) (D v8 v0 v1 v2 v3 v4 v5 v6 v7 v9 v10 v11 v12 E G J L N O v20 v21:Int) (v22:Bool) (Q:Int) (v24:Bool) (v25 S v27 v28 T:Int) (v30:Bool) (v31 U v33 X v35 v36 v37 v38 a2 v44 a3 v46 a4 v40 a5 v42:Int) (Y a0 a1:AC):Option (Nat×List AC):=
 (Rf [Y,a0,a1]).bind λo9=>
 (OC [jA o9 0,jA o9 1,jA o9 2,I D]).bind λA=>
 cond (decide (v8=(↑0:Int))) (some (0,[I v0,I v1,I v2,I v3,I v4,I v5,I v6,I v7,I (V (v8+1)),I v9,I v10,I v11,I v12,I E,I G,I J,I L,I D,I N,I O,I v20,I v21,B v22,I Q,B v24,I v25,I S,I v27,I v28,I T,B v30,I v31,I U,I v33,I X,I v35,I v36,I v37,I v38,I (V (gA A 0-v0)),I (V (gA A 1-v1)),I 0,jA A 2,I a2,I v44,I a3,I v46])) (cond (decide (v8=(↑(0+1):Int))) (some (0,[I v0,I v1,I v2,I v3,I v4,I v5,I v6,I v7,I (V (v8+1)),I v9,I v10,I v11,I v12,I E,I G,I J,I L,I D,I N,I O,I v20,I v21,B v22,I Q,B v24,I v25,I S,I v27,I v28,I T,B v30,I v31,I U,I v33,I X,I v35,I v36,I v37,I v38,I a4,I v40,I a5,I v42,I (V (gA A 0-v0)),I (V (gA A 1-v1)),I 0,jA A 2])) (none))
abbrev RJ (QR:Fn) (x9 D E:Int) (OH:Fn) (x0 x1 x2 x3 x4 x5 x6 x7 x8 N:Int) (G:Bool) (O:Int) (Q:Bool) (S T U X Y:Int) (a0:Bool) (F1 Uz Jt:Fn):Option (List AC):=
 (QR [I x9,I D,I E]).bind λa1=>
 cond (!bA a1 0) (some [B false]) ((OH [I x0,I x1,I x2,I x3,I x4,I x5,I x6,I x7,I x8,I x9,I D,I E,I N,B G,I O,B Q,I S,I T,I U,I X,I Y,B a0]).bind λA=>
 (F1 [jA A 0,jA A 1,jA A 2,jA A 3,jA A 0,jA A 1,jA A 2,jA A 3]).bind λJ=>
 (F1 [jA A 4,jA A 5,jA A 6,jA A 7,jA A 4,jA A 5,jA A 6,jA A 7]).bind λL=>
 cond (decide (gA J 0<V (128*128))) (some [B false]) (cond (decide (gA L 0<V (128*128))) (some [B false]) ((Uz [I (V ((gA J 0).tdiv 256)),I (V ((gA L 0).tdiv 256))]).bind λa2=>
 cond (!bA a2 0) (some [B false]) (cond (G) (cond (gA A 0==gA A 4) (some [B (gA A 1==gA A 5)]) (some [B false])) ((Jt [jA A 0,jA A 1,jA A 2,jA A 3,jA A 4,jA A 5,jA A 6,jA A 7]).bind λa3=>
 cond (gA a3 0 !=0) (some [B true]) ((F1 [jA A 0,jA A 1,jA A 2,jA A 3,jA A 4,jA A 5,jA A 6,jA A 7]).bind λa4=>
 some [B (decide (gA a4 0<0))]))))))
abbrev QU (Q:Fn) (O:Rw) (G S:Int) (T:Lp) (U V:Rw) (J:List AC) (X Y x7:Int) (x8:Bool) (x9 L N:Int) (D:AC):Option (List AC):=
 (Q [.vC Bj O,I G,I S]).bind λE=>
 (T (.vC A8 U:: .vC kPt V:: .vC kPt (wA E 0)::I (↑(wA E 0).length:Int)::I 0::(Ap Bj (nth [] O G.toNat)++[I 0,I 0,I 0,I 0,I G,jA J 0,D,I X,I Y,I x7,B x8,I x9,I L,I N]))).bind λA=>
 cond (A.1.beq 1) (some [.vC A8 (wA A.2 0), .vC kPt (wA A.2 1),B (decide ((↑(wA A.2 0).length:Int)<=1048576)),jA A.2 2,jA A.2 3,jA A.2 4,B (bA A.2 5),jA A.2 6,jA A.2 7,jA A.2 8]) (none)
abbrev Pi (E A D:Int):Option (List AC):=
 cond (E==8) (cond (decide (A<3)) (some [I 1]) (cond (decide (A>5)) (some [I 1]) (cond (decide (D<0)) (some [I 1]) (cond (decide (D>30000)) (some [I 1]) (some [I 0]))))) (some [I 0])
abbrev FK (O:Fn) (Q S L:Rw) (J T U X:Int) (v10:Bool) (v11:Int) (E:AC) (N:Int) (Y:Fn) (v4:Rw) (v5:Int) (G:AC):Option (Nat×List AC):=
 (O [.vC A8 Q, .vC kPt S, .vC Bj L,I J,G,I T,I U,I X,B v10,I v11,E,I N]).bind λA=>
 cond (!bA A 2) (some (1,[.vC A8 (wA A 0), .vC kPt (wA A 1),I 10,jA A 3,jA A 4,jA A 5,B (bA A 6),jA A 7,jA A 8,jA A 9])) ((Y [.vC A8 (wA A 0), .vC kPt (wA A 1), .vC Bj L,I J,jA A 3,jA A 4,jA A 5,B (bA A 6),jA A 7,jA A 8,jA A 9]).bind λD=>
 some (0,[.vC A8 (wA D 0), .vC kPt (wA D 1), .vC Bj L,I J, .vC Bj v4,I v5,I (V (J+1)),jA D 2,jA D 3,jA D 4,B (bA D 5),jA D 6,jA D 7,jA D 8]))
abbrev OV (IW:Fn) (L:Rw) (G N:Int) (Tp:Fn) (J:Rw) (ET:Fn) (O Q:Rw) (S T U:Int) (v10:Bool) (v11 E:Int) (X:Fn) (Y:Int) (PZ:Fn) (D:AC):Option (Nat×List AC):=
 (IW [jA (nth [] L G.toNat) 0]).bind λa0=>
 cond (bA a0 0) (cond (decide (N>=0)) ((Tp [.vC Bj J,I N]).bind λa1=>
 cond (!bA a1 0) (FK ET O Q J G S T U v10 v11 D E X L Y (I (-1))) ((PZ [.vC Bj J,I N]).bind λa2=>
 cond (gA a2 0 !=G) (FK ET O Q J G S T U v10 v11 D E X L Y (I (-1))) (FK ET O Q J G S T U v10 v11 D E X L Y (I N)))) (FK ET O Q J G S T U v10 v11 D E X L Y (I N))) ((X [.vC A8 O, .vC kPt Q, .vC Bj J,I G,I S,I T,I U,B v10,I v11,D,I E]).bind λA=>
 some (0,[.vC A8 (wA A 0), .vC kPt (wA A 1), .vC Bj J,I N, .vC Bj L,I Y,I (V (G+1)),jA A 2,jA A 3,jA A 4,B (bA A 5),jA A 6,jA A 7,jA A 8]))
def Hz:Sk:=⟨[TS.v true (cc 9++[sc kInts]++cc 9++[sc kInts]++cc 9++[sc kInts]++cc 5),tf [sc Bj],tf [sc kPt],tf [ci]],[],[]⟩
def Ja:Sk:=⟨[TS.tup [(false,[sc [Kd.sl kPt,Kd.sl kInts,kI,kI,kI,kI,kI,kI,kI]]),(false,[ci])]],[],[]⟩
def RT:=q7 18 Hz Ja
def IA (A:Fn):Cfg:=cf [(122,Aj Md KY A)]
def K3:List (Ex×Sk):=[(Ex.exit 0,⟨[td,td,td,td,td,tf [CS.str]]++dd 34,[],[]⟩)]
def F8 (A:Fn):Lp:=Cm PG (IA A) 64 3 (Ck PG 76 3) NB K3
def LF (A:Fn) (D:Lp):Cfg:=(IA A).loop 3 NB K3 D
def Gk (A:Fn) (D:Lp):Fn:=Bh PG (LF A D) 64 76 Is Ez
theorem Iq (L:Fn) (E:ByteArray) (G:Rw) (J D:Int):F8 L [AC.raw (Go.Value.string E), .vC kInts G,I J,I D]=
 cond (decide (D<J)) (cond (decide (0<=D)&&decide (D<(G.length:Int))) ((L [jA (nth [] G D.toNat) 0]).bind λA=>
 cond (((ByteArray.mk #[32,111,117,116,112,117,116]).size+(Ah (nth .vD A 0)).size).ble 9223372036854775807) (cond (((Ah (AC.raw (Value.string E))).size+((ByteArray.mk #[32,111,117,116,112,117,116])++Ah (nth .vD A 0)).size).ble 9223372036854775807) (some (0,[AC.raw (Value.string (Ah (AC.raw (Value.string E))++((ByteArray.mk #[32,111,117,116,112,117,116])++Ah (nth .vD A 0)))), .vC kInts G,I J,I (V (D+1))])) (none)) (none)) (none)) (some (1,[AC.raw (Value.string (Ah (AC.raw (Value.string E))))])):=by kernel_rfl
theorem L8 (J:Fn) (O:Lp) (Q:Int) (V N:Rw) (S T X Y x7 x8 U:Int):Gk J O [I Q, .vC kPt V, .vC kInts N,I S,I T,I X,I Y,I x7,I x8,I U]=
 (J [I Q]).bind λA=>
 cond (((Ah (nth .vD A 0)).size+(ByteArray.mk #[32,109,111,100,101]).size).ble 9223372036854775807) ((J [I S]).bind λD=>
 cond (((Ah (nth .vD A 0)++(ByteArray.mk #[32,109,111,100,101])).size+(Ah (nth .vD D 0)).size).ble 9223372036854775807) (cond (((Ah (nth .vD A 0)++(ByteArray.mk #[32,109,111,100,101])++Ah (nth .vD D 0)).size+(ByteArray.mk #[32,97,116]).size).ble 9223372036854775807) ((J [I T]).bind λE=>
 cond (((Ah (nth .vD A 0)++(ByteArray.mk #[32,109,111,100,101])++Ah (nth .vD D 0)++(ByteArray.mk #[32,97,116])).size+(Ah (nth .vD E 0)).size).ble 9223372036854775807) (cond (((Ah (nth .vD A 0)++(ByteArray.mk #[32,109,111,100,101])++Ah (nth .vD D 0)++(ByteArray.mk #[32,97,116])++Ah (nth .vD E 0)).size+(ByteArray.mk #[32,102,97,117,108,116]).size).ble 9223372036854775807) ((J [I U]).bind λL=>
 cond (((Ah (nth .vD A 0)++(ByteArray.mk #[32,109,111,100,101])++Ah (nth .vD D 0)++(ByteArray.mk #[32,97,116])++Ah (nth .vD E 0)++(ByteArray.mk #[32,102,97,117,108,116])).size+(Ah (nth .vD L 0)).size).ble 9223372036854775807) ((O [AC.raw (Value.string (Ah (nth .vD A 0)++(ByteArray.mk #[32,109,111,100,101])++Ah (nth .vD D 0)++(ByteArray.mk #[32,97,116])++Ah (nth .vD E 0)++(ByteArray.mk #[32,102,97,117,108,116])++Ah (nth .vD L 0))), .vC kInts N,I (N.length:Int),I 0]).bind λG=>
 cond (G.1.beq 1) (cond (((Ah (nth .vD G.2 0)).size+(ByteArray.mk #[10]).size).ble 9223372036854775807) (some [AC.raw (Value.string (Ah (nth .vD G.2 0)++(ByteArray.mk #[10])))]) (none)) (none)) (none)) (none)) (none)) (none)) (none)) (none):=by kernel_rfl
def Mk:=AD (F8 Ey)
def Fz:=Gk Ey Mk
theorem LA:Ak PG (IA Ey):=BY rfl ⟨S5,trivial⟩
theorem T6:Av PG (76,Aj Is Ez Fz):=rw2 (C:=LF Ey Mk) (fl fb LA) LA
attribute [go_sem] Uk Q5 JA Ua Ru QL OW QW GZ OL Gh Qn If FN PE Sd RJ QU Pi FK OV
end Go.Bm
