/- functions of the program and of the references, as models -/
import Derived.Test.YtnnpdlgenmnekaaGreatDoorMx2
set_option linter.unusedSimpArgs false
set_option linter.unusedVariables false
set_option maxRecDepth 100000
noncomputable section
open Go.IntKind (wrap)
namespace Go.Bm
open Go.Proofs
def Qep:Sk:=⟨[tf [sa [Kd.sl Aa]]],[],[]⟩
def Ybf:=qa 39 Qep Qjj
def Q1y:Sk:=⟨[td,td,td,td,td,tf [sa [Kd.sl Aa]],tf [ci],tf [ci]]++dd 7,[],[]⟩
def Qv3:List (Ex×Sk):=[(Ex.ret,⟨[td,td,tf [sb]]++dd 12,[],[]⟩),(Ex.exit 0,⟨[td]++dd 14,[],[]⟩)]
def TI:Lp:=AL PG C_cncref30_SamePulses_0 64 2 (AK PG 39 2) Q1y Qv3
def Q7j (D:Lp):Cfg:=C_cncref30_SamePulses_0.loop 2 Q1y Qv3 D
def Ww (D:Lp):Fn:=An PG (Q7j D) 64 39 Qep Qjj
theorem Z2v (G:Rw) (L D:Int):TI [.vC [Kd.sl Aa] G,I L,I D]=
 cond (decide (D<L)) (cond (decide (0<=D)&&decide (D<(G.length:Int))) (cond (decide ((↑(wA (nth [] G D.toNat) 0).length:Int)>60)) (some (1,[B false])) (some (0,[.vC [Kd.sl Aa] G,I L,I (V (D+1))]))) (none)) (some (2,[])):=by kernel_rfl
theorem Z1s (G:Lp) (D:Rw):Ww G [.vC [Kd.sl Aa] D]=
 (G [.vC [Kd.sl Aa] D,I (D.length:Int),I 0]).bind λo1=>
 cond (o1.1.beq 1) (some [B (bA o1.2 0)]) (cond (o1.1.beq 2) (some [B true]) (none)):=by kernel_rfl
def Zb6:=Am (TI)
def KU:=Ww Zb6
theorem Zdh:Aj PG (C_cncref30_SamePulses_0):=Ao rfl trivial
theorem Zl5:Al PG (Ybf KU):=rw2 (C:=Q7j Zb6) (fl fb Zdh) Zdh
def Qeo:Sk:=⟨[tf [sa [Kd.sl kPt,Kd.sl Aa,kI,kI,kI,kI,kI,kI,kI]]],[],[]⟩
def Ycp:=qa 19 Qeo Qjj
def Zt:Fn:=An PG C_cncref30_SamePulses_0 64 19 Qeo Qjj
theorem Zwt (D:Rw):Zt [.vC [Kd.sl kPt,Kd.sl Aa,kI,kI,kI,kI,kI,kI,kI] D]=
 cond (decide ((D.length:Int)>0)) (cond (decide (0<=V ((D.length:Int)-1))&&decide (V ((D.length:Int)-1)<(D.length:Int))) (some [B (gA (nth [] D (V ((D.length:Int)-1)).toNat) 2==7)]) (none)) (some [B false]):=by kernel_rfl
def Qq:=Zt
theorem Zz2:Aj PG (C_cncref30_SamePulses_0):=Ao rfl trivial
theorem Zsm:Al PG (Ycp Qq):=rw1 (C:=C_cncref30_SamePulses_0) Zz2
def Zjd:=qa 120 ZM ZM
def Q96:Sk:=⟨[tf [ci],td,td,tf [ci],tf [ci]]++dd 17,[],[]⟩
def Qtl:List (Ex×Sk):=[(Ex.exit 0,⟨[td,td,td,tf [ci]]++dd 18,[],[]⟩)]
def Me:Lp:=AL PG C_cncref30_SamePulses_0 64 3 (AK PG 120 3) Q96 Qtl
def Zzv (D:Lp):Cfg:=C_cncref30_SamePulses_0.loop 3 Q96 Qtl D
def Qgj (D:Lp):Fn:=An PG (Zzv D) 64 120 ZM ZM
theorem Q29 (L G D:Int):Me [I L,I G,I D]=
 cond (decide (D>0)) (cond (decide (V (V (G+D)*V (G+D))<=L)) (some (0,[I L,I (V (G+D)),I (D.fdiv (2^min (Int.toNat 1) IntKind.i64.bits))])) (some (0,[I L,I G,I (D.fdiv (2^min (Int.toNat 1) IntKind.i64.bits))]))) (some (1,[I G])):=by kernel_rfl
theorem Zr1 (D:Lp) (G:Int):Qgj D [I G]=
 (D [I G,I 0,I 1073741824]).bind λo1=>
 cond (o1.1.beq 1) (some [jA o1.2 0]) (none):=by kernel_rfl
def Z3x:=Am (Me)
def Q3v:=Qgj Z3x
def Qyx:=qa 119 Qc2 ZM
def Q19:Fn:=An PG XO 64 119 Qc2 ZM
theorem Z8x (D G L M N O:Int):Q19 [I D,I G,I L,I M,I N,I O]=
 some [I (V (V (V (0+V (V (D-M)*V (D-M)))+V (V (G-N)*V (G-N)))+V (V (L-O)*V (L-O))))]:=by kernel_rfl
def Ue:=Q19
def Zov (Ne D:Fn):Cfg:=cf [Zjd Ne,Qyx D]
def YX (Ne D:Fn):Fn:=An PG (Zov Ne D) 64 72 Qc2 ZM
theorem Zj5 (Ne D:Fn) (G L M N O S:Int):YX Ne D [I G,I L,I M,I N,I O,I S]=
 (D [I G,I L,I M,I N,I O,I S]).bind λo2=>
 (Ne [jA o2 0]).bind λo3=>
 cond (decide (V (gA o3 0*gA o3 0)<gA o2 0)) (some [I (V (gA o3 0+1))]) (some [jA o3 0]):=by kernel_rfl
def Zt5:=YX Q3v Ue
def Z4j:=qa 278 Qc2 Qay
def Q2b:Fn:=An PG C_cncref30_SamePulses_0 64 278 Qc2 Qay
theorem Zfy (D G L M N O:Int):Q2b [I D,I G,I L,I M,I N,I O]=
 some [I (V (D+M)),I (V (G+N)),I (V (L+O))]:=by kernel_rfl
def Qbb:=Q2b
def Z1m:=qa 279 Qc2 Qay
def Zbq:Fn:=An PG C_cncref30_SamePulses_0 64 279 Qc2 Qay
theorem Zih (D G L M N O:Int):Zbq [I D,I G,I L,I M,I N,I O]=
 some [I (V (D-M)),I (V (G-N)),I (V (L-O))]:=by kernel_rfl
def Td:=Zbq
def Zyi:=qa 255 Ql2 ZM
def Z4l (D G I:Fn):Cfg:=cf [Qyx D,Z4j G,Z1m I]
def Qa0 (D G I:Fn):Fn:=An PG (Z4l D G I) 64 255 Ql2 ZM
theorem Yc7 (O S D:Fn) (T U V G L M X Y x8:Int):Qa0 O S D [I T,I U,I V,I G,I L,I M,I X,I Y,I x8]=
 (D [I T,I U,I V,I G,I L,I M]).bind λo4=>
 (D [I X,I Y,I x8,I G,I L,I M]).bind λN=>
 (S [jA o4 0,jA o4 1,jA o4 2,jA N 0,jA N 1,jA N 2]).bind λo6=>
 (O [jA o6 0,jA o6 1,jA o6 2,I 0,I 0,I 0]).bind λo7=>
 some [jA o7 0]:=by kernel_rfl
def UX:=Qa0 Ue Qbb Td
def Q85 (D:Fn):Cfg:=cf [Zyi D]
def Qvh:List (Ex×Sk):=[(Ex.exit 0,⟨dd 7++[tf [ci]]++dd 22,[],[]⟩)]
def PX (D:Fn):Lp:=AL PG (Q85 D) 64 2 (AK PG 227 2) Qtr Qvh
def Zwm (D:Fn) (G:Lp):Cfg:=(Q85 D).loop 2 Qtr Qvh G
def XQ (D:Fn) (G:Lp):Fn:=An PG (Zwm D G) 64 227 Ql2 ZM
theorem Zmv (Y:Fn) (D G L M N O S T U X:Int):PX Y [I D,I G,I L,I M,I N,I O,I S,I T,I U,I X]=
 cond (decide (D<64)) ((Y [I G,I L,I M,I N,I O,I S,I T,I U,I X]).bind λo2=>
 cond (decide (gA o2 0>V (V (V (V (V (V (16*D)*D)*D)*D)*4)*4))) (some (0,[I (V (D*2)),I G,I L,I M,I N,I O,I S,I T,I U,I X])) (some (1,[I D]))) (some (1,[I D])):=by kernel_rfl
theorem Z0n (X:Fn) (D:Lp) (G L M N O S T U V:Int):XQ X D [I G,I L,I M,I N,I O,I S,I T,I U,I V]=
 (D [I 2,I G,I L,I M,I N,I O,I S,I T,I U,I V]).bind λo3=>
 cond (o3.1.beq 1) (some [jA o3.2 0]) (none):=by kernel_rfl
def Zm9:=Am (PX UX)
def Zfn:=XQ UX Zm9
def Znm:=qa 292 Qks Qol
def Qx8:Fn:=An PG C_cncref30_SamePulses_0 64 292 Qks Qol
theorem Ztq (D G:Int):Qx8 [U D,U G]=
 some [U (wrap .u64 (wrap .u64 (wrap .u64 (D.fdiv (2^min (Int.toNat 32) IntKind.u64.bits)*G.fdiv (2^min (Int.toNat 32) IntKind.u64.bits))+(wrap .u64 (wrap .u64 (D.fdiv (2^min (Int.toNat 32) IntKind.u64.bits)*wrap .u64 (↑(BitVec.ofInt IntKind.u64.bits G&&&BitVec.ofInt IntKind.u64.bits 4294967295).toNat:Int))+(wrap .u64 (wrap .u64 (↑(BitVec.ofInt IntKind.u64.bits D&&&BitVec.ofInt IntKind.u64.bits 4294967295).toNat:Int)*wrap .u64 (↑(BitVec.ofInt IntKind.u64.bits G&&&BitVec.ofInt IntKind.u64.bits 4294967295).toNat:Int))).fdiv (2^min (Int.toNat 32) IntKind.u64.bits))).fdiv (2^min (Int.toNat 32) IntKind.u64.bits))+(wrap .u64 (wrap .u64 (wrap .u64 (↑(BitVec.ofInt IntKind.u64.bits D&&&BitVec.ofInt IntKind.u64.bits 4294967295).toNat:Int)*G.fdiv (2^min (Int.toNat 32) IntKind.u64.bits))+wrap .u64 (↑(BitVec.ofInt IntKind.u64.bits (wrap .u64 (wrap .u64 (D.fdiv (2^min (Int.toNat 32) IntKind.u64.bits)*wrap .u64 (↑(BitVec.ofInt IntKind.u64.bits G&&&BitVec.ofInt IntKind.u64.bits 4294967295).toNat:Int))+(wrap .u64 (wrap .u64 (↑(BitVec.ofInt IntKind.u64.bits D&&&BitVec.ofInt IntKind.u64.bits 4294967295).toNat:Int)*wrap .u64 (↑(BitVec.ofInt IntKind.u64.bits G&&&BitVec.ofInt IntKind.u64.bits 4294967295).toNat:Int))).fdiv (2^min (Int.toNat 32) IntKind.u64.bits)))&&&BitVec.ofInt IntKind.u64.bits 4294967295).toNat:Int))).fdiv (2^min (Int.toNat 32) IntKind.u64.bits))),U (wrap .u64 (↑(BitVec.ofInt IntKind.u64.bits (wrap .u64 (wrap .u64 (wrap .u64 (wrap .u64 (↑(BitVec.ofInt IntKind.u64.bits D&&&BitVec.ofInt IntKind.u64.bits 4294967295).toNat:Int)*G.fdiv (2^min (Int.toNat 32) IntKind.u64.bits))+wrap .u64 (↑(BitVec.ofInt IntKind.u64.bits (wrap .u64 (wrap .u64 (D.fdiv (2^min (Int.toNat 32) IntKind.u64.bits)*wrap .u64 (↑(BitVec.ofInt IntKind.u64.bits G&&&BitVec.ofInt IntKind.u64.bits 4294967295).toNat:Int))+(wrap .u64 (wrap .u64 (↑(BitVec.ofInt IntKind.u64.bits D&&&BitVec.ofInt IntKind.u64.bits 4294967295).toNat:Int)*wrap .u64 (↑(BitVec.ofInt IntKind.u64.bits G&&&BitVec.ofInt IntKind.u64.bits 4294967295).toNat:Int))).fdiv (2^min (Int.toNat 32) IntKind.u64.bits)))&&&BitVec.ofInt IntKind.u64.bits 4294967295).toNat:Int))*2^min (Int.toNat 32) IntKind.u64.bits))|||BitVec.ofInt IntKind.u64.bits (wrap .u64 (↑(BitVec.ofInt IntKind.u64.bits (wrap .u64 (wrap .u64 (↑(BitVec.ofInt IntKind.u64.bits D&&&BitVec.ofInt IntKind.u64.bits 4294967295).toNat:Int)*wrap .u64 (↑(BitVec.ofInt IntKind.u64.bits G&&&BitVec.ofInt IntKind.u64.bits 4294967295).toNat:Int)))&&&BitVec.ofInt IntKind.u64.bits 4294967295).toNat:Int))).toNat:Int))]:=by kernel_rfl
def Qgf:=Qx8
def Qwg:Sk:=⟨[tf [se .u64],tf [se .u64],tf [se .u64],tf [se .u64],tf [sb]],[],[]⟩
def Z76:=qa 277 Qwg Qjj
def Z6c (LE:Fn):Cfg:=cf [Znm LE]
def Qhh (LE:Fn):Fn:=An PG (Z6c LE) 64 277 Qwg Qjj
theorem Zhy (LE:Fn) (D G I L:Int) (M:Bool):Qhh LE [U D,U G,U I,U L,B M]=
 (LE [U D,U G]).bind λo2=>
 (LE [U I,U L]).bind λo3=>
 cond (decide (gA o2 0<gA o3 0)) (some [B true]) (cond (gA o2 0==gA o3 0) (cond (decide (gA o2 1<gA o3 1)) (some [B true]) (cond (gA o2 1==gA o3 1) (some [B !M]) (some [B false]))) (some [B false])):=by kernel_rfl
def Qix:=Qhh Qgf
def Q66 (D:Fn):Cfg:=cf [Z76 D]
def Q7i:Sk:=⟨[tf [ci]]++dd 6++[tf [se .u64],tf [se .u64],tf [se .u64],tf [se .u64]]++dd 51,[],[]⟩
def Qw1:List (Ex×Sk):=[(Ex.exit 0,⟨[tf [ci]]++dd 6++[tf [se .u64],tf [se .u64],tf [se .u64]]++dd 52,[],[]⟩)]
def My (D:Fn):Lp:=AL PG (Q66 D) 64 3 (AK PG 254 3) Q7i Qw1
def Zn4 (D:Fn) (G:Lp):Cfg:=(Q66 D).loop 3 Q7i Qw1 G
def Qnj (D:Fn) (G:Lp):Fn:=An PG (Zn4 D G) 64 254 Qhc ZM
theorem Qxb (O:Fn) (N G M L D:Int):My O [I N,U G,U M,U L,U D]=
 cond (decide (D>0)) ((O [U (wrap .u64 (wrap .u64 (L+D)*wrap .u64 (L+D))),U M,U G,U G,B false]).bind λo3=>
 cond (bA o3 0) (some (0,[I N,U G,U M,U (wrap .u64 (L+D)),U (D.fdiv (2^min (Int.toNat 1) IntKind.u64.bits))])) (some (0,[I N,U G,U M,U L,U (D.fdiv (2^min (Int.toNat 1) IntKind.u64.bits))]))) (some (1,[I N,U G,U M,U L])):=by kernel_rfl
theorem Zl6 (G:Fn) (L:Lp) (D M N:Int):Qnj G L [I D,I M,I N]=
 (L [I D,U (wrap .u64 (V (mx D (V (0-D))*M))),U (wrap .u64 N),U 0,U 134217728]).bind λo4=>
 cond (o4.1.beq 1) ((G [U (wrap .u64 (wrap .u64 (wrap .u64 (2*gA o4.2 3)+1)*wrap .u64 (wrap .u64 (2*gA o4.2 3)+1))),U (gA o4.2 2),U (wrap .u64 (2*gA o4.2 1)),U (wrap .u64 (2*gA o4.2 1)),B (decide (gA o4.2 0<0))]).bind λO=>
 cond (bA O 0) (cond (decide (gA o4.2 0<0)) (some [I (V (0-V (wrap .u64 (gA o4.2 3+1))))]) (some [I (V (wrap .u64 (gA o4.2 3+1)))])) (cond (decide (gA o4.2 0<0)) (some [I (V (0-V (gA o4.2 3)))]) (some [I (V (gA o4.2 3))]))) (none):=by kernel_rfl
def Yba:=Am (My Qix)
def Us:=Qnj Qix Yba
abbrev Qd (Hn:Fn) (x2 x6:Int) (G9:Fn) (x3 x7:Int) (O S:Bool) (M D N:AC):Option (List AC):=
 cond (O) (cond (S) (some [I 0,I 0,I 0,I 0,B false]) ((Hn [I x2,I x6]).bind λG=>
 (G9 [M,jA G 0,D]).bind λT=>
 (G9 [N,jA G 0,D]).bind λU=>
 (Hn [I x3,I x7]).bind λV=>
 some [jA T 0,jA U 0,jA G 0,jA V 0,B true])) ((Hn [I x2,I x6]).bind λL=>
 (G9 [M,jA L 0,D]).bind λX=>
 (G9 [N,jA L 0,D]).bind λY=>
 (Hn [I x3,I x7]).bind λa0=>
 some [jA X 0,jA Y 0,jA L 0,jA a0 0,B true])
abbrev Qsl (Hr:Fn) (D G S T L M U X:Int) (Y G9:Fn) (N:Int):Option (List AC):=
 (Hr [I D,I G,I S,I T,I L,I M,I U,I X]).bind λO=>
 cond (decide (gA O 0>0)) (Qd Y S U G9 T X (V (0-V (D+L))==0) (V (0-V (G+M))==0) (I (V (0-V (D+L)))) (I (V (V (V (0-V (D+L))*V (0-V (D+L)))+V (V (0-V (G+M))*V (0-V (G+M)))))) (I (V (0-V (G+M))))) (Qd Y S U G9 T X (V (N*V (M-G))==0) (V (N*V (D-L))==0) (I (V (N*V (M-G)))) (I (V (V (V (N*V (M-G))*V (N*V (M-G)))+V (V (N*V (D-L))*V (N*V (D-L)))))) (I (V (N*V (D-L)))))
abbrev Zfp (x9:Bool) (Y:Fn) (N O:Int) (G9:Fn) (S T D G:Int) (Hr:Fn) (L M:Int) (Nn:Fn) (x8:Int):Option (List AC):=
 cond (x9) (Qd Y N O G9 S T (V (0-D)==0) (V (0-G)==0) (I (V (0-D))) (I (V (V (V (0-D)*V (0-D))+V (V (0-G)*V (0-G))))) (I (V (0-G)))) ((Hr [I D,I G,I N,I S,I L,I M,I O,I T]).bind λU=>
 cond (decide (gA U 0>0)) ((Nn [I D,I G,I N,I S,I L,I M,I O,I T]).bind λX=>
 cond (decide (V (gA X 0*x8)>0)) (Qd Y N O G9 S T (V (D+L)==0) (V (G+M)==0) (I (V (D+L))) (I (V (V (V (D+L)*V (D+L))+V (V (G+M)*V (G+M))))) (I (V (G+M)))) (Qsl Hr D G N S L M O T Y G9 x8)) (Qsl Hr D G N S L M O T Y G9 x8))
abbrev Qls (G:Bool) (D:List AC) (M N:Fn):Option (List AC):=
 cond (G) (cond (gA D 0==gA D 4) (some [B (gA D 1==gA D 5)]) (some [B false])) ((M [jA D 0,jA D 1,jA D 2,jA D 3,jA D 4,jA D 5,jA D 6,jA D 7]).bind λI=>
 cond (gA I 0 !=0) (some [B true]) ((N [jA D 0,jA D 1,jA D 2,jA D 3,jA D 4,jA D 5,jA D 6,jA D 7]).bind λL=>
 some [B (decide (gA L 0<0))]))
abbrev Yc5 (T:Fn) (x9 N O:Int) (U:Fn) (x0 x1 x2 x3 x4 x5 x6 x7 x8 X:Int) (M:Bool) (Y:Int) (a0:Bool) (a1 a2 a3 a4 a5:Int) (a6:Bool) (S a7 Nn:Fn):Option (List AC):=
 (T [I x9,I N,I O]).bind λa8=>
 cond (!bA a8 0) (some [B false]) ((U [I x0,I x1,I x2,I x3,I x4,I x5,I x6,I x7,I x8,I x9,I N,I O,I X,B M,I Y,B a0,I a1,I a2,I a3,I a4,I a5,B a6]).bind λD=>
 (S [jA D 0,jA D 1,jA D 2,jA D 3,jA D 0,jA D 1,jA D 2,jA D 3]).bind λG=>
 (S [jA D 4,jA D 5,jA D 6,jA D 7,jA D 4,jA D 5,jA D 6,jA D 7]).bind λL=>
 cond (decide (gA G 0<64)) (some [B false]) (cond (decide (gA L 0<64)) (some [B false]) (cond (decide (V (V (gA G 0+gA L 0)-16)>0)) ((a7 [I (V (V (gA G 0+gA L 0)-16)),I (V (V (gA G 0+gA L 0)-16)),I (V (4*gA G 0)),jA L 0]).bind λa9=>
 cond (decide (gA a9 0>0)) (some [B false]) (Qls M D Nn S)) (Qls M D Nn S))))
abbrev Qn4 (M:Fn) (D:Nat×List AC) (L:AC):Option (Nat×List AC):=
 (M [.vC Ai (wA D.2 2),jA D.2 6]).bind λG=>
 cond (((wA D.2 1++[[jA D.2 3,jA G 0,jA D.2 6]]).length*24).ble 140737488355328) (some (0,[.vC Ag (wA D.2 0), .vC kPt (wA D.2 1++[[jA D.2 3,jA G 0,jA D.2 6]]), .vC Ai (wA D.2 2),jA D.2 3,jA D.2 4,L,B (bA D.2 5), .vC Ai (wA D.2 7),jA D.2 8,I (V (gA D.2 9+1)),jA D.2 10,jA D.2 11,jA D.2 12, .vC Ag (wA D.2 13), .vC kPt (wA D.2 14),jA D.2 15,jA D.2 16,jA D.2 17,jA D.2 18,jA D.2 19,jA D.2 20])) (none)
abbrev Qnf (Ml:Fn) (v2:Rw) (v9 v5:Int) (a1:Lp) (v0 v1:Rw) (v3:Int) (L M:AC) (v7:Rw) (v8 v10 v11 v12:Int) (a2 a3:Rw) (N O S T U V:AC) (X:List AC) (Mb IG:Fn) (Y:AC):Option (Nat×List AC):=
 (Ml [.vC Ai v2,I v9,I v5]).bind λG=>
 (a1 [.vC Ag v0, .vC kPt v1, .vC Ai v2,I v3,L,M,I v9, .vC Ai v7,I v8,I v9, .vC kPt (wA G 0),I (↑(wA G 0).length:Int),I 0,I v10,I v11,I v12, .vC Ag a2, .vC kPt a3,N,O,S,T,U,V,I 0,I 0,I 0,I 0,I v9,jA X 0,Y]).bind λD=>
 cond (D.1.beq 1) (some (1,[jA D.2 0,jA D.2 1,jA D.2 2,jA D.2 3])) (cond (D.1.beq 2) ((Mb [.vC Ai (wA D.2 2),jA D.2 6]).bind λa0=>
 cond (decide (gA a0 0>=0)) (Qn4 IG D (jA D.2 6)) (Qn4 IG D (I (-1)))) (none))
abbrev Qfx (T5:Fn) (X:Rw) (Y:Int) (UZ Ml:Fn) (v2:Rw) (v5:Int) (a0:Lp) (v0 v1:Rw) (v3 v8 v10 v11 v12:Int) (a1 a2:Rw) (Mb IG:Fn) (D G L M N O S T:AC):Option (Nat×List AC):=
 (T5 (AM Ai (nth [] X Y.toNat)++[D])).bind λU=>
 (UZ (AM Ai (nth [] X Y.toNat))).bind λa3=>
 cond (bA a3 0) (Qnf Ml v2 Y v5 a0 v0 v1 v3 D G X v8 v10 v11 v12 a1 a2 L M N O S T U Mb IG (I (mn (V (gA (nth [] X Y.toNat) 14*16)) 16777216))) (Qnf Ml v2 Y v5 a0 v0 v1 v3 D G X v8 v10 v11 v12 a1 a2 L M N O S T U Mb IG (I 0))
abbrev Z7w (a7:Fn) (G:Rw) (D:Int) (a8:Fn) (v1:Rw) (U:Int) (v0 v2:Rw) (v5:Int) (v6:Bool) (v8 v10 v11 v12:Int) (S T:Rw) (X Y a0 a1 a2 v20:Int) (a3 T5 UZ Ml:Fn) (a4:Lp) (Mb IG:Fn) (a5 N:AC):Option (Nat×List AC):=
 (a7 [jA (nth [] G D.toNat) 0]).bind λa6=>
 cond (!bA a6 0) ((a8 (AM Ai (nth [] G D.toNat))).bind λO=>
 cond (((v1++[[I U,jA O 0,I D]]).length*24).ble 140737488355328) (some (0,[.vC Ag v0, .vC kPt (v1++[[I U,jA O 0,I D]]), .vC Ai v2,I U,a5,I v5,B v6, .vC Ai G,I v8,I (V (D+1)),I v10,I v11,I v12, .vC Ag S, .vC kPt T,I X,I Y,I a0,I a1,I a2,I v20])) (none)) (cond (!v6) ((a3 [jA (nth [] G D.toNat) 2,jA (nth [] G D.toNat) 3,jA (nth [] G D.toNat) 4]).bind λL=>
 (a3 [jA (nth [] G D.toNat) 2,jA (nth [] G D.toNat) 3,jA (nth [] G D.toNat) 4]).bind λM=>
 Qfx T5 G D UZ Ml v2 v5 a4 v0 v1 U v8 v10 v11 v12 S T Mb IG N (B true) (jA L 0) (jA L 1) (jA L 2) (jA M 0) (jA M 1) (jA M 2)) (Qfx T5 G D UZ Ml v2 v5 a4 v0 v1 U v8 v10 v11 v12 S T Mb IG N (B v6) (I X) (I Y) (I a0) (I a1) (I a2) (I v20)))
def Q0s:Sk:=⟨[tf [ci],TS.v true ([sa kPt,sa Aa]++cc 7)],[],[]⟩
def Zdz:Sk:=⟨[tf [CS.str]],[],[]⟩
def Qfw (D:Fn):Cfg:=cf [(122,Ad Q4w Qyy D)]
def Qv8:Sk:=⟨[td,td,td,td,td,tf [CS.str]]++dd 20++[tf [sa Aa],tf [ci],tf [ci]]++dd 11,[],[]⟩
def Qza:List (Ex×Sk):=[(Ex.exit 0,⟨[td,td,td,td,td,tf [CS.str]]++dd 34,[],[]⟩)]
def Sa (D:Fn):Lp:=AL PG (Qfw D) 64 3 (AK PG 76 3) Qv8 Qza
def Q11 (D:Fn) (G:Lp):Cfg:=(Qfw D).loop 3 Qv8 Qza G
def Yq (D:Fn) (G:Lp):Fn:=An PG (Q11 D G) 64 76 Q0s Zdz
theorem Zvi (O:Fn) (L:ByteArray) (M:Rw) (N G:Int):Sa O [AC.raw (Go.Value.string L), .vC Aa M,I N,I G]=
 cond (decide (G<N)) (cond (decide (0<=G)&&decide (G<(M.length:Int))) ((O [jA (nth [] M G.toNat) 0]).bind λD=>
 cond (((ByteArray.mk #[32,111,117,116,112,117,116]).size+(A8 (nth .vD D 0)).size).ble 9223372036854775807) (cond (((A8 (AC.raw (Value.string L))).size+((ByteArray.mk #[32,111,117,116,112,117,116])++A8 (nth .vD D 0)).size).ble 9223372036854775807) (some (0,[AC.raw (Value.string (A8 (AC.raw (Value.string L))++((ByteArray.mk #[32,111,117,116,112,117,116])++A8 (nth .vD D 0)))), .vC Aa M,I N,I (V (G+1))])) (none)) (none)) (none)) (some (1,[AC.raw (Value.string (A8 (AC.raw (Value.string L))))])):=by kernel_rfl
theorem Zxt (N:Fn) (T:Lp) (U:Int) (x1 S:Rw) (V X x5 x6 x7 x8 Y:Int):Yq N T [I U, .vC kPt x1, .vC Aa S,I V,I X,I x5,I x6,I x7,I x8,I Y]=
 (N [I U]).bind λD=>
 cond (((A8 (nth .vD D 0)).size+(ByteArray.mk #[32,109,111,100,101]).size).ble 9223372036854775807) ((N [I V]).bind λG=>
 cond (((A8 (nth .vD D 0)++(ByteArray.mk #[32,109,111,100,101])).size+(A8 (nth .vD G 0)).size).ble 9223372036854775807) (cond (((A8 (nth .vD D 0)++(ByteArray.mk #[32,109,111,100,101])++A8 (nth .vD G 0)).size+(ByteArray.mk #[32,97,116]).size).ble 9223372036854775807) ((N [I X]).bind λL=>
 cond (((A8 (nth .vD D 0)++(ByteArray.mk #[32,109,111,100,101])++A8 (nth .vD G 0)++(ByteArray.mk #[32,97,116])).size+(A8 (nth .vD L 0)).size).ble 9223372036854775807) (cond (((A8 (nth .vD D 0)++(ByteArray.mk #[32,109,111,100,101])++A8 (nth .vD G 0)++(ByteArray.mk #[32,97,116])++A8 (nth .vD L 0)).size+(ByteArray.mk #[32,102,97,117,108,116]).size).ble 9223372036854775807) ((N [I Y]).bind λO=>
 cond (((A8 (nth .vD D 0)++(ByteArray.mk #[32,109,111,100,101])++A8 (nth .vD G 0)++(ByteArray.mk #[32,97,116])++A8 (nth .vD L 0)++(ByteArray.mk #[32,102,97,117,108,116])).size+(A8 (nth .vD O 0)).size).ble 9223372036854775807) ((T [AC.raw (Value.string (A8 (nth .vD D 0)++(ByteArray.mk #[32,109,111,100,101])++A8 (nth .vD G 0)++(ByteArray.mk #[32,97,116])++A8 (nth .vD L 0)++(ByteArray.mk #[32,102,97,117,108,116])++A8 (nth .vD O 0))), .vC Aa S,I (S.length:Int),I 0]).bind λM=>
 cond (M.1.beq 1) (cond (((A8 (nth .vD M.2 0)).size+(ByteArray.mk #[10]).size).ble 9223372036854775807) (some [AC.raw (Value.string (A8 (nth .vD M.2 0)++(ByteArray.mk #[10])))]) (none)) (none)) (none)) (none)) (none)) (none)) (none)) (none):=by kernel_rfl
def Q5i:=Am (Sa L6)
def Qcu:=Yq L6 Q5i
theorem Q1p:Aj PG (Qfw L6):=Ao rfl ⟨Z5e,trivial⟩
theorem Ybq:Al PG (76,Ad Q0s Zdz Qcu):=rw2 (C:=Q11 L6 Q5i) (fl fb Q1p) Q1p
attribute [go_sem] Qd Qsl Zfp Qls Yc5 Qn4 Qnf Qfx Z7w
end Go.Bm
