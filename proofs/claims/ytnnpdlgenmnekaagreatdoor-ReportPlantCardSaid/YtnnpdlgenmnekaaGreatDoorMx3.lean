/- functions of the program and of the references, as models -/
import Derived.Test.YtnnpdlgenmnekaaGreatDoorMx2
set_option linter.unusedSimpArgs false
set_option linter.unusedVariables false
set_option linter.defProp false
set_option maxRecDepth 100000
noncomputable section
open Go.IntKind (wrap)
namespace Go.Bm
open Go.Proofs
variable {A C:Rw} {a b c d e f g h i j k l m n o p q r s t u v w:Int} {Z:Lp} {H J K G N P Q R:Fn} {X Y:Bool}
def Q2s:Sk:=⟨[tf [sa [Kd.sl Aa]]],[],[]⟩
def Zkg:=qa 39 Q2s Zkh
def Q1g:Sk:=⟨[td,td,td,td,td,tf [sa [Kd.sl Aa]],tf [ci],tf [ci]]++dd 7,[],[]⟩
def Qp9:List (Ex×Sk):=[(Ex.ret,⟨[td,td,tf [sb]]++dd 12,[],[]⟩),(Ex.exit 0,⟨[td]++dd 14,[],[]⟩)]
def VG:Lp:=sL Qy3 39 2 Q1g Qp9
def Za5 (D:Lp):Cfg:=Qy3.loop 2 Q1g Qp9 D
def Yp (D:Lp):Fn:=mF (Za5 D) 39 Q2s Zkh
theorem Z6e:VG [.vC [Kd.sl Aa] A,I a,I b]=
 cond (decide (b<a)) (cond (decide (0<=b)&&decide (b<(A.length:Int))) (cond (decide ((↑(wA (nth [] A b.toNat) 0).length:Int)>60)) (some (1,[B false])) (some (0,[.vC [Kd.sl Aa] A,I a,I (O (b+1))]))) (none)) (some (2,[])):=by kernel_rfl
theorem Z5i:Yp Z [.vC [Kd.sl Aa] A]=
 (Z [.vC [Kd.sl Aa] A,I (A.length:Int),I 0]).bind λo1=>
 cond (o1.1.beq 1) (some [B (bA o1.2 0)]) (cond (o1.1.beq 2) (some [B true]) (none)):=by kernel_rfl
def Zjb:=Ak (VG)
def NP:=Yp Zjb
instance:RI (Zkg NP):=rw2 (Za5 Zjb) (fl fb)
def Q2r:Sk:=⟨[tf [sa [Kd.sl kPt,Kd.sl Aa,kI,kI,kI,kI,kI,kI,kI]]],[],[]⟩
def Zlc:=qa 19 Q2r Zkh
def ZS:Fn:=mF Qy3 19 Q2r Zkh
theorem Z1y:ZS [.vC [Kd.sl kPt,Kd.sl Aa,kI,kI,kI,kI,kI,kI,kI] A]=
 cond (decide ((A.length:Int)>0)) (cond (decide (0<=O ((A.length:Int)-1))&&decide (O ((A.length:Int)-1)<(A.length:Int))) (some [B (gA (nth [] A (O ((A.length:Int)-1)).toNat) 2==7)]) (none)) (some [B false]):=by kernel_rfl
def UQ:=ZS
instance:RI (Zlc UQ):=rw1 Qy3
def Qor:=qa 26 Q2r Qw2
def C_report_Pulses_0:Cfg:={cf []with prom:=λb=>cond (Nat.beq b 3) ([(3,125)]) ([])}
def Qr2:Sk:=⟨[td,td,td,tf [sd 3 3],td,td,tf [sa [Kd.sl kPt,Kd.sl Aa,kI,kI,kI,kI,kI,kI,kI]],tf [ci],tf [ci]]++dd 9,[],[(3,125,kPt)]⟩
def Zaq:List (Ex×Sk):=[(Ex.exit 0,⟨[td,td,td,tf [sd 3 3]]++dd 14,[],[(3,125,kPt)]⟩)]
def Qv:Lp:=sL C_report_Pulses_0 26 3 Qr2 Zaq
def Zjg (D:Lp):Cfg:=C_report_Pulses_0.loop 3 Qr2 Zaq D
def Zw (D:Lp):Fn:=mF (Zjg D) 26 Q2r Qw2
theorem Q48:Qv [.vC kPt A, .vC [Kd.sl kPt,Kd.sl Aa,kI,kI,kI,kI,kI,kI,kI] C,I a,I b]=
 cond (decide (b<a)) (cond (decide (0<=b)&&decide (b<(C.length:Int))) (cond (((A++wA (nth [] C b.toNat) 0).length*24).ble 140737488355328) (some (0,[.vC kPt (A++wA (nth [] C b.toNat) 0), .vC [Kd.sl kPt,Kd.sl Aa,kI,kI,kI,kI,kI,kI,kI] C,I a,I (O (b+1))])) (none)) (none)) (some (1,[.vC kPt A])):=by kernel_rfl
theorem Zyw:Zw Z [.vC [Kd.sl kPt,Kd.sl Aa,kI,kI,kI,kI,kI,kI,kI] A]=
 (Z [.vC kPt [], .vC [Kd.sl kPt,Kd.sl Aa,kI,kI,kI,kI,kI,kI,kI] A,I (A.length:Int),I 0]).bind λo1=>
 cond (o1.1.beq 1) (some [.vC kPt (wA o1.2 0)]) (none):=by kernel_rfl
def Q8p:=Ak (Qv)
def PY:=Zw Q8p
instance r_report_Pulses:RI (Qor PY):=rw2 (Zjg Q8p) (fl fb)
abbrev Ry (HO:Fn) (x2 x6:Int) (HB:Fn) (x3 x7:Int) (O U:Bool) (M D N:AC):Option (List AC):=
 cond (O) (cond (U) (some [I 0,I 0,I 0,I 0,B false]) ((HO [I x2,I x6]).bind λG=>
 (HB [M,jA G 0,D]).bind λV=>
 (HB [N,jA G 0,D]).bind λX=>
 (HO [I x3,I x7]).bind λY=>
 some [jA V 0,jA X 0,jA G 0,jA Y 0,B true])) ((HO [I x2,I x6]).bind λL=>
 (HB [M,jA L 0,D]).bind λa0=>
 (HB [N,jA L 0,D]).bind λa1=>
 (HO [I x3,I x7]).bind λa2=>
 some [jA a0 0,jA a1 0,jA L 0,jA a2 0,B true])
abbrev Qj9 (HR:Fn) (D G V X L M Y x7:Int) (HO HB:Fn) (N:Int):Option (List AC):=
 (HR [I D,I G,I V,I X,I L,I M,I Y,I x7]).bind λU=>
 cond (decide (gA U 0>0)) (Ry HO V Y HB X x7 (O (0-O (D+L))==0) (O (0-O (G+M))==0) (I (O (0-O (D+L)))) (I (O (O (O (0-O (D+L))*O (0-O (D+L)))+O (O (0-O (G+M))*O (0-O (G+M)))))) (I (O (0-O (G+M))))) (Ry HO V Y HB X x7 (O (N*O (M-G))==0) (O (N*O (D-L))==0) (I (O (N*O (M-G)))) (I (O (O (O (N*O (M-G))*O (N*O (M-G)))+O (O (N*O (D-L))*O (N*O (D-L)))))) (I (O (N*O (D-L)))))
abbrev Zoi (x9:Bool) (HO:Fn) (N U:Int) (HB:Fn) (V X D G:Int) (HR:Fn) (L M:Int) (OP:Fn) (x8:Int):Option (List AC):=
 cond (x9) (Ry HO N U HB V X (O (0-D)==0) (O (0-G)==0) (I (O (0-D))) (I (O (O (O (0-D)*O (0-D))+O (O (0-G)*O (0-G))))) (I (O (0-G)))) ((HR [I D,I G,I N,I V,I L,I M,I U,I X]).bind λY=>
 cond (decide (gA Y 0>0)) ((OP [I D,I G,I N,I V,I L,I M,I U,I X]).bind λa0=>
 cond (decide (O (gA a0 0*x8)>0)) (Ry HO N U HB V X (O (D+L)==0) (O (G+M)==0) (I (O (D+L))) (I (O (O (O (D+L)*O (D+L))+O (O (G+M)*O (G+M))))) (I (O (G+M)))) (Qj9 HR D G N V L M U X HO HB x8)) (Qj9 HR D G N V L M U X HO HB x8))
abbrev Qgj (G:Bool) (D:List AC) (M N:Fn):Option (List AC):=
 cond (G) (cond (gA D 0==gA D 4) (some [B (gA D 1==gA D 5)]) (some [B false])) ((M [jA D 0,jA D 1,jA D 2,jA D 3,jA D 4,jA D 5,jA D 6,jA D 7]).bind λI=>
 cond (gA I 0 !=0) (some [B true]) ((N [jA D 0,jA D 1,jA D 2,jA D 3,jA D 4,jA D 5,jA D 6,jA D 7]).bind λL=>
 some [B (decide (gA L 0<0))]))
abbrev Yeg (X:Fn) (x9 N U:Int) (Y:Fn) (x0 x1 x2 x3 x4 x5 x6 x7 x8 a0:Int) (M:Bool) (a1:Int) (a2:Bool) (a3 a4 a5 a6 a7:Int) (a8:Bool) (V a9 OP:Fn):Option (List AC):=
 (X [I x9,I N,I U]).bind λb0=>
 cond (!bA b0 0) (some [B false]) ((Y [I x0,I x1,I x2,I x3,I x4,I x5,I x6,I x7,I x8,I x9,I N,I U,I a0,B M,I a1,B a2,I a3,I a4,I a5,I a6,I a7,B a8]).bind λD=>
 (V [jA D 0,jA D 1,jA D 2,jA D 3,jA D 0,jA D 1,jA D 2,jA D 3]).bind λG=>
 (V [jA D 4,jA D 5,jA D 6,jA D 7,jA D 4,jA D 5,jA D 6,jA D 7]).bind λL=>
 cond (decide (gA G 0<64)) (some [B false]) (cond (decide (gA L 0<64)) (some [B false]) (cond (decide (O (O (gA G 0+gA L 0)-16)>0)) ((a9 [I (O (O (gA G 0+gA L 0)-16)),I (O (O (gA G 0+gA L 0)-16)),I (O (4*gA G 0)),jA L 0]).bind λb1=>
 cond (decide (gA b1 0>0)) (some [B false]) (Qgj M D OP V)) (Qgj M D OP V))))
abbrev Qho (M:Fn) (D:Nat×List AC) (L:AC):Option (Nat×List AC):=
 (M [.vC Ae (wA D.2 2),jA D.2 6]).bind λG=>
 cond (((wA D.2 1++[[jA D.2 3,jA G 0,jA D.2 6]]).length*24).ble 140737488355328) (some (0,[.vC Ai (wA D.2 0), .vC kPt (wA D.2 1++[[jA D.2 3,jA G 0,jA D.2 6]]), .vC Ae (wA D.2 2),jA D.2 3,jA D.2 4,L,B (bA D.2 5), .vC Ae (wA D.2 7),jA D.2 8,I (O (gA D.2 9+1)),jA D.2 10,jA D.2 11,jA D.2 12, .vC Ai (wA D.2 13), .vC kPt (wA D.2 14),jA D.2 15,jA D.2 16,jA D.2 17,jA D.2 18,jA D.2 19,jA D.2 20])) (none)
abbrev Qha (Oe:Fn) (v2:Rw) (v9 v5:Int) (a3:Lp) (v0 v1:Rw) (v3:Int) (L M:AC) (v7:Rw) (v8 v10 v11 v12:Int) (a4 a5:Rw) (N O U V X Y:AC) (a0:List AC) (NW Jh:Fn) (a1:AC):Option (Nat×List AC):=
 (Oe [.vC Ae v2,I v9,I v5]).bind λG=>
 (a3 [.vC Ai v0, .vC kPt v1, .vC Ae v2,I v3,L,M,I v9, .vC Ae v7,I v8,I v9, .vC kPt (wA G 0),I (↑(wA G 0).length:Int),I 0,I v10,I v11,I v12, .vC Ai a4, .vC kPt a5,N,O,U,V,X,Y,I 0,I 0,I 0,I 0,I v9,jA a0 0,a1]).bind λD=>
 cond (D.1.beq 1) (some (1,[jA D.2 0,jA D.2 1,jA D.2 2,jA D.2 3])) (cond (D.1.beq 2) ((NW [.vC Ae (wA D.2 2),jA D.2 6]).bind λa2=>
 cond (decide (gA a2 0>=0)) (Qho Jh D (jA D.2 6)) (Qho Jh D (I (-1)))) (none))
abbrev Qdc (VX:Fn) (v7:Rw) (v9:Int) (W2 Oe:Fn) (v2:Rw) (v5:Int) (a0:Lp) (v0 v1:Rw) (v3 v8 v10 v11 v12:Int) (a1 a2:Rw) (NW Jh:Fn) (D G L M N U V X:AC):Option (Nat×List AC):=
 (VX (AX Ae (nth [] v7 v9.toNat)++[D])).bind λY=>
 (W2 (AX Ae (nth [] v7 v9.toNat))).bind λa3=>
 cond (bA a3 0) (Qha Oe v2 v9 v5 a0 v0 v1 v3 D G v7 v8 v10 v11 v12 a1 a2 L M N U V X Y NW Jh (I (mn (O (gA (nth [] v7 v9.toNat) 14*16)) 16777216))) (Qha Oe v2 v9 v5 a0 v0 v1 v3 D G v7 v8 v10 v11 v12 a1 a2 L M N U V X Y NW Jh (I 0))
abbrev Z97 (a9:Fn) (G:Rw) (D:Int) (b0:Fn) (v1:Rw) (Y:Int) (v0 v2:Rw) (v5:Int) (v6:Bool) (v8 v10 v11 v12:Int) (V X:Rw) (a0 a1 a2 a3 a4 v20:Int) (a5 VX W2 Oe:Fn) (a6:Lp) (NW Jh:Fn) (a7 N:AC):Option (Nat×List AC):=
 (a9 [jA (nth [] G D.toNat) 0]).bind λa8=>
 cond (!bA a8 0) ((b0 (AX Ae (nth [] G D.toNat))).bind λU=>
 cond (((v1++[[I Y,jA U 0,I D]]).length*24).ble 140737488355328) (some (0,[.vC Ai v0, .vC kPt (v1++[[I Y,jA U 0,I D]]), .vC Ae v2,I Y,a7,I v5,B v6, .vC Ae G,I v8,I (O (D+1)),I v10,I v11,I v12, .vC Ai V, .vC kPt X,I a0,I a1,I a2,I a3,I a4,I v20])) (none)) (cond (!v6) ((a5 [jA (nth [] G D.toNat) 2,jA (nth [] G D.toNat) 3,jA (nth [] G D.toNat) 4]).bind λL=>
 (a5 [jA (nth [] G D.toNat) 2,jA (nth [] G D.toNat) 3,jA (nth [] G D.toNat) 4]).bind λM=>
 Qdc VX G D W2 Oe v2 v5 a6 v0 v1 Y v8 v10 v11 v12 V X NW Jh N (B true) (jA L 0) (jA L 1) (jA L 2) (jA M 0) (jA M 1) (jA M 2)) (Qdc VX G D W2 Oe v2 v5 a6 v0 v1 Y v8 v10 v11 v12 V X NW Jh N (B v6) (I a0) (I a1) (I a2) (I a3) (I a4) (I v20)))
def Qs3:=qa 185 Q0o Qvf
def Zgt:Fn:=mF Qy3 185 Q0o Qvf
theorem Z71:Zgt [I a,I b,I c,I d,I e,I f]=
 some [I (O (O (O (a*d)+O (b*e))+O (c*f)))]:=by kernel_rfl
def Sq:=Zgt
instance:RI (Qs3 Sq):=rw1 Qy3
def Qvd:=qa 184 Q0o Qwz
def Qri:Fn:=mF Q1m 184 Q0o Qwz
theorem Z6k:Qri [I a,I b,I c,I d,I e,I f]=
 some [I (O (a-d)),I (O (b-e)),I (O (c-f))]:=by kernel_rfl
def RY:=Qri
instance:RI (Qvd RY):=rw1 Q1m
def Quk:=qa 133 Q7k Zkh
def Qzm (D G I:Fn):Cfg:=cf [Tj D,Qs3 G,Qvd I]
def Qbo (D G I:Fn):Fn:=mF (Qzm D G I) 133 Q7k Zkh
theorem Yah:Qbo H J K [I a,I b,I c,I d,I e,I f,I g,I h,I i,I j]=
 (K [I d,I e,I f,I a,I b,I c]).bind λL=>
 (K [I g,I h,I i,I a,I b,I c]).bind λD=>
 (K [I g,I h,I i,I d,I e,I f]).bind λG=>
 (J [jA L 0,jA L 1,jA L 2,jA D 0,jA D 1,jA D 2]).bind λM=>
 (J [jA L 0,jA L 1,jA L 2,jA L 0,jA L 1,jA L 2]).bind λV=>
 cond (decide (gA M 0<=0)) ((J [jA D 0,jA D 1,jA D 2,jA D 0,jA D 1,jA D 2]).bind λa0=>
 some [B (decide (gA a0 0<=O (j*j)))]) (cond (decide (gA M 0>=gA V 0)) ((J [jA G 0,jA G 1,jA G 2,jA G 0,jA G 1,jA G 2]).bind λa1=>
 some [B (decide (gA a1 0<=O (j*j)))]) ((J [jA D 0,jA D 1,jA D 2,jA D 0,jA D 1,jA D 2]).bind λa2=>
 (H [I (O (gA a2 0-O (j*j))),jA V 0,jA M 0,jA M 0]).bind λa3=>
 some [B (decide (gA a3 0<=0))])):=by kernel_rfl
def UR:=Qbo Ir Sq RY
instance:RI (Quk UR):=rw1 (Qzm Ir Sq RY)
def Qer:=qa 134 Qwz Qwz
def Q8s:Fn:=mF Qy3 134 Qwz Qwz
theorem Zyn:Q8s [I a,I b,I c]=
 some [I (O (a*16)),I (O (b*16)),I (O (c*16))]:=by kernel_rfl
def NM:=Q8s
instance:RI (Qer NM):=rw1 Qy3
def Qpz:Sk:=⟨[tT [ci,ci],tT [ci,ci]],[],[]⟩
def Up:=qa 174 Qpz Qvf
def Zk3:Fn:=mF Qy3 174 Qpz Qvf
theorem Zys:Zk3 [I a,I b,I c,I d]=
 some [I (O (O (a*c)+O (b*d)))]:=by kernel_rfl
def J8:=Zk3
instance:RI (Up J8):=rw1 Qy3
def Qe1:=qa 230 Qpz Qvf
def Qvo:Fn:=mF Qy3 230 Qpz Qvf
theorem Z1p:Qvo [I a,I b,I c,I d]=
 some [I (O (O (a*d)-O (b*c)))]:=by kernel_rfl
def Od:=Qvo
instance:RI (Qe1 Od):=rw1 Qy3
def Qu8:Sk:=⟨[tT [ci,ci],tT [ci,ci],tf [ci]],[],[]⟩
def Zg6:=qa 177 Qu8 Zkh
def Q4y (D G I:Fn):Cfg:=cf [Tj D,Up G,Qe1 I]
def Qi3 (D G I:Fn):Fn:=mF (Q4y D G I) 177 Qu8 Zkh
theorem Ztm:Qi3 G H J [I a,I b,I c,I d,I e]=
 (J [I a,I b,I c,I d]).bind λo4=>
 (H [I a,I b,I c,I d]).bind λY=>
 cond (decide (gA Y 0>=0)) ((H [I a,I b,I a,I b]).bind λo6=>
 (G [jA o4 0,jA o4 0,I (O (e*e)),jA o6 0]).bind λo7=>
 some [B (decide (gA o7 0<=0))]) (some [B false]):=by kernel_rfl
def Wr:=Qi3 Ir J8 Od
instance:RI (Zg6 Wr):=rw1 (Q4y Ir J8 Od)
def Q28:Sk:=⟨[tT [ci,ci],tT [ci,ci],tT [ci,ci],tf [ci]],[],[]⟩
def Qpk:=qa 176 Q28 Zkh
def Qst (D G:Fn):Cfg:=cf [Up D,Qe1 G]
def Qhi (D G:Fn):Fn:=mF (Qst D G) 176 Q28 Zkh
theorem Zwq:Qhi G H [I a,I b,I c,I d,I e,I f,I g]=
 (H [I a,I b,I c,I d]).bind λo9=>
 cond (decide (O (gA o9 0*g)>0)) ((H [I a,I b,I e,I f]).bind λY=>
 cond (decide (O (gA Y 0*g)>=0)) ((H [I e,I f,I c,I d]).bind λa0=>
 some [B (decide (O (gA a0 0*g)>=0))]) (some [B false])) (cond (O (gA o9 0*g)==0) ((G [I a,I b,I c,I d]).bind λa1=>
 cond (decide (gA a1 0<0)) ((H [I a,I b,I e,I f]).bind λa2=>
 some [B (decide (O (gA a2 0*g)>=0))]) ((H [I c,I d,I e,I f]).bind λa3=>
 cond (decide (O (gA a3 0*g)<=0)) (some [B true]) ((H [I e,I f,I a,I b]).bind λa4=>
 some [B (decide (O (gA a4 0*g)<=0))]))) ((H [I c,I d,I e,I f]).bind λa5=>
 cond (decide (O (gA a5 0*g)<=0)) (some [B true]) ((H [I e,I f,I a,I b]).bind λa6=>
 some [B (decide (O (gA a6 0*g)<=0))]))):=by kernel_rfl
def Ul:=Qhi J8 Od
instance:RI (Qpk Ul):=rw1 (Qst J8 Od)
def Qvq:=qa 175 Q63 Zkh
def Qth (D:Fn):Cfg:=cf [Tj D]
def Qel (D:Fn):Fn:=mF (Qth D) 175 Q63 Zkh
theorem Zt2:Qel G [I a,I b,I c]=
 cond (decide (O (O (a-b)-O (c*c))<=0)) (some [B true]) ((G [I (O (O (a-b)-O (c*c))),I (O (O (a-b)-O (c*c))),I (O (O (4*c)*c)),I b]).bind λo1=>
 some [B (decide (gA o1 0<=0))]):=by kernel_rfl
def Xm:=Qel Ir
instance:RI (Qvq Xm):=rw1 (Qth Ir)
def Qqu:Sk:=⟨[tT (cc 13++[sb,ci,sb]++cc 5++[sb]),tT [ci,ci,ci],tf [ci]],[],[]⟩
def Q9h:=qa 131 Qqu Zkh
def Qxp (D G I L M N O:Fn):Cfg:=cf [Zg6 D,Qpk G,Qvq I,Up L,UY M,Qer N,Pw O]
def ZX (D G I L M N O:Fn):Fn:=mF (Qxp D G I L M N O) 131 Qqu Zkh
theorem Z8y (b1:Bool):ZX H J K N P Q R [I a,I b,I c,I d,I e,I f,I g,I h,I i,I j,I k,I l,I m,B X,I n,B Y,I o,I p,I q,I r,I s,B b1,I t,I u,I v,I w]=
 cond (a !=3) (some [B false]) ((R [I a,I b,I c,I d,I e,I f,I g,I h,I i,I j,I k,I l,I m,B X,I n,B Y,I o,I p,I q,I r,I s,B b1]).bind λb5=>
 cond (!bA b5 0) (some [B false]) ((Q [I j,I k,I l]).bind λa1=>
 (P [jA a1 0,jA a1 1,jA a1 2,I i]).bind λD=>
 (Q [I c,I d,I e]).bind λa2=>
 (P [jA a2 0,jA a2 1,jA a2 2,I i]).bind λL=>
 (Q [I f,I g,I h]).bind λa3=>
 (P [jA a3 0,jA a3 1,jA a3 2,I i]).bind λM=>
 (P [I t,I u,I v,I i]).bind λG=>
 (N [I (O (gA L 0-gA D 0)),I (O (gA L 1-gA D 1)),I (O (gA L 0-gA D 0)),I (O (gA L 1-gA D 1))]).bind λb6=>
 (N [I (O (gA M 0-gA D 0)),I (O (gA M 1-gA D 1)),I (O (gA M 0-gA D 0)),I (O (gA M 1-gA D 1))]).bind λb7=>
 (N [I (O (gA L 0-gA D 0)),I (O (gA L 1-gA D 1)),I (O (gA L 0-gA D 0)),I (O (gA L 1-gA D 1))]).bind λb8=>
 (N [I (O (gA M 0-gA D 0)),I (O (gA M 1-gA D 1)),I (O (gA M 0-gA D 0)),I (O (gA M 1-gA D 1))]).bind λb9=>
 (N [I (O (gA G 0-gA D 0)),I (O (gA G 1-gA D 1)),I (O (gA G 0-gA D 0)),I (O (gA G 1-gA D 1))]).bind λc0=>
 (K [I (mn (gA b6 0) (gA b7 0)),jA c0 0,I w]).bind λc1=>
 cond (!bA c1 0) (some [B false]) ((N [I (O (gA G 0-gA D 0)),I (O (gA G 1-gA D 1)),I (O (gA G 0-gA D 0)),I (O (gA G 1-gA D 1))]).bind λc2=>
 (K [jA c2 0,I (mx (gA b8 0) (gA b9 0)),I w]).bind λc3=>
 cond (!bA c3 0) (some [B false]) (cond (decide (gA G 2<O (mn (gA L 2) (gA M 2)-w))) (some [B false]) (cond (decide (gA G 2>O (mx (gA L 2) (gA M 2)+w))) (some [B false]) (cond (X) (some [B true]) ((J [I (O (gA L 0-gA D 0)),I (O (gA L 1-gA D 1)),I (O (gA M 0-gA D 0)),I (O (gA M 1-gA D 1)),I (O (gA G 0-gA D 0)),I (O (gA G 1-gA D 1)),I m]).bind λc4=>
 cond (bA c4 0) (some [B true]) ((H [I (O (gA L 0-gA D 0)),I (O (gA L 1-gA D 1)),I (O (gA G 0-gA D 0)),I (O (gA G 1-gA D 1)),I w]).bind λc5=>
 cond (bA c5 0) (some [B true]) ((H [I (O (gA M 0-gA D 0)),I (O (gA M 1-gA D 1)),I (O (gA G 0-gA D 0)),I (O (gA G 1-gA D 1)),I w]).bind λc6=>
 some [B (bA c6 0)]))))))))):=by kernel_rfl
def V6:=ZX Wr Ul Xm J8 IB NM Gs
instance:RI (Q9h V6):=rw1 (Qxp Wr Ul Xm J8 IB NM Gs)
def Qyt:=qa 83 Qqu Zkh
def Qvv (D G I L:Fn):Cfg:=cf [Quk D,Qer G,Pw I,Q9h L]
def Qa3 (D G I L:Fn):Fn:=mF (Qvv D G I L) 83 Qqu Zkh
theorem Z7o (a1:Bool):Qa3 G H J K [I a,I b,I c,I d,I e,I f,I g,I h,I i,I j,I k,I l,I m,B X,I n,B Y,I o,I p,I q,I r,I s,B a1,I t,I u,I v,I w]=
 cond (a==3) ((K [I a,I b,I c,I d,I e,I f,I g,I h,I i,I j,I k,I l,I m,B X,I n,B Y,I o,I p,I q,I r,I s,B a1,I t,I u,I v,I w]).bind λo5=>
 some [B (bA o5 0)]) ((J [I a,I b,I c,I d,I e,I f,I g,I h,I i,I j,I k,I l,I m,B X,I n,B Y,I o,I p,I q,I r,I s,B a1]).bind λo6=>
 cond (bA o6 0) ((H [I c,I d,I e]).bind λo7=>
 (H [I f,I g,I h]).bind λo8=>
 (G [jA o7 0,jA o7 1,jA o7 2,jA o8 0,jA o8 1,jA o8 2,I t,I u,I v,I w]).bind λo9=>
 some [B (bA o9 0)]) (some [B false])):=by kernel_rfl
def Tm:=Qa3 UR NM Gs V6
instance:RI (Qyt Tm):=rw1 (Qvv UR NM Gs V6)
def Q1h:Sk:=⟨[tf [sa Ae],tT [ci,ci,ci],tf [ci]],[],[]⟩
def Q4c:=qa 37 Q1h Zkh
def Q2w (D:Fn):Cfg:=cf [Qyt D]
def Zhr:Sk:=⟨[td,td,tf [ci],td,tf [sc 4 0],td,td,td,td,tf [sa Ae],tf [ci],tf [ci]]++dd 8,[(4,42,[ci,ci,ci])],[]⟩
def Qkl:List (Ex×Sk):=[(Ex.ret,⟨dd 6++[tf [sb]]++dd 13,[],[]⟩),(Ex.exit 0,⟨[td]++dd 19,[],[]⟩)]
def Tt (D:Fn):Lp:=sL (Q2w D) 37 2 Zhr Qkl
def Qpc (D:Fn) (G:Lp):Cfg:=(Q2w D).loop 2 Zhr Qkl G
def Qec (D:Fn) (G:Lp):Fn:=mF (Qpc D G) 37 Q1h Zkh
theorem Z6x:Tt G [I a, .vC Ae A,I b,I c,I d,I e,I f]=
 cond (decide (c<b)) (cond (decide (0<=c)&&decide (c<(A.length:Int))) ((G (AX Ae (nth [] A c.toNat)++[I d,I e,I f,I a])).bind λo2=>
 cond (bA o2 0) (some (1,[B true])) (some (0,[I a, .vC Ae A,I b,I (O (c+1)),I d,I e,I f]))) (none)) (some (2,[])):=by kernel_rfl
theorem Z2b:Qec G Z [.vC Ae A,I a,I b,I c,I d]=
 (Z [I d, .vC Ae A,I (A.length:Int),I 0,I a,I b,I c]).bind λo3=>
 cond (o3.1.beq 1) (some [B (bA o3.2 0)]) (cond (o3.1.beq 2) (some [B false]) (none)):=by kernel_rfl
def Qyg:=Ak (Tt Tm)
def NH:=Qec Tm Qyg
instance r_contour_OnItems:RI (Q4c NH):=rw2 (Qpc Tm Qyg) (fl fb)
def Zam:=qa 84 Q4t Zkh
def Q3x:Fn:=mF Qy3 84 Q4t Zkh
theorem Z81 (a2:Bool):Q3x [I a,I b,I c,I d,I e,I f,I g,I h,I i,I j,I k,I l,I m,B X,I n,B Y,I o,I p,I q,I r,I s,B a2]=
 cond (decide (a>=1)) (some [B (decide (a<=6))]) (some [B false]):=by kernel_rfl
def Pn:=Q3x
instance:RI (Zam Pn):=rw1 Qy3
def Q7b:=qa 38 Zkm Qvf
def Qxv (D:Fn):Cfg:=cf [Zam D]
def Qnz:Sk:=⟨[td,td,td,tf [ci],td,td,tf [sa Ae],tf [ci],tf [ci]]++dd 13,[],[]⟩
def Zk0:List (Ex×Sk):=[(Ex.exit 0,⟨[td,td,td,tf [ci]]++dd 18,[],[]⟩)]
def UH (D:Fn):Lp:=sL (Qxv D) 38 3 Qnz Zk0
def Zhb (D:Fn) (G:Lp):Cfg:=(Qxv D).loop 3 Qnz Zk0 G
def Q23 (D:Fn) (G:Lp):Fn:=mF (Zhb D G) 38 Zkm Qvf
theorem Zjy:UH G [I a, .vC Ae A,I b,I c]=
 cond (decide (c<b)) (cond (decide (0<=c)&&decide (c<(A.length:Int))) ((G (AX Ae (nth [] A c.toNat))).bind λo2=>
 cond (bA o2 0) (some (0,[I (mx a (gA (nth [] A c.toNat) 18)), .vC Ae A,I b,I (O (c+1))])) (some (0,[I a, .vC Ae A,I b,I (O (c+1))]))) (none)) (some (1,[I a])):=by kernel_rfl
theorem Z2d:Q23 G Z [.vC Ae A]=
 (Z [I 0, .vC Ae A,I (A.length:Int),I 0]).bind λo3=>
 cond (o3.1.beq 1) (some [I (O (7+O (16*gA o3.2 0)))]) (none):=by kernel_rfl
def Qi7:=Ak (UH Pn)
def Ns:=Q23 Pn Qi7
instance r_contour_Slack:RI (Q7b Ns):=rw2 (Zhb Pn Qi7) (fl fb)
def Zly:=qa 80 Qws Qvf
def Qo1 (D:Fn):Cfg:=cf [Qd3 D]
def Q4r:Sk:=⟨[td,td,tf [sc 2 0],td,td,tf [ci],tf [ci],tf [ci]]++dd 30,[(2,33,cc 9++[sa Aa])],[]⟩
def Qqk:List (Ex×Sk):=[(Ex.exit 0,⟨dd 7++[tf [ci]]++dd 30,[],[]⟩)]
def Vt (D:Fn):Lp:=sL (Qo1 D) 80 3 Q4r Qqk
def Qtu (D:Fn) (G:Lp):Cfg:=(Qo1 D).loop 3 Q4r Qqk G
def Zgy (D:Fn) (G:Lp):Fn:=mF (Qtu D G) 80 Qws Qvf
theorem Yd5:Vt G [I a,I b,I c,I d,I e,I f,I g,I h,I i,I j,I k,I l, .vC Aa A]=
 cond (decide (O (c-b)>1)) ((G [I d,I e,I f,I g,I h,I i,I j,I k,I l, .vC Aa A,I (O (b+O ((O (c-b)).tdiv 2)))]).bind λo2=>
 cond (decide (O (O (b+O ((O (c-b)).tdiv 2))+gA o2 0)>=a)) (some (0,[I a,I b,I (O (b+O ((O (c-b)).tdiv 2))),I d,I e,I f,I g,I h,I i,I j,I k,I l, .vC Aa A])) (some (0,[I a,I (O (b+O ((O (c-b)).tdiv 2))),I c,I d,I e,I f,I g,I h,I i,I j,I k,I l, .vC Aa A]))) (some (1,[I c])):=by kernel_rfl
def Zyb (Er:Fn) (L:Lp) (G M N U V X Y x7 x8:Int) (x9:Rw) (D:Int):Zgy Er L [I G,I M,I N,I U,I V,I X,I Y,I x7,I x8, .vC Aa x9,I D]=
 (L [I (O (D*G)),I (O (O (O (D*G)-4096)-1)),I (O (O (D*G)+4096)),I G,I M,I N,I U,I V,I X,I Y,I x7,I x8, .vC Aa x9]).bind λo3=>
 cond (o3.1.beq 1) (some [jA o3.2 0]) (none):=by kernel_rfl
def Qse:=Ak (Vt G1)
def TN:=Zgy G1 Qse
instance:RI (Zly TN):=rw2 (Qtu G1 Qse) (fl fb)
def Zd8:Sk:=⟨[tT cX,tT (cc 6)],[],[]⟩
def Q8q:=qa 35 Zd8 Qwz
def Zc2 (D:Fn):Cfg:={cf [Zly D]with unroll:=[3]}
def Zdb (D:Fn):Fn:=mF (Zc2 D) 35 Zd8 Qwz
def Z07 (Ld:Fn) (x0 x1 x2 x3 x4 x5 x6 x7 x8:Int) (x9:Rw) (D G L M N O U V X:Int) (Y:Rw) (a0 a1 a2 a3 a4 a5 a6 a7 a8:Int) (a9:Rw) (b3 b4 b5 b0 b1 b2:Int):Zdb Ld [I x0,I x1,I x2,I x3,I x4,I x5,I x6,I x7,I x8, .vC Aa x9,I D,I G,I L,I M,I N,I O,I U,I V,I X, .vC Aa Y,I a0,I a1,I a2,I a3,I a4,I a5,I a6,I a7,I a8, .vC Aa a9,I b3,I b4,I b5,I b0,I b1,I b2]=
 (Ld [I x0,I x1,I x2,I x3,I x4,I x5,I x6,I x7,I x8, .vC Aa x9,I b0]).bind λo3=>
 (Ld [I D,I G,I L,I M,I N,I O,I U,I V,I X, .vC Aa Y,I b1]).bind λo4=>
 (Ld [I a0,I a1,I a2,I a3,I a4,I a5,I a6,I a7,I a8, .vC Aa a9,I b2]).bind λo5=>
 some [jA o3 0,jA o4 0,jA o5 0]:=by kernel_rfl
def Ql:=Zdb TN
instance r_plant_Position:RI (Q8q Ql):=rw1 (Zc2 TN)
def Zgm:Sk:=⟨[tT (cc 9++[sa Aa]),tf [ci],tf [ci]],[],[]⟩
def Zkq:=qa 79 Zgm Qvf
def Qs6:Fn:=mF Qy3 79 Zgm Qvf
def Z0p (M N U V X Y L x7 x8:Int) (x9:Rw) (G D:Int):Qs6 [I M,I N,I U,I V,I X,I Y,I L,I x7,I x8, .vC Aa x9,I G,I D]=
 some [I (mn (mx G D) (O (D+L)))]:=by kernel_rfl
def Ou:=Qs6
instance:RI (Zkq Ou):=rw1 Qy3
def Za9:Sk:=⟨[tT cX,tT (cc 6),tf [sa kPt]],[],[]⟩
def Qsr:=qa 34 Za9 Zb4
def Qsu (D:Fn):Cfg:={cf [Zkq D]with split:=λb=>bif Nat.beq b 1 then some (8,1,3)else none}
def Q7j:Sk:=⟨[td,td,td,tf [sc 3 0],tf [sc 4 0],td,tf [sc 6 0],td,td,tf [sa kPt],tf [ci],tf [ci]]++dd 52,[(3,34,cX),(4,81,cc 6),(6,81,cc 6)],[]⟩
def Zeu:List (Ex×Sk):=[(Ex.exit 0,⟨[td,td,td,td,tf [sc 4 0],td,tf [sc 6 0]]++dd 57,[(4,81,cc 6),(6,81,cc 6)],[]⟩)]
def Qi5 (D:Fn):Lp:=sL (Qsu D) 34 2 Q7j Zeu
def Zkc (D:Fn) (G:Lp):Cfg:=(Qsu D).loop 2 Q7j Zeu G
def Qk1 (D:Fn) (G:Lp):Fn:=mF (Zkc D G) 34 Za9 Zb4
abbrev Xs (D:Rw) (G:Int) (E9:Fn) (L v24 v25 M v27 v28 N v30 v31:Int) (U:Rw) (v38 v35 v1 v3 v4 v5 v6 v7 v8 v9 v10 v11:Int) (v12:Rw) (V X Y a0 a1 a2 a3 v20 v21:Int) (v22:Rw) (v33 a4 v36 v37 a5 v40 a6 v42 a7 v44:Int):Option (Nat×List AC):=
 cond (decide (gA (nth [] D G.toNat) 1=(↑2:Int))) ((E9 [I L,I v24,I v25,I M,I v27,I v28,I N,I v30,I v31, .vC Aa U,I v38,I (O (v35+gA (nth [] D G.toNat) 2))]).bind λo7=>
 some (0,[.vC kPt D,I v1,I (O (G+1)),I v3,I v4,I v5,I v6,I v7,I v8,I v9,I v10,I v11, .vC Aa v12,I V,I X,I Y,I a0,I a1,I a2,I a3,I v20,I v21, .vC Aa v22,I L,I v24,I v25,I M,I v27,I v28,I N,I v30,I v31, .vC Aa U,I v33,I a4,I (O (v35+gA (nth [] D G.toNat) 2)),I v36,I v37,jA o7 0,I a5,I v40,I a6,I v42,I a7,I v44])) (cond (decide (gA (nth [] D G.toNat) 1=(↑1:Int))) ((E9 [I V,I X,I Y,I a0,I a1,I a2,I a3,I v20,I v21, .vC Aa v22,I v37,I (O (a4+gA (nth [] D G.toNat) 2))]).bind λo8=>
 some (0,[.vC kPt D,I v1,I (O (G+1)),I v3,I v4,I v5,I v6,I v7,I v8,I v9,I v10,I v11, .vC Aa v12,I V,I X,I Y,I a0,I a1,I a2,I a3,I v20,I v21, .vC Aa v22,I L,I v24,I v25,I M,I v27,I v28,I N,I v30,I v31, .vC Aa U,I v33,I (O (a4+gA (nth [] D G.toNat) 2)),I v35,I v36,jA o8 0,I v38,I a5,I v40,I a6,I v42,I a7,I v44])) (cond (decide (gA (nth [] D G.toNat) 1=(↑0:Int))) ((E9 [I v3,I v4,I v5,I v6,I v7,I v8,I v9,I v10,I v11, .vC Aa v12,I v36,I (O (v33+gA (nth [] D G.toNat) 2))]).bind λo9=>
 some (0,[.vC kPt D,I v1,I (O (G+1)),I v3,I v4,I v5,I v6,I v7,I v8,I v9,I v10,I v11, .vC Aa v12,I V,I X,I Y,I a0,I a1,I a2,I a3,I v20,I v21, .vC Aa v22,I L,I v24,I v25,I M,I v27,I v28,I N,I v30,I v31, .vC Aa U,I (O (v33+gA (nth [] D G.toNat) 2)),I a4,I v35,jA o9 0,I v37,I v38,I a5,I v40,I a6,I v42,I a7,I v44])) (none)))
def Z1v (E9:Fn) (v0:Rw) (v1 N v3 v4 v5 v6 v7 v8 v9 v10 v11:Int) (v12:Rw) (U V X Y a0 a1 a2 v20 v21:Int) (v22:Rw) (a3 v24 v25 a4 v27 v28 a5 v30 v31:Int) (a6:Rw) (v33 D v35 v36 v37 v38 G v40 L v42 M v44:Int):Qi5 E9 [.vC kPt v0,I v1,I N,I v3,I v4,I v5,I v6,I v7,I v8,I v9,I v10,I v11, .vC Aa v12,I U,I V,I X,I Y,I a0,I a1,I a2,I v20,I v21, .vC Aa v22,I a3,I v24,I v25,I a4,I v27,I v28,I a5,I v30,I v31, .vC Aa a6,I v33,I D,I v35,I v36,I v37,I v38,I G,I v40,I L,I v42,I M,I v44]=
 cond (decide (N<v1)) (cond (decide (0<=N)&&decide (N<(v0.length:Int))) (cond (decide (gA (nth [] v0 N.toNat) 1<0)) (some (0,[.vC kPt v0,I v1,I (O (N+1)),I v3,I v4,I v5,I v6,I v7,I v8,I v9,I v10,I v11, .vC Aa v12,I U,I V,I X,I Y,I a0,I a1,I a2,I v20,I v21, .vC Aa v22,I a3,I v24,I v25,I a4,I v27,I v28,I a5,I v30,I v31, .vC Aa a6,I v33,I D,I v35,I v36,I v37,I v38,I G,I v40,I L,I v42,I M,I v44])) (cond (decide (gA (nth [] v0 N.toNat) 1>2)) (some (0,[.vC kPt v0,I v1,I (O (N+1)),I v3,I v4,I v5,I v6,I v7,I v8,I v9,I v10,I v11, .vC Aa v12,I U,I V,I X,I Y,I a0,I a1,I a2,I v20,I v21, .vC Aa v22,I a3,I v24,I v25,I a4,I v27,I v28,I a5,I v30,I v31, .vC Aa a6,I v33,I D,I v35,I v36,I v37,I v38,I G,I v40,I L,I v42,I M,I v44])) (cond (gA (nth [] v0 N.toNat) 2 !=1) (cond (gA (nth [] v0 N.toNat) 2 != -1) (some (0,[.vC kPt v0,I v1,I (O (N+1)),I v3,I v4,I v5,I v6,I v7,I v8,I v9,I v10,I v11, .vC Aa v12,I U,I V,I X,I Y,I a0,I a1,I a2,I v20,I v21, .vC Aa v22,I a3,I v24,I v25,I a4,I v27,I v28,I a5,I v30,I v31, .vC Aa a6,I v33,I D,I v35,I v36,I v37,I v38,I G,I v40,I L,I v42,I M,I v44])) (Xs v0 N E9 a3 v24 v25 a4 v27 v28 a5 v30 v31 a6 v38 v35 v1 v3 v4 v5 v6 v7 v8 v9 v10 v11 v12 U V X Y a0 a1 a2 v20 v21 v22 v33 D v36 v37 G v40 L v42 M v44)) (Xs v0 N E9 a3 v24 v25 a4 v27 v28 a5 v30 v31 a6 v38 v35 v1 v3 v4 v5 v6 v7 v8 v9 v10 v11 v12 U V X Y a0 a1 a2 v20 v21 v22 v33 D v36 v37 G v40 L v42 M v44)))) (none)) (some (1,[I v33,I D,I v35,I v36,I v37,I v38,I G,I v40,I L,I v42,I M,I v44])):=by kernel_rfl
def Zpy (E9:Fn) (N2:Lp) (x0 x1 x2 x3 x4 x5 x6 x7 x8:Int) (x9:Rw) (L M N O U V X Y a0:Int) (a1:Rw) (a2 a3 a4 a5 a6 a7 a8 a9 b0:Int) (b1:Rw) (b2 b3 b4 b5 b6 b7:Int) (G:Rw):Qk1 E9 N2 [I x0,I x1,I x2,I x3,I x4,I x5,I x6,I x7,I x8, .vC Aa x9,I L,I M,I N,I O,I U,I V,I X,I Y,I a0, .vC Aa a1,I a2,I a3,I a4,I a5,I a6,I a7,I a8,I a9,I b0, .vC Aa b1,I b2,I b3,I b4,I b5,I b6,I b7, .vC kPt G]=
 (N2 [.vC kPt G,I (G.length:Int),I 0,I x0,I x1,I x2,I x3,I x4,I x5,I x6,I x7,I x8, .vC Aa x9,I L,I M,I N,I O,I U,I V,I X,I Y,I a0, .vC Aa a1,I a2,I a3,I a4,I a5,I a6,I a7,I a8,I a9,I b0, .vC Aa b1,I b2,I b3,I b4,I b5,I b6,I b7,I 0,I 0,I 0,I 0,I 0,I 0]).bind λD=>
 cond (D.1.beq 1) (some [jA D.2 0,jA D.2 1,jA D.2 2,jA D.2 3,jA D.2 4,jA D.2 5]) (none):=by kernel_rfl
def Zma:=Ak (Qi5 Ou)
def Pe:=Qk1 Ou Zma
instance r_plant_Step:RI (Qsr Pe):=rw2 (Zkc Ou Zma) (fl fb)
def Qpq:Sk:=⟨[tT cX,tT [ci,ci,ci]],[],[]⟩
def Qvh:=qa 33 Qpq Zb4
def Qul (D:Fn):Cfg:={cf [Qjn D]with unroll:=[3]}
def Qrk (D:Fn):Fn:=mF (Qul D) 33 Qpq Zb4
def Z11 (Dx:Fn) (x0 x1 x2 x3 x4 x5 x6 x7 x8:Int) (x9:Rw) (D G L M N O U V X:Int) (Y:Rw) (a0 a1 a2 a3 a4 a5 a6 a7 a8:Int) (a9:Rw) (b0 b1 b2:Int):Qrk Dx [I x0,I x1,I x2,I x3,I x4,I x5,I x6,I x7,I x8, .vC Aa x9,I D,I G,I L,I M,I N,I O,I U,I V,I X, .vC Aa Y,I a0,I a1,I a2,I a3,I a4,I a5,I a6,I a7,I a8, .vC Aa a9,I b0,I b1,I b2]=
 (Dx [I x0,I x1,I x2,I x3,I x4,I x5,I x6,I x7,I x8, .vC Aa x9,I b0]).bind λo3=>
 (Dx [I D,I G,I L,I M,I N,I O,I U,I V,I X, .vC Aa Y,I b1]).bind λo4=>
 (Dx [I a0,I a1,I a2,I a3,I a4,I a5,I a6,I a7,I a8, .vC Aa a9,I b2]).bind λo5=>
 some [jA o3 0,jA o4 0,jA o5 0,jA o3 0,jA o4 0,jA o5 0]:=by kernel_rfl
def QC:=Qrk OB
instance r_plant_Start:RI (Qvh QC):=rw1 (Qul OB)
def Qzg:Sk:=⟨[tf [ci],tT ([sa kPt,sa Aa]++cc 7)],[],[]⟩
def Zme:Sk:=⟨[tf [CS.str]],[],[]⟩
def Qda (D:Fn):Cfg:=cf [(122,Ah Qdy Z6 D)]
def Qqf:Sk:=⟨[td,td,td,td,td,tf [CS.str]]++dd 20++[tf [sa Aa],tf [ci],tf [ci]]++dd 11,[],[]⟩
def Qv4:List (Ex×Sk):=[(Ex.exit 0,⟨[td,td,td,td,td,tf [CS.str]]++dd 34,[],[]⟩)]
def TO (D:Fn):Lp:=sL (Qda D) 76 3 Qqf Qv4
def Q1n (D:Fn) (G:Lp):Cfg:=(Qda D).loop 3 Qqf Qv4 G
def Zn (D:Fn) (G:Lp):Fn:=mF (Q1n D G) 76 Qzg Zme
theorem Z0l (L:ByteArray):TO G [AC.raw (Go.Value.string L), .vC Aa A,I a,I b]=
 cond (decide (b<a)) (cond (decide (0<=b)&&decide (b<(A.length:Int))) ((G [jA (nth [] A b.toNat) 0]).bind λD=>
 cond (((ByteArray.mk #[32,111,117,116,112,117,116]).size+(Bp (nth .vD D 0)).size).ble 9223372036854775807) (cond (((Bp (AC.raw (Value.string L))).size+((ByteArray.mk #[32,111,117,116,112,117,116])++Bp (nth .vD D 0)).size).ble 9223372036854775807) (some (0,[AC.raw (Value.string (Bp (AC.raw (Value.string L))++((ByteArray.mk #[32,111,117,116,112,117,116])++Bp (nth .vD D 0)))), .vC Aa A,I a,I (O (b+1))])) (none)) (none)) (none)) (some (1,[AC.raw (Value.string (Bp (AC.raw (Value.string L))))])):=by kernel_rfl
theorem Z2r:Zn H Z [I a, .vC kPt A, .vC Aa C,I b,I c,I d,I e,I f,I g,I h]=
 (H [I a]).bind λD=>
 cond (((Bp (nth .vD D 0)).size+(ByteArray.mk #[32,109,111,100,101]).size).ble 9223372036854775807) ((H [I b]).bind λG=>
 cond (((Bp (nth .vD D 0)++(ByteArray.mk #[32,109,111,100,101])).size+(Bp (nth .vD G 0)).size).ble 9223372036854775807) (cond (((Bp (nth .vD D 0)++(ByteArray.mk #[32,109,111,100,101])++Bp (nth .vD G 0)).size+(ByteArray.mk #[32,97,116]).size).ble 9223372036854775807) ((H [I c]).bind λL=>
 cond (((Bp (nth .vD D 0)++(ByteArray.mk #[32,109,111,100,101])++Bp (nth .vD G 0)++(ByteArray.mk #[32,97,116])).size+(Bp (nth .vD L 0)).size).ble 9223372036854775807) (cond (((Bp (nth .vD D 0)++(ByteArray.mk #[32,109,111,100,101])++Bp (nth .vD G 0)++(ByteArray.mk #[32,97,116])++Bp (nth .vD L 0)).size+(ByteArray.mk #[32,102,97,117,108,116]).size).ble 9223372036854775807) ((H [I h]).bind λO=>
 cond (((Bp (nth .vD D 0)++(ByteArray.mk #[32,109,111,100,101])++Bp (nth .vD G 0)++(ByteArray.mk #[32,97,116])++Bp (nth .vD L 0)++(ByteArray.mk #[32,102,97,117,108,116])).size+(Bp (nth .vD O 0)).size).ble 9223372036854775807) ((Z [AC.raw (Value.string (Bp (nth .vD D 0)++(ByteArray.mk #[32,109,111,100,101])++Bp (nth .vD G 0)++(ByteArray.mk #[32,97,116])++Bp (nth .vD L 0)++(ByteArray.mk #[32,102,97,117,108,116])++Bp (nth .vD O 0))), .vC Aa C,I (C.length:Int),I 0]).bind λM=>
 cond (M.1.beq 1) (cond (((Bp (nth .vD M.2 0)).size+(ByteArray.mk #[10]).size).ble 9223372036854775807) (some [AC.raw (Value.string (Bp (nth .vD M.2 0)++(ByteArray.mk #[10])))]) (none)) (none)) (none)) (none)) (none)) (none)) (none)) (none):=by kernel_rfl
def Q64:=Ak (TO LA)
def Qbt:=Zn LA Q64
def Q00:AK PG (Qda LA):=IA rfl LI.out
def Yda:Bx PG (76,Ah Qzg Zme Qbt):=(rw2 (Q1n LA Q64) (fl fb Q00) Q00).out
attribute [go_sem] Ry Qj9 Zoi Qgj Yeg Qho Qha Qdc Z97 Xs
end Go.Bm
