/- functions of the program and of the references, as models -/
import Derived.Test.YtnnpdlgenmnekaaGreatMx1
set_option linter.unusedSimpArgs false
set_option linter.unusedVariables false
set_option maxRecDepth 100000
noncomputable section
open Go.IntKind (wrap)
namespace Go.Bm
open Go.Proofs
def T_:=qa 159 Vx Qg6
def Qws:Fn:=Al PG Qaf 64 159 Vx Qg6
theorem Q60 (D E:Int):Qws [I D,I E]=
 cond (D==0) (some [I 0]) (cond (E==0) (some [I 0]) (cond (decide (D<0)==decide (E<0)) (some [I 1]) (some [I (-1)]))):=by kernel_rfl
def Fp:=Qws
theorem Q40:Aj PG (Qaf):=Am rfl trivial
theorem YJ:Ak PG (T_ Fp):=rw1 (C:=Qaf) Q40
def Te:Sk:=⟨[tf [se .u64],tf [se .u64],tf [se .u64]],[],[]⟩
def Q0v:=qa 158 Te Qfz
def UF (D:Fn):Cfg:=cf [(182,Ad RU RK D)]
def Ql0:Sk:=⟨[td,td,tf [se .u64],td,td,td,td,td,tf [se .u64],tf [se .u64],tf [se .u64],tf [se .u64],td,tf [se .u64],tf [se .u64],tf [se .u64],tf [se .u64]]++dd 118,[],[]⟩
def Qxl:List (Ex×Sk):=[(Ex.exit 0,⟨[td,td,tf [se .u64],td,td,td,td,td,tf [se .u64],tf [se .u64],tf [se .u64],tf [se .u64],td,tf [se .u64],tf [se .u64],tf [se .u64]]++dd 119,[],[]⟩)]
def JN (D:Fn):Lp:=A4 PG (UF D) 64 17 (A3 PG 158 17) Ql0 Qxl
def Qvx (E:Fn) (D:Lp):Cfg:=(UF E).loop 17 Ql0 Qxl D
def Qom:Sk:=⟨[td,td,tf [se .u64],td,td,td,td,td,tf [se .u64],tf [se .u64],tf [se .u64],td,td,td,tf [se .u64],tf [se .u64],tf [se .u64],tf [se .u64],tf [se .u64]]++dd 116,[],[]⟩
def Qv0:List (Ex×Sk):=[(Ex.exit 2,⟨[td,td,tf [se .u64],td,td,td,td,td,tf [se .u64],td,td,td,td,td,tf [se .u64],tf [se .u64],td,tf [se .u64],tf [se .u64]]++dd 116,[],[]⟩)]
def Nu (E:Fn) (D:Lp):Lp:=A4 PG (Qvx E D) 64 24 (A3 PG 158 24) Qom Qv0
def Qsm (G:Fn) (D E:Lp):Cfg:=(Qvx G D).loop 24 Qom Qv0 E
def YN (G:Fn) (D E:Lp):Fn:=Al PG (Qsm G D E) 64 158 Te Qfz
theorem Zdg (Dl:Fn) (v0 J D G L I M E N:Int):JN Dl [U v0,U J,U D,U G,U L,U I,U M,U E,U N]=
 cond (decide (E>=4294967296)) (cond (decide (wrap .u64 (N+D)>=4294967296)) (some (1,[U v0,U J,U D,U G,U L,U I,U M,U (wrap .u64 (E-1))])) (some (0,[U v0,U J,U D,U G,U L,U I,U M,U (wrap .u64 (E-1)),U (wrap .u64 (N+D))]))) (cond (decide (wrap .u64 (E*G)>wrap .u64 (wrap .u64 (4294967296*N)+I))) (cond (decide (wrap .u64 (N+D)>=4294967296)) (some (1,[U v0,U J,U D,U G,U L,U I,U M,U (wrap .u64 (E-1))])) (some (0,[U v0,U J,U D,U G,U L,U I,U M,U (wrap .u64 (E-1)),U (wrap .u64 (N+D))]))) (some (1,[U v0,U J,U D,U G,U L,U I,U M,U E]))):=by kernel_rfl
theorem Zb4 (Dl:Fn) (N17:Lp) (v0 I E N G J L M D:Int):Nu Dl N17 [U v0,U I,U E,U N,U G,U J,U L,U M,U D]=
 cond (decide (D>=4294967296)) (cond (decide (wrap .u64 (L+E)>=4294967296)) (some (1,[U v0,U I,U G,U J,U M,U (wrap .u64 (D-1))])) (some (0,[U v0,U I,U E,U N,U G,U J,U (wrap .u64 (L+E)),U M,U (wrap .u64 (D-1))]))) (cond (decide (wrap .u64 (D*N)>wrap .u64 (wrap .u64 (4294967296*L)+G))) (cond (decide (wrap .u64 (L+E)>=4294967296)) (some (1,[U v0,U I,U G,U J,U M,U (wrap .u64 (D-1))])) (some (0,[U v0,U I,U E,U N,U G,U J,U (wrap .u64 (L+E)),U M,U (wrap .u64 (D-1))]))) (some (1,[U v0,U I,U G,U J,U M,U D]))):=by kernel_rfl
theorem Qr0 (O:Fn) (M N:Lp) (L I G:Int):YN O M N [U L,U I,U G]=
 cond (G==0) (none) (cond (decide (G<=L)) (none) (cond (L==0) (cond (decide (G=0)) (none) (cond (decide (G=0)) (none) (some [U (wrap .u64 (I.tdiv G)),U (I.tmod G)]))) ((O [U G]).bind λE=>
 cond (decide (wrap .u64 (gA E 0)<0)) (none) (cond (decide (wrap .u64 (gA E 0)<0)) (none) (cond (decide (wrap .u64 (64-wrap .u64 (gA E 0))<0)) (none) (cond (decide (wrap .u64 (gA E 0)<0)) (none) (cond (decide ((wrap .u64 (G*2^min (wrap .u64 (gA E 0)).toNat IntKind.u64.bits)).fdiv (2^min (Int.toNat 32) IntKind.u64.bits)=0)) (none) ((M [U (wrap .u64 (G*2^min (wrap .u64 (gA E 0)).toNat IntKind.u64.bits)),U (wrap .u64 (gA E 0)),U ((wrap .u64 (G*2^min (wrap .u64 (gA E 0)).toNat IntKind.u64.bits)).fdiv (2^min (Int.toNat 32) IntKind.u64.bits)),U (wrap .u64 (↑(BitVec.ofInt IntKind.u64.bits (wrap .u64 (G*2^min (wrap .u64 (gA E 0)).toNat IntKind.u64.bits))&&&BitVec.ofInt IntKind.u64.bits 4294967295).toNat:Int)),U (wrap .u64 (↑(BitVec.ofInt IntKind.u64.bits (wrap .u64 (L*2^min (wrap .u64 (gA E 0)).toNat IntKind.u64.bits))|||BitVec.ofInt IntKind.u64.bits (I.fdiv (2^min (wrap .u64 (64-wrap .u64 (gA E 0))).toNat IntKind.u64.bits))).toNat:Int)),U ((wrap .u64 (I*2^min (wrap .u64 (gA E 0)).toNat IntKind.u64.bits)).fdiv (2^min (Int.toNat 32) IntKind.u64.bits)),U (wrap .u64 (↑(BitVec.ofInt IntKind.u64.bits (wrap .u64 (I*2^min (wrap .u64 (gA E 0)).toNat IntKind.u64.bits))&&&BitVec.ofInt IntKind.u64.bits 4294967295).toNat:Int)),U (wrap .u64 ((wrap .u64 (↑(BitVec.ofInt IntKind.u64.bits (wrap .u64 (L*2^min (wrap .u64 (gA E 0)).toNat IntKind.u64.bits))|||BitVec.ofInt IntKind.u64.bits (I.fdiv (2^min (wrap .u64 (64-wrap .u64 (gA E 0))).toNat IntKind.u64.bits))).toNat:Int)).tdiv ((wrap .u64 (G*2^min (wrap .u64 (gA E 0)).toNat IntKind.u64.bits)).fdiv (2^min (Int.toNat 32) IntKind.u64.bits)))),U (wrap .u64 (wrap .u64 (↑(BitVec.ofInt IntKind.u64.bits (wrap .u64 (L*2^min (wrap .u64 (gA E 0)).toNat IntKind.u64.bits))|||BitVec.ofInt IntKind.u64.bits (I.fdiv (2^min (wrap .u64 (64-wrap .u64 (gA E 0))).toNat IntKind.u64.bits))).toNat:Int)-wrap .u64 (wrap .u64 ((wrap .u64 (↑(BitVec.ofInt IntKind.u64.bits (wrap .u64 (L*2^min (wrap .u64 (gA E 0)).toNat IntKind.u64.bits))|||BitVec.ofInt IntKind.u64.bits (I.fdiv (2^min (wrap .u64 (64-wrap .u64 (gA E 0))).toNat IntKind.u64.bits))).toNat:Int)).tdiv ((wrap .u64 (G*2^min (wrap .u64 (gA E 0)).toNat IntKind.u64.bits)).fdiv (2^min (Int.toNat 32) IntKind.u64.bits)))*(wrap .u64 (G*2^min (wrap .u64 (gA E 0)).toNat IntKind.u64.bits)).fdiv (2^min (Int.toNat 32) IntKind.u64.bits))))]).bind λD=>
 cond (D.1.beq 1) (cond (decide (gA D.2 2=0)) (none) ((N [U (gA D.2 0),U (gA D.2 1),U (gA D.2 2),U (gA D.2 3),U (gA D.2 6),U (gA D.2 7),U (wrap .u64 (wrap .u64 (wrap .u64 (wrap .u64 (gA D.2 4*4294967296)+gA D.2 5)-wrap .u64 (gA D.2 7*gA D.2 0))-wrap .u64 (wrap .u64 ((wrap .u64 (wrap .u64 (wrap .u64 (gA D.2 4*4294967296)+gA D.2 5)-wrap .u64 (gA D.2 7*gA D.2 0))).tdiv (gA D.2 2))*gA D.2 2))),U (wrap .u64 (wrap .u64 (wrap .u64 (gA D.2 4*4294967296)+gA D.2 5)-wrap .u64 (gA D.2 7*gA D.2 0))),U (wrap .u64 ((wrap .u64 (wrap .u64 (wrap .u64 (gA D.2 4*4294967296)+gA D.2 5)-wrap .u64 (gA D.2 7*gA D.2 0))).tdiv (gA D.2 2)))]).bind λJ=>
 cond (J.1.beq 1) (cond (decide (gA J.2 1<0)) (none) (some [U (wrap .u64 (wrap .u64 (gA J.2 3*4294967296)+gA J.2 5)),U ((wrap .u64 (wrap .u64 (wrap .u64 (gA J.2 4*4294967296)+gA J.2 2)-wrap .u64 (gA J.2 5*gA J.2 0))).fdiv (2^min (gA J.2 1).toNat IntKind.u64.bits))])) (none))) (none))))))))):=by kernel_rfl
def RG:=An (JN Ge)
def Qa1:=An (Nu Ge RG)
def FG:=YN Ge RG Qa1
theorem Qi3:Aj PG (UF Ge):=Am rfl ⟨Qv1,trivial⟩
theorem Qkz:Ak PG (Q0v FG):=rw2 (C:=Qsm Ge RG Qa1) (fl (fl fb Qi3) Qi3) Qi3
def XX:=qa 157 Qg6 S_
def Qlg:Fn:=Al PG Qaf 64 157 Qg6 S_
theorem Q3c (D:Int):Qlg [I D]=
 cond (decide (D<0)) (some [U (wrap .u64 (wrap .u64 (O (0-O (D+1)))+1))]) (some [U (wrap .u64 D)]):=by kernel_rfl
def Fj:=Qlg
theorem Q9y:Aj PG (Qaf):=Am rfl trivial
theorem SR:Ak PG (XX Fj):=rw1 (C:=Qaf) Q9y
def Qgp:=qa 109 SK UY
def Qip (D E G I J L M:Fn):Cfg:=cf [Tn D,Qvs E,T_ G,Q0v I,Q7 J,XX L,Qiq M]
def XQ (D E G I J L M:Fn):Fn:=Al PG (Qip D E G I J L M) 64 109 SK UY
abbrev R8 (O:Fn) (S:Int) (E:List AC) (N:Fn) (G D:AC):Option (List AC):=
 (O [I S,G,B (decide (gA E 1>0)),D]).bind λM=>
 cond (bA M 0) (cond (wrap .u64 (gA E 0+1)==0) (some [I 0,B false]) ((N [U (wrap .u64 (gA E 0+1)),D]).bind λJ=>
 some [jA J 0,B (bA J 1)])) ((N [U (gA E 0),D]).bind λL=>
 some [jA L 0,B (bA L 1)])
abbrev SX (D G:List AC) (J:Fn) (L:Int) (M:Fn) (E:AC):Option (List AC):=
 cond (decide (gA D 1>wrap .u64 (gA G 0-gA D 1))) (R8 J L D M (I 1) E) (cond (decide (gA D 1<wrap .u64 (gA G 0-gA D 1))) (R8 J L D M (I (-1)) E) (R8 J L D M (I 0) E))
theorem Zq0 (S T V EW Br J Df:Fn) (L M N O:Int):XQ S T V EW Br J Df [I L,I M,I N,I O]=
 cond (N==0) (some [I 0,B false]) ((Df [I O]).bind λX=>
 cond (!bA X 0) (some [I 0,B false]) ((J [I L]).bind λY=>
 (J [I M]).bind λa0=>
 (Br [U (gA Y 0),U (gA a0 0)]).bind λE=>
 (J [I N]).bind λD=>
 cond (decide (gA E 0>=gA D 0)) (some [I 0,B false]) ((EW [U (gA E 0),U (gA E 1),U (gA D 0)]).bind λG=>
 (V [I L,I M]).bind λa1=>
 cond (!decide (gA a1 0<0)==decide (N<0)) ((V [I L,I M]).bind λa2=>
 SX G D T O S (B (gA a2 0 !=0))) (SX G D T O S (B false))))):=by kernel_rfl
def Ee:=XQ Eu Hl Fp FG DO Fj Fm
theorem Zng:Aj PG (Qip Eu Hl Fp FG DO Fj Fm):=Am rfl ⟨Qd0,Q2s,YJ,Qkz,RH,SR,Qg0,trivial⟩
theorem Vq:Ak PG (Qgp Ee):=rw1 (C:=Qip Eu Hl Fp FG DO Fj Fm) Zng
def Qpw:=qa 256 Qey Qg6
def Qy8:Fn:=Al PG VR 64 256 Qey Qg6
theorem Zlo (D E G J L M N S T:Int):Qy8 [I D,I E,I G,I J,I L,I M,I N,I S,I T]=
 some [I (O (O (O (0+O (O (O (D+N)-O (2*J))*O (O (D+N)-O (2*J))))+O (O (O (E+S)-O (2*L))*O (O (E+S)-O (2*L))))+O (O (O (G+T)-O (2*M))*O (O (G+T)-O (2*M)))))]:=by kernel_rfl
def FV:=Qy8
theorem Q7e:Aj PG (VR):=Am rfl trivial
theorem Qqm:Ak PG (Qpw FV):=rw1 (C:=VR) Q7e
def Zag:=qa 250 Qey Qg6
def So (D:Fn):Cfg:=cf [Qpw D]
def Qob:List (Ex×Sk):=[(Ex.exit 0,⟨dd 7++[tf [ci]]++dd 22,[],[]⟩)]
def OA (D:Fn):Lp:=A4 PG (So D) 64 2 (A3 PG 250 2) Qye Qob
def Quk (D:Fn) (E:Lp):Cfg:=(So D).loop 2 Qye Qob E
def W0 (D:Fn) (E:Lp):Fn:=Al PG (Quk D E) 64 250 Qey Qg6
theorem Zqu (U:Fn) (v0 D E G J L M N S T:Int):OA U [I v0,I D,I E,I G,I J,I L,I M,I N,I S,I T]=
 cond (decide (v0<64)) ((U [I D,I E,I G,I J,I L,I M,I N,I S,I T]).bind λo2=>
 cond (decide (gA o2 0>O (O (O (O (O (O (16*v0)*v0)*v0)*v0)*4)*4))) (some (0,[I (O (v0*2)),I D,I E,I G,I J,I L,I M,I N,I S,I T])) (some (1,[I v0]))) (some (1,[I v0])):=by kernel_rfl
theorem Q96 (U:Fn) (D:Lp) (E G J L M N O S T:Int):W0 U D [I E,I G,I J,I L,I M,I N,I O,I S,I T]=
 (D [I 2,I E,I G,I J,I L,I M,I N,I O,I S,I T]).bind λo3=>
 cond (o3.1.beq 1) (some [jA o3.2 0]) (none):=by kernel_rfl
def Q0c:=An (OA FV)
def IH:=W0 FV Q0c
theorem Q1i:Aj PG (So FV):=Am rfl ⟨Qqm,trivial⟩
theorem Q5a:Ak PG (Zag IH):=rw2 (C:=Quk FV Q0c) (fl fb Q1i) Q1i
def T4:Sk:=⟨[TS.v true [se .u64,se .u64],tf [se .u64]],[],[]⟩
def Qdo:Sk:=⟨[TS.tup [(true,[se .u64,se .u64]),(false,[sb])]],[],[]⟩
def Q4s:=qa 261 T4 Qdo
def XN (D:Fn):Cfg:=cf [Q0v D]
def X7 (D:Fn):Fn:=Al PG (XN D) 64 261 T4 Qdo
theorem Zbe (D:Fn) (G I E:Int):X7 D [U G,U I,U E]=
 (D [U 0,U G,U E]).bind λo2=>
 (D [U (gA o2 1),U I,U E]).bind λo3=>
 some [U (gA o2 0),U (gA o3 0),B (decide (gA o3 1>0))]:=by kernel_rfl
def Rj:=X7 FG
theorem Zvc:Aj PG (XN FG):=Am rfl ⟨Qkz,trivial⟩
theorem Zf3:Ak PG (Q4s Rj):=rw1 (C:=XN FG) Zvc
def Qv9:=qa 257 SK UY
def Z1 (D E G I J L M N:Fn):Cfg:=cf [Tn D,Qvs E,T_ G,Qxi I,Q4s J,Q7 L,Qiq M,XX N]
def Uc (D E G I J L M N:Fn):Fn:=Al PG (Z1 D E G I J L M N) 64 257 SK UY
abbrev Ox (Cf:Fn) (x3:Int) (V:Fn) (E:List AC) (G:Bool) (J D L M:AC):Option (List AC):=
 cond (G) ((Cf [I x3,J,B true,D]).bind λX=>
 cond (bA X 0) ((V [U (wrap .u64 (wrap .u64 ((gA E 0).tdiv 2)+1)),D]).bind λN=>
 some [jA N 0,B (bA N 1)]) ((V [U (wrap .u64 ((gA E 0).tdiv 2)),D]).bind λO=>
 some [jA O 0,B (bA O 1)])) ((Cf [I x3,L,M,D]).bind λY=>
 cond (bA Y 0) ((V [U (wrap .u64 (wrap .u64 ((gA E 0).tdiv 2)+1)),D]).bind λS=>
 some [jA S 0,B (bA S 1)]) ((V [U (wrap .u64 ((gA E 0).tdiv 2)),D]).bind λT=>
 some [jA T 0,B (bA T 1)]))
theorem Q6a (M N CT E8 K3 Br Df O:Fn) (S T x2 L:Int):Uc M N CT E8 K3 Br Df O [I S,I T,I x2,I L]=
 (O [I S]).bind λa0=>
 cond (decide (gA a0 0>2147483648)) (some [I 0,B false]) ((O [I T]).bind λa1=>
 cond (decide (gA a1 0>2147483648)) (some [I 0,B false]) (cond (decide (x2<1)) (some [I 0,B false]) (cond (decide (x2>4611686018427387904)) (some [I 0,B false]) ((Df [I L]).bind λa2=>
 cond (!bA a2 0) (some [I 0,B false]) ((O [I S]).bind λV=>
 (O [I T]).bind λX=>
 (Br [U (wrap .u64 (2*wrap .u64 (gA V 0*gA X 0))),U (wrap .u64 (2*wrap .u64 (gA V 0*gA X 0)))]).bind λY=>
 (K3 [U (gA Y 0),U (gA Y 1),U (wrap .u64 x2)]).bind λD=>
 (E8 [U (gA D 0),U (gA D 1)]).bind λE=>
 cond (bA D 2) ((CT [I S,I T]).bind λa3=>
 Ox N L M E ((gA E 0).tmod 2==1) (I 1) (B (decide (gA a3 0<0))) (I (-1)) (B true)) ((Br [U (gA E 0),U (gA E 0)]).bind λG=>
 (CT [I S,I T]).bind λJ=>
 cond ((gA E 0).tmod 2==1) (cond (!(gA G 0==gA D 0&&(gA G 1==gA D 1&&true))) (Ox N L M E (!(gA G 0==gA D 0&&(gA G 1==gA D 1&&true))) (I 1) (B (decide (gA J 0<0))) (I 1) (B ((gA E 0).tmod 2==1))) (Ox N L M E (!(gA G 0==gA D 0&&(gA G 1==gA D 1&&true))) (I 0) (B (decide (gA J 0<0))) (I 0) (B ((gA E 0).tmod 2==1)))) (Ox N L M E (!(gA G 0==gA D 0&&(gA G 1==gA D 1&&true))) (I (-1)) (B (decide (gA J 0<0))) (I (-1)) (B ((gA E 0).tmod 2==1))))))))):=by kernel_rfl
def Hf:=Uc Eu Hl Fp Id Rj DO Fm Fj
theorem Q6n:Aj PG (Z1 Eu Hl Fp Id Rj DO Fm Fj):=Am rfl ⟨Qd0,Q2s,YJ,Qvm,Zf3,RH,Qg0,SR,trivial⟩
theorem Qmr:Ak PG (Qv9 Hf):=rw1 (C:=Z1 Eu Hl Fp Id Rj DO Fm Fj) Q6n
def Qnp:=qa 249 Qh7 Qfm
def Qbd (D:Fn):Cfg:={cf [Qv9 D]with unroll:=[5,10]}
def Qja (D:Fn):Fn:=Al PG (Qbd D) 64 249 Qh7 Qfm
theorem Q53 (S:Fn) (D E G J L M N:Int):Qja S [I D,I E,I G,I J,I L,I M,I N]=
 cond (J==D&&(L==E&&(M==G&&true))) (some [I 0,I 0,I 0,B false]) (cond (decide (N<0)) (some [I 0,I 0,I 0,B false]) (cond (decide (N>33554432)) (some [I 0,I 0,I 0,B false]) ((S [I (O (J-D)),I N,I (O (O (O (0+O (O (J-D)*O (J-D)))+O (O (L-E)*O (L-E)))+O (O (M-G)*O (M-G)))),I 2]).bind λo3=>
 (S [I (O (L-E)),I N,I (O (O (O (0+O (O (J-D)*O (J-D)))+O (O (L-E)*O (L-E)))+O (O (M-G)*O (M-G)))),I 2]).bind λo4=>
 (S [I (O (M-G)),I N,I (O (O (O (0+O (O (J-D)*O (J-D)))+O (O (L-E)*O (L-E)))+O (O (M-G)*O (M-G)))),I 2]).bind λT=>
 some [I (O (D+gA o3 0)),I (O (E+gA o4 0)),I (O (G+gA T 0)),B true]))):=by kernel_rfl
def FN:=Qja Hf
theorem Zeo:Aj PG (Qbd Hf):=Am rfl ⟨Qmr,trivial⟩
theorem Quw:Ak PG (Qnp FN):=rw1 (C:=Qbd Hf) Zeo
def Zrz:=qa 248 Qij Qg6
def Sv (D E G:Fn):Cfg:=cf [Qpw D,Qnp E,Ql1 G]
def Qkd:Sk:=⟨[td,td,td,tf [ci],tf [sc 4 0],tf [sc 5 0],tf [sc 6 0],td,td,tf [ci],tf [ci],tf [ci]]++dd 62,[(4,78,[ci,ci,ci]),(5,78,[ci,ci,ci]),(6,78,[ci,ci,ci])],[]⟩
def Qvb:List (Ex×Sk):=[(Ex.exit 0,⟨dd 10++[tf [ci]]++dd 63,[],[]⟩)]
def K2 (D E G:Fn):Lp:=A4 PG (Sv D E G) 64 6 (A3 PG 248 6) Qkd Qvb
def Qzt (D E G:Fn) (I:Lp):Cfg:=(Sv D E G).loop 6 Qkd Qvb I
def Qge (D E G:Fn) (I:Lp):Fn:=Al PG (Qzt D E G I) 64 248 Qij Qg6
theorem Qwp (Co U CU:Fn) (v0 M E D N S T G J L v10 v11 v12:Int):K2 Co U CU [I v0,I M,I E,I D,I N,I S,I T,I G,I J,I L,I v10,I v11,I v12]=
 cond (decide (D>0)) (cond (decide (O (E+D)>M)) (some (0,[I v0,I M,I E,I (D.fdiv (2^min (Int.toNat 1) IntKind.i64.bits)),I N,I S,I T,I G,I J,I L,I v10,I v11,I v12])) ((U [I G,I J,I L,I N,I S,I T,I (O (E+D))]).bind λV=>
 (U [I G,I J,I L,I v10,I v11,I v12,I (O (E+D))]).bind λX=>
 (Co [jA V 0,jA V 1,jA V 2,I G,I J,I L,jA X 0,jA X 1,jA X 2]).bind λY=>
 cond (decide (gA Y 0<=O (O (16*v0)*v0))) (some (0,[I v0,I M,I (O (E+D)),I (D.fdiv (2^min (Int.toNat 1) IntKind.i64.bits)),I N,I S,I T,I G,I J,I L,I v10,I v11,I v12])) (some (0,[I v0,I M,I E,I (D.fdiv (2^min (Int.toNat 1) IntKind.i64.bits)),I N,I S,I T,I G,I J,I L,I v10,I v11,I v12])))) (some (1,[I E])):=by kernel_rfl
theorem Zbc (Co B8 V:Fn) (N6:Lp) (L M N E G J S T U x9:Int):Qge Co B8 V N6 [I L,I M,I N,I E,I G,I J,I S,I T,I U,I x9]=
 cond (L==E&&(M==G&&(N==J&&true))) (some [I 0]) (cond (S==E&&(T==G&&(U==J&&true))) (some [I 0]) ((V [I L,I M,I N,I E,I G,I J]).bind λX=>
 (V [I E,I G,I J,I S,I T,I U]).bind λY=>
 (N6 [I x9,I (O (mn (gA X 0) (gA Y 0)-2)),I 0,I 16777216,I L,I M,I N,I E,I G,I J,I S,I T,I U]).bind λD=>
 cond (D.1.beq 1) (cond (decide (gA D.2 0<16)) (some [I 0]) (some [jA D.2 0])) (none))):=by kernel_rfl
def Qxa:=An (K2 FV FN HN)
def JI:=Qge FV FN HN Qxa
theorem Qme:Aj PG (Sv FV FN HN):=Am rfl ⟨Qqm,Quw,Qnb,trivial⟩
theorem Zdc:Ak PG (Zrz JI):=rw2 (C:=Qzt FV FN HN Qxa) (fl fb Qme) Qme
def Q7l:=qa 233 Qij Qhl
def Ye (D E G I:Fn):Cfg:={cf [Qgp D,Zag E,Qnp G,Zrz I]with unroll:=[13]}
def Q2u:Sk:=⟨[td,td,td,td,td,tf [sc 5 0],td,td,td,td,tf [sc 10 0],td,tf [sc 12 0],td,tf [ci],tf [sd 50 3]]++dd 36++[tf [ci],tf [ci]]++dd 57,[(5,78,[ci,ci,ci]),(10,78,[ci,ci,ci]),(12,78,[ci,ci,ci])],[(50,78,kPt)]⟩
def Qkh:List (Ex×Sk):=[(Ex.exit 0,⟨dd 15++[tf [sd 50 3]]++dd 95,[],[(50,78,kPt)]⟩)]
def L5 (D E G I:Fn):Lp:=A4 PG (Ye D E G I) 64 9 (A3 PG 233 9) Q2u Qkh
def Qyp (D E G I:Fn) (J:Lp):Cfg:=(Ye D E G I).loop 9 Q2u Qkh J
def Qe1 (D E G I:Fn) (J:Lp):Fn:=Al PG (Qyp D E G I J) 64 233 Qij Qhl
theorem Qkl (S FZ B8 Ft:Fn) (v0:Rw) (M T D E G J U V X v10 v11 v12:Int):L5 S FZ B8 Ft [.vC kPt v0,I M,I T,I D,I E,I G,I J,I U,I V,I X,I v10,I v11,I v12]=
 cond (decide (D<T)) (cond (decide (0<=D)&&decide (D<(v0.length:Int))) ((S [I (O (O (O (O (M-D)*O (M-D))*O (U-E))+O (O (D*D)*O (v10-E)))),I 1,I (O (M*M)),I 2]).bind λL=>
 cond (decide (0<=D)&&decide (D<(v0.length:Int))) (cond (decide (0<=D)&&decide (D<(v0.length:Int))) ((S [I (O (O (O (O (M-D)*O (M-D))*O (V-G))+O (O (D*D)*O (v11-G)))),I 1,I (O (M*M)),I 2]).bind λN=>
 cond (decide (0<=D)&&decide (D<(v0.length:Int))) (cond (decide (0<=D)&&decide (D<(v0.length:Int))) ((S [I (O (O (O (O (M-D)*O (M-D))*O (X-J))+O (O (D*D)*O (v12-J)))),I 1,I (O (M*M)),I 2]).bind λY=>
 cond (decide (0<=D)&&decide (D<(v0.length:Int))) (cond (decide (0<=D)&&decide (D<(v0.length:Int))) (some (0,[.vC kPt ((((v0.set D.toNat [I E,I G,I J]).set D.toNat [I (O (Ah (nth .dead (nth [] (v0.set D.toNat [I E,I G,I J]) D.toNat) 0)+gA L 0)),I (Ah (nth .dead (nth [] (v0.set D.toNat [I E,I G,I J]) D.toNat) 1)),I (Ah (nth .dead (nth [] (v0.set D.toNat [I E,I G,I J]) D.toNat) 2))]).set D.toNat [I (Ah (nth .dead (nth [] ((v0.set D.toNat [I E,I G,I J]).set D.toNat [I (O (Ah (nth .dead (nth [] (v0.set D.toNat [I E,I G,I J]) D.toNat) 0)+gA L 0)),I (Ah (nth .dead (nth [] (v0.set D.toNat [I E,I G,I J]) D.toNat) 1)),I (Ah (nth .dead (nth [] (v0.set D.toNat [I E,I G,I J]) D.toNat) 2))]) D.toNat) 0)),I (O (Ah (nth .dead (nth [] ((v0.set D.toNat [I E,I G,I J]).set D.toNat [I (O (Ah (nth .dead (nth [] (v0.set D.toNat [I E,I G,I J]) D.toNat) 0)+gA L 0)),I (Ah (nth .dead (nth [] (v0.set D.toNat [I E,I G,I J]) D.toNat) 1)),I (Ah (nth .dead (nth [] (v0.set D.toNat [I E,I G,I J]) D.toNat) 2))]) D.toNat) 1)+gA N 0)),I (Ah (nth .dead (nth [] ((v0.set D.toNat [I E,I G,I J]).set D.toNat [I (O (Ah (nth .dead (nth [] (v0.set D.toNat [I E,I G,I J]) D.toNat) 0)+gA L 0)),I (Ah (nth .dead (nth [] (v0.set D.toNat [I E,I G,I J]) D.toNat) 1)),I (Ah (nth .dead (nth [] (v0.set D.toNat [I E,I G,I J]) D.toNat) 2))]) D.toNat) 2))]).set D.toNat [I (Ah (nth .dead (nth [] (((v0.set D.toNat [I E,I G,I J]).set D.toNat [I (O (Ah (nth .dead (nth [] (v0.set D.toNat [I E,I G,I J]) D.toNat) 0)+gA L 0)),I (Ah (nth .dead (nth [] (v0.set D.toNat [I E,I G,I J]) D.toNat) 1)),I (Ah (nth .dead (nth [] (v0.set D.toNat [I E,I G,I J]) D.toNat) 2))]).set D.toNat [I (Ah (nth .dead (nth [] ((v0.set D.toNat [I E,I G,I J]).set D.toNat [I (O (Ah (nth .dead (nth [] (v0.set D.toNat [I E,I G,I J]) D.toNat) 0)+gA L 0)),I (Ah (nth .dead (nth [] (v0.set D.toNat [I E,I G,I J]) D.toNat) 1)),I (Ah (nth .dead (nth [] (v0.set D.toNat [I E,I G,I J]) D.toNat) 2))]) D.toNat) 0)),I (O (Ah (nth .dead (nth [] ((v0.set D.toNat [I E,I G,I J]).set D.toNat [I (O (Ah (nth .dead (nth [] (v0.set D.toNat [I E,I G,I J]) D.toNat) 0)+gA L 0)),I (Ah (nth .dead (nth [] (v0.set D.toNat [I E,I G,I J]) D.toNat) 1)),I (Ah (nth .dead (nth [] (v0.set D.toNat [I E,I G,I J]) D.toNat) 2))]) D.toNat) 1)+gA N 0)),I (Ah (nth .dead (nth [] ((v0.set D.toNat [I E,I G,I J]).set D.toNat [I (O (Ah (nth .dead (nth [] (v0.set D.toNat [I E,I G,I J]) D.toNat) 0)+gA L 0)),I (Ah (nth .dead (nth [] (v0.set D.toNat [I E,I G,I J]) D.toNat) 1)),I (Ah (nth .dead (nth [] (v0.set D.toNat [I E,I G,I J]) D.toNat) 2))]) D.toNat) 2))]) D.toNat) 0)),I (Ah (nth .dead (nth [] (((v0.set D.toNat [I E,I G,I J]).set D.toNat [I (O (Ah (nth .dead (nth [] (v0.set D.toNat [I E,I G,I J]) D.toNat) 0)+gA L 0)),I (Ah (nth .dead (nth [] (v0.set D.toNat [I E,I G,I J]) D.toNat) 1)),I (Ah (nth .dead (nth [] (v0.set D.toNat [I E,I G,I J]) D.toNat) 2))]).set D.toNat [I (Ah (nth .dead (nth [] ((v0.set D.toNat [I E,I G,I J]).set D.toNat [I (O (Ah (nth .dead (nth [] (v0.set D.toNat [I E,I G,I J]) D.toNat) 0)+gA L 0)),I (Ah (nth .dead (nth [] (v0.set D.toNat [I E,I G,I J]) D.toNat) 1)),I (Ah (nth .dead (nth [] (v0.set D.toNat [I E,I G,I J]) D.toNat) 2))]) D.toNat) 0)),I (O (Ah (nth .dead (nth [] ((v0.set D.toNat [I E,I G,I J]).set D.toNat [I (O (Ah (nth .dead (nth [] (v0.set D.toNat [I E,I G,I J]) D.toNat) 0)+gA L 0)),I (Ah (nth .dead (nth [] (v0.set D.toNat [I E,I G,I J]) D.toNat) 1)),I (Ah (nth .dead (nth [] (v0.set D.toNat [I E,I G,I J]) D.toNat) 2))]) D.toNat) 1)+gA N 0)),I (Ah (nth .dead (nth [] ((v0.set D.toNat [I E,I G,I J]).set D.toNat [I (O (Ah (nth .dead (nth [] (v0.set D.toNat [I E,I G,I J]) D.toNat) 0)+gA L 0)),I (Ah (nth .dead (nth [] (v0.set D.toNat [I E,I G,I J]) D.toNat) 1)),I (Ah (nth .dead (nth [] (v0.set D.toNat [I E,I G,I J]) D.toNat) 2))]) D.toNat) 2))]) D.toNat) 1)),I (O (Ah (nth .dead (nth [] (((v0.set D.toNat [I E,I G,I J]).set D.toNat [I (O (Ah (nth .dead (nth [] (v0.set D.toNat [I E,I G,I J]) D.toNat) 0)+gA L 0)),I (Ah (nth .dead (nth [] (v0.set D.toNat [I E,I G,I J]) D.toNat) 1)),I (Ah (nth .dead (nth [] (v0.set D.toNat [I E,I G,I J]) D.toNat) 2))]).set D.toNat [I (Ah (nth .dead (nth [] ((v0.set D.toNat [I E,I G,I J]).set D.toNat [I (O (Ah (nth .dead (nth [] (v0.set D.toNat [I E,I G,I J]) D.toNat) 0)+gA L 0)),I (Ah (nth .dead (nth [] (v0.set D.toNat [I E,I G,I J]) D.toNat) 1)),I (Ah (nth .dead (nth [] (v0.set D.toNat [I E,I G,I J]) D.toNat) 2))]) D.toNat) 0)),I (O (Ah (nth .dead (nth [] ((v0.set D.toNat [I E,I G,I J]).set D.toNat [I (O (Ah (nth .dead (nth [] (v0.set D.toNat [I E,I G,I J]) D.toNat) 0)+gA L 0)),I (Ah (nth .dead (nth [] (v0.set D.toNat [I E,I G,I J]) D.toNat) 1)),I (Ah (nth .dead (nth [] (v0.set D.toNat [I E,I G,I J]) D.toNat) 2))]) D.toNat) 1)+gA N 0)),I (Ah (nth .dead (nth [] ((v0.set D.toNat [I E,I G,I J]).set D.toNat [I (O (Ah (nth .dead (nth [] (v0.set D.toNat [I E,I G,I J]) D.toNat) 0)+gA L 0)),I (Ah (nth .dead (nth [] (v0.set D.toNat [I E,I G,I J]) D.toNat) 1)),I (Ah (nth .dead (nth [] (v0.set D.toNat [I E,I G,I J]) D.toNat) 2))]) D.toNat) 2))]) D.toNat) 2)+gA Y 0))]),I M,I T,I (O (D+1)),I E,I G,I J,I U,I V,I X,I v10,I v11,I v12])) (none)) (none)) (none)) (none)) (none)) (none)) (none)) (some (1,[.vC kPt v0])):=by kernel_rfl
theorem Qu4 (BP FZ T Ft:Fn) (N9:Lp) (U V X J L M Y x7 x8 x9:Int):Qe1 BP FZ T Ft N9 [I U,I V,I X,I J,I L,I M,I Y,I x7,I x8,I x9]=
 (Ft [I U,I V,I X,I J,I L,I M,I Y,I x7,I x8,I x9]).bind λN=>
 cond (gA N 0==0) (some [.vC kPt [[I J,I L,I M]]]) ((T [I J,I L,I M,I U,I V,I X,jA N 0]).bind λE=>
 (T [I J,I L,I M,I Y,I x7,I x8,jA N 0]).bind λG=>
 (FZ [jA E 0,jA E 1,jA E 2,I J,I L,I M,jA G 0,jA G 1,jA G 2]).bind λD=>
 cond (decide (O (gA D 0+1)=O (gA D 0+1))) (cond (decide (0<=O (gA D 0+1))&&decide (O (gA D 0+1)*(↑24:Int)<=140737488355328)) ((N9 [.vC kPt (List.replicate (O (gA D 0+1)).toNat [I 0,I 0,I 0]),jA D 0,I (↑(List.replicate (O (gA D 0+1)).toNat [I 0,I 0,I 0]).length:Int),I 0,I J,I L,I M,jA E 0,jA E 1,jA E 2,jA G 0,jA G 1,jA G 2]).bind λS=>
 cond (S.1.beq 1) (some [.vC kPt (wA S.2 0)]) (none)) (none)) (none)):=by kernel_rfl
def Qt8:=An (L5 Ee IH FN JI)
def Np:=Qe1 Ee IH FN JI Qt8
theorem Qwf:Aj PG (Ye Ee IH FN JI):=Am rfl ⟨Vq,Q5a,Quw,Zdc,trivial⟩
theorem Zps:Ak PG (Q7l Np):=rw2 (C:=Qyp Ee IH FN JI Qt8) (fl fb Qwf) Qwf
def Zmi:=qa 234 X2 X2
def Qpn:Fn:=Al PG Qaf 64 234 X2 X2
theorem Zbf (D E G:Int):Qpn [I D,I E,I G]=
 some [I (O (D*16)),I (O (E*16)),I (O (G*16))]:=by kernel_rfl
def LD:=Qpn
theorem Q8o:Aj PG (Qaf):=Am rfl trivial
theorem Zb9:Ak PG (Zmi LD):=rw1 (C:=Qaf) Q8o
def W_:Sk:=⟨[TS.v true (cc 13++[sb,ci,sb]++cc 5++[sb]),TS.v true (cc 13++[sb,ci,sb]++cc 5++[sb])],[],[]⟩
def Qj6:Sk:=⟨[TS.tup [(false,[sa kPt]),(false,[sa kPt])]],[],[]⟩
def Q4x:=qa 215 W_ Qj6
def Qae (D E G:Fn):Cfg:=cf [Q7l D,Zmi E,X_ G]
def Qca (D E G:Fn):Fn:=Al PG (Qae D E G) 64 215 W_ Qj6
theorem Zug (Ky LI BK:Fn) (x0 x1 x2 x3 x4 x5 x6 x7 x8 x9 G J L:Int) (M:Bool) (N:Int) (S:Bool) (T U E V X:Int) (Y:Bool) (a0 a1 a2 a3 a4 a5 a6 a7 a8 a9 b0 b1 b2:Int) (b3:Bool) (b4:Int) (b5:Bool) (b6 b7 b8 b9 c0:Int) (c1:Bool):Qca Ky LI BK [I x0,I x1,I x2,I x3,I x4,I x5,I x6,I x7,I x8,I x9,I G,I J,I L,B M,I N,B S,I T,I U,I E,I V,I X,B Y,I a0,I a1,I a2,I a3,I a4,I a5,I a6,I a7,I a8,I a9,I b0,I b1,I b2,B b3,I b4,B b5,I b6,I b7,I b8,I b9,I c0,B c1]=
 (BK [I x0,I x1,I x2,I x3,I x4,I x5,I x6,I x7,I x8,I x9,I G,I J,I L,B M,I N,B S,I T,I U,I E,I V,I X,B Y]).bind λo4=>
 (LI [I x5,I x6,I x7]).bind λo5=>
 (BK [I a0,I a1,I a2,I a3,I a4,I a5,I a6,I a7,I a8,I a9,I b0,I b1,I b2,B b3,I b4,B b5,I b6,I b7,I b8,I b9,I c0,B c1]).bind λo6=>
 (Ky [jA o4 0,jA o4 1,jA o4 2,jA o5 0,jA o5 1,jA o5 2,jA o6 0,jA o6 1,jA o6 2,I (O (E*16))]).bind λD=>
 cond (decide (0<=O (O ((O ((↑(wA D 0).length:Int)-1)).tdiv 2)+1))&&decide (O (O ((O ((↑(wA D 0).length:Int)-1)).tdiv 2)+1)<=(↑(wA D 0).length:Int))) (cond (decide (0<=O ((O ((↑(wA D 0).length:Int)-1)).tdiv 2))&&decide (O ((O ((↑(wA D 0).length:Int)-1)).tdiv 2)<=(↑(wA D 0).length:Int))) (some [.vC kPt (List.take (O (O ((O ((↑(wA D 0).length:Int)-1)).tdiv 2)+1)).toNat (wA D 0)), .vC kPt (List.drop (O ((O ((↑(wA D 0).length:Int)-1)).tdiv 2)).toNat (wA D 0))]) (none)) (none):=by kernel_rfl
def OT:=Qca Np LD Fg
theorem Zmn:Aj PG (Qae Np LD Fg):=Am rfl ⟨Zps,Zb9,Qj3,trivial⟩
theorem Zov:Ak PG (Q4x OT):=rw1 (C:=Qae Np LD Fg) Zmn
def Z8:Sk:=⟨[TS.tup [(false,[ci]),(false,[ci]),(false,[ci]),(false,[sb])]],[],[]⟩
def Qhs:=qa 209 Qg6 Z8
def Ql6:Fn:=Al PG Qaf 64 209 Qg6 Z8
theorem Zog (D:Int):Ql6 [I D]=
 cond (D==17) (some [I 0,I 1,I 2,B true]) (cond (D==18) (some [I 2,I 0,I 1,B true]) (cond (D==19) (some [I 1,I 2,I 0,B true]) (some [I 0,I 0,I 0,B false]))):=by kernel_rfl
def EL:=Ql6
theorem Znb:Aj PG (Qaf):=Am rfl trivial
theorem Qif:Ak PG (Qhs EL):=rw1 (C:=Qaf) Znb
def Q5z:=qa 232 SK X2
def Qa2 (D:Fn):Cfg:=cf [Qhs D]
def Qb4 (D:Fn):Fn:=Al PG (Qa2 D) 64 232 SK X2
abbrev Rl (o1:List AC) (J:Int) (D E G:AC):Option (List AC):=
 cond (decide (gA o1 2=(↑0:Int))) (some [I J,D,E]) (cond (decide (gA o1 2=(↑(0+1):Int))) (some [G,I J,E]) (cond (decide (gA o1 2=(↑(0+1+1):Int))) (some [G,D,I J]) (none)))
abbrev PP (o1:List AC) (J L:Int) (D E G:AC):Option (List AC):=
 cond (decide (gA o1 1=(↑0:Int))) (Rl o1 J D E (I L)) (cond (decide (gA o1 1=(↑(0+1):Int))) (Rl o1 J (I L) E G) (cond (decide (gA o1 1=(↑(0+1+1):Int))) (Rl o1 J D (I L) G) (none)))
theorem Ziw (J:Fn) (D E G L:Int):Qb4 J [I D,I E,I G,I L]=
 (J [I L]).bind λo1=>
 cond (bA o1 3) (cond (decide (gA o1 0=(↑0:Int))) (PP o1 G E (I 0) (I 0) (I D)) (cond (decide (gA o1 0=(↑(0+1):Int))) (PP o1 G E (I D) (I 0) (I 0)) (cond (decide (gA o1 0=(↑(0+1+1):Int))) (PP o1 G E (I 0) (I D) (I 0)) (none)))) (some [I 0,I 0,I 0]):=by kernel_rfl
def Kq:=Qb4 EL
theorem Zul:Aj PG (Qa2 EL):=Am rfl ⟨Qif,trivial⟩
theorem Zo9:Ak PG (Q5z Kq):=rw1 (C:=Qa2 EL) Zul
def Qp6:=qa 228 Zj Qdr
def S1 (D:Fn):Cfg:=cf [Qhs D]
def Sl (D:Fn):Fn:=Al PG (S1 D) 64 228 Zj Qdr
abbrev PQ (o1:List AC) (D:AC) (G J L:Int) (E:AC):Option (List AC):=
 cond (decide (gA o1 2=(↑0:Int))) (some [D,E,I G]) (cond (decide (gA o1 2=(↑(0+1):Int))) (some [D,E,I J]) (cond (decide (gA o1 2=(↑(0+1+1):Int))) (some [D,E,I L]) (none)))
abbrev Qx (o1:List AC) (E G J:Int) (D:AC):Option (List AC):=
 cond (decide (gA o1 1=(↑0:Int))) (PQ o1 D E G J (I E)) (cond (decide (gA o1 1=(↑(0+1):Int))) (PQ o1 D E G J (I G)) (cond (decide (gA o1 1=(↑(0+1+1):Int))) (PQ o1 D E G J (I J)) (none)))
theorem Zuf (J:Fn) (D E G L:Int):Sl J [I D,I E,I G,I L]=
 (J [I L]).bind λo1=>
 cond (!bA o1 3) (some [I 0,I 0,I 0]) (cond (decide (gA o1 0=(↑0:Int))) (Qx o1 D E G (I D)) (cond (decide (gA o1 0=(↑(0+1):Int))) (Qx o1 D E G (I E)) (cond (decide (gA o1 0=(↑(0+1+1):Int))) (Qx o1 D E G (I G)) (none)))):=by kernel_rfl
def GL:=Sl EL
theorem Q72:Aj PG (S1 EL):=Am rfl ⟨Qif,trivial⟩
theorem Qn4:Ak PG (Qp6 GL):=rw1 (C:=S1 EL) Q72
def Q0r:=qa 229 X2 X2
def Ql7:Fn:=Al PG Qaf 64 229 X2 X2
theorem Zbk (D E G:Int):Ql7 [I D,I E,I G]=
 some [I (O (D*16)),I (O (E*16)),I (O (G*16))]:=by kernel_rfl
def Gl:=Ql7
theorem Zot:Aj PG (Qaf):=Am rfl trivial
theorem Qyl:Ak PG (Q0r Gl):=rw1 (C:=Qaf) Zot
def Qc2:=qa 213 UU Qg6
def Qnl:Fn:=Al PG Qaf 64 213 UU Qg6
theorem Zbo (D E L M G J N S:Int):Qnl [I D,I E,I L,I M,I G,I J,I N,I S]=
 some [I (O (O (D*J)-O (E*G)))]:=by kernel_rfl
def FW:=Qnl
theorem Zkv:Aj PG (Qaf):=Am rfl trivial
theorem T6:Ak PG (Qc2 FW):=rw1 (C:=Qaf) Zkv
def Qi9:=qa 211 UU Qg6
def Qpo:Fn:=Al PG Qaf 64 211 UU Qg6
theorem Zkj (D E L M G J N S:Int):Qpo [I D,I E,I L,I M,I G,I J,I N,I S]=
 some [I (O (O (D*G)+O (E*J)))]:=by kernel_rfl
def Fz:=Qpo
theorem Zax:Aj PG (Qaf):=Am rfl trivial
theorem WY:Ak PG (Qi9 Fz):=rw1 (C:=Qaf) Zax
def Zr6:=qa 255 XH U_
def Qbm (D E G:Fn):Cfg:=cf [Qv9 D,Qc2 E,Qi9 G]
def Zo (D E G:Fn):Fn:=Al PG (Qbm D E G) 64 255 XH U_
abbrev XD (S:Fn) (E:AC) (J L:Int) (D G:AC) (T U:Int):Option (List AC):=
 (S [E,I ((O (O (J+L)+1)).fdiv (2^min (Int.toNat 1) IntKind.i64.bits)),D,I 2]).bind λM=>
 (S [G,I ((O (O (J+L)+1)).fdiv (2^min (Int.toNat 1) IntKind.i64.bits)),D,I 2]).bind λN=>
 some [jA M 0,jA N 0,I ((O (O (J+L)+1)).fdiv (2^min (Int.toNat 1) IntKind.i64.bits)),I ((O (O (T+U)+1)).fdiv (2^min (Int.toNat 1) IntKind.i64.bits)),B true]
abbrev OQ (M:Fn) (N O S T:Int) (J L:Bool) (D E G:AC):Option (List AC):=
 cond (J) (cond (L) (some [I 0,I 0,I 0,I 0,B false]) (XD M D N O E G S T)) (XD M D N O E G S T)
abbrev VY (Y:Bool) (U:Fn) (M N S T D E:Int) (BZ:Fn) (G J L:Int) (Cm:Fn):Option (List AC):=
 cond (Y) (OQ U M N S T (O (0-D)==0) (O (0-E)==0) (I (O (0-D))) (I (O (O (O (0-D)*O (0-D))+O (O (0-E)*O (0-E))))) (I (O (0-E)))) ((BZ [I D,I E,I M,I S,I G,I J,I N,I T]).bind λV=>
 cond (decide (gA V 0<=0)) (OQ U M N S T (O (L*O (J-E))==0) (O (L*O (D-G))==0) (I (O (L*O (J-E)))) (I (O (O (O (L*O (J-E))*O (L*O (J-E)))+O (O (L*O (D-G))*O (L*O (D-G)))))) (I (O (L*O (D-G))))) ((Cm [I D,I E,I M,I S,I G,I J,I N,I T]).bind λX=>
 cond (decide (O (gA X 0*L)<=0)) (OQ U M N S T (O (0-O (D+G))==0) (O (0-O (E+J))==0) (I (O (0-O (D+G)))) (I (O (O (O (0-O (D+G))*O (0-O (D+G)))+O (O (0-O (E+J))*O (0-O (E+J)))))) (I (O (0-O (E+J))))) (OQ U M N S T (O (D+G)==0) (O (E+J)==0) (I (O (D+G))) (I (O (O (O (D+G)*O (D+G))+O (O (E+J)*O (E+J))))) (I (O (E+J))))))
theorem Zc8 (E G J:Fn) (L M N O S T U V D:Int) (X:Bool):Zo E G J [I L,I M,I N,I O,I S,I T,I U,I V,I D,B X]=
 cond (D !=1) (cond (D != -1) (some [I 0,I 0,I 0,I 0,B false]) (VY X E N U O V L M J S T D G)) (VY X E N U O V L M J S T D G):=by kernel_rfl
def Kb:=Zo Hf FW Fz
theorem Zoe:Aj PG (Qbm Hf FW Fz):=Am rfl ⟨Qmr,T6,WY,trivial⟩
theorem Zpn:Ak PG (Zr6 Kb):=rw1 (C:=Qbm Hf FW Fz) Zoe
def Zhu:=qa 260 Vx WT
def Qve:Fn:=Al PG Qaf 64 260 Vx WT
theorem Zl4 (D E:Int):Qve [I D,I E]=
 some [B (decide (E<=O (O (O (8*D)*4)-64)))]:=by kernel_rfl
def Ln:=Qve
theorem Zi1:Aj PG (Qaf):=Am rfl trivial
theorem Q3z:Ak PG (Zhu Ln):=rw1 (C:=Qaf) Zi1
def Y7:Sk:=⟨[tf [sc 20000 0],TS.v true [ci,ci,ci,ci],TS.v true [ci,ci,ci,ci],tf [sb]],[(20000,276,[ci,sd 20000 4])],[(20000,219,[kI,kI,kI,kI])]⟩
def TL:Sk:=⟨[tf [sb]],[(20000,276,[ci,sd 20000 4])],[(20000,219,[kI,kI,kI,kI])]⟩
def Zae:=qa 254 Y7 TL
def Qjr (D E:Fn):Cfg:=cf [Zhu D,Qc2 E]
def Qbw (D E:Fn):Fn:=Al PG (Qjr D E) 64 254 Y7 TL
theorem Q6s (T U:Fn) (E:Rw) (G J N V L M S X:Int) (Y:Bool) (D:Int):Qbw T U [.vC [kI,kI,kI,kI] E,I G,I J,I N,I V,I L,I M,I S,I X,B Y,I D]=
 cond (!Y) ((U [I G,I J,I N,I V,I L,I M,I S,I X]).bind λo2=>
 cond (decide (O (gA o2 0*D)>0)) ((T [I (mn N S),I (O (O (O (G-L)*O (G-L))+O (O (J-M)*O (J-M))))]).bind λo3=>
 some [.vC [kI,kI,kI,kI] E,B (bA o3 0),I D]) (some [.vC [kI,kI,kI,kI] E,B false,I D])) (some [.vC [kI,kI,kI,kI] E,B false,I D]):=by kernel_rfl
def Js:=Qbw Ln FW
theorem Zhr:Aj PG (Qjr Ln FW):=Am rfl ⟨Q3z,T6,trivial⟩
theorem Zds:Ak PG (Zae Js):=rw1 (C:=Qjr Ln FW) Zhr
def Qqo:Nat:=20
def JW:Sk:=⟨[tf [sc 20000 0],TS.v true [ci,ci,ci,ci],TS.v true [ci,ci,ci,ci],tf [sb],tf [ci]],[(20000,276,[ci,sd 20000 4])],[(20000,219,[kI,kI,kI,kI])]⟩
def J7:Sk:=⟨[TS.tup []],[(20000,276,[ci,sd 20000 4])],[(20000,219,[kI,kI,kI,kI])]⟩
def Q25:=qa 247 JW J7
def Qh3 (D E G:Fn):Cfg:=cp [Q25 D,Zr6 E,Zae G] [247,254]
def RC (D E G:Fn):Fn:=Al PG (Qh3 D E G) 64 247 JW J7
theorem Qk5 (Y La Lm:Fn) (S:Rw) (T U V X D E G J:Int) (x9:Bool) (L N:Int):RC Y La Lm [.vC [kI,kI,kI,kI] S,I T,I U,I V,I X,I D,I E,I G,I J,B x9,I L,I N]=
 cond (decide (L<16)) ((Lm [.vC [kI,kI,kI,kI] S,I T,I U,I V,I X,I D,I E,I G,I J,B x9,I N]).bind λo4=>
 cond (!bA o4 1) ((La [I T,I U,I V,I X,I D,I E,I G,I J,jA o4 2,B x9]).bind λM=>
 cond (bA M 4) ((Y [.vC [kI,kI,kI,kI] (wA o4 0),I T,I U,I V,I X,jA M 0,jA M 1,jA M 2,jA M 3,B false,I (O (L+1)),jA o4 2]).bind λo6=>
 (Y [.vC [kI,kI,kI,kI] (wA o6 0),jA M 0,jA M 1,jA M 2,jA M 3,I D,I E,I G,I J,B false,I (O (L+1)),jA o6 1]).bind λo7=>
 some [.vC [kI,kI,kI,kI] (wA o7 0),jA o7 1]) (cond (((wA o4 0++[[I D,I E,I G,I J]]).length*32).ble 140737488355328) (some [.vC [kI,kI,kI,kI] (wA o4 0++[[I D,I E,I G,I J]]),jA o4 2]) (none))) (cond (((wA o4 0++[[I D,I E,I G,I J]]).length*32).ble 140737488355328) (some [.vC [kI,kI,kI,kI] (wA o4 0++[[I D,I E,I G,I J]]),jA o4 2]) (none))) (cond (((S++[[I D,I E,I G,I J]]).length*32).ble 140737488355328) (some [.vC [kI,kI,kI,kI] (S++[[I D,I E,I G,I J]]),I N]) (none)):=by kernel_rfl
def Q2p (M:Fn):Fn:=RC M Kb Js
def LC:Nat->Fn
 |0=>λ_=>none
 |n+1=>Q2p (LC n)
theorem Zme {M:Fn} (h:Ak PG (247,Ad JW J7 M)):Aj PG (Qh3 M Kb Js):=Am rfl ⟨h,Zpn,Zds,trivial⟩
theorem Q6w {M:Fn} (h:Ak PG (247,Ad JW J7 M)):Ak PG (247,Ad JW J7 (Q2p M)):=Pc (C:=Qh3 M Kb Js) (L:=64) (by kernel_rfl) (FnOK.bare rfl rfl rfl) (Zme h) eqOk Gj (by kernel_rfl) (by kernel_rfl)
theorem Q0e:∀n,Ak PG (247,Ad JW J7 (LC n))
 |0=>Q0n
 |n+1=>Q6w (Q0e n)
def P7:=LC Qqo
theorem Zj4:Ak PG (Q25 P7):=Q0e Qqo
def Qx0:=qa 210 Qd9 ZJ
def WU (D E:Fn):Cfg:=cf [Qp6 D,Q0r E]
def Qtu:Sk:=⟨[td,tf [sc 1 0],tf [sc 2 0],tf [sc 3 0],tf [sc 4 0],tf [ci],tf [ci]]++dd 20++[TS.v true (cc 6),tf [ci]]++dd 27,[(1,49,cc 13++[sb,ci,sb]++cc 5++[sb]),(2,219,[ci,ci,ci,ci]),(3,219,[ci,ci,ci,ci]),(4,264,cc 8)],[]⟩
def Qrp:List (Ex×Sk):=[(Ex.exit 0,⟨[td,td,tf [sc 2 0],tf [sc 3 0],tf [sc 4 0]]++dd 51,[(2,219,[ci,ci,ci,ci]),(3,219,[ci,ci,ci,ci]),(4,264,cc 8)],[]⟩)]
def Qjh (D E:Fn):Lp:=A4 PG (WU D E) 64 4 (A3 PG 210 4) Qtu Qrp
def Qng (D E:Fn) (G:Lp):Cfg:=(WU D E).loop 4 Qtu Qrp G
def Vh (D E:Fn) (G:Lp):Fn:=Al PG (Qng D E G) 64 210 Qd9 ZJ
abbrev Qcb (BF BQ:Fn) (E v8 v0 v1 v2 v3 v4 v5 v6 v7 v9 v10 v11 v12 G J L M N S v20 v21:Int) (v22:Bool) (T:Int) (v24:Bool) (v25 U v27 v28 V:Int) (v30:Bool) (v31 X v33 Y v35 v36 v37 v38 a3 v44 a4 v46 a5 v40 a6 v42:Int) (a0 a1 a2:AC):Option (Nat×List AC):=
 (BF [a0,a1,a2]).bind λo9=>
 (BQ [jA o9 0,jA o9 1,jA o9 2,I E]).bind λD=>
 cond (decide (v8=(↑0:Int))) (some (0,[I v0,I v1,I v2,I v3,I v4,I v5,I v6,I v7,I (O (v8+1)),I v9,I v10,I v11,I v12,I G,I J,I L,I M,I E,I N,I S,I v20,I v21,B v22,I T,B v24,I v25,I U,I v27,I v28,I V,B v30,I v31,I X,I v33,I Y,I v35,I v36,I v37,I v38,I (O (gA D 0-v0)),I (O (gA D 1-v1)),I 0,jA D 2,I a3,I v44,I a4,I v46])) (cond (decide (v8=(↑(0+1):Int))) (some (0,[I v0,I v1,I v2,I v3,I v4,I v5,I v6,I v7,I (O (v8+1)),I v9,I v10,I v11,I v12,I G,I J,I L,I M,I E,I N,I S,I v20,I v21,B v22,I T,B v24,I v25,I U,I v27,I v28,I V,B v30,I v31,I X,I v33,I Y,I v35,I v36,I v37,I v38,I a5,I v40,I a6,I v42,I (O (gA D 0-v0)),I (O (gA D 1-v1)),I 0,jA D 2])) (none))
theorem Qhx (BQ BF:Fn) (v0 v1 v2 v3 v4 v5 v6 v7 v8 v9 v10 v11 v12 N O S T U V X v20 v21:Int) (v22:Bool) (Y:Int) (v24:Bool) (v25 a0 v27 v28 a1:Int) (v30:Bool) (v31 D v33 E v35 v36 v37 v38 G v40 J v42 L v44 M v46:Int):Qjh BQ BF [I v0,I v1,I v2,I v3,I v4,I v5,I v6,I v7,I v8,I v9,I v10,I v11,I v12,I N,I O,I S,I T,I U,I V,I X,I v20,I v21,B v22,I Y,B v24,I v25,I a0,I v27,I v28,I a1,B v30,I v31,I D,I v33,I E,I v35,I v36,I v37,I v38,I G,I v40,I J,I v42,I L,I v44,I M,I v46]=
 cond (decide (v8<2)) (cond (decide (v8=(↑0:Int))) (Qcb BF BQ U v8 v0 v1 v2 v3 v4 v5 v6 v7 v9 v10 v11 v12 N O S T V X v20 v21 v22 Y v24 v25 a0 v27 v28 a1 v30 v31 D v33 E v35 v36 v37 v38 L v44 M v46 G v40 J v42 (I v2) (I v3) (I v4)) (cond (decide (v8=(↑(0+1):Int))) (Qcb BF BQ U v8 v0 v1 v2 v3 v4 v5 v6 v7 v9 v10 v11 v12 N O S T V X v20 v21 v22 Y v24 v25 a0 v27 v28 a1 v30 v31 D v33 E v35 v36 v37 v38 L v44 M v46 G v40 J v42 (I v5) (I v6) (I v7)) (none))) (some (1,[I v31,I D,I v33,I E,I v35,I v36,I v37,I v38,I G,I v40,I J,I v42,I L,I v44,I M,I v46])):=by kernel_rfl
theorem Zi8 (BQ BF:Fn) (N4:Lp) (x0 x1 x2 x3 x4 x5 x6 x7 x8 x9 E G L:Int) (M:Bool) (N:Int) (O:Bool) (S T U V X:Int) (Y:Bool):Vh BQ BF N4 [I x0,I x1,I x2,I x3,I x4,I x5,I x6,I x7,I x8,I x9,I E,I G,I L,B M,I N,B O,I S,I T,I U,I V,I X,B Y]=
 (BF [I x9,I E,I G]).bind λJ=>
 (BQ [jA J 0,jA J 1,jA J 2,I x8]).bind λa0=>
 (N4 [jA a0 0,jA a0 1,I x2,I x3,I x4,I x5,I x6,I x7,I 0,I x0,I x1,I x2,I x3,I x4,I x5,I x6,I x7,I x8,I x9,I E,I G,I L,B M,I N,B O,I S,I T,I U,I V,I X,B Y,I 0,I 0,I 0,I 0,I 0,I 0,I 0,I 0,I 0,I 0,I 0,I 0,I 0,I 0,I 0,I 0]).bind λD=>
 cond (D.1.beq 1) (some [jA D.2 8,jA D.2 9,jA D.2 10,jA D.2 11,jA D.2 12,jA D.2 13,jA D.2 14,jA D.2 15]) (none):=by kernel_rfl
def Q2g:=An (Qjh GL Gl)
def IK:=Vh GL Gl Q2g
theorem Qwj:Aj PG (WU GL Gl):=Am rfl ⟨Qn4,Qyl,trivial⟩
theorem Qxh:Ak PG (Qx0 IK):=rw2 (C:=Qng GL Gl Q2g) (fl fb Qwj) Qwj
def Zs3:=qa 230 SK Qg6
def Qee (D E G I:Fn):Cfg:=cf [Qkc D,Q7 E,XX G,T_ I]
def Qic (D E G I:Fn):Fn:=Al PG (Qee D E G I) 64 230 SK Qg6
theorem Q3j (Dt L D M:Fn) (N S T V:Int):Qic Dt L D M [I N,I S,I T,I V]=
 (M [I N,I S]).bind λX=>
 (M [I T,I V]).bind λE=>
 cond (gA X 0 !=gA E 0) (cond (decide (gA X 0<gA E 0)) (some [I (-1)]) (some [I 1])) ((D [I N]).bind λY=>
 (D [I S]).bind λa0=>
 (L [U (gA Y 0),U (gA a0 0)]).bind λG=>
 (D [I T]).bind λa1=>
 (D [I V]).bind λa2=>
 (L [U (gA a1 0),U (gA a2 0)]).bind λJ=>
 (Dt [U (gA G 0),U (gA G 1),U (gA J 0),U (gA J 1)]).bind λa3=>
 some [I (O (gA X 0*gA a3 0))]):=by kernel_rfl
def Mg:=Qic GT DO Fj Fp
theorem Zqd:Aj PG (Qee GT DO Fj Fp):=Am rfl ⟨Qq6,RH,SR,YJ,trivial⟩
theorem Zfv:Ak PG (Zs3 Mg):=rw1 (C:=Qee GT DO Fj Fp) Zqd
def Zlx:=qa 212 Vx WT
def Vn (D:Fn):Cfg:=cf [Zs3 D]
def U0 (D:Fn):Fn:=Al PG (Vn D) 64 212 Vx WT
theorem Zeq (G:Fn) (D E:Int):U0 G [I D,I E]=
 cond (decide (O (O (mx D E-mn D E)-16)<=0)) (some [B true]) ((G [I (O (O (mx D E-mn D E)-16)),I (O (O (mx D E-mn D E)-16)),I 64,I (mn D E)]).bind λo1=>
 some [B (decide (gA o1 0<=0))]):=by kernel_rfl
def NU:=U0 Mg
theorem Q70:Aj PG (Vn Mg):=Am rfl ⟨Zfv,trivial⟩
theorem Zve:Ak PG (Zlx NU):=rw1 (C:=Vn Mg) Q70
def Zbp:=qa 208 X2 WT
def Q2j:Fn:=Al PG WD 64 208 X2 WT
theorem Zc0 (D E G:Int):Q2j [I D,I E,I G]=
 cond (decide (D< -1048576)) (some [B false]) (cond (decide (D>1048576)) (some [B false]) (cond (decide (E< -1048576)) (some [B false]) (cond (decide (E>1048576)) (some [B false]) (cond (decide (G< -1048576)) (some [B false]) (cond (decide (G>1048576)) (some [B false]) (some [B true])))))):=by kernel_rfl
def KY:=Q2j
theorem Q65:Aj PG (WD):=Am rfl trivial
theorem Zfn:Ak PG (Zbp KY):=rw1 (C:=WD) Q65
def Xy:=qa 183 Qd9 WT
def Ua (D E G I J L:Fn):Cfg:=cf [Qc2 D,Zlx E,Qi9 G,Qx0 I,Qhs J,Zbp L]
def Qht (D E G I J L:Fn):Fn:=Al PG (Ua D E G I J L) 64 183 Qd9 WT
abbrev Qbf (Gv:Fn) (x9 E G:Int) (D_:Fn) (x0 x1 x2 x3 x4 x5 x6 x7 x8 N:Int) (J:Bool) (S:Int) (T:Bool) (U V X Y a0:Int) (a1:Bool) (BZ H_ Cm:Fn):Option (List AC):=
 (Gv [I x9,I E,I G]).bind λa2=>
 cond (!bA a2 0) (some [B false]) ((D_ [I x0,I x1,I x2,I x3,I x4,I x5,I x6,I x7,I x8,I x9,I E,I G,I N,B J,I S,B T,I U,I V,I X,I Y,I a0,B a1]).bind λD=>
 (BZ [jA D 0,jA D 1,jA D 2,jA D 3,jA D 0,jA D 1,jA D 2,jA D 3]).bind λL=>
 (BZ [jA D 4,jA D 5,jA D 6,jA D 7,jA D 4,jA D 5,jA D 6,jA D 7]).bind λM=>
 cond (decide (gA L 0<O (128*128))) (some [B false]) (cond (decide (gA M 0<O (128*128))) (some [B false]) ((H_ [I (O ((gA L 0).tdiv 256)),I (O ((gA M 0).tdiv 256))]).bind λa3=>
 cond (!bA a3 0) (some [B false]) (cond (J) (cond (gA D 0==gA D 4) (some [B (gA D 1==gA D 5)]) (some [B false])) ((Cm [jA D 0,jA D 1,jA D 2,jA D 3,jA D 4,jA D 5,jA D 6,jA D 7]).bind λa4=>
 cond (gA a4 0 !=0) (some [B true]) ((BZ [jA D 0,jA D 1,jA D 2,jA D 3,jA D 4,jA D 5,jA D 6,jA D 7]).bind λa5=>
 some [B (decide (gA a5 0<0))]))))))
theorem Zjp (Cm H_ BZ D_ Dr Y:Fn) (X x1 x2 x3 x4 x5 x6 x7 x8 x9 E G D:Int) (J:Bool) (L:Int) (M:Bool) (N O S T U:Int) (V:Bool):Qht Cm H_ BZ D_ Dr Y [I X,I x1,I x2,I x3,I x4,I x5,I x6,I x7,I x8,I x9,I E,I G,I D,B J,I L,B M,I N,I O,I S,I T,I U,B V]=
 cond (decide (X<1)) (some [B false]) (cond (decide (X>6)) (some [B false]) ((Y [I x2,I x3,I x4]).bind λa0=>
 cond (!bA a0 0) (some [B false]) ((Y [I x5,I x6,I x7]).bind λa1=>
 cond (!bA a1 0) (some [B false]) (cond (X !=3) (some [B true]) ((Dr [I x8]).bind λa2=>
 cond (!bA a2 3) (some [B false]) (cond (D !=1) (cond (D != -1) (some [B false]) (Qbf Y x9 E G D_ X x1 x2 x3 x4 x5 x6 x7 x8 D J L M N O S T U V BZ H_ Cm)) (Qbf Y x9 E G D_ X x1 x2 x3 x4 x5 x6 x7 x8 D J L M N O S T U V BZ H_ Cm))))))):=by kernel_rfl
def FH:=Qht FW NU Fz IK EL KY
theorem Q5i:Aj PG (Ua FW NU Fz IK EL KY):=Am rfl ⟨T6,Zve,WY,Qxh,Qif,Zfn,trivial⟩
theorem W4:Ak PG (Xy FH):=rw1 (C:=Ua FW NU Fz IK EL KY) Q5i
def Zdp:=qa 231 Qd9 Y2
def SY (D E G I J:Fn):Cfg:={cp [Q25 D,Qm3 E,Qi9 G,Qx0 I,Xy J] [247]with rowDst:=[39]}
def Qhd (D E G I J:Fn):Fn:=Al PG (SY D E G I J) 64 231 Qd9 Y2
theorem Znt (EJ EO BZ D_ Ch:Fn) (x0 x1 x2 x3 x4 x5 x6 x7 x8 x9 J L E:Int) (G:Bool) (M:Int) (N:Bool) (O S T U V:Int) (X:Bool):Qhd EJ EO BZ D_ Ch [I x0,I x1,I x2,I x3,I x4,I x5,I x6,I x7,I x8,I x9,I J,I L,I E,B G,I M,B N,I O,I S,I T,I U,I V,B X]=
 cond (x0 !=3) (some [.vC [kI,kI,kI,kI] [],B false]) ((Ch [I x0,I x1,I x2,I x3,I x4,I x5,I x6,I x7,I x8,I x9,I J,I L,I E,B G,I M,B N,I O,I S,I T,I U,I V,B X]).bind λo7=>
 cond (!bA o7 0) (some [.vC [kI,kI,kI,kI] [],B false]) ((D_ [I x0,I x1,I x2,I x3,I x4,I x5,I x6,I x7,I x8,I x9,I J,I L,I E,B G,I M,B N,I O,I S,I T,I U,I V,B X]).bind λD=>
 (BZ [jA D 0,jA D 1,jA D 2,jA D 3,jA D 0,jA D 1,jA D 2,jA D 3]).bind λo9=>
 (EO [jA o9 0,I 2]).bind λY=>
 (BZ [jA D 4,jA D 5,jA D 6,jA D 7,jA D 4,jA D 5,jA D 6,jA D 7]).bind λa0=>
 (EO [jA a0 0,I 2]).bind λa1=>
 (EJ [.vC [kI,kI,kI,kI] [[jA D 0,jA D 1,jA Y 0,jA D 3]],jA D 0,jA D 1,jA Y 0,jA D 3,jA D 4,jA D 5,jA a1 0,jA D 7,B G,I 0,I E]).bind λa2=>
 some [.vC [kI,kI,kI,kI] (wA a2 0),B true])):=by kernel_rfl
def Mb:=Qhd P7 Ht Fz IK FH
theorem Zrv:Aj PG (SY P7 Ht Fz IK FH):=Am rfl ⟨Zj4,Qpt,WY,Qxh,W4,trivial⟩
theorem Q9q:Ak PG (Zdp Mb):=rw1 (C:=SY P7 Ht Fz IK FH) Zrv
def Zdh:=qa 214 Qd9 YI
def Yq (D E G I J:Fn):Cfg:=cf [Q5z D,Qp6 E,Q0r G,Zdp I,Xy J]
def Qr6:Sk:=⟨[td,tf [sc 1 0],td,td,td,td,tf [ci],tf [ci],td,tf [sd 41 3]]++dd 32++[tf [sa [kI,kI,kI,kI]],tf [ci],tf [ci]]++dd 22,[(1,49,cc 13++[sb,ci,sb]++cc 5++[sb])],[(41,78,kPt)]⟩
def Qz3:List (Ex×Sk):=[(Ex.exit 0,⟨dd 9++[tf [sd 41 3]]++dd 57,[],[(41,78,kPt)]⟩)]
def Lt (D E G I J:Fn):Lp:=A4 PG (Yq D E G I J) 64 9 (A3 PG 214 9) Qr6 Qz3
def Q22 (D E G I J:Fn) (L:Lp):Cfg:=(Yq D E G I J).loop 9 Qr6 Qz3 L
def Ro (D E G I J:Fn) (L:Lp):Fn:=Al PG (Q22 D E G I J L) 64 214 Qd9 YI
theorem Qtn (Gb BQ BF Fu Ch:Fn) (v0:Rw) (Y v2:Int) (J:Rw) (v4 D v6 v7 v8 v9 v10 v11 v12 L E M N S T:Int) (U:Bool) (v20:Int) (v21:Bool) (v22 V v24 v25 X:Int) (v27:Bool):Lt Gb BQ BF Fu Ch [.vC kPt v0,I Y,I v2, .vC [kI,kI,kI,kI] J,I v4,I D,I v6,I v7,I v8,I v9,I v10,I v11,I v12,I L,I E,I M,I N,I S,I T,B U,I v20,B v21,I v22,I V,I v24,I v25,I X,B v27]=
 cond (decide (D<v4)) (cond (decide (0<=D)&&decide (D<(J.length:Int))) ((Gb [I (O (Y+gA (nth [] J D.toNat) 0)),I (O (v2+gA (nth [] J D.toNat) 1)),jA (nth [] J D.toNat) 3,I E]).bind λG=>
 cond (decide (0<=D)&&decide (D<(v0.length:Int))) (some (0,[.vC kPt (v0.set D.toNat [jA G 0,jA G 1,jA G 2]),I Y,I v2, .vC [kI,kI,kI,kI] J,I v4,I (O (D+1)),I v6,I v7,I v8,I v9,I v10,I v11,I v12,I L,I E,I M,I N,I S,I T,B U,I v20,B v21,I v22,I V,I v24,I v25,I X,B v27])) (none)) (none)) (some (1,[.vC kPt v0])):=by kernel_rfl
theorem SU (Gb BQ BF Fu Ch:Fn) (N9:Lp) (x0 x1 x2 x3 x4 x5 x6 x7 x8 x9 E G J:Int) (L:Bool) (M:Int) (N:Bool) (O S T U V:Int) (X:Bool):Ro Gb BQ BF Fu Ch N9 [I x0,I x1,I x2,I x3,I x4,I x5,I x6,I x7,I x8,I x9,I E,I G,I J,B L,I M,B N,I O,I S,I T,I U,I V,B X]=
 (Ch [I x0,I x1,I x2,I x3,I x4,I x5,I x6,I x7,I x8,I x9,I E,I G,I J,B L,I M,B N,I O,I S,I T,I U,I V,B X]).bind λa4=>
 cond (!bA a4 0) (some [.vC kPt [],B false]) ((Fu [I x0,I x1,I x2,I x3,I x4,I x5,I x6,I x7,I x8,I x9,I E,I G,I J,B L,I M,B N,I O,I S,I T,I U,I V,B X]).bind λD=>
 cond (!bA D 1) ((BF [I x2,I x3,I x4]).bind λY=>
 (BF [I x5,I x6,I x7]).bind λa0=>
 some [.vC kPt [[jA Y 0,jA Y 1,jA Y 2],[jA a0 0,jA a0 1,jA a0 2]],B true]) ((BF [I x9,I E,I G]).bind λa1=>
 (BQ [jA a1 0,jA a1 1,jA a1 2,I x8]).bind λa2=>
 cond (decide ((↑(wA D 0).length:Int)=(↑(wA D 0).length:Int))) (cond (decide (0<=(↑(wA D 0).length:Int))&&decide ((↑(wA D 0).length:Int)*(↑24:Int)<=140737488355328)) ((N9 [.vC kPt (List.replicate (↑(wA D 0).length:Int).toNat [I 0,I 0,I 0]),jA a2 0,jA a2 1, .vC [kI,kI,kI,kI] (wA D 0),I (↑(wA D 0).length:Int),I 0,I x0,I x1,I x2,I x3,I x4,I x5,I x6,I x7,I x8,I x9,I E,I G,I J,B L,I M,B N,I O,I S,I T,I U,I V,B X]).bind λa3=>
 cond (a3.1.beq 1) (some [.vC kPt (wA a3.2 0),B true]) (none)) (none)) (none))):=by kernel_rfl
def Q2c:=An (Lt Kq GL Gl Mb FH)
def NL:=Ro Kq GL Gl Mb FH Q2c
theorem Qpg:Aj PG (Yq Kq GL Gl Mb FH):=Am rfl ⟨Zo9,Qn4,Qyl,Q9q,W4,trivial⟩
theorem Q8k:Ak PG (Zdh NL):=rw2 (C:=Q22 Kq GL Gl Mb FH Q2c) (fl fb Qpg) Qpg
def Q7q:=qa 186 Vp Qhl
def Xs (D E G I J L:Fn):Cfg:=cf [X_ D,Qfg E,Quf G,Q4x I,RT J,Zdh L]
def Tw (D E G I J L:Fn):Fn:=Al PG (Xs D E G I J L) 64 186 Vp Qhl
theorem Zay (V Bk BJ I3 Bf K_:Fn) (E:Rw) (S X:Int):Tw V Bk BJ I3 Bf K_ [.vC Ac E,I S,I X]=
 cond (decide (0<=S)&&decide (S<(E.length:Int))) ((K_ (AF Ac (nth [] E S.toNat))).bind λD=>
 (Bf (AF Ac (nth [] E S.toNat))).bind λa1=>
 cond (!bA a1 0) (some [.vC kPt (wA D 0)]) (cond (decide (0<=1)&&decide (1<=(↑(wA D 0).length:Int))) (cond (decide (0<=O ((↑(wA D 0).length:Int)-1))&&decide (O ((↑(wA D 0).length:Int)-1)<=(↑(wA D 0).length:Int))) (cond (decide (X>=0)) (cond (decide (0<=X)&&decide (X<(E.length:Int))) ((I3 (AF Ac (nth [] E X.toNat)++AF Ac (nth [] E S.toNat))).bind λN=>
 (BJ [.vC Ac E,I S]).bind λa2=>
 cond (bA a2 0) ((Bk [.vC Ac E,I S]).bind λT=>
 cond (decide (0<=gA T 0)&&decide (gA T 0<(E.length:Int))) ((I3 (AF Ac (nth [] E S.toNat)++AF Ac (nth [] E (gA T 0).toNat))).bind λY=>
 cond ((([]++wA N 1).length*24).ble 140737488355328) ((V (AF Ac (nth [] E S.toNat))).bind λG=>
 cond ((([]++wA N 1++[[jA G 0,jA G 1,jA G 2]]).length*24).ble 140737488355328) (cond ((([]++wA N 1++[[jA G 0,jA G 1,jA G 2]]++wA Y 0).length*24).ble 140737488355328) (some [.vC kPt ([]++wA N 1++[[jA G 0,jA G 1,jA G 2]]++wA Y 0)]) (none)) (none)) (none)) (none)) (cond ((([]++wA N 1).length*24).ble 140737488355328) ((V (AF Ac (nth [] E S.toNat))).bind λJ=>
 cond ((([]++wA N 1++[[jA J 0,jA J 1,jA J 2]]).length*24).ble 140737488355328) (cond ((([]++wA N 1++[[jA J 0,jA J 1,jA J 2]]++List.drop (O ((↑(wA D 0).length:Int)-1)).toNat (wA D 0)).length*24).ble 140737488355328) (some [.vC kPt ([]++wA N 1++[[jA J 0,jA J 1,jA J 2]]++List.drop (O ((↑(wA D 0).length:Int)-1)).toNat (wA D 0))]) (none)) (none)) (none))) (none)) ((BJ [.vC Ac E,I S]).bind λa3=>
 cond (bA a3 0) ((Bk [.vC Ac E,I S]).bind λU=>
 cond (decide (0<=gA U 0)&&decide (gA U 0<(E.length:Int))) ((I3 (AF Ac (nth [] E S.toNat)++AF Ac (nth [] E (gA U 0).toNat))).bind λa0=>
 cond ((([]++List.take (Int.toNat 1) (wA D 0)).length*24).ble 140737488355328) ((V (AF Ac (nth [] E S.toNat))).bind λL=>
 cond ((([]++List.take (Int.toNat 1) (wA D 0)++[[jA L 0,jA L 1,jA L 2]]).length*24).ble 140737488355328) (cond ((([]++List.take (Int.toNat 1) (wA D 0)++[[jA L 0,jA L 1,jA L 2]]++wA a0 0).length*24).ble 140737488355328) (some [.vC kPt ([]++List.take (Int.toNat 1) (wA D 0)++[[jA L 0,jA L 1,jA L 2]]++wA a0 0)]) (none)) (none)) (none)) (none)) (cond ((([]++List.take (Int.toNat 1) (wA D 0)).length*24).ble 140737488355328) ((V (AF Ac (nth [] E S.toNat))).bind λM=>
 cond ((([]++List.take (Int.toNat 1) (wA D 0)++[[jA M 0,jA M 1,jA M 2]]).length*24).ble 140737488355328) (cond ((([]++List.take (Int.toNat 1) (wA D 0)++[[jA M 0,jA M 1,jA M 2]]++List.drop (O ((↑(wA D 0).length:Int)-1)).toNat (wA D 0)).length*24).ble 140737488355328) (some [.vC kPt ([]++List.take (Int.toNat 1) (wA D 0)++[[jA M 0,jA M 1,jA M 2]]++List.drop (O ((↑(wA D 0).length:Int)-1)).toNat (wA D 0))]) (none)) (none)) (none)))) (none)) (none))) (none):=by kernel_rfl
def Kx:=Tw Fg EA F9 OT D7 NL
theorem Zl2:Aj PG (Xs Fg EA F9 OT D7 NL):=Am rfl ⟨Qj3,Qf4,Qon,Zov,Qw,Q8k,trivial⟩
theorem Zr0:Ak PG (Q7q Kx):=rw1 (C:=Xs Fg EA F9 OT D7 NL) Zl2
def Zat:=qa 184 Qgy Qg6
def Ww (D:Fn):Cfg:=cf [Qgp D]
def SJ (D:Fn):Fn:=Al PG (Ww D) 64 184 Qgy Qg6
theorem Qqj (BP:Fn) (x0 x1 x2 x3 x4 x5 x6 x7 x8 x9 J L M:Int) (N:Bool) (D:Int) (E:Bool) (S T U V X:Int) (Y:Bool) (G:Int):SJ BP [I x0,I x1,I x2,I x3,I x4,I x5,I x6,I x7,I x8,I x9,I J,I L,I M,B N,I D,B E,I S,I T,I U,I V,I X,B Y,I G]=
 cond (x0==1) (some [I 0]) (cond (E) ((BP [I (mn (O (D*mx G 1)) 60000000),I 4096,I 60000,I 2]).bind λo2=>
 some [I (mx (gA o2 0) 1)]) ((BP [I (mn D 60000000),I 4096,I 60000,I 2]).bind λo3=>
 some [I (mx (gA o3 0) 1)])):=by kernel_rfl
def Ie:=SJ Ee
theorem Zf0:Aj PG (Ww Ee):=Am rfl ⟨Vq,trivial⟩
theorem Zti:Ak PG (Zat Ie):=rw1 (C:=Ww Ee) Zf0
def Qd6:Sk:=⟨[tf [sc 20000 0],tf [sa Ac],tf [ci],tf [ci]],[(20000,172,[ci,ci,ci,sd 20000 7,sd 20001 3,sb,ci,ci,ci])],[(20000,140,Af),(20001,136,kPt)]⟩
def YG:Sk:=⟨[tf [sb]],[(20000,172,[ci,ci,ci,sd 20000 7,sd 20001 3,sb,ci,ci,ci])],[(20000,140,Af),(20001,136,kPt)]⟩
def Zsz:=qa 166 Qd6 YG
def Xv (D E G I J L:Fn):Cfg:=cp [X_ D,RT E,Zsi G,Q7q I,Qnq J,Zat L] [187]
def Qyf:Sk:=⟨[tf [sc 20000 0]]++dd 8++[tf [sc 9 0],tf [sc 10 0]]++dd 24++[tf [sa kPt],tf [ci],tf [ci]]++dd 30,[(9,49,cc 13++[sb,ci,sb]++cc 5++[sb]),(10,140,cc 7),(20000,172,[ci,ci,ci,sd 20000 7,sd 20001 3,sb,ci,ci,ci])],[(20000,140,Af),(20001,136,kPt)]⟩
def Qr8:List (Ex×Sk):=[(Ex.exit 0,⟨[tf [sc 20000 0]]++dd 67,[(20000,172,[ci,ci,ci,sd 20000 7,sd 20001 3,sb,ci,ci,ci])],[(20000,140,Af),(20001,136,kPt)]⟩)]
def J2 (D E G I J L:Fn):Lp:=A4 PG (Xv D E G I J L) 64 6 (A3 PG 166 6) Qyf Qr8
def Qm2 (D E G I J L:Fn) (M:Lp):Cfg:=(Xv D E G I J L).loop 6 Qyf Qr8 M
def Qe7 (D E G I J L:Fn) (M:Lp):Fn:=Al PG (Qm2 D E G I J L M) 64 166 Qd6 YG
theorem Q2y (BK Bf F5 Eo Cl F8:Fn) (v0 v1 X:Rw) (v3 E v5 v6 v7 v8 v9 v10 v11 v12 G J L M N:Int) (S:Bool) (T:Int) (v20:Bool) (v21 v22 U v24 v25:Int) (V:Bool) (v27 v28 Y v30 v31 a0 v33 a1 v35 v36:Int) (v37:Bool) (v38 a2 v40:Int):J2 BK Bf F5 Eo Cl F8 [.vC Af v0, .vC kPt v1, .vC kPt X,I v3,I E,I v5,I v6,I v7,I v8,I v9,I v10,I v11,I v12,I G,I J,I L,I M,I N,B S,I T,B v20,I v21,I v22,I U,I v24,I v25,B V,I v27,I v28,I Y,I v30,I v31,I a0,I v33,I a1,I v35,I v36,B v37,I v38,I a2,I v40]=
 cond (decide (E<v3)) (cond (decide (0<=E)&&decide (E<(X.length:Int))) ((F5 [.vC Af v0, .vC kPt v1,jA (nth [] X E.toNat) 0,jA (nth [] X E.toNat) 1,jA (nth [] X E.toNat) 2,I v27,I v28,I Y,I v30,I v31,I a0,I v33,I a1,I v35,I v36,B v37,I v38,I a2,I v40]).bind λD=>
 (Bf [I v5,I v6,I v7,I v8,I v9,I v10,I v11,I v12,I G,I J,I L,I M,I N,B S,I T,B v20,I v21,I v22,I U,I v24,I v25,B V]).bind λa4=>
 cond (bA a4 0) ((BK [I v5,I v6,I v7,I v8,I v9,I v10,I v11,I v12,I G,I J,I L,I M,I N,B S,I T,B v20,I v21,I v22,I U,I v24,I v25,B V]).bind λa3=>
 cond (gA (nth [] X E.toNat) 0==gA a3 0&&(gA (nth [] X E.toNat) 1==gA a3 1&&(gA (nth [] X E.toNat) 2==gA a3 2&&true))) (some (0,[.vC Af (wA D 0), .vC kPt (wA D 1), .vC kPt X,I v3,I (O (E+1)),I v5,I v6,I v7,I v8,I v9,I v10,I v11,I v12,I G,I J,I L,I M,I N,B S,I T,B v20,I v21,I v22,I U,I v24,I v25,B V,I v27,I v28,I Y,I v30,I v31,I a0,I v33,jA D 2,jA D 3,jA D 4,B (bA D 5),jA D 6,jA D 7,jA D 6])) (some (0,[.vC Af (wA D 0), .vC kPt (wA D 1), .vC kPt X,I v3,I (O (E+1)),I v5,I v6,I v7,I v8,I v9,I v10,I v11,I v12,I G,I J,I L,I M,I N,B S,I T,B v20,I v21,I v22,I U,I v24,I v25,B V,I v27,I v28,I Y,I v30,I v31,I a0,I v33,jA D 2,jA D 3,jA D 4,B (bA D 5),jA D 6,jA D 7,jA D 8]))) (some (0,[.vC Af (wA D 0), .vC kPt (wA D 1), .vC kPt X,I v3,I (O (E+1)),I v5,I v6,I v7,I v8,I v9,I v10,I v11,I v12,I G,I J,I L,I M,I N,B S,I T,B v20,I v21,I v22,I U,I v24,I v25,B V,I v27,I v28,I Y,I v30,I v31,I a0,I v33,jA D 2,jA D 3,jA D 4,B (bA D 5),jA D 6,jA D 7,jA D 8]))) (none)) (some (1,[.vC Af v0, .vC kPt v1,I a1,I v35,I v36,B v37,I v38,I a2,I v40])):=by kernel_rfl
abbrev Y0 (S:Fn) (O:Rw) (J T:Int) (U:Lp) (V X:Rw) (L:List AC) (Y x6 x7:Int) (x8:Bool) (x9 M N:Int) (E:AC):Option (List AC):=
 (S [.vC Ac O,I J,I T]).bind λG=>
 (U (.vC Af V:: .vC kPt X:: .vC kPt (wA G 0)::I (↑(wA G 0).length:Int)::I 0::(AF Ac (nth [] O J.toNat)++[I 0,I 0,I 0,I 0,I J,jA L 0,E,I Y,I x6,I x7,B x8,I x9,I M,I N]))).bind λD=>
 cond (D.1.beq 1) (some [.vC Af (wA D.2 0), .vC kPt (wA D.2 1),B (decide ((↑(wA D.2 0).length:Int)<=1048576)),jA D.2 2,jA D.2 3,jA D.2 4,B (bA D.2 5),jA D.2 6,jA D.2 7,jA D.2 8]) (none)
theorem Zu6 (BK Bf F5 M Cl F8:Fn) (N:Lp) (S T G:Rw) (E U V X Y:Int) (x8:Bool) (x9 D J:Int):Qe7 BK Bf F5 M Cl F8 N [.vC Af S, .vC kPt T, .vC Ac G,I E,I U,I V,I X,I Y,B x8,I x9,I D,I J]=
 cond (decide (0<=E)&&decide (E<(G.length:Int))) ((F8 (AF Ac (nth [] G E.toNat)++[I D])).bind λL=>
 (Cl (AF Ac (nth [] G E.toNat))).bind λa0=>
 cond (bA a0 0) (Y0 M G E U N S T L V X Y x8 x9 D J (I (mn (O (gA (nth [] G E.toNat) 14*16)) 16777216))) (Y0 M G E U N S T L V X Y x8 x9 D J (I 0))) (none):=by kernel_rfl
def Qmt:=An (J2 Fg D7 Nd Kx Gs Ie)
def IA:=Qe7 Fg D7 Nd Kx Gs Ie Qmt
theorem Qpf:Aj PG (Xv Fg D7 Nd Kx Gs Ie):=Am rfl ⟨Qj3,Qw,Q4v,Zr0,Qvd,Zti,trivial⟩
theorem Zum:Ak PG (Zsz IA):=rw2 (C:=Qm2 Fg D7 Nd Kx Gs Ie Qmt) (fl fb Qpf) Qpf
def Zmo:=qa 162 Qd9 Qg6
def S6 (D E:Fn):Cfg:=cf [Xy D,Rp E]
def Qch (D E:Fn):Fn:=Al PG (S6 D E) 64 162 Qd9 Qg6
abbrev Jj (G D E:Int):Option (List AC):=
 cond (G==8) (cond (decide (D<3)) (some [I 1]) (cond (decide (D>5)) (some [I 1]) (cond (decide (E<0)) (some [I 1]) (cond (decide (E>30000)) (some [I 1]) (some [I 0]))))) (some [I 0])
theorem Zdv (Ch Y:Fn) (G x1 x2 x3 x4 x5 x6 x7 x8 x9 M N O:Int) (S:Bool) (J:Int) (T:Bool) (U V L D E:Int) (X:Bool):Qch Ch Y [I G,I x1,I x2,I x3,I x4,I x5,I x6,I x7,I x8,I x9,I M,I N,I O,B S,I J,B T,I U,I V,I L,I D,I E,B X]=
 cond (decide (G<1)) (some [I 1]) (cond (decide (G>14)) (some [I 1]) ((Y [I G]).bind λo4=>
 cond (bA o4 0) ((Ch [I G,I x1,I x2,I x3,I x4,I x5,I x6,I x7,I x8,I x9,I M,I N,I O,B S,I J,B T,I U,I V,I L,I D,I E,B X]).bind λo5=>
 cond (!bA o5 0) (some [I 1]) (cond (decide (L<0)) (some [I 1]) (cond (decide (L>1000)) (some [I 1]) ((Y [I G]).bind λo6=>
 cond (bA o6 0) (cond (G !=1) (cond (decide (J<1)) (some [I 1]) (cond (decide (J>60000000)) (some [I 1]) (Jj G D E))) (Jj G D E)) (Jj G D E))))) ((Y [I G]).bind λo7=>
 cond (bA o7 0) (cond (G !=1) (cond (decide (J<1)) (some [I 1]) (cond (decide (J>60000000)) (some [I 1]) (Jj G D E))) (Jj G D E)) (Jj G D E)))):=by kernel_rfl
def HQ:=Qch FH De
theorem Zee:Aj PG (S6 FH De):=Am rfl ⟨W4,Qh,trivial⟩
theorem Zvr:Ak PG (Zmo HQ):=rw1 (C:=S6 FH De) Zee
def Qft:Sk:=⟨[TS.tup [(false,[sc 13 0]),(false,[ci])]],[(13,172,[ci,ci,ci,sd 1013003 7,sd 1013004 3,sb,ci,ci,ci])],[(1013003,140,Af),(1013004,136,kPt)]⟩
def Ql4:=qa 110 Xf Qft
def XV (D E G I J L:Fn):Cfg:=cp [Q5s D,Zsz E,Qfg G,Quf I,Rp J,Zmo L] [167,166]
def Qyg:Sk:=⟨[tf [sa Ac],td,td,td,tf [sc 13 0],tf [ci]]++dd 12++[tf [sa Ac],tf [ci],tf [ci]]++dd 87,[(13,172,[ci,ci,ci,sd 1013003 7,sd 1013004 3,sb,ci,ci,ci])],[(1013003,140,Af),(1013004,136,kPt)]⟩
def Qlr:List (Ex×Sk):=[(Ex.ret,⟨[td,td,tf [sc 13 0],tf [ci]]++dd 104,[(13,172,[ci,ci,ci,sd 1013003 7,sd 1013004 3,sb,ci,ci,ci])],[(1013003,140,Af),(1013004,136,kPt)]⟩),(Ex.exit 0,⟨[tf [sa Ac],td,td,td,tf [sc 13 0]]++dd 103,[(13,172,[ci,ci,ci,sd 1013003 7,sd 1013004 3,sb,ci,ci,ci])],[(1013003,140,Af),(1013004,136,kPt)]⟩)]
def NY (D E G I J L:Fn):Lp:=A4 PG (XV D E G I J L) 64 6 (A3 PG 110 6) Qyg Qlr
def Qrm (D E G I J L:Fn) (M:Lp):Cfg:=(XV D E G I J L).loop 6 Qyg Qlr M
def Q09:Sk:=⟨[tf [sa Ac],td,td,td,tf [sc 13 0],tf [ci]]++dd 44++[tf [sa Ac],tf [ci],tf [ci]]++dd 55,[(13,172,[ci,ci,ci,sd 1013003 7,sd 1013004 3,sb,ci,ci,ci])],[(1013003,140,Af),(1013004,136,kPt)]⟩
def Q2a:List (Ex×Sk):=[(Ex.ret,⟨[td,td,tf [sc 13 0],tf [ci]]++dd 104,[(13,172,[ci,ci,ci,sd 1013003 7,sd 1013004 3,sb,ci,ci,ci])],[(1013003,140,Af),(1013004,136,kPt)]⟩),(Ex.exit 2,⟨[td,td,td,td,tf [sc 13 0]]++dd 103,[(13,172,[ci,ci,ci,sd 1013003 7,sd 1013004 3,sb,ci,ci,ci])],[(1013003,140,Af),(1013004,136,kPt)]⟩)]
def NK (D E G I J L:Fn) (M:Lp):Lp:=A4 PG (Qrm D E G I J L M) 64 18 (A3 PG 110 18) Q09 Q2a
def Qwh (E G I J L M:Fn) (N D:Lp):Cfg:=(Qrm E G I J L M N).loop 18 Q09 Q2a D
def Qeb (E G I J L M:Fn) (N D:Lp):Fn:=Al PG (Qwh E G I J L M N D) 64 110 Xf Qft
theorem Qwb (BT B2 Bk BJ Y DD:Fn) (v0 M J:Rw) (L:Int) (G:Rw) (U E N S T:Int) (v10:Bool) (v11 v12 D:Int):NY BT B2 Bk BJ Y DD [.vC Af v0, .vC kPt M, .vC Ac J,I L, .vC Ac G,I U,I E,I N,I S,I T,B v10,I v11,I v12,I D]=
 cond (decide (E<U)) (cond (decide (0<=E)&&decide (E<(G.length:Int))) ((DD (AF Ac (nth [] G E.toNat))).bind λV=>
 cond (gA V 0 !=0) (some (1,[.vC Af v0, .vC kPt M,jA V 0,I N,I S,I T,B v10,I v11,I v12,I D])) ((Y [jA (nth [] G E.toNat) 0]).bind λX=>
 cond (!bA X 0) (some (0,[.vC Af v0, .vC kPt M, .vC Ac J,I L, .vC Ac G,I U,I (O (E+1)),I N,I S,I T,B v10,I v11,I v12,I D])) (cond (decide (L>=0)) (cond (decide (0<=L)&&decide (L<(J.length:Int))) (cond (!(gA (nth [] J L.toNat) 5==gA (nth [] G E.toNat) 2&&(gA (nth [] J L.toNat) 6==gA (nth [] G E.toNat) 3&&(gA (nth [] J L.toNat) 7==gA (nth [] G E.toNat) 4&&true)))) (some (1,[.vC Af v0, .vC kPt M,I 13,I N,I S,I T,B v10,I v11,I v12,I D])) (some (0,[.vC Af v0, .vC kPt M, .vC Ac J,I E, .vC Ac G,I U,I (O (E+1)),I N,I S,I T,B v10,I v11,I v12,I D]))) (none)) (some (0,[.vC Af v0, .vC kPt M, .vC Ac J,I E, .vC Ac G,I U,I (O (E+1)),I N,I S,I T,B v10,I v11,I v12,I D]))))) (none)) (some (2,[.vC Af v0, .vC kPt M, .vC Ac J,I N,I S,I T,B v10,I v11,I v12,I D])):=by kernel_rfl
abbrev OM (S:Fn) (v0 T M:Rw) (L U V X:Int) (v10:Bool) (v11:Int) (G:AC) (N:Int) (Y:Fn) (v4:Rw) (v5:Int) (J:AC):Option (Nat×List AC):=
 (S [.vC Af v0, .vC kPt T, .vC Ac M,I L,J,I U,I V,I X,B v10,I v11,G,I N]).bind λD=>
 cond (!bA D 2) (some (1,[.vC Af (wA D 0), .vC kPt (wA D 1),I 10,jA D 3,jA D 4,jA D 5,B (bA D 6),jA D 7,jA D 8,jA D 9])) ((Y [.vC Af (wA D 0), .vC kPt (wA D 1), .vC Ac M,I L,jA D 3,jA D 4,jA D 5,B (bA D 6),jA D 7,jA D 8,jA D 9]).bind λE=>
 some (0,[.vC Af (wA E 0), .vC kPt (wA E 1), .vC Ac M,I L, .vC Ac v4,I v5,I (O (L+1)),jA E 2,jA E 3,jA E 4,B (bA E 5),jA E 6,jA E 7,jA E 8]))
abbrev NO (AQ:Fn) (M:Rw) (J N:Int) (BJ:Fn) (L:Rw) (B2:Fn) (v0 S:Rw) (T U V:Int) (v10:Bool) (v11 G:Int) (X:Fn) (Y:Int) (Bk:Fn) (E:AC):Option (Nat×List AC):=
 (AQ [jA (nth [] M J.toNat) 0]).bind λa0=>
 cond (bA a0 0) (cond (decide (N>=0)) ((BJ [.vC Ac L,I N]).bind λa1=>
 cond (!bA a1 0) (OM B2 v0 S L J T U V v10 v11 E G X M Y (I (-1))) ((Bk [.vC Ac L,I N]).bind λa2=>
 cond (gA a2 0 !=J) (OM B2 v0 S L J T U V v10 v11 E G X M Y (I (-1))) (OM B2 v0 S L J T U V v10 v11 E G X M Y (I N)))) (OM B2 v0 S L J T U V v10 v11 E G X M Y (I N))) ((X [.vC Af v0, .vC kPt S, .vC Ac L,I J,I T,I U,I V,B v10,I v11,E,I G]).bind λD=>
 some (0,[.vC Af (wA D 0), .vC kPt (wA D 1), .vC Ac L,I N, .vC Ac M,I Y,I (O (J+1)),jA D 2,jA D 3,jA D 4,B (bA D 5),jA D 6,jA D 7,jA D 8]))
theorem Qy7 (S T U V X DD:Fn) (N6:Lp) (v0 J Y:Rw) (v3:Int) (G:Rw) (L D M N O:Int) (v10:Bool) (v11 v12 E:Int):NK S T U V X DD N6 [.vC Af v0, .vC kPt J, .vC Ac Y,I v3, .vC Ac G,I L,I D,I M,I N,I O,B v10,I v11,I v12,I E]=
 cond (decide (D<L)) (cond (decide (0<=D)&&decide (D<(G.length:Int))) (cond (gA (nth [] G D.toNat) 0==8) (cond (gA (nth [] G D.toNat) 19==3) (NO X G D v3 V Y T v0 J M N O v10 v11 E S L U (jA (nth [] G D.toNat) 20)) (cond (gA (nth [] G D.toNat) 19==4) (NO X G D v3 V Y T v0 J M N O v10 v11 E S L U (jA (nth [] G D.toNat) 20)) (NO X G D v3 V Y T v0 J M N O v10 v11 E S L U (I v12)))) (NO X G D v3 V Y T v0 J M N O v10 v11 E S L U (I v12))) (none)) (some (2,[.vC Af v0, .vC kPt J,I M,I N,I O,B v10,I v11,I v12,I E])):=by kernel_rfl
theorem Zfx (M N O S T U:Fn) (L G:Lp) (J:Rw):Qeb M N O S T U L G [.vC Ac J]=
 cond (decide ((J.length:Int)>20000)) (some [.vC Af [], .vC kPt [],I 10,I 0,I 0,I 0,B false,I 0,I 0,I 0]) ((L [.vC Af [], .vC kPt [], .vC Ac J,I (-1), .vC Ac J,I (J.length:Int),I 0,I 0,I 0,I 0,B false,I 0,I 0,I 0]).bind λD=>
 cond (D.1.beq 1) (some [.vC Af (wA D.2 0), .vC kPt (wA D.2 1),jA D.2 2,jA D.2 3,jA D.2 4,jA D.2 5,B (bA D.2 6),jA D.2 7,jA D.2 8,jA D.2 9]) (cond (D.1.beq 2) ((G [.vC Af (wA D.2 0), .vC kPt (wA D.2 1), .vC Ac (wA D.2 2),I (-1), .vC Ac (wA D.2 2),I (↑(wA D.2 2).length:Int),I 0,jA D.2 3,jA D.2 4,jA D.2 5,B (bA D.2 6),jA D.2 7,jA D.2 8,jA D.2 9]).bind λE=>
 cond (E.1.beq 1) (some [.vC Af (wA E.2 0), .vC kPt (wA E.2 1),jA E.2 2,jA E.2 3,jA E.2 4,jA E.2 5,B (bA E.2 6),jA E.2 7,jA E.2 8,jA E.2 9]) (cond (E.1.beq 2) (some [.vC Af (wA E.2 0), .vC kPt (wA E.2 1),I 0,jA E.2 2,jA E.2 3,jA E.2 4,B (bA E.2 5),jA E.2 6,jA E.2 7,jA E.2 8]) (none))) (none))):=by kernel_rfl
def OL:=An (NY HG IA EA F9 De HQ)
def Q2r:=An (NK HG IA EA F9 De HQ OL)
def Hw:=Qeb HG IA EA F9 De HQ OL Q2r
theorem X4:Aj PG (XV HG IA EA F9 De HQ):=Am rfl ⟨Q88,Zum,Qf4,Qon,Qh,Zvr,trivial⟩
theorem Qs9:Ak PG (Ql4 Hw):=rw2 (C:=Qwh HG IA EA F9 De HQ OL Q2r) (fl (fl fb X4) X4) X4
def Zam:=qa 64 Xf Qg6
def Yh (D E:Fn):Cfg:=cp [RT D,Ql4 E] [110]
def Q2k:Sk:=⟨[tf [sa Ac],td,td,tf [sc 100800 0],td,tf [ci]]++dd 47,[(100800,172,[ci,ci,ci,sd 100800 7,sd 100801 3,sb,ci,ci,ci])],[(100800,140,Af),(100801,136,kPt)]⟩
def Qp7:List (Ex×Sk):=[(Ex.ret,⟨[td,td,tf [ci]]++dd 50,[],[]⟩),(Ex.exit 0,⟨[td,td,td,tf [sc 100800 0]]++dd 49,[(100800,172,[ci,ci,ci,sd 100800 7,sd 100801 3,sb,ci,ci,ci])],[(100800,140,Af),(100801,136,kPt)]⟩)]
def Nj (D E:Fn):Lp:=A4 PG (Yh D E) 64 5 (A3 PG 64 5) Q2k Qp7
def Qyw (D E:Fn) (G:Lp):Cfg:=(Yh D E).loop 5 Q2k Qp7 G
def Qei (D E:Fn) (G:Lp):Fn:=Al PG (Qyw D E G) 64 64 Xf Qg6
theorem Qy6 (U V:Fn) (v0 J E:Rw) (D L M N:Int) (S:Bool) (G T v10:Int):Nj U V [.vC Af v0, .vC kPt J, .vC Ac E,I D,I L,I M,I N,B S,I G,I T,I v10]=
 cond (decide (D>=0)) (cond (decide (0<=D)&&decide (D<(E.length:Int))) (cond (gA (nth [] E D.toNat) 0==10) (some (0,[.vC Af v0, .vC kPt J, .vC Ac E,I (O (D-1)),I L,I M,I N,B S,I G,I T,I v10])) (cond (decide (0<=D)&&decide (D<(E.length:Int))) ((U (AF Ac (nth [] E D.toNat))).bind λo4=>
 cond (bA o4 0) (cond (decide (0<=D)&&decide (D<(E.length:Int))) (cond (gA (nth [] E D.toNat) 18 !=0) (some (1,[I v10])) (some (1,[I G]))) (none)) (some (1,[I G]))) (none))) (none)) (some (2,[.vC Af v0, .vC kPt J,I L,I M,I N,B S,I G,I T,I v10])):=by kernel_rfl
theorem Qzm (M J:Fn) (L:Lp) (E:Rw):Qei M J L [.vC Ac E]=
 (J [.vC Ac E]).bind λD=>
 cond (gA D 2 !=0) (some [I 0]) ((L [.vC Af (wA D 0), .vC kPt (wA D 1), .vC Ac E,I (O ((E.length:Int)-1)),jA D 3,jA D 4,jA D 5,B (bA D 6),jA D 7,jA D 8,jA D 9]).bind λG=>
 cond (G.1.beq 1) (some [jA G.2 0]) (cond (G.1.beq 2) (some [jA G.2 6]) (none))):=by kernel_rfl
def Q0l:=An (Nj D7 Hw)
def KS:=Qei D7 Hw Q0l
theorem Qnx:Aj PG (Yh D7 Hw):=Am rfl ⟨Qw,Qs9,trivial⟩
theorem Zia:Ak PG (Zam KS):=rw2 (C:=Qyw D7 Hw Q0l) (fl fb Qnx) Qnx
def Qdc:=qa 107 WA WT
def XI:Fn:=Al PG Qaf 64 107 WA WT
theorem Q4t (D E G:Int):XI [I D,I E,I G]=
 cond (decide (E<=D)) (some [B (decide (D<=G))]) (some [B false]):=by kernel_rfl
def FU:=XI
theorem Q9e:Aj PG (Qaf):=Am rfl trivial
theorem Qgu:Ak PG (Qdc FU):=rw1 (C:=Qaf) Q9e
def Qf7:Sk:=⟨[TS.v true (cc 9++[sa Aa]),tf [ci]],[],[]⟩
def Zsn:=qa 111 Qf7 WT
def S8 (D:Fn):Cfg:=cf [Qdc D]
def Qdq (D:Fn):Fn:=Al PG (S8 D) 64 111 Qf7 WT
theorem Q7o (E:Fn) (L M N O G J S T U:Int) (V:Rw) (D:Int):Qdq E [I L,I M,I N,I O,I G,I J,I S,I T,I U, .vC Aa V,I D]=
 (E [I D,I G,I J]).bind λo1=>
 some [B (bA o1 0)]:=by kernel_rfl
def JF:=Qdq FU
theorem Zl0:Aj PG (S8 FU):=Am rfl ⟨Qgu,trivial⟩
theorem Zin:Ak PG (Zsn JF):=rw1 (C:=S8 FU) Zl0
def Q5q:=qa 62 VI WT
def Qi6 (D:Fn):Cfg:={cf [Zsn D]with rowDst:=[13],unroll:=[11]}
def Qth:Sk:=⟨[td,td,tf [sc 2 0],td,td,tf [sd 13 3]]++dd 9++[tf [sa Af],tf [ci],tf [ci]]++dd 28,[(2,25,cc 9++[sa Aa]++cc 9++[sa Aa]++cc 9++[sa Aa])],[(13,78,kPt)]⟩
def Qxf:List (Ex×Sk):=[(Ex.exit 0,⟨[td,td,tf [sc 2 0],td,td,tf [sd 13 3]]++dd 40,[(2,25,cc 9++[sa Aa]++cc 9++[sa Aa]++cc 9++[sa Aa])],[(13,78,kPt)]⟩)]
def Qo (D:Fn):Lp:=A4 PG (Qi6 D) 64 3 (A3 PG 62 3) Qth Qxf
def Qp3 (D:Fn) (E:Lp):Cfg:=(Qi6 D).loop 3 Qth Qxf E
def Qyv:Sk:=⟨[td,td,tf [sc 2 0]]++dd 24++[tf [sd 13 3],tf [ci],tf [ci]]++dd 16,[(2,25,cc 9++[sa Aa]++cc 9++[sa Aa]++cc 9++[sa Aa])],[(13,78,kPt)]⟩
def Qu7:List (Ex×Sk):=[(Ex.ret,⟨[td,td,td,td,tf [sb]]++dd 41,[],[]⟩),(Ex.exit 2,⟨[td]++dd 45,[],[]⟩)]
def Qgz (D:Fn) (E:Lp):Lp:=A4 PG (Qp3 D E) 64 8 (A3 PG 62 8) Qyv Qu7
def Qyq (D:Fn) (E G:Lp):Cfg:=(Qp3 D E).loop 8 Qyv Qu7 G
def Wn (D:Fn) (E G:Lp):Fn:=Al PG (Qyq D E G) 64 62 VI WT
theorem Qtv (Dn:Fn) (v0 E:Rw) (v2 D v4 v5 v6 v7 v8 v9 v10 v11 v12:Int) (G:Rw) (J L M N S T v20 v21 v22:Int) (U:Rw) (v24 v25 V v27 v28 X v30 v31 Y:Int) (v33:Rw):Qo Dn [.vC kPt v0, .vC Af E,I v2,I D,I v4,I v5,I v6,I v7,I v8,I v9,I v10,I v11,I v12, .vC Aa G,I J,I L,I M,I N,I S,I T,I v20,I v21,I v22, .vC Aa U,I v24,I v25,I V,I v27,I v28,I X,I v30,I v31,I Y, .vC Aa v33]=
 cond (decide (D<v2)) (cond (decide (0<=D)&&decide (D<(E.length:Int))) (cond (((v0++[[jA (nth [] E D.toNat) 0,jA (nth [] E D.toNat) 1,jA (nth [] E D.toNat) 2]]).length*24).ble 140737488355328) (some (0,[.vC kPt (v0++[[jA (nth [] E D.toNat) 0,jA (nth [] E D.toNat) 1,jA (nth [] E D.toNat) 2]]), .vC Af E,I v2,I (O (D+1)),I v4,I v5,I v6,I v7,I v8,I v9,I v10,I v11,I v12, .vC Aa G,I J,I L,I M,I N,I S,I T,I v20,I v21,I v22, .vC Aa U,I v24,I v25,I V,I v27,I v28,I X,I v30,I v31,I Y, .vC Aa v33])) (none)) (none)) (some (1,[.vC kPt v0,I v4,I v5,I v6,I v7,I v8,I v9,I v10,I v11,I v12, .vC Aa G,I J,I L,I M,I N,I S,I T,I v20,I v21,I v22, .vC Aa U,I v24,I v25,I V,I v27,I v28,I X,I v30,I v31,I Y, .vC Aa v33])):=by kernel_rfl
theorem Qvw (Y:Fn) (N3:Lp) (v0:Rw) (v1 D v3 v4 v5 v6 v7 v8 v9 v10 v11:Int) (v12:Rw) (E G J L M N S v20 v21:Int) (v22:Rw) (T v24 v25 U v27 v28 V v30 v31:Int) (X:Rw):Qgz Y N3 [.vC kPt v0,I v1,I D,I v3,I v4,I v5,I v6,I v7,I v8,I v9,I v10,I v11, .vC Aa v12,I E,I G,I J,I L,I M,I N,I S,I v20,I v21, .vC Aa v22,I T,I v24,I v25,I U,I v27,I v28,I V,I v30,I v31, .vC Aa X]=
 cond (decide (D<v1)) (cond (decide (0<=D)&&decide (D<(v0.length:Int))) ((Y [I v3,I v4,I v5,I v6,I v7,I v8,I v9,I v10,I v11, .vC Aa v12,jA (nth [] v0 D.toNat) 0]).bind λo6=>
 cond (!bA o6 0) (some (1,[B false])) ((Y [I E,I G,I J,I L,I M,I N,I S,I v20,I v21, .vC Aa v22,jA (nth [] v0 D.toNat) 1]).bind λo7=>
 cond (!bA o7 0) (some (1,[B false])) ((Y [I T,I v24,I v25,I U,I v27,I v28,I V,I v30,I v31, .vC Aa X,jA (nth [] v0 D.toNat) 2]).bind λo8=>
 cond (!bA o8 0) (some (1,[B false])) (some (0,[.vC kPt v0,I v1,I (O (D+1)),I v3,I v4,I v5,I v6,I v7,I v8,I v9,I v10,I v11, .vC Aa v12,I E,I G,I J,I L,I M,I N,I S,I v20,I v21, .vC Aa v22,I T,I v24,I v25,I U,I v27,I v28,I V,I v30,I v31, .vC Aa X]))))) (none)) (some (2,[])):=by kernel_rfl
theorem Zgz (Dn:Fn) (N3 N8:Lp) (x0 x1 x2 x3 x4 x5 x6 x7 x8:Int) (x9:Rw) (J L M N O S T U V:Int) (X:Rw) (Y a0 a1 a2 a3 a4 a5 a6 a7:Int) (a8:Rw) (a9 b0 b1:Int) (E b2:Rw):Wn Dn N3 N8 [I x0,I x1,I x2,I x3,I x4,I x5,I x6,I x7,I x8, .vC Aa x9,I J,I L,I M,I N,I O,I S,I T,I U,I V, .vC Aa X,I Y,I a0,I a1,I a2,I a3,I a4,I a5,I a6,I a7, .vC Aa a8,I a9,I b0,I b1, .vC Af E, .vC kPt b2]=
 (N3 [.vC kPt [[I a9,I b0,I b1]], .vC Af E,I (E.length:Int),I 0,I x0,I x1,I x2,I x3,I x4,I x5,I x6,I x7,I x8, .vC Aa x9,I J,I L,I M,I N,I O,I S,I T,I U,I V, .vC Aa X,I Y,I a0,I a1,I a2,I a3,I a4,I a5,I a6,I a7, .vC Aa a8]).bind λD=>
 cond (D.1.beq 1) ((N8 [.vC kPt (wA D.2 0),I (↑(wA D.2 0).length:Int),I 0,jA D.2 1,jA D.2 2,jA D.2 3,jA D.2 4,jA D.2 5,jA D.2 6,jA D.2 7,jA D.2 8,jA D.2 9, .vC Aa (wA D.2 10),jA D.2 11,jA D.2 12,jA D.2 13,jA D.2 14,jA D.2 15,jA D.2 16,jA D.2 17,jA D.2 18,jA D.2 19, .vC Aa (wA D.2 20),jA D.2 21,jA D.2 22,jA D.2 23,jA D.2 24,jA D.2 25,jA D.2 26,jA D.2 27,jA D.2 28,jA D.2 29, .vC Aa (wA D.2 30)]).bind λG=>
 cond (G.1.beq 1) (some [B (bA G.2 0)]) (cond (G.1.beq 2) (some [B true]) (none))) (none):=by kernel_rfl
def Qbq:=An (Qo JF)
def Qu8:=An (Qgz JF Qbq)
def NP:=Wn JF Qbq Qu8
theorem Qac:Aj PG (Qi6 JF):=Am rfl ⟨Zin,trivial⟩
theorem Zqa:Ak PG (Q5q NP):=rw2 (C:=Qyq JF Qbq Qu8) (fl (fl fb Qac) Qac) Qac
def Q3f:=qa 61 Xf ZG
def Zw (D:Fn):Cfg:=cp [Ql4 D] [110]
def Qby (D:Fn):Fn:=Al PG (Zw D) 64 61 Xf ZG
theorem Zh6 (D:Fn) (E:Rw):Qby D [.vC Ac E]=
 (D [.vC Ac E]).bind λo1=>
 cond (gA o1 2 !=0) (some [I 0,I 0,I 0, .vC Af [], .vC kPt [],jA o1 2]) (some [jA o1 3,jA o1 4,jA o1 5, .vC Af (wA o1 0), .vC kPt (wA o1 1),I 0]):=by kernel_rfl
def Jg:=Qby Hw
theorem Zi0:Aj PG (Zw Hw):=Am rfl ⟨Qs9,trivial⟩
theorem Za9:Ak PG (Q3f Jg):=rw1 (C:=Zw Hw) Zi0
def Qff:Sk:=⟨[tf [sc 20000 0],tf [sa Ac],tf [sb]],[(20000,95,cS)],[]⟩
def Zen:=qa 25 Qff Qb0
def Zq (D E G I:Fn):Cfg:={cf [Zam D,Qzj E,Q5q G,Q3f I]with fstore:=true}
def K8 (D E G I:Fn):Fn:=Al PG (Zq D E G I) 64 25 Qff Qb0
theorem Qms (E G J L:Fn) (D:Rw) (M:Bool) (K:Kf) (c:Cv):K8 E G J L (.vC Ac D::B M::AD K c)=
 (L [.vC Ac D]).bind λo4=>
 cond (gA o4 5 !=0) (some (jA o4 5::AD K c)) ((J (AU K.x++[jA o4 0,jA o4 1,jA o4 2, .vC Af (wA o4 3), .vC kPt (wA o4 4)])).bind λN=>
 cond (!bA N 0) (some (I 17::AD K c)) (cond ((D.length*176).ble 140737488355328) ((G [jA o4 0,jA o4 1,jA o4 2, .vC Af (wA o4 3), .vC kPt (wA o4 4)]).bind λO=>
 (E [.vC Ac D]).bind λS=>
 some (I 0::VS (AD K c) [(35, .vC Ac D),(36,B M),(37,jA o4 0),(38,jA o4 1),(39,jA o4 2),(40, .vC Af (wA o4 3)),(41, .vC kPt (wA o4 4)),(42,jA O 0),(43,jA S 0)])) (none))):=by kernel_rfl
def Z4:=K8 KS H5 NP Jg
theorem Zbd:Aj PG (Zq KS H5 NP Jg):=Am rfl ⟨Zia,Qxm,Zqa,Za9,trivial⟩
theorem Zfd:Ak PG (Zen Z4):=rw1 (C:=Zq KS H5 NP Jg) Zbd
def Q4l:=qa 24 UW X2
def Tr:Fn:=Al PG Qaf 64 24 UW X2
theorem Q6j:Tr []=
 some [I 0,I 0,I (-1)]:=by kernel_rfl
def PT:=Tr
theorem Zcp:Aj PG (Qaf):=Am rfl trivial
theorem Zbv:Ak PG (Q4l PT):=rw1 (C:=Qaf) Zcp
def Zje:=qa 23 UW SS
def Z7:Fn:=Al PG Qaf 64 23 UW SS
theorem Zp4:Z7 []=
 some [I 100,I 100,B false,B false,B false]:=by kernel_rfl
def Qc:=Z7
theorem Zdi:Aj PG (Qaf):=Am rfl trivial
theorem Zl9:Ak PG (Zje Qc):=rw1 (C:=Qaf) Zdi
def Zbh:=qa 22 Qhz Qhz
def UM:Cfg:={cf []with fstore:=true,unroll:=[2]}
def Xz:Fn:=Al PG UM 64 22 Qhz Qhz
theorem Q3n (x0 x1 x2 x3 x4 x5 x6 x7 x8:Int) (x9:Rw) (G J L M N O S T U:Int) (D:Rw) (V X Y a0 a1 a2 a3 a4 a5:Int) (E:Rw) (a6 a7 a8 a9 b0:Int):Xz [I x0,I x1,I x2,I x3,I x4,I x5,I x6,I x7,I x8, .vC Aa x9,I G,I J,I L,I M,I N,I O,I S,I T,I U, .vC Aa D,I V,I X,I Y,I a0,I a1,I a2,I a3,I a4,I a5, .vC Aa E,I a6,I a7,I a8,I a9,I b0]=
 cond ((x9.length*8).ble 140737488355328) (cond ((D.length*8).ble 140737488355328) (cond ((E.length*8).ble 140737488355328) (some [I x0,I x1,I x2,I x3,I x4,I x5,I x6,I x7,I x8, .vC Aa x9,I G,I J,I L,I M,I N,I O,I S,I T,I U, .vC Aa D,I V,I X,I Y,I a0,I a1,I a2,I a3,I a4,I a5, .vC Aa E,I a6,I a7,I a8,I a9,I b0]) (none)) (none)) (none):=by kernel_rfl
def Qj:=Xz
theorem Zo1:Aj PG (UM):=Am rfl trivial
theorem Q7c:Ak PG (Zbh Qj):=rw1 (C:=UM) Zo1
def Zjn:=qa 60 Qg6 Qg6
def T0 (D:Fn):Cfg:=cf [Qgp D]
def Zc (D:Fn):Fn:=Al PG (T0 D) 64 60 Qg6 Qg6
theorem Zik (D:Fn) (E:Int):Zc D [I E]=
 (D [I E,I 1048576,I 60000,I 2]).bind λo1=>
 some [jA o1 0]:=by kernel_rfl
def OU:=Zc Ee
theorem Ze2:Aj PG (T0 Ee):=Am rfl ⟨Vq,trivial⟩
theorem Znl:Ak PG (Zjn OU):=rw1 (C:=T0 Ee) Ze2
def Q9o:=qa 59 X2 WT
def Qs4:Fn:=Al PG Qaf 64 59 X2 WT
theorem Zt1 (D E G:Int):Qs4 [I D,I E,I G]=
 cond (decide (1<=D)) (cond (decide (D<=65536)) (cond (decide (2<=E)) (cond (decide (E<=65536)) (cond (decide (1<=G)) (some [B (decide (G<=16777216))]) (some [B false])) (some [B false])) (some [B false])) (some [B false])) (some [B false]):=by kernel_rfl
def LK:=Qs4
theorem Zid:Aj PG (Qaf):=Am rfl trivial
theorem Zse:Ak PG (Q9o LK):=rw1 (C:=Qaf) Zid
def Q8p:=qa 108 Qaq WT
def Qf8 (D:Fn):Cfg:=cf [Qdc D]
def Qyn:Sk:=⟨[td,tf [sc 1 0]]++dd 24++[tf [sa Aa],tf [ci],tf [ci]]++dd 29,[(1,24,cc 9++[sa Aa])],[]⟩
def Qxp:List (Ex×Sk):=[(Ex.ret,⟨[td,td,tf [sb]]++dd 55,[],[]⟩),(Ex.exit 0,⟨[td]++dd 57,[],[]⟩)]
def WJ (D:Fn):Lp:=A4 PG (Qf8 D) 64 6 (A3 PG 108 6) Qyn Qxp
def Qr3 (D:Fn) (E:Lp):Cfg:=(Qf8 D).loop 6 Qyn Qxp E
def Ws (D:Fn) (E:Lp):Fn:=Al PG (Qr3 D E) 64 108 Qaq WT
theorem Qqe (G:Fn) (v0:Rw) (E D J L M N S T U v10 v11:Int) (v12:Rw):WJ G [.vC Aa v0,I E,I D,I J,I L,I M,I N,I S,I T,I U,I v10,I v11, .vC Aa v12]=
 cond (decide (D<E)) (cond (decide (0<=D)&&decide (D<(v0.length:Int))) ((G [jA (nth [] v0 D.toNat) 0,I (-4096),I 4096]).bind λV=>
 cond (!bA V 0) (some (1,[B false])) (cond (decide (D>0)) (cond (decide (0<=O (D-1))&&decide (O (D-1)<(v12.length:Int))) ((G [I (O (gA (nth [] v0 D.toNat) 0-gA (nth [] v12 (O (D-1)).toNat) 0)),I (O (0-O (v11.tdiv 4))),I (O (v11.tdiv 4))]).bind λX=>
 cond (!bA X 0) (some (1,[B false])) (some (0,[.vC Aa v0,I E,I (O (D+1)),I J,I L,I M,I N,I S,I T,I U,I v10,I v11, .vC Aa v12]))) (none)) (some (0,[.vC Aa v0,I E,I (O (D+1)),I J,I L,I M,I N,I S,I T,I U,I v10,I v11, .vC Aa v12])))) (none)) (some (2,[])):=by kernel_rfl
theorem Q9v (G:Fn) (N:Lp) (O S T U V X Y J L:Int) (E:Rw):Ws G N [I O,I S,I T,I U,I V,I X,I Y,I J,I L, .vC Aa E]=
 cond ((E.length:Int)==0) (some [B true]) (cond (decide ((E.length:Int)>64)) (some [B false]) ((G [I J,I (-16777216),I 16777216]).bind λo9=>
 cond (!bA o9 0) (some [B false]) ((G [I L,I 4,I 16777216]).bind λM=>
 cond (!bA M 0) (some [B false]) ((N [.vC Aa E,I (E.length:Int),I 0,I O,I S,I T,I U,I V,I X,I Y,I J,I L, .vC Aa E]).bind λD=>
 cond (D.1.beq 1) (some [B (bA D.2 0)]) (cond (D.1.beq 2) (some [B true]) (none)))))):=by kernel_rfl
def Qmo:=An (WJ FU)
def Oa:=Ws FU Qmo
theorem Q1l:Aj PG (Qf8 FU):=Am rfl ⟨Qgu,trivial⟩
theorem Zeg:Ak PG (Q8p Oa):=rw2 (C:=Qr3 FU Qmo) (fl fb Q1l) Q1l
def Zvf:=qa 58 Qaq WT
def Qib (Ne D:Fn):Cfg:=cf [Q8p Ne,Qdc D]
def Zd (Ne D:Fn):Fn:=Al PG (Qib Ne D) 64 58 Qaq WT
theorem Zt7 (Ne G:Fn) (J L M N D E O V X:Int) (Y:Rw):Zd Ne G [I J,I L,I M,I N,I D,I E,I O,I V,I X, .vC Aa Y]=
 (G [I J,I 4,I 4096]).bind λo6=>
 cond (bA o6 0) ((G [I L,I 1,I 1048576]).bind λo7=>
 cond (bA o7 0) ((G [I M,I 2,I 1048576]).bind λo8=>
 cond (bA o8 0) ((G [I N,I 4,I 1048576]).bind λS=>
 cond (decide (D>= -16777216)) (cond (decide (E<=16777216)) (cond (bA S 0) (cond (decide (D<=E)) ((G [I O,I 0,I 64]).bind λT=>
 cond (bA T 0) ((Ne [I J,I L,I M,I N,I D,I E,I O,I V,I X, .vC Aa Y]).bind λU=>
 some [B (bA U 0)]) (some [B false])) (some [B false])) (some [B false])) (cond (bA S 0) (some [B false]) (some [B false]))) (cond (bA S 0) (some [B false]) (some [B false]))) (cond (decide (D>= -16777216)) (cond (decide (E<=16777216)) (some [B false]) (some [B false])) (some [B false]))) (cond (decide (D>= -16777216)) (cond (decide (E<=16777216)) (some [B false]) (some [B false])) (some [B false]))) (cond (decide (D>= -16777216)) (cond (decide (E<=16777216)) (some [B false]) (some [B false])) (some [B false])):=by kernel_rfl
def On:=Zd Oa FU
theorem Zet:Aj PG (Qib Oa FU):=Am rfl ⟨Zeg,Qgu,trivial⟩
theorem Zn9:Ak PG (Zvf On):=rw1 (C:=Qib Oa FU) Zet
def Zqh:=qa 21 Qhz WT
def V6 (D E G:Fn):Cfg:={cf [Zjn D,Q9o E,Zvf G]with unroll:=[2]}
def Tf (D E G:Fn):Fn:=Al PG (V6 D E G) 64 21 Qhz WT
theorem Zmk (Nb Lz Iy:Fn) (x0 x1 x2 x3 x4 x5 x6 x7 x8:Int) (x9:Rw) (G J L M N O S T U:Int) (V:Rw) (X Y a0 a1 a2 a3 a4 a5 a6:Int) (a7:Rw) (a8 a9 b0 D E:Int):Tf Nb Lz Iy [I x0,I x1,I x2,I x3,I x4,I x5,I x6,I x7,I x8, .vC Aa x9,I G,I J,I L,I M,I N,I O,I S,I T,I U, .vC Aa V,I X,I Y,I a0,I a1,I a2,I a3,I a4,I a5,I a6, .vC Aa a7,I a8,I a9,I b0,I D,I E]=
 (Iy [I x0,I x1,I x2,I x3,I x4,I x5,I x6,I x7,I x8, .vC Aa x9]).bind λo5=>
 cond (!bA o5 0) (some [B false]) ((Iy [I G,I J,I L,I M,I N,I O,I S,I T,I U, .vC Aa V]).bind λo6=>
 cond (!bA o6 0) (some [B false]) ((Iy [I X,I Y,I a0,I a1,I a2,I a3,I a4,I a5,I a6, .vC Aa a7]).bind λo7=>
 cond (!bA o7 0) (some [B false]) ((Lz [I a8,I a9,I b0]).bind λo8=>
 cond (bA o8 0) (cond (decide (D>=1)) ((Nb [I 30000]).bind λo9=>
 cond (decide (D<=gA o9 0)) (cond (decide (E>=0)) (some [B (decide (E<=1048576))]) (some [B false])) (some [B false])) (some [B false])) (some [B false])))):=by kernel_rfl
def RB:=Tf OU LK On
theorem Q7a:Aj PG (V6 OU LK On):=Am rfl ⟨Znl,Zse,Zn9,trivial⟩
theorem Q6l:Ak PG (Zqh RB):=rw1 (C:=V6 OU LK On) Q7a
def Pr:Sk:=⟨[TS.tup [(false,[sc 19 0]),(false,[ci])]],[(19,95,cS)],[]⟩
def tg9 (o:List AC):Bool:=(match o with|[_]=>false|_=>true)
def Qt0 (D E G I J L M:Fn):Cfg:={cp [Zmg D,Q7j E,Zen G,Q4l I,Zje J,Zbh L,Zqh M] [25]with fstore:=true}
def NZ (D E G I J L M:Fn):Fn:=Oi PG (Qt0 D E G I J L M) 64 9 Qjj Pr Qii tg9
theorem SB (Kw K6 Na Lx Mu My L_:Fn) (x0 x1 x2 x3 x4 x5 x6 x7 x8:Int) (x9:Rw) (L M N O S T U V X:Int) (Y:Rw) (a0 a1 a2 a3 a4 a5 a6 a7 a8:Int) (a9:Rw) (b0 b1 b2 b3 b4:Int) (b6:Rw) (b7:Bool):NZ Kw K6 Na Lx Mu My L_ [I x0,I x1,I x2,I x3,I x4,I x5,I x6,I x7,I x8, .vC Aa x9,I L,I M,I N,I O,I S,I T,I U,I V,I X, .vC Aa Y,I a0,I a1,I a2,I a3,I a4,I a5,I a6,I a7,I a8, .vC Aa a9,I b0,I b1,I b2,I b3,I b4, .vC Ac b6,B b7]=
 (L_ [I x0,I x1,I x2,I x3,I x4,I x5,I x6,I x7,I x8, .vC Aa x9,I L,I M,I N,I O,I S,I T,I U,I V,I X, .vC Aa Y,I a0,I a1,I a2,I a3,I a4,I a5,I a6,I a7,I a8, .vC Aa a9,I b0,I b1,I b2,I b3,I b4]).bind λo7=>
 cond (!bA o7 0) (some [I 1]) ((My [I x0,I x1,I x2,I x3,I x4,I x5,I x6,I x7,I x8, .vC Aa x9,I L,I M,I N,I O,I S,I T,I U,I V,I X, .vC Aa Y,I a0,I a1,I a2,I a3,I a4,I a5,I a6,I a7,I a8, .vC Aa a9,I b0,I b1,I b2,I b3,I b4]).bind λE=>
 (Mu []).bind λo9=>
 (Lx []).bind λb5=>
 (Na [.vC Ac b6,B b7,jA E 0,jA E 1,jA E 2,jA E 3,jA E 4,jA E 5,jA E 6,jA E 7,jA E 8, .vC Aa (wA E 9),jA E 10,jA E 11,jA E 12,jA E 13,jA E 14,jA E 15,jA E 16,jA E 17,jA E 18, .vC Aa (wA E 19),jA E 20,jA E 21,jA E 22,jA E 23,jA E 24,jA E 25,jA E 26,jA E 27,jA E 28, .vC Aa (wA E 29),jA E 30,jA E 31,jA E 32,jA E 33,jA E 34, .vC Ac [],B false,I 0,I 0,I 0, .vC Af [], .vC kPt [],I 0,I 0, .vC Ao [],I 0,I 0,I 0,I 0,I 0,I 0,I 0,I 0,I 0,I 0,I 0,jA o9 0,jA o9 1,B (bA o9 2),B (bA o9 3),B (bA o9 4),jA b5 0,jA b5 1,jA b5 2,I 1,I 0,I 0,I 0,I 0,I 0,I 0,I 0,I 0,B false,I 0,B false,I 0,B false,I 0,I (-1),I 0,I 0,I 0,I 0,I 0,I 0,I 0,B false,B false,B false]).bind λD=>
 cond (gA D 0 !=0) (some [jA D 0]) ((K6 [jA D 38,jA D 39,jA D 40, .vC Af (wA D 41), .vC kPt (wA D 42),jA D 1,jA D 2,jA D 3,jA D 4,jA D 5,jA D 6,jA D 7,jA D 8,jA D 9, .vC Aa (wA D 10),jA D 11,jA D 12,jA D 13,jA D 14,jA D 15,jA D 16,jA D 17,jA D 18,jA D 19, .vC Aa (wA D 20),jA D 21,jA D 22,jA D 23,jA D 24,jA D 25,jA D 26,jA D 27,jA D 28,jA D 29, .vC Aa (wA D 30),I 1,I 1,I 1,I 0,jA D 43]).bind λG=>
 (Kw [I 0]).bind λJ=>
 some (I 0::VS (cR 1 D) [(44, .vC Ao (wA G 0)),(45,jA G 1),(46,jA G 2),(47,jA G 3),(48,jA G 4),(49,jA G 5),(50,jA J 0),(51,jA J 1),(52,jA J 2),(53,jA J 3),(54,jA J 4),(55,jA J 5)]))):=by kernel_rfl
def FA:=NZ Rx Px Z4 PT Qc Qj RB
theorem Q9m:Aj PG (Qt0 Rx Px Z4 PT Qc Qj RB):=Am rfl ⟨Q42,Q4h,Zfd,Zbv,Zl9,Q7c,Q6l,trivial⟩
theorem Q06:Ak PG (9,GD Qjj Pr Qii tg9 FA):=Qp9 (by kernel_rfl) (FnOK.bare rfl rfl rfl) Q9m eqOk Gj (by kernel_rfl) (by kernel_rfl) (by kernel_rfl)
def Qpp:=qa 8 Vx Qg6
def Qlk:Fn:=Al PG Qaf 64 8 Vx Qg6
theorem Zgj (E D:Int):Qlk [I E,I D]=
 cond (decide (D=0)) (none) (cond (decide (D=0)) (none) (some [I ((O (E.tmod D+D)).tmod D)])):=by kernel_rfl
def GS:=Qlk
theorem Zlp:Aj PG (Qaf):=Am rfl trivial
theorem Qma:Ak PG (Qpp GS):=rw1 (C:=Qaf) Zlp
def S3:Sk:=⟨[tf [sc 20000 0],tf [ci]],[(20000,65,[sa Aa,ci])],[]⟩
def Qj2:Sk:=⟨[tf [ci]],[(20000,65,[sa Aa,ci])],[]⟩
def J9:=qa 15 S3 Qj2
def ZB (D:Fn):Cfg:=cf [Qpp D]
def Qhe (D:Fn):Fn:=Al PG (ZB D) 64 15 S3 Qj2
theorem Zkk (G:Fn) (J:Int) (E:Rw) (D:Int):Qhe G [I J, .vC Aa E,I D]=
 cond (decide (D>=(E.length:Int))) (some [I 0, .vC Aa E,I D]) (cond (decide (0<=D)&&decide (D<(E.length:Int))) ((G [jA (nth [] E D.toNat) 0,I J]).bind λo1=>
 some [jA o1 0, .vC Aa E,I (O (D+1))]) (none)):=by kernel_rfl
def Cc:=Qhe GS
theorem Q8h:Aj PG (ZB GS):=Am rfl ⟨Qma,trivial⟩
theorem Jl:Ak PG (J9 Cc):=rw1 (C:=ZB GS) Q8h
def Sn:Sk:=⟨[tf [sa Aa]],[],[]⟩
def Qer:Sk:=⟨[tf [sc 5 0]],[(5,65,[sa Aa,ci])],[]⟩
def Rq:=qa 14 Sn Qer
def Qyh:Fn:=Al PG Qaf 64 14 Sn Qer
theorem Zd7 (D:Rw):Qyh [.vC Aa D]=
 some [.vC Aa D,I 0]:=by kernel_rfl
def Dj:=Qyh
theorem Zh5:Aj PG (Qaf):=Am rfl trivial
theorem Q_:Ak PG (Rq Dj):=rw1 (C:=Qaf) Zh5
def Q3s:=qa 20 Sn X2
def Y6 (D E:Fn):Cfg:=cp [J9 D,Rq E] [15,14]
def Sr (D E:Fn):Fn:=Al PG (Y6 D E) 64 20 Sn X2
theorem Zlz (D J:Fn) (L:Rw):Sr D J [.vC Aa L]=
 (J [.vC Aa L]).bind λo4=>
 (D [I 900, .vC Aa (wA o4 0),jA o4 1]).bind λE=>
 (D [I 200, .vC Aa (wA E 1),jA E 2]).bind λG=>
 (D [I 16000, .vC Aa (wA G 1),jA G 2]).bind λM=>
 some [I (O (1+gA E 0)),I (O (2+gA G 0)),I (O (1+gA M 0))]:=by kernel_rfl
def Pf:=Sr Cc Dj
theorem Q3e:Aj PG (Y6 Cc Dj):=Am rfl ⟨Jl,Q_,trivial⟩
theorem Zjc:Ak PG (Q3s Pf):=rw1 (C:=Y6 Cc Dj) Q3e
def TY:Sk:=⟨[tf [sc 20000 0]],[(20000,65,[sa Aa,ci])],[]⟩
def S2:Sk:=⟨[TS.v true (cc 9++[sa Aa])],[(20000,65,[sa Aa,ci])],[]⟩
def Q95:=qa 57 TY S2
def UI (D:Fn):Cfg:={spec:=GE [J9 D],eqOk:=HC,pure:=λf=> !(AI [15] f),ownOff:=Qsr}
def Qli:Sk:=⟨[tf [sc 20000 0],td,tf [sc 2 0],tf [sc 3 0],tf [ci],tf [ci],tf [ci]]++dd 72,[(2,24,cc 9++[sd 1002009 1]),(3,24,cc 9++[sd 1003009 1]),(20000,65,[sa Aa,ci])],[(1002009,3,Aa),(1003009,3,Aa)]⟩
def Qsv:List (Ex×Sk):=[(Ex.exit 0,⟨[td,td,tf [sc 2 0],tf [sc 3 0]]++dd 75,[(2,24,cc 9++[sd 1002009 1]),(3,24,cc 9++[sd 1003009 1]),(20000,65,[sa Aa,ci])],[(1002009,3,Aa),(1003009,3,Aa)]⟩)]
def PH (D:Fn):Lp:=A4 PG (UI D) 64 11 (A3 PG 57 11) Qli Qsv
def Qlh (E:Fn) (D:Lp):Cfg:=(UI E).loop 11 Qli Qsv D
def SG (E:Fn) (D:Lp):Fn:=Al PG (Qlh E D) 64 57 TY S2
theorem Qx9 (Ap:Fn) (v0 U:Rw) (X V Y v5 v6 v7 v8 v9 v10 v11 v12 D E G J L M N v20 v21 v22:Int) (S:Rw) (v24:Int):PH Ap [.vC Aa v0, .vC Aa U,I X,I V,I Y,I v5,I v6,I v7,I v8,I v9,I v10,I v11,I v12,I D,I E,I G,I J,I L,I M,I N,I v20,I v21,I v22, .vC Aa S,I v24]=
 cond (decide (Y<X)) (cond (((U++[[I V]]).length*8).ble 140737488355328) ((Ap [I (O (O (2*O (v22.tdiv 4))+1)), .vC Aa S,I v24]).bind λT=>
 some (0,[.vC Aa v0, .vC Aa (U++[[I V]]),I X,I (mn (mx (O (O (V+gA T 0)-O (v22.tdiv 4))) (-4096)) 4096),I (O (Y+1)),I v5,I v6,I v7,I v8,I v9,I v10,I v11,I v12,I D,I E,I G,I J,I L,I M,I N,I v20,I v21,I v22, .vC Aa (wA T 1),jA T 2])) (none)) (some (1,[.vC Aa v0, .vC Aa U,I v5,I v6,I v7,I v8,I v9,I v10,I v11,I v12,I D,I E,I G,I J,I L,I M,I N,I v20,I v21,I v22, .vC Aa S,I v24])):=by kernel_rfl
theorem Q58 (S:Fn) (X:Lp) (Y:Rw) (x1:Int):SG S X [.vC Aa Y,I x1]=
 (S [I 6, .vC Aa Y,I x1]).bind λE=>
 cond (decide (0<=gA E 0)&&decide (gA E 0<(↑[[I 8],[I 4],[I 5],[I 16],[I 23],[I 64]].length:Int))) ((S [I 4, .vC Aa (wA E 1),jA E 2]).bind λG=>
 cond (decide (0<=gA G 0)&&decide (gA G 0<(↑[[I 0],[I 1],[I 3],[I 6]].length:Int))) ((S [I 5, .vC Aa (wA G 1),jA G 2]).bind λJ=>
 cond (decide (0<=gA J 0)&&decide (gA J 0<(↑[[I 40],[I 1],[I 3],[I 9],[I 1000]].length:Int))) ((S [I 5, .vC Aa (wA J 1),jA J 2]).bind λL=>
 cond (decide (0<=gA L 0)&&decide (gA L 0<(↑[[I 20],[I 2],[I 3],[I 5],[I 1000]].length:Int))) ((S [I 5, .vC Aa (wA L 1),jA L 2]).bind λM=>
 cond (decide (0<=gA M 0)&&decide (gA M 0<(↑[[I 30],[I 4],[I 5],[I 8],[I 1000]].length:Int))) ((S [I 5, .vC Aa (wA M 1),jA M 2]).bind λN=>
 cond (gA N 0==0) (some [I (Ah (nth .dead (nth [] [[I 8],[I 4],[I 5],[I 16],[I 23],[I 64]] (gA E 0).toNat) 0)),I (Ah (nth .dead (nth [] [[I 40],[I 1],[I 3],[I 9],[I 1000]] (gA J 0).toNat) 0)),I (Ah (nth .dead (nth [] [[I 20],[I 2],[I 3],[I 5],[I 1000]] (gA L 0).toNat) 0)),I (Ah (nth .dead (nth [] [[I 30],[I 4],[I 5],[I 8],[I 1000]] (gA M 0).toNat) 0)),I (-16777216),I 16777216,I (Ah (nth .dead (nth [] [[I 0],[I 1],[I 3],[I 6]] (gA G 0).toNat) 0)),I 0,I 0, .vC Aa [], .vC Aa (wA N 1),jA N 2]) ((S [I 400, .vC Aa (wA N 1),jA N 2]).bind λT=>
 (S [I 120, .vC Aa (wA T 1),jA T 2]).bind λU=>
 (S [I 9, .vC Aa (wA U 1),jA U 2]).bind λV=>
 (X [.vC Aa [], .vC Aa [],jA N 0,I (O (gA V 0-4)),I 0,I 0,I 0,I 0,I 0,I 0,I 0,I 0,I 0,I 0,I (Ah (nth .dead (nth [] [[I 8],[I 4],[I 5],[I 16],[I 23],[I 64]] (gA E 0).toNat) 0)),I (Ah (nth .dead (nth [] [[I 40],[I 1],[I 3],[I 9],[I 1000]] (gA J 0).toNat) 0)),I (Ah (nth .dead (nth [] [[I 20],[I 2],[I 3],[I 5],[I 1000]] (gA L 0).toNat) 0)),I (Ah (nth .dead (nth [] [[I 30],[I 4],[I 5],[I 8],[I 1000]] (gA M 0).toNat) 0)),I (-16777216),I 16777216,I (Ah (nth .dead (nth [] [[I 0],[I 1],[I 3],[I 6]] (gA G 0).toNat) 0)),I (O (gA T 0-200)),I (O (4+gA U 0)), .vC Aa (wA V 1),jA V 2]).bind λD=>
 cond (D.1.beq 1) (some [jA D.2 11,jA D.2 12,jA D.2 13,jA D.2 14,jA D.2 15,jA D.2 16,jA D.2 17,jA D.2 18,jA D.2 19, .vC Aa (wA D.2 1), .vC Aa (wA D.2 20),jA D.2 21]) (none))) (none)) (none)) (none)) (none)) (none):=by kernel_rfl
def Qis:=An (PH Cc)
def KB:=SG Cc Qis
theorem Qn5:Aj PG (UI Cc):=Am rfl ⟨Jl,trivial⟩
theorem Zro:Ak PG (Q95 KB):=rw2 (C:=Qlh Cc Qis) (fl fb Qn5) Qn5
def Qef:Sk:=⟨[TS.v true (cc 9++[sa Aa]++cc 9++[sa Aa]++cc 9++[sa Aa])],[],[]⟩
def Zp5:=qa 19 Sn Qef
def Y1 (D E:Fn):Cfg:=cp [Q95 D,Rq E] [57,14]
def Qql (D E:Fn):Fn:=Al PG (Y1 D E) 64 19 Sn Qef
theorem Zuk (I J:Fn) (L:Rw):Qql I J [.vC Aa L]=
 (J [.vC Aa L]).bind λo4=>
 (I [.vC Aa (wA o4 0),jA o4 1]).bind λD=>
 (I [.vC Aa (wA D 10),jA D 11]).bind λE=>
 (I [.vC Aa (wA E 10),jA E 11]).bind λG=>
 some [jA D 0,jA D 1,jA D 2,jA D 3,jA D 4,jA D 5,jA D 6,jA D 7,jA D 8, .vC Aa (wA D 9),jA E 0,jA E 1,jA E 2,jA E 3,jA E 4,jA E 5,jA E 6,jA E 7,jA E 8, .vC Aa (wA E 9),jA G 0,jA G 1,jA G 2,jA G 3,jA G 4,jA G 5,jA G 6,jA G 7,jA G 8, .vC Aa (wA G 9)]:=by kernel_rfl
def LJ:=Qql KB Dj
theorem Zs9:Aj PG (Y1 KB Dj):=Am rfl ⟨Zro,Q_,trivial⟩
theorem Zes:Ak PG (Zp5 LJ):=rw1 (C:=Y1 KB Dj) Zs9
def Qj4:Sk:=⟨[tf [sa Aa],tf [sa Aa]],[],[]⟩
def Zau:=qa 7 Qj4 Qhz
def Tc (D E G I:Fn):Cfg:=cp [J9 D,Q3s E,Zp5 G,Rq I] [15,14]
def UT (D E G I:Fn):Fn:=Al PG (Tc D E G I) 64 7 Qj4 Qhz
theorem Zlr (G M N S:Fn) (T E:Rw):UT G M N S [.vC Aa T, .vC Aa E]=
 (S [.vC Aa E]).bind λU=>
 (N [.vC Aa T]).bind λD=>
 (M [.vC Aa E]).bind λJ=>
 (G [I 60000, .vC Aa (wA U 0),I (mn 3 (E.length:Int))]).bind λL=>
 (G [I 40, .vC Aa (wA L 1),jA L 2]).bind λV=>
 some [jA D 0,jA D 1,jA D 2,jA D 3,jA D 4,jA D 5,jA D 6,jA D 7,jA D 8, .vC Aa (wA D 9),jA D 10,jA D 11,jA D 12,jA D 13,jA D 14,jA D 15,jA D 16,jA D 17,jA D 18, .vC Aa (wA D 19),jA D 20,jA D 21,jA D 22,jA D 23,jA D 24,jA D 25,jA D 26,jA D 27,jA D 28, .vC Aa (wA D 29),jA J 0,jA J 1,jA J 2,I (O (1+gA L 0)),jA V 0]:=by kernel_rfl
def K9:=UT Cc Pf LJ Dj
theorem Zmr:Aj PG (Tc Cc Pf LJ Dj):=Am rfl ⟨Jl,Zjc,Zes,Q_,trivial⟩
theorem Zsv:Ak PG (Zau K9):=rw1 (C:=Tc Cc Pf LJ Dj) Zmr
def Tm:Sk:=⟨[TS.tup [(false,[ci]),(false,[ci])]],[],[]⟩
def Za5:=qa 105 Vx Tm
def Qq9:Fn:=Al PG Qaf 64 105 Vx Tm
theorem Zjq (D E:Int):Qq9 [I D,I E]=
 cond (decide (0<=E.tmod 4)&&decide (E.tmod 4<(↑[[I D],[I 0],[I (O (0-D))],[I 0]].length:Int))) (cond (decide (0<=E.tmod 4)&&decide (E.tmod 4<(↑[[I 0],[I D],[I 0],[I (O (0-D))]].length:Int))) (some [I (Ah (nth .dead (nth [] [[I D],[I 0],[I (O (0-D))],[I 0]] (E.tmod 4).toNat) 0)),I (Ah (nth .dead (nth [] [[I 0],[I D],[I 0],[I (O (0-D))]] (E.tmod 4).toNat) 0))]) (none)) (none):=by kernel_rfl
def Me:=Qq9
theorem Zow:Aj PG (Qaf):=Am rfl trivial
theorem Zft:Ak PG (Za5 Me):=rw1 (C:=Qaf) Zow
def Qhk:Sk:=⟨[tf [sc 20000 0],TS.v true [ci,ci,ci],tf [ci]],[(20000,65,[sa Aa,ci])],[]⟩
def UJ:Sk:=⟨[TS.v true (cc 13++[sb,ci,sb]++cc 5++[sb])],[(20000,65,[sa Aa,ci])],[]⟩
def Zhj:=qa 56 Qhk UJ
def UO (D E G I:Fn):Cfg:=cp [Qui D,Za5 E,Qhq G,J9 I] [15]
def Qdb (D E G I:Fn):Fn:=Al PG (UO D E G I) 64 56 Qhk UJ
abbrev PO (X Y:Fn) (T J:List AC) (x0 x1 x2:Int) (E U V:List AC) (L M N S:AC):Option (List AC):=
 (X [I 4,L,M]).bind λD=>
 cond (decide (0<=gA D 0)&&decide (gA D 0<(↑[[I 0],[I 0],[I 7],[I (-12)]].length:Int))) ((Y [N,S,I (O (gA T 2+Ah (nth .dead (nth [] [[I 0],[I 0],[I 7],[I (-12)]] (gA D 0).toNat) 0))),I (Ah (nth .dead (nth [] [[I 17],[I 18],[I 19]] (gA J 0).toNat) 0))]).bind λG=>
 some [I 3,I 0,I x0,I x1,I x2,jA G 0,jA G 1,jA G 2,I (Ah (nth .dead (nth [] [[I 17],[I 18],[I 19]] (gA J 0).toNat) 0)),jA E 0,jA E 1,jA E 2,I (O (1-O (gA U 0*2))),B (gA V 0==0),I 0,B false,I 0,I 0,I 0,I 0,I 0,B false, .vC Aa (wA D 1),jA D 2]) (none)
theorem Zlb (Cx JZ B0 N:Fn) (x0 x1 x2 x3:Int) (x4:Rw) (x5:Int):Qdb Cx JZ B0 N [I x0,I x1,I x2,I x3, .vC Aa x4,I x5]=
 (N [I 3, .vC Aa x4,I x5]).bind λE=>
 cond (decide (0<=gA E 0)&&decide (gA E 0<(↑[[I 17],[I 18],[I 19]].length:Int))) ((N [I 2, .vC Aa (wA E 1),jA E 2]).bind λS=>
 (N [I x3, .vC Aa (wA S 1),jA S 2]).bind λJ=>
 (N [I 4, .vC Aa (wA J 1),jA J 2]).bind λU=>
 (N [I 4, .vC Aa (wA U 1),jA U 2]).bind λG=>
 (B0 [I x0,I x1,I x2,I (Ah (nth .dead (nth [] [[I 17],[I 18],[I 19]] (gA E 0).toNat) 0))]).bind λD=>
 (JZ [I (O (8+gA J 0)),jA U 0]).bind λL=>
 (JZ [I (O (8+gA J 0)),I (O (gA U 0+gA G 0))]).bind λM=>
 (Cx [I (O (gA D 0-gA L 0)),I (O (gA D 1-gA L 1)),jA D 2,I (Ah (nth .dead (nth [] [[I 17],[I 18],[I 19]] (gA E 0).toNat) 0))]).bind λV=>
 cond (decide (gA G 0>0)) ((N [I 3, .vC Aa (wA G 1),jA G 2]).bind λT=>
 cond (gA T 0==0) (cond (decide (O (8+gA J 0)=0)) (none) ((N [I 5, .vC Aa (wA T 1),jA T 2]).bind λX=>
 cond (decide (O (8+gA J 0)=0)) (none) ((N [I 5, .vC Aa (wA X 1),jA X 2]).bind λY=>
 PO N Cx D E x0 x1 x2 V S G (.vC Aa (wA Y 1)) (jA Y 2) (I (O (O (gA D 0-gA L 0)+O (gA M 0+O (O ((gA M 0).tdiv (O (8+gA J 0)))*gA X 0))))) (I (O (O (gA D 1-gA L 1)+O (gA M 1+O (O ((gA M 1).tdiv (O (8+gA J 0)))*gA Y 0)))))))) (PO N Cx D E x0 x1 x2 V S G (.vC Aa (wA T 1)) (jA T 2) (I (O (O (gA D 0-gA L 0)+gA M 0))) (I (O (O (gA D 1-gA L 1)+gA M 1))))) (PO N Cx D E x0 x1 x2 V S G (.vC Aa (wA G 1)) (jA G 2) (I (O (O (gA D 0-gA L 0)+gA M 0))) (I (O (O (gA D 1-gA L 1)+gA M 1))))) (none):=by kernel_rfl
def Oc:=Qdb Hd Me Ff Cc
theorem Q3b:Aj PG (UO Hd Me Ff Cc):=Am rfl ⟨Qoo,Zft,Qev,Jl,trivial⟩
theorem Zo8:Ak PG (Zhj Oc):=rw1 (C:=UO Hd Me Ff Cc) Q3b
def Zb0:=qa 18 Qhk UJ
def SO (D E:Fn):Cfg:=cp [J9 D,Zhj E] [15,56]
def SH (D E:Fn):Fn:=Al PG (SO D E) 64 18 Qhk UJ
abbrev Zg (Ap:Fn) (a7:List AC) (x3:Int) (U V X Y a0 a1 a2 a3 a4 a5 E G J L M N S T:AC):Option (List AC):=
 (Ap [I 60, .vC Aa (wA a7 1),jA a7 2]).bind λD=>
 cond (x3==6) ((Ap [I 2, .vC Aa (wA D 1),jA D 2]).bind λa6=>
 some [U,V,X,Y,a0,a1,a2,a3,a4,a5,E,G,J,L,I (O (1+gA D 0)),B true,M,N,I 0,I (O (3+gA a6 0)),S,T, .vC Aa (wA a6 1),jA a6 2]) (some [U,V,X,Y,a0,a1,a2,a3,a4,a5,E,G,J,L,I (O (1+gA D 0)),B true,M,N,I 0,I 0,S,T, .vC Aa (wA D 1),jA D 2])
abbrev Tp (x3:Int) (Ap:Fn) (T U V X Y a0 a1 a2 a3 a4 D E G J b0 a5 L M b1 a6 N O a8 a9:AC):Option (List AC):=
 cond (x3==1) (some [T,U,V,X,Y,a0,a1,a2,a3,a4,D,E,G,J,b0,a5,L,M,b1,a6,N,O,a8,a9]) ((Ap [I 5,a8,a9]).bind λa7=>
 cond (decide (0<=gA a7 0)&&decide (gA a7 0<(↑[[I 300000],[I 1],[I 60000],[I 2000000],[I 60000000]].length:Int))) ((Ap [I 5, .vC Aa (wA a7 1),jA a7 2]).bind λS=>
 cond (decide (0<=gA S 0)&&decide (gA S 0<(↑[[I 0],[I 1],[I 2],[I 4],[I 9]].length:Int))) (cond (x3==5) (Zg Ap S x3 T U V X Y a0 a1 a2 a3 a4 D E G J L M N O) (cond (x3==6) (Zg Ap S x3 T U V X Y a0 a1 a2 a3 a4 D E G J L M N O) (cond (x3==4) (some [T,U,V,X,Y,a0,a1,a2,a3,a4,D,E,G,J,I (Ah (nth .dead (nth [] [[I 300000],[I 1],[I 60000],[I 2000000],[I 60000000]] (gA a7 0).toNat) 0)),a5,L,M,I 0,a6,N,O, .vC Aa (wA S 1),jA S 2]) (some [T,U,V,X,Y,a0,a1,a2,a3,a4,D,E,G,J,I (Ah (nth .dead (nth [] [[I 300000],[I 1],[I 60000],[I 2000000],[I 60000000]] (gA a7 0).toNat) 0)),a5,L,M,I (Ah (nth .dead (nth [] [[I 0],[I 1],[I 2],[I 4],[I 9]] (gA S 0).toNat) 0)),a6,N,O, .vC Aa (wA S 1),jA S 2])))) (none)) (none))
theorem Zm8 (E Mv:Fn) (T U V S:Int) (X:Rw) (Y:Int):SH E Mv [I T,I U,I V,I S, .vC Aa X,I Y]=
 cond (S==3) ((Mv [I T,I U,I V,I 8, .vC Aa X,I Y]).bind λD=>
 Tp S E (jA D 0) (jA D 1) (jA D 2) (jA D 3) (jA D 4) (jA D 5) (jA D 6) (jA D 7) (jA D 8) (jA D 9) (jA D 10) (jA D 11) (jA D 12) (B (bA D 13)) (jA D 14) (B (bA D 15)) (jA D 16) (jA D 17) (jA D 18) (jA D 19) (jA D 20) (B (bA D 21)) (.vC Aa (wA D 22)) (jA D 23)) ((E [I 25, .vC Aa X,I Y]).bind λG=>
 (E [I 25, .vC Aa (wA G 1),jA G 2]).bind λJ=>
 (E [I 3, .vC Aa (wA J 1),jA J 2]).bind λL=>
 (E [I 9, .vC Aa (wA L 1),jA L 2]).bind λM=>
 (E [I 2, .vC Aa (wA M 1),jA M 2]).bind λN=>
 Tp S E (I S) (I 0) (I T) (I U) (I V) (I (O (O (T+gA G 0)-12))) (I (O (O (U+gA J 0)-12))) (I (O (O (V+O (gA L 0*gA M 0))-O (8*gA N 0)))) (I 0) (I 0) (I 0) (I 0) (I 0) (B false) (I 0) (B false) (I 0) (I 0) (I 0) (I 0) (I 0) (B false) (.vC Aa (wA N 1)) (jA N 2)):=by kernel_rfl
def I_:=SH Cc Oc
theorem Zfc:Aj PG (SO Cc Oc):=Am rfl ⟨Jl,Zo8,trivial⟩
theorem Zdl:Ak PG (Zb0 I_):=rw1 (C:=SO Cc Oc) Zfc
def Zr3:=qa 17 TY UJ
def Qbl (D:Fn):Cfg:=cp [J9 D] [15]
def VH (D:Fn):Fn:=Al PG (Qbl D) 64 17 TY UJ
abbrev Qhw (G:Fn) (J:List AC):Option (List AC):=
 (G [I 16, .vC Aa (wA J 1),jA J 2]).bind λE=>
 (G [I 2, .vC Aa (wA E 1),jA E 2]).bind λD=>
 some [I 10,I 0,I 0,I 0,I 0,I 0,I 0,I 0,I 0,I 0,I 0,I 0,I 0,B false,I 0,B false,I 0,I 0,I 0,jA E 0,I 0,B (gA D 0==0), .vC Aa (wA D 1),jA D 2]
theorem Q9l (E:Fn) (M:Rw) (N:Int):VH E [.vC Aa M,I N]=
 (E [I 8, .vC Aa M,I N]).bind λD=>
 cond (gA D 0==0) (Qhw E D) (cond (gA D 0==1) (Qhw E D) (cond (gA D 0==2) ((E [I 5, .vC Aa (wA D 1),jA D 2]).bind λG=>
 some [I 7,I 0,I 0,I 0,I 0,I 0,I 0,I 0,I 0,I 0,I 0,I 0,I 0,B false,I 0,B false,I 0,I 0,I 0,jA G 0,I 0,B false, .vC Aa (wA G 1),jA G 2]) (cond (gA D 0==3) ((E [I 3, .vC Aa (wA D 1),jA D 2]).bind λJ=>
 (E [I 4000, .vC Aa (wA J 1),jA J 2]).bind λL=>
 some [I 8,I 0,I 0,I 0,I 0,I 0,I 0,I 0,I 0,I 0,I 0,I 0,I 0,B false,I 0,B false,I 0,I 0,I 0,I (O (3+gA J 0)),jA L 0,B false, .vC Aa (wA L 1),jA L 2]) (cond (gA D 0==4) (some [I 9,I 0,I 0,I 0,I 0,I 0,I 0,I 0,I 0,I 0,I 0,I 0,I 0,B false,I 0,B false,I 0,I 0,I 0,I 8,I 0,B true, .vC Aa (wA D 1),jA D 2]) (cond (gA D 0==5) (some [I 13,I 0,I 0,I 0,I 0,I 0,I 0,I 0,I 0,I 0,I 0,I 0,I 0,B false,I 0,B false,I 0,I 0,I 0,I 0,I 0,B false, .vC Aa (wA D 1),jA D 2]) (cond (gA D 0==6) (some [I 12,I 0,I 0,I 0,I 0,I 0,I 0,I 0,I 0,I 0,I 0,I 0,I 0,B false,I 0,B false,I 0,I 0,I 0,I 0,I 0,B false, .vC Aa (wA D 1),jA D 2]) (some [I 11,I 0,I 0,I 0,I 0,I 0,I 0,I 0,I 0,I 0,I 0,I 0,I 0,B false,I 0,B false,I 0,I 0,I 0,I 1,I 0,B false, .vC Aa (wA D 1),jA D 2]))))))):=by kernel_rfl
def JR:=VH Cc
theorem Zvi:Aj PG (Qbl Cc):=Am rfl ⟨Jl,trivial⟩
theorem Zgh:Ak PG (Zr3 JR):=rw1 (C:=Qbl Cc) Zvi
def Qdp:Sk:=⟨[tf [sb]],[(20000,65,[sa Aa,ci])],[]⟩
def Q76:=qa 16 TY Qdp
def Qo7:Fn:=Al PG Qaf 64 16 TY Qdp
theorem Q5m (D:Rw) (E:Int):Qo7 [.vC Aa D,I E]=
 some [B (decide (E<(D.length:Int))), .vC Aa D,I E]:=by kernel_rfl
def Ik:=Qo7
theorem Zcd:Aj PG (Qaf):=Am rfl trivial
theorem Zq7:Ak PG (Q76 Ik):=rw1 (C:=Qaf) Zcd
def Qb6:Sk:=⟨[tf [sa Aa],tf [ci],tf [sb]],[],[]⟩
def Zr1:=qa 6 Qb6 Xf
def Qfi (D E G I J:Fn):Cfg:={cp [Zb0 D,Zr3 E,Q76 G,J9 I,Rq J] [18,17,16,15,14]with prom:=λb=>cond (Nat.beq b 4) ([(8,49)]) ([])}
def Qpb:Sk:=⟨[td,tf [ci],tf [sb],td,td,td,td,tf [sc 101300 0],tf [sd 8 22],tf [sc 9 0]]++dd 64,[(9,47,[ci,ci,ci]),(101300,65,[sa Aa,ci])],[(8,49,Ac)]⟩
def Qkf:List (Ex×Sk):=[(Ex.exit 0,⟨[td,td,tf [sb],td,td,td,td,td,tf [sd 8 22]]++dd 65,[],[(8,49,Ac)]⟩)]
def Qjc (D E G I J:Fn):Lp:=A4 PG (Qfi D E G I J) 64 4 (A3 PG 6 4) Qpb Qkf
def Q16 (D E G I J:Fn) (L:Lp):Cfg:=(Qfi D E G I J).loop 4 Qpb Qkf L
def Qjp (D E G I J:Fn) (L:Lp):Fn:=Al PG (Q16 D E G I J L) 64 6 Qb6 Xf
theorem Zpt (Y Gg FR T Bx:Fn) (v0:Rw) (S:Int) (N:Bool) (U V X:Int) (v6:Rw) (v7:Int):Qjc Y Gg FR T Bx [.vC Ac v0,I S,B N,I U,I V,I X, .vC Aa v6,I v7]=
 cond (decide ((v0.length:Int)<S)) ((FR [.vC Aa v6,I v7]).bind λM=>
 cond (bA M 0) ((T [I 12, .vC Aa (wA M 1),jA M 2]).bind λG=>
 cond (decide (gA G 0<4)) ((Gg [.vC Aa (wA G 1),jA G 2]).bind λE=>
 cond (((v0++[[jA E 0,jA E 1,jA E 2,jA E 3,jA E 4,jA E 5,jA E 6,jA E 7,jA E 8,jA E 9,jA E 10,jA E 11,jA E 12,B (bA E 13),jA E 14,B (bA E 15),jA E 16,jA E 17,jA E 18,jA E 19,jA E 20,B (bA E 21)]]).length*176).ble 140737488355328) (some (0,[.vC Ac (v0++[[jA E 0,jA E 1,jA E 2,jA E 3,jA E 4,jA E 5,jA E 6,jA E 7,jA E 8,jA E 9,jA E 10,jA E 11,jA E 12,B (bA E 13),jA E 14,B (bA E 15),jA E 16,jA E 17,jA E 18,jA E 19,jA E 20,B (bA E 21)]]),I S,B N,I U,I V,I X, .vC Aa (wA E 22),jA E 23])) (none)) (cond (decide (0<=O (gA G 0-4))&&decide (O (gA G 0-4)<(↑[[I 2],[I 2],[I 2],[I 3],[I 1],[I 6],[I 5],[I 4]].length:Int))) ((Y [I U,I V,I X,I (Ah (nth .dead (nth [] [[I 2],[I 2],[I 2],[I 3],[I 1],[I 6],[I 5],[I 4]] (O (gA G 0-4)).toNat) 0)), .vC Aa (wA G 1),jA G 2]).bind λD=>
 cond (gA D 0==5) ((T [I 2, .vC Aa (wA D 22),jA D 23]).bind λJ=>
 (T [I 3000, .vC Aa (wA J 1),jA J 2]).bind λL=>
 cond (((v0++[[I 8,I 0,I 0,I 0,I 0,I 0,I 0,I 0,I 0,I 0,I 0,I 0,I 0,B false,I 0,B false,I 0,I 0,I 0,I (O (3+gA J 0)),I (O (200+gA L 0)),B false]]).length*176).ble 140737488355328) (cond (((v0++[[I 8,I 0,I 0,I 0,I 0,I 0,I 0,I 0,I 0,I 0,I 0,I 0,I 0,B false,I 0,B false,I 0,I 0,I 0,I (O (3+gA J 0)),I (O (200+gA L 0)),B false]]++[[jA D 0,jA D 1,jA D 2,jA D 3,jA D 4,jA D 5,jA D 6,jA D 7,jA D 8,jA D 9,jA D 10,jA D 11,jA D 12,B (bA D 13),jA D 14,B (bA D 15),jA D 16,jA D 17,jA D 18,jA D 19,jA D 20,B (bA D 21)]]).length*176).ble 140737488355328) (some (0,[.vC Ac (v0++[[I 8,I 0,I 0,I 0,I 0,I 0,I 0,I 0,I 0,I 0,I 0,I 0,I 0,B false,I 0,B false,I 0,I 0,I 0,I (O (3+gA J 0)),I (O (200+gA L 0)),B false]]++[[jA D 0,jA D 1,jA D 2,jA D 3,jA D 4,jA D 5,jA D 6,jA D 7,jA D 8,jA D 9,jA D 10,jA D 11,jA D 12,B (bA D 13),jA D 14,B (bA D 15),jA D 16,jA D 17,jA D 18,jA D 19,jA D 20,B (bA D 21)]]),I S,B N,jA D 5,jA D 6,jA D 7, .vC Aa (wA L 1),jA L 2])) (none)) (none)) (cond (((v0++[[jA D 0,jA D 1,jA D 2,jA D 3,jA D 4,jA D 5,jA D 6,jA D 7,jA D 8,jA D 9,jA D 10,jA D 11,jA D 12,B (bA D 13),jA D 14,B (bA D 15),jA D 16,jA D 17,jA D 18,jA D 19,jA D 20,B (bA D 21)]]).length*176).ble 140737488355328) (some (0,[.vC Ac (v0++[[jA D 0,jA D 1,jA D 2,jA D 3,jA D 4,jA D 5,jA D 6,jA D 7,jA D 8,jA D 9,jA D 10,jA D 11,jA D 12,B (bA D 13),jA D 14,B (bA D 15),jA D 16,jA D 17,jA D 18,jA D 19,jA D 20,B (bA D 21)]]),I S,B N,jA D 5,jA D 6,jA D 7, .vC Aa (wA D 22),jA D 23])) (none))) (none))) (some (1,[.vC Ac v0,B N]))) (some (1,[.vC Ac v0,B N])):=by kernel_rfl
theorem Zgq (X Y FR M N:Fn) (S:Lp) (T:Rw) (U:Int) (V:Bool):Qjp X Y FR M N S [.vC Aa T,I U,B V]=
 (N [.vC Aa T]).bind λL=>
 (M [I 9, .vC Aa (wA L 0),jA L 1]).bind λE=>
 (M [I 9, .vC Aa (wA E 1),jA E 2]).bind λG=>
 (M [I 9, .vC Aa (wA G 1),jA G 2]).bind λJ=>
 (S [.vC Ac [],I U,B V,I (O (gA E 0-4)),I (O (gA G 0-4)),I (O (gA J 0-4)), .vC Aa (wA J 1),jA J 2]).bind λD=>
 cond (D.1.beq 1) (cond (bA D.2 1) (cond (((wA D.2 0++[[I 14,I 0,I 0,I 0,I 0,I 0,I 0,I 0,I 0,I 0,I 0,I 0,I 0,B false,I 0,B false,I 0,I 0,I 0,I 0,I 0,B false]]).length*176).ble 140737488355328) (some [.vC Ac (wA D.2 0++[[I 14,I 0,I 0,I 0,I 0,I 0,I 0,I 0,I 0,I 0,I 0,I 0,I 0,B false,I 0,B false,I 0,I 0,I 0,I 0,I 0,B false]])]) (none)) (some [.vC Ac (wA D.2 0)])) (none):=by kernel_rfl
def Yb:=An (Qjc I_ JR Ik Cc Dj)
def JY:=Qjp I_ JR Ik Cc Dj Yb
theorem Quc:Aj PG (Qfi I_ JR Ik Cc Dj):=Am rfl ⟨Zdl,Zgh,Zq7,Jl,Q_,trivial⟩
theorem Zkn:Ak PG (Zr1 JY):=rw2 (C:=Q16 I_ JR Ik Cc Dj Yb) (fl fb Quc) Quc
def YV:Sk:=⟨[tf [sa [Kd.sl Aa]]],[],[]⟩
def Ztd:=qa 13 YV WT
def Qsj:Sk:=⟨[td,td,td,td,td,tf [sa [Kd.sl Aa]],tf [ci],tf [ci]]++dd 7,[],[]⟩
def Qm1:List (Ex×Sk):=[(Ex.ret,⟨[td,td,tf [sb]]++dd 12,[],[]⟩),(Ex.exit 0,⟨[td]++dd 14,[],[]⟩)]
def QG:Lp:=A4 PG Qaf 64 2 (A3 PG 13 2) Qsj Qm1
def Qw9 (D:Lp):Cfg:=Qaf.loop 2 Qsj Qm1 D
def S5 (D:Lp):Fn:=Al PG (Qw9 D) 64 13 YV WT
theorem Zmj (v0:Rw) (E D:Int):QG [.vC [Kd.sl Aa] v0,I E,I D]=
 cond (decide (D<E)) (cond (decide (0<=D)&&decide (D<(v0.length:Int))) (cond (decide ((↑(wA (nth [] v0 D.toNat) 0).length:Int)>60)) (some (1,[B false])) (some (0,[.vC [Kd.sl Aa] v0,I E,I (O (D+1))]))) (none)) (some (2,[])):=by kernel_rfl
theorem Zlq (E:Lp) (D:Rw):S5 E [.vC [Kd.sl Aa] D]=
 (E [.vC [Kd.sl Aa] D,I (D.length:Int),I 0]).bind λo1=>
 cond (o1.1.beq 1) (some [B (bA o1.2 0)]) (cond (o1.1.beq 2) (some [B true]) (none)):=by kernel_rfl
def Q0p:=An (QG)
def IM:=S5 Q0p
theorem Q19:Aj PG (Qaf):=Am rfl trivial
theorem Q9h:Ak PG (Ztd IM):=rw2 (C:=Qw9 Q0p) (fl fb Q19) Q19
attribute [go_sem] R8 SX Ox Rl PP PQ Qx XD OQ VY Qcb Qbf Y0 Jj OM NO PO Zg Tp Qhw
end Go.Bm
