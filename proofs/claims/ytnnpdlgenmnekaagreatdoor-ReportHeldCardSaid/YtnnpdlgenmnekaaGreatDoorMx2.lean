/- functions of the program and of the references, as models -/
import Derived.Test.YtnnpdlgenmnekaaGreatDoorMx1
set_option linter.unusedSimpArgs false
set_option linter.unusedVariables false
set_option maxRecDepth 100000
noncomputable section
open Go.IntKind (wrap)
namespace Go.Bm
open Go.Proofs
def Zv1:=qd 209 Qiq YZ
def Qup (D:Fn):Cfg:=cf [ZC D]
def Sq (D:Fn):Fn:=Am PG (Qup D) 64 209 Qiq YZ
theorem Yhb (G:Fn) (L M N D S T U V X:Int):Sq G [I L,I M,I N,I D,I S,I T,I U,I V,I X]=
 (G [I L,I M,I N,I D,I S,I T,I U,I V,I X]).bind λo1=>
 cond (!bA o1 1) (some [I 0,B false]) (cond ((↑(wA o1 0).length:Int)==0) (some [I D,B true]) (cond (decide (0<=O ((↑(wA o1 0).length:Int)-1))&&decide (O ((↑(wA o1 0).length:Int)-1)<(↑(wA o1 0).length:Int))) (some [I (Ah (nth .vD (nth [] (wA o1 0) (O ((↑(wA o1 0).length:Int)-1)).toNat) 0)),B true]) (none))):=by kernel_rfl
def J8:=Sq Gx
theorem Ycl:Ai PG (Qup Gx):=An rfl ⟨Qj4,trivial⟩
theorem Zxk:Ak PG (Zv1 J8):=rw1 (C:=Qup Gx) Ycl
abbrev Z9e (H2:Fn) (T U V:Int) (G:List AC) (X:Int) (a5:List AC) (Y a0 a6:Int) (B_:Fn) (D L:Int) (EO:Fn) (a1 a2 a3 a4:Int):Option (List AC):=
 (H2 [I T,I U,I V,jA G 0,jA G 1,jA G 2,jA G 3,jA G 4,jA G 5]).bind λa7=>
 cond (decide (O (O (O (X+gA a5 0)-Y)-a0)>=0)) (cond (decide (gA a7 0>O (a6*256))) ((B_ [I T,I U,I V,I D,I L]).bind λa8=>
 (EO [I a0,I D,I L,I a1,I a2,I a3,I (O (D+gA a8 0))]).bind λM=>
 some [jA M 0,jA M 1,jA M 2,jA M 3,jA M 4,jA M 5,I 3,I X,I a4,I Y,I 0]) ((B_ [I T,I U,I V,I D,I L]).bind λa9=>
 (EO [I a0,I D,I L,I a1,I a2,I a3,I (O (D+gA a9 0))]).bind λN=>
 some [jA N 0,jA N 1,jA N 2,jA N 3,jA N 4,jA N 5,I 3,I X,I a4,I Y,I 18])) ((B_ [I T,I U,I V,I D,I L]).bind λb0=>
 (EO [I a0,I D,I L,I a1,I a2,I a3,I (O (D+gA b0 0))]).bind λS=>
 some [jA S 0,jA S 1,jA S 2,jA S 3,jA S 4,jA S 5,I 3,I X,I a4,I Y,I 18])
def Zoc:=qd 212 Qfn Zdm
def Qpx (D:Fn):Cfg:=cf [Q5o D]
def Qum (D:Fn):Fn:=Am PG (Qpx D) 64 212 Qfn Zdm
theorem Zpp (D:Fn) (G:Int) (K:Kf) (c:Cv):Qum D (I G::Aj K c)=
 (D (pxt K.p K.x K.t [I K.pa,I K.pb,I K.pc,I c.o0,I c.o1,B c.o2,B c.o3,B c.o4,I c.m0,I c.m1,I c.m2,I c.m3,I c.m4,I c.m5,I G])).bind λo1=>
 some (Aj K {c with m0:=gA o1 0,m1:=gA o1 1,m2:=gA o1 2,m3:=gA o1 3,m4:=gA o1 4,m5:=gA o1 5}):=by kernel_rfl
def Um:=Qum I4
theorem Zvo:Ai PG (Qpx I4):=An rfl ⟨Zja,trivial⟩
theorem Yfn:Ak PG (Zoc Um):=rw1 (C:=Qpx I4) Zvo
def Zf3:Sk:=⟨[tf [sd 20000 0],tf [ci],TS.v true (cc 7)],[(20000,179,cS)],[]⟩
def Yjs:=qd 215 Zf3 Zdm
def Sr:Fn:=λ_=>none
theorem Z0h:Ak PG (Yjs Sr):=F0
def Yb0:=qd 214 Zf3 Zdm
def Tu:Fn:=λ_=>none
theorem Zom:Ak PG (Yb0 Tu):=F0
def Zey:Sk:=⟨[tf [sd 20000 0],TS.v true (cc 7)],[(20000,179,cS)],[]⟩
def Q96:Sk:=⟨[tf [sb]],[(20000,179,cS)],[]⟩
def Zq2:=qd 213 Zey Q96
def TJ:Fn:=λ_=>none
theorem Z5a:Ak PG (Zq2 TJ):=F0
def Qrv:Sk:=⟨[TS.tup [(true,cc 7),(false,[sb])]],[],[]⟩
def Q9t (M:Fn):Nat×Spec:=(155,E2 Qr1 Qrv M)
def Q_ (D G:Fn):Cfg:=cr [Qk1 D,Zfp G] [163] [163]
def Qua (D G:Fn):Fn:=Oc PG (Q_ D G) 64 155 Qr1 Qrv
theorem Zre (D G:Fn) (K:Kf) (c:Cv):Qua D G (Aj K c)=
 (G (Aj K c)).bind λo2=>
 (D (Bj K.p++[jA o2 0])).bind λo3=>
 cond (decide (gA o3 0<0)) (some [I 0,I 0,I 0,I 0,I 0,I 0,I 0,B false]) (cond (decide (0<=gA o3 0)&&decide (gA o3 0<((K.p.aF.map Az).length:Int))) (some (AE Ag (nth [] (K.p.aF.map Az) (gA o3 0).toNat)++[B true])) (none)):=by kernel_rfl
def HY:=Qua EJ GY
theorem Zu3:Ai PG (Q_ EJ GY):=LD (rs:=[163]) rfl ⟨Qar,Zjw,trivial⟩ rfl (Dy rfl (Jw L1))
theorem Ydw (vars : List AC) (R : Type) (K : TV -> Mem -> Option R) : EM PG (Q_ EJ GY) 64 155 [TV.v false [AC.ptr 20000 0]] ⟨[(20000, (⟨179, (cR 0 vars)⟩ : Box))], []⟩ K = EM PG (Q_ EJ GY) 64 155 [TV.v false [AC.ptr 20000 0]] ⟨[(20000, (⟨179, (cR 0 vars)⟩ : Box))], []⟩ (λv _ => K v ⟨[(20000, (⟨179, (cR 0 vars)⟩ : Box))], []⟩) := cy (b := ((GY (cR 0 vars)).bind λo2 =>
 (EJ [jA vars 37,jA vars 38,jA vars 39, .vC Ag (wA vars 40), .vC kPt (wA vars 41),jA o2 0]).bind λo3=>
 cond (decide (gA o3 0<0)) (K (TV.tup [(true,[I 0,I 0,I 0,I 0,I 0,I 0,I 0]),(false,[B false])]) ⟨[(20000,(⟨179,(cR 0 vars)⟩:Box))],[]⟩) (cond (decide (0<=gA o3 0)&&decide (gA o3 0<(↑(wA vars 40).length:Int))) (K (TV.tup [(true,[I (Ah (nth .vD (nth [] (wA vars 40) (gA o3 0).toNat) 0)),I (Ah (nth .vD (nth [] (wA vars 40) (gA o3 0).toNat) 1)),I (Ah (nth .vD (nth [] (wA vars 40) (gA o3 0).toNat) 2)),I (Ah (nth .vD (nth [] (wA vars 40) (gA o3 0).toNat) 3)),I (Ah (nth .vD (nth [] (wA vars 40) (gA o3 0).toNat) 4)),I (Ah (nth .vD (nth [] (wA vars 40) (gA o3 0).toNat) 5)),I (Ah (nth .vD (nth [] (wA vars 40) (gA o3 0).toNat) 6))]),(false,[B true])]) ⟨[(20000,(⟨179,(cR 0 vars)⟩:Box))],[]⟩) (none)))) (by kernel_rfl) (Eq.symm (by kernel_rfl))
theorem Zaq:Ak PG (155,E2 Qr1 Qrv HY):=S1 (C:=Q_ EJ GY) (L:=64) (by kernel_rfl) (FnOK.bare rfl rfl rfl) Zu3 eqOk GI (by kernel_rfl) (by kernel_rfl) (λvars R K=>Ydw vars R K)
def Z6x:=qd 162 Qfn Zdm
def Qlw (D Id G I L M:Fn):Cfg:=cr [Yjs D,Yb0 Id,Q0k G,Zq2 I,Zoc L,Q9t M] [215,214,161,213,212,155] [155]
def Qb1 (D Id G I L M:Fn):Fn:=Am PG (Qlw D Id G I L M) 64 162 Qfn Zdm
abbrev Qhu (c:Cv) (D:List AC) (V:Fn) (K:Kf) (X Id:Fn) (L:Int) (U:Fn):Option (List AC):=
 cond (!c.y0==gA D 4) ((V (jA D 0::jA D 1::jA D 2::jA D 3::jA D 4::jA D 5::jA D 6::Aj K c)).bind λG=>
 cond (!bA G 0) (cond (gA G 66==0) ((X (cR 1 G)).bind λM=>
 some (cR 0 M)) (some (cR 1 G))) (cond (decide (0<=gA D 4)&&decide (gA D 4<(↑(wA G 36).length:Int))) (cond (Ah (nth .vD (nth [] (wA G 36) (gA D 4).toNat) 0)==6) ((Id (I L::jA D 0::jA D 1::jA D 2::jA D 3::jA D 4::jA D 5::jA D 6::cR 1 G)).bind λN=>
 some (cR 0 N)) ((U (I L::jA D 0::jA D 1::jA D 2::jA D 3::jA D 4::jA D 5::jA D 6::cR 1 G)).bind λO=>
 some (cR 0 O))) (none))) (cond (decide (0<=gA D 4)&&decide (gA D 4<((K.aA.map Af).length:Int))) (cond (gA (nth [] (K.aA.map Af) (gA D 4).toNat) 0==6) ((Id (I L::jA D 0::jA D 1::jA D 2::jA D 3::jA D 4::jA D 5::jA D 6::Aj K c)).bind λS=>
 some (cR 0 S)) ((U (I L::jA D 0::jA D 1::jA D 2::jA D 3::jA D 4::jA D 5::jA D 6::Aj K c)).bind λT=>
 some (cR 0 T))) (none))
theorem Zou (L Id M N O U:Fn) (G:Int) (K:Kf) (c:Cv):Qb1 L Id M N O U (I G::Aj K c)=
 (U (Aj K c)).bind λD=>
 cond (gA D 6==0) ((O (I G::Aj K c)).bind λS=>
 some (cR 0 S)) (cond (c.o2) (cond (!c.y0==gA D 4) ((O (I G::Aj K c)).bind λT=>
 some (cR 0 T)) (Qhu c D N K M Id G L)) (Qhu c D N K M Id G L)):=by kernel_rfl
def Qe:=Qb1 Sr Tu Lx TJ Um HY
theorem Ybf:Ai PG (Qlw Sr Tu Lx TJ Um HY):=LD (rs:=[155]) rfl ⟨Z0h,Zom,Zg5,Z5a,Yfn,Zaq,trivial⟩ rfl (Dy rfl (Dy rfl (Dy rfl (Dy rfl (Dy rfl (Jw L1))))))
theorem Zw5:Ak PG (Z6x Qe):=rw1 (C:=Qlw Sr Tu Lx TJ Um HY) Ybf
def Z5q:=qd 147 Y3 Y3
def XJ (D:Fn):Cfg:=cf [RP D]
def Qgx (D:Fn):Fn:=Am PG (XJ D) 64 147 Y3 Y3
theorem Z4f (D:Fn) (G:Int):Qgx D [I G]=
 (D [I G,I 1048576,I 60000,I 2]).bind λo1=>
 some [jA o1 0]:=by kernel_rfl
def RH:=Qgx CU
theorem Zzo:Ai PG (XJ CU):=An rfl ⟨QF,trivial⟩
theorem Yal:Ak PG (Z5q RH):=rw1 (C:=XJ CU) Zzo
def Zh2:Sk:=⟨[TS.v true [ci,ci,ci,ci],tf [ci],tf [ci]],[],[]⟩
def Zks:=qd 200 Zh2 V1
def Si:Fn:=λ_=>none
theorem Yg3:Ak PG (Zks Si):=F0
def Z5f:=qd 199 Zh2 Qka
def Ss:Fn:=λ_=>none
theorem Zul:Ak PG (Z5f Ss):=F0
def Qo8:Sk:=⟨[tf [ci]],[(20000,179,cS)],[]⟩
def Zln:=qd 198 Qr1 Qo8
def Q8k:Fn:=Am PG Qjw 64 198 Qr1 Qo8
theorem Z3c (K:Kf) (c:Cv):Q8k (Aj K c)=
 some (I 3::Aj K {c with next:=O (c.idx+1),on:=false,idx:=0,aN:=false,cnt:=0}):=by kernel_rfl
def UO:=Q8k
theorem Zmt:Ai PG (Qjw):=An rfl trivial
theorem Zrv:Ak PG (Zln UO):=rw1 (C:=Qjw) Zmt
def Qxw:=qd 156 Qr1 Qo8
def Qaa (D G I:Fn):Cfg:=cp [Zks D,Z5f G,Zln I] [198]
def WI (D G I:Fn):Fn:=Am PG (Qaa D G I) 64 156 Qr1 Qo8
theorem Z16 (S T G:Fn) (K:Kf) (c:Cv):WI S T G (Aj K c)=
 cond (c.aN) (cond (decide (O (c.cnt+1)>1)) (cond (c.aJ) ((G (Aj K {c with cnt:=O (c.cnt+1)})).bind λU=>
 some (jA U 0::cR 1 U)) (some (I 2::Aj K {c with cnt:=O (c.cnt+1)}))) (some (I 2::Aj K {c with cnt:=O (c.cnt+1)}))) (cond (decide (0<=c.idx)&&decide (c.idx<((K.p.aD.map Aq).length:Int))) (cond (gA (nth [] (K.p.aD.map Aq) c.idx.toNat) 1 !=3) ((G (Aj K {c with cnt:=O (c.cnt+1)})).bind λo8=>
 some (jA o8 0::cR 1 o8)) (cond (decide (0<=gA (nth [] (K.p.aD.map Aq) c.idx.toNat) 2)&&decide (gA (nth [] (K.p.aD.map Aq) c.idx.toNat) 2<((K.aA.map Af).length:Int))) (cond (gA (nth [] (K.aA.map Af) (gA (nth [] (K.p.aD.map Aq) c.idx.toNat) 2).toNat) 0==7) (cond (decide (O (c.cnt+1)<gA (nth [] (K.aA.map Af) (gA (nth [] (K.p.aD.map Aq) c.idx.toNat) 2).toNat) 19)) (some (I 3::Aj K {c with cnt:=O (c.cnt+1)})) ((G (Aj K {c with cnt:=O (c.cnt+1)})).bind λV=>
 some (jA V 0::cR 1 V))) (cond (gA (nth [] (K.aA.map Af) (gA (nth [] (K.p.aD.map Aq) c.idx.toNat) 2).toNat) 0==8) ((T [I c.s0,I c.s1,I c.s2,I c.s3,jA (nth [] (K.aA.map Af) (gA (nth [] (K.p.aD.map Aq) c.idx.toNat) 2).toNat) 19,jA (nth [] (K.aA.map Af) (gA (nth [] (K.p.aD.map Aq) c.idx.toNat) 2).toNat) 20]).bind λD=>
 (S [jA D 0,jA D 1,jA D 2,jA D 3,jA (nth [] (K.aA.map Af) (gA (nth [] (K.p.aD.map Aq) c.idx.toNat) 2).toNat) 19,jA (nth [] (K.aA.map Af) (gA (nth [] (K.p.aD.map Aq) c.idx.toNat) 2).toNat) 20]).bind λN=>
 cond (!bA N 0) (some (I 3::Aj K {c with s0:=gA D 0,s1:=gA D 1,s2:=gA D 2,s3:=gA D 3,cnt:=O (c.cnt+1)})) ((G (Aj K {c with s0:=gA D 0,s1:=gA D 1,s2:=gA D 2,s3:=gA D 3,cnt:=O (c.cnt+1)})).bind λL=>
 some (jA L 0::cR 1 L))) (cond (gA (nth [] (K.aA.map Af) (gA (nth [] (K.p.aD.map Aq) c.idx.toNat) 2).toNat) 0==14) (some (I 7::Aj K {c with cnt:=O (c.cnt+1),aI:=7})) ((G (Aj K {c with cnt:=O (c.cnt+1)})).bind λM=>
 some (jA M 0::cR 1 M))))) (none))) (none)):=by kernel_rfl
def Ks:=WI Si Ss UO
theorem Zk9:Ai PG (Qaa Si Ss UO):=An rfl ⟨Yg3,Zul,Zrv,trivial⟩
theorem Zhy:Ak PG (Qxw Ks):=rw1 (C:=Qaa Si Ss UO) Zk9
def Zxx:=qd 160 Qfn Qo8
def Qna (D:Fn):Cfg:=cp [Qxw D] [156]
def Qjz (D:Fn):Fn:=Am PG (Qna D) 64 160 Qfn Qo8
theorem Yi3 (G:Fn) (D:Int) (K:Kf) (c:Cv):Qjz G (I D::Aj K c)=
 cond (decide (0<=D)&&decide (D<((K.p.aD.map Aq).length:Int))) (cond (gA (nth [] (K.p.aD.map Aq) D.toNat) 1==1) ((G (Aj K {c with on:=true,idx:=D,aN:=c.o3,cnt:=0})).bind λS=>
 some (jA S 0::cR 1 S)) (cond (gA (nth [] (K.p.aD.map Aq) D.toNat) 1==2) ((G (Aj K {c with on:=true,idx:=D,aN:=c.o3,cnt:=0})).bind λo8=>
 some (jA o8 0::cR 1 o8)) (cond (gA (nth [] (K.p.aD.map Aq) D.toNat) 1==6) ((G (Aj K {c with on:=true,idx:=D,aN:=c.o3,cnt:=0})).bind λT=>
 some (jA T 0::cR 1 T)) (cond (gA (nth [] (K.p.aD.map Aq) D.toNat) 1==4) ((G (Aj K {c with on:=true,idx:=D,aN:=true,cnt:=0})).bind λL=>
 some (jA L 0::cR 1 L)) (cond (gA (nth [] (K.p.aD.map Aq) D.toNat) 1==3) (cond (decide (0<=gA (nth [] (K.p.aD.map Aq) D.toNat) 2)&&decide (gA (nth [] (K.p.aD.map Aq) D.toNat) 2<((K.aA.map Af).length:Int))) (cond (gA (nth [] (K.aA.map Af) (gA (nth [] (K.p.aD.map Aq) D.toNat) 2).toNat) 0==11) ((G (Aj K {c with on:=true,idx:=D,aN:=true,cnt:=0})).bind λM=>
 some (jA M 0::cR 1 M)) ((G (Aj K {c with on:=true,idx:=D,aN:=gA (nth [] (K.aA.map Af) (gA (nth [] (K.p.aD.map Aq) D.toNat) 2).toNat) 0==12,cnt:=0})).bind λN=>
 some (jA N 0::cR 1 N))) (none)) ((G (Aj K {c with on:=true,idx:=D,aN:=false,cnt:=0})).bind λO=>
 some (jA O 0::cR 1 O))))))) (none):=by kernel_rfl
def Sd:=Qjz Ks
theorem Zs4:Ai PG (Qna Ks):=An rfl ⟨Zhy,trivial⟩
theorem Yfj:Ak PG (Zxx Sd):=rw1 (C:=Qna Ks) Zs4
def Qnd:Sk:=⟨[tf [sa kPt],tf [ci],TS.v true [ci,ci,sb,sb,sb],tf [ci],tf [ci]],[],[]⟩
def Yky:=qd 211 Qnd Xn
def Qjl (D:Fn):Cfg:=cf [Q2k D]
def Zab:Sk:=⟨[tf [sa kPt],td,td,tf [ci],tf [ci],td,td,tf [sd 7 0],td,td,td,td,tf [ci]]++dd 32,[(7,163,[ci,ci,sb,sb,sb])],[]⟩
def Q3v:List (Ex×Sk):=[(Ex.ret,⟨dd 10++[tf [ci],tf [ci]]++dd 33,[],[]⟩),(Ex.exit 0,⟨[td,td,td,tf [ci]]++dd 41,[],[]⟩)]
def Sc (D:Fn):Lp:=AG PG (Qjl D) 64 2 (AH PG 211 2) Zab Q3v
def Qys (D:Fn) (G:Lp):Cfg:=(Qjl D).loop 2 Zab Q3v G
def Qif (D:Fn) (G:Lp):Fn:=Am PG (Qys D G) 64 211 Qnd Xn
theorem Zvt (X:Fn) (G:Rw) (L M D N S:Int) (T U V:Bool):Sc X [.vC kPt G,I L,I M,I D,I N,I S,B T,B U,B V]=
 cond (decide (D<(G.length:Int))) (cond (decide (0<=D)&&decide (D<(G.length:Int))) ((X [jA (nth [] G D.toNat) 0,jA (nth [] G D.toNat) 1,jA (nth [] G D.toNat) 2,I N,I S,B T,B U,B V]).bind λo2=>
 cond (bA o2 0) (cond (decide (M<=gA (nth [] G D.toNat) 0)) (cond (decide (gA (nth [] G D.toNat) 0<=L)) (some (1,[jA (nth [] G D.toNat) 0,I D])) (some (0,[.vC kPt G,I L,I M,I (O (D+1)),I N,I S,B T,B U,B V]))) (some (0,[.vC kPt G,I L,I M,I (O (D+1)),I N,I S,B T,B U,B V]))) (some (0,[.vC kPt G,I L,I M,I (O (D+1)),I N,I S,B T,B U,B V]))) (none)) (some (2,[I L])):=by kernel_rfl
theorem Zoh (X:Fn) (D:Lp) (G:Rw) (L M N:Int) (O S T:Bool) (U V:Int):Qif X D [.vC kPt G,I L,I M,I N,B O,B S,B T,I U,I V]=
 (D [.vC kPt G,I U,I V,I (mx L 0),I M,I N,B O,B S,B T]).bind λo3=>
 cond (o3.1.beq 1) (some [jA o3.2 0,jA o3.2 1]) (cond (o3.1.beq 2) (some [jA o3.2 0,I (-1)]) (none)):=by kernel_rfl
def Q5g:=Al (Sc IA)
def QA:=Qif IA Q5g
theorem Zf1:Ai PG (Qjl IA):=An rfl ⟨Q1b,trivial⟩
theorem Yjx:Ak PG (Yky QA):=rw2 (C:=Qys IA Q5g) (fl fb Zf1) Zf1
def Ydc:=qd 210 YF Y3
def Zdr:Sk:=⟨[td,tf [ci]]++dd 11++[tf [sa Ap],tf [ci],tf [ci]]++dd 28,[],[]⟩
def Qwh:List (Ex×Sk):=[(Ex.ret,⟨[td,td,td,td,tf [ci]]++dd 39,[],[]⟩),(Ex.exit 0,⟨[td]++dd 43,[],[]⟩)]
def R3:Lp:=AG PG Qjw 64 4 (AH PG 210 4) Zdr Qwh
def Q1j (D:Lp):Cfg:=Qjw.loop 4 Zdr Qwh D
def Zfu (D:Lp):Fn:=Am PG (Q1j D) 64 210 YF Y3
theorem Qzb (L:Int) (G:Rw) (M D:Int):R3 [I L, .vC Ap G,I M,I D]=
 cond (decide (D<M)) (cond (decide (0<=D)&&decide (D<(G.length:Int))) (cond (gA (nth [] G D.toNat) 3 !=0) (cond (decide (0<=O (O (L-gA (nth [] G D.toNat) 2)*gA (nth [] G D.toNat) 3))) (cond (decide (O (O (L-gA (nth [] G D.toNat) 2)*gA (nth [] G D.toNat) 3)<=gA (nth [] G D.toNat) 1)) (some (1,[I (O (gA (nth [] G D.toNat) 0+O (O (L-gA (nth [] G D.toNat) 2)*gA (nth [] G D.toNat) 3)))])) (some (0,[I L, .vC Ap G,I M,I (O (D+1))]))) (some (0,[I L, .vC Ap G,I M,I (O (D+1))]))) (some (0,[I L, .vC Ap G,I M,I (O (D+1))]))) (none)) (some (2,[])):=by kernel_rfl
theorem Yjj (L:Lp) (D:Rw) (N M O S T G:Int):Zfu L [.vC Ap D,I N,I M,I O,I S,I T,I G]=
 cond (G==M) (some [I 0]) ((L [I G, .vC Ap D,I (D.length:Int),I 0]).bind λo1=>
 cond (o1.1.beq 1) (some [jA o1.2 0]) (cond (o1.1.beq 2) (some [I (-1)]) (none))):=by kernel_rfl
def LE:=Al (R3)
def NK:=Zfu LE
theorem Zho:Ai PG (Qjw):=An rfl trivial
theorem Zu5:Ak PG (Ydc NK):=rw2 (C:=Q1j LE) (fl fb Zho) Zho
def Qrk:Sk:=⟨[TS.tup [(false,[ci]),(false,[ci])]],[(20000,179,cS)],[]⟩
def Z9f:=qd 159 Qr1 Qrk
def Y7 (D G I L:Fn):Cfg:=cf [Yky D,Ydc G,Uj I,Zv1 L]
def Qbh (D G I L:Fn):Fn:=Am PG (Y7 D G I L) 64 159 Qr1 Qrk
abbrev UP (Y:Fn) (K:Kf) (c:Cv) (B4 S X:Fn) (D:AC):Option (List AC):=
 (Y [I K.pa,I K.pb,I K.pc,I c.m0,I c.m1,I c.m2,I c.m3,I c.m4,I c.m5]).bind λL=>
 (B4 (Bt K.t++[I (O ((O (O (gA L 0+256)-1)).tdiv 256))])).bind λG=>
 (S (Bt K.t++[jA G 0])).bind λT=>
 cond (gA T 0 !=O ((O (O (gA L 0+256)-1)).tdiv 256)) ((X [.vC kPt (K.p.aD.map Aq),I c.next,I c.o0,I c.o1,B c.o2,B c.o3,B c.o4,D,I (O (gA G 0+1))]).bind λM=>
 (S (Bt K.t++[jA M 0])).bind λU=>
 some (jA U 0::jA M 1::Aj K c)) ((X [.vC kPt (K.p.aD.map Aq),I c.next,I c.o0,I c.o1,B c.o2,B c.o3,B c.o4,D,jA G 0]).bind λN=>
 (S (Bt K.t++[jA N 0])).bind λV=>
 some (jA V 0::jA N 1::Aj K c))
theorem Yi6 (D G L M:Fn) (K:Kf) (c:Cv):Qbh D G L M (Aj K c)=
 cond (K.closed) (UP M K c L G D (I K.len)) (UP M K c L G D (I K.set)):=by kernel_rfl
def Rn:=Qbh QA NK EP J8
theorem Yaz:Ai PG (Y7 QA NK EP J8):=An rfl ⟨Yjx,Zu5,UQ,Zxk,trivial⟩
theorem Yea:Ak PG (Z9f Rn):=rw1 (C:=Y7 QA NK EP J8) Yaz
def Zwd:=qd 109 Qr1 Qo8
def Qks (D G Oj I:Fn):Cfg:=cp [Z6x D,Q0k G,Zxx Oj,Z9f I] [162,161,160,159]
def YE (D G Oj I:Fn):Fn:=Am PG (Qks D G Oj I) 64 109 Qr1 Qo8
theorem Z8s (G T Oj U:Fn) (K:Kf) (c:Cv):YE G T Oj U (Aj K c)=
 (U (Aj K c)).bind λD=>
 cond (bA D 90) (cond (gA D 52==O (gA D 0*256)) (cond (decide (gA D 1>=0)) ((Oj (jA D 1::cR 2 D)).bind λo8=>
 cond (decide (0<=gA D 1)&&decide (gA D 1<(↑(wA o8 42).length:Int))) (cond (Ah (nth .vD (nth [] (wA o8 42) (gA D 1).toNat) 2)==gA o8 80) (cond (decide (0<=Ah (nth .vD (nth [] (wA o8 42) (gA D 1).toNat) 2))&&decide (Ah (nth .vD (nth [] (wA o8 42) (gA D 1).toNat) 2)<(↑(wA o8 36).length:Int))) (cond (Ah (nth .vD (nth [] (wA o8 36) (Ah (nth .vD (nth [] (wA o8 42) (gA D 1).toNat) 2)).toNat) 0)==5) (cond (gA o8 83==1) ((T (cR 1 o8)).bind λV=>
 some (jA o8 0::cR 0 V)) (some (jA o8 0::cR 1 o8))) (some (jA o8 0::cR 1 o8))) (none)) (some (jA o8 0::cR 1 o8))) (none)) (cond (bA D 38) (some (I 7::EX (cR 2 D) [(78,I 7)])) (some (I 1::cR 2 D)))) (cond (gA D 63 !=0) ((G (jA D 0::cR 2 D)).bind λL=>
 cond (bA D 90) (some (I 6::cR 0 L)) (some (I 1::cR 0 L))) ((G (jA D 0::cR 2 D)).bind λN=>
 some (I 1::cR 0 N)))) (cond (gA D 63 !=0) ((G (jA D 0::cR 2 D)).bind λM=>
 cond (bA D 90) (some (I 6::cR 0 M)) (some (I 1::cR 0 M))) ((G (jA D 0::cR 2 D)).bind λS=>
 some (I 1::cR 0 S))):=by kernel_rfl
def Lf:=YE Qe Lx Sd Rn
theorem Ybx:Ai PG (Qks Qe Lx Sd Rn):=An rfl ⟨Zw5,Zg5,Yfj,Yea,trivial⟩
theorem Zzi:Ak PG (Zwd Lf):=rw1 (C:=Qks Qe Lx Sd Rn) Ybx
def Zbm:=qd 98 Y3 Qm9
def Qdx:Fn:=Am PG Qjw 64 98 Y3 Qm9
theorem Yff (D:Int):Qdx [I D]=
 some [I (O (D*256)),I 0,I 0,I (O (D*256)),I (O (D*256)),I (O (D*256))]:=by kernel_rfl
def Jy:=Qdx
theorem Zux:Ai PG (Qjw):=An rfl trivial
theorem Qwp:Ak PG (Zbm Jy):=rw1 (C:=Qjw) Zux
def Quc:Sk:=⟨[TS.v true (cc 9++[sa Aa]++cc 9++[sa Aa]++cc 9++[sa Aa]),TS.v true [ci,ci,ci],TS.v true [ci,ci,ci]],[],[]⟩
def Zv3:=qd 51 Quc Y3
def Q5s:Fn:=Am PG Qi3 64 51 Quc Y3
theorem Zlp (x0 x1 x2 x3 x4 x5 S x7 x8:Int) (x9:Rw) (V X Y a0 a1 a2 D a3 a4:Int) (a5:Rw) (a6 a7 a8 a9 b0 b1 G b2 b3:Int) (b4:Rw) (T N L U O M:Int):Q5s [I x0,I x1,I x2,I x3,I x4,I x5,I S,I x7,I x8, .vC Aa x9,I V,I X,I Y,I a0,I a1,I a2,I D,I a3,I a4, .vC Aa a5,I a6,I a7,I a8,I a9,I b0,I b1,I G,I b2,I b3, .vC Aa b4,I T,I N,I L,I U,I O,I M]=
 cond (T !=U) (cond (N !=O) (cond (L !=M) (some [I (mx (mx (mx 0 S) D) G)]) (some [I (mx (mx 0 S) D)])) (cond (L !=M) (some [I (mx (mx 0 S) G)]) (some [I (mx 0 S)]))) (cond (N !=O) (cond (L !=M) (some [I (mx (mx 0 D) G)]) (some [I (mx 0 D)])) (cond (L !=M) (some [I (mx 0 G)]) (some [I 0]))):=by kernel_rfl
def Ns:=Q5s
theorem Zka:Ai PG (Qi3):=An rfl trivial
theorem Z0e:Ak PG (Zv3 Ns):=rw1 (C:=Qi3) Zka
def Ykm:=qd 50 Qs5 Quv
def Zhr:Fn:=Am PG Qbn 64 50 Qs5 Quv
abbrev Se (L M:Int) (D:AC) (N S:Int) (G:AC):Option (List AC):=
 cond (decide (L>M)) (some [D,G,I N]) (cond (decide (L<M)) (some [D,G,I (O (0-N))]) (some [D,G,I S]))
abbrev T7 (S T L M G N U:Int) (D:AC):Option (List AC):=
 cond (decide (S>T)) (Se L M D G N (I G)) (cond (decide (S<T)) (Se L M D G N (I (O (0-G)))) (Se L M D G N (I U)))
theorem Zn6 (X G L U M N V S T D:Int):Zhr [I X,I G,I L,I U,I M,I N,I V,I S,I T,I D]=
 cond (decide (V>U)) (T7 S M T N D L G (I D)) (cond (decide (V<U)) (T7 S M T N D L G (I (O (0-D)))) (T7 S M T N D L G (I X))):=by kernel_rfl
def OF:=Zhr
theorem Z5h:Ai PG (Qbn):=An rfl trivial
theorem Yhx:Ak PG (Ykm OF):=rw1 (C:=Qbn) Z5h
def Qpe:Sk:=⟨[TS.v true (cc 10),tf [sd 20000 0]],[(20000,52,[se 20000 10]++cc 5)],[(20000,104,Ap)]⟩
def ZR:Sk:=⟨[TS.tup []],[(20000,52,[se 20000 10]++cc 5)],[(20000,104,Ap)]⟩
def Q9l:=qd 48 Qpe ZR
def VR:Fn:=Am PG Qjw 64 48 Qpe ZR
theorem Zga (D:Rw) (x1 M x3 V x5 x6 x7 X Y L G N S T U:Int):VR [.vC Ap D,I x1,I M,I x3,I V,I x5,I x6,I x7,I X,I Y,I L,I G,I N,I S,I T,I U]=
 cond (decide ((D.length:Int)>0)) (cond (V !=0) (cond (decide (0<=O ((D.length:Int)-1))&&decide (O ((D.length:Int)-1)<(D.length:Int))) (cond (gA (nth [] D (O ((D.length:Int)-1)).toNat) 3==V) (cond (decide (0<=O ((D.length:Int)-1))&&decide (O ((D.length:Int)-1)<(D.length:Int))) (cond (gA (nth [] D (O ((D.length:Int)-1)).toNat) 7==X&&(gA (nth [] D (O ((D.length:Int)-1)).toNat) 8==Y&&(gA (nth [] D (O ((D.length:Int)-1)).toNat) 9==L&&true))) (cond (decide (0<=O ((D.length:Int)-1))&&decide (O ((D.length:Int)-1)<(D.length:Int))) (cond (decide (0<=O ((D.length:Int)-1))&&decide (O ((D.length:Int)-1)<(D.length:Int))) (some [.vC Ap (D.set (O ((D.length:Int)-1)).toNat [jA (nth [] D (O ((D.length:Int)-1)).toNat) 0,I (O (gA (nth [] D (O ((D.length:Int)-1)).toNat) 1+M)),jA (nth [] D (O ((D.length:Int)-1)).toNat) 2,jA (nth [] D (O ((D.length:Int)-1)).toNat) 3,jA (nth [] D (O ((D.length:Int)-1)).toNat) 4,jA (nth [] D (O ((D.length:Int)-1)).toNat) 5,jA (nth [] D (O ((D.length:Int)-1)).toNat) 6,jA (nth [] D (O ((D.length:Int)-1)).toNat) 7,jA (nth [] D (O ((D.length:Int)-1)).toNat) 8,jA (nth [] D (O ((D.length:Int)-1)).toNat) 9]),I (O (G+M)),I N,I S,I T,I U]) (none)) (none)) (cond (((D++[[I G,I M,I x3,I V,I x5,I x6,I x7,I X,I Y,I L]]).length*80).ble 140737488355328) (some [.vC Ap (D++[[I G,I M,I x3,I V,I x5,I x6,I x7,I X,I Y,I L]]),I (O (G+M)),I N,I S,I T,I U]) (none))) (none)) (cond (((D++[[I G,I M,I x3,I V,I x5,I x6,I x7,I X,I Y,I L]]).length*80).ble 140737488355328) (some [.vC Ap (D++[[I G,I M,I x3,I V,I x5,I x6,I x7,I X,I Y,I L]]),I (O (G+M)),I N,I S,I T,I U]) (none))) (none)) (cond (((D++[[I G,I M,I x3,I V,I x5,I x6,I x7,I X,I Y,I L]]).length*80).ble 140737488355328) (some [.vC Ap (D++[[I G,I M,I x3,I V,I x5,I x6,I x7,I X,I Y,I L]]),I (O (G+M)),I N,I S,I T,I U]) (none))) (cond (((D++[[I G,I M,I x3,I V,I x5,I x6,I x7,I X,I Y,I L]]).length*80).ble 140737488355328) (some [.vC Ap (D++[[I G,I M,I x3,I V,I x5,I x6,I x7,I X,I Y,I L]]),I (O (G+M)),I N,I S,I T,I U]) (none)):=by kernel_rfl
def M9:=VR
theorem Zx9:Ai PG (Qjw):=An rfl trivial
theorem Qv2:Ak PG (Q9l M9):=rw1 (C:=Qjw) Zx9
def Qrl:Sk:=⟨[TS.v true [ci,ci,ci],TS.v true [ci,ci,ci],tf [ci],tf [ci],tf [sd 20000 0],tf [sd 20001 0],tf [sd 20002 0],tf [sd 20003 0]],[(20000,41,[ci,ci,ci]),(20001,3,[ci]),(20002,34,cc 9++[sa Aa]++cc 9++[sa Aa]++cc 9++[sa Aa]),(20003,105,[CS.clo 48 [] [(20004,0)]]),(20004,52,[se 20000 10]++cc 5)],[(20000,104,Ap)]⟩
def Ql2:Sk:=⟨[TS.tup []],[(20000,41,[ci,ci,ci]),(20001,3,[ci]),(20002,34,cc 9++[sa Aa]++cc 9++[sa Aa]++cc 9++[sa Aa]),(20003,105,[CS.clo 48 [] [(20004,0)]]),(20004,52,[se 20000 10]++cc 5)],[(20000,104,Ap)]⟩
def Q37:=qd 49 Qrl Ql2
def Qae (D G I:Fn):Cfg:=cp [Zv3 D,Ykm G,Q9l I] [48]
def Qtn (D G I:Fn):Fn:=Am PG (Qae D G I) 64 49 Qrl Ql2
theorem Yba (OW P2 FR:Fn) (x0:Rw) (x1 x2 x3 x4 x5 x6 x7 x8 x9 L M G N O S T U V X Y a0:Int) (a1:Rw) (a2 a3 a4 a5 a6 a7 a8 a9 b0:Int) (b1:Rw) (b2 b3 b4 b5 b6 b7 b8 b9 c0:Int) (c1:Rw) (c2 c3 c4 c5 c6:Int):Qtn OW P2 FR [.vC Ap x0,I x1,I x2,I x3,I x4,I x5,I x6,I x7,I x8,I x9,I L,I M,I G,I N,I O,I S,I T,I U,I V,I X,I Y,I a0, .vC Aa a1,I a2,I a3,I a4,I a5,I a6,I a7,I a8,I a9,I b0, .vC Aa b1,I b2,I b3,I b4,I b5,I b6,I b7,I b8,I b9,I c0, .vC Aa c1,I c2,I c3,I c4,I c5,I c6]=
 (P2 [I x9,I L,I M,I x1,I x2,I x3,I x4,I x5,I x6,I G]).bind λD=>
 (OW [I N,I O,I S,I T,I U,I V,I X,I Y,I a0, .vC Aa a1,I a2,I a3,I a4,I a5,I a6,I a7,I a8,I a9,I b0, .vC Aa b1,I b2,I b3,I b4,I b5,I b6,I b7,I b8,I b9,I c0, .vC Aa c1,I x9,I L,I M,jA D 0,jA D 1,jA D 2]).bind λo6=>
 cond (decide (gA o6 0>0)) ((FR [.vC Ap x0,I 0,jA o6 0,I x7,I 0,I x9,I L,I M,jA D 0,jA D 1,jA D 2,I c2,I c3,I c4,I c5,I c6]).bind λo7=>
 (FR [.vC Ap (wA o7 0),I 0,I x8,I x7,I G,jA D 0,jA D 1,jA D 2,jA D 0,jA D 1,jA D 2,jA o7 1,jA o7 2,jA o7 3,jA o7 4,jA o7 5]).bind λo8=>
 some [.vC Ap (wA o8 0),jA D 0,jA D 1,jA D 2,I G,I N,I O,I S,I T,I U,I V,I X,I Y,I a0, .vC Aa a1,I a2,I a3,I a4,I a5,I a6,I a7,I a8,I a9,I b0, .vC Aa b1,I b2,I b3,I b4,I b5,I b6,I b7,I b8,I b9,I c0, .vC Aa c1,jA o8 1,jA o8 2,jA o8 3,jA o8 4,jA o8 5]) ((FR [.vC Ap x0,I 0,I x8,I x7,I G,jA D 0,jA D 1,jA D 2,jA D 0,jA D 1,jA D 2,I c2,I c3,I c4,I c5,I c6]).bind λo9=>
 some [.vC Ap (wA o9 0),jA D 0,jA D 1,jA D 2,I G,I N,I O,I S,I T,I U,I V,I X,I Y,I a0, .vC Aa a1,I a2,I a3,I a4,I a5,I a6,I a7,I a8,I a9,I b0, .vC Aa b1,I b2,I b3,I b4,I b5,I b6,I b7,I b8,I b9,I c0, .vC Aa c1,jA o9 1,jA o9 2,jA o9 3,jA o9 4,jA o9 5]):=by kernel_rfl
def FW:=Qtn Ns OF M9
theorem Yay:Ai PG (Qae Ns OF M9):=An rfl ⟨Z0e,Yhx,Qv2,trivial⟩
theorem Zbo:Ak PG (Q37 FW):=rw1 (C:=Qae Ns OF M9) Yay
def Qbu:Sk:=⟨[TS.v true [ci,ci,ci,sa Ag,sa kPt],tf [ci],tf [ci],tf [ci],tf [CS.clo 49 [] [(20000,0),(20001,0),(20002,0),(20003,0)]]],[(20000,41,[ci,ci,ci]),(20001,3,[ci]),(20002,34,cc 9++[sa Aa]++cc 9++[sa Aa]++cc 9++[sa Aa]),(20003,105,[CS.clo 48 [] [(20004,0)]]),(20004,52,[se 20000 10]++cc 5)],[(20000,104,Ap)]⟩
def Z9q:=qd 52 Qbu Ql2
def WT (D:Fn):Cfg:={cp [Q37 D] [49]with prom:=λb=>cond (Nat.beq b 4) ([(11,3)]) ([])}
def Q9j:Sk:=⟨[td,tf [ci],tf [ci],tf [ci],tf [CS.clo 49 [] [(20000,0),(20001,0),(20002,0),(20003,0)]],tf [sd 5 0],td,td,td,td,tf [ci],tf [se 11 1]]++dd 9++[tf [sa Ag],tf [ci],tf [ci]]++dd 78,[(5,46,[ci,ci,ci,sa Ag,sa kPt]),(20000,41,[ci,ci,ci]),(20001,3,[ci]),(20002,34,cc 9++[sa Aa]++cc 9++[sa Aa]++cc 9++[sa Aa]),(20003,105,[CS.clo 48 [] [(20004,0)]]),(20004,52,[se 20000 10]++cc 5)],[(11,3,Aa),(20000,104,Ap)]⟩
def Qvm:List (Ex×Sk):=[(Ex.exit 0,⟨[td,tf [ci],tf [ci],tf [ci],tf [CS.clo 49 [] [(20000,0),(20001,0),(20002,0),(20003,0)]],tf [sd 5 0],td,td,td,td,td,tf [se 11 1]]++dd 90,[(5,46,[ci,ci,ci,sa Ag,sa kPt]),(20000,41,[ci,ci,ci]),(20001,3,[ci]),(20002,34,cc 9++[sa Aa]++cc 9++[sa Aa]++cc 9++[sa Aa]),(20003,105,[CS.clo 48 [] [(20004,0)]]),(20004,52,[se 20000 10]++cc 5)],[(11,3,Aa),(20000,104,Ap)]⟩)]
def U0 (D:Fn):Lp:=AG PG (WT D) 64 4 (AH PG 52 4) Q9j Qvm
def Zb2 (D:Fn) (G:Lp):Cfg:=(WT D).loop 4 Q9j Qvm G
def Zcc:Sk:=⟨[td,tf [ci],tf [ci],tf [ci],tf [CS.clo 49 [] [(20000,0),(20001,0),(20002,0),(20003,0)]],tf [sd 5 0],td,td,td,td,td,tf [se 11 1]]++dd 26++[tf [ci],tf [ci]]++dd 62,[(5,46,[ci,ci,ci,sa Ag,sa kPt]),(20000,41,[ci,ci,ci]),(20001,3,[ci]),(20002,34,cc 9++[sa Aa]++cc 9++[sa Aa]++cc 9++[sa Aa]),(20003,105,[CS.clo 48 [] [(20004,0)]]),(20004,52,[se 20000 10]++cc 5)],[(11,3,Aa),(20000,104,Ap)]⟩
def Q6q:List (Ex×Sk):=[(Ex.exit 2,⟨[td]++dd 101,[(20000,41,[ci,ci,ci]),(20001,3,[ci]),(20002,34,cc 9++[sa Aa]++cc 9++[sa Aa]++cc 9++[sa Aa]),(20003,105,[CS.clo 48 [] [(20004,0)]]),(20004,52,[se 20000 10]++cc 5)],[(20000,104,Ap)]⟩)]
def Vk (D:Fn) (G:Lp):Lp:=AG PG (Zb2 D G) 64 10 (AH PG 52 10) Zcc Q6q
def Zd5 (G:Fn) (I D:Lp):Cfg:=(Zb2 G I).loop 10 Zcc Q6q D
def Qf6 (G:Fn) (I D:Lp):Fn:=Am PG (Zd5 G I D) 64 52 Qbu Ql2
theorem Q4l (BK:Fn) (v0 v1:Rw) (v2 v3 v4 v5:Int) (v6:Rw) (v7 v8 v9 v10 v11:Int) (v12 D:Rw) (G L M N S T v20 v21 v22 U v24 v25 V:Int) (v27:Rw) (v28 X v30 v31 Y v33 a0 v35 v36:Int) (v37:Rw) (v38 a1 v40 a2 v42 a3 v44 a4 v46:Int) (a5:Rw) (v48 v49 a6 v51 a7:Int):U0 BK [.vC Aa v0, .vC Ap v1,I v2,I v3,I v4,I v5, .vC Ag v6,I v7,I v8,I v9,I v10,I v11, .vC Ag v12, .vC kPt D,I G,I L,I M,I N,I S,I T,I v20,I v21,I v22,I U,I v24,I v25,I V, .vC Aa v27,I v28,I X,I v30,I v31,I Y,I v33,I a0,I v35,I v36, .vC Aa v37,I v38,I a1,I v40,I a2,I v42,I a3,I v44,I a4,I v46, .vC Aa a5,I v48,I v49,I a6,I v51,I a7]=
 cond (decide (v8<v7)) (cond (decide (0<=v8)&&decide (v8<(v6.length:Int))) (cond (((v0++[[I v5]]).length*8).ble 140737488355328) (some (0,[.vC Aa (v0++[[I v5]]), .vC Ap v1,I v2,I v3,I v4,I (O (v5+gA (nth [] v6 v8.toNat) 3)), .vC Ag v6,I v7,I (O (v8+1)),I v9,I v10,I v11, .vC Ag v12, .vC kPt D,I G,I L,I M,I N,I S,I T,I v20,I v21,I v22,I U,I v24,I v25,I V, .vC Aa v27,I v28,I X,I v30,I v31,I Y,I v33,I a0,I v35,I v36, .vC Aa v37,I v38,I a1,I v40,I a2,I v42,I a3,I v44,I a4,I v46, .vC Aa a5,I v48,I v49,I a6,I v51,I a7])) (none)) (none)) (some (1,[.vC Aa v0, .vC Ap v1,I v2,I v3,I v4,I v9,I v10,I v11, .vC Ag v12, .vC kPt D,I G,I L,I M,I N,I S,I T,I v20,I v21,I v22,I U,I v24,I v25,I V, .vC Aa v27,I v28,I X,I v30,I v31,I Y,I v33,I a0,I v35,I v36, .vC Aa v37,I v38,I a1,I v40,I a2,I v42,I a3,I v44,I a4,I v46, .vC Aa a5,I v48,I v49,I a6,I v51,I a7])):=by kernel_rfl
abbrev RX (M:Bool) (BK:Fn) (v1:Rw) (N S G L:AC) (v12 Y a0 a1 a2 a3 a4 a5 v20 v21 v22 a6 v24:Int) (v25:Rw) (a7 v27 v28 a8 v30 v31 a9 v33 b0:Int) (v35:Rw) (v36 v37 v38 b1 v40 b2 v42 b3 v44:Int) (b4:Rw) (v46 b5 v48 v49 b6:Int) (v0:Rw) (v2 v3 v4 v5 v6 v7 v8 v9:Int) (v10 v11:Rw) (T U V X:AC):Option (Nat×List AC):=
 cond (M) ((BK [.vC Ap v1,T,U,V,N,S,G,X,L,I v12,I Y,I a0,I a1,I a2,I a3,I a4,I a5,I v20,I v21,I v22,I a6,I v24, .vC Aa v25,I a7,I v27,I v28,I a8,I v30,I v31,I a9,I v33,I b0, .vC Aa v35,I v36,I v37,I v38,I b1,I v40,I b2,I v42,I b3,I v44, .vC Aa b4,I v46,I b5,I v48,I v49,I b6]).bind λD=>
 some (0,[.vC Aa v0, .vC Ap (wA D 0),I v2,I v3,I v4,I v5,I (O (v6+1)),I v7,I v8,I v9, .vC Ag v10, .vC kPt v11,jA D 1,jA D 2,jA D 3,jA D 4,jA D 5,jA D 6,jA D 7,jA D 8,jA D 9,jA D 10,jA D 11,jA D 12,jA D 13, .vC Aa (wA D 14),jA D 15,jA D 16,jA D 17,jA D 18,jA D 19,jA D 20,jA D 21,jA D 22,jA D 23, .vC Aa (wA D 24),jA D 25,jA D 26,jA D 27,jA D 28,jA D 29,jA D 30,jA D 31,jA D 32,jA D 33, .vC Aa (wA D 34),jA D 35,jA D 36,jA D 37,jA D 38,jA D 39])) (none)
abbrev Qdc (v0 v1:Rw) (v2 v3 v4 v5 v6 v7 v8 v9:Int) (v10 v11:Rw) (v12 S T U V X Y a0 v20 v21 v22 a1 v24:Int) (v25:Rw) (a2 v27 v28 a3 v30 v31 a4 v33 a5:Int) (v35:Rw) (v36 v37 v38 a6 v40 a7 v42 a8 v44:Int) (a9:Rw) (v46 b0 v48 v49 b1:Int) (BK:Fn) (b4 L b8 b9 c0:Bool) (b5 b6 b7 M N D b2 G b3:AC):Option (Nat×List AC):=
 cond (b4) (cond (b4) (cond (L) (cond (b8) (some (0,[.vC Aa v0, .vC Ap v1,I v2,I v3,I v4,I v5,I (O (v6+1)),I v7,I v8,I v9, .vC Ag v10, .vC kPt v11,I v12,I S,I T,I U,I V,I X,I Y,I a0,I v20,I v21,I v22,I a1,I v24, .vC Aa v25,I a2,I v27,I v28,I a3,I v30,I v31,I a4,I v33,I a5, .vC Aa v35,I v36,I v37,I v38,I a6,I v40,I a7,I v42,I a8,I v44, .vC Aa a9,I v46,I b0,I v48,I v49,I b1])) (cond (b9) (cond (c0) (cond (decide (v4<0)) (RX L BK v1 M N D G v12 S T U V X Y a0 v20 v21 v22 a1 v24 v25 a2 v27 v28 a3 v30 v31 a4 v33 a5 v35 v36 v37 v38 a6 v40 a7 v42 a8 v44 a9 v46 b0 v48 v49 b1 v0 v2 v3 v4 v5 v6 v7 v8 v9 v10 v11 b5 b6 b7 b2) (RX L BK v1 M N D G v12 S T U V X Y a0 v20 v21 v22 a1 v24 v25 a2 v27 v28 a3 v30 v31 a4 v33 a5 v35 v36 v37 v38 a6 v40 a7 v42 a8 v44 a9 v46 b0 v48 v49 b1 v0 v2 v3 v4 v5 v6 v7 v8 v9 v10 v11 b5 b6 b7 b3)) (none)) (cond (decide (v4<0)) (RX L BK v1 M N D G v12 S T U V X Y a0 v20 v21 v22 a1 v24 v25 a2 v27 v28 a3 v30 v31 a4 v33 a5 v35 v36 v37 v38 a6 v40 a7 v42 a8 v44 a9 v46 b0 v48 v49 b1 v0 v2 v3 v4 v5 v6 v7 v8 v9 v10 v11 (I v7) (I v8) (I v9) b2) (RX L BK v1 M N D G v12 S T U V X Y a0 v20 v21 v22 a1 v24 v25 a2 v27 v28 a3 v30 v31 a4 v33 a5 v35 v36 v37 v38 a6 v40 a7 v42 a8 v44 a9 v46 b0 v48 v49 b1 v0 v2 v3 v4 v5 v6 v7 v8 v9 v10 v11 (I v7) (I v8) (I v9) b3)))) (none)) (none)) (none)
theorem Zei (BK:Fn) (N4:Lp) (G v1:Rw) (L M v4 v5 D v7 v8 v9:Int) (v10 v11:Rw) (v12 N S T U V X Y v20 v21 v22 a0 v24:Int) (v25:Rw) (a1 v27 v28 a2 v30 v31 a3 v33 a4:Int) (v35:Rw) (v36 v37 v38 a5 v40 a6 v42 a7 v44:Int) (a8:Rw) (v46 a9 v48 v49 b0:Int):Vk BK N4 [.vC Aa G, .vC Ap v1,I L,I M,I v4,I v5,I D,I v7,I v8,I v9, .vC Ag v10, .vC kPt v11,I v12,I N,I S,I T,I U,I V,I X,I Y,I v20,I v21,I v22,I a0,I v24, .vC Aa v25,I a1,I v27,I v28,I a2,I v30,I v31,I a3,I v33,I a4, .vC Aa v35,I v36,I v37,I v38,I a5,I v40,I a6,I v42,I a7,I v44, .vC Aa a8,I v46,I a9,I v48,I v49,I b0]=
 cond (decide (D<v5)) (cond (decide (v4<0)) (Qdc G v1 L M v4 v5 D v7 v8 v9 v10 v11 v12 N S T U V X Y v20 v21 v22 a0 v24 v25 a1 v27 v28 a2 v30 v31 a3 v33 a4 v35 v36 v37 v38 a5 v40 a6 v42 a7 v44 a8 v46 a9 v48 v49 b0 BK (decide (0<=O (O ((v10.length:Int)-1)-D))&&decide (O (O ((v10.length:Int)-1)-D)<(G.length:Int))) (decide (0<=O (O ((v10.length:Int)-1)-D))&&decide (O (O ((v10.length:Int)-1)-D)<(v10.length:Int))) (decide (mx (Ah (nth .vD (nth [] G (O (O ((v10.length:Int)-1)-D)).toNat) 0)) L>=mn (O (Ah (nth .vD (nth [] G (O (O ((v10.length:Int)-1)-D)).toNat) 0)+Ah (nth .vD (nth [] v10 (O (O ((v10.length:Int)-1)-D)).toNat) 3))) M)) (decide (O (O ((v10.length:Int)-1)-D)>0)) (decide (0<=O (O (O ((v10.length:Int)-1)-D)-1))&&decide (O (O (O ((v10.length:Int)-1)-D)-1)<(v10.length:Int))) (I (Ah (nth .vD (nth [] v10 (O (O (O ((v10.length:Int)-1)-D)-1)).toNat) 0))) (I (Ah (nth .vD (nth [] v10 (O (O (O ((v10.length:Int)-1)-D)-1)).toNat) 1))) (I (Ah (nth .vD (nth [] v10 (O (O (O ((v10.length:Int)-1)-D)-1)).toNat) 2))) (I (Ah (nth .vD (nth [] v10 (O (O ((v10.length:Int)-1)-D)).toNat) 0))) (I (Ah (nth .vD (nth [] v10 (O (O ((v10.length:Int)-1)-D)).toNat) 1))) (I (Ah (nth .vD (nth [] v10 (O (O ((v10.length:Int)-1)-D)).toNat) 2))) (I (mn (O (Ah (nth .vD (nth [] G (O (O ((v10.length:Int)-1)-D)).toNat) 0)+Ah (nth .vD (nth [] v10 (O (O ((v10.length:Int)-1)-D)).toNat) 3))) M)) (I (O (mn (O (Ah (nth .vD (nth [] G (O (O ((v10.length:Int)-1)-D)).toNat) 0)+Ah (nth .vD (nth [] v10 (O (O ((v10.length:Int)-1)-D)).toNat) 3))) M-mx (Ah (nth .vD (nth [] G (O (O ((v10.length:Int)-1)-D)).toNat) 0)) L))) (I (mx (Ah (nth .vD (nth [] G (O (O ((v10.length:Int)-1)-D)).toNat) 0)) L))) (Qdc G v1 L M v4 v5 D v7 v8 v9 v10 v11 v12 N S T U V X Y v20 v21 v22 a0 v24 v25 a1 v27 v28 a2 v30 v31 a3 v33 a4 v35 v36 v37 v38 a5 v40 a6 v42 a7 v44 a8 v46 a9 v48 v49 b0 BK (decide (0<=D)&&decide (D<(G.length:Int))) (decide (0<=D)&&decide (D<(v10.length:Int))) (decide (mx (gA (nth [] G D.toNat) 0) L>=mn (O (gA (nth [] G D.toNat) 0+gA (nth [] v10 D.toNat) 3)) M)) (decide (D>0)) (decide (0<=O (D-1))&&decide (O (D-1)<(v10.length:Int))) (jA (nth [] v10 (O (D-1)).toNat) 0) (jA (nth [] v10 (O (D-1)).toNat) 1) (jA (nth [] v10 (O (D-1)).toNat) 2) (jA (nth [] v10 D.toNat) 0) (jA (nth [] v10 D.toNat) 1) (jA (nth [] v10 D.toNat) 2) (I (mn (O (gA (nth [] G D.toNat) 0+gA (nth [] v10 D.toNat) 3)) M)) (I (O (mn (O (gA (nth [] G D.toNat) 0+gA (nth [] v10 D.toNat) 3)) M-mx (gA (nth [] G D.toNat) 0) L))) (I (mx (gA (nth [] G D.toNat) 0) L)))) (some (1,[.vC Ap v1,I v12,I N,I S,I T,I U,I V,I X,I Y,I v20,I v21,I v22,I a0,I v24, .vC Aa v25,I a1,I v27,I v28,I a2,I v30,I v31,I a3,I v33,I a4, .vC Aa v35,I v36,I v37,I v38,I a5,I v40,I a6,I v42,I a7,I v44, .vC Aa a8,I v46,I a9,I v48,I v49,I b0])):=by kernel_rfl
theorem Zzp (BK:Fn) (N4 L:Lp) (x0:Rw) (x1 x2 x3:Int) (x4 x5:Rw) (x6 x7 x8 x9 M N O S T U V X Y a0 a1 a2:Int) (a3:Rw) (a4 a5 a6 a7 a8 a9 b0 b1 b2:Int) (b3:Rw) (b4 b5 b6 b7 b8 b9 c0 c1 c2:Int) (c3:Rw) (c4 c5 c6 c7 c8:Int):Qf6 BK N4 L [.vC Ap x0,I x1,I x2,I x3, .vC Ag x4, .vC kPt x5,I x6,I x7,I x8,I x9,I M,I N,I O,I S,I T,I U,I V,I X,I Y,I a0,I a1,I a2, .vC Aa a3,I a4,I a5,I a6,I a7,I a8,I a9,I b0,I b1,I b2, .vC Aa b3,I b4,I b5,I b6,I b7,I b8,I b9,I c0,I c1,I c2, .vC Aa c3,I c4,I c5,I c6,I c7,I c8]=
 (N4 [.vC Aa [], .vC Ap x0,I x6,I x7,I x8,I 0, .vC Ag x4,I (x4.length:Int),I 0,I x1,I x2,I x3, .vC Ag x4, .vC kPt x5,I x9,I M,I N,I O,I S,I T,I U,I V,I X,I Y,I a0,I a1,I a2, .vC Aa a3,I a4,I a5,I a6,I a7,I a8,I a9,I b0,I b1,I b2, .vC Aa b3,I b4,I b5,I b6,I b7,I b8,I b9,I c0,I c1,I c2, .vC Aa c3,I c4,I c5,I c6,I c7,I c8]).bind λD=>
 cond (D.1.beq 1) ((L [.vC Aa (wA D.2 0), .vC Ap (wA D.2 1),jA D.2 2,jA D.2 3,jA D.2 4,I (↑(wA D.2 8).length:Int),I 0,jA D.2 5,jA D.2 6,jA D.2 7, .vC Ag (wA D.2 8), .vC kPt (wA D.2 9),jA D.2 10,jA D.2 11,jA D.2 12,jA D.2 13,jA D.2 14,jA D.2 15,jA D.2 16,jA D.2 17,jA D.2 18,jA D.2 19,jA D.2 20,jA D.2 21,jA D.2 22, .vC Aa (wA D.2 23),jA D.2 24,jA D.2 25,jA D.2 26,jA D.2 27,jA D.2 28,jA D.2 29,jA D.2 30,jA D.2 31,jA D.2 32, .vC Aa (wA D.2 33),jA D.2 34,jA D.2 35,jA D.2 36,jA D.2 37,jA D.2 38,jA D.2 39,jA D.2 40,jA D.2 41,jA D.2 42, .vC Aa (wA D.2 43),jA D.2 44,jA D.2 45,jA D.2 46,jA D.2 47,jA D.2 48]).bind λG=>
 cond (G.1.beq 1) (some [.vC Ap (wA G.2 0),jA G.2 1,jA G.2 2,jA G.2 3,jA G.2 4,jA G.2 5,jA G.2 6,jA G.2 7,jA G.2 8,jA G.2 9,jA G.2 10,jA G.2 11,jA G.2 12,jA G.2 13, .vC Aa (wA G.2 14),jA G.2 15,jA G.2 16,jA G.2 17,jA G.2 18,jA G.2 19,jA G.2 20,jA G.2 21,jA G.2 22,jA G.2 23, .vC Aa (wA G.2 24),jA G.2 25,jA G.2 26,jA G.2 27,jA G.2 28,jA G.2 29,jA G.2 30,jA G.2 31,jA G.2 32,jA G.2 33, .vC Aa (wA G.2 34),jA G.2 35,jA G.2 36,jA G.2 37,jA G.2 38,jA G.2 39]) (none)) (none):=by kernel_rfl
def OZ:=Al (U0 FW)
def Qja:=Al (Vk FW OZ)
def Qn:=Qf6 FW OZ Qja
theorem Qrr:Ai PG (WT FW):=An rfl ⟨Zbo,trivial⟩
theorem Z0u:Ak PG (Z9q Qn):=rw2 (C:=Zd5 FW OZ Qja) (fl (fl fb Qrr) Qrr) Qrr
def Zy:Sk:=⟨[TS.v true [ci,ci,ci,sa Ag,sa kPt]],[],[]⟩
def Zez:=qd 17 Zy Y3
def Q3f:Sk:=⟨[td,td,td,tf [ci],td,td,td,tf [sa Ag],tf [ci],tf [ci]]++dd 9,[],[]⟩
def Q7j:List (Ex×Sk):=[(Ex.exit 0,⟨[td,td,td,tf [ci]]++dd 15,[],[]⟩)]
def Sv:Lp:=AG PG Qjw 64 3 (AH PG 17 3) Q3f Q7j
def Zh0 (D:Lp):Cfg:=Qjw.loop 3 Q3f Q7j D
def Q54 (D:Lp):Fn:=Am PG (Zh0 D) 64 17 Zy Y3
theorem Q7x (L:Int) (G:Rw) (M D:Int):Sv [I L, .vC Ag G,I M,I D]=
 cond (decide (D<M)) (cond (decide (0<=D)&&decide (D<(G.length:Int))) (some (0,[I (O (L+gA (nth [] G D.toNat) 3)), .vC Ag G,I M,I (O (D+1))])) (none)) (some (1,[I L])):=by kernel_rfl
theorem Zwi (G:Lp) (L M N:Int) (D O:Rw):Q54 G [I L,I M,I N, .vC Ag D, .vC kPt O]=
 (G [I 0, .vC Ag D,I (D.length:Int),I 0]).bind λo1=>
 cond (o1.1.beq 1) (some [jA o1.2 0]) (none):=by kernel_rfl
def SJ:=Al (Sv)
def JH:=Q54 SJ
theorem Zeh:Ai PG (Qjw):=An rfl trivial
theorem Zcb:Ak PG (Zez JH):=rw2 (C:=Zh0 SJ) (fl fb Zeh) Zeh
def Quh:Sk:=⟨[TS.v true [ci,ci,ci,sa Ag,sa kPt],TS.v true (cc 9++[sa Aa]++cc 9++[sa Aa]++cc 9++[sa Aa]),TS.v true [ci,ci,ci],tf [ci],tf [ci]],[],[]⟩
def Yk:Sk:=⟨[TS.v true ([sa Ap]++cc 5)],[],[]⟩
def Zph:=qd 16 Quh Yk
def Qkt (D G I L M:Fn):Cfg:=cp [Z9q D,Q37 G,Q9l I,Qrx L,Zez M] [52,49,48]
def Qjq (D G I L M:Fn):Fn:=Am PG (Qkt D G I L M) 64 16 Quh Yk
theorem Zpb (LA BK FR DB GA:Fn) (x0 x1 x2:Int) (x3 x4:Rw) (x5 x6 x7 x8 x9 M N O S:Int) (T:Rw) (U V X Y a0 a1 a2 a3 a4:Int) (a5:Rw) (a6 a7 a8 a9 b0 b1 b2 b3 b4:Int) (b5:Rw) (D G L b6 b7:Int):Qjq LA BK FR DB GA [I x0,I x1,I x2, .vC Ag x3, .vC kPt x4,I x5,I x6,I x7,I x8,I x9,I M,I N,I O,I S, .vC Aa T,I U,I V,I X,I Y,I a0,I a1,I a2,I a3,I a4, .vC Aa a5,I a6,I a7,I a8,I a9,I b0,I b1,I b2,I b3,I b4, .vC Aa b5,I D,I G,I L,I b6,I b7]=
 (GA [I x0,I x1,I x2, .vC Ag x3, .vC kPt x4]).bind λo5=>
 (DB [I b6,jA o5 0]).bind λo6=>
 (DB [I b7,jA o5 0]).bind λo7=>
 cond (decide (gA o6 0>gA o7 0)) ((LA [.vC Ap [],I x0,I x1,I x2, .vC Ag x3, .vC kPt x4,I (mn (gA o6 0) (gA o7 0)),I (mx (gA o6 0) (gA o7 0)),I (-1),I D,I G,I L,I (-1),I x5,I x6,I x7,I x8,I x9,I M,I N,I O,I S, .vC Aa T,I U,I V,I X,I Y,I a0,I a1,I a2,I a3,I a4, .vC Aa a5,I a6,I a7,I a8,I a9,I b0,I b1,I b2,I b3,I b4, .vC Aa b5,I 0,jA o6 0,I D,I G,I L]).bind λo8=>
 some [.vC Ap (wA o8 0),jA o8 35,jA o8 36,jA o8 37,jA o8 38,jA o8 39]) ((LA [.vC Ap [],I x0,I x1,I x2, .vC Ag x3, .vC kPt x4,I (mn (gA o6 0) (gA o7 0)),I (mx (gA o6 0) (gA o7 0)),I 1,I D,I G,I L,I 1,I x5,I x6,I x7,I x8,I x9,I M,I N,I O,I S, .vC Aa T,I U,I V,I X,I Y,I a0,I a1,I a2,I a3,I a4, .vC Aa a5,I a6,I a7,I a8,I a9,I b0,I b1,I b2,I b3,I b4, .vC Aa b5,I 0,jA o6 0,I D,I G,I L]).bind λo9=>
 some [.vC Ap (wA o9 0),jA o9 35,jA o9 36,jA o9 37,jA o9 38,jA o9 39]):=by kernel_rfl
def Qa:=Qjq Qn FW M9 Hu JH
theorem Zrc:Ai PG (Qkt Qn FW M9 Hu JH):=An rfl ⟨Z0u,Zbo,Qv2,Qbb,Zcb,trivial⟩
theorem Zlg:Ak PG (Zph Qa):=rw1 (C:=Qkt Qn FW M9 Hu JH) Zrc
def Z3o:=qd 103 Qm9 V1
def Qef:Fn:=Am PG Qjw 64 103 Qm9 V1
theorem Z9v (D G L M N O:Int):Qef [I D,I G,I L,I M,I N,I O]=
 cond (G==0) (cond (L==0) (cond (M==D) (some [B (N==D)]) (some [B false])) (some [B false])) (some [B false]):=by kernel_rfl
def Lu:=Qef
theorem Ztx:Ai PG (Qjw):=An rfl trivial
theorem Zwp:Ak PG (Z3o Lu):=rw1 (C:=Qjw) Ztx
def Q1r:Sk:=⟨[TS.v true [ci,ci,ci,sa Ag,sa kPt],TS.v true (cc 9++[sa Aa]++cc 9++[sa Aa]++cc 9++[sa Aa]),TS.v true ([sa Ap]++cc 5),TS.v true (cc 6),tf [ci]],[],[]⟩
def Q49:Sk:=⟨[TS.tup [(true,[sa Ap]++cc 5),(true,cc 6),(false,[sb])]],[],[]⟩
def Zvb:=qd 158 Q1r Q49
def Tp:Fn:=λ_=>none
theorem Z07:Ak PG (Zvb Tp):=F0
def YB:Sk:=⟨[TS.tup [(false,[ci]),(false,[sb])]],[(20000,179,cS)],[]⟩
def Zx2:=qd 108 Qr1 YB
def W3 (D G:Fn):Cfg:=cf [Zvb D,Q5o G]
def YY (D G:Fn):Fn:=Am PG (W3 D G) 64 108 Qr1 YB
abbrev Zu (M:Fn) (K:Kf) (c:Cv) (G L:AC):Option (List AC):=
 (M (pxt K.p K.x K.t [I c.m0,I c.m1,I c.m2,I c.m3,I c.m4,I c.m5,L])).bind λD=>
 cond (!bA D 12) (some (G::B true::Aj K c)) (cond (c.way==1) (some (G::B true::EX (Aj K c) [(44, .vC Ap (wA D 0)),(45,jA D 1),(46,jA D 2),(47,jA D 3),(48,jA D 4),(49,jA D 5),(50,jA D 6),(51,jA D 7),(52,jA D 8),(53,jA D 9),(54,jA D 10),(55,jA D 11),(71,I 2),(89,B true)])) (some (G::B true::EX (Aj K c) [(44, .vC Ap (wA D 0)),(45,jA D 1),(46,jA D 2),(47,jA D 3),(48,jA D 4),(49,jA D 5),(50,jA D 6),(51,jA D 7),(52,jA D 8),(53,jA D 9),(54,jA D 10),(55,jA D 11),(58,B true),(71,I 0),(89,B true)])))
abbrev Qii (c:Cv) (L:Fn) (K:Kf) (M:Fn) (D:AC):Option (List AC):=
 cond (!c.aM) ((L (pxt K.p K.x K.t [I K.pa,I K.pb,I K.pc,I c.o0,I c.o1,B c.o2,B c.o3,B c.o4,I c.m0,I c.m1,I c.m2,I c.m3,I c.m4,I c.m5,I K.t.length])).bind λo8=>
 some (D::B true::Aj K {c with m0:=gA o8 0,m1:=gA o8 1,m2:=gA o8 2,m3:=gA o8 3,m4:=gA o8 4,m5:=gA o8 5})) (cond (c.m0 !=O (K.t.length*256)) ((L (pxt K.p K.x K.t [I K.pa,I K.pb,I K.pc,I c.o0,I c.o1,B c.o2,B c.o3,B c.o4,I c.m0,I c.m1,I c.m2,I c.m3,I c.m4,I c.m5,I K.t.length])).bind λG=>
 some (D::B true::Aj K {c with m0:=gA G 0,m1:=gA G 1,m2:=gA G 2,m3:=gA G 3,m4:=gA G 4,m5:=gA G 5})) (cond (c.way==2) (Zu M K c D (I K.len)) (Zu M K c D (I c.home))))
theorem Zw7 (D G:Fn) (K:Kf) (c:Cv):YY D G (Aj K c)=
 cond (c.way==0) (some (I 0::B false::Aj K c)) (cond (c.way==2) (Qii c G K D (I 5)) (Qii c G K D (I 4))):=by kernel_rfl
def Lb:=YY Tp I4
theorem Zmh:Ai PG (W3 Tp I4):=An rfl ⟨Z07,Zja,trivial⟩
theorem Ya3:Ak PG (Zx2 Lb):=rw1 (C:=W3 Tp I4) Zmh
def Z5i:=qd 107 Qr1 YB
def Qlb (D:Fn):Cfg:=cp [Qxw D] [156]
def Qr4 (D:Fn):Fn:=Am PG (Qlb D) 64 107 Qr1 YB
theorem Z0o (D:Fn) (K:Kf) (c:Cv):Qr4 D (Aj K c)=
 cond (!c.on) (some (I 0::B false::Aj K c)) ((D (Aj K c)).bind λo1=>
 some (jA o1 0::B true::cR 1 o1)):=by kernel_rfl
def LQ:=Qr4 Ks
theorem Ycu:Ai PG (Qlb Ks):=An rfl ⟨Zhy,trivial⟩
theorem Yce:Ak PG (Z5i LQ):=rw1 (C:=Qlb Ks) Ycu
def Z50:=qd 106 Qr1 YB
def Qmg:Fn:=Am PG Qjw 64 106 Qr1 YB
theorem Ztb (K:Kf) (c:Cv):Qmg (Aj K c)=
 cond (!c.aH) (some (I 0::B false::Aj K c)) (cond (!c.aM) (some (I 0::B false::Aj K c)) (some (I 8::B true::Aj K {c with aI:=8}))):=by kernel_rfl
def LO:=Qmg
theorem Z0j:Ai PG (Qjw):=An rfl trivial
theorem Zm3:Ak PG (Z50 LO):=rw1 (C:=Qjw) Z0j
def Zx4:=qd 105 Qr1 YB
def V_:Fn:=Am PG Qjw 64 105 Qr1 YB
theorem Zlq (K:Kf) (c:Cv):V_ (Aj K c)=
 some (I c.aI::B (c.aI !=0)::Aj K c):=by kernel_rfl
def J_:=V_
theorem Ybw:Ai PG (Qjw):=An rfl trivial
theorem Z0z:Ak PG (Zx4 J_):=rw1 (C:=Qjw) Ybw
def Zyg:=qd 104 Qr1 YB
def Qnj (D Bc:Fn):Cfg:=cr [Zbm D,S3 Bc] [102] [102]
def Qm4 (D Bc:Fn):Fn:=Am PG (Qnj D Bc) 64 104 Qr1 YB
theorem Zzz (D Bc:Fn) (K:Kf) (c:Cv):Qm4 D Bc (Aj K c)=
 cond (c.g0 !=2) (some (I 0::B false::Aj K c)) ((Bc (Aj K c)).bind λo2=>
 (D [jA o2 0]).bind λo3=>
 some (I 6::B true::Aj K {c with m0:=gA o3 0,m1:=gA o3 1,m2:=gA o3 2,m3:=gA o3 3,m4:=gA o3 4,m5:=gA o3 5})):=by kernel_rfl
def Lv:=Qm4 Jy DK
theorem Z58:Ai PG (Qnj Jy DK):=LD (rs:=[102]) rfl ⟨Qwp,S6,trivial⟩ rfl (Dy rfl (Jw L1))
theorem Zv2:Ak PG (Zyg Lv):=rw1 (C:=Qnj Jy DK) Z58
def Qs2:Sk:=⟨[TS.v true [ci,ci,ci,ci],tf [ci]],[],[]⟩
def Yi8:=qd 101 Qs2 Qka
def YG:Fn:=Am PG Qjw 64 101 Qs2 Qka
theorem Z1f (L G D N M:Int):YG [I L,I G,I D,I N,I M]=
 cond (decide (G<D)) (some [I L,I (mn (O (G+M)) D),I D,I (O (N+O (L*mn (O (G+M)) D)))]) (some [I L,I (mx (O (G-M)) D),I D,I (O (N+O (L*mx (O (G-M)) D)))]):=by kernel_rfl
def Ll:=YG
theorem Yih:Ai PG (Qjw):=An rfl trivial
theorem Zl6:Ak PG (Yi8 Ll):=rw1 (C:=Qjw) Yih
def Z44 (M:Fn):Nat×Spec:=(100,E2 Qr1 V1 M)
def Qc (D:Fn):Cfg:=cr [Q9t D] [155] [155]
def VI (D:Fn):Fn:=Oc PG (Qc D) 64 100 Qr1 V1
theorem Zke (D:Fn) (K:Kf) (c:Cv):VI D (Aj K c)=
 (D (Aj K c)).bind λo1=>
 cond (bA o1 7) (cond (decide (0<=gA o1 4)&&decide (gA o1 4<((K.aA.map Af).length:Int))) (cond (gA (nth [] (K.aA.map Af) (gA o1 4).toNat) 0==6) (some [B (c.y0==gA o1 4)]) (some [B false])) (none)) (some [B false]):=by kernel_rfl
def Mp:=VI HY
theorem Zy1:Ai PG (Qc HY):=LD (rs:=[155]) rfl ⟨Zaq,trivial⟩ rfl (Jw L1)
theorem Zt2 (vars : List AC) (R : Type) (K : TV -> Mem -> Option R) : EM PG (Qc HY) 64 100 [TV.v false [AC.ptr 20000 0]] ⟨[(20000, (⟨179, (cR 0 vars)⟩ : Box))], []⟩ K = EM PG (Qc HY) 64 100 [TV.v false [AC.ptr 20000 0]] ⟨[(20000, (⟨179, (cR 0 vars)⟩ : Box))], []⟩ (λv _ => K v ⟨[(20000, (⟨179, (cR 0 vars)⟩ : Box))], []⟩) := cy (b := ((HY (cR 0 vars)).bind λo1 =>
 cond (bA o1 7) (cond (decide (0<=gA o1 4)&&decide (gA o1 4<(↑(wA vars 35).length:Int))) (cond (Ah (nth .vD (nth [] (wA vars 35) (gA o1 4).toNat) 0)==6) (K (TV.v false [B ((gA vars 79)==gA o1 4)]) ⟨[(20000,(⟨179,(cR 0 vars)⟩:Box))],[]⟩) (K (TV.v false [B false]) ⟨[(20000,(⟨179,(cR 0 vars)⟩:Box))],[]⟩)) (none)) (K (TV.v false [B false]) ⟨[(20000,(⟨179,(cR 0 vars)⟩:Box))],[]⟩))) (by kernel_rfl) (Eq.symm (by kernel_rfl))
theorem Zob:Ak PG (100,E2 Qr1 V1 Mp):=S1 (C:=Qc HY) (L:=64) (by kernel_rfl) (FnOK.bare rfl rfl rfl) Zy1 eqOk GI (by kernel_rfl) (by kernel_rfl) (λvars R K=>Zt2 vars R K)
def Zto:=qd 154 Qfn Zdm
def Uu:Fn:=λ_=>none
theorem Ykc:Ak PG (Zto Uu):=F0
def Ydy:=qd 153 Qr1 Zdm
def U5:Fn:=λ_=>none
theorem Zy9:Ak PG (Ydy U5):=F0
def Ykv:=qd 152 Qfn Zdm
def TO:Fn:=λ_=>none
theorem Zsc:Ak PG (Ykv TO):=F0
def Qbj:Sk:=⟨[],[],[]⟩
def Qwe:=qd 96 Qbj Quv
def Xc:Fn:=Am PG Qjw 64 96 Qbj Quv
theorem Zn8:Xc []=
 some [I 0,I 0,I (-1)]:=by kernel_rfl
def J2:=Xc
theorem Zv9:Ai PG (Qjw):=An rfl trivial
theorem Q16:Ak PG (Qwe J2):=rw1 (C:=Qjw) Zv9
def Zyp:=qd 194 Qhp Quv
def TE:Fn:=λ_=>none
theorem Z5o:Ak PG (Zyp TE):=F0
def Zud:=qd 151 Qs3 Quv
def Qpl (D G:Fn):Cfg:=cf [Qwe D,Zyp G]
def Qi4 (D G:Fn):Fn:=Am PG (Qpl D G) 64 151 Qs3 Quv
theorem Zpg (T O:Fn) (D G L U M N:Int):Qi4 T O [I D,I G,I L,I U,I M,I N]=
 cond (M==10) (some [I 2,I 22,I (-1)]) (cond (M==9) ((O [I D,I G,I L,I 21,I (-1)]).bind λo3=>
 some [jA o3 0,jA o3 1,jA o3 2]) (cond (M==8) (cond (decide (N>=0)) (cond (decide (N<=2)) ((O [I D,I G,I L,I 20,I N]).bind λo4=>
 some [jA o4 0,jA o4 1,jA o4 2]) (some [I D,I G,I L])) (some [I D,I G,I L])) (cond (M==11) ((T []).bind λS=>
 some [jA S 0,jA S 1,jA S 2]) (some [I D,I G,I L])))):=by kernel_rfl
def U4:=Qi4 J2 TE
theorem Zyo:Ai PG (Qpl J2 TE):=An rfl ⟨Q16,Z5o,trivial⟩
theorem Z9y:Ak PG (Zud U4):=rw1 (C:=Qpl J2 TE) Zyo
def Ziw:Sk:=⟨[tf [sb],tf [ci]],[],[]⟩
def Zu9:=qd 193 Ziw V1
def SD:Fn:=λ_=>none
theorem Zu1:Ak PG (Zu9 SD):=F0
def Qrq:Sk:=⟨[TS.v true [ci,ci,sb,sb,sb],TS.v true [ci,ci,ci]],[],[]⟩
def Qrs:Sk:=⟨[TS.v true [ci,ci,sb,sb,sb]],[],[]⟩
def Z1w:=qd 150 Qrq Qrs
def Qbz (D:Fn):Cfg:=cf [Zu9 D]
def XK (D:Fn):Fn:=Am PG (Qbz D) 64 150 Qrq Qrs
theorem Z2p (T:Fn) (L M:Int) (N D G:Bool) (U S O:Int):XK T [I L,I M,B N,B D,B G,I U,I S,I O]=
 cond (S==1) (cond (decide (0<=O)) (cond (decide (O<=200)) (some [I O,I M,B N,B D,B G]) (some [I L,I M,B N,B D,B G])) (some [I L,I M,B N,B D,B G])) (cond (S==2) (cond (decide (0<=O)) (cond (decide (O<=100)) (some [I L,I O,B N,B D,B G]) (some [I L,I M,B N,B D,B G])) (some [I L,I M,B N,B D,B G])) (cond (S==3) (some [I L,I M,B true,B D,B G]) (cond (S==4) (some [I L,I M,B false,B D,B G]) (cond (S==5) ((T [B D,I O]).bind λo2=>
 some [I L,I M,B N,B (bA o2 0),B G]) (cond (S==6) ((T [B G,I O]).bind λo3=>
 some [I L,I M,B N,B D,B (bA o3 0)]) (some [I L,I M,B N,B D,B G])))))):=by kernel_rfl
def SS:=XK SD
theorem Zyx:Ai PG (Qbz SD):=An rfl ⟨Zu1,trivial⟩
theorem Z7b:Ak PG (Z1w SS):=rw1 (C:=Qbz SD) Zyx
def Xu:Sk:=⟨[tf [sd 20000 0],TS.v true [ci,ci,ci]],[(20000,179,cS)],[]⟩
def Zx1:=qd 99 Xu Zdm
def Qrz (D G I PA L:Fn):Cfg:=cp [Zto D,Ydy G,Ykv I,Zud PA,Z1w L] [154,153,152]
def YU (D G I PA L:Fn):Fn:=Am PG (Qrz D G I PA L) 64 99 Xu Zdm
theorem Ztv (N O S PA T:Fn) (M G L:Int) (K:Kf) (c:Cv):YU N O S PA T (I M::I G::I L::Aj K c)=
 (T [I c.o0,I c.o1,B c.o2,B c.o3,B c.o4,I M,I G,I L]).bind λD=>
 (PA [I c.g0,I c.g1,I c.g2,I M,I G,I L]).bind λo6=>
 cond (G==13) ((S (I L::Aj K {c with o0:=gA D 0,o1:=gA D 1,o2:=bA D 2,o3:=bA D 3,o4:=bA D 4,g0:=gA o6 0,g1:=gA o6 1,g2:=gA o6 2})).bind λU=>
 some (cR 0 U)) (cond (G==11) (some (Aj K {c with o0:=gA D 0,o1:=gA D 1,o2:=true,o3:=bA D 3,o4:=bA D 4,g0:=gA o6 0,g1:=gA o6 1,g2:=gA o6 2})) (cond (G==12) ((O (Aj K {c with o0:=gA D 0,o1:=gA D 1,o2:=bA D 2,o3:=bA D 3,o4:=bA D 4,g0:=gA o6 0,g1:=gA o6 1,g2:=gA o6 2})).bind λo8=>
 some (cR 0 o8)) (cond (G==7) ((N (I L::Aj K {c with o0:=gA D 0,o1:=gA D 1,o2:=bA D 2,o3:=bA D 3,o4:=bA D 4,g0:=gA o6 0,g1:=gA o6 1,g2:=gA o6 2})).bind λV=>
 some (cR 0 V)) (cond (G==4) (some (Aj K {c with o0:=gA D 0,o1:=gA D 1,o2:=bA D 2,o3:=bA D 3,o4:=bA D 4,g0:=gA o6 0,g1:=gA o6 1,g2:=gA o6 2,aJ:=true})) (some (Aj K {c with o0:=gA D 0,o1:=gA D 1,o2:=bA D 2,o3:=bA D 3,o4:=bA D 4,g0:=gA o6 0,g1:=gA o6 1,g2:=gA o6 2})))))):=by kernel_rfl
def LK:=YU Uu U5 TO U4 SS
theorem Z2l:Ai PG (Qrz Uu U5 TO U4 SS):=An rfl ⟨Ykc,Zy9,Zsc,Z9y,Z7b,trivial⟩
theorem Zps:Ak PG (Zx1 LK):=rw1 (C:=Qrz Uu U5 TO U4 SS) Z2l
def Quj:Sk:=⟨[tf [sd 20000 0],tf [sa kPt]],[(20000,179,cS)],[]⟩
def Qad:Sk:=⟨[TS.v true ([sa kPt,sa Aa]++cc 7)],[(20000,179,cS)],[]⟩
def Yku:=qd 55 Quj Qad
def Qh7 (D G I L M N O S Bc Dr T U:Fn):Cfg:=cr [Z4s D,Zwd G,Zx2 I,Z5i L,Z50 M,Zx4 N,Zyg O,Z3o S,S3 Bc,Yi8 Dr,Z44 T,Zx1 U] [110,109,108,107,106,105,104,102,100,99] [102,100]
def Q8w:Sk:=⟨[tf [sd 20000 0],td,td,td,tf [sd 4 0]]++dd 14++[tf [sa kPt],tf [ci],tf [ci]]++dd 93,[(4,61,[sa kPt,sa Aa]++cc 7),(20000,179,cS)],[]⟩
def Zhx:List (Ex×Sk):=[(Ex.exit 0,⟨[tf [sd 20000 0],td,td,td,tf [sd 4 0]]++dd 110,[(4,61,[sa kPt,sa Aa]++cc 7),(20000,179,cS)],[]⟩)]
def Sh (D G I L M N O S Bc Dr T U:Fn):Lp:=AG PG (Qh7 D G I L M N O S Bc Dr T U) 64 3 (AH PG 55 3) Q8w Zhx
def Q4v (D G I L M N O S Bc Dr T U:Fn) (V:Lp):Cfg:=(Qh7 D G I L M N O S Bc Dr T U).loop 3 Q8w Zhx V
def Zds:Sk:=⟨[tf [sd 20000 0],td,td,td,tf [sd 4 0],td,td,tf [ci],tf [sd 8 0]]++dd 81++[tf [CS.bsl 90 5],tf [ci],tf [ci]]++dd 22,[(4,61,[sa kPt,sa Aa]++cc 7),(8,61,[sa kPt,sa Aa]++cc 7),(90,186,[CS.clo 104 [(20000,0)] [],CS.clo 105 [(20000,0)] [],CS.clo 106 [(20000,0)] [],CS.clo 107 [(20000,0)] [],CS.clo 108 [(20000,0)] []]),(20000,179,cS)],[]⟩
def Zcx:List (Ex×Sk):=[(Ex.exit 2,⟨[tf [sd 20000 0],td,td,td,tf [sd 4 0],td,td,tf [ci],tf [sd 8 0]]++dd 106,[(4,61,[sa kPt,sa Aa]++cc 7),(8,61,[sa kPt,sa Aa]++cc 7),(20000,179,cS)],[]⟩)]
def Ke (D G I L M N O S Bc Dr T U:Fn) (V:Lp):Lp:=AG PG (Q4v D G I L M N O S Bc Dr T U V) 64 16 (AH PG 55 16) Zds Zcx
def Q2x (G I L M N O S T Bc Dr U V:Fn) (X D:Lp):Cfg:=(Q4v G I L M N O S T Bc Dr U V X).loop 16 Zds Zcx D
def Qq4 (G I L M N O S T Bc Dr U V:Fn) (X D:Lp):Fn:=Am PG (Q2x G I L M N O S T Bc Dr U V X D) 64 55 Quj Qad
theorem Qdj (Ct CJ Ei Eu En Ef Eo C1 Bc Dr Dq Ee:Fn) (G:Rw) (L D:Int) (M N:Rw) (S T U V X v10 v11:Int) (K:Kf) (c:Cv):Sh Ct CJ Ei Eu En Ef Eo C1 Bc Dr Dq Ee (.vC kPt G::I L::I D:: .vC kPt M:: .vC Aa N::I S::I T::I U::I V::I X::I v10::I v11::Aj K c)=
 cond (decide (D<L)) (cond (decide (0<=D)&&decide (D<(G.length:Int))) ((Ee (jA (nth [] G D.toNat) 0::jA (nth [] G D.toNat) 1::jA (nth [] G D.toNat) 2::Aj K c)).bind λY=>
 some (0,(.vC kPt G::I L::I (O (D+1)):: .vC kPt M:: .vC Aa N::I S::I T::I U::I V::I X::I v10::I v11::cR 0 Y))) (none)) (some (1,(.vC kPt M:: .vC Aa N::I S::I T::I U::I V::I X::I v10::I v11::Aj K c))):=by kernel_rfl
abbrev Or (Y:Int) (v3 v4:Rw) (v5 v6 v7 v8 v9 v10 v11:Int) (v12 G:Rw) (L M N S T v20 v1 v2 X:Int) (U:Bool) (V:AC) (D:List AC):Option (Nat×List AC):=
 cond (U) (some (1,(I Y:: .vC kPt v3:: .vC Aa v4::I v5::I v6::I v7::I v8::I v9::I v10::I v11:: .vC kPt v12:: .vC Aa G::V::I L::I M::I N::I S::I T::I v20::D))) (some (0,(I Y::I v1::I (O (v2+1)):: .vC kPt v3:: .vC Aa v4::I v5::I v6::I v7::I v8::I v9::I v10::I v11:: .vC kPt v12:: .vC Aa G::I X::I L::I M::I N::I S::I T::I v20::D)))
theorem Z94 (Ct CJ Ei Eu En Ef Eo C1 Bc Dr Dq Ee:Fn) (N3:Lp) (U V T:Int) (X Y:Rw) (v5 v6 v7 v8 v9 v10 v11:Int) (v12 D:Rw) (G L M N O S v20:Int) (K:Kf) (c:Cv):Ke Ct CJ Ei Eu En Ef Eo C1 Bc Dr Dq Ee N3 (I U::I V::I T:: .vC kPt X:: .vC Aa Y::I v5::I v6::I v7::I v8::I v9::I v10::I v11:: .vC kPt v12:: .vC Aa D::I G::I L::I M::I N::I O::I S::I v20::Aj K c)=
 cond (decide (T<V)) (cond (decide (T=(↑0:Int))) ((Eo (Aj K c)).bind λa0=>
 Or U X Y v5 v6 v7 v8 v9 v10 v11 v12 D L M N O S v20 V T G (bA a0 1) (jA a0 0) (cR 2 a0)) (cond (decide (T=(↑(0+1):Int))) ((Ef (Aj K c)).bind λa1=>
 Or U X Y v5 v6 v7 v8 v9 v10 v11 v12 D L M N O S v20 V T G (bA a1 1) (jA a1 0) (cR 2 a1)) (cond (decide (T=(↑(0+1+1):Int))) ((En (Aj K c)).bind λa2=>
 Or U X Y v5 v6 v7 v8 v9 v10 v11 v12 D L M N O S v20 V T G (bA a2 1) (jA a2 0) (cR 2 a2)) (cond (decide (T=(↑(0+1+1+1):Int))) ((Eu (Aj K c)).bind λa3=>
 Or U X Y v5 v6 v7 v8 v9 v10 v11 v12 D L M N O S v20 V T G (bA a3 1) (jA a3 0) (cR 2 a3)) (cond (decide (T=(↑(0+1+1+1+1):Int))) ((Ei (Aj K c)).bind λa4=>
 Or U X Y v5 v6 v7 v8 v9 v10 v11 v12 D L M N O S v20 V T G (bA a4 1) (jA a4 0) (cR 2 a4)) (none)))))) (some (1,(I U:: .vC kPt X:: .vC Aa Y::I v5::I v6::I v7::I v8::I v9::I v10::I v11:: .vC kPt v12:: .vC Aa D::I G::I L::I M::I N::I O::I S::I v20::Aj K c))):=by kernel_rfl
abbrev JN (T:Lp) (M:Nat×List AC) (V U:Fn) (N:AC) (O:List AC):Option (List AC):=
 (T (N::I (↑5:Int)::I 0:: .vC kPt (wA M.2 0):: .vC Aa (wA M.2 1)::jA M.2 2::jA M.2 3::jA M.2 4::jA M.2 5::jA M.2 6::jA M.2 7::jA M.2 8:: .vC kPt []:: .vC Aa []::I 0::I 0::I 0::I 0::I 0::I 0::I 0::O)).bind λD=>
 cond (D.1.beq 1) (cond (gA D.2 12==0) ((V (cR 19 D.2)).bind λS=>
 (U (jA D.2 0::(cR 1 S++[.vC kPt (wA D.2 10), .vC Aa (wA D.2 11),jA S 0,jA D.2 13,jA D.2 14,jA D.2 15,jA D.2 16,jA D.2 17,jA D.2 18]))).bind λG=>
 some (.vC kPt (wA G 90):: .vC Aa (wA G 91)::jA G 92::jA G 93::jA G 94::jA G 95::jA G 96::jA G 97::jA G 98::cR 0 G)) ((U (jA D.2 0::(cR 19 D.2++[.vC kPt (wA D.2 10), .vC Aa (wA D.2 11),jA D.2 12,jA D.2 13,jA D.2 14,jA D.2 15,jA D.2 16,jA D.2 17,jA D.2 18]))).bind λL=>
 some (.vC kPt (wA L 90):: .vC Aa (wA L 91)::jA L 92::jA L 93::jA L 94::jA L 95::jA L 96::jA L 97::jA L 98::cR 0 L))) (none)
abbrev Qtt (X:Fn) (D:Nat×List AC) (Dr Bc T:Fn) (I:Lp) (U V:Fn):Option (List AC):=
 (X (EX (cR 9 D.2) [(58,B true),(86,jA D.2 76)])).bind λL=>
 cond (!bA L 0) ((Dr [jA D.2 73,jA D.2 74,jA D.2 75,jA D.2 76,jA D.2 42]).bind λG=>
 (Bc (EX (cR 9 D.2) [(58,B true),(64,jA G 0),(65,jA G 1),(66,jA G 2),(67,jA G 3),(86,jA D.2 76)])).bind λM=>
 (T [jA D.2 59,jA D.2 60,jA D.2 61,jA D.2 62,jA D.2 63,jA D.2 64]).bind λN=>
 JN I D U V (jA M 0) (EX (cR 9 D.2) [(58,B true),(64,jA G 0),(65,jA G 1),(66,jA G 2),(67,jA G 3),(86,jA D.2 76),(88,B (bA N 0))])) ((Bc (EX (cR 9 D.2) [(58,B true),(86,jA D.2 76)])).bind λO=>
 (T [jA D.2 59,jA D.2 60,jA D.2 61,jA D.2 62,jA D.2 63,jA D.2 64]).bind λS=>
 JN I D U V (jA O 0) (EX (cR 9 D.2) [(58,B true),(86,jA D.2 76),(88,B (bA S 0))]))
theorem Zzl (M N Ei Eu En Ef Eo O Bc Dr S Ee:Fn) (N3 L:Lp) (T:Rw) (K:Kf) (c:Cv):Qq4 M N Ei Eu En Ef Eo O Bc Dr S Ee N3 L (.vC kPt T::Aj K c)=
 (N3 (.vC kPt T::I (T.length:Int)::I 0:: .vC kPt []:: .vC Aa []::I 0::I 0::I 0::I 0::I 0::I 0::I 0::Aj K {c with aJ:=false,aL:=false})).bind λD=>
 cond (D.1.beq 1) (cond (bA D.2 86) (Qtt S D Dr Bc O L N M) (cond (gA D.2 70 !=0) (Qtt S D Dr Bc O L N M) ((S (EX (cR 9 D.2) [(86,jA D.2 76)])).bind λU=>
 cond (!bA U 0) ((Dr [jA D.2 73,jA D.2 74,jA D.2 75,jA D.2 76,jA D.2 42]).bind λG=>
 (Bc (EX (cR 9 D.2) [(64,jA G 0),(65,jA G 1),(66,jA G 2),(67,jA G 3),(86,jA D.2 76)])).bind λV=>
 (O [jA D.2 59,jA D.2 60,jA D.2 61,jA D.2 62,jA D.2 63,jA D.2 64]).bind λX=>
 JN L D N M (jA V 0) (EX (cR 9 D.2) [(64,jA G 0),(65,jA G 1),(66,jA G 2),(67,jA G 3),(86,jA D.2 76),(88,B (bA X 0))])) ((Bc (EX (cR 9 D.2) [(86,jA D.2 76)])).bind λY=>
 (O [jA D.2 59,jA D.2 60,jA D.2 61,jA D.2 62,jA D.2 63,jA D.2 64]).bind λa0=>
 JN L D N M (jA Y 0) (EX (cR 9 D.2) [(86,jA D.2 76),(88,B (bA a0 0))]))))) (none):=by kernel_rfl
def Qa9:=Al (Sh PH Lf Lb LQ LO J_ Lv Lu DK Ll Mp LK)
def Zcy:=Al (Ke PH Lf Lb LQ LO J_ Lv Lu DK Ll Mp LK Qa9)
def I5:=Qq4 PH Lf Lb LQ LO J_ Lv Lu DK Ll Mp LK Qa9 Zcy
theorem ZU:Ai PG (Qh7 PH Lf Lb LQ LO J_ Lv Lu DK Ll Mp LK):=LD (rs:=[102,100]) rfl ⟨Znk,Zzi,Ya3,Yce,Zm3,Z0z,Zv2,Zwp,S6,Zl6,Zob,Zps,trivial⟩ rfl (Dy rfl (Dy rfl (Dy rfl (Dy rfl (Dy rfl (Dy rfl (Dy rfl (Dy rfl (Jw (Dy rfl (Jw (Dy rfl L1))))))))))))
theorem Ya4:Ak PG (Yku I5):=rw2 (C:=Q2x PH Lf Lb LQ LO J_ Lv Lu DK Ll Mp LK Qa9 Zcy) (fl (fl fb ZU) ZU) ZU
def Qo1:Sk:=⟨[tf [sa kPt],tf [ci]],[],[]⟩
def Z0a:=qd 56 Qo1 Qqk
def C_event_At_0:Cfg:={cf []with prom:=λb=>cond (Nat.beq b 3) ([(5,65)]) ([])}
def Zjx:Sk:=⟨[td,tf [ci],td,td,td,tf [se 5 3],td,td,tf [sa kPt],tf [ci],tf [ci]]++dd 13,[],[(5,65,kPt)]⟩
def Q69:List (Ex×Sk):=[(Ex.exit 0,⟨[td,td,td,td,td,tf [se 5 3]]++dd 18,[],[(5,65,kPt)]⟩)]
def U9:Lp:=AG PG C_event_At_0 64 3 (AH PG 56 3) Zjx Q69
def Qxr (D:Lp):Cfg:=C_event_At_0.loop 3 Zjx Q69 D
def Qvf (D:Lp):Fn:=Am PG (Qxr D) 64 56 Qo1 Qqk
theorem Zqw (L:Rw) (M:Int) (G:Rw) (N D:Int):U9 [.vC kPt L,I M, .vC kPt G,I N,I D]=
 cond (decide (D<N)) (cond (decide (0<=D)&&decide (D<(G.length:Int))) (cond (gA (nth [] G D.toNat) 0==M) (cond (((L++[[jA (nth [] G D.toNat) 0,jA (nth [] G D.toNat) 1,jA (nth [] G D.toNat) 2]]).length*24).ble 140737488355328) (some (0,[.vC kPt (L++[[jA (nth [] G D.toNat) 0,jA (nth [] G D.toNat) 1,jA (nth [] G D.toNat) 2]]),I M, .vC kPt G,I N,I (O (D+1))])) (none)) (some (0,[.vC kPt L,I M, .vC kPt G,I N,I (O (D+1))]))) (none)) (some (1,[.vC kPt L])):=by kernel_rfl
theorem Yif (G:Lp) (D:Rw) (L:Int):Qvf G [.vC kPt D,I L]=
 (G [.vC kPt [],I L, .vC kPt D,I (D.length:Int),I 0]).bind λo1=>
 cond (o1.1.beq 1) (some [.vC kPt (wA o1.2 0)]) (none):=by kernel_rfl
def Q6m:=Al (U9)
def PE:=Qvf Q6m
theorem Q8a:Ai PG (C_event_At_0):=An rfl trivial
theorem Z6l:Ak PG (Z0a PE):=rw2 (C:=Qxr Q6m) (fl fb Q8a) Q8a
def Vp:=qd 138 Qnx V1
def Qxi:Fn:=Am PG Qjw 64 138 Qnx V1
theorem Yhv (x0 x1 x2 x3 x4 x5 x6 x7 x8 x9 D G L:Int) (M:Bool) (N:Int) (O:Bool) (S T U V X:Int) (Y:Bool):Qxi [I x0,I x1,I x2,I x3,I x4,I x5,I x6,I x7,I x8,I x9,I D,I G,I L,B M,I N,B O,I S,I T,I U,I V,I X,B Y]=
 cond (x0==2) (some [B !(x2==x5&&(x3==x6&&(x4==x7&&true)))]) (some [B false]):=by kernel_rfl
def ES:=Qxi
theorem Z7x:Ai PG (Qjw):=An rfl trivial
theorem Tx:Ak PG (Vp ES):=rw1 (C:=Qjw) Z7x
def UT:=qd 88 Y3 V1
def Qyl:Fn:=Am PG Qjw 64 88 Y3 V1
theorem Yiu (D:Int):Qyl [I D]=
 cond (decide (D>=1)) (some [B (decide (D<=6))]) (some [B false]):=by kernel_rfl
def DE:=Qyl
theorem Yej:Ai PG (Qjw):=An rfl trivial
theorem Te:Ak PG (UT DE):=rw1 (C:=Qjw) Yej
def Qzl:=qd 140 Qnx V1
def Q34:Fn:=Am PG Qjw 64 140 Qnx V1
theorem Z08 (D x1 x2 x3 x4 x5 x6 x7 x8 x9 G L M:Int) (N:Bool) (O:Int) (S:Bool) (T U V X Y:Int) (a0:Bool):Q34 [I D,I x1,I x2,I x3,I x4,I x5,I x6,I x7,I x8,I x9,I G,I L,I M,B N,I O,B S,I T,I U,I V,I X,I Y,B a0]=
 cond (D==5) (some [B true]) (some [B (D==6)]):=by kernel_rfl
def HO:=Q34
theorem Yjk:Ai PG (Qjw):=An rfl trivial
theorem Q9g:Ak PG (Qzl HO):=rw1 (C:=Qjw) Yjk
def Zx7:=qd 144 Qsq V1
def W_ (D G:Fn):Cfg:=cf [UT D,Qzl G]
def Qwx:Sk:=⟨dd 23++[tf [sa Ae],tf [ci],tf [ci]]++dd 9,[],[]⟩
def Q0y:List (Ex×Sk):=[(Ex.ret,⟨[td,td,td,td,tf [sb]]++dd 30,[],[]⟩),(Ex.exit 0,⟨[td]++dd 34,[],[]⟩)]
def Lj (D G:Fn):Lp:=AG PG (W_ D G) 64 4 (AH PG 144 4) Qwx Q0y
def Q7n (D G:Fn) (I:Lp):Cfg:=(W_ D G).loop 4 Qwx Q0y I
def Qti (D G:Fn) (I:Lp):Fn:=Am PG (Q7n D G I) 64 144 Qsq V1
theorem Q2q (M N:Fn) (G:Rw) (L D:Int):Lj M N [.vC Ae G,I L,I D]=
 cond (decide (D<L)) (cond (decide (0<=D)&&decide (D<(G.length:Int))) ((M [jA (nth [] G D.toNat) 0]).bind λS=>
 cond (bA S 0) ((N (AE Ae (nth [] G D.toNat))).bind λo6=>
 some (1,[B (bA o6 0)])) (some (0,[.vC Ae G,I L,I (O (D+1))]))) (none)) (some (2,[])):=by kernel_rfl
theorem Z7i (N L:Fn) (M:Lp) (G:Rw) (D:Int):Qti N L M [.vC Ae G,I D]=
 cond (decide (0<=D)&&decide (D<(G.length:Int))) (cond (gA (nth [] G D.toNat) 18==0) (some [B true]) (cond (decide (0<=D)&&decide (D<(G.length:Int))) ((L (AE Ae (nth [] G D.toNat))).bind λS=>
 cond (bA S 0) (some [B true]) (cond (decide (0<=O (D+1))&&decide (O (D+1)<=(G.length:Int))) ((M [.vC Ae (List.drop (O (D+1)).toNat G),I (↑(List.drop (O (D+1)).toNat G).length:Int),I 0]).bind λo8=>
 cond (o8.1.beq 1) (some [B (bA o8.2 0)]) (cond (o8.1.beq 2) (some [B false]) (none))) (none))) (none))) (none):=by kernel_rfl
def Zcf:=Al (Lj DE HO)
def R5:=Qti DE HO Zcf
theorem Qy2:Ai PG (W_ DE HO):=An rfl ⟨Te,Q9g,trivial⟩
theorem Yf8:Ak PG (Zx7 R5):=rw2 (C:=Q7n DE HO Zcf) (fl fb Qy2) Qy2
def Qk7:Sk:=⟨[tf [sd 20000 0],tf [sa Ae],tf [ci]],[(20000,102,[ci,ci,ci,se 20000 7,se 20001 3,sb,ci,ci,ci])],[(20000,111,Ag),(20001,130,kPt)]⟩
def Qqn:Sk:=⟨[TS.tup []],[(20000,102,[ci,ci,ci,se 20000 7,se 20001 3,sb,ci,ci,ci])],[(20000,111,Ag),(20001,130,kPt)]⟩
def Znc:=qd 92 Qk7 Qqn
def Qg1 (D G:Fn):Cfg:=cf [Zx7 D,UT G]
def Qmq (D G:Fn):Fn:=Am PG (Qg1 D G) 64 92 Qk7 Qqn
abbrev Qis (Y:Fn) (X:Rw) (G:Int) (M:Rw) (D:Int) (N:Rw) (O S T:Int) (U:Bool) (V L:Int):Option (List AC):=
 (Y [jA (nth [] X G.toNat) 0]).bind λo6=>
 cond (bA o6 0) (cond (((M++[[I D,I 2,I G]]).length*24).ble 140737488355328) (some [.vC Ag N, .vC kPt (M++[[I D,I 2,I G]]),I O,I S,I T,B U,I D,I V,I L]) (none)) (cond (gA (nth [] X G.toNat) 0==10) (cond (((M++[[I D,I 5,I G]]).length*24).ble 140737488355328) (some [.vC Ag N, .vC kPt (M++[[I D,I 5,I G]]),I O,I S,I T,B U,I D,I V,I L]) (none)) (cond (gA (nth [] X G.toNat) 0==13) (cond (((M++[[I D,I 4,I G]]).length*24).ble 140737488355328) (some [.vC Ag N, .vC kPt (M++[[I D,I 4,I G]]),I O,I S,I T,B U,I D,I V,I L]) (none)) (cond (((M++[[I D,I 3,I G]]).length*24).ble 140737488355328) (some [.vC Ag N, .vC kPt (M++[[I D,I 3,I G]]),I O,I S,I T,B U,I D,I V,I L]) (none))))
theorem Yiw (Nh Y:Fn) (O M N:Rw) (D S T U:Int) (V:Bool) (L X G:Int):Qmq Nh Y [.vC Ag O, .vC kPt M, .vC Ae N,I D,I S,I T,I U,B V,I L,I X,I G]=
 cond (decide (0<=D)&&decide (D<(N.length:Int))) (cond (gA (nth [] N D.toNat) 0==4) (cond (((M++[[I L,I 6,I D]]).length*24).ble 140737488355328) (some [.vC Ag O, .vC kPt (M++[[I L,I 6,I D]]),I S,I T,I U,B V,I L,I X,I G]) (none)) ((Y [jA (nth [] N D.toNat) 0]).bind λo4=>
 cond (bA o4 0) ((Nh [.vC Ae N,I D]).bind λo5=>
 cond (bA o5 0) (cond (((M++[[I L,I 1,I D]]).length*24).ble 140737488355328) (some [.vC Ag O, .vC kPt (M++[[I L,I 1,I D]]),I S,I T,I U,B V,I L,I X,I G]) (none)) (Qis Y N D M L O S T U V X G)) (Qis Y N D M L O S T U V X G))) (none):=by kernel_rfl
def Jf:=Qmq R5 DE
theorem Z7h:Ai PG (Qg1 R5 DE):=An rfl ⟨Yf8,Te,trivial⟩
theorem Zrl:Ak PG (Znc Jf):=rw1 (C:=Qg1 R5 DE) Z7h
def Qex:=qd 143 Qnx Quv
def Q23:Fn:=Am PG Qjw 64 143 Qnx Quv
theorem Zva (x0 x1 x2 x3 x4 x5 x6 x7 x8 x9 D G L:Int) (M:Bool) (N:Int) (S:Bool) (T U V X Y:Int) (a0:Bool):Q23 [I x0,I x1,I x2,I x3,I x4,I x5,I x6,I x7,I x8,I x9,I D,I G,I L,B M,I N,B S,I T,I U,I V,I X,I Y,B a0]=
 some [I (O (O (x2+x5)*8)),I (O (O (x3+x6)*8)),I (O (O (x4+x7)*8))]:=by kernel_rfl
def Gm:=Q23
theorem Yec:Ai PG (Qjw):=An rfl trivial
theorem Qu6:Ak PG (Qex Gm):=rw1 (C:=Qjw) Yec
def Qas:Sk:=⟨[TS.v true [si .u64,si .u64],TS.v true [si .u64,si .u64]],[],[]⟩
def Qvj:=qd 232 Qas Y3
def Q9r:Fn:=Am PG Qjw 64 232 Qas Y3
theorem Zrh (D L G M:Int):Q9r [U D,U L,U G,U M]=
 cond (decide (D<G)) (some [I (-1)]) (cond (D==G) (cond (decide (L<M)) (some [I (-1)]) (cond (D==G&&(L==M&&true)) (some [I 0]) (some [I 1]))) (cond (D==G&&(L==M&&true)) (some [I 0]) (some [I 1]))):=by kernel_rfl
def If:=Q9r
theorem Z19:Ai PG (Qjw):=An rfl trivial
theorem Q3n:Ak PG (Qvj If):=rw1 (C:=Qjw) Z19
def Zb1:=qd 288 Qev WS
def Qlj (D G:Fn):Cfg:=cf [Qvj D,Uv G]
def Zcs:Sk:=⟨[td,tf [sd 1 0],td,tf [si .u64],tf [si .u64]]++dd 16,[(1,197,[si .u64,si .u64])],[]⟩
def Ze5:List (Ex×Sk):=[(Ex.exit 0,⟨[td,td,td,tf [si .u64]]++dd 17,[],[]⟩)]
def L0 (D G:Fn):Lp:=AG PG (Qlj D G) 64 3 (AH PG 288 3) Zcs Ze5
def Ziq (D G:Fn) (I:Lp):Cfg:=(Qlj D G).loop 3 Zcs Ze5 I
def Qee (D G:Fn) (I:Lp):Fn:=Am PG (Ziq D G I) 64 288 Qev WS
theorem Zfy (M N:Fn) (G D I L:Int):L0 M N [U G,U D,U I,U L]=
 cond (decide (D>0)) ((N [U (wrap .u64 (↑(BitVec.ofInt IntKind.u64.bits G|||BitVec.ofInt IntKind.u64.bits D).toNat:Int)),U (wrap .u64 (↑(BitVec.ofInt IntKind.u64.bits G|||BitVec.ofInt IntKind.u64.bits D).toNat:Int))]).bind λo3=>
 (M [U (gA o3 0),U (gA o3 1),U I,U L]).bind λo4=>
 cond (decide (gA o4 0<=0)) (some (0,[U (wrap .u64 (↑(BitVec.ofInt IntKind.u64.bits G|||BitVec.ofInt IntKind.u64.bits D).toNat:Int)),U (D.fdiv (2^min (Int.toNat 1) IntKind.u64.bits)),U I,U L])) (some (0,[U G,U (D.fdiv (2^min (Int.toNat 1) IntKind.u64.bits)),U I,U L]))) (some (1,[U G])):=by kernel_rfl
theorem Ygg (M N:Fn) (D:Lp) (G I:Int):Qee M N D [U G,U I]=
 (D [U 0,U 9223372036854775808,U G,U I]).bind λL=>
 cond (L.1.beq 1) (some [U (gA L.2 0)]) (none):=by kernel_rfl
def Q2u:=Al (L0 If Ew)
def JS:=Qee If Ew Q2u
theorem Zf2:Ai PG (Qlj If Ew):=An rfl ⟨Q3n,Vf,trivial⟩
theorem Q9u:Ak PG (Zb1 JS):=rw2 (C:=Ziq If Ew Q2u) (fl fb Zf2) Zf2
def Xs:Sk:=⟨[TS.v true [si .u64,si .u64],tf [ci]],[],[]⟩
def Yf1:=qd 264 Xs YZ
def Qtp (D G I L:Fn):Cfg:=cf [W9 D,(289,Ab Q51 Q9m G),(171,Ab Qbe VP I),Zb1 L]
def YN (D G I L:Fn):Fn:=Am PG (Qtp D G I L) 64 264 Xs YZ
abbrev Qfr (T:Int) (O:List AC) (N:Fn) (D S:List AC):Option (List AC):=
 cond (T==2) (cond (decide (gA O 0>0)) ((N [U (wrap .u64 (gA D 0+1)),B false]).bind λG=>
 some [jA G 0,B (bA G 1)]) (cond (decide (gA S 0>gA D 0)) ((N [U (wrap .u64 (gA D 0+1)),B false]).bind λI=>
 some [jA I 0,B (bA I 1)]) ((N [U (gA D 0),B false]).bind λL=>
 some [jA L 0,B (bA L 1)]))) ((N [U (gA D 0),B false]).bind λM=>
 some [jA M 0,B (bA M 1)])
theorem Z7w (M V Gp Gb:Fn) (X Y T:Int):YN M V Gp Gb [U X,U Y,I T]=
 (Gb [U X,U Y]).bind λD=>
 (Gp [U (gA D 0),U (gA D 0)]).bind λN=>
 (V [U Y,U (gA N 1),U 0]).bind λG=>
 (V [U X,U (gA N 0),U (gA G 1)]).bind λL=>
 cond (T==1) (cond (decide (gA L 0>0)) ((M [U (wrap .u64 (gA D 0+1)),B false]).bind λO=>
 some [jA O 0,B (bA O 1)]) (cond (decide (gA G 0>0)) ((M [U (wrap .u64 (gA D 0+1)),B false]).bind λS=>
 some [jA S 0,B (bA S 1)]) (Qfr T L M D G))) (Qfr T L M D G):=by kernel_rfl
def UH:=YN Fg Kt Ih JS
theorem Zyy:Ai PG (Qtp Fg Kt Ih JS):=An rfl ⟨Qnf,Z3p,Qzn,Q9u,trivial⟩
theorem Z9n:Ak PG (Yf1 UH):=rw1 (C:=Qtp Fg Kt Ih JS) Zyy
def Qyt:=qd 237 ZA YZ
def Za (D G:Fn):Cfg:=cf [Yf1 D,Qtf G]
def Qbi (D G:Fn):Fn:=Am PG (Za D G) 64 237 ZA YZ
theorem Ya5 (L M:Fn) (D G:Int):Qbi L M [I D,I G]=
 cond (decide (D<0)) (some [I 0,B false]) ((M [I G]).bind λo2=>
 cond (!bA o2 0) (some [I 0,B false]) ((L [U 0,U (wrap .u64 D),I G]).bind λo3=>
 some [jA o3 0,B (bA o3 1)])):=by kernel_rfl
def IW:=Qbi UH Gw
theorem Ydq:Ai PG (Za UH Gw):=An rfl ⟨Z9n,Qrd,trivial⟩
theorem Q11:Ak PG (Qyt IW):=rw1 (C:=Za UH Gw) Ydq
def Qxe:=qd 189 Qs3 Y3
def Qpo (D:Fn):Cfg:={cf [Qyt D]with unroll:=[3]}
def Xg (D:Fn):Fn:=Am PG (Qpo D) 64 189 Qs3 Y3
theorem Z6h (T:Fn) (D G L M N S:Int):Xg T [I D,I G,I L,I M,I N,I S]=
 (T [I (O (O (O (0+O (O (D-M)*O (D-M)))+O (O (G-N)*O (G-N)))+O (O (L-S)*O (L-S)))),I 1]).bind λo1=>
 some [jA o1 0]:=by kernel_rfl
def Jj:=Xg IW
theorem Z8y:Ai PG (Qpo IW):=An rfl ⟨Q11,trivial⟩
theorem Qy4:Ak PG (Qxe Jj):=rw1 (C:=Qpo IW) Z8y
def Qfv:Sk:=⟨[tf [sd 20000 0],TS.v true [ci,ci,ci],TS.v true (cc 7)],[(20000,102,[ci,ci,ci,se 20000 7,se 20001 3,sb,ci,ci,ci])],[(20000,111,Ag),(20001,130,kPt)]⟩
def Ygd:=qd 142 Qfv Qqn
def Qbp (D:Fn):Cfg:=cf [Qxe D]
def Tq (D:Fn):Fn:=Am PG (Qbp D) 64 142 Qfv Qqn
abbrev YC (D:Bool) (x0 x1:Rw) (x2 x3 x4 G L M N S T:Int) (Di:Fn) (x9 U V:Int) (X:Bool) (Y a0 a1:AC):Option (List AC):=
 cond (!D) (some [.vC Ag x0, .vC kPt x1,I x2,I x3,I x4,B true,I G,I L,I M]) (cond (X) (some [.vC Ag x0, .vC kPt x1,I N,I S,I T,B D,I G,I L,I M]) ((Di [Y,a0,a1,I x2,I x3,I x4]).bind λo2=>
 cond (((x0++[[I x2,I x3,I x4,jA o2 0,I x9,I U,I V]]).length*56).ble 140737488355328) (some [.vC Ag (x0++[[I x2,I x3,I x4,jA o2 0,I x9,I U,I V]]), .vC kPt x1,I N,I S,I T,B D,I (O (G+gA o2 0)),I L,I M]) (none)))
theorem Ze1 (Di:Fn) (D x1:Rw) (Y x3 x4 x5 x6 x7 x8 x9 N S G L M:Int) (T:Bool) (U V X:Int):Tq Di [.vC Ag D, .vC kPt x1,I Y,I x3,I x4,I x5,I x6,I x7,I x8,I x9,I N,I S,I G,I L,I M,B T,I U,I V,I X]=
 cond (decide ((D.length:Int)>0)) (cond (decide (0<=O ((D.length:Int)-1))&&decide (O ((D.length:Int)-1)<(D.length:Int))) (YC T D x1 Y x3 x4 U V X G L M Di x9 N S (Y==gA (nth [] D (O ((D.length:Int)-1)).toNat) 0&&(x3==gA (nth [] D (O ((D.length:Int)-1)).toNat) 1&&(x4==gA (nth [] D (O ((D.length:Int)-1)).toNat) 2&&true))) (jA (nth [] D (O ((D.length:Int)-1)).toNat) 0) (jA (nth [] D (O ((D.length:Int)-1)).toNat) 1) (jA (nth [] D (O ((D.length:Int)-1)).toNat) 2)) (none)) (YC T D x1 Y x3 x4 U V X G L M Di x9 N S (Y==G&&(x3==L&&(x4==M&&true))) (I G) (I L) (I M)):=by kernel_rfl
def PY:=Tq Jj
theorem Ya1:Ai PG (Qbp Jj):=An rfl ⟨Qy4,trivial⟩
theorem Zlw:Ak PG (Ygd PY):=rw1 (C:=Qbp Jj) Ya1
def Qpc:=qd 90 Qsq Y3
def Q40:Sk:=⟨[tf [sa Ae],tf [ci]]++dd 20,[],[]⟩
def Zbw:List (Ex×Sk):=[(Ex.exit 0,⟨[td,tf [ci]]++dd 20,[],[]⟩)]
def Qz:Lp:=AG PG Qjw 64 2 (AH PG 90 2) Q40 Zbw
def Zbq (D:Lp):Cfg:=Qjw.loop 2 Q40 Zbw D
def Qhk (D:Lp):Fn:=Am PG (Zbq D) 64 90 Qsq Y3
theorem Zc6 (G:Rw) (D:Int):Qz [.vC Ae G,I D]=
 cond (decide (D<(G.length:Int))) (cond (decide (0<=D)&&decide (D<(G.length:Int))) (cond (gA (nth [] G D.toNat) 0==10) (some (0,[.vC Ae G,I (O (D+1))])) (some (1,[I D]))) (none)) (some (1,[I D])):=by kernel_rfl
theorem Zyd (D:Lp) (G:Rw) (L:Int):Qhk D [.vC Ae G,I L]=
 (D [.vC Ae G,I (O (L+1))]).bind λo1=>
 cond (o1.1.beq 1) (some [jA o1.2 0]) (none):=by kernel_rfl
def Zcv:=Al (Qz)
def Fo:=Qhk Zcv
theorem Q5p:Ai PG (Qjw):=An rfl trivial
theorem Qqc:Ak PG (Qpc Fo):=rw2 (C:=Zbq Zcv) (fl fb Q5p) Q5p
def Q7y:=qd 89 Qsq V1
def Qju (Bl D:Fn):Cfg:=cf [Vp Bl,Qpc D]
def Yg (Bl D:Fn):Fn:=Am PG (Qju Bl D) 64 89 Qsq V1
theorem Z9d (Bl L:Fn) (D:Rw) (G:Int):Yg Bl L [.vC Ae D,I G]=
 (L [.vC Ae D,I G]).bind λo3=>
 cond (decide (0<=G)&&decide (G<(D.length:Int))) ((Bl (AE Ae (nth [] D G.toNat))).bind λo4=>
 cond (bA o4 0) (cond (decide (0<=G)&&decide (G<(D.length:Int))) (cond (gA (nth [] D G.toNat) 18 !=0) (cond (decide (gA o3 0<(D.length:Int))) (cond (decide (0<=gA o3 0)&&decide (gA o3 0<(D.length:Int))) ((Bl (AE Ae (nth [] D (gA o3 0).toNat))).bind λM=>
 some [B (bA M 0)]) (none)) (some [B false])) (some [B false])) (none)) (some [B false])) (none):=by kernel_rfl
def Hs:=Yg ES Fo
theorem Zn3:Ai PG (Qju ES Fo):=An rfl ⟨Tx,Qqc,trivial⟩
theorem Q0p:Ak PG (Q7y Hs):=rw1 (C:=Qju ES Fo) Zn3
def Q17:=qd 286 Qom Y3
def Zeg:Fn:=Am PG Qi3 64 286 Qom Y3
theorem Z7y (D G L M N S T U V:Int):Zeg [I D,I G,I L,I M,I N,I S,I T,I U,I V]=
 some [I (O (O (O (0+O (O (O (D+T)-O (2*M))*O (O (D+T)-O (2*M))))+O (O (O (G+U)-O (2*N))*O (O (G+U)-O (2*N))))+O (O (O (L+V)-O (2*S))*O (O (L+V)-O (2*S)))))]:=by kernel_rfl
def Hb:=Zeg
theorem Zpc:Ai PG (Qi3):=An rfl trivial
theorem Q2z:Ak PG (Q17 Hb):=rw1 (C:=Qi3) Zpc
def Zsx:=qd 263 Qom Y3
def VT (D:Fn):Cfg:=cf [Q17 D]
def Qz7:List (Ex×Sk):=[(Ex.exit 0,⟨dd 7++[tf [ci]]++dd 22,[],[]⟩)]
def Rc (D:Fn):Lp:=AG PG (VT D) 64 2 (AH PG 263 2) Zda Qz7
def Q75 (D:Fn) (G:Lp):Cfg:=(VT D).loop 2 Zda Qz7 G
def Qcc (D:Fn) (G:Lp):Fn:=Am PG (Q75 D G) 64 263 Qom Y3
theorem Yek (Y:Fn) (D G L M N S T U V X:Int):Rc Y [I D,I G,I L,I M,I N,I S,I T,I U,I V,I X]=
 cond (decide (D<64)) ((Y [I G,I L,I M,I N,I S,I T,I U,I V,I X]).bind λo2=>
 cond (decide (gA o2 0>O (O (O (O (O (O (16*D)*D)*D)*D)*4)*4))) (some (0,[I (O (D*2)),I G,I L,I M,I N,I S,I T,I U,I V,I X])) (some (1,[I D]))) (some (1,[I D])):=by kernel_rfl
theorem Zsm (X:Fn) (D:Lp) (G L M N O S T U V:Int):Qcc X D [I G,I L,I M,I N,I O,I S,I T,I U,I V]=
 (D [I 2,I G,I L,I M,I N,I O,I S,I T,I U,I V]).bind λo3=>
 cond (o3.1.beq 1) (some [jA o3.2 0]) (none):=by kernel_rfl
def Zf8:=Al (Rc Hb)
def Ky:=Qcc Hb Zf8
theorem Zht:Ai PG (VT Hb):=An rfl ⟨Q2z,trivial⟩
theorem Zmn:Ak PG (Zsx Ky):=rw2 (C:=Q75 Hb Zf8) (fl fb Zht) Zht
def XQ:Sk:=⟨[TS.v true [si .u64,si .u64],tf [si .u64]],[],[]⟩
def Qmy:Sk:=⟨[TS.tup [(true,[si .u64,si .u64]),(false,[sb])]],[],[]⟩
def Zls:=qd 296 XQ Qmy
def Qd1 (D:Fn):Cfg:=cf [Zgw D]
def Qeu (D:Fn):Fn:=Am PG (Qd1 D) 64 296 XQ Qmy
theorem Zuc (D:Fn) (I L G:Int):Qeu D [U I,U L,U G]=
 (D [U 0,U I,U G]).bind λo2=>
 (D [U (gA o2 1),U L,U G]).bind λo3=>
 some [U (gA o2 0),U (gA o3 0),B (decide (gA o3 1>0))]:=by kernel_rfl
def UJ:=Qeu GZ
theorem Yj8:Ai PG (Qd1 GZ):=An rfl ⟨Qv5,trivial⟩
theorem Z09:Ak PG (Zls UJ):=rw1 (C:=Qd1 GZ) Yj8
def Zan:=qd 287 Wk YZ
def Qik (D G I L M N O Cm:Fn):Cfg:=cf [W9 D,Q92 G,XY I,Zb1 L,Zls M,Uv N,Qtf O,Qed Cm]
def X2 (D G I L M N O Cm:Fn):Fn:=Am PG (Qik D G I L M N O Cm) 64 287 Wk YZ
abbrev Ra (Cx:Fn) (x3:Int) (Y:Fn) (G:List AC) (L:Bool) (M D N O:AC):Option (List AC):=
 cond (L) ((Cx [I x3,M,B true,D]).bind λa0=>
 cond (bA a0 0) ((Y [U (wrap .u64 (wrap .u64 ((gA G 0).tdiv 2)+1)),D]).bind λS=>
 some [jA S 0,B (bA S 1)]) ((Y [U (wrap .u64 ((gA G 0).tdiv 2)),D]).bind λT=>
 some [jA T 0,B (bA T 1)])) ((Cx [I x3,N,O,D]).bind λa1=>
 cond (bA a1 0) ((Y [U (wrap .u64 (wrap .u64 ((gA G 0).tdiv 2)+1)),D]).bind λV=>
 some [jA V 0,B (bA V 1)]) ((Y [U (wrap .u64 ((gA G 0).tdiv 2)),D]).bind λX=>
 some [jA X 0,B (bA X 1)]))
theorem Zny (O S Dh Gb NW BA DF Cm:Fn) (T V x2 N:Int):X2 O S Dh Gb NW BA DF Cm [I T,I V,I x2,I N]=
 (Cm [I T]).bind λa1=>
 cond (decide (gA a1 0>2147483648)) (some [I 0,B false]) ((Cm [I V]).bind λa2=>
 cond (decide (gA a2 0>2147483648)) (some [I 0,B false]) (cond (decide (x2<1)) (some [I 0,B false]) (cond (decide (x2>4611686018427387904)) (some [I 0,B false]) ((DF [I N]).bind λa3=>
 cond (!bA a3 0) (some [I 0,B false]) ((Cm [I T]).bind λX=>
 (Cm [I V]).bind λY=>
 (BA [U (wrap .u64 (2*wrap .u64 (gA X 0*gA Y 0))),U (wrap .u64 (2*wrap .u64 (gA X 0*gA Y 0)))]).bind λa0=>
 (NW [U (gA a0 0),U (gA a0 1),U (wrap .u64 x2)]).bind λD=>
 (Gb [U (gA D 0),U (gA D 1)]).bind λG=>
 cond (bA D 2) ((Dh [I T,I V]).bind λa4=>
 Ra S N O G ((gA G 0).tmod 2==1) (I 1) (B (decide (gA a4 0<0))) (I (-1)) (B true)) ((BA [U (gA G 0),U (gA G 0)]).bind λL=>
 (Dh [I T,I V]).bind λM=>
 cond ((gA G 0).tmod 2==1) (cond (!(gA L 0==gA D 0&&(gA L 1==gA D 1&&true))) (Ra S N O G (!(gA L 0==gA D 0&&(gA L 1==gA D 1&&true))) (I 1) (B (decide (gA M 0<0))) (I 1) (B ((gA G 0).tmod 2==1))) (Ra S N O G (!(gA L 0==gA D 0&&(gA L 1==gA D 1&&true))) (I 0) (B (decide (gA M 0<0))) (I 0) (B ((gA G 0).tmod 2==1)))) (Ra S N O G (!(gA L 0==gA D 0&&(gA L 1==gA D 1&&true))) (I (-1)) (B (decide (gA M 0<0))) (I (-1)) (B ((gA G 0).tmod 2==1))))))))):=by kernel_rfl
def Iz:=X2 Fg IJ GB JS UJ Ew Gw Gr
theorem Zoe:Ai PG (Qik Fg IJ GB JS UJ Ew Gw Gr):=An rfl ⟨Qnf,Zjh,Qf1,Q9u,Z09,Vf,Qrd,Ws,trivial⟩
theorem Qyd:Ak PG (Zan Iz):=rw1 (C:=Qik Fg IJ GB JS UJ Ew Gw Gr) Zoe
def Qzj:=qd 262 Qsr Qpj
def Qjy (D:Fn):Cfg:={cf [Zan D]with unroll:=[5,10]}
def Qt5 (D:Fn):Fn:=Am PG (Qjy D) 64 262 Qsr Qpj
theorem Znq (U:Fn) (D G L M N S T:Int):Qt5 U [I D,I G,I L,I M,I N,I S,I T]=
 cond (M==D&&(N==G&&(S==L&&true))) (some [I 0,I 0,I 0,B false]) (cond (decide (T<0)) (some [I 0,I 0,I 0,B false]) (cond (decide (T>33554432)) (some [I 0,I 0,I 0,B false]) ((U [I (O (M-D)),I T,I (O (O (O (0+O (O (M-D)*O (M-D)))+O (O (N-G)*O (N-G)))+O (O (S-L)*O (S-L)))),I 2]).bind λo3=>
 (U [I (O (N-G)),I T,I (O (O (O (0+O (O (M-D)*O (M-D)))+O (O (N-G)*O (N-G)))+O (O (S-L)*O (S-L)))),I 2]).bind λo4=>
 (U [I (O (S-L)),I T,I (O (O (O (0+O (O (M-D)*O (M-D)))+O (O (N-G)*O (N-G)))+O (O (S-L)*O (S-L)))),I 2]).bind λV=>
 some [I (O (D+gA o3 0)),I (O (G+gA o4 0)),I (O (L+gA V 0)),B true]))):=by kernel_rfl
def G4:=Qt5 Iz
theorem Zy6:Ai PG (Qjy Iz):=An rfl ⟨Qyd,trivial⟩
theorem Q8q:Ak PG (Qzj G4):=rw1 (C:=Qjy Iz) Zy6
def Yfy:=qd 261 Qs5 Y3
def V6 (D G I:Fn):Cfg:=cf [Q17 D,Qzj G,Qxe I]
def Qvk:Sk:=⟨[td,td,td,tf [ci],tf [sd 4 0],tf [sd 5 0],tf [sd 6 0],td,td,tf [ci],tf [ci],tf [ci]]++dd 62,[(4,42,[ci,ci,ci]),(5,42,[ci,ci,ci]),(6,42,[ci,ci,ci])],[]⟩
def Q9b:List (Ex×Sk):=[(Ex.exit 0,⟨dd 10++[tf [ci]]++dd 63,[],[]⟩)]
def NV (D G I:Fn):Lp:=AG PG (V6 D G I) 64 6 (AH PG 261 6) Qvk Q9b
def Zfa (D G I:Fn) (L:Lp):Cfg:=(V6 D G I).loop 6 Qvk Q9b L
def Qqp (D G I:Fn) (L:Lp):Fn:=Am PG (Zfa D G I L) 64 261 Qs5 Y3
theorem Za9 (CM Y Di:Fn) (S T G D U V X L M N v10 v11 v12:Int):NV CM Y Di [I S,I T,I G,I D,I U,I V,I X,I L,I M,I N,I v10,I v11,I v12]=
 cond (decide (D>0)) (cond (decide (O (G+D)>T)) (some (0,[I S,I T,I G,I (D.fdiv (2^min (Int.toNat 1) IntKind.i64.bits)),I U,I V,I X,I L,I M,I N,I v10,I v11,I v12])) ((Y [I L,I M,I N,I U,I V,I X,I (O (G+D))]).bind λo8=>
 (Y [I L,I M,I N,I v10,I v11,I v12,I (O (G+D))]).bind λo9=>
 (CM [jA o8 0,jA o8 1,jA o8 2,I L,I M,I N,jA o9 0,jA o9 1,jA o9 2]).bind λa0=>
 cond (decide (gA a0 0<=O (O (16*S)*S))) (some (0,[I S,I T,I (O (G+D)),I (D.fdiv (2^min (Int.toNat 1) IntKind.i64.bits)),I U,I V,I X,I L,I M,I N,I v10,I v11,I v12])) (some (0,[I S,I T,I G,I (D.fdiv (2^min (Int.toNat 1) IntKind.i64.bits)),I U,I V,I X,I L,I M,I N,I v10,I v11,I v12])))) (some (1,[I G])):=by kernel_rfl
theorem Zt9 (CM Cp Y:Fn) (N6:Lp) (N S T G L M U V X x9:Int):Qqp CM Cp Y N6 [I N,I S,I T,I G,I L,I M,I U,I V,I X,I x9]=
 cond (N==G&&(S==L&&(T==M&&true))) (some [I 0]) (cond (U==G&&(V==L&&(X==M&&true))) (some [I 0]) ((Y [I N,I S,I T,I G,I L,I M]).bind λa0=>
 (Y [I G,I L,I M,I U,I V,I X]).bind λa1=>
 (N6 [I x9,I (O (mn (gA a0 0) (gA a1 0)-2)),I 0,I 16777216,I N,I S,I T,I G,I L,I M,I U,I V,I X]).bind λD=>
 cond (D.1.beq 1) (cond (decide (gA D.2 0<16)) (some [I 0]) (some [jA D.2 0])) (none))):=by kernel_rfl
def Zbu:=Al (NV Hb G4 Jj)
def LV:=Qqp Hb G4 Jj Zbu
theorem Qxx:Ai PG (V6 Hb G4 Jj):=An rfl ⟨Q2z,Q8q,Qy4,trivial⟩
theorem Zw0:Ak PG (Yfy LV):=rw2 (C:=Zfa Hb G4 Jj Zbu) (fl fb Qxx) Qxx
def Zpk:=qd 235 Qs5 Qqk
def Qe1 (D G I L:Fn):Cfg:={cf [RP D,Zsx G,Qzj I,Yfy L]with unroll:=[13]}
def Zjk:Sk:=⟨[td,td,td,td,td,tf [sd 5 0],td,td,td,td,tf [sd 10 0],td,tf [sd 12 0],td,tf [ci],tf [se 50 3]]++dd 36++[tf [ci],tf [ci]]++dd 57,[(5,42,[ci,ci,ci]),(10,42,[ci,ci,ci]),(12,42,[ci,ci,ci])],[(50,42,kPt)]⟩
def Qvo:List (Ex×Sk):=[(Ex.exit 0,⟨dd 15++[tf [se 50 3]]++dd 95,[],[(50,42,kPt)]⟩)]
def Pa (D G I L:Fn):Lp:=AG PG (Qe1 D G I L) 64 9 (AH PG 235 9) Zjk Qvo
def Zdl (D G I L:Fn) (M:Lp):Cfg:=(Qe1 D G I L).loop 9 Zjk Qvo M
def Qoq (D G I L:Fn) (M:Lp):Fn:=Am PG (Zdl D G I L M) 64 235 Qs5 Qqk
theorem Qvt (V He Cp GF:Fn) (G:Rw) (T X D L M N Y v8 v9 v10 v11 v12:Int):Pa V He Cp GF [.vC kPt G,I T,I X,I D,I L,I M,I N,I Y,I v8,I v9,I v10,I v11,I v12]=
 cond (decide (D<X)) (cond (decide (0<=D)&&decide (D<(G.length:Int))) ((V [I (O (O (O (O (T-D)*O (T-D))*O (Y-L))+O (O (D*D)*O (v10-L)))),I 1,I (O (T*T)),I 2]).bind λS=>
 cond (decide (0<=D)&&decide (D<(G.length:Int))) (cond (decide (0<=D)&&decide (D<(G.length:Int))) ((V [I (O (O (O (O (T-D)*O (T-D))*O (v8-M))+O (O (D*D)*O (v11-M)))),I 1,I (O (T*T)),I 2]).bind λU=>
 cond (decide (0<=D)&&decide (D<(G.length:Int))) (cond (decide (0<=D)&&decide (D<(G.length:Int))) ((V [I (O (O (O (O (T-D)*O (T-D))*O (v9-N))+O (O (D*D)*O (v12-N)))),I 1,I (O (T*T)),I 2]).bind λa0=>
 cond (decide (0<=D)&&decide (D<(G.length:Int))) (cond (decide (0<=D)&&decide (D<(G.length:Int))) (some (0,[.vC kPt ((((G.set D.toNat [I L,I M,I N]).set D.toNat [I (O (Ah (nth .vD (nth [] (G.set D.toNat [I L,I M,I N]) D.toNat) 0)+gA S 0)),I (Ah (nth .vD (nth [] (G.set D.toNat [I L,I M,I N]) D.toNat) 1)),I (Ah (nth .vD (nth [] (G.set D.toNat [I L,I M,I N]) D.toNat) 2))]).set D.toNat [I (Ah (nth .vD (nth [] ((G.set D.toNat [I L,I M,I N]).set D.toNat [I (O (Ah (nth .vD (nth [] (G.set D.toNat [I L,I M,I N]) D.toNat) 0)+gA S 0)),I (Ah (nth .vD (nth [] (G.set D.toNat [I L,I M,I N]) D.toNat) 1)),I (Ah (nth .vD (nth [] (G.set D.toNat [I L,I M,I N]) D.toNat) 2))]) D.toNat) 0)),I (O (Ah (nth .vD (nth [] ((G.set D.toNat [I L,I M,I N]).set D.toNat [I (O (Ah (nth .vD (nth [] (G.set D.toNat [I L,I M,I N]) D.toNat) 0)+gA S 0)),I (Ah (nth .vD (nth [] (G.set D.toNat [I L,I M,I N]) D.toNat) 1)),I (Ah (nth .vD (nth [] (G.set D.toNat [I L,I M,I N]) D.toNat) 2))]) D.toNat) 1)+gA U 0)),I (Ah (nth .vD (nth [] ((G.set D.toNat [I L,I M,I N]).set D.toNat [I (O (Ah (nth .vD (nth [] (G.set D.toNat [I L,I M,I N]) D.toNat) 0)+gA S 0)),I (Ah (nth .vD (nth [] (G.set D.toNat [I L,I M,I N]) D.toNat) 1)),I (Ah (nth .vD (nth [] (G.set D.toNat [I L,I M,I N]) D.toNat) 2))]) D.toNat) 2))]).set D.toNat [I (Ah (nth .vD (nth [] (((G.set D.toNat [I L,I M,I N]).set D.toNat [I (O (Ah (nth .vD (nth [] (G.set D.toNat [I L,I M,I N]) D.toNat) 0)+gA S 0)),I (Ah (nth .vD (nth [] (G.set D.toNat [I L,I M,I N]) D.toNat) 1)),I (Ah (nth .vD (nth [] (G.set D.toNat [I L,I M,I N]) D.toNat) 2))]).set D.toNat [I (Ah (nth .vD (nth [] ((G.set D.toNat [I L,I M,I N]).set D.toNat [I (O (Ah (nth .vD (nth [] (G.set D.toNat [I L,I M,I N]) D.toNat) 0)+gA S 0)),I (Ah (nth .vD (nth [] (G.set D.toNat [I L,I M,I N]) D.toNat) 1)),I (Ah (nth .vD (nth [] (G.set D.toNat [I L,I M,I N]) D.toNat) 2))]) D.toNat) 0)),I (O (Ah (nth .vD (nth [] ((G.set D.toNat [I L,I M,I N]).set D.toNat [I (O (Ah (nth .vD (nth [] (G.set D.toNat [I L,I M,I N]) D.toNat) 0)+gA S 0)),I (Ah (nth .vD (nth [] (G.set D.toNat [I L,I M,I N]) D.toNat) 1)),I (Ah (nth .vD (nth [] (G.set D.toNat [I L,I M,I N]) D.toNat) 2))]) D.toNat) 1)+gA U 0)),I (Ah (nth .vD (nth [] ((G.set D.toNat [I L,I M,I N]).set D.toNat [I (O (Ah (nth .vD (nth [] (G.set D.toNat [I L,I M,I N]) D.toNat) 0)+gA S 0)),I (Ah (nth .vD (nth [] (G.set D.toNat [I L,I M,I N]) D.toNat) 1)),I (Ah (nth .vD (nth [] (G.set D.toNat [I L,I M,I N]) D.toNat) 2))]) D.toNat) 2))]) D.toNat) 0)),I (Ah (nth .vD (nth [] (((G.set D.toNat [I L,I M,I N]).set D.toNat [I (O (Ah (nth .vD (nth [] (G.set D.toNat [I L,I M,I N]) D.toNat) 0)+gA S 0)),I (Ah (nth .vD (nth [] (G.set D.toNat [I L,I M,I N]) D.toNat) 1)),I (Ah (nth .vD (nth [] (G.set D.toNat [I L,I M,I N]) D.toNat) 2))]).set D.toNat [I (Ah (nth .vD (nth [] ((G.set D.toNat [I L,I M,I N]).set D.toNat [I (O (Ah (nth .vD (nth [] (G.set D.toNat [I L,I M,I N]) D.toNat) 0)+gA S 0)),I (Ah (nth .vD (nth [] (G.set D.toNat [I L,I M,I N]) D.toNat) 1)),I (Ah (nth .vD (nth [] (G.set D.toNat [I L,I M,I N]) D.toNat) 2))]) D.toNat) 0)),I (O (Ah (nth .vD (nth [] ((G.set D.toNat [I L,I M,I N]).set D.toNat [I (O (Ah (nth .vD (nth [] (G.set D.toNat [I L,I M,I N]) D.toNat) 0)+gA S 0)),I (Ah (nth .vD (nth [] (G.set D.toNat [I L,I M,I N]) D.toNat) 1)),I (Ah (nth .vD (nth [] (G.set D.toNat [I L,I M,I N]) D.toNat) 2))]) D.toNat) 1)+gA U 0)),I (Ah (nth .vD (nth [] ((G.set D.toNat [I L,I M,I N]).set D.toNat [I (O (Ah (nth .vD (nth [] (G.set D.toNat [I L,I M,I N]) D.toNat) 0)+gA S 0)),I (Ah (nth .vD (nth [] (G.set D.toNat [I L,I M,I N]) D.toNat) 1)),I (Ah (nth .vD (nth [] (G.set D.toNat [I L,I M,I N]) D.toNat) 2))]) D.toNat) 2))]) D.toNat) 1)),I (O (Ah (nth .vD (nth [] (((G.set D.toNat [I L,I M,I N]).set D.toNat [I (O (Ah (nth .vD (nth [] (G.set D.toNat [I L,I M,I N]) D.toNat) 0)+gA S 0)),I (Ah (nth .vD (nth [] (G.set D.toNat [I L,I M,I N]) D.toNat) 1)),I (Ah (nth .vD (nth [] (G.set D.toNat [I L,I M,I N]) D.toNat) 2))]).set D.toNat [I (Ah (nth .vD (nth [] ((G.set D.toNat [I L,I M,I N]).set D.toNat [I (O (Ah (nth .vD (nth [] (G.set D.toNat [I L,I M,I N]) D.toNat) 0)+gA S 0)),I (Ah (nth .vD (nth [] (G.set D.toNat [I L,I M,I N]) D.toNat) 1)),I (Ah (nth .vD (nth [] (G.set D.toNat [I L,I M,I N]) D.toNat) 2))]) D.toNat) 0)),I (O (Ah (nth .vD (nth [] ((G.set D.toNat [I L,I M,I N]).set D.toNat [I (O (Ah (nth .vD (nth [] (G.set D.toNat [I L,I M,I N]) D.toNat) 0)+gA S 0)),I (Ah (nth .vD (nth [] (G.set D.toNat [I L,I M,I N]) D.toNat) 1)),I (Ah (nth .vD (nth [] (G.set D.toNat [I L,I M,I N]) D.toNat) 2))]) D.toNat) 1)+gA U 0)),I (Ah (nth .vD (nth [] ((G.set D.toNat [I L,I M,I N]).set D.toNat [I (O (Ah (nth .vD (nth [] (G.set D.toNat [I L,I M,I N]) D.toNat) 0)+gA S 0)),I (Ah (nth .vD (nth [] (G.set D.toNat [I L,I M,I N]) D.toNat) 1)),I (Ah (nth .vD (nth [] (G.set D.toNat [I L,I M,I N]) D.toNat) 2))]) D.toNat) 2))]) D.toNat) 2)+gA a0 0))]),I T,I X,I (O (D+1)),I L,I M,I N,I Y,I v8,I v9,I v10,I v11,I v12])) (none)) (none)) (none)) (none)) (none)) (none)) (none)) (some (1,[.vC kPt G])):=by kernel_rfl
theorem Q82 (A8 He V GF:Fn) (N9:Lp) (X Y x2 M N S x6 x7 x8 x9:Int):Qoq A8 He V GF N9 [I X,I Y,I x2,I M,I N,I S,I x6,I x7,I x8,I x9]=
 (GF [I X,I Y,I x2,I M,I N,I S,I x6,I x7,I x8,I x9]).bind λT=>
 cond (gA T 0==0) (some [.vC kPt [[I M,I N,I S]]]) ((V [I M,I N,I S,I X,I Y,I x2,jA T 0]).bind λG=>
 (V [I M,I N,I S,I x6,I x7,I x8,jA T 0]).bind λL=>
 (He [jA G 0,jA G 1,jA G 2,I M,I N,I S,jA L 0,jA L 1,jA L 2]).bind λD=>
 cond (decide (O (gA D 0+1)=O (gA D 0+1))) (cond (decide (0<=O (gA D 0+1))&&decide (O (gA D 0+1)*(↑24:Int)<=140737488355328)) ((N9 [.vC kPt (List.replicate (O (gA D 0+1)).toNat [I 0,I 0,I 0]),jA D 0,I (↑(List.replicate (O (gA D 0+1)).toNat [I 0,I 0,I 0]).length:Int),I 0,I M,I N,I S,jA G 0,jA G 1,jA G 2,jA L 0,jA L 1,jA L 2]).bind λU=>
 cond (U.1.beq 1) (some [.vC kPt (wA U.2 0)]) (none)) (none)) (none)):=by kernel_rfl
def Q7p:=Al (Pa CU Ky G4 LV)
def P6:=Qoq CU Ky G4 LV Q7p
theorem Zay:Ai PG (Qe1 CU Ky G4 LV):=An rfl ⟨QF,Zmn,Q8q,Zw0,trivial⟩
theorem Yc6:Ak PG (Zpk P6):=rw2 (C:=Zdl CU Ky G4 LV Q7p) (fl fb Zay) Zay
def Z81:=qd 236 Quv Quv
def Q1s:Fn:=Am PG Qjw 64 236 Quv Quv
theorem Zuf (D G L:Int):Q1s [I D,I G,I L]=
 some [I (O (D*16)),I (O (G*16)),I (O (L*16))]:=by kernel_rfl
def OH:=Q1s
theorem Zqt:Ai PG (Qjw):=An rfl trivial
theorem Zvn:Ak PG (Z81 OH):=rw1 (C:=Qjw) Zqt
def Qcn:Sk:=⟨[TS.v true (cc 13++[sb,ci,sb]++cc 5++[sb]),TS.v true (cc 13++[sb,ci,sb]++cc 5++[sb])],[],[]⟩
def Qu9:Sk:=⟨[TS.tup [(false,[sa kPt]),(false,[sa kPt])]],[],[]⟩
def Zly:=qd 188 Qcn Qu9
def Qiw (D G I:Fn):Cfg:=cf [Zpk D,Z81 G,Qex I]
def Qle (D G I:Fn):Fn:=Am PG (Qiw D G I) 64 188 Qcn Qu9
theorem Yir (Nl OL BV:Fn) (x0 x1 x2 x3 x4 x5 x6 x7 x8 x9 L M N:Int) (S:Bool) (T:Int) (U:Bool) (V X G Y a0:Int) (a1:Bool) (a2 a3 a4 a5 a6 a7 a8 a9 b0 b1 b2 b3 b4:Int) (b5:Bool) (b6:Int) (b7:Bool) (b8 b9 c0 c1 c2:Int) (c3:Bool):Qle Nl OL BV [I x0,I x1,I x2,I x3,I x4,I x5,I x6,I x7,I x8,I x9,I L,I M,I N,B S,I T,B U,I V,I X,I G,I Y,I a0,B a1,I a2,I a3,I a4,I a5,I a6,I a7,I a8,I a9,I b0,I b1,I b2,I b3,I b4,B b5,I b6,B b7,I b8,I b9,I c0,I c1,I c2,B c3]=
 (BV [I x0,I x1,I x2,I x3,I x4,I x5,I x6,I x7,I x8,I x9,I L,I M,I N,B S,I T,B U,I V,I X,I G,I Y,I a0,B a1]).bind λo4=>
 (OL [I x5,I x6,I x7]).bind λo5=>
 (BV [I a2,I a3,I a4,I a5,I a6,I a7,I a8,I a9,I b0,I b1,I b2,I b3,I b4,B b5,I b6,B b7,I b8,I b9,I c0,I c1,I c2,B c3]).bind λo6=>
 (Nl [jA o4 0,jA o4 1,jA o4 2,jA o5 0,jA o5 1,jA o5 2,jA o6 0,jA o6 1,jA o6 2,I (O (G*16))]).bind λD=>
 cond (decide (0<=O (O ((O ((↑(wA D 0).length:Int)-1)).tdiv 2)+1))&&decide (O (O ((O ((↑(wA D 0).length:Int)-1)).tdiv 2)+1)<=(↑(wA D 0).length:Int))) (cond (decide (0<=O ((O ((↑(wA D 0).length:Int)-1)).tdiv 2))&&decide (O ((O ((↑(wA D 0).length:Int)-1)).tdiv 2)<=(↑(wA D 0).length:Int))) (some [.vC kPt (List.take (O (O ((O ((↑(wA D 0).length:Int)-1)).tdiv 2)+1)).toNat (wA D 0)), .vC kPt (List.drop (O ((O ((↑(wA D 0).length:Int)-1)).tdiv 2)).toNat (wA D 0))]) (none)) (none):=by kernel_rfl
def RF:=Qle P6 OH Gm
theorem Z89:Ai PG (Qiw P6 OH Gm):=An rfl ⟨Yc6,Zvn,Qu6,trivial⟩
theorem Ybt:Ak PG (Zly RF):=rw1 (C:=Qiw P6 OH Gm) Z89
def Qip:Sk:=⟨[TS.tup [(false,[ci]),(false,[ci]),(false,[ci]),(false,[sb])]],[],[]⟩
def Qsc:=qd 179 Y3 Qip
def Qxj:Fn:=Am PG Qjw 64 179 Y3 Qip
theorem Ybd (D:Int):Qxj [I D]=
 cond (D==17) (some [I 0,I 1,I 2,B true]) (cond (D==18) (some [I 2,I 0,I 1,B true]) (cond (D==19) (some [I 1,I 2,I 0,B true]) (some [I 0,I 0,I 0,B false]))):=by kernel_rfl
def FE:=Qxj
theorem Z96:Ai PG (Qjw):=An rfl trivial
theorem Qs0:Ak PG (Qsc FE):=rw1 (C:=Qjw) Z96
def Znn:=qd 234 Wk Quv
def Qjm (D:Fn):Cfg:=cf [Qsc D]
def Qk6 (D:Fn):Fn:=Am PG (Qjm D) 64 234 Wk Quv
abbrev UM (o1:List AC) (M:Int) (D G L:AC):Option (List AC):=
 cond (decide (gA o1 2=(↑0:Int))) (some [I M,D,G]) (cond (decide (gA o1 2=(↑(0+1):Int))) (some [L,I M,G]) (cond (decide (gA o1 2=(↑(0+1+1):Int))) (some [L,D,I M]) (none)))
abbrev SN (o1:List AC) (M N:Int) (D G L:AC):Option (List AC):=
 cond (decide (gA o1 1=(↑0:Int))) (UM o1 M D G (I N)) (cond (decide (gA o1 1=(↑(0+1):Int))) (UM o1 M (I N) G L) (cond (decide (gA o1 1=(↑(0+1+1):Int))) (UM o1 M D (I N) L) (none)))
theorem Z4t (M:Fn) (D G L N:Int):Qk6 M [I D,I G,I L,I N]=
 (M [I N]).bind λo1=>
 cond (bA o1 3) (cond (decide (gA o1 0=(↑0:Int))) (SN o1 L G (I 0) (I 0) (I D)) (cond (decide (gA o1 0=(↑(0+1):Int))) (SN o1 L G (I D) (I 0) (I 0)) (cond (decide (gA o1 0=(↑(0+1+1):Int))) (SN o1 L G (I 0) (I D) (I 0)) (none)))) (some [I 0,I 0,I 0]):=by kernel_rfl
def Nd:=Qk6 FE
theorem Yiz:Ai PG (Qjm FE):=An rfl ⟨Qs0,trivial⟩
theorem Yci:Ak PG (Znn Nd):=rw1 (C:=Qjm FE) Yiz
def Q2i:=qd 173 Qg5 Qm1
def WG (D:Fn):Cfg:=cf [Qsc D]
def VQ (D:Fn):Fn:=Am PG (WG D) 64 173 Qg5 Qm1
abbrev SO (o1:List AC) (D:AC) (L M N:Int) (G:AC):Option (List AC):=
 cond (decide (gA o1 2=(↑0:Int))) (some [D,G,I L]) (cond (decide (gA o1 2=(↑(0+1):Int))) (some [D,G,I M]) (cond (decide (gA o1 2=(↑(0+1+1):Int))) (some [D,G,I N]) (none)))
abbrev Ty (o1:List AC) (G L M:Int) (D:AC):Option (List AC):=
 cond (decide (gA o1 1=(↑0:Int))) (SO o1 D G L M (I G)) (cond (decide (gA o1 1=(↑(0+1):Int))) (SO o1 D G L M (I L)) (cond (decide (gA o1 1=(↑(0+1+1):Int))) (SO o1 D G L M (I M)) (none)))
theorem Yiq (M:Fn) (D G L N:Int):VQ M [I D,I G,I L,I N]=
 (M [I N]).bind λo1=>
 cond (!bA o1 3) (some [I 0,I 0,I 0]) (cond (decide (gA o1 0=(↑0:Int))) (Ty o1 D G L (I D)) (cond (decide (gA o1 0=(↑(0+1):Int))) (Ty o1 D G L (I G)) (cond (decide (gA o1 0=(↑(0+1+1):Int))) (Ty o1 D G L (I L)) (none)))):=by kernel_rfl
def H9:=VQ FE
theorem Zp7:Ai PG (WG FE):=An rfl ⟨Qs0,trivial⟩
theorem Qz1:Ak PG (Q2i H9):=rw1 (C:=WG FE) Zp7
def Zgt:=qd 231 Quv Quv
def Qxl:Fn:=Am PG Qjw 64 231 Quv Quv
theorem Zum (D G L:Int):Qxl [I D,I G,I L]=
 some [I (O (D*16)),I (O (G*16)),I (O (L*16))]:=by kernel_rfl
def HD:=Qxl
theorem Ybq:Ai PG (Qjw):=An rfl trivial
theorem Zdh:Ak PG (Zgt HD):=rw1 (C:=Qjw) Ybq
def Qmb:=qd 183 YV Y3
def Qzf:Fn:=Am PG Qjw 64 183 YV Y3
theorem Zuq (D G N S L M T U:Int):Qzf [I D,I G,I N,I S,I L,I M,I T,I U]=
 some [I (O (O (D*M)-O (G*L)))]:=by kernel_rfl
def Hc:=Qzf
theorem Z67:Ai PG (Qjw):=An rfl trivial
theorem XS:Ak PG (Qmb Hc):=rw1 (C:=Qjw) Z67
def Qt4:=qd 181 YV Y3
def Q1t:Fn:=Am PG Qjw 64 181 YV Y3
theorem Z6s (D G N S L M T U:Int):Q1t [I D,I G,I N,I S,I L,I M,I T,I U]=
 some [I (O (O (D*L)+O (G*M)))]:=by kernel_rfl
def GQ:=Q1t
theorem Ztp:Ai PG (Qjw):=An rfl trivial
theorem Qca:Ak PG (Qt4 GQ):=rw1 (C:=Qjw) Ztp
def Yf4:=qd 285 Qdt Y_
def Qj9 (D G I:Fn):Cfg:=cf [Zan D,Qmb G,Qt4 I]
def Qg9 (D G I:Fn):Fn:=Am PG (Qj9 D G I) 64 285 Qdt Y_
abbrev Qdo (U:Fn) (G:AC) (M N:Int) (D L:AC) (V X:Int):Option (List AC):=
 (U [G,I ((O (O (M+N)+1)).fdiv (2^min (Int.toNat 1) IntKind.i64.bits)),D,I 2]).bind λS=>
 (U [L,I ((O (O (M+N)+1)).fdiv (2^min (Int.toNat 1) IntKind.i64.bits)),D,I 2]).bind λT=>
 some [jA S 0,jA T 0,I ((O (O (M+N)+1)).fdiv (2^min (Int.toNat 1) IntKind.i64.bits)),I ((O (O (V+X)+1)).fdiv (2^min (Int.toNat 1) IntKind.i64.bits)),B true]
abbrev RC (O:Fn) (S T U V:Int) (M N:Bool) (D G L:AC):Option (List AC):=
 cond (M) (cond (N) (some [I 0,I 0,I 0,I 0,B false]) (Qdo O D S T G L U V)) (Qdo O D S T G L U V)
abbrev Z_ (x9:Bool) (X:Fn) (S T U V D G:Int) (Cg:Fn) (L M N:Int) (CK:Fn):Option (List AC):=
 cond (x9) (RC X S T U V (O (0-D)==0) (O (0-G)==0) (I (O (0-D))) (I (O (O (O (0-D)*O (0-D))+O (O (0-G)*O (0-G))))) (I (O (0-G)))) ((Cg [I D,I G,I S,I U,I L,I M,I T,I V]).bind λY=>
 cond (decide (gA Y 0<=0)) (RC X S T U V (O (N*O (M-G))==0) (O (N*O (D-L))==0) (I (O (N*O (M-G)))) (I (O (O (O (N*O (M-G))*O (N*O (M-G)))+O (O (N*O (D-L))*O (N*O (D-L)))))) (I (O (N*O (D-L))))) ((CK [I D,I G,I S,I U,I L,I M,I T,I V]).bind λa0=>
 cond (decide (O (gA a0 0*N)<=0)) (RC X S T U V (O (0-O (D+L))==0) (O (0-O (G+M))==0) (I (O (0-O (D+L)))) (I (O (O (O (0-O (D+L))*O (0-O (D+L)))+O (O (0-O (G+M))*O (0-O (G+M)))))) (I (O (0-O (G+M))))) (RC X S T U V (O (D+L)==0) (O (G+M)==0) (I (O (D+L))) (I (O (O (O (D+L)*O (D+L))+O (O (G+M)*O (G+M))))) (I (O (G+M))))))
theorem Zwt (G L M:Fn) (N O S T U V X Y D:Int) (x9:Bool):Qg9 G L M [I N,I O,I S,I T,I U,I V,I X,I Y,I D,B x9]=
 cond (D !=1) (cond (D != -1) (some [I 0,I 0,I 0,I 0,B false]) (Z_ x9 G S X T Y N O M U V D L)) (Z_ x9 G S X T Y N O M U V D L):=by kernel_rfl
def My:=Qg9 Iz Hc GQ
theorem Ybb:Ai PG (Qj9 Iz Hc GQ):=An rfl ⟨Qyd,XS,Qca,trivial⟩
theorem Yc1:Ak PG (Yf4 My):=rw1 (C:=Qj9 Iz Hc GQ) Ybb
def Z3e:=qd 295 ZA V1
def Q9i:Fn:=Am PG Qjw 64 295 ZA V1
theorem Z8l (D G:Int):Q9i [I D,I G]=
 some [B (decide (G<=O (O (O (8*D)*4)-64)))]:=by kernel_rfl
def Oq:=Q9i
theorem Z4z:Ai PG (Qjw):=An rfl trivial
theorem Zkv:Ak PG (Z3e Oq):=rw1 (C:=Qjw) Z4z
def Qgr:Sk:=⟨[tf [sd 20000 0],TS.v true [ci,ci,ci,ci],TS.v true [ci,ci,ci,ci],tf [sb]],[(20000,304,[ci,se 20000 4])],[(20000,228,[kI,kI,kI,kI])]⟩
def Xw:Sk:=⟨[tf [sb]],[(20000,304,[ci,se 20000 4])],[(20000,228,[kI,kI,kI,kI])]⟩
def Zsu:=qd 284 Qgr Xw
def Qun (D G:Fn):Cfg:=cf [Z3e D,Qmb G]
def Qkv (D G:Fn):Fn:=Am PG (Qun D G) 64 284 Qgr Xw
theorem Zok (V X:Fn) (G:Rw) (L M T Y N S U x8:Int) (x9:Bool) (D:Int):Qkv V X [.vC [kI,kI,kI,kI] G,I L,I M,I T,I Y,I N,I S,I U,I x8,B x9,I D]=
 cond (!x9) ((X [I L,I M,I T,I Y,I N,I S,I U,I x8]).bind λo2=>
 cond (decide (O (gA o2 0*D)>0)) ((V [I (mn T U),I (O (O (O (L-N)*O (L-N))+O (O (M-S)*O (M-S))))]).bind λo3=>
 some [.vC [kI,kI,kI,kI] G,B (bA o3 0),I D]) (some [.vC [kI,kI,kI,kI] G,B false,I D])) (some [.vC [kI,kI,kI,kI] G,B false,I D]):=by kernel_rfl
def LF:=Qkv Oq Hc
theorem Z3b:Ai PG (Qun Oq Hc):=An rfl ⟨Zkv,XS,trivial⟩
theorem Zxp:Ak PG (Zsu LF):=rw1 (C:=Qun Oq Hc) Z3b
def Q22:Nat:=20
def Mg:Sk:=⟨[tf [sd 20000 0],TS.v true [ci,ci,ci,ci],TS.v true [ci,ci,ci,ci],tf [sb],tf [ci]],[(20000,304,[ci,se 20000 4])],[(20000,228,[kI,kI,kI,kI])]⟩
def Mv:Sk:=⟨[TS.tup []],[(20000,304,[ci,se 20000 4])],[(20000,228,[kI,kI,kI,kI])]⟩
def Zjv:=qd 260 Mg Mv
def Qsn (D G I:Fn):Cfg:=cp [Zjv D,Yf4 G,Zsu I] [260,284]
def U8 (D G I:Fn):Fn:=Am PG (Qsn D G I) 64 260 Mg Mv
theorem Qwc (FB Od Om:Fn) (U:Rw) (V X Y x4 D G L M:Int) (x9:Bool) (N T:Int):U8 FB Od Om [.vC [kI,kI,kI,kI] U,I V,I X,I Y,I x4,I D,I G,I L,I M,B x9,I N,I T]=
 cond (decide (N<16)) ((Om [.vC [kI,kI,kI,kI] U,I V,I X,I Y,I x4,I D,I G,I L,I M,B x9,I T]).bind λo4=>
 cond (!bA o4 1) ((Od [I V,I X,I Y,I x4,I D,I G,I L,I M,jA o4 2,B x9]).bind λS=>
 cond (bA S 4) ((FB [.vC [kI,kI,kI,kI] (wA o4 0),I V,I X,I Y,I x4,jA S 0,jA S 1,jA S 2,jA S 3,B false,I (O (N+1)),jA o4 2]).bind λo6=>
 (FB [.vC [kI,kI,kI,kI] (wA o6 0),jA S 0,jA S 1,jA S 2,jA S 3,I D,I G,I L,I M,B false,I (O (N+1)),jA o6 1]).bind λo7=>
 some [.vC [kI,kI,kI,kI] (wA o7 0),jA o7 1]) (cond (((wA o4 0++[[I D,I G,I L,I M]]).length*32).ble 140737488355328) (some [.vC [kI,kI,kI,kI] (wA o4 0++[[I D,I G,I L,I M]]),jA o4 2]) (none))) (cond (((wA o4 0++[[I D,I G,I L,I M]]).length*32).ble 140737488355328) (some [.vC [kI,kI,kI,kI] (wA o4 0++[[I D,I G,I L,I M]]),jA o4 2]) (none))) (cond (((U++[[I D,I G,I L,I M]]).length*32).ble 140737488355328) (some [.vC [kI,kI,kI,kI] (U++[[I D,I G,I L,I M]]),I T]) (none)):=by kernel_rfl
def Zje (M:Fn):Fn:=U8 M My LF
def OG:Nat->Fn
 |0=>λ_=>none
 |n+1=>Zje (OG n)
theorem Z8w {M:Fn} (h:Ak PG (260,Ab Mg Mv M)):Ai PG (Qsn M My LF):=An rfl ⟨h,Yc1,Zxp,trivial⟩
theorem Zor {M:Fn} (h:Ak PG (260,Ab Mg Mv M)):Ak PG (260,Ab Mg Mv (Zje M)):=Vr (C:=Qsn M My LF) (L:=64) (by kernel_rfl) (FnOK.bare rfl rfl rfl) (Z8w h) eqOk GI (by kernel_rfl) (by kernel_rfl)
theorem Zgb:∀n,Ak PG (260,Ab Mg Mv (OG n))
 |0=>F0
 |n+1=>Zor (Zgb n)
def S0:=OG Q22
theorem Z55:Ak PG (Zjv S0):=Zgb Q22
def Zcr:=qd 180 Qnx Qh0
def Qb6 (D G:Fn):Cfg:=cf [Q2i D,Zgt G]
def Q67:Sk:=⟨[td,tf [sd 1 0],tf [sd 2 0],tf [sd 3 0],tf [sd 4 0],tf [ci],tf [ci]]++dd 20++[TS.v true (cc 6),tf [ci]]++dd 27,[(1,31,cc 13++[sb,ci,sb]++cc 5++[sb]),(2,228,[ci,ci,ci,ci]),(3,228,[ci,ci,ci,ci]),(4,277,cc 8)],[]⟩
def Q4j:List (Ex×Sk):=[(Ex.exit 0,⟨[td,td,tf [sd 2 0],tf [sd 3 0],tf [sd 4 0]]++dd 51,[(2,228,[ci,ci,ci,ci]),(3,228,[ci,ci,ci,ci]),(4,277,cc 8)],[]⟩)]
def Qt9 (D G:Fn):Lp:=AG PG (Qb6 D G) 64 4 (AH PG 180 4) Q67 Q4j
def Qy9 (D G:Fn) (I:Lp):Cfg:=(Qb6 D G).loop 4 Q67 Q4j I
def Zg (D G:Fn) (I:Lp):Fn:=Am PG (Qy9 D G I) 64 180 Qnx Qh0
abbrev Qlf (BR Ca:Fn) (G v8 v0 v1 v2 v3 v4 v5 v6 v7 v9 v10 v11 v12 L M N S T U v20 v21:Int) (v22:Bool) (V:Int) (v24:Bool) (v25 X v27 v28 Y:Int) (v30:Bool) (v31 a0 v33 a1 v35 v36 v37 v38 a5 v44 a6 v46 a7 v40 a8 v42:Int) (a2 a3 a4:AC):Option (Nat×List AC):=
 (BR [a2,a3,a4]).bind λo9=>
 (Ca [jA o9 0,jA o9 1,jA o9 2,I G]).bind λD=>
 cond (decide (v8=(↑0:Int))) (some (0,[I v0,I v1,I v2,I v3,I v4,I v5,I v6,I v7,I (O (v8+1)),I v9,I v10,I v11,I v12,I L,I M,I N,I S,I G,I T,I U,I v20,I v21,B v22,I V,B v24,I v25,I X,I v27,I v28,I Y,B v30,I v31,I a0,I v33,I a1,I v35,I v36,I v37,I v38,I (O (gA D 0-v0)),I (O (gA D 1-v1)),I 0,jA D 2,I a5,I v44,I a6,I v46])) (cond (decide (v8=(↑(0+1):Int))) (some (0,[I v0,I v1,I v2,I v3,I v4,I v5,I v6,I v7,I (O (v8+1)),I v9,I v10,I v11,I v12,I L,I M,I N,I S,I G,I T,I U,I v20,I v21,B v22,I V,B v24,I v25,I X,I v27,I v28,I Y,B v30,I v31,I a0,I v33,I a1,I v35,I v36,I v37,I v38,I a7,I v40,I a8,I v42,I (O (gA D 0-v0)),I (O (gA D 1-v1)),I 0,jA D 2])) (none))
theorem Qsh (Ca BR:Fn) (v0 v1 v2 v3 v4 v5 v6 v7 v8 v9 v10 v11 v12 S T U V X Y a0 v20 v21:Int) (v22:Bool) (a1:Int) (v24:Bool) (v25 a2 v27 v28 a3:Int) (v30:Bool) (v31 D v33 G v35 v36 v37 v38 L v40 M v42 N v44 O v46:Int):Qt9 Ca BR [I v0,I v1,I v2,I v3,I v4,I v5,I v6,I v7,I v8,I v9,I v10,I v11,I v12,I S,I T,I U,I V,I X,I Y,I a0,I v20,I v21,B v22,I a1,B v24,I v25,I a2,I v27,I v28,I a3,B v30,I v31,I D,I v33,I G,I v35,I v36,I v37,I v38,I L,I v40,I M,I v42,I N,I v44,I O,I v46]=
 cond (decide (v8<2)) (cond (decide (v8=(↑0:Int))) (Qlf BR Ca X v8 v0 v1 v2 v3 v4 v5 v6 v7 v9 v10 v11 v12 S T U V Y a0 v20 v21 v22 a1 v24 v25 a2 v27 v28 a3 v30 v31 D v33 G v35 v36 v37 v38 N v44 O v46 L v40 M v42 (I v2) (I v3) (I v4)) (cond (decide (v8=(↑(0+1):Int))) (Qlf BR Ca X v8 v0 v1 v2 v3 v4 v5 v6 v7 v9 v10 v11 v12 S T U V Y a0 v20 v21 v22 a1 v24 v25 a2 v27 v28 a3 v30 v31 D v33 G v35 v36 v37 v38 N v44 O v46 L v40 M v42 (I v5) (I v6) (I v7)) (none))) (some (1,[I v31,I D,I v33,I G,I v35,I v36,I v37,I v38,I L,I v40,I M,I v42,I N,I v44,I O,I v46])):=by kernel_rfl
theorem Z46 (Ca BR:Fn) (N4:Lp) (x0 x1 x2 x3 x4 x5 x6 x7 x8 x9 G L N:Int) (O:Bool) (S:Int) (T:Bool) (U V X Y a0:Int) (a1:Bool):Zg Ca BR N4 [I x0,I x1,I x2,I x3,I x4,I x5,I x6,I x7,I x8,I x9,I G,I L,I N,B O,I S,B T,I U,I V,I X,I Y,I a0,B a1]=
 (BR [I x9,I G,I L]).bind λM=>
 (Ca [jA M 0,jA M 1,jA M 2,I x8]).bind λa2=>
 (N4 [jA a2 0,jA a2 1,I x2,I x3,I x4,I x5,I x6,I x7,I 0,I x0,I x1,I x2,I x3,I x4,I x5,I x6,I x7,I x8,I x9,I G,I L,I N,B O,I S,B T,I U,I V,I X,I Y,I a0,B a1,I 0,I 0,I 0,I 0,I 0,I 0,I 0,I 0,I 0,I 0,I 0,I 0,I 0,I 0,I 0,I 0]).bind λD=>
 cond (D.1.beq 1) (some [jA D.2 8,jA D.2 9,jA D.2 10,jA D.2 11,jA D.2 12,jA D.2 13,jA D.2 14,jA D.2 15]) (none):=by kernel_rfl
def Zi2:=Al (Qt9 H9 HD)
def KH:=Zg H9 HD Zi2
theorem Za2:Ai PG (Qb6 H9 HD):=An rfl ⟨Qz1,Zdh,trivial⟩
theorem Zb0:Ak PG (Zcr KH):=rw2 (C:=Qy9 H9 HD Zi2) (fl fb Za2) Za2
def Ygz:=qd 186 Wk Y3
def Qn2 (D G Cm I:Fn):Cfg:=cf [Qvj D,Uv G,Qed Cm,XY I]
def Qsv (D G Cm I:Fn):Fn:=Am PG (Qn2 D G Cm I) 64 186 Wk Y3
theorem Zkc (DY M Cm N:Fn) (S T V X:Int):Qsv DY M Cm N [I S,I T,I V,I X]=
 (N [I S,I T]).bind λY=>
 (N [I V,I X]).bind λD=>
 cond (gA Y 0 !=gA D 0) (cond (decide (gA Y 0<gA D 0)) (some [I (-1)]) (some [I 1])) ((Cm [I S]).bind λa0=>
 (Cm [I T]).bind λa1=>
 (M [U (gA a0 0),U (gA a1 0)]).bind λG=>
 (Cm [I V]).bind λa2=>
 (Cm [I X]).bind λa3=>
 (M [U (gA a2 0),U (gA a3 0)]).bind λL=>
 (DY [U (gA G 0),U (gA G 1),U (gA L 0),U (gA L 1)]).bind λa4=>
 some [I (O (gA Y 0*gA a4 0))]):=by kernel_rfl
def Pr:=Qsv If Ew Gr GB
theorem Ydz:Ai PG (Qn2 If Ew Gr GB):=An rfl ⟨Q3n,Vf,Ws,Qf1,trivial⟩
theorem Z0w:Ak PG (Ygz Pr):=rw1 (C:=Qn2 If Ew Gr GB) Ydz
def Z79:=qd 182 ZA V1
def Zo (D:Fn):Cfg:=cf [Ygz D]
def Y0 (D:Fn):Fn:=Am PG (Zo D) 64 182 ZA V1
theorem Zy8 (L:Fn) (D G:Int):Y0 L [I D,I G]=
 cond (decide (O (O (mx D G-mn D G)-16)<=0)) (some [B true]) ((L [I (O (O (mx D G-mn D G)-16)),I (O (O (mx D G-mn D G)-16)),I 64,I (mn D G)]).bind λo1=>
 some [B (decide (gA o1 0<=0))]):=by kernel_rfl
def QH:=Y0 Pr
theorem Zp5:Ai PG (Zo Pr):=An rfl ⟨Z0w,trivial⟩
theorem Yka:Ak PG (Z79 QH):=rw1 (C:=Zo Pr) Zp5
def Zur:=qd 178 Quv V1
def Zi8:Fn:=Am PG Qbn 64 178 Quv V1
theorem Zwn (D G L:Int):Zi8 [I D,I G,I L]=
 cond (decide (D< -1048576)) (some [B false]) (cond (decide (D>1048576)) (some [B false]) (cond (decide (G< -1048576)) (some [B false]) (cond (decide (G>1048576)) (some [B false]) (cond (decide (L< -1048576)) (some [B false]) (cond (decide (L>1048576)) (some [B false]) (some [B true])))))):=by kernel_rfl
def NT:=Zi8
theorem Zo1:Ai PG (Qbn):=An rfl trivial
theorem Z0p:Ak PG (Zur NT):=rw1 (C:=Qbn) Zo1
def Qdg:=qd 132 Qnx V1
def XZ (D G I L M N:Fn):Cfg:=cf [Qmb D,Z79 G,Qt4 I,Zcr L,Qsc M,Zur N]
def Qsd (D G I L M N:Fn):Fn:=Am PG (XZ D G I L M N) 64 132 Qnx V1
abbrev Qj0 (HR:Fn) (x9 G L:Int) (EV:Fn) (x0 x1 x2 x3 x4 x5 x6 x7 x8 T:Int) (M:Bool) (U:Int) (V:Bool) (X Y a0 a1 a2:Int) (a3:Bool) (Cg JO CK:Fn):Option (List AC):=
 (HR [I x9,I G,I L]).bind λa4=>
 cond (!bA a4 0) (some [B false]) ((EV [I x0,I x1,I x2,I x3,I x4,I x5,I x6,I x7,I x8,I x9,I G,I L,I T,B M,I U,B V,I X,I Y,I a0,I a1,I a2,B a3]).bind λD=>
 (Cg [jA D 0,jA D 1,jA D 2,jA D 3,jA D 0,jA D 1,jA D 2,jA D 3]).bind λN=>
 (Cg [jA D 4,jA D 5,jA D 6,jA D 7,jA D 4,jA D 5,jA D 6,jA D 7]).bind λS=>
 cond (decide (gA N 0<O (128*128))) (some [B false]) (cond (decide (gA S 0<O (128*128))) (some [B false]) ((JO [I (O ((gA N 0).tdiv 256)),I (O ((gA S 0).tdiv 256))]).bind λa5=>
 cond (!bA a5 0) (some [B false]) (cond (M) (cond (gA D 0==gA D 4) (some [B (gA D 1==gA D 5)]) (some [B false])) ((CK [jA D 0,jA D 1,jA D 2,jA D 3,jA D 4,jA D 5,jA D 6,jA D 7]).bind λa6=>
 cond (gA a6 0 !=0) (some [B true]) ((Cg [jA D 0,jA D 1,jA D 2,jA D 3,jA D 4,jA D 5,jA D 6,jA D 7]).bind λa7=>
 some [B (decide (gA a7 0<0))]))))))
theorem Z5r (CK JO Cg EV DV HR:Fn) (x0 x1 x2 x3 x4 x5 x6 x7 x8 x9 G L D:Int) (M:Bool) (N:Int) (O:Bool) (S T U V X:Int) (Y:Bool):Qsd CK JO Cg EV DV HR [I x0,I x1,I x2,I x3,I x4,I x5,I x6,I x7,I x8,I x9,I G,I L,I D,B M,I N,B O,I S,I T,I U,I V,I X,B Y]=
 cond (decide (x0<1)) (some [B false]) (cond (decide (x0>6)) (some [B false]) ((HR [I x2,I x3,I x4]).bind λa0=>
 cond (!bA a0 0) (some [B false]) ((HR [I x5,I x6,I x7]).bind λa1=>
 cond (!bA a1 0) (some [B false]) (cond (x0 !=3) (some [B true]) ((DV [I x8]).bind λa2=>
 cond (!bA a2 3) (some [B false]) (cond (D !=1) (cond (D != -1) (some [B false]) (Qj0 HR x9 G L EV x0 x1 x2 x3 x4 x5 x6 x7 x8 D M N O S T U V X Y Cg JO CK)) (Qj0 HR x9 G L EV x0 x1 x2 x3 x4 x5 x6 x7 x8 D M N O S T U V X Y Cg JO CK))))))):=by kernel_rfl
def G1:=Qsd Hc QH GQ KH FE NT
theorem Zmy:Ai PG (XZ Hc QH GQ KH FE NT):=An rfl ⟨XS,Yka,Qca,Zb0,Qs0,Z0p,trivial⟩
theorem Qcg:Ak PG (Qdg G1):=rw1 (C:=XZ Hc QH GQ KH FE NT) Zmy
def Zxj:=qd 233 Qnx Qgn
def WA (D G I L M:Fn):Cfg:={cp [Zjv D,Qyt G,Qt4 I,Zcr L,Qdg M] [260]with rowDst:=[39]}
def Qrn (D G I L M:Fn):Fn:=Am PG (WA D G I L M) 64 233 Qnx Qgn
theorem Yar (FB FJ Cg EV CD:Fn) (x0 x1 x2 x3 x4 x5 x6 x7 x8 x9 L M D:Int) (G:Bool) (N:Int) (O:Bool) (S T U V X:Int) (Y:Bool):Qrn FB FJ Cg EV CD [I x0,I x1,I x2,I x3,I x4,I x5,I x6,I x7,I x8,I x9,I L,I M,I D,B G,I N,B O,I S,I T,I U,I V,I X,B Y]=
 cond (x0 !=3) (some [.vC [kI,kI,kI,kI] [],B false]) ((CD [I x0,I x1,I x2,I x3,I x4,I x5,I x6,I x7,I x8,I x9,I L,I M,I D,B G,I N,B O,I S,I T,I U,I V,I X,B Y]).bind λo7=>
 cond (!bA o7 0) (some [.vC [kI,kI,kI,kI] [],B false]) ((EV [I x0,I x1,I x2,I x3,I x4,I x5,I x6,I x7,I x8,I x9,I L,I M,I D,B G,I N,B O,I S,I T,I U,I V,I X,B Y]).bind λo8=>
 (Cg [jA o8 0,jA o8 1,jA o8 2,jA o8 3,jA o8 0,jA o8 1,jA o8 2,jA o8 3]).bind λo9=>
 (FJ [jA o9 0,I 2]).bind λa0=>
 (Cg [jA o8 4,jA o8 5,jA o8 6,jA o8 7,jA o8 4,jA o8 5,jA o8 6,jA o8 7]).bind λa1=>
 (FJ [jA a1 0,I 2]).bind λa2=>
 (FB [.vC [kI,kI,kI,kI] [[jA o8 0,jA o8 1,jA a0 0,jA o8 3]],jA o8 0,jA o8 1,jA a0 0,jA o8 3,jA o8 4,jA o8 5,jA a2 0,jA o8 7,B G,I 0,I D]).bind λa3=>
 some [.vC [kI,kI,kI,kI] (wA a3 0),B true])):=by kernel_rfl
def Pj:=Qrn S0 IW GQ KH G1
theorem Yfv:Ai PG (WA S0 IW GQ KH G1):=An rfl ⟨Z55,Q11,Qca,Zb0,Qcg,trivial⟩
theorem Zr2:Ak PG (Zxj Pj):=rw1 (C:=WA S0 IW GQ KH G1) Yfv
def Zxa:=qd 187 Qnx Qf0
def Qfd (D G I L M:Fn):Cfg:=cf [Znn D,Q2i G,Zgt I,Zxj L,Qdg M]
def Q47:Sk:=⟨[td,tf [sd 1 0],td,td,td,td,tf [ci],tf [ci],td,tf [se 41 3]]++dd 32++[tf [sa [kI,kI,kI,kI]],tf [ci],tf [ci]]++dd 22,[(1,31,cc 13++[sb,ci,sb]++cc 5++[sb])],[(41,42,kPt)]⟩
def Zfx:List (Ex×Sk):=[(Ex.exit 0,⟨dd 9++[tf [se 41 3]]++dd 57,[],[(41,42,kPt)]⟩)]
def Oz (D G I L M:Fn):Lp:=AG PG (Qfd D G I L M) 64 9 (AH PG 187 9) Q47 Zfx
def Zjs (D G I L M:Fn) (N:Lp):Cfg:=(Qfd D G I L M).loop 9 Q47 Zfx N
def UR (D G I L M:Fn) (N:Lp):Fn:=Am PG (Zjs D G I L M N) 64 187 Qnx Qf0
theorem Q6z (Hw Ca BR GG CD:Fn) (v0:Rw) (v1 v2:Int) (M:Rw) (v4 D v6 v7 v8 v9 v10 v11 v12 N G S T U V:Int) (X:Bool) (v20:Int) (v21:Bool) (v22 Y v24 v25 a0:Int) (v27:Bool):Oz Hw Ca BR GG CD [.vC kPt v0,I v1,I v2, .vC [kI,kI,kI,kI] M,I v4,I D,I v6,I v7,I v8,I v9,I v10,I v11,I v12,I N,I G,I S,I T,I U,I V,B X,I v20,B v21,I v22,I Y,I v24,I v25,I a0,B v27]=
 cond (decide (D<v4)) (cond (decide (0<=D)&&decide (D<(M.length:Int))) ((Hw [I (O (v1+gA (nth [] M D.toNat) 0)),I (O (v2+gA (nth [] M D.toNat) 1)),jA (nth [] M D.toNat) 3,I G]).bind λL=>
 cond (decide (0<=D)&&decide (D<(v0.length:Int))) (some (0,[.vC kPt (v0.set D.toNat [jA L 0,jA L 1,jA L 2]),I v1,I v2, .vC [kI,kI,kI,kI] M,I v4,I (O (D+1)),I v6,I v7,I v8,I v9,I v10,I v11,I v12,I N,I G,I S,I T,I U,I V,B X,I v20,B v21,I v22,I Y,I v24,I v25,I a0,B v27])) (none)) (none)) (some (1,[.vC kPt v0])):=by kernel_rfl
theorem Wu (Hw Ca BR GG CD:Fn) (N9:Lp) (x0 x1 x2 x3 x4 x5 x6 x7 x8 x9 G L M:Int) (N:Bool) (O:Int) (S:Bool) (T U V X Y:Int) (a0:Bool):UR Hw Ca BR GG CD N9 [I x0,I x1,I x2,I x3,I x4,I x5,I x6,I x7,I x8,I x9,I G,I L,I M,B N,I O,B S,I T,I U,I V,I X,I Y,B a0]=
 (CD [I x0,I x1,I x2,I x3,I x4,I x5,I x6,I x7,I x8,I x9,I G,I L,I M,B N,I O,B S,I T,I U,I V,I X,I Y,B a0]).bind λa6=>
 cond (!bA a6 0) (some [.vC kPt [],B false]) ((GG [I x0,I x1,I x2,I x3,I x4,I x5,I x6,I x7,I x8,I x9,I G,I L,I M,B N,I O,B S,I T,I U,I V,I X,I Y,B a0]).bind λD=>
 cond (!bA D 1) ((BR [I x2,I x3,I x4]).bind λa1=>
 (BR [I x5,I x6,I x7]).bind λa2=>
 some [.vC kPt [[jA a1 0,jA a1 1,jA a1 2],[jA a2 0,jA a2 1,jA a2 2]],B true]) ((BR [I x9,I G,I L]).bind λa3=>
 (Ca [jA a3 0,jA a3 1,jA a3 2,I x8]).bind λa4=>
 cond (decide ((↑(wA D 0).length:Int)=(↑(wA D 0).length:Int))) (cond (decide (0<=(↑(wA D 0).length:Int))&&decide ((↑(wA D 0).length:Int)*(↑24:Int)<=140737488355328)) ((N9 [.vC kPt (List.replicate (↑(wA D 0).length:Int).toNat [I 0,I 0,I 0]),jA a4 0,jA a4 1, .vC [kI,kI,kI,kI] (wA D 0),I (↑(wA D 0).length:Int),I 0,I x0,I x1,I x2,I x3,I x4,I x5,I x6,I x7,I x8,I x9,I G,I L,I M,B N,I O,B S,I T,I U,I V,I X,I Y,B a0]).bind λa5=>
 cond (a5.1.beq 1) (some [.vC kPt (wA a5.2 0),B true]) (none)) (none)) (none))):=by kernel_rfl
def Ziy:=Al (Oz Nd H9 HD Pj G1)
def Qp:=UR Nd H9 HD Pj G1 Ziy
theorem Q1m:Ai PG (Qfd Nd H9 HD Pj G1):=An rfl ⟨Yci,Qz1,Zdh,Zr2,Qcg,trivial⟩
theorem Zqr:Ak PG (Zxa Qp):=rw2 (C:=Zjs Nd H9 HD Pj G1 Ziy) (fl fb Q1m) Q1m
def Zpt:=qd 141 Zq Qqk
def Qdb (D G I L Bl M:Fn):Cfg:=cf [Qex D,Qpc G,Q7y I,Zly L,Vp Bl,Zxa M]
def Xh (D G I L Bl M:Fn):Fn:=Am PG (Qdb D G I L Bl M) 64 141 Zq Qqk
theorem Ztr (Y Bu BU KZ Bl Ob:Fn) (G:Rw) (U x2:Int):Xh Y Bu BU KZ Bl Ob [.vC Ae G,I U,I x2]=
 cond (decide (0<=U)&&decide (U<(G.length:Int))) ((Ob (AE Ae (nth [] G U.toNat))).bind λD=>
 (Bl (AE Ae (nth [] G U.toNat))).bind λa2=>
 cond (!bA a2 0) (some [.vC kPt (wA D 0)]) (cond (decide (0<=1)&&decide (1<=(↑(wA D 0).length:Int))) (cond (decide (0<=O ((↑(wA D 0).length:Int)-1))&&decide (O ((↑(wA D 0).length:Int)-1)<=(↑(wA D 0).length:Int))) (cond (decide (x2>=0)) (cond (decide (0<=x2)&&decide (x2<(G.length:Int))) ((KZ (AE Ae (nth [] G x2.toNat)++AE Ae (nth [] G U.toNat))).bind λT=>
 (BU [.vC Ae G,I U]).bind λa3=>
 cond (bA a3 0) ((Bu [.vC Ae G,I U]).bind λV=>
 cond (decide (0<=gA V 0)&&decide (gA V 0<(G.length:Int))) ((KZ (AE Ae (nth [] G U.toNat)++AE Ae (nth [] G (gA V 0).toNat))).bind λa0=>
 cond ((([]++wA T 1).length*24).ble 140737488355328) ((Y (AE Ae (nth [] G U.toNat))).bind λL=>
 cond ((([]++wA T 1++[[jA L 0,jA L 1,jA L 2]]).length*24).ble 140737488355328) (cond ((([]++wA T 1++[[jA L 0,jA L 1,jA L 2]]++wA a0 0).length*24).ble 140737488355328) (some [.vC kPt ([]++wA T 1++[[jA L 0,jA L 1,jA L 2]]++wA a0 0)]) (none)) (none)) (none)) (none)) (cond ((([]++wA T 1).length*24).ble 140737488355328) ((Y (AE Ae (nth [] G U.toNat))).bind λM=>
 cond ((([]++wA T 1++[[jA M 0,jA M 1,jA M 2]]).length*24).ble 140737488355328) (cond ((([]++wA T 1++[[jA M 0,jA M 1,jA M 2]]++List.drop (O ((↑(wA D 0).length:Int)-1)).toNat (wA D 0)).length*24).ble 140737488355328) (some [.vC kPt ([]++wA T 1++[[jA M 0,jA M 1,jA M 2]]++List.drop (O ((↑(wA D 0).length:Int)-1)).toNat (wA D 0))]) (none)) (none)) (none))) (none)) ((BU [.vC Ae G,I U]).bind λa4=>
 cond (bA a4 0) ((Bu [.vC Ae G,I U]).bind λX=>
 cond (decide (0<=gA X 0)&&decide (gA X 0<(G.length:Int))) ((KZ (AE Ae (nth [] G U.toNat)++AE Ae (nth [] G (gA X 0).toNat))).bind λa1=>
 cond ((([]++List.take (Int.toNat 1) (wA D 0)).length*24).ble 140737488355328) ((Y (AE Ae (nth [] G U.toNat))).bind λN=>
 cond ((([]++List.take (Int.toNat 1) (wA D 0)++[[jA N 0,jA N 1,jA N 2]]).length*24).ble 140737488355328) (cond ((([]++List.take (Int.toNat 1) (wA D 0)++[[jA N 0,jA N 1,jA N 2]]++wA a1 0).length*24).ble 140737488355328) (some [.vC kPt ([]++List.take (Int.toNat 1) (wA D 0)++[[jA N 0,jA N 1,jA N 2]]++wA a1 0)]) (none)) (none)) (none)) (none)) (cond ((([]++List.take (Int.toNat 1) (wA D 0)).length*24).ble 140737488355328) ((Y (AE Ae (nth [] G U.toNat))).bind λS=>
 cond ((([]++List.take (Int.toNat 1) (wA D 0)++[[jA S 0,jA S 1,jA S 2]]).length*24).ble 140737488355328) (cond ((([]++List.take (Int.toNat 1) (wA D 0)++[[jA S 0,jA S 1,jA S 2]]++List.drop (O ((↑(wA D 0).length:Int)-1)).toNat (wA D 0)).length*24).ble 140737488355328) (some [.vC kPt ([]++List.take (Int.toNat 1) (wA D 0)++[[jA S 0,jA S 1,jA S 2]]++List.drop (O ((↑(wA D 0).length:Int)-1)).toNat (wA D 0))]) (none)) (none)) (none)))) (none)) (none))) (none):=by kernel_rfl
def Ni:=Xh Gm Fo Hs RF ES Qp
theorem Z8i:Ai PG (Qdb Gm Fo Hs RF ES Qp):=An rfl ⟨Qu6,Qqc,Q0p,Ybt,Tx,Zqr,trivial⟩
theorem Yf0:Ak PG (Zpt Ni):=rw1 (C:=Qdb Gm Fo Hs RF ES Qp) Z8i
def Zth:=qd 139 Qrc Y3
def Qbf (D:Fn):Cfg:=cf [RP D]
def Wj (D:Fn):Fn:=Am PG (Qbf D) 64 139 Qrc Y3
theorem Q2v (A8:Fn) (x0 x1 x2 x3 x4 x5 x6 x7 x8 x9 M N S:Int) (T:Bool) (D:Int) (G:Bool) (U V X Y a0:Int) (a1:Bool) (L:Int):Wj A8 [I x0,I x1,I x2,I x3,I x4,I x5,I x6,I x7,I x8,I x9,I M,I N,I S,B T,I D,B G,I U,I V,I X,I Y,I a0,B a1,I L]=
 cond (x0==1) (some [I 0]) (cond (G) ((A8 [I (mn (O (D*mx L 1)) 60000000),I 4096,I 60000,I 2]).bind λo2=>
 some [I (mx (gA o2 0) 1)]) ((A8 [I (mn D 60000000),I 4096,I 60000,I 2]).bind λo3=>
 some [I (mx (gA o3 0) 1)])):=by kernel_rfl
def JT:=Wj CU
theorem Z05:Ai PG (Qbf CU):=An rfl ⟨QF,trivial⟩
theorem Yhj:Ak PG (Zth JT):=rw1 (C:=Qbf CU) Z05
def Qnt:Sk:=⟨[tf [sd 20000 0],tf [sa Ae],tf [ci],tf [ci]],[(20000,102,[ci,ci,ci,se 20000 7,se 20001 3,sb,ci,ci,ci])],[(20000,111,Ag),(20001,130,kPt)]⟩
def Qfw:Sk:=⟨[tf [sb]],[(20000,102,[ci,ci,ci,se 20000 7,se 20001 3,sb,ci,ci,ci])],[(20000,111,Ag),(20001,130,kPt)]⟩
def Ygv:=qd 91 Qnt Qfw
def Qdd (D Bl G Fd I L:Fn):Cfg:=cp [Qex D,Vp Bl,Ygd G,Zpt Fd,Qzl I,Zth L] [142]
def Zdb:Sk:=⟨[tf [sd 20000 0]]++dd 8++[tf [sd 9 0],tf [sd 10 0]]++dd 24++[tf [sa kPt],tf [ci],tf [ci]]++dd 30,[(9,31,cc 13++[sb,ci,sb]++cc 5++[sb]),(10,111,cc 7),(20000,102,[ci,ci,ci,se 20000 7,se 20001 3,sb,ci,ci,ci])],[(20000,111,Ag),(20001,130,kPt)]⟩
def Q5a:List (Ex×Sk):=[(Ex.exit 0,⟨[tf [sd 20000 0]]++dd 67,[(20000,102,[ci,ci,ci,se 20000 7,se 20001 3,sb,ci,ci,ci])],[(20000,111,Ag),(20001,130,kPt)]⟩)]
def Mk (D Bl G Fd I L:Fn):Lp:=AG PG (Qdd D Bl G Fd I L) 64 6 (AH PG 91 6) Zdb Q5a
def Qyr (D Bl G Fd I L:Fn) (M:Lp):Cfg:=(Qdd D Bl G Fd I L).loop 6 Zdb Q5a M
def Qoz (D Bl G Fd I L:Fn) (M:Lp):Fn:=Am PG (Qyr D Bl G Fd I L M) 64 91 Qnt Qfw
theorem Zjn (BV Bl Hm Fd CI Hr:Fn) (v0 v1 v2:Rw) (v3 G v5 v6 v7 v8 v9 v10 v11 v12 L M N S T:Int) (U:Bool) (V:Int) (v20:Bool) (v21 v22 X v24 v25:Int) (Y:Bool) (v27 v28 a0 v30 v31 a1 v33 a2 v35 v36:Int) (v37:Bool) (v38 a3 v40:Int):Mk BV Bl Hm Fd CI Hr [.vC Ag v0, .vC kPt v1, .vC kPt v2,I v3,I G,I v5,I v6,I v7,I v8,I v9,I v10,I v11,I v12,I L,I M,I N,I S,I T,B U,I V,B v20,I v21,I v22,I X,I v24,I v25,B Y,I v27,I v28,I a0,I v30,I v31,I a1,I v33,I a2,I v35,I v36,B v37,I v38,I a3,I v40]=
 cond (decide (G<v3)) (cond (decide (0<=G)&&decide (G<(v2.length:Int))) ((Hm [.vC Ag v0, .vC kPt v1,jA (nth [] v2 G.toNat) 0,jA (nth [] v2 G.toNat) 1,jA (nth [] v2 G.toNat) 2,I v27,I v28,I a0,I v30,I v31,I a1,I v33,I a2,I v35,I v36,B v37,I v38,I a3,I v40]).bind λD=>
 (Bl [I v5,I v6,I v7,I v8,I v9,I v10,I v11,I v12,I L,I M,I N,I S,I T,B U,I V,B v20,I v21,I v22,I X,I v24,I v25,B Y]).bind λa5=>
 cond (bA a5 0) ((BV [I v5,I v6,I v7,I v8,I v9,I v10,I v11,I v12,I L,I M,I N,I S,I T,B U,I V,B v20,I v21,I v22,I X,I v24,I v25,B Y]).bind λa4=>
 cond (gA (nth [] v2 G.toNat) 0==gA a4 0&&(gA (nth [] v2 G.toNat) 1==gA a4 1&&(gA (nth [] v2 G.toNat) 2==gA a4 2&&true))) (some (0,[.vC Ag (wA D 0), .vC kPt (wA D 1), .vC kPt v2,I v3,I (O (G+1)),I v5,I v6,I v7,I v8,I v9,I v10,I v11,I v12,I L,I M,I N,I S,I T,B U,I V,B v20,I v21,I v22,I X,I v24,I v25,B Y,I v27,I v28,I a0,I v30,I v31,I a1,I v33,jA D 2,jA D 3,jA D 4,B (bA D 5),jA D 6,jA D 7,jA D 6])) (some (0,[.vC Ag (wA D 0), .vC kPt (wA D 1), .vC kPt v2,I v3,I (O (G+1)),I v5,I v6,I v7,I v8,I v9,I v10,I v11,I v12,I L,I M,I N,I S,I T,B U,I V,B v20,I v21,I v22,I X,I v24,I v25,B Y,I v27,I v28,I a0,I v30,I v31,I a1,I v33,jA D 2,jA D 3,jA D 4,B (bA D 5),jA D 6,jA D 7,jA D 8]))) (some (0,[.vC Ag (wA D 0), .vC kPt (wA D 1), .vC kPt v2,I v3,I (O (G+1)),I v5,I v6,I v7,I v8,I v9,I v10,I v11,I v12,I L,I M,I N,I S,I T,B U,I V,B v20,I v21,I v22,I X,I v24,I v25,B Y,I v27,I v28,I a0,I v30,I v31,I a1,I v33,jA D 2,jA D 3,jA D 4,B (bA D 5),jA D 6,jA D 7,jA D 8]))) (none)) (some (1,[.vC Ag v0, .vC kPt v1,I a2,I v35,I v36,B v37,I v38,I a3,I v40])):=by kernel_rfl
abbrev Qgl (Fd:Fn) (T:Rw) (M U:Int) (V:Lp) (X Y:Rw) (N:List AC) (x5 x6 x7:Int) (x8:Bool) (x9 O S:Int) (G:AC):Option (List AC):=
 (Fd [.vC Ae T,I M,I U]).bind λL=>
 (V (.vC Ag X:: .vC kPt Y:: .vC kPt (wA L 0)::I (↑(wA L 0).length:Int)::I 0::(AE Ae (nth [] T M.toNat)++[I 0,I 0,I 0,I 0,I M,jA N 0,G,I x5,I x6,I x7,B x8,I x9,I O,I S]))).bind λD=>
 cond (D.1.beq 1) (some [.vC Ag (wA D.2 0), .vC kPt (wA D.2 1),B (decide ((↑(wA D.2 0).length:Int)<=1048576)),jA D.2 2,jA D.2 3,jA D.2 4,B (bA D.2 5),jA D.2 6,jA D.2 7,jA D.2 8]) (none)
theorem Yjz (BV Bl Hm Fd CI Hr:Fn) (S:Lp) (T U L:Rw) (G V X Y x7:Int) (x8:Bool) (x9 D M:Int):Qoz BV Bl Hm Fd CI Hr S [.vC Ag T, .vC kPt U, .vC Ae L,I G,I V,I X,I Y,I x7,B x8,I x9,I D,I M]=
 cond (decide (0<=G)&&decide (G<(L.length:Int))) ((Hr (AE Ae (nth [] L G.toNat)++[I D])).bind λN=>
 (CI (AE Ae (nth [] L G.toNat))).bind λa0=>
 cond (bA a0 0) (Qgl Fd L G V S T U N X Y x7 x8 x9 D M (I (mn (O (gA (nth [] L G.toNat) 14*16)) 16777216))) (Qgl Fd L G V S T U N X Y x7 x8 x9 D M (I 0))) (none):=by kernel_rfl
def Qyf:=Al (Mk Gm ES PY Ni HO JT)
def Kn:=Qoz Gm ES PY Ni HO JT Qyf
theorem Q1l:Ai PG (Qdd Gm ES PY Ni HO JT):=An rfl ⟨Qu6,Tx,Zlw,Yf0,Q9g,Yhj,trivial⟩
theorem Yi0:Ak PG (Ygv Kn):=rw2 (C:=Qyr Gm ES PY Ni HO JT Qyf) (fl fb Q1l) Q1l
attribute [go_sem] Z9e Qhu UP Se T7 RX Qdc Zu Qii Or JN Qtt Qis Qfr YC Ra UM SN SO Ty Qdo RC Z_ Qlf Qj0 Qgl
end Go.Bm
