/- functions of the program and of the references, as models -/
import Derived.Test.YtnnpdlgenmnekaaGreatDoorMx1
set_option linter.unusedSimpArgs false
set_option linter.unusedVariables false
set_option maxRecDepth 100000
noncomputable section
open Go.IntKind (wrap)
namespace Go.Bm
open Go.Proofs
def Zvv:=qd 209 Qiv Y8
def Qur (D:Fn):Cfg:=cf [ZL D]
def Sx (D:Fn):Fn:=An PG (Qur D) 64 209 Qiv Y8
theorem Yg1 (G:Fn) (L M N D S T U V X:Int):Sx G [I L,I M,I N,I D,I S,I T,I U,I V,I X]=
 (G [I L,I M,I N,I D,I S,I T,I U,I V,I X]).bind λo1=>
 cond (!bA o1 1) (some [I 0,B false]) (cond ((↑(wA o1 0).length:Int)==0) (some [I D,B true]) (cond (decide (0<=O ((↑(wA o1 0).length:Int)-1))&&decide (O ((↑(wA o1 0).length:Int)-1)<(↑(wA o1 0).length:Int))) (some [I (Ah (nth .vD (nth [] (wA o1 0) (O ((↑(wA o1 0).length:Int)-1)).toNat) 0)),B true]) (none))):=by kernel_rfl
def Kc:=Sx Gy
theorem Ycc:Ai PG (Qur Gy):=Ao rfl ⟨Qj9,trivial⟩
theorem Zxe:Ak PG (Zvv Kc):=rw1 (C:=Qur Gy) Ycc
abbrev Z86 (H2:Fn) (T U V:Int) (G:List AC) (X:Int) (a5:List AC) (Y a0 a6:Int) (B_:Fn) (D L:Int) (ER:Fn) (a1 a2 a3 a4:Int):Option (List AC):=
 (H2 [I T,I U,I V,jA G 0,jA G 1,jA G 2,jA G 3,jA G 4,jA G 5]).bind λa7=>
 cond (decide (O (O (O (X+gA a5 0)-Y)-a0)>=0)) (cond (decide (gA a7 0>O (a6*256))) ((B_ [I T,I U,I V,I D,I L]).bind λa8=>
 (ER [I a0,I D,I L,I a1,I a2,I a3,I (O (D+gA a8 0))]).bind λM=>
 some [jA M 0,jA M 1,jA M 2,jA M 3,jA M 4,jA M 5,I 3,I X,I a4,I Y,I 0]) ((B_ [I T,I U,I V,I D,I L]).bind λa9=>
 (ER [I a0,I D,I L,I a1,I a2,I a3,I (O (D+gA a9 0))]).bind λN=>
 some [jA N 0,jA N 1,jA N 2,jA N 3,jA N 4,jA N 5,I 3,I X,I a4,I Y,I 18])) ((B_ [I T,I U,I V,I D,I L]).bind λb0=>
 (ER [I a0,I D,I L,I a1,I a2,I a3,I (O (D+gA b0 0))]).bind λS=>
 some [jA S 0,jA S 1,jA S 2,jA S 3,jA S 4,jA S 5,I 3,I X,I a4,I Y,I 18])
def Zn8:=qd 212 Qft Zdn
def Qp0 (D:Fn):Cfg:=cf [Q5r D]
def Quo (D:Fn):Fn:=An PG (Qp0 D) 64 212 Qft Zdn
theorem Zpl (D:Fn) (G:Int) (K:Kf) (c:Cv):Quo D (I G::Aj K c)=
 (D (pxt K.p K.x K.t [I K.pa,I K.pb,I K.pc,I c.o0,I c.o1,B c.o2,B c.o3,B c.o4,I c.m0,I c.m1,I c.m2,I c.m3,I c.m4,I c.m5,I G])).bind λo1=>
 some (Aj K {c with m0:=gA o1 0,m1:=gA o1 1,m2:=gA o1 2,m3:=gA o1 3,m4:=gA o1 4,m5:=gA o1 5}):=by kernel_rfl
def Ut:=Quo I6
theorem Zvi:Ai PG (Qp0 I6):=Ao rfl ⟨Zi9,trivial⟩
theorem Yfd:Ak PG (Zn8 Ut):=rw1 (C:=Qp0 I6) Zvi
def Zf5:Sk:=⟨[tf [sd 20000 0],tf [ci],TS.v true (cc 7)],[(20000,179,cS)],[]⟩
def Yji:=qd 215 Zf5 Zdn
def Sy:Fn:=λ_=>none
theorem Z0b:Ak PG (Yji Sy):=FZ
def Ybr:=qd 214 Zf5 Zdn
def TD:Fn:=λ_=>none
theorem Zoi:Ak PG (Ybr TD):=FZ
def Zez:Sk:=⟨[tf [sd 20000 0],TS.v true (cc 7)],[(20000,179,cS)],[]⟩
def Q99:Sk:=⟨[tf [sb]],[(20000,179,cS)],[]⟩
def Zqy:=qd 213 Zez Q99
def TT:Fn:=λ_=>none
theorem Z41:Ak PG (Zqy TT):=FZ
def Qrx:Sk:=⟨[TS.tup [(true,cc 7),(false,[sb])]],[],[]⟩
def Q9x (M:Fn):Nat×Spec:=(155,E8 Qr3 Qrx M)
def Rd (D G:Fn):Cfg:=cr [Qk5 D,Zfr G] [163] [163]
def Quc (D G:Fn):Fn:=Od PG (Rd D G) 64 155 Qr3 Qrx
theorem Zq9 (D G:Fn) (K:Kf) (c:Cv):Quc D G (Aj K c)=
 (G (Aj K c)).bind λo2=>
 (D (Bj K.p++[jA o2 0])).bind λo3=>
 cond (decide (gA o3 0<0)) (some [I 0,I 0,I 0,I 0,I 0,I 0,I 0,B false]) (cond (decide (0<=gA o3 0)&&decide (gA o3 0<((K.p.aF.map Az).length:Int))) (some (AF Ag (nth [] (K.p.aF.map Az) (gA o3 0).toNat)++[B true])) (none)):=by kernel_rfl
def HV:=Quc EL GW
theorem Zux:Ai PG (Rd EL GW):=LE (rs:=[163]) rfl ⟨Qay,Zjw,trivial⟩ rfl (DB rfl (JA L1))
theorem Ydm (vars : List AC) (R : Type) (K : TV -> Mem -> Option R) : EO PG (Rd EL GW) 64 155 [TV.v false [AC.ptr 20000 0]] ⟨[(20000, (⟨179, (cR 0 vars)⟩ : Box))], []⟩ K = EO PG (Rd EL GW) 64 155 [TV.v false [AC.ptr 20000 0]] ⟨[(20000, (⟨179, (cR 0 vars)⟩ : Box))], []⟩ (λv _ => K v ⟨[(20000, (⟨179, (cR 0 vars)⟩ : Box))], []⟩) := dc (b := ((GW (cR 0 vars)).bind λo2 =>
 (EL [jA vars 37,jA vars 38,jA vars 39, .vC Ag (wA vars 40), .vC kPt (wA vars 41),jA o2 0]).bind λo3=>
 cond (decide (gA o3 0<0)) (K (TV.tup [(true,[I 0,I 0,I 0,I 0,I 0,I 0,I 0]),(false,[B false])]) ⟨[(20000,(⟨179,(cR 0 vars)⟩:Box))],[]⟩) (cond (decide (0<=gA o3 0)&&decide (gA o3 0<(↑(wA vars 40).length:Int))) (K (TV.tup [(true,[I (Ah (nth .vD (nth [] (wA vars 40) (gA o3 0).toNat) 0)),I (Ah (nth .vD (nth [] (wA vars 40) (gA o3 0).toNat) 1)),I (Ah (nth .vD (nth [] (wA vars 40) (gA o3 0).toNat) 2)),I (Ah (nth .vD (nth [] (wA vars 40) (gA o3 0).toNat) 3)),I (Ah (nth .vD (nth [] (wA vars 40) (gA o3 0).toNat) 4)),I (Ah (nth .vD (nth [] (wA vars 40) (gA o3 0).toNat) 5)),I (Ah (nth .vD (nth [] (wA vars 40) (gA o3 0).toNat) 6))]),(false,[B true])]) ⟨[(20000,(⟨179,(cR 0 vars)⟩:Box))],[]⟩) (none)))) (by kernel_rfl) (Eq.symm (by kernel_rfl))
theorem Zas:Ak PG (155,E8 Qr3 Qrx HV):=S8 (C:=Rd EL GW) (L:=64) (by kernel_rfl) (FnOK.bare rfl rfl rfl) Zux eqOk GH (by kernel_rfl) (by kernel_rfl) (λvars R K=>Ydm vars R K)
def Z6o:=qd 162 Qft Zdn
def Ql0 (D Id G I L M:Fn):Cfg:=cr [Yji D,Ybr Id,Q0n G,Zqy I,Zn8 L,Q9x M] [215,214,161,213,212,155] [155]
def Qb8 (D Id G I L M:Fn):Fn:=An PG (Ql0 D Id G I L M) 64 162 Qft Zdn
abbrev Qhz (c:Cv) (D:List AC) (V:Fn) (K:Kf) (X Id:Fn) (L:Int) (U:Fn):Option (List AC):=
 cond (!c.y0==gA D 4) ((V (jA D 0::jA D 1::jA D 2::jA D 3::jA D 4::jA D 5::jA D 6::Aj K c)).bind λG=>
 cond (!bA G 0) (cond (gA G 66==0) ((X (cR 1 G)).bind λM=>
 some (cR 0 M)) (some (cR 1 G))) (cond (decide (0<=gA D 4)&&decide (gA D 4<(↑(wA G 36).length:Int))) (cond (Ah (nth .vD (nth [] (wA G 36) (gA D 4).toNat) 0)==6) ((Id (I L::jA D 0::jA D 1::jA D 2::jA D 3::jA D 4::jA D 5::jA D 6::cR 1 G)).bind λN=>
 some (cR 0 N)) ((U (I L::jA D 0::jA D 1::jA D 2::jA D 3::jA D 4::jA D 5::jA D 6::cR 1 G)).bind λO=>
 some (cR 0 O))) (none))) (cond (decide (0<=gA D 4)&&decide (gA D 4<((K.aA.map Af).length:Int))) (cond (gA (nth [] (K.aA.map Af) (gA D 4).toNat) 0==6) ((Id (I L::jA D 0::jA D 1::jA D 2::jA D 3::jA D 4::jA D 5::jA D 6::Aj K c)).bind λS=>
 some (cR 0 S)) ((U (I L::jA D 0::jA D 1::jA D 2::jA D 3::jA D 4::jA D 5::jA D 6::Aj K c)).bind λT=>
 some (cR 0 T))) (none))
theorem Zoq (L Id M N O U:Fn) (G:Int) (K:Kf) (c:Cv):Qb8 L Id M N O U (I G::Aj K c)=
 (U (Aj K c)).bind λD=>
 cond (gA D 6==0) ((O (I G::Aj K c)).bind λS=>
 some (cR 0 S)) (cond (c.o2) (cond (!c.y0==gA D 4) ((O (I G::Aj K c)).bind λT=>
 some (cR 0 T)) (Qhz c D N K M Id G L)) (Qhz c D N K M Id G L)):=by kernel_rfl
def Qj:=Qb8 Sy TD Ly TT Ut HV
theorem Ya6:Ai PG (Ql0 Sy TD Ly TT Ut HV):=LE (rs:=[155]) rfl ⟨Z0b,Zoi,Zg6,Z41,Yfd,Zas,trivial⟩ rfl (DB rfl (DB rfl (DB rfl (DB rfl (DB rfl (JA L1))))))
theorem Zwz:Ak PG (Z6o Qj):=rw1 (C:=Ql0 Sy TD Ly TT Ut HV) Ya6
def Z5h:=qd 147 Zb Zb
def XT (D:Fn):Cfg:=cf [RV D]
def Qg3 (D:Fn):Fn:=An PG (XT D) 64 147 Zb Zb
theorem Z36 (D:Fn) (G:Int):Qg3 D [I G]=
 (D [I G,I 1048576,I 60000,I 2]).bind λo1=>
 some [jA o1 0]:=by kernel_rfl
def RM:=Qg3 CY
theorem Zzi:Ai PG (XT CY):=Ao rfl ⟨QI,trivial⟩
theorem Yac:Ak PG (Z5h RM):=rw1 (C:=XT CY) Zzi
def Zh2:Sk:=⟨[TS.v true [ci,ci,ci,ci],tf [ci],tf [ci]],[],[]⟩
def Zkr:=qd 200 Zh2 V_
def So:Fn:=λ_=>none
theorem Ygt:Ak PG (Zkr So):=FZ
def Z46:=qd 199 Zh2 Qkf
def Sz:Fn:=λ_=>none
theorem Zuf:Ak PG (Z46 Sz):=FZ
def Qpc:Sk:=⟨[tf [ci]],[(20000,179,cS)],[]⟩
def Zll:=qd 198 Qr3 Qpc
def Q8o:Fn:=An PG Qj1 64 198 Qr3 Qpc
theorem Z23 (K:Kf) (c:Cv):Q8o (Aj K c)=
 some (I 3::Aj K {c with next:=O (c.idx+1),on:=false,idx:=0,aN:=false,cnt:=0}):=by kernel_rfl
def UW:=Q8o
theorem Zmq:Ai PG (Qj1):=Ao rfl trivial
theorem Zrq:Ak PG (Zll UW):=rw1 (C:=Qj1) Zmq
def Qxy:=qd 156 Qr3 Qpc
def Qah (D G I:Fn):Cfg:=cp [Zkr D,Z46 G,Zll I] [198]
def WR (D G I:Fn):Fn:=An PG (Qah D G I) 64 156 Qr3 Qpc
theorem Z1y (S T G:Fn) (K:Kf) (c:Cv):WR S T G (Aj K c)=
 cond (c.aN) (cond (decide (O (c.cnt+1)>1)) (cond (c.aJ) ((G (Aj K {c with cnt:=O (c.cnt+1)})).bind λU=>
 some (jA U 0::cR 1 U)) (some (I 2::Aj K {c with cnt:=O (c.cnt+1)}))) (some (I 2::Aj K {c with cnt:=O (c.cnt+1)}))) (cond (decide (0<=c.idx)&&decide (c.idx<((K.p.aD.map Aq).length:Int))) (cond (gA (nth [] (K.p.aD.map Aq) c.idx.toNat) 1 !=3) ((G (Aj K {c with cnt:=O (c.cnt+1)})).bind λo8=>
 some (jA o8 0::cR 1 o8)) (cond (decide (0<=gA (nth [] (K.p.aD.map Aq) c.idx.toNat) 2)&&decide (gA (nth [] (K.p.aD.map Aq) c.idx.toNat) 2<((K.aA.map Af).length:Int))) (cond (gA (nth [] (K.aA.map Af) (gA (nth [] (K.p.aD.map Aq) c.idx.toNat) 2).toNat) 0==7) (cond (decide (O (c.cnt+1)<gA (nth [] (K.aA.map Af) (gA (nth [] (K.p.aD.map Aq) c.idx.toNat) 2).toNat) 19)) (some (I 3::Aj K {c with cnt:=O (c.cnt+1)})) ((G (Aj K {c with cnt:=O (c.cnt+1)})).bind λV=>
 some (jA V 0::cR 1 V))) (cond (gA (nth [] (K.aA.map Af) (gA (nth [] (K.p.aD.map Aq) c.idx.toNat) 2).toNat) 0==8) ((T [I c.s0,I c.s1,I c.s2,I c.s3,jA (nth [] (K.aA.map Af) (gA (nth [] (K.p.aD.map Aq) c.idx.toNat) 2).toNat) 19,jA (nth [] (K.aA.map Af) (gA (nth [] (K.p.aD.map Aq) c.idx.toNat) 2).toNat) 20]).bind λD=>
 (S [jA D 0,jA D 1,jA D 2,jA D 3,jA (nth [] (K.aA.map Af) (gA (nth [] (K.p.aD.map Aq) c.idx.toNat) 2).toNat) 19,jA (nth [] (K.aA.map Af) (gA (nth [] (K.p.aD.map Aq) c.idx.toNat) 2).toNat) 20]).bind λN=>
 cond (!bA N 0) (some (I 3::Aj K {c with s0:=gA D 0,s1:=gA D 1,s2:=gA D 2,s3:=gA D 3,cnt:=O (c.cnt+1)})) ((G (Aj K {c with s0:=gA D 0,s1:=gA D 1,s2:=gA D 2,s3:=gA D 3,cnt:=O (c.cnt+1)})).bind λL=>
 some (jA L 0::cR 1 L))) (cond (gA (nth [] (K.aA.map Af) (gA (nth [] (K.p.aD.map Aq) c.idx.toNat) 2).toNat) 0==14) (some (I 7::Aj K {c with cnt:=O (c.cnt+1),aI:=7})) ((G (Aj K {c with cnt:=O (c.cnt+1)})).bind λM=>
 some (jA M 0::cR 1 M))))) (none))) (none)):=by kernel_rfl
def Kw:=WR So Sz UW
theorem Zk7:Ai PG (Qah So Sz UW):=Ao rfl ⟨Ygt,Zuf,Zrq,trivial⟩
theorem Zhy:Ak PG (Qxy Kw):=rw1 (C:=Qah So Sz UW) Zk7
def Zxr:=qd 160 Qft Qpc
def Qne (D:Fn):Cfg:=cp [Qxy D] [156]
def Qj4 (D:Fn):Fn:=An PG (Qne D) 64 160 Qft Qpc
theorem Yit (G:Fn) (D:Int) (K:Kf) (c:Cv):Qj4 G (I D::Aj K c)=
 cond (decide (0<=D)&&decide (D<((K.p.aD.map Aq).length:Int))) (cond (gA (nth [] (K.p.aD.map Aq) D.toNat) 1==1) ((G (Aj K {c with on:=true,idx:=D,aN:=c.o3,cnt:=0})).bind λS=>
 some (jA S 0::cR 1 S)) (cond (gA (nth [] (K.p.aD.map Aq) D.toNat) 1==2) ((G (Aj K {c with on:=true,idx:=D,aN:=c.o3,cnt:=0})).bind λo8=>
 some (jA o8 0::cR 1 o8)) (cond (gA (nth [] (K.p.aD.map Aq) D.toNat) 1==6) ((G (Aj K {c with on:=true,idx:=D,aN:=c.o3,cnt:=0})).bind λT=>
 some (jA T 0::cR 1 T)) (cond (gA (nth [] (K.p.aD.map Aq) D.toNat) 1==4) ((G (Aj K {c with on:=true,idx:=D,aN:=true,cnt:=0})).bind λL=>
 some (jA L 0::cR 1 L)) (cond (gA (nth [] (K.p.aD.map Aq) D.toNat) 1==3) (cond (decide (0<=gA (nth [] (K.p.aD.map Aq) D.toNat) 2)&&decide (gA (nth [] (K.p.aD.map Aq) D.toNat) 2<((K.aA.map Af).length:Int))) (cond (gA (nth [] (K.aA.map Af) (gA (nth [] (K.p.aD.map Aq) D.toNat) 2).toNat) 0==11) ((G (Aj K {c with on:=true,idx:=D,aN:=true,cnt:=0})).bind λM=>
 some (jA M 0::cR 1 M)) ((G (Aj K {c with on:=true,idx:=D,aN:=gA (nth [] (K.aA.map Af) (gA (nth [] (K.p.aD.map Aq) D.toNat) 2).toNat) 0==12,cnt:=0})).bind λN=>
 some (jA N 0::cR 1 N))) (none)) ((G (Aj K {c with on:=true,idx:=D,aN:=false,cnt:=0})).bind λO=>
 some (jA O 0::cR 1 O))))))) (none):=by kernel_rfl
def Si:=Qj4 Kw
theorem Zsz:Ai PG (Qne Kw):=Ao rfl ⟨Zhy,trivial⟩
theorem Ye9:Ak PG (Zxr Si):=rw1 (C:=Qne Kw) Zsz
def Qnh:Sk:=⟨[tf [sa kPt],tf [ci],TS.v true [ci,ci,sb,sb,sb],tf [ci],tf [ci]],[],[]⟩
def Ykm:=qd 211 Qnh Xx
def Qjq (D:Fn):Cfg:=cf [Q2n D]
def Zad:Sk:=⟨[tf [sa kPt],td,td,tf [ci],tf [ci],td,td,tf [sd 7 0],td,td,td,td,tf [ci]]++dd 32,[(7,163,[ci,ci,sb,sb,sb])],[]⟩
def Q3y:List (Ex×Sk):=[(Ex.ret,⟨dd 10++[tf [ci],tf [ci]]++dd 33,[],[]⟩),(Ex.exit 0,⟨[td,td,td,tf [ci]]++dd 41,[],[]⟩)]
def Sh (D:Fn):Lp:=AG PG (Qjq D) 64 2 (AH PG 211 2) Zad Q3y
def Qyu (D:Fn) (G:Lp):Cfg:=(Qjq D).loop 2 Zad Q3y G
def Qik (D:Fn) (G:Lp):Fn:=An PG (Qyu D G) 64 211 Qnh Xx
theorem Zvn (X:Fn) (G:Rw) (L M D N S:Int) (T U V:Bool):Sh X [.vC kPt G,I L,I M,I D,I N,I S,B T,B U,B V]=
 cond (decide (D<(G.length:Int))) (cond (decide (0<=D)&&decide (D<(G.length:Int))) ((X [jA (nth [] G D.toNat) 0,jA (nth [] G D.toNat) 1,jA (nth [] G D.toNat) 2,I N,I S,B T,B U,B V]).bind λo2=>
 cond (bA o2 0) (cond (decide (M<=gA (nth [] G D.toNat) 0)) (cond (decide (gA (nth [] G D.toNat) 0<=L)) (some (1,[jA (nth [] G D.toNat) 0,I D])) (some (0,[.vC kPt G,I L,I M,I (O (D+1)),I N,I S,B T,B U,B V]))) (some (0,[.vC kPt G,I L,I M,I (O (D+1)),I N,I S,B T,B U,B V]))) (some (0,[.vC kPt G,I L,I M,I (O (D+1)),I N,I S,B T,B U,B V]))) (none)) (some (2,[I L])):=by kernel_rfl
theorem Zod (X:Fn) (D:Lp) (G:Rw) (L M N:Int) (O S T:Bool) (U V:Int):Qik X D [.vC kPt G,I L,I M,I N,B O,B S,B T,I U,I V]=
 (D [.vC kPt G,I U,I V,I (mx L 0),I M,I N,B O,B S,B T]).bind λo3=>
 cond (o3.1.beq 1) (some [jA o3.2 0,jA o3.2 1]) (cond (o3.1.beq 2) (some [jA o3.2 0,I (-1)]) (none)):=by kernel_rfl
def Q5j:=Al (Sh IF)
def QD:=Qik IF Q5j
theorem Zf3:Ai PG (Qjq IF):=Ao rfl ⟨Q1e,trivial⟩
theorem Yjn:Ak PG (Ykm QD):=rw2 (C:=Qyu IF Q5j) (fl fb Zf3) Zf3
def Yc2:=qd 210 YO Zb
def Zds:Sk:=⟨[td,tf [ci]]++dd 11++[tf [sa Ap],tf [ci],tf [ci]]++dd 28,[],[]⟩
def Qwj:List (Ex×Sk):=[(Ex.ret,⟨[td,td,td,td,tf [ci]]++dd 39,[],[]⟩),(Ex.exit 0,⟨[td]++dd 43,[],[]⟩)]
def R8:Lp:=AG PG Qj1 64 4 (AH PG 210 4) Zds Qwj
def Q1m (D:Lp):Cfg:=Qj1.loop 4 Zds Qwj D
def Zfw (D:Lp):Fn:=An PG (Q1m D) 64 210 YO Zb
theorem Qze (L:Int) (G:Rw) (M D:Int):R8 [I L, .vC Ap G,I M,I D]=
 cond (decide (D<M)) (cond (decide (0<=D)&&decide (D<(G.length:Int))) (cond (gA (nth [] G D.toNat) 3 !=0) (cond (decide (0<=O (O (L-gA (nth [] G D.toNat) 2)*gA (nth [] G D.toNat) 3))) (cond (decide (O (O (L-gA (nth [] G D.toNat) 2)*gA (nth [] G D.toNat) 3)<=gA (nth [] G D.toNat) 1)) (some (1,[I (O (gA (nth [] G D.toNat) 0+O (O (L-gA (nth [] G D.toNat) 2)*gA (nth [] G D.toNat) 3)))])) (some (0,[I L, .vC Ap G,I M,I (O (D+1))]))) (some (0,[I L, .vC Ap G,I M,I (O (D+1))]))) (some (0,[I L, .vC Ap G,I M,I (O (D+1))]))) (none)) (some (2,[])):=by kernel_rfl
theorem Yi9 (L:Lp) (D:Rw) (N M O S T G:Int):Zfw L [.vC Ap D,I N,I M,I O,I S,I T,I G]=
 cond (G==M) (some [I 0]) ((L [I G, .vC Ap D,I (D.length:Int),I 0]).bind λo1=>
 cond (o1.1.beq 1) (some [jA o1.2 0]) (cond (o1.1.beq 2) (some [I (-1)]) (none))):=by kernel_rfl
def LF:=Al (R8)
def NJ:=Zfw LF
theorem Zhp:Ai PG (Qj1):=Ao rfl trivial
theorem Zuz:Ak PG (Yc2 NJ):=rw2 (C:=Q1m LF) (fl fb Zhp) Zhp
def Qrm:Sk:=⟨[TS.tup [(false,[ci]),(false,[ci])]],[(20000,179,cS)],[]⟩
def Z87:=qd 159 Qr3 Qrm
def Zf (D G I L:Fn):Cfg:=cf [Ykm D,Yc2 G,Uq I,Zvv L]
def Qbo (D G I L:Fn):Fn:=An PG (Zf D G I L) 64 159 Qr3 Qrm
abbrev UX (Y:Fn) (K:Kf) (c:Cv) (B6 S X:Fn) (D:AC):Option (List AC):=
 (Y [I K.pa,I K.pb,I K.pc,I c.m0,I c.m1,I c.m2,I c.m3,I c.m4,I c.m5]).bind λL=>
 (B6 (Bu K.t++[I (O ((O (O (gA L 0+256)-1)).tdiv 256))])).bind λG=>
 (S (Bu K.t++[jA G 0])).bind λT=>
 cond (gA T 0 !=O ((O (O (gA L 0+256)-1)).tdiv 256)) ((X [.vC kPt (K.p.aD.map Aq),I c.next,I c.o0,I c.o1,B c.o2,B c.o3,B c.o4,D,I (O (gA G 0+1))]).bind λM=>
 (S (Bu K.t++[jA M 0])).bind λU=>
 some (jA U 0::jA M 1::Aj K c)) ((X [.vC kPt (K.p.aD.map Aq),I c.next,I c.o0,I c.o1,B c.o2,B c.o3,B c.o4,D,jA G 0]).bind λN=>
 (S (Bu K.t++[jA N 0])).bind λV=>
 some (jA V 0::jA N 1::Aj K c))
theorem Yiw (D G L M:Fn) (K:Kf) (c:Cv):Qbo D G L M (Aj K c)=
 cond (K.closed) (UX M K c L G D (I K.len)) (UX M K c L G D (I K.set)):=by kernel_rfl
def Rs:=Qbo QD NJ ES Kc
theorem Yaq:Ai PG (Zf QD NJ ES Kc):=Ao rfl ⟨Yjn,Zuz,UY,Zxe,trivial⟩
theorem Yd0:Ak PG (Z87 Rs):=rw1 (C:=Zf QD NJ ES Kc) Yaq
def Zv7:=qd 109 Qr3 Qpc
def Qkw (D G I L:Fn):Cfg:=cp [Z6o D,Q0n G,Zxr I,Z87 L] [162,161,160,159]
def YN (D G I L:Fn):Fn:=An PG (Qkw D G I L) 64 109 Qr3 Qpc
theorem Z8k (G T U V:Fn) (K:Kf) (c:Cv):YN G T U V (Aj K c)=
 (V (Aj K c)).bind λD=>
 cond (bA D 90) (cond (gA D 52==O (gA D 0*256)) (cond (decide (gA D 1>=0)) ((U (jA D 1::cR 2 D)).bind λo8=>
 cond (decide (0<=gA D 1)&&decide (gA D 1<(↑(wA o8 42).length:Int))) (cond (Ah (nth .vD (nth [] (wA o8 42) (gA D 1).toNat) 2)==gA o8 80) (cond (decide (0<=Ah (nth .vD (nth [] (wA o8 42) (gA D 1).toNat) 2))&&decide (Ah (nth .vD (nth [] (wA o8 42) (gA D 1).toNat) 2)<(↑(wA o8 36).length:Int))) (cond (Ah (nth .vD (nth [] (wA o8 36) (Ah (nth .vD (nth [] (wA o8 42) (gA D 1).toNat) 2)).toNat) 0)==5) (cond (gA o8 83==1) ((T (cR 1 o8)).bind λX=>
 some (jA o8 0::cR 0 X)) (some (jA o8 0::cR 1 o8))) (some (jA o8 0::cR 1 o8))) (none)) (some (jA o8 0::cR 1 o8))) (none)) (cond (bA D 38) (some (I 7::E1 (cR 2 D) [(78,I 7)])) (some (I 1::cR 2 D)))) (cond (gA D 63 !=0) ((G (jA D 0::cR 2 D)).bind λL=>
 cond (bA D 90) (some (I 6::cR 0 L)) (some (I 1::cR 0 L))) ((G (jA D 0::cR 2 D)).bind λN=>
 some (I 1::cR 0 N)))) (cond (gA D 63 !=0) ((G (jA D 0::cR 2 D)).bind λM=>
 cond (bA D 90) (some (I 6::cR 0 M)) (some (I 1::cR 0 M))) ((G (jA D 0::cR 2 D)).bind λS=>
 some (I 1::cR 0 S))):=by kernel_rfl
def Lg:=YN Qj Ly Si Rs
theorem Ybo:Ai PG (Qkw Qj Ly Si Rs):=Ao rfl ⟨Zwz,Zg6,Ye9,Yd0,trivial⟩
theorem Zzc:Ak PG (Zv7 Lg):=rw1 (C:=Qkw Qj Ly Si Rs) Ybo
def Zbn:=qd 98 Zb Qnd
def Qd3:Fn:=An PG Qj1 64 98 Zb Qnd
theorem Ye5 (D:Int):Qd3 [I D]=
 some [I (O (D*256)),I 0,I 0,I (O (D*256)),I (O (D*256)),I (O (D*256))]:=by kernel_rfl
def JC:=Qd3
theorem Zur:Ai PG (Qj1):=Ao rfl trivial
theorem Qwr:Ak PG (Zbn JC):=rw1 (C:=Qj1) Zur
def Que:Sk:=⟨[TS.v true (cc 9++[sa Aa]++cc 9++[sa Aa]++cc 9++[sa Aa]),TS.v true [ci,ci,ci],TS.v true [ci,ci,ci]],[],[]⟩
def Zvx:=qd 51 Que Zb
def Q5v:Fn:=An PG Qi8 64 51 Que Zb
theorem Zln (x0 x1 x2 x3 x4 x5 S x7 x8:Int) (x9:Rw) (V X Y a0 a1 a2 D a3 a4:Int) (a5:Rw) (a6 a7 a8 a9 b0 b1 G b2 b3:Int) (b4:Rw) (T N L U O M:Int):Q5v [I x0,I x1,I x2,I x3,I x4,I x5,I S,I x7,I x8, .vC Aa x9,I V,I X,I Y,I a0,I a1,I a2,I D,I a3,I a4, .vC Aa a5,I a6,I a7,I a8,I a9,I b0,I b1,I G,I b2,I b3, .vC Aa b4,I T,I N,I L,I U,I O,I M]=
 cond (T !=U) (cond (N !=O) (cond (L !=M) (some [I (mx (mx (mx 0 S) D) G)]) (some [I (mx (mx 0 S) D)])) (cond (L !=M) (some [I (mx (mx 0 S) G)]) (some [I (mx 0 S)]))) (cond (N !=O) (cond (L !=M) (some [I (mx (mx 0 D) G)]) (some [I (mx 0 D)])) (cond (L !=M) (some [I (mx 0 G)]) (some [I 0]))):=by kernel_rfl
def Nr:=Q5v
theorem Zka:Ai PG (Qi8):=Ao rfl trivial
theorem Zz8:Ak PG (Zvx Nr):=rw1 (C:=Qi8) Zka
def Yka:=qd 50 Qs7 Quw
def Zhs:Fn:=An PG Qbu 64 50 Qs7 Quw
abbrev Sj (L M:Int) (D:AC) (N S:Int) (G:AC):Option (List AC):=
 cond (decide (L>M)) (some [D,G,I N]) (cond (decide (L<M)) (some [D,G,I (O (0-N))]) (some [D,G,I S]))
abbrev Ue (S T L M G N U:Int) (D:AC):Option (List AC):=
 cond (decide (S>T)) (Sj L M D G N (I G)) (cond (decide (S<T)) (Sj L M D G N (I (O (0-G)))) (Sj L M D G N (I U)))
theorem Zn2 (X G L U M N V S T D:Int):Zhs [I X,I G,I L,I U,I M,I N,I V,I S,I T,I D]=
 cond (decide (V>U)) (Ue S M T N D L G (I D)) (cond (decide (V<U)) (Ue S M T N D L G (I (O (0-D)))) (Ue S M T N D L G (I X))):=by kernel_rfl
def OH:=Zhs
theorem Z48:Ai PG (Qbu):=Ao rfl trivial
theorem Yhn:Ak PG (Yka OH):=rw1 (C:=Qbu) Z48
def Qpi:Sk:=⟨[TS.v true (cc 10),tf [sd 20000 0]],[(20000,52,[se 20000 10]++cc 5)],[(20000,104,Ap)]⟩
def ZZ:Sk:=⟨[TS.tup []],[(20000,52,[se 20000 10]++cc 5)],[(20000,104,Ap)]⟩
def Q9p:=qd 48 Qpi ZZ
def V0:Fn:=An PG Qj1 64 48 Qpi ZZ
theorem Zgc (D:Rw) (x1 M x3 V x5 x6 x7 X Y L G N S T U:Int):V0 [.vC Ap D,I x1,I M,I x3,I V,I x5,I x6,I x7,I X,I Y,I L,I G,I N,I S,I T,I U]=
 cond (decide ((D.length:Int)>0)) (cond (V !=0) (cond (decide (0<=O ((D.length:Int)-1))&&decide (O ((D.length:Int)-1)<(D.length:Int))) (cond (gA (nth [] D (O ((D.length:Int)-1)).toNat) 3==V) (cond (decide (0<=O ((D.length:Int)-1))&&decide (O ((D.length:Int)-1)<(D.length:Int))) (cond (gA (nth [] D (O ((D.length:Int)-1)).toNat) 7==X&&(gA (nth [] D (O ((D.length:Int)-1)).toNat) 8==Y&&(gA (nth [] D (O ((D.length:Int)-1)).toNat) 9==L&&true))) (cond (decide (0<=O ((D.length:Int)-1))&&decide (O ((D.length:Int)-1)<(D.length:Int))) (cond (decide (0<=O ((D.length:Int)-1))&&decide (O ((D.length:Int)-1)<(D.length:Int))) (some [.vC Ap (D.set (O ((D.length:Int)-1)).toNat [jA (nth [] D (O ((D.length:Int)-1)).toNat) 0,I (O (gA (nth [] D (O ((D.length:Int)-1)).toNat) 1+M)),jA (nth [] D (O ((D.length:Int)-1)).toNat) 2,jA (nth [] D (O ((D.length:Int)-1)).toNat) 3,jA (nth [] D (O ((D.length:Int)-1)).toNat) 4,jA (nth [] D (O ((D.length:Int)-1)).toNat) 5,jA (nth [] D (O ((D.length:Int)-1)).toNat) 6,jA (nth [] D (O ((D.length:Int)-1)).toNat) 7,jA (nth [] D (O ((D.length:Int)-1)).toNat) 8,jA (nth [] D (O ((D.length:Int)-1)).toNat) 9]),I (O (G+M)),I N,I S,I T,I U]) (none)) (none)) (cond (((D++[[I G,I M,I x3,I V,I x5,I x6,I x7,I X,I Y,I L]]).length*80).ble 140737488355328) (some [.vC Ap (D++[[I G,I M,I x3,I V,I x5,I x6,I x7,I X,I Y,I L]]),I (O (G+M)),I N,I S,I T,I U]) (none))) (none)) (cond (((D++[[I G,I M,I x3,I V,I x5,I x6,I x7,I X,I Y,I L]]).length*80).ble 140737488355328) (some [.vC Ap (D++[[I G,I M,I x3,I V,I x5,I x6,I x7,I X,I Y,I L]]),I (O (G+M)),I N,I S,I T,I U]) (none))) (none)) (cond (((D++[[I G,I M,I x3,I V,I x5,I x6,I x7,I X,I Y,I L]]).length*80).ble 140737488355328) (some [.vC Ap (D++[[I G,I M,I x3,I V,I x5,I x6,I x7,I X,I Y,I L]]),I (O (G+M)),I N,I S,I T,I U]) (none))) (cond (((D++[[I G,I M,I x3,I V,I x5,I x6,I x7,I X,I Y,I L]]).length*80).ble 140737488355328) (some [.vC Ap (D++[[I G,I M,I x3,I V,I x5,I x6,I x7,I X,I Y,I L]]),I (O (G+M)),I N,I S,I T,I U]) (none)):=by kernel_rfl
def M8:=V0
theorem Zx3:Ai PG (Qj1):=Ao rfl trivial
theorem Qv4:Ak PG (Q9p M8):=rw1 (C:=Qj1) Zx3
def Qrn:Sk:=⟨[TS.v true [ci,ci,ci],TS.v true [ci,ci,ci],tf [ci],tf [ci],tf [sd 20000 0],tf [sd 20001 0],tf [sd 20002 0],tf [sd 20003 0]],[(20000,41,[ci,ci,ci]),(20001,3,[ci]),(20002,34,cc 9++[sa Aa]++cc 9++[sa Aa]++cc 9++[sa Aa]),(20003,105,[CS.clo 48 [] [(20004,0)]]),(20004,52,[se 20000 10]++cc 5)],[(20000,104,Ap)]⟩
def Ql6:Sk:=⟨[TS.tup []],[(20000,41,[ci,ci,ci]),(20001,3,[ci]),(20002,34,cc 9++[sa Aa]++cc 9++[sa Aa]++cc 9++[sa Aa]),(20003,105,[CS.clo 48 [] [(20004,0)]]),(20004,52,[se 20000 10]++cc 5)],[(20000,104,Ap)]⟩
def Q4a:=qd 49 Qrn Ql6
def Qal (D G I:Fn):Cfg:=cp [Zvx D,Yka G,Q9p I] [48]
def Qtp (D G I:Fn):Fn:=An PG (Qal D G I) 64 49 Qrn Ql6
theorem Ya1 (OY P6 FR:Fn) (x0:Rw) (x1 x2 x3 x4 x5 x6 x7 x8 x9 L M G N O S T U V X Y a0:Int) (a1:Rw) (a2 a3 a4 a5 a6 a7 a8 a9 b0:Int) (b1:Rw) (b2 b3 b4 b5 b6 b7 b8 b9 c0:Int) (c1:Rw) (c2 c3 c4 c5 c6:Int):Qtp OY P6 FR [.vC Ap x0,I x1,I x2,I x3,I x4,I x5,I x6,I x7,I x8,I x9,I L,I M,I G,I N,I O,I S,I T,I U,I V,I X,I Y,I a0, .vC Aa a1,I a2,I a3,I a4,I a5,I a6,I a7,I a8,I a9,I b0, .vC Aa b1,I b2,I b3,I b4,I b5,I b6,I b7,I b8,I b9,I c0, .vC Aa c1,I c2,I c3,I c4,I c5,I c6]=
 (P6 [I x9,I L,I M,I x1,I x2,I x3,I x4,I x5,I x6,I G]).bind λD=>
 (OY [I N,I O,I S,I T,I U,I V,I X,I Y,I a0, .vC Aa a1,I a2,I a3,I a4,I a5,I a6,I a7,I a8,I a9,I b0, .vC Aa b1,I b2,I b3,I b4,I b5,I b6,I b7,I b8,I b9,I c0, .vC Aa c1,I x9,I L,I M,jA D 0,jA D 1,jA D 2]).bind λo6=>
 cond (decide (gA o6 0>0)) ((FR [.vC Ap x0,I 0,jA o6 0,I x7,I 0,I x9,I L,I M,jA D 0,jA D 1,jA D 2,I c2,I c3,I c4,I c5,I c6]).bind λo7=>
 (FR [.vC Ap (wA o7 0),I 0,I x8,I x7,I G,jA D 0,jA D 1,jA D 2,jA D 0,jA D 1,jA D 2,jA o7 1,jA o7 2,jA o7 3,jA o7 4,jA o7 5]).bind λo8=>
 some [.vC Ap (wA o8 0),jA D 0,jA D 1,jA D 2,I G,I N,I O,I S,I T,I U,I V,I X,I Y,I a0, .vC Aa a1,I a2,I a3,I a4,I a5,I a6,I a7,I a8,I a9,I b0, .vC Aa b1,I b2,I b3,I b4,I b5,I b6,I b7,I b8,I b9,I c0, .vC Aa c1,jA o8 1,jA o8 2,jA o8 3,jA o8 4,jA o8 5]) ((FR [.vC Ap x0,I 0,I x8,I x7,I G,jA D 0,jA D 1,jA D 2,jA D 0,jA D 1,jA D 2,I c2,I c3,I c4,I c5,I c6]).bind λo9=>
 some [.vC Ap (wA o9 0),jA D 0,jA D 1,jA D 2,I G,I N,I O,I S,I T,I U,I V,I X,I Y,I a0, .vC Aa a1,I a2,I a3,I a4,I a5,I a6,I a7,I a8,I a9,I b0, .vC Aa b1,I b2,I b3,I b4,I b5,I b6,I b7,I b8,I b9,I c0, .vC Aa c1,jA o9 1,jA o9 2,jA o9 3,jA o9 4,jA o9 5]):=by kernel_rfl
def FW:=Qtp Nr OH M8
theorem Yap:Ai PG (Qal Nr OH M8):=Ao rfl ⟨Zz8,Yhn,Qv4,trivial⟩
theorem Zbp:Ak PG (Q4a FW):=rw1 (C:=Qal Nr OH M8) Yap
def Qb1:Sk:=⟨[TS.v true [ci,ci,ci,sa Ag,sa kPt],tf [ci],tf [ci],tf [ci],tf [CS.clo 49 [] [(20000,0),(20001,0),(20002,0),(20003,0)]]],[(20000,41,[ci,ci,ci]),(20001,3,[ci]),(20002,34,cc 9++[sa Aa]++cc 9++[sa Aa]++cc 9++[sa Aa]),(20003,105,[CS.clo 48 [] [(20004,0)]]),(20004,52,[se 20000 10]++cc 5)],[(20000,104,Ap)]⟩
def Z9i:=qd 52 Qb1 Ql6
def W2 (D:Fn):Cfg:={cp [Q4a D] [49]with prom:=λb=>cond (Nat.beq b 4) ([(11,3)]) ([])}
def Q9n:Sk:=⟨[td,tf [ci],tf [ci],tf [ci],tf [CS.clo 49 [] [(20000,0),(20001,0),(20002,0),(20003,0)]],tf [sd 5 0],td,td,td,td,tf [ci],tf [se 11 1]]++dd 9++[tf [sa Ag],tf [ci],tf [ci]]++dd 78,[(5,46,[ci,ci,ci,sa Ag,sa kPt]),(20000,41,[ci,ci,ci]),(20001,3,[ci]),(20002,34,cc 9++[sa Aa]++cc 9++[sa Aa]++cc 9++[sa Aa]),(20003,105,[CS.clo 48 [] [(20004,0)]]),(20004,52,[se 20000 10]++cc 5)],[(11,3,Aa),(20000,104,Ap)]⟩
def Qvn:List (Ex×Sk):=[(Ex.exit 0,⟨[td,tf [ci],tf [ci],tf [ci],tf [CS.clo 49 [] [(20000,0),(20001,0),(20002,0),(20003,0)]],tf [sd 5 0],td,td,td,td,td,tf [se 11 1]]++dd 90,[(5,46,[ci,ci,ci,sa Ag,sa kPt]),(20000,41,[ci,ci,ci]),(20001,3,[ci]),(20002,34,cc 9++[sa Aa]++cc 9++[sa Aa]++cc 9++[sa Aa]),(20003,105,[CS.clo 48 [] [(20004,0)]]),(20004,52,[se 20000 10]++cc 5)],[(11,3,Aa),(20000,104,Ap)]⟩)]
def U8 (D:Fn):Lp:=AG PG (W2 D) 64 4 (AH PG 52 4) Q9n Qvn
def Zb3 (D:Fn) (G:Lp):Cfg:=(W2 D).loop 4 Q9n Qvn G
def Zcd:Sk:=⟨[td,tf [ci],tf [ci],tf [ci],tf [CS.clo 49 [] [(20000,0),(20001,0),(20002,0),(20003,0)]],tf [sd 5 0],td,td,td,td,td,tf [se 11 1]]++dd 26++[tf [ci],tf [ci]]++dd 62,[(5,46,[ci,ci,ci,sa Ag,sa kPt]),(20000,41,[ci,ci,ci]),(20001,3,[ci]),(20002,34,cc 9++[sa Aa]++cc 9++[sa Aa]++cc 9++[sa Aa]),(20003,105,[CS.clo 48 [] [(20004,0)]]),(20004,52,[se 20000 10]++cc 5)],[(11,3,Aa),(20000,104,Ap)]⟩
def Q6t:List (Ex×Sk):=[(Ex.exit 2,⟨[td]++dd 101,[(20000,41,[ci,ci,ci]),(20001,3,[ci]),(20002,34,cc 9++[sa Aa]++cc 9++[sa Aa]++cc 9++[sa Aa]),(20003,105,[CS.clo 48 [] [(20004,0)]]),(20004,52,[se 20000 10]++cc 5)],[(20000,104,Ap)]⟩)]
def Vs (D:Fn) (G:Lp):Lp:=AG PG (Zb3 D G) 64 10 (AH PG 52 10) Zcd Q6t
def Zd7 (G:Fn) (I D:Lp):Cfg:=(Zb3 G I).loop 10 Zcd Q6t D
def Qgc (G:Fn) (I D:Lp):Fn:=An PG (Zd7 G I D) 64 52 Qb1 Ql6
theorem Q4o (BM:Fn) (v0 v1:Rw) (v2 v3 v4 v5:Int) (v6:Rw) (v7 v8 v9 v10 v11:Int) (v12 D:Rw) (G L M N S T v20 v21 v22 U v24 v25 V:Int) (v27:Rw) (v28 X v30 v31 Y v33 a0 v35 v36:Int) (v37:Rw) (v38 a1 v40 a2 v42 a3 v44 a4 v46:Int) (a5:Rw) (v48 v49 a6 v51 a7:Int):U8 BM [.vC Aa v0, .vC Ap v1,I v2,I v3,I v4,I v5, .vC Ag v6,I v7,I v8,I v9,I v10,I v11, .vC Ag v12, .vC kPt D,I G,I L,I M,I N,I S,I T,I v20,I v21,I v22,I U,I v24,I v25,I V, .vC Aa v27,I v28,I X,I v30,I v31,I Y,I v33,I a0,I v35,I v36, .vC Aa v37,I v38,I a1,I v40,I a2,I v42,I a3,I v44,I a4,I v46, .vC Aa a5,I v48,I v49,I a6,I v51,I a7]=
 cond (decide (v8<v7)) (cond (decide (0<=v8)&&decide (v8<(v6.length:Int))) (cond (((v0++[[I v5]]).length*8).ble 140737488355328) (some (0,[.vC Aa (v0++[[I v5]]), .vC Ap v1,I v2,I v3,I v4,I (O (v5+gA (nth [] v6 v8.toNat) 3)), .vC Ag v6,I v7,I (O (v8+1)),I v9,I v10,I v11, .vC Ag v12, .vC kPt D,I G,I L,I M,I N,I S,I T,I v20,I v21,I v22,I U,I v24,I v25,I V, .vC Aa v27,I v28,I X,I v30,I v31,I Y,I v33,I a0,I v35,I v36, .vC Aa v37,I v38,I a1,I v40,I a2,I v42,I a3,I v44,I a4,I v46, .vC Aa a5,I v48,I v49,I a6,I v51,I a7])) (none)) (none)) (some (1,[.vC Aa v0, .vC Ap v1,I v2,I v3,I v4,I v9,I v10,I v11, .vC Ag v12, .vC kPt D,I G,I L,I M,I N,I S,I T,I v20,I v21,I v22,I U,I v24,I v25,I V, .vC Aa v27,I v28,I X,I v30,I v31,I Y,I v33,I a0,I v35,I v36, .vC Aa v37,I v38,I a1,I v40,I a2,I v42,I a3,I v44,I a4,I v46, .vC Aa a5,I v48,I v49,I a6,I v51,I a7])):=by kernel_rfl
abbrev R5 (M:Bool) (BM:Fn) (v1:Rw) (N S G L:AC) (v12 Y a0 a1 a2 a3 a4 a5 v20 v21 v22 a6 v24:Int) (v25:Rw) (a7 v27 v28 a8 v30 v31 a9 v33 b0:Int) (v35:Rw) (v36 v37 v38 b1 v40 b2 v42 b3 v44:Int) (b4:Rw) (v46 b5 v48 v49 b6:Int) (v0:Rw) (v2 v3 v4 v5 v6 v7 v8 v9:Int) (v10 v11:Rw) (T U V X:AC):Option (Nat×List AC):=
 cond (M) ((BM [.vC Ap v1,T,U,V,N,S,G,X,L,I v12,I Y,I a0,I a1,I a2,I a3,I a4,I a5,I v20,I v21,I v22,I a6,I v24, .vC Aa v25,I a7,I v27,I v28,I a8,I v30,I v31,I a9,I v33,I b0, .vC Aa v35,I v36,I v37,I v38,I b1,I v40,I b2,I v42,I b3,I v44, .vC Aa b4,I v46,I b5,I v48,I v49,I b6]).bind λD=>
 some (0,[.vC Aa v0, .vC Ap (wA D 0),I v2,I v3,I v4,I v5,I (O (v6+1)),I v7,I v8,I v9, .vC Ag v10, .vC kPt v11,jA D 1,jA D 2,jA D 3,jA D 4,jA D 5,jA D 6,jA D 7,jA D 8,jA D 9,jA D 10,jA D 11,jA D 12,jA D 13, .vC Aa (wA D 14),jA D 15,jA D 16,jA D 17,jA D 18,jA D 19,jA D 20,jA D 21,jA D 22,jA D 23, .vC Aa (wA D 24),jA D 25,jA D 26,jA D 27,jA D 28,jA D 29,jA D 30,jA D 31,jA D 32,jA D 33, .vC Aa (wA D 34),jA D 35,jA D 36,jA D 37,jA D 38,jA D 39])) (none)
abbrev Qdj (v0 v1:Rw) (v2 v3 v4 v5 v6 v7 v8 v9:Int) (v10 v11:Rw) (v12 S T U V X Y a0 v20 v21 v22 a1 v24:Int) (v25:Rw) (a2 v27 v28 a3 v30 v31 a4 v33 a5:Int) (v35:Rw) (v36 v37 v38 a6 v40 a7 v42 a8 v44:Int) (a9:Rw) (v46 b0 v48 v49 b1:Int) (BM:Fn) (b4 L b8 b9 c0:Bool) (b5 b6 b7 M N D b2 G b3:AC):Option (Nat×List AC):=
 cond (b4) (cond (b4) (cond (L) (cond (b8) (some (0,[.vC Aa v0, .vC Ap v1,I v2,I v3,I v4,I v5,I (O (v6+1)),I v7,I v8,I v9, .vC Ag v10, .vC kPt v11,I v12,I S,I T,I U,I V,I X,I Y,I a0,I v20,I v21,I v22,I a1,I v24, .vC Aa v25,I a2,I v27,I v28,I a3,I v30,I v31,I a4,I v33,I a5, .vC Aa v35,I v36,I v37,I v38,I a6,I v40,I a7,I v42,I a8,I v44, .vC Aa a9,I v46,I b0,I v48,I v49,I b1])) (cond (b9) (cond (c0) (cond (decide (v4<0)) (R5 L BM v1 M N D G v12 S T U V X Y a0 v20 v21 v22 a1 v24 v25 a2 v27 v28 a3 v30 v31 a4 v33 a5 v35 v36 v37 v38 a6 v40 a7 v42 a8 v44 a9 v46 b0 v48 v49 b1 v0 v2 v3 v4 v5 v6 v7 v8 v9 v10 v11 b5 b6 b7 b2) (R5 L BM v1 M N D G v12 S T U V X Y a0 v20 v21 v22 a1 v24 v25 a2 v27 v28 a3 v30 v31 a4 v33 a5 v35 v36 v37 v38 a6 v40 a7 v42 a8 v44 a9 v46 b0 v48 v49 b1 v0 v2 v3 v4 v5 v6 v7 v8 v9 v10 v11 b5 b6 b7 b3)) (none)) (cond (decide (v4<0)) (R5 L BM v1 M N D G v12 S T U V X Y a0 v20 v21 v22 a1 v24 v25 a2 v27 v28 a3 v30 v31 a4 v33 a5 v35 v36 v37 v38 a6 v40 a7 v42 a8 v44 a9 v46 b0 v48 v49 b1 v0 v2 v3 v4 v5 v6 v7 v8 v9 v10 v11 (I v7) (I v8) (I v9) b2) (R5 L BM v1 M N D G v12 S T U V X Y a0 v20 v21 v22 a1 v24 v25 a2 v27 v28 a3 v30 v31 a4 v33 a5 v35 v36 v37 v38 a6 v40 a7 v42 a8 v44 a9 v46 b0 v48 v49 b1 v0 v2 v3 v4 v5 v6 v7 v8 v9 v10 v11 (I v7) (I v8) (I v9) b3)))) (none)) (none)) (none)
theorem Zek (BM:Fn) (N4:Lp) (G v1:Rw) (L M v4 v5 D v7 v8 v9:Int) (v10 v11:Rw) (v12 N S T U V X Y v20 v21 v22 a0 v24:Int) (v25:Rw) (a1 v27 v28 a2 v30 v31 a3 v33 a4:Int) (v35:Rw) (v36 v37 v38 a5 v40 a6 v42 a7 v44:Int) (a8:Rw) (v46 a9 v48 v49 b0:Int):Vs BM N4 [.vC Aa G, .vC Ap v1,I L,I M,I v4,I v5,I D,I v7,I v8,I v9, .vC Ag v10, .vC kPt v11,I v12,I N,I S,I T,I U,I V,I X,I Y,I v20,I v21,I v22,I a0,I v24, .vC Aa v25,I a1,I v27,I v28,I a2,I v30,I v31,I a3,I v33,I a4, .vC Aa v35,I v36,I v37,I v38,I a5,I v40,I a6,I v42,I a7,I v44, .vC Aa a8,I v46,I a9,I v48,I v49,I b0]=
 cond (decide (D<v5)) (cond (decide (v4<0)) (Qdj G v1 L M v4 v5 D v7 v8 v9 v10 v11 v12 N S T U V X Y v20 v21 v22 a0 v24 v25 a1 v27 v28 a2 v30 v31 a3 v33 a4 v35 v36 v37 v38 a5 v40 a6 v42 a7 v44 a8 v46 a9 v48 v49 b0 BM (decide (0<=O (O ((v10.length:Int)-1)-D))&&decide (O (O ((v10.length:Int)-1)-D)<(G.length:Int))) (decide (0<=O (O ((v10.length:Int)-1)-D))&&decide (O (O ((v10.length:Int)-1)-D)<(v10.length:Int))) (decide (mx (Ah (nth .vD (nth [] G (O (O ((v10.length:Int)-1)-D)).toNat) 0)) L>=mn (O (Ah (nth .vD (nth [] G (O (O ((v10.length:Int)-1)-D)).toNat) 0)+Ah (nth .vD (nth [] v10 (O (O ((v10.length:Int)-1)-D)).toNat) 3))) M)) (decide (O (O ((v10.length:Int)-1)-D)>0)) (decide (0<=O (O (O ((v10.length:Int)-1)-D)-1))&&decide (O (O (O ((v10.length:Int)-1)-D)-1)<(v10.length:Int))) (I (Ah (nth .vD (nth [] v10 (O (O (O ((v10.length:Int)-1)-D)-1)).toNat) 0))) (I (Ah (nth .vD (nth [] v10 (O (O (O ((v10.length:Int)-1)-D)-1)).toNat) 1))) (I (Ah (nth .vD (nth [] v10 (O (O (O ((v10.length:Int)-1)-D)-1)).toNat) 2))) (I (Ah (nth .vD (nth [] v10 (O (O ((v10.length:Int)-1)-D)).toNat) 0))) (I (Ah (nth .vD (nth [] v10 (O (O ((v10.length:Int)-1)-D)).toNat) 1))) (I (Ah (nth .vD (nth [] v10 (O (O ((v10.length:Int)-1)-D)).toNat) 2))) (I (mn (O (Ah (nth .vD (nth [] G (O (O ((v10.length:Int)-1)-D)).toNat) 0)+Ah (nth .vD (nth [] v10 (O (O ((v10.length:Int)-1)-D)).toNat) 3))) M)) (I (O (mn (O (Ah (nth .vD (nth [] G (O (O ((v10.length:Int)-1)-D)).toNat) 0)+Ah (nth .vD (nth [] v10 (O (O ((v10.length:Int)-1)-D)).toNat) 3))) M-mx (Ah (nth .vD (nth [] G (O (O ((v10.length:Int)-1)-D)).toNat) 0)) L))) (I (mx (Ah (nth .vD (nth [] G (O (O ((v10.length:Int)-1)-D)).toNat) 0)) L))) (Qdj G v1 L M v4 v5 D v7 v8 v9 v10 v11 v12 N S T U V X Y v20 v21 v22 a0 v24 v25 a1 v27 v28 a2 v30 v31 a3 v33 a4 v35 v36 v37 v38 a5 v40 a6 v42 a7 v44 a8 v46 a9 v48 v49 b0 BM (decide (0<=D)&&decide (D<(G.length:Int))) (decide (0<=D)&&decide (D<(v10.length:Int))) (decide (mx (gA (nth [] G D.toNat) 0) L>=mn (O (gA (nth [] G D.toNat) 0+gA (nth [] v10 D.toNat) 3)) M)) (decide (D>0)) (decide (0<=O (D-1))&&decide (O (D-1)<(v10.length:Int))) (jA (nth [] v10 (O (D-1)).toNat) 0) (jA (nth [] v10 (O (D-1)).toNat) 1) (jA (nth [] v10 (O (D-1)).toNat) 2) (jA (nth [] v10 D.toNat) 0) (jA (nth [] v10 D.toNat) 1) (jA (nth [] v10 D.toNat) 2) (I (mn (O (gA (nth [] G D.toNat) 0+gA (nth [] v10 D.toNat) 3)) M)) (I (O (mn (O (gA (nth [] G D.toNat) 0+gA (nth [] v10 D.toNat) 3)) M-mx (gA (nth [] G D.toNat) 0) L))) (I (mx (gA (nth [] G D.toNat) 0) L)))) (some (1,[.vC Ap v1,I v12,I N,I S,I T,I U,I V,I X,I Y,I v20,I v21,I v22,I a0,I v24, .vC Aa v25,I a1,I v27,I v28,I a2,I v30,I v31,I a3,I v33,I a4, .vC Aa v35,I v36,I v37,I v38,I a5,I v40,I a6,I v42,I a7,I v44, .vC Aa a8,I v46,I a9,I v48,I v49,I b0])):=by kernel_rfl
theorem Zzj (BM:Fn) (N4 L:Lp) (x0:Rw) (x1 x2 x3:Int) (x4 x5:Rw) (x6 x7 x8 x9 M N O S T U V X Y a0 a1 a2:Int) (a3:Rw) (a4 a5 a6 a7 a8 a9 b0 b1 b2:Int) (b3:Rw) (b4 b5 b6 b7 b8 b9 c0 c1 c2:Int) (c3:Rw) (c4 c5 c6 c7 c8:Int):Qgc BM N4 L [.vC Ap x0,I x1,I x2,I x3, .vC Ag x4, .vC kPt x5,I x6,I x7,I x8,I x9,I M,I N,I O,I S,I T,I U,I V,I X,I Y,I a0,I a1,I a2, .vC Aa a3,I a4,I a5,I a6,I a7,I a8,I a9,I b0,I b1,I b2, .vC Aa b3,I b4,I b5,I b6,I b7,I b8,I b9,I c0,I c1,I c2, .vC Aa c3,I c4,I c5,I c6,I c7,I c8]=
 (N4 [.vC Aa [], .vC Ap x0,I x6,I x7,I x8,I 0, .vC Ag x4,I (x4.length:Int),I 0,I x1,I x2,I x3, .vC Ag x4, .vC kPt x5,I x9,I M,I N,I O,I S,I T,I U,I V,I X,I Y,I a0,I a1,I a2, .vC Aa a3,I a4,I a5,I a6,I a7,I a8,I a9,I b0,I b1,I b2, .vC Aa b3,I b4,I b5,I b6,I b7,I b8,I b9,I c0,I c1,I c2, .vC Aa c3,I c4,I c5,I c6,I c7,I c8]).bind λD=>
 cond (D.1.beq 1) ((L [.vC Aa (wA D.2 0), .vC Ap (wA D.2 1),jA D.2 2,jA D.2 3,jA D.2 4,I (↑(wA D.2 8).length:Int),I 0,jA D.2 5,jA D.2 6,jA D.2 7, .vC Ag (wA D.2 8), .vC kPt (wA D.2 9),jA D.2 10,jA D.2 11,jA D.2 12,jA D.2 13,jA D.2 14,jA D.2 15,jA D.2 16,jA D.2 17,jA D.2 18,jA D.2 19,jA D.2 20,jA D.2 21,jA D.2 22, .vC Aa (wA D.2 23),jA D.2 24,jA D.2 25,jA D.2 26,jA D.2 27,jA D.2 28,jA D.2 29,jA D.2 30,jA D.2 31,jA D.2 32, .vC Aa (wA D.2 33),jA D.2 34,jA D.2 35,jA D.2 36,jA D.2 37,jA D.2 38,jA D.2 39,jA D.2 40,jA D.2 41,jA D.2 42, .vC Aa (wA D.2 43),jA D.2 44,jA D.2 45,jA D.2 46,jA D.2 47,jA D.2 48]).bind λG=>
 cond (G.1.beq 1) (some [.vC Ap (wA G.2 0),jA G.2 1,jA G.2 2,jA G.2 3,jA G.2 4,jA G.2 5,jA G.2 6,jA G.2 7,jA G.2 8,jA G.2 9,jA G.2 10,jA G.2 11,jA G.2 12,jA G.2 13, .vC Aa (wA G.2 14),jA G.2 15,jA G.2 16,jA G.2 17,jA G.2 18,jA G.2 19,jA G.2 20,jA G.2 21,jA G.2 22,jA G.2 23, .vC Aa (wA G.2 24),jA G.2 25,jA G.2 26,jA G.2 27,jA G.2 28,jA G.2 29,jA G.2 30,jA G.2 31,jA G.2 32,jA G.2 33, .vC Aa (wA G.2 34),jA G.2 35,jA G.2 36,jA G.2 37,jA G.2 38,jA G.2 39]) (none)) (none):=by kernel_rfl
def O1:=Al (U8 FW)
def Qjf:=Al (Vs FW O1)
def Qr:=Qgc FW O1 Qjf
theorem Qrt:Ai PG (W2 FW):=Ao rfl ⟨Zbp,trivial⟩
theorem Z0o:Ak PG (Z9i Qr):=rw2 (C:=Zd7 FW O1 Qjf) (fl (fl fb Qrt) Qrt) Qrt
def ZH:Sk:=⟨[TS.v true [ci,ci,ci,sa Ag,sa kPt]],[],[]⟩
def Ze0:=qd 17 ZH Zb
def Q3i:Sk:=⟨[td,td,td,tf [ci],td,td,td,tf [sa Ag],tf [ci],tf [ci]]++dd 9,[],[]⟩
def Q7m:List (Ex×Sk):=[(Ex.exit 0,⟨[td,td,td,tf [ci]]++dd 15,[],[]⟩)]
def SB:Lp:=AG PG Qj1 64 3 (AH PG 17 3) Q3i Q7m
def Zh0 (D:Lp):Cfg:=Qj1.loop 3 Q3i Q7m D
def Q58 (D:Lp):Fn:=An PG (Zh0 D) 64 17 ZH Zb
theorem Q71 (L:Int) (G:Rw) (M D:Int):SB [I L, .vC Ag G,I M,I D]=
 cond (decide (D<M)) (cond (decide (0<=D)&&decide (D<(G.length:Int))) (some (0,[I (O (L+gA (nth [] G D.toNat) 3)), .vC Ag G,I M,I (O (D+1))])) (none)) (some (1,[I L])):=by kernel_rfl
theorem Zwc (G:Lp) (L M N:Int) (D O:Rw):Q58 G [I L,I M,I N, .vC Ag D, .vC kPt O]=
 (G [I 0, .vC Ag D,I (D.length:Int),I 0]).bind λo1=>
 cond (o1.1.beq 1) (some [jA o1.2 0]) (none):=by kernel_rfl
def SQ:=Al (SB)
def JL:=Q58 SQ
theorem Zej:Ai PG (Qj1):=Ao rfl trivial
theorem Zcc:Ak PG (Ze0 JL):=rw2 (C:=Zh0 SQ) (fl fb Zej) Zej
def Quj:Sk:=⟨[TS.v true [ci,ci,ci,sa Ag,sa kPt],TS.v true (cc 9++[sa Aa]++cc 9++[sa Aa]++cc 9++[sa Aa]),TS.v true [ci,ci,ci],tf [ci],tf [ci]],[],[]⟩
def Ys:Sk:=⟨[TS.v true ([sa Ap]++cc 5)],[],[]⟩
def Zpd:=qd 16 Quj Ys
def Qkx (D G I L M:Fn):Cfg:=cp [Z9i D,Q4a G,Q9p I,Qrz L,Ze0 M] [52,49,48]
def Qjv (D G I L M:Fn):Fn:=An PG (Qkx D G I L M) 64 16 Quj Ys
theorem Zo7 (LB BM FR DE Gz:Fn) (x0 x1 x2:Int) (x3 x4:Rw) (x5 x6 x7 x8 x9 M N O S:Int) (T:Rw) (U V X Y a0 a1 a2 a3 a4:Int) (a5:Rw) (a6 a7 a8 a9 b0 b1 b2 b3 b4:Int) (b5:Rw) (D G L b6 b7:Int):Qjv LB BM FR DE Gz [I x0,I x1,I x2, .vC Ag x3, .vC kPt x4,I x5,I x6,I x7,I x8,I x9,I M,I N,I O,I S, .vC Aa T,I U,I V,I X,I Y,I a0,I a1,I a2,I a3,I a4, .vC Aa a5,I a6,I a7,I a8,I a9,I b0,I b1,I b2,I b3,I b4, .vC Aa b5,I D,I G,I L,I b6,I b7]=
 (Gz [I x0,I x1,I x2, .vC Ag x3, .vC kPt x4]).bind λo5=>
 (DE [I b6,jA o5 0]).bind λo6=>
 (DE [I b7,jA o5 0]).bind λo7=>
 cond (decide (gA o6 0>gA o7 0)) ((LB [.vC Ap [],I x0,I x1,I x2, .vC Ag x3, .vC kPt x4,I (mn (gA o6 0) (gA o7 0)),I (mx (gA o6 0) (gA o7 0)),I (-1),I D,I G,I L,I (-1),I x5,I x6,I x7,I x8,I x9,I M,I N,I O,I S, .vC Aa T,I U,I V,I X,I Y,I a0,I a1,I a2,I a3,I a4, .vC Aa a5,I a6,I a7,I a8,I a9,I b0,I b1,I b2,I b3,I b4, .vC Aa b5,I 0,jA o6 0,I D,I G,I L]).bind λo8=>
 some [.vC Ap (wA o8 0),jA o8 35,jA o8 36,jA o8 37,jA o8 38,jA o8 39]) ((LB [.vC Ap [],I x0,I x1,I x2, .vC Ag x3, .vC kPt x4,I (mn (gA o6 0) (gA o7 0)),I (mx (gA o6 0) (gA o7 0)),I 1,I D,I G,I L,I 1,I x5,I x6,I x7,I x8,I x9,I M,I N,I O,I S, .vC Aa T,I U,I V,I X,I Y,I a0,I a1,I a2,I a3,I a4, .vC Aa a5,I a6,I a7,I a8,I a9,I b0,I b1,I b2,I b3,I b4, .vC Aa b5,I 0,jA o6 0,I D,I G,I L]).bind λo9=>
 some [.vC Ap (wA o9 0),jA o9 35,jA o9 36,jA o9 37,jA o9 38,jA o9 39]):=by kernel_rfl
def Qf:=Qjv Qr FW M8 Ht JL
theorem Zq7:Ai PG (Qkx Qr FW M8 Ht JL):=Ao rfl ⟨Z0o,Zbp,Qv4,Qbi,Zcc,trivial⟩
theorem Zle:Ak PG (Zpd Qf):=rw1 (C:=Qkx Qr FW M8 Ht JL) Zq7
def Z3f:=qd 103 Qnd V_
def Qel:Fn:=An PG Qj1 64 103 Qnd V_
theorem Z9m (D G L M N O:Int):Qel [I D,I G,I L,I M,I N,I O]=
 cond (G==0) (cond (L==0) (cond (M==D) (some [B (N==D)]) (some [B false])) (some [B false])) (some [B false]):=by kernel_rfl
def Lv:=Qel
theorem Zts:Ai PG (Qj1):=Ao rfl trivial
theorem Zwj:Ak PG (Z3f Lv):=rw1 (C:=Qj1) Zts
def Q1u:Sk:=⟨[TS.v true [ci,ci,ci,sa Ag,sa kPt],TS.v true (cc 9++[sa Aa]++cc 9++[sa Aa]++cc 9++[sa Aa]),TS.v true ([sa Ap]++cc 5),TS.v true (cc 6),tf [ci]],[],[]⟩
def Q5c:Sk:=⟨[TS.tup [(true,[sa Ap]++cc 5),(true,cc 6),(false,[sb])]],[],[]⟩
def Zu5:=qd 158 Q1u Q5c
def Tx:Fn:=λ_=>none
theorem Z01:Ak PG (Zu5 Tx):=FZ
def YK:Sk:=⟨[TS.tup [(false,[ci]),(false,[sb])]],[(20000,179,cS)],[]⟩
def Zxw:=qd 108 Qr3 YK
def Xb (D G:Fn):Cfg:=cf [Zu5 D,Q5r G]
def Y7 (D G:Fn):Fn:=An PG (Xb D G) 64 108 Qr3 YK
abbrev ZD (M:Fn) (K:Kf) (c:Cv) (G L:AC):Option (List AC):=
 (M (pxt K.p K.x K.t [I c.m0,I c.m1,I c.m2,I c.m3,I c.m4,I c.m5,L])).bind λD=>
 cond (!bA D 12) (some (G::B true::Aj K c)) (cond (c.way==1) (some (G::B true::E1 (Aj K c) [(44, .vC Ap (wA D 0)),(45,jA D 1),(46,jA D 2),(47,jA D 3),(48,jA D 4),(49,jA D 5),(50,jA D 6),(51,jA D 7),(52,jA D 8),(53,jA D 9),(54,jA D 10),(55,jA D 11),(71,I 2),(89,B true)])) (some (G::B true::E1 (Aj K c) [(44, .vC Ap (wA D 0)),(45,jA D 1),(46,jA D 2),(47,jA D 3),(48,jA D 4),(49,jA D 5),(50,jA D 6),(51,jA D 7),(52,jA D 8),(53,jA D 9),(54,jA D 10),(55,jA D 11),(58,B true),(71,I 0),(89,B true)])))
abbrev Qin (c:Cv) (L:Fn) (K:Kf) (M:Fn) (D:AC):Option (List AC):=
 cond (!c.aM) ((L (pxt K.p K.x K.t [I K.pa,I K.pb,I K.pc,I c.o0,I c.o1,B c.o2,B c.o3,B c.o4,I c.m0,I c.m1,I c.m2,I c.m3,I c.m4,I c.m5,I K.t.length])).bind λo8=>
 some (D::B true::Aj K {c with m0:=gA o8 0,m1:=gA o8 1,m2:=gA o8 2,m3:=gA o8 3,m4:=gA o8 4,m5:=gA o8 5})) (cond (c.m0 !=O (K.t.length*256)) ((L (pxt K.p K.x K.t [I K.pa,I K.pb,I K.pc,I c.o0,I c.o1,B c.o2,B c.o3,B c.o4,I c.m0,I c.m1,I c.m2,I c.m3,I c.m4,I c.m5,I K.t.length])).bind λG=>
 some (D::B true::Aj K {c with m0:=gA G 0,m1:=gA G 1,m2:=gA G 2,m3:=gA G 3,m4:=gA G 4,m5:=gA G 5})) (cond (c.way==2) (ZD M K c D (I K.len)) (ZD M K c D (I c.home))))
theorem Zw1 (D G:Fn) (K:Kf) (c:Cv):Y7 D G (Aj K c)=
 cond (c.way==0) (some (I 0::B false::Aj K c)) (cond (c.way==2) (Qin c G K D (I 5)) (Qin c G K D (I 4))):=by kernel_rfl
def Lc:=Y7 Tx I6
theorem Zme:Ai PG (Xb Tx I6):=Ao rfl ⟨Z01,Zi9,trivial⟩
theorem Yau:Ak PG (Zxw Lc):=rw1 (C:=Xb Tx I6) Zme
def Z49:=qd 107 Qr3 YK
def Qlf (D:Fn):Cfg:=cp [Qxy D] [156]
def Qr6 (D:Fn):Fn:=An PG (Qlf D) 64 107 Qr3 YK
theorem Z0i (D:Fn) (K:Kf) (c:Cv):Qr6 D (Aj K c)=
 cond (!c.on) (some (I 0::B false::Aj K c)) ((D (Aj K c)).bind λo1=>
 some (jA o1 0::B true::cR 1 o1)):=by kernel_rfl
def LR:=Qr6 Kw
theorem Yck:Ai PG (Qlf Kw):=Ao rfl ⟨Zhy,trivial⟩
theorem Yb5:Ak PG (Z49 LR):=rw1 (C:=Qlf Kw) Yck
def Z5r:=qd 106 Qr3 YK
def Qmk:Fn:=An PG Qj1 64 106 Qr3 YK
theorem Zs6 (K:Kf) (c:Cv):Qmk (Aj K c)=
 cond (!c.aH) (some (I 0::B false::Aj K c)) (cond (!c.aM) (some (I 0::B false::Aj K c)) (some (I 8::B true::Aj K {c with aI:=8}))):=by kernel_rfl
def LP:=Qmk
theorem Z0d:Ai PG (Qj1):=Ao rfl trivial
theorem Zmz:Ak PG (Z5r LP):=rw1 (C:=Qj1) Z0d
def Zxy:=qd 105 Qr3 YK
def Wi:Fn:=An PG Qj1 64 105 Qr3 YK
theorem Zlo (K:Kf) (c:Cv):Wi (Aj K c)=
 some (I c.aI::B (c.aI !=0)::Aj K c):=by kernel_rfl
def Kg:=Wi
theorem Ybn:Ai PG (Qj1):=Ao rfl trivial
theorem Z0t:Ak PG (Zxy Kg):=rw1 (C:=Qj1) Ybn
def Zya:=qd 104 Qr3 YK
def Qnn (D Bc:Fn):Cfg:=cr [Zbn D,S_ Bc] [102] [102]
def Qm8 (D Bc:Fn):Fn:=An PG (Qnn D Bc) 64 104 Qr3 YK
theorem Zzt (D Bc:Fn) (K:Kf) (c:Cv):Qm8 D Bc (Aj K c)=
 cond (c.g0 !=2) (some (I 0::B false::Aj K c)) ((Bc (Aj K c)).bind λo2=>
 (D [jA o2 0]).bind λo3=>
 some (I 6::B true::Aj K {c with m0:=gA o3 0,m1:=gA o3 1,m2:=gA o3 2,m3:=gA o3 3,m4:=gA o3 4,m5:=gA o3 5})):=by kernel_rfl
def Lw:=Qm8 JC DM
theorem Z5z:Ai PG (Qnn JC DM):=LE (rs:=[102]) rfl ⟨Qwr,Tc,trivial⟩ rfl (DB rfl (JA L1))
theorem Zvw:Ak PG (Zya Lw):=rw1 (C:=Qnn JC DM) Z5z
def Qs4:Sk:=⟨[TS.v true [ci,ci,ci,ci],tf [ci]],[],[]⟩
def Yiy:=qd 101 Qs4 Qkf
def YP:Fn:=An PG Qj1 64 101 Qs4 Qkf
theorem Z09 (L G D N M:Int):YP [I L,I G,I D,I N,I M]=
 cond (decide (G<D)) (some [I L,I (mn (O (G+M)) D),I D,I (O (N+O (L*mn (O (G+M)) D)))]) (some [I L,I (mx (O (G-M)) D),I D,I (O (N+O (L*mx (O (G-M)) D)))]):=by kernel_rfl
def Ln:=YP
theorem Yh7:Ai PG (Qj1):=Ao rfl trivial
theorem Zl3:Ak PG (Yiy Ln):=rw1 (C:=Qj1) Yh7
def Z4v (M:Fn):Nat×Spec:=(100,E8 Qr3 V_ M)
def Qh (D:Fn):Cfg:=cr [Q9x D] [155] [155]
def VR (D:Fn):Fn:=Od PG (Qh D) 64 100 Qr3 V_
theorem Zke (D:Fn) (K:Kf) (c:Cv):VR D (Aj K c)=
 (D (Aj K c)).bind λo1=>
 cond (bA o1 7) (cond (decide (0<=gA o1 4)&&decide (gA o1 4<((K.aA.map Af).length:Int))) (cond (gA (nth [] (K.aA.map Af) (gA o1 4).toNat) 0==6) (some [B (c.y0==gA o1 4)]) (some [B false])) (none)) (some [B false]):=by kernel_rfl
def Mp:=VR HV
theorem Zyv:Ai PG (Qh HV):=LE (rs:=[155]) rfl ⟨Zas,trivial⟩ rfl (JA L1)
theorem Ztx (vars : List AC) (R : Type) (K : TV -> Mem -> Option R) : EO PG (Qh HV) 64 100 [TV.v false [AC.ptr 20000 0]] ⟨[(20000, (⟨179, (cR 0 vars)⟩ : Box))], []⟩ K = EO PG (Qh HV) 64 100 [TV.v false [AC.ptr 20000 0]] ⟨[(20000, (⟨179, (cR 0 vars)⟩ : Box))], []⟩ (λv _ => K v ⟨[(20000, (⟨179, (cR 0 vars)⟩ : Box))], []⟩) := dc (b := ((HV (cR 0 vars)).bind λo1 =>
 cond (bA o1 7) (cond (decide (0<=gA o1 4)&&decide (gA o1 4<(↑(wA vars 35).length:Int))) (cond (Ah (nth .vD (nth [] (wA vars 35) (gA o1 4).toNat) 0)==6) (K (TV.v false [B ((gA vars 79)==gA o1 4)]) ⟨[(20000,(⟨179,(cR 0 vars)⟩:Box))],[]⟩) (K (TV.v false [B false]) ⟨[(20000,(⟨179,(cR 0 vars)⟩:Box))],[]⟩)) (none)) (K (TV.v false [B false]) ⟨[(20000,(⟨179,(cR 0 vars)⟩:Box))],[]⟩))) (by kernel_rfl) (Eq.symm (by kernel_rfl))
theorem Zn7:Ak PG (100,E8 Qr3 V_ Mp):=S8 (C:=Qh HV) (L:=64) (by kernel_rfl) (FnOK.bare rfl rfl rfl) Zyv eqOk GH (by kernel_rfl) (by kernel_rfl) (λvars R K=>Ztx vars R K)
def Ztj:=qd 154 Qft Zdn
def UB:Fn:=λ_=>none
theorem Yj1:Ak PG (Ztj UB):=FZ
def Ydo:=qd 153 Qr3 Zdn
def Vc:Fn:=λ_=>none
theorem Zy3:Ak PG (Ydo Vc):=FZ
def Ykj:=qd 152 Qft Zdn
def TZ:Fn:=λ_=>none
theorem Zr7:Ak PG (Ykj TZ):=FZ
def Qbq:Sk:=⟨[],[],[]⟩
def Qwg:=qd 96 Qbq Quw
def Xl:Fn:=An PG Qj1 64 96 Qbq Quw
theorem Zn4:Xl []=
 some [I 0,I 0,I (-1)]:=by kernel_rfl
def J7:=Xl
theorem Zv3:Ai PG (Qj1):=Ao rfl trivial
theorem Q19:Ak PG (Qwg J7):=rw1 (C:=Qj1) Zv3
def Zyj:=qd 194 Qhu Quw
def TM:Fn:=λ_=>none
theorem Z5f:Ak PG (Zyj TM):=FZ
def Zt7:=qd 151 Qs5 Quw
def Qpp (D G:Fn):Cfg:=cf [Qwg D,Zyj G]
def Qi9 (D G:Fn):Fn:=An PG (Qpp D G) 64 151 Qs5 Quw
theorem Zpc (T O:Fn) (D G L U M N:Int):Qi9 T O [I D,I G,I L,I U,I M,I N]=
 cond (M==10) (some [I 2,I 22,I (-1)]) (cond (M==9) ((O [I D,I G,I L,I 21,I (-1)]).bind λo3=>
 some [jA o3 0,jA o3 1,jA o3 2]) (cond (M==8) (cond (decide (N>=0)) (cond (decide (N<=2)) ((O [I D,I G,I L,I 20,I N]).bind λo4=>
 some [jA o4 0,jA o4 1,jA o4 2]) (some [I D,I G,I L])) (some [I D,I G,I L])) (cond (M==11) ((T []).bind λS=>
 some [jA S 0,jA S 1,jA S 2]) (some [I D,I G,I L])))):=by kernel_rfl
def Vb:=Qi9 J7 TM
theorem Zyi:Ai PG (Qpp J7 TM):=Ao rfl ⟨Q19,Z5f,trivial⟩
theorem Z9p:Ak PG (Zt7 Vb):=rw1 (C:=Qpp J7 TM) Zyi
def Ziv:Sk:=⟨[tf [sb],tf [ci]],[],[]⟩
def Zu3:=qd 193 Ziv V_
def SK:Fn:=λ_=>none
theorem Zuv:Ak PG (Zu3 SK):=FZ
def Qrs:Sk:=⟨[TS.v true [ci,ci,sb,sb,sb],TS.v true [ci,ci,ci]],[],[]⟩
def Qru:Sk:=⟨[TS.v true [ci,ci,sb,sb,sb]],[],[]⟩
def Z1o:=qd 150 Qrs Qru
def Qb6 (D:Fn):Cfg:=cf [Zu3 D]
def XU (D:Fn):Fn:=An PG (Qb6 D) 64 150 Qrs Qru
theorem Z2h (T:Fn) (L M:Int) (N D G:Bool) (U S O:Int):XU T [I L,I M,B N,B D,B G,I U,I S,I O]=
 cond (S==1) (cond (decide (0<=O)) (cond (decide (O<=200)) (some [I O,I M,B N,B D,B G]) (some [I L,I M,B N,B D,B G])) (some [I L,I M,B N,B D,B G])) (cond (S==2) (cond (decide (0<=O)) (cond (decide (O<=100)) (some [I L,I O,B N,B D,B G]) (some [I L,I M,B N,B D,B G])) (some [I L,I M,B N,B D,B G])) (cond (S==3) (some [I L,I M,B true,B D,B G]) (cond (S==4) (some [I L,I M,B false,B D,B G]) (cond (S==5) ((T [B D,I O]).bind λo2=>
 some [I L,I M,B N,B (bA o2 0),B G]) (cond (S==6) ((T [B G,I O]).bind λo3=>
 some [I L,I M,B N,B D,B (bA o3 0)]) (some [I L,I M,B N,B D,B G])))))):=by kernel_rfl
def SZ:=XU SK
theorem Zyr:Ai PG (Qb6 SK):=Ao rfl ⟨Zuv,trivial⟩
theorem Z62:Ak PG (Z1o SZ):=rw1 (C:=Qb6 SK) Zyr
def XE:Sk:=⟨[tf [sd 20000 0],TS.v true [ci,ci,ci]],[(20000,179,cS)],[]⟩
def Zxv:=qd 99 XE Zdn
def Qr1 (D G I L Nm:Fn):Cfg:=cp [Ztj D,Ydo G,Ykj I,Zt7 L,Z1o Nm] [154,153,152]
def Y3 (D G I L Nm:Fn):Fn:=An PG (Qr1 D G I L Nm) 64 99 XE Zdn
theorem Ztq (N O S T Nm:Fn) (M G L:Int) (K:Kf) (c:Cv):Y3 N O S T Nm (I M::I G::I L::Aj K c)=
 (Nm [I c.o0,I c.o1,B c.o2,B c.o3,B c.o4,I M,I G,I L]).bind λD=>
 (T [I c.g0,I c.g1,I c.g2,I M,I G,I L]).bind λo6=>
 cond (G==13) ((S (I L::Aj K {c with o0:=gA D 0,o1:=gA D 1,o2:=bA D 2,o3:=bA D 3,o4:=bA D 4,g0:=gA o6 0,g1:=gA o6 1,g2:=gA o6 2})).bind λU=>
 some (cR 0 U)) (cond (G==11) (some (Aj K {c with o0:=gA D 0,o1:=gA D 1,o2:=true,o3:=bA D 3,o4:=bA D 4,g0:=gA o6 0,g1:=gA o6 1,g2:=gA o6 2})) (cond (G==12) ((O (Aj K {c with o0:=gA D 0,o1:=gA D 1,o2:=bA D 2,o3:=bA D 3,o4:=bA D 4,g0:=gA o6 0,g1:=gA o6 1,g2:=gA o6 2})).bind λo8=>
 some (cR 0 o8)) (cond (G==7) ((N (I L::Aj K {c with o0:=gA D 0,o1:=gA D 1,o2:=bA D 2,o3:=bA D 3,o4:=bA D 4,g0:=gA o6 0,g1:=gA o6 1,g2:=gA o6 2})).bind λV=>
 some (cR 0 V)) (cond (G==4) (some (Aj K {c with o0:=gA D 0,o1:=gA D 1,o2:=bA D 2,o3:=bA D 3,o4:=bA D 4,g0:=gA o6 0,g1:=gA o6 1,g2:=gA o6 2,aJ:=true})) (some (Aj K {c with o0:=gA D 0,o1:=gA D 1,o2:=bA D 2,o3:=bA D 3,o4:=bA D 4,g0:=gA o6 0,g1:=gA o6 1,g2:=gA o6 2})))))):=by kernel_rfl
def LL:=Y3 UB Vc TZ Vb SZ
theorem Z2d:Ai PG (Qr1 UB Vc TZ Vb SZ):=Ao rfl ⟨Yj1,Zy3,Zr7,Z9p,Z62,trivial⟩
theorem Zpo:Ak PG (Zxv LL):=rw1 (C:=Qr1 UB Vc TZ Vb SZ) Z2d
def Qul:Sk:=⟨[tf [sd 20000 0],tf [sa kPt]],[(20000,179,cS)],[]⟩
def Qak:Sk:=⟨[TS.v true ([sa kPt,sa Aa]++cc 7)],[(20000,179,cS)],[]⟩
def Yki:=qd 55 Qul Qak
def Qic (D G I L M N O S Bc T Dr U:Fn):Cfg:=cr [Z4j D,Zv7 G,Zxw I,Z49 L,Z5r M,Zxy N,Zya O,Z3f S,S_ Bc,Yiy T,Z4v Dr,Zxv U] [110,109,108,107,106,105,104,102,100,99] [102,100]
def Q80:Sk:=⟨[tf [sd 20000 0],td,td,td,tf [sd 4 0]]++dd 14++[tf [sa kPt],tf [ci],tf [ci]]++dd 93,[(4,61,[sa kPt,sa Aa]++cc 7),(20000,179,cS)],[]⟩
def Zhx:List (Ex×Sk):=[(Ex.exit 0,⟨[tf [sd 20000 0],td,td,td,tf [sd 4 0]]++dd 110,[(4,61,[sa kPt,sa Aa]++cc 7),(20000,179,cS)],[]⟩)]
def Sn (D G I L M N O S Bc T Dr U:Fn):Lp:=AG PG (Qic D G I L M N O S Bc T Dr U) 64 3 (AH PG 55 3) Q80 Zhx
def Q4y (D G I L M N O S Bc T Dr U:Fn) (V:Lp):Cfg:=(Qic D G I L M N O S Bc T Dr U).loop 3 Q80 Zhx V
def Zdt:Sk:=⟨[tf [sd 20000 0],td,td,td,tf [sd 4 0],td,td,tf [ci],tf [sd 8 0]]++dd 81++[tf [CS.bsl 90 5],tf [ci],tf [ci]]++dd 22,[(4,61,[sa kPt,sa Aa]++cc 7),(8,61,[sa kPt,sa Aa]++cc 7),(90,186,[CS.clo 104 [(20000,0)] [],CS.clo 105 [(20000,0)] [],CS.clo 106 [(20000,0)] [],CS.clo 107 [(20000,0)] [],CS.clo 108 [(20000,0)] []]),(20000,179,cS)],[]⟩
def Zcy:List (Ex×Sk):=[(Ex.exit 2,⟨[tf [sd 20000 0],td,td,td,tf [sd 4 0],td,td,tf [ci],tf [sd 8 0]]++dd 106,[(4,61,[sa kPt,sa Aa]++cc 7),(8,61,[sa kPt,sa Aa]++cc 7),(20000,179,cS)],[]⟩)]
def Kk (D G I L M N O S Bc T Dr U:Fn) (V:Lp):Lp:=AG PG (Q4y D G I L M N O S Bc T Dr U V) 64 16 (AH PG 55 16) Zdt Zcy
def Q20 (G I L M N O S T Bc U Dr V:Fn) (X D:Lp):Cfg:=(Q4y G I L M N O S T Bc U Dr V X).loop 16 Zdt Zcy D
def Qq7 (G I L M N O S T Bc U Dr V:Fn) (X D:Lp):Fn:=An PG (Q20 G I L M N O S T Bc U Dr V X D) 64 55 Qul Qak
theorem Qdq (Cx CN Ei Ev En Eg Eo C3 Bc Dt Dr Ef:Fn) (G:Rw) (L D:Int) (M N:Rw) (S T U V X v10 v11:Int) (K:Kf) (c:Cv):Sn Cx CN Ei Ev En Eg Eo C3 Bc Dt Dr Ef (.vC kPt G::I L::I D:: .vC kPt M:: .vC Aa N::I S::I T::I U::I V::I X::I v10::I v11::Aj K c)=
 cond (decide (D<L)) (cond (decide (0<=D)&&decide (D<(G.length:Int))) ((Ef (jA (nth [] G D.toNat) 0::jA (nth [] G D.toNat) 1::jA (nth [] G D.toNat) 2::Aj K c)).bind λY=>
 some (0,(.vC kPt G::I L::I (O (D+1)):: .vC kPt M:: .vC Aa N::I S::I T::I U::I V::I X::I v10::I v11::cR 0 Y))) (none)) (some (1,(.vC kPt M:: .vC Aa N::I S::I T::I U::I V::I X::I v10::I v11::Aj K c))):=by kernel_rfl
abbrev Ou (Y:Int) (v3 v4:Rw) (v5 v6 v7 v8 v9 v10 v11:Int) (v12 G:Rw) (L M N S T v20 v1 v2 X:Int) (U:Bool) (V:AC) (D:List AC):Option (Nat×List AC):=
 cond (U) (some (1,(I Y:: .vC kPt v3:: .vC Aa v4::I v5::I v6::I v7::I v8::I v9::I v10::I v11:: .vC kPt v12:: .vC Aa G::V::I L::I M::I N::I S::I T::I v20::D))) (some (0,(I Y::I v1::I (O (v2+1)):: .vC kPt v3:: .vC Aa v4::I v5::I v6::I v7::I v8::I v9::I v10::I v11:: .vC kPt v12:: .vC Aa G::I X::I L::I M::I N::I S::I T::I v20::D)))
theorem Z9v (Cx CN Ei Ev En Eg Eo C3 Bc Dt Dr Ef:Fn) (N3:Lp) (U V T:Int) (X Y:Rw) (v5 v6 v7 v8 v9 v10 v11:Int) (v12 D:Rw) (G L M N O S v20:Int) (K:Kf) (c:Cv):Kk Cx CN Ei Ev En Eg Eo C3 Bc Dt Dr Ef N3 (I U::I V::I T:: .vC kPt X:: .vC Aa Y::I v5::I v6::I v7::I v8::I v9::I v10::I v11:: .vC kPt v12:: .vC Aa D::I G::I L::I M::I N::I O::I S::I v20::Aj K c)=
 cond (decide (T<V)) (cond (decide (T=(↑0:Int))) ((Eo (Aj K c)).bind λa0=>
 Ou U X Y v5 v6 v7 v8 v9 v10 v11 v12 D L M N O S v20 V T G (bA a0 1) (jA a0 0) (cR 2 a0)) (cond (decide (T=(↑(0+1):Int))) ((Eg (Aj K c)).bind λa1=>
 Ou U X Y v5 v6 v7 v8 v9 v10 v11 v12 D L M N O S v20 V T G (bA a1 1) (jA a1 0) (cR 2 a1)) (cond (decide (T=(↑(0+1+1):Int))) ((En (Aj K c)).bind λa2=>
 Ou U X Y v5 v6 v7 v8 v9 v10 v11 v12 D L M N O S v20 V T G (bA a2 1) (jA a2 0) (cR 2 a2)) (cond (decide (T=(↑(0+1+1+1):Int))) ((Ev (Aj K c)).bind λa3=>
 Ou U X Y v5 v6 v7 v8 v9 v10 v11 v12 D L M N O S v20 V T G (bA a3 1) (jA a3 0) (cR 2 a3)) (cond (decide (T=(↑(0+1+1+1+1):Int))) ((Ei (Aj K c)).bind λa4=>
 Ou U X Y v5 v6 v7 v8 v9 v10 v11 v12 D L M N O S v20 V T G (bA a4 1) (jA a4 0) (cR 2 a4)) (none)))))) (some (1,(I U:: .vC kPt X:: .vC Aa Y::I v5::I v6::I v7::I v8::I v9::I v10::I v11:: .vC kPt v12:: .vC Aa D::I G::I L::I M::I N::I O::I S::I v20::Aj K c))):=by kernel_rfl
abbrev JS (T:Lp) (M:Nat×List AC) (V U:Fn) (N:AC) (O:List AC):Option (List AC):=
 (T (N::I (↑5:Int)::I 0:: .vC kPt (wA M.2 0):: .vC Aa (wA M.2 1)::jA M.2 2::jA M.2 3::jA M.2 4::jA M.2 5::jA M.2 6::jA M.2 7::jA M.2 8:: .vC kPt []:: .vC Aa []::I 0::I 0::I 0::I 0::I 0::I 0::I 0::O)).bind λD=>
 cond (D.1.beq 1) (cond (gA D.2 12==0) ((V (cR 19 D.2)).bind λS=>
 (U (jA D.2 0::(cR 1 S++[.vC kPt (wA D.2 10), .vC Aa (wA D.2 11),jA S 0,jA D.2 13,jA D.2 14,jA D.2 15,jA D.2 16,jA D.2 17,jA D.2 18]))).bind λG=>
 some (.vC kPt (wA G 90):: .vC Aa (wA G 91)::jA G 92::jA G 93::jA G 94::jA G 95::jA G 96::jA G 97::jA G 98::cR 0 G)) ((U (jA D.2 0::(cR 19 D.2++[.vC kPt (wA D.2 10), .vC Aa (wA D.2 11),jA D.2 12,jA D.2 13,jA D.2 14,jA D.2 15,jA D.2 16,jA D.2 17,jA D.2 18]))).bind λL=>
 some (.vC kPt (wA L 90):: .vC Aa (wA L 91)::jA L 92::jA L 93::jA L 94::jA L 95::jA L 96::jA L 97::jA L 98::cR 0 L))) (none)
abbrev Qtv (Dr:Fn) (D:Nat×List AC) (X Bc T:Fn) (I:Lp) (U V:Fn):Option (List AC):=
 (Dr (E1 (cR 9 D.2) [(58,B true),(86,jA D.2 76)])).bind λL=>
 cond (!bA L 0) ((X [jA D.2 73,jA D.2 74,jA D.2 75,jA D.2 76,jA D.2 42]).bind λG=>
 (Bc (E1 (cR 9 D.2) [(58,B true),(64,jA G 0),(65,jA G 1),(66,jA G 2),(67,jA G 3),(86,jA D.2 76)])).bind λM=>
 (T [jA D.2 59,jA D.2 60,jA D.2 61,jA D.2 62,jA D.2 63,jA D.2 64]).bind λN=>
 JS I D U V (jA M 0) (E1 (cR 9 D.2) [(58,B true),(64,jA G 0),(65,jA G 1),(66,jA G 2),(67,jA G 3),(86,jA D.2 76),(88,B (bA N 0))])) ((Bc (E1 (cR 9 D.2) [(58,B true),(86,jA D.2 76)])).bind λO=>
 (T [jA D.2 59,jA D.2 60,jA D.2 61,jA D.2 62,jA D.2 63,jA D.2 64]).bind λS=>
 JS I D U V (jA O 0) (E1 (cR 9 D.2) [(58,B true),(86,jA D.2 76),(88,B (bA S 0))]))
theorem Zzf (M N Ei Ev En Eg Eo O Bc S Dr Ef:Fn) (N3 L:Lp) (T:Rw) (K:Kf) (c:Cv):Qq7 M N Ei Ev En Eg Eo O Bc S Dr Ef N3 L (.vC kPt T::Aj K c)=
 (N3 (.vC kPt T::I (T.length:Int)::I 0:: .vC kPt []:: .vC Aa []::I 0::I 0::I 0::I 0::I 0::I 0::I 0::Aj K {c with aJ:=false,aL:=false})).bind λD=>
 cond (D.1.beq 1) (cond (bA D.2 86) (Qtv Dr D S Bc O L N M) (cond (gA D.2 70 !=0) (Qtv Dr D S Bc O L N M) ((Dr (E1 (cR 9 D.2) [(86,jA D.2 76)])).bind λU=>
 cond (!bA U 0) ((S [jA D.2 73,jA D.2 74,jA D.2 75,jA D.2 76,jA D.2 42]).bind λG=>
 (Bc (E1 (cR 9 D.2) [(64,jA G 0),(65,jA G 1),(66,jA G 2),(67,jA G 3),(86,jA D.2 76)])).bind λV=>
 (O [jA D.2 59,jA D.2 60,jA D.2 61,jA D.2 62,jA D.2 63,jA D.2 64]).bind λX=>
 JS L D N M (jA V 0) (E1 (cR 9 D.2) [(64,jA G 0),(65,jA G 1),(66,jA G 2),(67,jA G 3),(86,jA D.2 76),(88,B (bA X 0))])) ((Bc (E1 (cR 9 D.2) [(86,jA D.2 76)])).bind λY=>
 (O [jA D.2 59,jA D.2 60,jA D.2 61,jA D.2 62,jA D.2 63,jA D.2 64]).bind λa0=>
 JS L D N M (jA Y 0) (E1 (cR 9 D.2) [(86,jA D.2 76),(88,B (bA a0 0))]))))) (none):=by kernel_rfl
def Qbg:=Al (Sn PK Lg Lc LR LP Kg Lw Lv DM Ln Mp LL)
def Zcz:=Al (Kk PK Lg Lc LR LP Kg Lw Lv DM Ln Mp LL Qbg)
def I7:=Qq7 PK Lg Lc LR LP Kg Lw Lv DM Ln Mp LL Qbg Zcz
theorem Z3:Ai PG (Qic PK Lg Lc LR LP Kg Lw Lv DM Ln Mp LL):=LE (rs:=[102,100]) rfl ⟨Zng,Zzc,Yau,Yb5,Zmz,Z0t,Zvw,Zwj,Tc,Zl3,Zn7,Zpo,trivial⟩ rfl (DB rfl (DB rfl (DB rfl (DB rfl (DB rfl (DB rfl (DB rfl (DB rfl (JA (DB rfl (JA (DB rfl L1))))))))))))
theorem Yav:Ak PG (Yki I7):=rw2 (C:=Q20 PK Lg Lc LR LP Kg Lw Lv DM Ln Mp LL Qbg Zcz) (fl (fl fb Z3) Z3) Z3
def Qo5:Sk:=⟨[tf [sa kPt],tf [ci]],[],[]⟩
def Zz4:=qd 56 Qo5 Qqn
def C_event_At_0:Cfg:={cf []with prom:=λb=>cond (Nat.beq b 3) ([(5,65)]) ([])}
def Zjx:Sk:=⟨[td,tf [ci],td,td,td,tf [se 5 3],td,td,tf [sa kPt],tf [ci],tf [ci]]++dd 13,[],[(5,65,kPt)]⟩
def Q7c:List (Ex×Sk):=[(Ex.exit 0,⟨[td,td,td,td,td,tf [se 5 3]]++dd 18,[],[(5,65,kPt)]⟩)]
def Vg:Lp:=AG PG C_event_At_0 64 3 (AH PG 56 3) Zjx Q7c
def Qxt (D:Lp):Cfg:=C_event_At_0.loop 3 Zjx Q7c D
def Qvg (D:Lp):Fn:=An PG (Qxt D) 64 56 Qo5 Qqn
theorem Zqs (L:Rw) (M:Int) (G:Rw) (N D:Int):Vg [.vC kPt L,I M, .vC kPt G,I N,I D]=
 cond (decide (D<N)) (cond (decide (0<=D)&&decide (D<(G.length:Int))) (cond (gA (nth [] G D.toNat) 0==M) (cond (((L++[[jA (nth [] G D.toNat) 0,jA (nth [] G D.toNat) 1,jA (nth [] G D.toNat) 2]]).length*24).ble 140737488355328) (some (0,[.vC kPt (L++[[jA (nth [] G D.toNat) 0,jA (nth [] G D.toNat) 1,jA (nth [] G D.toNat) 2]]),I M, .vC kPt G,I N,I (O (D+1))])) (none)) (some (0,[.vC kPt L,I M, .vC kPt G,I N,I (O (D+1))]))) (none)) (some (1,[.vC kPt L])):=by kernel_rfl
theorem Yh5 (G:Lp) (D:Rw) (L:Int):Qvg G [.vC kPt D,I L]=
 (G [.vC kPt [],I L, .vC kPt D,I (D.length:Int),I 0]).bind λo1=>
 cond (o1.1.beq 1) (some [.vC kPt (wA o1.2 0)]) (none):=by kernel_rfl
def Q6p:=Al (Vg)
def PH:=Qvg Q6p
theorem Q8e:Ai PG (C_event_At_0):=Ao rfl trivial
theorem Z6c:Ak PG (Zz4 PH):=rw2 (C:=Qxt Q6p) (fl fb Q8e) Q8e
def Vy:=qd 138 Qn1 V_
def Qxk:Fn:=An PG Qj1 64 138 Qn1 V_
theorem Yhl (x0 x1 x2 x3 x4 x5 x6 x7 x8 x9 D G L:Int) (M:Bool) (N:Int) (O:Bool) (S T U V X:Int) (Y:Bool):Qxk [I x0,I x1,I x2,I x3,I x4,I x5,I x6,I x7,I x8,I x9,I D,I G,I L,B M,I N,B O,I S,I T,I U,I V,I X,B Y]=
 cond (x0==2) (some [B !(x2==x5&&(x3==x6&&(x4==x7&&true)))]) (some [B false]):=by kernel_rfl
def EV:=Qxk
theorem Z7o:Ai PG (Qj1):=Ao rfl trivial
theorem TG:Ak PG (Vy EV):=rw1 (C:=Qj1) Z7o
def U1:=qd 88 Zb V_
def Qyn:Fn:=An PG Qj1 64 88 Zb V_
theorem Yik (D:Int):Qyn [I D]=
 cond (decide (D>=1)) (some [B (decide (D<=6))]) (some [B false]):=by kernel_rfl
def DG:=Qyn
theorem Yd9:Ai PG (Qj1):=Ao rfl trivial
theorem Tm:Ak PG (U1 DG):=rw1 (C:=Qj1) Yd9
def Qzo:=qd 140 Qn1 V_
def Q37:Fn:=An PG Qj1 64 140 Qn1 V_
theorem Z02 (D x1 x2 x3 x4 x5 x6 x7 x8 x9 G L M:Int) (N:Bool) (O:Int) (S:Bool) (T U V X Y:Int) (a0:Bool):Q37 [I D,I x1,I x2,I x3,I x4,I x5,I x6,I x7,I x8,I x9,I G,I L,I M,B N,I O,B S,I T,I U,I V,I X,I Y,B a0]=
 cond (D==5) (some [B true]) (some [B (D==6)]):=by kernel_rfl
def HL:=Q37
theorem Yja:Ai PG (Qj1):=Ao rfl trivial
theorem Q9k:Ak PG (Qzo HL):=rw1 (C:=Qj1) Yja
def Zx1:=qd 144 Qss V_
def Xi (D G:Fn):Cfg:=cf [U1 D,Qzo G]
def Qwz:Sk:=⟨dd 23++[tf [sa Ae],tf [ci],tf [ci]]++dd 9,[],[]⟩
def Q01:List (Ex×Sk):=[(Ex.ret,⟨[td,td,td,td,tf [sb]]++dd 30,[],[]⟩),(Ex.exit 0,⟨[td]++dd 34,[],[]⟩)]
def Lk (D G:Fn):Lp:=AG PG (Xi D G) 64 4 (AH PG 144 4) Qwz Q01
def Q7q (D G:Fn) (I:Lp):Cfg:=(Xi D G).loop 4 Qwz Q01 I
def Qtk (D G:Fn) (I:Lp):Fn:=An PG (Q7q D G I) 64 144 Qss V_
theorem Q2t (M N:Fn) (G:Rw) (L D:Int):Lk M N [.vC Ae G,I L,I D]=
 cond (decide (D<L)) (cond (decide (0<=D)&&decide (D<(G.length:Int))) ((M [jA (nth [] G D.toNat) 0]).bind λS=>
 cond (bA S 0) ((N (AF Ae (nth [] G D.toNat))).bind λo6=>
 some (1,[B (bA o6 0)])) (some (0,[.vC Ae G,I L,I (O (D+1))]))) (none)) (some (2,[])):=by kernel_rfl
theorem Z69 (N L:Fn) (M:Lp) (G:Rw) (D:Int):Qtk N L M [.vC Ae G,I D]=
 cond (decide (0<=D)&&decide (D<(G.length:Int))) (cond (gA (nth [] G D.toNat) 18==0) (some [B true]) (cond (decide (0<=D)&&decide (D<(G.length:Int))) ((L (AF Ae (nth [] G D.toNat))).bind λS=>
 cond (bA S 0) (some [B true]) (cond (decide (0<=O (D+1))&&decide (O (D+1)<=(G.length:Int))) ((M [.vC Ae (List.drop (O (D+1)).toNat G),I (↑(List.drop (O (D+1)).toNat G).length:Int),I 0]).bind λo8=>
 cond (o8.1.beq 1) (some [B (bA o8.2 0)]) (cond (o8.1.beq 2) (some [B false]) (none))) (none))) (none))) (none):=by kernel_rfl
def Zcg:=Al (Lk DG HL)
def R_:=Qtk DG HL Zcg
theorem Qy5:Ai PG (Xi DG HL):=Ao rfl ⟨Tm,Q9k,trivial⟩
theorem Yfy:Ak PG (Zx1 R_):=rw2 (C:=Q7q DG HL Zcg) (fl fb Qy5) Qy5
def Qlb:Sk:=⟨[tf [sd 20000 0],tf [sa Ae],tf [ci]],[(20000,102,[ci,ci,ci,se 20000 7,se 20001 3,sb,ci,ci,ci])],[(20000,111,Ag),(20001,130,kPt)]⟩
def Qqq:Sk:=⟨[TS.tup []],[(20000,102,[ci,ci,ci,se 20000 7,se 20001 3,sb,ci,ci,ci])],[(20000,111,Ag),(20001,130,kPt)]⟩
def Zm8:=qd 92 Qlb Qqq
def Qg7 (D G:Fn):Cfg:=cf [Zx1 D,U1 G]
def Qmu (D G:Fn):Fn:=An PG (Qg7 D G) 64 92 Qlb Qqq
abbrev Qix (Y:Fn) (X:Rw) (G:Int) (M:Rw) (D:Int) (N:Rw) (O S T:Int) (U:Bool) (V L:Int):Option (List AC):=
 (Y [jA (nth [] X G.toNat) 0]).bind λo6=>
 cond (bA o6 0) (cond (((M++[[I D,I 2,I G]]).length*24).ble 140737488355328) (some [.vC Ag N, .vC kPt (M++[[I D,I 2,I G]]),I O,I S,I T,B U,I D,I V,I L]) (none)) (cond (gA (nth [] X G.toNat) 0==10) (cond (((M++[[I D,I 5,I G]]).length*24).ble 140737488355328) (some [.vC Ag N, .vC kPt (M++[[I D,I 5,I G]]),I O,I S,I T,B U,I D,I V,I L]) (none)) (cond (gA (nth [] X G.toNat) 0==13) (cond (((M++[[I D,I 4,I G]]).length*24).ble 140737488355328) (some [.vC Ag N, .vC kPt (M++[[I D,I 4,I G]]),I O,I S,I T,B U,I D,I V,I L]) (none)) (cond (((M++[[I D,I 3,I G]]).length*24).ble 140737488355328) (some [.vC Ag N, .vC kPt (M++[[I D,I 3,I G]]),I O,I S,I T,B U,I D,I V,I L]) (none))))
theorem Yim (Ng Y:Fn) (O M N:Rw) (D S T U:Int) (V:Bool) (L X G:Int):Qmu Ng Y [.vC Ag O, .vC kPt M, .vC Ae N,I D,I S,I T,I U,B V,I L,I X,I G]=
 cond (decide (0<=D)&&decide (D<(N.length:Int))) (cond (gA (nth [] N D.toNat) 0==4) (cond (((M++[[I L,I 6,I D]]).length*24).ble 140737488355328) (some [.vC Ag O, .vC kPt (M++[[I L,I 6,I D]]),I S,I T,I U,B V,I L,I X,I G]) (none)) ((Y [jA (nth [] N D.toNat) 0]).bind λo4=>
 cond (bA o4 0) ((Ng [.vC Ae N,I D]).bind λo5=>
 cond (bA o5 0) (cond (((M++[[I L,I 1,I D]]).length*24).ble 140737488355328) (some [.vC Ag O, .vC kPt (M++[[I L,I 1,I D]]),I S,I T,I U,B V,I L,I X,I G]) (none)) (Qix Y N D M L O S T U V X G)) (Qix Y N D M L O S T U V X G))) (none):=by kernel_rfl
def Ji:=Qmu R_ DG
theorem Z68:Ai PG (Qg7 R_ DG):=Ao rfl ⟨Yfy,Tm,trivial⟩
theorem Zrg:Ak PG (Zm8 Ji):=rw1 (C:=Qg7 R_ DG) Z68
def Qe3:=qd 143 Qn1 Quw
def Q26:Fn:=An PG Qj1 64 143 Qn1 Quw
theorem Zu4 (x0 x1 x2 x3 x4 x5 x6 x7 x8 x9 D G L:Int) (M:Bool) (N:Int) (S:Bool) (T U V X Y:Int) (a0:Bool):Q26 [I x0,I x1,I x2,I x3,I x4,I x5,I x6,I x7,I x8,I x9,I D,I G,I L,B M,I N,B S,I T,I U,I V,I X,I Y,B a0]=
 some [I (O (O (x2+x5)*8)),I (O (O (x3+x6)*8)),I (O (O (x4+x7)*8))]:=by kernel_rfl
def Gn:=Q26
theorem Yd2:Ai PG (Qj1):=Ao rfl trivial
theorem Qu7:Ak PG (Qe3 Gn):=rw1 (C:=Qj1) Yd2
def Qaz:Sk:=⟨[TS.v true [si .u64,si .u64],TS.v true [si .u64,si .u64]],[],[]⟩
def Qvk:=qd 232 Qaz Zb
def Q9v:Fn:=An PG Qj1 64 232 Qaz Zb
theorem Zrc (D L G M:Int):Q9v [U D,U L,U G,U M]=
 cond (decide (D<G)) (some [I (-1)]) (cond (D==G) (cond (decide (L<M)) (some [I (-1)]) (cond (D==G&&(L==M&&true)) (some [I 0]) (some [I 1]))) (cond (D==G&&(L==M&&true)) (some [I 0]) (some [I 1]))):=by kernel_rfl
def Ih:=Q9v
theorem Z11:Ai PG (Qj1):=Ao rfl trivial
theorem Q3q:Ak PG (Qvk Ih):=rw1 (C:=Qj1) Z11
def Zb2:=qd 288 Qe1 W1
def Qln (D G:Fn):Cfg:=cf [Qvk D,UC G]
def Zct:Sk:=⟨[td,tf [sd 1 0],td,tf [si .u64],tf [si .u64]]++dd 16,[(1,197,[si .u64,si .u64])],[]⟩
def Ze7:List (Ex×Sk):=[(Ex.exit 0,⟨[td,td,td,tf [si .u64]]++dd 17,[],[]⟩)]
def L0 (D G:Fn):Lp:=AG PG (Qln D G) 64 3 (AH PG 288 3) Zct Ze7
def Zip (D G:Fn) (I:Lp):Cfg:=(Qln D G).loop 3 Zct Ze7 I
def Qek (D G:Fn) (I:Lp):Fn:=An PG (Zip D G I) 64 288 Qe1 W1
theorem Zf0 (M N:Fn) (G D I L:Int):L0 M N [U G,U D,U I,U L]=
 cond (decide (D>0)) ((N [U (wrap .u64 (↑(BitVec.ofInt IntKind.u64.bits G|||BitVec.ofInt IntKind.u64.bits D).toNat:Int)),U (wrap .u64 (↑(BitVec.ofInt IntKind.u64.bits G|||BitVec.ofInt IntKind.u64.bits D).toNat:Int))]).bind λo3=>
 (M [U (gA o3 0),U (gA o3 1),U I,U L]).bind λo4=>
 cond (decide (gA o4 0<=0)) (some (0,[U (wrap .u64 (↑(BitVec.ofInt IntKind.u64.bits G|||BitVec.ofInt IntKind.u64.bits D).toNat:Int)),U (D.fdiv (2^min (Int.toNat 1) IntKind.u64.bits)),U I,U L])) (some (0,[U G,U (D.fdiv (2^min (Int.toNat 1) IntKind.u64.bits)),U I,U L]))) (some (1,[U G])):=by kernel_rfl
theorem Yf6 (M N:Fn) (D:Lp) (G I:Int):Qek M N D [U G,U I]=
 (D [U 0,U 9223372036854775808,U G,U I]).bind λL=>
 cond (L.1.beq 1) (some [U (gA L.2 0)]) (none):=by kernel_rfl
def Q2x:=Al (L0 Ih Ey)
def JX:=Qek Ih Ey Q2x
theorem Zf4:Ai PG (Qln Ih Ey):=Ao rfl ⟨Q3q,Vn,trivial⟩
theorem Q9y:Ak PG (Zb2 JX):=rw2 (C:=Zip Ih Ey Q2x) (fl fb Zf4) Zf4
def XC:Sk:=⟨[TS.v true [si .u64,si .u64],tf [ci]],[],[]⟩
def Yfr:=qd 264 XC Y8
def Qtr (D Lq G I:Fn):Cfg:=cf [Xh D,(289,Ac Q55 Q9q Lq),(171,Ac Qbl VY G),Zb2 I]
def YW (D Lq G I:Fn):Fn:=An PG (Qtr D Lq G I) 64 264 XC Y8
abbrev Qfx (T:Int) (O:List AC) (N:Fn) (D S:List AC):Option (List AC):=
 cond (T==2) (cond (decide (gA O 0>0)) ((N [U (wrap .u64 (gA D 0+1)),B false]).bind λG=>
 some [jA G 0,B (bA G 1)]) (cond (decide (gA S 0>gA D 0)) ((N [U (wrap .u64 (gA D 0+1)),B false]).bind λI=>
 some [jA I 0,B (bA I 1)]) ((N [U (gA D 0),B false]).bind λL=>
 some [jA L 0,B (bA L 1)]))) ((N [U (gA D 0),B false]).bind λM=>
 some [jA M 0,B (bA M 1)])
theorem Z7n (M Lq Y Gb:Fn) (V X T:Int):YW M Lq Y Gb [U V,U X,I T]=
 (Gb [U V,U X]).bind λD=>
 (Y [U (gA D 0),U (gA D 0)]).bind λN=>
 (Lq [U X,U (gA N 1),U 0]).bind λG=>
 (Lq [U V,U (gA N 0),U (gA G 1)]).bind λL=>
 cond (T==1) (cond (decide (gA L 0>0)) ((M [U (wrap .u64 (gA D 0+1)),B false]).bind λO=>
 some [jA O 0,B (bA O 1)]) (cond (decide (gA G 0>0)) ((M [U (wrap .u64 (gA D 0+1)),B false]).bind λS=>
 some [jA S 0,B (bA S 1)]) (Qfx T L M D G))) (Qfx T L M D G):=by kernel_rfl
def UP:=YW Fl Kx Il JX
theorem Zys:Ai PG (Qtr Fl Kx Il JX):=Ao rfl ⟨Qnj,Z3g,Qzq,Q9y,trivial⟩
theorem Z9f:Ak PG (Yfr UP):=rw1 (C:=Qtr Fl Kx Il JX) Zys
def Qyv:=qd 237 ZJ Y8
def Zk (D G:Fn):Cfg:=cf [Yfr D,Qth G]
def Qbp (D G:Fn):Fn:=An PG (Zk D G) 64 237 ZJ Y8
theorem Yaw (L M:Fn) (D G:Int):Qbp L M [I D,I G]=
 cond (decide (D<0)) (some [I 0,B false]) ((M [I G]).bind λo2=>
 cond (!bA o2 0) (some [I 0,B false]) ((L [U 0,U (wrap .u64 D),I G]).bind λo3=>
 some [jA o3 0,B (bA o3 1)])):=by kernel_rfl
def IZ:=Qbp UP Gx
theorem Ydg:Ai PG (Zk UP Gx):=Ao rfl ⟨Z9f,Qrf,trivial⟩
theorem Q14:Ak PG (Qyv IZ):=rw1 (C:=Zk UP Gx) Ydg
def Qxg:=qd 189 Qs5 Zb
def Qps (D:Fn):Cfg:={cf [Qyv D]with unroll:=[3]}
def Xq (D:Fn):Fn:=An PG (Qps D) 64 189 Qs5 Zb
theorem Z58 (T:Fn) (D G L M N S:Int):Xq T [I D,I G,I L,I M,I N,I S]=
 (T [I (O (O (O (0+O (O (D-M)*O (D-M)))+O (O (G-N)*O (G-N)))+O (O (L-S)*O (L-S)))),I 1]).bind λo1=>
 some [jA o1 0]:=by kernel_rfl
def Jo:=Xq IZ
theorem Z8q:Ai PG (Qps IZ):=Ao rfl ⟨Q14,trivial⟩
theorem Qy7:Ak PG (Qxg Jo):=rw1 (C:=Qps IZ) Z8q
def Qf1:Sk:=⟨[tf [sd 20000 0],TS.v true [ci,ci,ci],TS.v true (cc 7)],[(20000,102,[ci,ci,ci,se 20000 7,se 20001 3,sb,ci,ci,ci])],[(20000,111,Ag),(20001,130,kPt)]⟩
def Yf3:=qd 142 Qf1 Qqq
def Qbw (D:Fn):Cfg:=cf [Qxg D]
def Ty (D:Fn):Fn:=An PG (Qbw D) 64 142 Qf1 Qqq
abbrev YL (D:Bool) (x0 x1:Rw) (x2 x3 x4 G L M N S T:Int) (Dj:Fn) (x9 U V:Int) (X:Bool) (Y a0 a1:AC):Option (List AC):=
 cond (!D) (some [.vC Ag x0, .vC kPt x1,I x2,I x3,I x4,B true,I G,I L,I M]) (cond (X) (some [.vC Ag x0, .vC kPt x1,I N,I S,I T,B D,I G,I L,I M]) ((Dj [Y,a0,a1,I x2,I x3,I x4]).bind λo2=>
 cond (((x0++[[I x2,I x3,I x4,jA o2 0,I x9,I U,I V]]).length*56).ble 140737488355328) (some [.vC Ag (x0++[[I x2,I x3,I x4,jA o2 0,I x9,I U,I V]]), .vC kPt x1,I N,I S,I T,B D,I (O (G+gA o2 0)),I L,I M]) (none)))
theorem Ze2 (Dj:Fn) (D x1:Rw) (Y x3 x4 x5 x6 x7 x8 x9 N S G L M:Int) (T:Bool) (U V X:Int):Ty Dj [.vC Ag D, .vC kPt x1,I Y,I x3,I x4,I x5,I x6,I x7,I x8,I x9,I N,I S,I G,I L,I M,B T,I U,I V,I X]=
 cond (decide ((D.length:Int)>0)) (cond (decide (0<=O ((D.length:Int)-1))&&decide (O ((D.length:Int)-1)<(D.length:Int))) (YL T D x1 Y x3 x4 U V X G L M Dj x9 N S (Y==gA (nth [] D (O ((D.length:Int)-1)).toNat) 0&&(x3==gA (nth [] D (O ((D.length:Int)-1)).toNat) 1&&(x4==gA (nth [] D (O ((D.length:Int)-1)).toNat) 2&&true))) (jA (nth [] D (O ((D.length:Int)-1)).toNat) 0) (jA (nth [] D (O ((D.length:Int)-1)).toNat) 1) (jA (nth [] D (O ((D.length:Int)-1)).toNat) 2)) (none)) (YL T D x1 Y x3 x4 U V X G L M Dj x9 N S (Y==G&&(x3==L&&(x4==M&&true))) (I G) (I L) (I M)):=by kernel_rfl
def P2:=Ty Jo
theorem Yas:Ai PG (Qbw Jo):=Ao rfl ⟨Qy7,trivial⟩
theorem Zlu:Ak PG (Yf3 P2):=rw1 (C:=Qbw Jo) Yas
def Qpg:=qd 90 Qss Zb
def Q43:Sk:=⟨[tf [sa Ae],tf [ci]]++dd 20,[],[]⟩
def Zbx:List (Ex×Sk):=[(Ex.exit 0,⟨[td,tf [ci]]++dd 20,[],[]⟩)]
def QC:Lp:=AG PG Qj1 64 2 (AH PG 90 2) Q43 Zbx
def Zbr (D:Lp):Cfg:=Qj1.loop 2 Q43 Zbx D
def Qhq (D:Lp):Fn:=An PG (Zbr D) 64 90 Qss Zb
theorem Zc7 (G:Rw) (D:Int):QC [.vC Ae G,I D]=
 cond (decide (D<(G.length:Int))) (cond (decide (0<=D)&&decide (D<(G.length:Int))) (cond (gA (nth [] G D.toNat) 0==10) (some (0,[.vC Ae G,I (O (D+1))])) (some (1,[I D]))) (none)) (some (1,[I D])):=by kernel_rfl
theorem Zx7 (D:Lp) (G:Rw) (L:Int):Qhq D [.vC Ae G,I L]=
 (D [.vC Ae G,I (O (L+1))]).bind λo1=>
 cond (o1.1.beq 1) (some [jA o1.2 0]) (none):=by kernel_rfl
def Zcw:=Al (QC)
def Ft:=Qhq Zcw
theorem Q5s:Ai PG (Qj1):=Ao rfl trivial
theorem Qqf:Ak PG (Qpg Ft):=rw2 (C:=Zbr Zcw) (fl fb Q5s) Q5s
def Q72:=qd 89 Qss V_
def Qjz (D G:Fn):Cfg:=cf [Vy D,Qpg G]
def Yo (D G:Fn):Fn:=An PG (Qjz D G) 64 89 Qss V_
theorem Z85 (L M:Fn) (D:Rw) (G:Int):Yo L M [.vC Ae D,I G]=
 (M [.vC Ae D,I G]).bind λo3=>
 cond (decide (0<=G)&&decide (G<(D.length:Int))) ((L (AF Ae (nth [] D G.toNat))).bind λo4=>
 cond (bA o4 0) (cond (decide (0<=G)&&decide (G<(D.length:Int))) (cond (gA (nth [] D G.toNat) 18 !=0) (cond (decide (gA o3 0<(D.length:Int))) (cond (decide (0<=gA o3 0)&&decide (gA o3 0<(D.length:Int))) ((L (AF Ae (nth [] D (gA o3 0).toNat))).bind λN=>
 some [B (bA N 0)]) (none)) (some [B false])) (some [B false])) (none)) (some [B false])) (none):=by kernel_rfl
def Hr:=Yo EV Ft
theorem Znz:Ai PG (Qjz EV Ft):=Ao rfl ⟨TG,Qqf,trivial⟩
theorem Q0s:Ak PG (Q72 Hr):=rw1 (C:=Qjz EV Ft) Znz
def Q2a:=qd 286 Qoq Zb
def Zei:Fn:=An PG Qi8 64 286 Qoq Zb
theorem Z7p (D G L M N S T U V:Int):Zei [I D,I G,I L,I M,I N,I S,I T,I U,I V]=
 some [I (O (O (O (0+O (O (O (D+T)-O (2*M))*O (O (D+T)-O (2*M))))+O (O (O (G+U)-O (2*N))*O (O (G+U)-O (2*N))))+O (O (O (L+V)-O (2*S))*O (O (L+V)-O (2*S)))))]:=by kernel_rfl
def Ha:=Zei
theorem Zo8:Ai PG (Qi8):=Ao rfl trivial
theorem Q22:Ak PG (Q2a Ha):=rw1 (C:=Qi8) Zo8
def Zss:=qd 263 Qoq Zb
def V2 (D:Fn):Cfg:=cf [Q2a D]
def Q0a:List (Ex×Sk):=[(Ex.exit 0,⟨dd 7++[tf [ci]]++dd 22,[],[]⟩)]
def Rg (D:Fn):Lp:=AG PG (V2 D) 64 2 (AH PG 263 2) Zdb Q0a
def Q79 (D:Fn) (G:Lp):Cfg:=(V2 D).loop 2 Zdb Q0a G
def Qcj (D:Fn) (G:Lp):Fn:=An PG (Q79 D G) 64 263 Qoq Zb
theorem Yea (Y:Fn) (D G L M N S T U V X:Int):Rg Y [I D,I G,I L,I M,I N,I S,I T,I U,I V,I X]=
 cond (decide (D<64)) ((Y [I G,I L,I M,I N,I S,I T,I U,I V,I X]).bind λo2=>
 cond (decide (gA o2 0>O (O (O (O (O (O (16*D)*D)*D)*D)*4)*4))) (some (0,[I (O (D*2)),I G,I L,I M,I N,I S,I T,I U,I V,I X])) (some (1,[I D]))) (some (1,[I D])):=by kernel_rfl
theorem Zsh (X:Fn) (D:Lp) (G L M N O S T U V:Int):Qcj X D [I G,I L,I M,I N,I O,I S,I T,I U,I V]=
 (D [I 2,I G,I L,I M,I N,I O,I S,I T,I U,I V]).bind λo3=>
 cond (o3.1.beq 1) (some [jA o3.2 0]) (none):=by kernel_rfl
def Zga:=Al (Rg Ha)
def KC:=Qcj Ha Zga
theorem Zhu:Ai PG (V2 Ha):=Ao rfl ⟨Q22,trivial⟩
theorem Zmk:Ak PG (Zss KC):=rw2 (C:=Q79 Ha Zga) (fl fb Zhu) Zhu
def XZ:Sk:=⟨[TS.v true [si .u64,si .u64],tf [si .u64]],[],[]⟩
def Qm2:Sk:=⟨[TS.tup [(true,[si .u64,si .u64]),(false,[sb])]],[],[]⟩
def Zlq:=qd 296 XZ Qm2
def Qd7 (D:Fn):Cfg:=cf [Zgy D]
def Qe0 (D:Fn):Fn:=An PG (Qd7 D) 64 296 XZ Qm2
theorem Zt6 (D:Fn) (I L G:Int):Qe0 D [U I,U L,U G]=
 (D [U 0,U I,U G]).bind λo2=>
 (D [U (gA o2 1),U L,U G]).bind λo3=>
 some [U (gA o2 0),U (gA o3 0),B (decide (gA o3 1>0))]:=by kernel_rfl
def UR:=Qe0 GX
theorem Yjx:Ai PG (Qd7 GX):=Ao rfl ⟨Qv7,trivial⟩
theorem Z03:Ak PG (Zlq UR):=rw1 (C:=Qd7 GX) Yjx
def Zap:=qd 287 Wt Y8
def Qip (D G I L M N O Cm:Fn):Cfg:=cf [Xh D,Q95 G,X7 I,Zb2 L,Zlq M,UC N,Qth O,Qej Cm]
def Ya (D G I L M N O Cm:Fn):Fn:=An PG (Qip D G I L M N O Cm) 64 287 Wt Y8
abbrev Re (CB:Fn) (x3:Int) (Y:Fn) (G:List AC) (L:Bool) (M D N O:AC):Option (List AC):=
 cond (L) ((CB [I x3,M,B true,D]).bind λa0=>
 cond (bA a0 0) ((Y [U (wrap .u64 (wrap .u64 ((gA G 0).tdiv 2)+1)),D]).bind λS=>
 some [jA S 0,B (bA S 1)]) ((Y [U (wrap .u64 ((gA G 0).tdiv 2)),D]).bind λT=>
 some [jA T 0,B (bA T 1)])) ((CB [I x3,N,O,D]).bind λa1=>
 cond (bA a1 0) ((Y [U (wrap .u64 (wrap .u64 ((gA G 0).tdiv 2)+1)),D]).bind λV=>
 some [jA V 0,B (bA V 1)]) ((Y [U (wrap .u64 ((gA G 0).tdiv 2)),D]).bind λX=>
 some [jA X 0,B (bA X 1)]))
theorem Znu (O S Di Gb NX BB DH Cm:Fn) (T V x2 N:Int):Ya O S Di Gb NX BB DH Cm [I T,I V,I x2,I N]=
 (Cm [I T]).bind λa1=>
 cond (decide (gA a1 0>2147483648)) (some [I 0,B false]) ((Cm [I V]).bind λa2=>
 cond (decide (gA a2 0>2147483648)) (some [I 0,B false]) (cond (decide (x2<1)) (some [I 0,B false]) (cond (decide (x2>4611686018427387904)) (some [I 0,B false]) ((DH [I N]).bind λa3=>
 cond (!bA a3 0) (some [I 0,B false]) ((Cm [I T]).bind λX=>
 (Cm [I V]).bind λY=>
 (BB [U (wrap .u64 (2*wrap .u64 (gA X 0*gA Y 0))),U (wrap .u64 (2*wrap .u64 (gA X 0*gA Y 0)))]).bind λa0=>
 (NX [U (gA a0 0),U (gA a0 1),U (wrap .u64 x2)]).bind λD=>
 (Gb [U (gA D 0),U (gA D 1)]).bind λG=>
 cond (bA D 2) ((Di [I T,I V]).bind λa4=>
 Re S N O G ((gA G 0).tmod 2==1) (I 1) (B (decide (gA a4 0<0))) (I (-1)) (B true)) ((BB [U (gA G 0),U (gA G 0)]).bind λL=>
 (Di [I T,I V]).bind λM=>
 cond ((gA G 0).tmod 2==1) (cond (!(gA L 0==gA D 0&&(gA L 1==gA D 1&&true))) (Re S N O G (!(gA L 0==gA D 0&&(gA L 1==gA D 1&&true))) (I 1) (B (decide (gA M 0<0))) (I 1) (B ((gA G 0).tmod 2==1))) (Re S N O G (!(gA L 0==gA D 0&&(gA L 1==gA D 1&&true))) (I 0) (B (decide (gA M 0<0))) (I 0) (B ((gA G 0).tmod 2==1)))) (Re S N O G (!(gA L 0==gA D 0&&(gA L 1==gA D 1&&true))) (I (-1)) (B (decide (gA M 0<0))) (I (-1)) (B ((gA G 0).tmod 2==1))))))))):=by kernel_rfl
def IE:=Ya Fl IM GA JX UR Ey Gx Gs
theorem Zoa:Ai PG (Qip Fl IM GA JX UR Ey Gx Gs):=Ao rfl ⟨Qnj,Zjh,Qf7,Q9y,Z03,Vn,Qrf,WB,trivial⟩
theorem Qyf:Ak PG (Zap IE):=rw1 (C:=Qip Fl IM GA JX UR Ey Gx Gs) Zoa
def Qzm:=qd 262 Qst Qpn
def Qj3 (D:Fn):Cfg:={cf [Zap D]with unroll:=[5,10]}
def Qt7 (D:Fn):Fn:=An PG (Qj3 D) 64 262 Qst Qpn
theorem Znm (U:Fn) (D G L M N S T:Int):Qt7 U [I D,I G,I L,I M,I N,I S,I T]=
 cond (M==D&&(N==G&&(S==L&&true))) (some [I 0,I 0,I 0,B false]) (cond (decide (T<0)) (some [I 0,I 0,I 0,B false]) (cond (decide (T>33554432)) (some [I 0,I 0,I 0,B false]) ((U [I (O (M-D)),I T,I (O (O (O (0+O (O (M-D)*O (M-D)))+O (O (N-G)*O (N-G)))+O (O (S-L)*O (S-L)))),I 2]).bind λo3=>
 (U [I (O (N-G)),I T,I (O (O (O (0+O (O (M-D)*O (M-D)))+O (O (N-G)*O (N-G)))+O (O (S-L)*O (S-L)))),I 2]).bind λo4=>
 (U [I (O (S-L)),I T,I (O (O (O (0+O (O (M-D)*O (M-D)))+O (O (N-G)*O (N-G)))+O (O (S-L)*O (S-L)))),I 2]).bind λV=>
 some [I (O (D+gA o3 0)),I (O (G+gA o4 0)),I (O (L+gA V 0)),B true]))):=by kernel_rfl
def G3:=Qt7 IE
theorem Zy0:Ai PG (Qj3 IE):=Ao rfl ⟨Qyf,trivial⟩
theorem Q8u:Ak PG (Qzm G3):=rw1 (C:=Qj3 IE) Zy0
def Yfo:=qd 261 Qs7 Zb
def We (D G I:Fn):Cfg:=cf [Q2a D,Qzm G,Qxg I]
def Qvl:Sk:=⟨[td,td,td,tf [ci],tf [sd 4 0],tf [sd 5 0],tf [sd 6 0],td,td,tf [ci],tf [ci],tf [ci]]++dd 62,[(4,42,[ci,ci,ci]),(5,42,[ci,ci,ci]),(6,42,[ci,ci,ci])],[]⟩
def Q9f:List (Ex×Sk):=[(Ex.exit 0,⟨dd 10++[tf [ci]]++dd 63,[],[]⟩)]
def NW (D G I:Fn):Lp:=AG PG (We D G I) 64 6 (AH PG 261 6) Qvl Q9f
def Zfc (D G I:Fn) (L:Lp):Cfg:=(We D G I).loop 6 Qvl Q9f L
def Qqs (D G I:Fn) (L:Lp):Fn:=An PG (Zfc D G I L) 64 261 Qs7 Zb
theorem Zbb (CR Y Dj:Fn) (S T G D U V X L M N v10 v11 v12:Int):NW CR Y Dj [I S,I T,I G,I D,I U,I V,I X,I L,I M,I N,I v10,I v11,I v12]=
 cond (decide (D>0)) (cond (decide (O (G+D)>T)) (some (0,[I S,I T,I G,I (D.fdiv (2^min (Int.toNat 1) IntKind.i64.bits)),I U,I V,I X,I L,I M,I N,I v10,I v11,I v12])) ((Y [I L,I M,I N,I U,I V,I X,I (O (G+D))]).bind λo8=>
 (Y [I L,I M,I N,I v10,I v11,I v12,I (O (G+D))]).bind λo9=>
 (CR [jA o8 0,jA o8 1,jA o8 2,I L,I M,I N,jA o9 0,jA o9 1,jA o9 2]).bind λa0=>
 cond (decide (gA a0 0<=O (O (16*S)*S))) (some (0,[I S,I T,I (O (G+D)),I (D.fdiv (2^min (Int.toNat 1) IntKind.i64.bits)),I U,I V,I X,I L,I M,I N,I v10,I v11,I v12])) (some (0,[I S,I T,I G,I (D.fdiv (2^min (Int.toNat 1) IntKind.i64.bits)),I U,I V,I X,I L,I M,I N,I v10,I v11,I v12])))) (some (1,[I G])):=by kernel_rfl
theorem Zt4 (CR Cs Y:Fn) (N6:Lp) (N S T G L M U V X x9:Int):Qqs CR Cs Y N6 [I N,I S,I T,I G,I L,I M,I U,I V,I X,I x9]=
 cond (N==G&&(S==L&&(T==M&&true))) (some [I 0]) (cond (U==G&&(V==L&&(X==M&&true))) (some [I 0]) ((Y [I N,I S,I T,I G,I L,I M]).bind λa0=>
 (Y [I G,I L,I M,I U,I V,I X]).bind λa1=>
 (N6 [I x9,I (O (mn (gA a0 0) (gA a1 0)-2)),I 0,I 16777216,I N,I S,I T,I G,I L,I M,I U,I V,I X]).bind λD=>
 cond (D.1.beq 1) (cond (decide (gA D.2 0<16)) (some [I 0]) (some [jA D.2 0])) (none))):=by kernel_rfl
def Zbv:=Al (NW Ha G3 Jo)
def LW:=Qqs Ha G3 Jo Zbv
theorem Qxz:Ai PG (We Ha G3 Jo):=Ao rfl ⟨Q22,Q8u,Qy7,trivial⟩
theorem Zwu:Ak PG (Yfo LW):=rw2 (C:=Zfc Ha G3 Jo Zbv) (fl fb Qxz) Qxz
def Zpg:=qd 235 Qs7 Qqn
def Qe7 (D Hd G GE:Fn):Cfg:={cf [RV D,Zss Hd,Qzm G,Yfo GE]with unroll:=[13]}
def Zjk:Sk:=⟨[td,td,td,td,td,tf [sd 5 0],td,td,td,td,tf [sd 10 0],td,tf [sd 12 0],td,tf [ci],tf [se 50 3]]++dd 36++[tf [ci],tf [ci]]++dd 57,[(5,42,[ci,ci,ci]),(10,42,[ci,ci,ci]),(12,42,[ci,ci,ci])],[(50,42,kPt)]⟩
def Qvp:List (Ex×Sk):=[(Ex.exit 0,⟨dd 15++[tf [se 50 3]]++dd 95,[],[(50,42,kPt)]⟩)]
def Pc (D Hd G GE:Fn):Lp:=AG PG (Qe7 D Hd G GE) 64 9 (AH PG 235 9) Zjk Qvp
def Zdm (D Hd G GE:Fn) (I:Lp):Cfg:=(Qe7 D Hd G GE).loop 9 Zjk Qvp I
def Qou (D Hd G GE:Fn) (I:Lp):Fn:=An PG (Zdm D Hd G GE I) 64 235 Qs7 Qqn
theorem Qvu (V Hd Cs GE:Fn) (G:Rw) (T X D L M N Y v8 v9 v10 v11 v12:Int):Pc V Hd Cs GE [.vC kPt G,I T,I X,I D,I L,I M,I N,I Y,I v8,I v9,I v10,I v11,I v12]=
 cond (decide (D<X)) (cond (decide (0<=D)&&decide (D<(G.length:Int))) ((V [I (O (O (O (O (T-D)*O (T-D))*O (Y-L))+O (O (D*D)*O (v10-L)))),I 1,I (O (T*T)),I 2]).bind λS=>
 cond (decide (0<=D)&&decide (D<(G.length:Int))) (cond (decide (0<=D)&&decide (D<(G.length:Int))) ((V [I (O (O (O (O (T-D)*O (T-D))*O (v8-M))+O (O (D*D)*O (v11-M)))),I 1,I (O (T*T)),I 2]).bind λU=>
 cond (decide (0<=D)&&decide (D<(G.length:Int))) (cond (decide (0<=D)&&decide (D<(G.length:Int))) ((V [I (O (O (O (O (T-D)*O (T-D))*O (v9-N))+O (O (D*D)*O (v12-N)))),I 1,I (O (T*T)),I 2]).bind λa0=>
 cond (decide (0<=D)&&decide (D<(G.length:Int))) (cond (decide (0<=D)&&decide (D<(G.length:Int))) (some (0,[.vC kPt ((((G.set D.toNat [I L,I M,I N]).set D.toNat [I (O (Ah (nth .vD (nth [] (G.set D.toNat [I L,I M,I N]) D.toNat) 0)+gA S 0)),I (Ah (nth .vD (nth [] (G.set D.toNat [I L,I M,I N]) D.toNat) 1)),I (Ah (nth .vD (nth [] (G.set D.toNat [I L,I M,I N]) D.toNat) 2))]).set D.toNat [I (Ah (nth .vD (nth [] ((G.set D.toNat [I L,I M,I N]).set D.toNat [I (O (Ah (nth .vD (nth [] (G.set D.toNat [I L,I M,I N]) D.toNat) 0)+gA S 0)),I (Ah (nth .vD (nth [] (G.set D.toNat [I L,I M,I N]) D.toNat) 1)),I (Ah (nth .vD (nth [] (G.set D.toNat [I L,I M,I N]) D.toNat) 2))]) D.toNat) 0)),I (O (Ah (nth .vD (nth [] ((G.set D.toNat [I L,I M,I N]).set D.toNat [I (O (Ah (nth .vD (nth [] (G.set D.toNat [I L,I M,I N]) D.toNat) 0)+gA S 0)),I (Ah (nth .vD (nth [] (G.set D.toNat [I L,I M,I N]) D.toNat) 1)),I (Ah (nth .vD (nth [] (G.set D.toNat [I L,I M,I N]) D.toNat) 2))]) D.toNat) 1)+gA U 0)),I (Ah (nth .vD (nth [] ((G.set D.toNat [I L,I M,I N]).set D.toNat [I (O (Ah (nth .vD (nth [] (G.set D.toNat [I L,I M,I N]) D.toNat) 0)+gA S 0)),I (Ah (nth .vD (nth [] (G.set D.toNat [I L,I M,I N]) D.toNat) 1)),I (Ah (nth .vD (nth [] (G.set D.toNat [I L,I M,I N]) D.toNat) 2))]) D.toNat) 2))]).set D.toNat [I (Ah (nth .vD (nth [] (((G.set D.toNat [I L,I M,I N]).set D.toNat [I (O (Ah (nth .vD (nth [] (G.set D.toNat [I L,I M,I N]) D.toNat) 0)+gA S 0)),I (Ah (nth .vD (nth [] (G.set D.toNat [I L,I M,I N]) D.toNat) 1)),I (Ah (nth .vD (nth [] (G.set D.toNat [I L,I M,I N]) D.toNat) 2))]).set D.toNat [I (Ah (nth .vD (nth [] ((G.set D.toNat [I L,I M,I N]).set D.toNat [I (O (Ah (nth .vD (nth [] (G.set D.toNat [I L,I M,I N]) D.toNat) 0)+gA S 0)),I (Ah (nth .vD (nth [] (G.set D.toNat [I L,I M,I N]) D.toNat) 1)),I (Ah (nth .vD (nth [] (G.set D.toNat [I L,I M,I N]) D.toNat) 2))]) D.toNat) 0)),I (O (Ah (nth .vD (nth [] ((G.set D.toNat [I L,I M,I N]).set D.toNat [I (O (Ah (nth .vD (nth [] (G.set D.toNat [I L,I M,I N]) D.toNat) 0)+gA S 0)),I (Ah (nth .vD (nth [] (G.set D.toNat [I L,I M,I N]) D.toNat) 1)),I (Ah (nth .vD (nth [] (G.set D.toNat [I L,I M,I N]) D.toNat) 2))]) D.toNat) 1)+gA U 0)),I (Ah (nth .vD (nth [] ((G.set D.toNat [I L,I M,I N]).set D.toNat [I (O (Ah (nth .vD (nth [] (G.set D.toNat [I L,I M,I N]) D.toNat) 0)+gA S 0)),I (Ah (nth .vD (nth [] (G.set D.toNat [I L,I M,I N]) D.toNat) 1)),I (Ah (nth .vD (nth [] (G.set D.toNat [I L,I M,I N]) D.toNat) 2))]) D.toNat) 2))]) D.toNat) 0)),I (Ah (nth .vD (nth [] (((G.set D.toNat [I L,I M,I N]).set D.toNat [I (O (Ah (nth .vD (nth [] (G.set D.toNat [I L,I M,I N]) D.toNat) 0)+gA S 0)),I (Ah (nth .vD (nth [] (G.set D.toNat [I L,I M,I N]) D.toNat) 1)),I (Ah (nth .vD (nth [] (G.set D.toNat [I L,I M,I N]) D.toNat) 2))]).set D.toNat [I (Ah (nth .vD (nth [] ((G.set D.toNat [I L,I M,I N]).set D.toNat [I (O (Ah (nth .vD (nth [] (G.set D.toNat [I L,I M,I N]) D.toNat) 0)+gA S 0)),I (Ah (nth .vD (nth [] (G.set D.toNat [I L,I M,I N]) D.toNat) 1)),I (Ah (nth .vD (nth [] (G.set D.toNat [I L,I M,I N]) D.toNat) 2))]) D.toNat) 0)),I (O (Ah (nth .vD (nth [] ((G.set D.toNat [I L,I M,I N]).set D.toNat [I (O (Ah (nth .vD (nth [] (G.set D.toNat [I L,I M,I N]) D.toNat) 0)+gA S 0)),I (Ah (nth .vD (nth [] (G.set D.toNat [I L,I M,I N]) D.toNat) 1)),I (Ah (nth .vD (nth [] (G.set D.toNat [I L,I M,I N]) D.toNat) 2))]) D.toNat) 1)+gA U 0)),I (Ah (nth .vD (nth [] ((G.set D.toNat [I L,I M,I N]).set D.toNat [I (O (Ah (nth .vD (nth [] (G.set D.toNat [I L,I M,I N]) D.toNat) 0)+gA S 0)),I (Ah (nth .vD (nth [] (G.set D.toNat [I L,I M,I N]) D.toNat) 1)),I (Ah (nth .vD (nth [] (G.set D.toNat [I L,I M,I N]) D.toNat) 2))]) D.toNat) 2))]) D.toNat) 1)),I (O (Ah (nth .vD (nth [] (((G.set D.toNat [I L,I M,I N]).set D.toNat [I (O (Ah (nth .vD (nth [] (G.set D.toNat [I L,I M,I N]) D.toNat) 0)+gA S 0)),I (Ah (nth .vD (nth [] (G.set D.toNat [I L,I M,I N]) D.toNat) 1)),I (Ah (nth .vD (nth [] (G.set D.toNat [I L,I M,I N]) D.toNat) 2))]).set D.toNat [I (Ah (nth .vD (nth [] ((G.set D.toNat [I L,I M,I N]).set D.toNat [I (O (Ah (nth .vD (nth [] (G.set D.toNat [I L,I M,I N]) D.toNat) 0)+gA S 0)),I (Ah (nth .vD (nth [] (G.set D.toNat [I L,I M,I N]) D.toNat) 1)),I (Ah (nth .vD (nth [] (G.set D.toNat [I L,I M,I N]) D.toNat) 2))]) D.toNat) 0)),I (O (Ah (nth .vD (nth [] ((G.set D.toNat [I L,I M,I N]).set D.toNat [I (O (Ah (nth .vD (nth [] (G.set D.toNat [I L,I M,I N]) D.toNat) 0)+gA S 0)),I (Ah (nth .vD (nth [] (G.set D.toNat [I L,I M,I N]) D.toNat) 1)),I (Ah (nth .vD (nth [] (G.set D.toNat [I L,I M,I N]) D.toNat) 2))]) D.toNat) 1)+gA U 0)),I (Ah (nth .vD (nth [] ((G.set D.toNat [I L,I M,I N]).set D.toNat [I (O (Ah (nth .vD (nth [] (G.set D.toNat [I L,I M,I N]) D.toNat) 0)+gA S 0)),I (Ah (nth .vD (nth [] (G.set D.toNat [I L,I M,I N]) D.toNat) 1)),I (Ah (nth .vD (nth [] (G.set D.toNat [I L,I M,I N]) D.toNat) 2))]) D.toNat) 2))]) D.toNat) 2)+gA a0 0))]),I T,I X,I (O (D+1)),I L,I M,I N,I Y,I v8,I v9,I v10,I v11,I v12])) (none)) (none)) (none)) (none)) (none)) (none)) (none)) (some (1,[.vC kPt G])):=by kernel_rfl
theorem Q86 (A7 Hd V GE:Fn) (N9:Lp) (X Y x2 M N S x6 x7 x8 x9:Int):Qou A7 Hd V GE N9 [I X,I Y,I x2,I M,I N,I S,I x6,I x7,I x8,I x9]=
 (GE [I X,I Y,I x2,I M,I N,I S,I x6,I x7,I x8,I x9]).bind λT=>
 cond (gA T 0==0) (some [.vC kPt [[I M,I N,I S]]]) ((V [I M,I N,I S,I X,I Y,I x2,jA T 0]).bind λG=>
 (V [I M,I N,I S,I x6,I x7,I x8,jA T 0]).bind λL=>
 (Hd [jA G 0,jA G 1,jA G 2,I M,I N,I S,jA L 0,jA L 1,jA L 2]).bind λD=>
 cond (decide (O (gA D 0+1)=O (gA D 0+1))) (cond (decide (0<=O (gA D 0+1))&&decide (O (gA D 0+1)*(↑24:Int)<=140737488355328)) ((N9 [.vC kPt (List.replicate (O (gA D 0+1)).toNat [I 0,I 0,I 0]),jA D 0,I (↑(List.replicate (O (gA D 0+1)).toNat [I 0,I 0,I 0]).length:Int),I 0,I M,I N,I S,jA G 0,jA G 1,jA G 2,jA L 0,jA L 1,jA L 2]).bind λU=>
 cond (U.1.beq 1) (some [.vC kPt (wA U.2 0)]) (none)) (none)) (none)):=by kernel_rfl
def Q7s:=Al (Pc CY KC G3 LW)
def P_:=Qou CY KC G3 LW Q7s
theorem Za0:Ai PG (Qe7 CY KC G3 LW):=Ao rfl ⟨QI,Zmk,Q8u,Zwu,trivial⟩
theorem Ycw:Ak PG (Zpg P_):=rw2 (C:=Zdm CY KC G3 LW Q7s) (fl fb Za0) Za0
def Z8t:=qd 236 Quw Quw
def Q1v:Fn:=An PG Qj1 64 236 Quw Quw
theorem Zt9 (D G L:Int):Q1v [I D,I G,I L]=
 some [I (O (D*16)),I (O (G*16)),I (O (L*16))]:=by kernel_rfl
def OJ:=Q1v
theorem Zqp:Ai PG (Qj1):=Ao rfl trivial
theorem Zvh:Ak PG (Z8t OJ):=rw1 (C:=Qj1) Zqp
def Qcu:Sk:=⟨[TS.v true (cc 13++[sb,ci,sb]++cc 5++[sb]),TS.v true (cc 13++[sb,ci,sb]++cc 5++[sb])],[],[]⟩
def Qva:Sk:=⟨[TS.tup [(false,[sa kPt]),(false,[sa kPt])]],[],[]⟩
def Zlw:=qd 188 Qcu Qva
def Qi1 (D G I:Fn):Cfg:=cf [Zpg D,Z8t G,Qe3 I]
def Qli (D G I:Fn):Fn:=An PG (Qi1 D G I) 64 188 Qcu Qva
theorem Yih (Nk ON BX:Fn) (x0 x1 x2 x3 x4 x5 x6 x7 x8 x9 L M N:Int) (S:Bool) (T:Int) (U:Bool) (V X G Y a0:Int) (a1:Bool) (a2 a3 a4 a5 a6 a7 a8 a9 b0 b1 b2 b3 b4:Int) (b5:Bool) (b6:Int) (b7:Bool) (b8 b9 c0 c1 c2:Int) (c3:Bool):Qli Nk ON BX [I x0,I x1,I x2,I x3,I x4,I x5,I x6,I x7,I x8,I x9,I L,I M,I N,B S,I T,B U,I V,I X,I G,I Y,I a0,B a1,I a2,I a3,I a4,I a5,I a6,I a7,I a8,I a9,I b0,I b1,I b2,I b3,I b4,B b5,I b6,B b7,I b8,I b9,I c0,I c1,I c2,B c3]=
 (BX [I x0,I x1,I x2,I x3,I x4,I x5,I x6,I x7,I x8,I x9,I L,I M,I N,B S,I T,B U,I V,I X,I G,I Y,I a0,B a1]).bind λo4=>
 (ON [I x5,I x6,I x7]).bind λo5=>
 (BX [I a2,I a3,I a4,I a5,I a6,I a7,I a8,I a9,I b0,I b1,I b2,I b3,I b4,B b5,I b6,B b7,I b8,I b9,I c0,I c1,I c2,B c3]).bind λo6=>
 (Nk [jA o4 0,jA o4 1,jA o4 2,jA o5 0,jA o5 1,jA o5 2,jA o6 0,jA o6 1,jA o6 2,I (O (G*16))]).bind λD=>
 cond (decide (0<=O (O ((O ((↑(wA D 0).length:Int)-1)).tdiv 2)+1))&&decide (O (O ((O ((↑(wA D 0).length:Int)-1)).tdiv 2)+1)<=(↑(wA D 0).length:Int))) (cond (decide (0<=O ((O ((↑(wA D 0).length:Int)-1)).tdiv 2))&&decide (O ((O ((↑(wA D 0).length:Int)-1)).tdiv 2)<=(↑(wA D 0).length:Int))) (some [.vC kPt (List.take (O (O ((O ((↑(wA D 0).length:Int)-1)).tdiv 2)+1)).toNat (wA D 0)), .vC kPt (List.drop (O ((O ((↑(wA D 0).length:Int)-1)).tdiv 2)).toNat (wA D 0))]) (none)) (none):=by kernel_rfl
def RL:=Qli P_ OJ Gn
theorem Z81:Ai PG (Qi1 P_ OJ Gn):=Ao rfl ⟨Ycw,Zvh,Qu7,trivial⟩
theorem Ybk:Ak PG (Zlw RL):=rw1 (C:=Qi1 P_ OJ Gn) Z81
def Qiu:Sk:=⟨[TS.tup [(false,[ci]),(false,[ci]),(false,[ci]),(false,[sb])]],[],[]⟩
def Qse:=qd 179 Zb Qiu
def Qxl:Fn:=An PG Qj1 64 179 Zb Qiu
theorem Ya4 (D:Int):Qxl [I D]=
 cond (D==17) (some [I 0,I 1,I 2,B true]) (cond (D==18) (some [I 2,I 0,I 1,B true]) (cond (D==19) (some [I 1,I 2,I 0,B true]) (some [I 0,I 0,I 0,B false]))):=by kernel_rfl
def FG:=Qxl
theorem Z9x:Ai PG (Qj1):=Ao rfl trivial
theorem Qs2:Ak PG (Qse FG):=rw1 (C:=Qj1) Z9x
def Znj:=qd 234 Wt Quw
def Qjr (D:Fn):Cfg:=cf [Qse D]
def Qla (D:Fn):Fn:=An PG (Qjr D) 64 234 Wt Quw
abbrev UU (o1:List AC) (M:Int) (D G L:AC):Option (List AC):=
 cond (decide (gA o1 2=(↑0:Int))) (some [I M,D,G]) (cond (decide (gA o1 2=(↑(0+1):Int))) (some [L,I M,G]) (cond (decide (gA o1 2=(↑(0+1+1):Int))) (some [L,D,I M]) (none)))
abbrev SU (o1:List AC) (M N:Int) (D G L:AC):Option (List AC):=
 cond (decide (gA o1 1=(↑0:Int))) (UU o1 M D G (I N)) (cond (decide (gA o1 1=(↑(0+1):Int))) (UU o1 M (I N) G L) (cond (decide (gA o1 1=(↑(0+1+1):Int))) (UU o1 M D (I N) L) (none)))
theorem Z4k (M:Fn) (D G L N:Int):Qla M [I D,I G,I L,I N]=
 (M [I N]).bind λo1=>
 cond (bA o1 3) (cond (decide (gA o1 0=(↑0:Int))) (SU o1 L G (I 0) (I 0) (I D)) (cond (decide (gA o1 0=(↑(0+1):Int))) (SU o1 L G (I D) (I 0) (I 0)) (cond (decide (gA o1 0=(↑(0+1+1):Int))) (SU o1 L G (I 0) (I D) (I 0)) (none)))) (some [I 0,I 0,I 0]):=by kernel_rfl
def Nc:=Qla FG
theorem Yip:Ai PG (Qjr FG):=Ao rfl ⟨Qs2,trivial⟩
theorem Yb9:Ak PG (Znj Nc):=rw1 (C:=Qjr FG) Yip
def Q2l:=qd 173 Qhb Qm5
def WP (D:Fn):Cfg:=cf [Qse D]
def VZ (D:Fn):Fn:=An PG (WP D) 64 173 Qhb Qm5
abbrev SV (o1:List AC) (D:AC) (L M N:Int) (G:AC):Option (List AC):=
 cond (decide (gA o1 2=(↑0:Int))) (some [D,G,I L]) (cond (decide (gA o1 2=(↑(0+1):Int))) (some [D,G,I M]) (cond (decide (gA o1 2=(↑(0+1+1):Int))) (some [D,G,I N]) (none)))
abbrev TI (o1:List AC) (G L M:Int) (D:AC):Option (List AC):=
 cond (decide (gA o1 1=(↑0:Int))) (SV o1 D G L M (I G)) (cond (decide (gA o1 1=(↑(0+1):Int))) (SV o1 D G L M (I L)) (cond (decide (gA o1 1=(↑(0+1+1):Int))) (SV o1 D G L M (I M)) (none)))
theorem Yig (M:Fn) (D G L N:Int):VZ M [I D,I G,I L,I N]=
 (M [I N]).bind λo1=>
 cond (!bA o1 3) (some [I 0,I 0,I 0]) (cond (decide (gA o1 0=(↑0:Int))) (TI o1 D G L (I D)) (cond (decide (gA o1 0=(↑(0+1):Int))) (TI o1 D G L (I G)) (cond (decide (gA o1 0=(↑(0+1+1):Int))) (TI o1 D G L (I L)) (none)))):=by kernel_rfl
def H9:=VZ FG
theorem Zp3:Ai PG (WP FG):=Ao rfl ⟨Qs2,trivial⟩
theorem Qz4:Ak PG (Q2l H9):=rw1 (C:=WP FG) Zp3
def Zgv:=qd 231 Quw Quw
def Qxn:Fn:=An PG Qj1 64 231 Quw Quw
theorem Zug (D G L:Int):Qxn [I D,I G,I L]=
 some [I (O (D*16)),I (O (G*16)),I (O (L*16))]:=by kernel_rfl
def HC:=Qxn
theorem Ybh:Ai PG (Qj1):=Ao rfl trivial
theorem Zdi:Ak PG (Zgv HC):=rw1 (C:=Qj1) Ybh
def Qmf:=qd 183 Y4 Zb
def Qzi:Fn:=An PG Qj1 64 183 Y4 Zb
theorem Zuk (D G N S L M T U:Int):Qzi [I D,I G,I N,I S,I L,I M,I T,I U]=
 some [I (O (O (D*M)-O (G*L)))]:=by kernel_rfl
def Hb:=Qzi
theorem Z6y:Ai PG (Qj1):=Ao rfl trivial
theorem X1:Ak PG (Qmf Hb):=rw1 (C:=Qj1) Z6y
def Qt6:=qd 181 Y4 Zb
def Q1w:Fn:=An PG Qj1 64 181 Y4 Zb
theorem Z6j (D G N S L M T U:Int):Q1w [I D,I G,I N,I S,I L,I M,I T,I U]=
 some [I (O (O (D*L)+O (G*M)))]:=by kernel_rfl
def GP:=Q1w
theorem Ztk:Ai PG (Qj1):=Ao rfl trivial
theorem Qch:Ak PG (Qt6 GP):=rw1 (C:=Qj1) Ztk
def Yfu:=qd 285 Qdz Zj
def Qke (D G I:Fn):Cfg:=cf [Zap D,Qmf G,Qt6 I]
def Qhf (D G I:Fn):Fn:=An PG (Qke D G I) 64 285 Qdz Zj
abbrev Qdu (U:Fn) (G:AC) (M N:Int) (D L:AC) (V X:Int):Option (List AC):=
 (U [G,I ((O (O (M+N)+1)).fdiv (2^min (Int.toNat 1) IntKind.i64.bits)),D,I 2]).bind λS=>
 (U [L,I ((O (O (M+N)+1)).fdiv (2^min (Int.toNat 1) IntKind.i64.bits)),D,I 2]).bind λT=>
 some [jA S 0,jA T 0,I ((O (O (M+N)+1)).fdiv (2^min (Int.toNat 1) IntKind.i64.bits)),I ((O (O (V+X)+1)).fdiv (2^min (Int.toNat 1) IntKind.i64.bits)),B true]
abbrev RI (O:Fn) (S T U V:Int) (M N:Bool) (D G L:AC):Option (List AC):=
 cond (M) (cond (N) (some [I 0,I 0,I 0,I 0,B false]) (Qdu O D S T G L U V)) (Qdu O D S T G L U V)
abbrev Qag (x9:Bool) (X:Fn) (S T U V D G:Int) (Cg:Fn) (L M N:Int) (CO:Fn):Option (List AC):=
 cond (x9) (RI X S T U V (O (0-D)==0) (O (0-G)==0) (I (O (0-D))) (I (O (O (O (0-D)*O (0-D))+O (O (0-G)*O (0-G))))) (I (O (0-G)))) ((Cg [I D,I G,I S,I U,I L,I M,I T,I V]).bind λY=>
 cond (decide (gA Y 0<=0)) (RI X S T U V (O (N*O (M-G))==0) (O (N*O (D-L))==0) (I (O (N*O (M-G)))) (I (O (O (O (N*O (M-G))*O (N*O (M-G)))+O (O (N*O (D-L))*O (N*O (D-L)))))) (I (O (N*O (D-L))))) ((CO [I D,I G,I S,I U,I L,I M,I T,I V]).bind λa0=>
 cond (decide (O (gA a0 0*N)<=0)) (RI X S T U V (O (0-O (D+L))==0) (O (0-O (G+M))==0) (I (O (0-O (D+L)))) (I (O (O (O (0-O (D+L))*O (0-O (D+L)))+O (O (0-O (G+M))*O (0-O (G+M)))))) (I (O (0-O (G+M))))) (RI X S T U V (O (D+L)==0) (O (G+M)==0) (I (O (D+L))) (I (O (O (O (D+L)*O (D+L))+O (O (G+M)*O (G+M))))) (I (O (G+M))))))
theorem Zwn (G L M:Fn) (N O S T U V X Y D:Int) (x9:Bool):Qhf G L M [I N,I O,I S,I T,I U,I V,I X,I Y,I D,B x9]=
 cond (D !=1) (cond (D != -1) (some [I 0,I 0,I 0,I 0,B false]) (Qag x9 G S X T Y N O M U V D L)) (Qag x9 G S X T Y N O M U V D L):=by kernel_rfl
def Mx:=Qhf IE Hb GP
theorem Ya2:Ai PG (Qke IE Hb GP):=Ao rfl ⟨Qyf,X1,Qch,trivial⟩
theorem Ycr:Ak PG (Yfu Mx):=rw1 (C:=Qke IE Hb GP) Ya2
def Z25:=qd 295 ZJ V_
def Q9m:Fn:=An PG Qj1 64 295 ZJ V_
theorem Z8c (D G:Int):Q9m [I D,I G]=
 some [B (decide (G<=O (O (O (8*D)*4)-64)))]:=by kernel_rfl
def Ot:=Q9m
theorem Z4q:Ai PG (Qj1):=Ao rfl trivial
theorem Zku:Ak PG (Z25 Ot):=rw1 (C:=Qj1) Z4q
def Qgx:Sk:=⟨[tf [sd 20000 0],TS.v true [ci,ci,ci,ci],TS.v true [ci,ci,ci,ci],tf [sb]],[(20000,304,[ci,se 20000 4])],[(20000,228,[kI,kI,kI,kI])]⟩
def XG:Sk:=⟨[tf [sb]],[(20000,304,[ci,se 20000 4])],[(20000,228,[kI,kI,kI,kI])]⟩
def Zsp:=qd 284 Qgx XG
def Qup (D G:Fn):Cfg:=cf [Z25 D,Qmf G]
def Qkz (D G:Fn):Fn:=An PG (Qup D G) 64 284 Qgx XG
theorem Zog (V X:Fn) (G:Rw) (L M T Y N S U x8:Int) (x9:Bool) (D:Int):Qkz V X [.vC [kI,kI,kI,kI] G,I L,I M,I T,I Y,I N,I S,I U,I x8,B x9,I D]=
 cond (!x9) ((X [I L,I M,I T,I Y,I N,I S,I U,I x8]).bind λo2=>
 cond (decide (O (gA o2 0*D)>0)) ((V [I (mn T U),I (O (O (O (L-N)*O (L-N))+O (O (M-S)*O (M-S))))]).bind λo3=>
 some [.vC [kI,kI,kI,kI] G,B (bA o3 0),I D]) (some [.vC [kI,kI,kI,kI] G,B false,I D])) (some [.vC [kI,kI,kI,kI] G,B false,I D]):=by kernel_rfl
def LG:=Qkz Ot Hb
theorem Z22:Ai PG (Qup Ot Hb):=Ao rfl ⟨Zku,X1,trivial⟩
theorem Zxj:Ak PG (Zsp LG):=rw1 (C:=Qup Ot Hb) Z22
def Q25:Nat:=20
def Mg:Sk:=⟨[tf [sd 20000 0],TS.v true [ci,ci,ci,ci],TS.v true [ci,ci,ci,ci],tf [sb],tf [ci]],[(20000,304,[ci,se 20000 4])],[(20000,228,[kI,kI,kI,kI])]⟩
def Mu:Sk:=⟨[TS.tup []],[(20000,304,[ci,se 20000 4])],[(20000,228,[kI,kI,kI,kI])]⟩
def Zjv:=qd 260 Mg Mu
def Qsp (D G I:Fn):Cfg:=cp [Zjv D,Yfu G,Zsp I] [260,284]
def Vf (D G I:Fn):Fn:=An PG (Qsp D G I) 64 260 Mg Mu
theorem Qwe (FE Oe On:Fn) (U:Rw) (V X Y x4 D G L M:Int) (x9:Bool) (N T:Int):Vf FE Oe On [.vC [kI,kI,kI,kI] U,I V,I X,I Y,I x4,I D,I G,I L,I M,B x9,I N,I T]=
 cond (decide (N<16)) ((On [.vC [kI,kI,kI,kI] U,I V,I X,I Y,I x4,I D,I G,I L,I M,B x9,I T]).bind λo4=>
 cond (!bA o4 1) ((Oe [I V,I X,I Y,I x4,I D,I G,I L,I M,jA o4 2,B x9]).bind λS=>
 cond (bA S 4) ((FE [.vC [kI,kI,kI,kI] (wA o4 0),I V,I X,I Y,I x4,jA S 0,jA S 1,jA S 2,jA S 3,B false,I (O (N+1)),jA o4 2]).bind λo6=>
 (FE [.vC [kI,kI,kI,kI] (wA o6 0),jA S 0,jA S 1,jA S 2,jA S 3,I D,I G,I L,I M,B false,I (O (N+1)),jA o6 1]).bind λo7=>
 some [.vC [kI,kI,kI,kI] (wA o7 0),jA o7 1]) (cond (((wA o4 0++[[I D,I G,I L,I M]]).length*32).ble 140737488355328) (some [.vC [kI,kI,kI,kI] (wA o4 0++[[I D,I G,I L,I M]]),jA o4 2]) (none))) (cond (((wA o4 0++[[I D,I G,I L,I M]]).length*32).ble 140737488355328) (some [.vC [kI,kI,kI,kI] (wA o4 0++[[I D,I G,I L,I M]]),jA o4 2]) (none))) (cond (((U++[[I D,I G,I L,I M]]).length*32).ble 140737488355328) (some [.vC [kI,kI,kI,kI] (U++[[I D,I G,I L,I M]]),I T]) (none)):=by kernel_rfl
def Zje (M:Fn):Fn:=Vf M Mx LG
def OI:Nat->Fn
 |0=>λ_=>none
 |n+1=>Zje (OI n)
theorem Z8o {M:Fn} (h:Ak PG (260,Ac Mg Mu M)):Ai PG (Qsp M Mx LG):=Ao rfl ⟨h,Ycr,Zxj,trivial⟩
theorem Zon {M:Fn} (h:Ak PG (260,Ac Mg Mu M)):Ak PG (260,Ac Mg Mu (Zje M)):=VA (C:=Qsp M Mx LG) (L:=64) (by kernel_rfl) (FnOK.bare rfl rfl rfl) (Z8o h) eqOk GH (by kernel_rfl) (by kernel_rfl)
theorem Zgd:∀n,Ak PG (260,Ac Mg Mu (OI n))
 |0=>FZ
 |n+1=>Zon (Zgd n)
def S7:=OI Q25
theorem Z5w:Ak PG (Zjv S7):=Zgd Q25
def Zcs:=qd 180 Qn1 Qh5
def Qcd (D G:Fn):Cfg:=cf [Q2l D,Zgv G]
def Q7a:Sk:=⟨[td,tf [sd 1 0],tf [sd 2 0],tf [sd 3 0],tf [sd 4 0],tf [ci],tf [ci]]++dd 20++[TS.v true (cc 6),tf [ci]]++dd 27,[(1,31,cc 13++[sb,ci,sb]++cc 5++[sb]),(2,228,[ci,ci,ci,ci]),(3,228,[ci,ci,ci,ci]),(4,277,cc 8)],[]⟩
def Q4m:List (Ex×Sk):=[(Ex.exit 0,⟨[td,td,tf [sd 2 0],tf [sd 3 0],tf [sd 4 0]]++dd 51,[(2,228,[ci,ci,ci,ci]),(3,228,[ci,ci,ci,ci]),(4,277,cc 8)],[]⟩)]
def Qub (D G:Fn):Lp:=AG PG (Qcd D G) 64 4 (AH PG 180 4) Q7a Q4m
def Qzc (D G:Fn) (I:Lp):Cfg:=(Qcd D G).loop 4 Q7a Q4m I
def Zq (D G:Fn) (I:Lp):Fn:=An PG (Qzc D G I) 64 180 Qn1 Qh5
abbrev Qlj (BT Ca:Fn) (G v8 v0 v1 v2 v3 v4 v5 v6 v7 v9 v10 v11 v12 L M N S T U v20 v21:Int) (v22:Bool) (V:Int) (v24:Bool) (v25 X v27 v28 Y:Int) (v30:Bool) (v31 a0 v33 a1 v35 v36 v37 v38 a5 v44 a6 v46 a7 v40 a8 v42:Int) (a2 a3 a4:AC):Option (Nat×List AC):=
 (BT [a2,a3,a4]).bind λo9=>
 (Ca [jA o9 0,jA o9 1,jA o9 2,I G]).bind λD=>
 cond (decide (v8=(↑0:Int))) (some (0,[I v0,I v1,I v2,I v3,I v4,I v5,I v6,I v7,I (O (v8+1)),I v9,I v10,I v11,I v12,I L,I M,I N,I S,I G,I T,I U,I v20,I v21,B v22,I V,B v24,I v25,I X,I v27,I v28,I Y,B v30,I v31,I a0,I v33,I a1,I v35,I v36,I v37,I v38,I (O (gA D 0-v0)),I (O (gA D 1-v1)),I 0,jA D 2,I a5,I v44,I a6,I v46])) (cond (decide (v8=(↑(0+1):Int))) (some (0,[I v0,I v1,I v2,I v3,I v4,I v5,I v6,I v7,I (O (v8+1)),I v9,I v10,I v11,I v12,I L,I M,I N,I S,I G,I T,I U,I v20,I v21,B v22,I V,B v24,I v25,I X,I v27,I v28,I Y,B v30,I v31,I a0,I v33,I a1,I v35,I v36,I v37,I v38,I a7,I v40,I a8,I v42,I (O (gA D 0-v0)),I (O (gA D 1-v1)),I 0,jA D 2])) (none))
theorem Qsj (Ca BT:Fn) (v0 v1 v2 v3 v4 v5 v6 v7 v8 v9 v10 v11 v12 S T U V X Y a0 v20 v21:Int) (v22:Bool) (a1:Int) (v24:Bool) (v25 a2 v27 v28 a3:Int) (v30:Bool) (v31 D v33 G v35 v36 v37 v38 L v40 M v42 N v44 O v46:Int):Qub Ca BT [I v0,I v1,I v2,I v3,I v4,I v5,I v6,I v7,I v8,I v9,I v10,I v11,I v12,I S,I T,I U,I V,I X,I Y,I a0,I v20,I v21,B v22,I a1,B v24,I v25,I a2,I v27,I v28,I a3,B v30,I v31,I D,I v33,I G,I v35,I v36,I v37,I v38,I L,I v40,I M,I v42,I N,I v44,I O,I v46]=
 cond (decide (v8<2)) (cond (decide (v8=(↑0:Int))) (Qlj BT Ca X v8 v0 v1 v2 v3 v4 v5 v6 v7 v9 v10 v11 v12 S T U V Y a0 v20 v21 v22 a1 v24 v25 a2 v27 v28 a3 v30 v31 D v33 G v35 v36 v37 v38 N v44 O v46 L v40 M v42 (I v2) (I v3) (I v4)) (cond (decide (v8=(↑(0+1):Int))) (Qlj BT Ca X v8 v0 v1 v2 v3 v4 v5 v6 v7 v9 v10 v11 v12 S T U V Y a0 v20 v21 v22 a1 v24 v25 a2 v27 v28 a3 v30 v31 D v33 G v35 v36 v37 v38 N v44 O v46 L v40 M v42 (I v5) (I v6) (I v7)) (none))) (some (1,[I v31,I D,I v33,I G,I v35,I v36,I v37,I v38,I L,I v40,I M,I v42,I N,I v44,I O,I v46])):=by kernel_rfl
theorem Z4x (Ca BT:Fn) (N4:Lp) (x0 x1 x2 x3 x4 x5 x6 x7 x8 x9 G L N:Int) (O:Bool) (S:Int) (T:Bool) (U V X Y a0:Int) (a1:Bool):Zq Ca BT N4 [I x0,I x1,I x2,I x3,I x4,I x5,I x6,I x7,I x8,I x9,I G,I L,I N,B O,I S,B T,I U,I V,I X,I Y,I a0,B a1]=
 (BT [I x9,I G,I L]).bind λM=>
 (Ca [jA M 0,jA M 1,jA M 2,I x8]).bind λa2=>
 (N4 [jA a2 0,jA a2 1,I x2,I x3,I x4,I x5,I x6,I x7,I 0,I x0,I x1,I x2,I x3,I x4,I x5,I x6,I x7,I x8,I x9,I G,I L,I N,B O,I S,B T,I U,I V,I X,I Y,I a0,B a1,I 0,I 0,I 0,I 0,I 0,I 0,I 0,I 0,I 0,I 0,I 0,I 0,I 0,I 0,I 0,I 0]).bind λD=>
 cond (D.1.beq 1) (some [jA D.2 8,jA D.2 9,jA D.2 10,jA D.2 11,jA D.2 12,jA D.2 13,jA D.2 14,jA D.2 15]) (none):=by kernel_rfl
def Zi1:=Al (Qub H9 HC)
def KL:=Zq H9 HC Zi1
theorem Za4:Ai PG (Qcd H9 HC):=Ao rfl ⟨Qz4,Zdi,trivial⟩
theorem Zb1:Ak PG (Zcs KL):=rw2 (C:=Qzc H9 HC Zi1) (fl fb Za4) Za4
def Ygp:=qd 186 Wt Zb
def Qn6 (D G Cm I:Fn):Cfg:=cf [Qvk D,UC G,Qej Cm,X7 I]
def Qsx (D G Cm I:Fn):Fn:=An PG (Qn6 D G Cm I) 64 186 Wt Zb
theorem Zkc (DY M Cm N:Fn) (S T V X:Int):Qsx DY M Cm N [I S,I T,I V,I X]=
 (N [I S,I T]).bind λY=>
 (N [I V,I X]).bind λD=>
 cond (gA Y 0 !=gA D 0) (cond (decide (gA Y 0<gA D 0)) (some [I (-1)]) (some [I 1])) ((Cm [I S]).bind λa0=>
 (Cm [I T]).bind λa1=>
 (M [U (gA a0 0),U (gA a1 0)]).bind λG=>
 (Cm [I V]).bind λa2=>
 (Cm [I X]).bind λa3=>
 (M [U (gA a2 0),U (gA a3 0)]).bind λL=>
 (DY [U (gA G 0),U (gA G 1),U (gA L 0),U (gA L 1)]).bind λa4=>
 some [I (O (gA Y 0*gA a4 0))]):=by kernel_rfl
def Pu:=Qsx Ih Ey Gs GA
theorem Ydp:Ai PG (Qn6 Ih Ey Gs GA):=Ao rfl ⟨Q3q,Vn,WB,Qf7,trivial⟩
theorem Z0q:Ak PG (Ygp Pu):=rw1 (C:=Qn6 Ih Ey Gs GA) Ydp
def Z70:=qd 182 ZJ V_
def Zx (D:Fn):Cfg:=cf [Ygp D]
def Y9 (D:Fn):Fn:=An PG (Zx D) 64 182 ZJ V_
theorem Zy2 (L:Fn) (D G:Int):Y9 L [I D,I G]=
 cond (decide (O (O (mx D G-mn D G)-16)<=0)) (some [B true]) ((L [I (O (O (mx D G-mn D G)-16)),I (O (O (mx D G-mn D G)-16)),I 64,I (mn D G)]).bind λo1=>
 some [B (decide (gA o1 0<=0))]):=by kernel_rfl
def QK:=Y9 Pu
theorem Zp1:Ai PG (Zx Pu):=Ao rfl ⟨Z0q,trivial⟩
theorem Yjz:Ak PG (Z70 QK):=rw1 (C:=Zx Pu) Zp1
def Zul:=qd 178 Quw V_
def Zi7:Fn:=An PG Qbu 64 178 Quw V_
theorem Zwh (D G L:Int):Zi7 [I D,I G,I L]=
 cond (decide (D< -1048576)) (some [B false]) (cond (decide (D>1048576)) (some [B false]) (cond (decide (G< -1048576)) (some [B false]) (cond (decide (G>1048576)) (some [B false]) (cond (decide (L< -1048576)) (some [B false]) (cond (decide (L>1048576)) (some [B false]) (some [B true])))))):=by kernel_rfl
def NU:=Zi7
theorem Zox:Ai PG (Qbu):=Ao rfl trivial
theorem Z0j:Ak PG (Zul NU):=rw1 (C:=Qbu) Zox
def Qdn:=qd 132 Qn1 V_
def X8 (D G I L M N:Fn):Cfg:=cf [Qmf D,Z70 G,Qt6 I,Zcs L,Qse M,Zul N]
def Qsf (D G I L M N:Fn):Fn:=An PG (X8 D G I L M N) 64 132 Qn1 V_
abbrev Qj5 (HO:Fn) (x9 G L:Int) (EY:Fn) (x0 x1 x2 x3 x4 x5 x6 x7 x8 T:Int) (M:Bool) (U:Int) (V:Bool) (X Y a0 a1 a2:Int) (a3:Bool) (Cg JT CO:Fn):Option (List AC):=
 (HO [I x9,I G,I L]).bind λa4=>
 cond (!bA a4 0) (some [B false]) ((EY [I x0,I x1,I x2,I x3,I x4,I x5,I x6,I x7,I x8,I x9,I G,I L,I T,B M,I U,B V,I X,I Y,I a0,I a1,I a2,B a3]).bind λD=>
 (Cg [jA D 0,jA D 1,jA D 2,jA D 3,jA D 0,jA D 1,jA D 2,jA D 3]).bind λN=>
 (Cg [jA D 4,jA D 5,jA D 6,jA D 7,jA D 4,jA D 5,jA D 6,jA D 7]).bind λS=>
 cond (decide (gA N 0<O (128*128))) (some [B false]) (cond (decide (gA S 0<O (128*128))) (some [B false]) ((JT [I (O ((gA N 0).tdiv 256)),I (O ((gA S 0).tdiv 256))]).bind λa5=>
 cond (!bA a5 0) (some [B false]) (cond (M) (cond (gA D 0==gA D 4) (some [B (gA D 1==gA D 5)]) (some [B false])) ((CO [jA D 0,jA D 1,jA D 2,jA D 3,jA D 4,jA D 5,jA D 6,jA D 7]).bind λa6=>
 cond (gA a6 0 !=0) (some [B true]) ((Cg [jA D 0,jA D 1,jA D 2,jA D 3,jA D 4,jA D 5,jA D 6,jA D 7]).bind λa7=>
 some [B (decide (gA a7 0<0))]))))))
theorem Z5i (CO JT Cg EY DV HO:Fn) (x0 x1 x2 x3 x4 x5 x6 x7 x8 x9 G L D:Int) (M:Bool) (N:Int) (O:Bool) (S T U V X:Int) (Y:Bool):Qsf CO JT Cg EY DV HO [I x0,I x1,I x2,I x3,I x4,I x5,I x6,I x7,I x8,I x9,I G,I L,I D,B M,I N,B O,I S,I T,I U,I V,I X,B Y]=
 cond (decide (x0<1)) (some [B false]) (cond (decide (x0>6)) (some [B false]) ((HO [I x2,I x3,I x4]).bind λa0=>
 cond (!bA a0 0) (some [B false]) ((HO [I x5,I x6,I x7]).bind λa1=>
 cond (!bA a1 0) (some [B false]) (cond (x0 !=3) (some [B true]) ((DV [I x8]).bind λa2=>
 cond (!bA a2 3) (some [B false]) (cond (D !=1) (cond (D != -1) (some [B false]) (Qj5 HO x9 G L EY x0 x1 x2 x3 x4 x5 x6 x7 x8 D M N O S T U V X Y Cg JT CO)) (Qj5 HO x9 G L EY x0 x1 x2 x3 x4 x5 x6 x7 x8 D M N O S T U V X Y Cg JT CO))))))):=by kernel_rfl
def GZ:=Qsf Hb QK GP KL FG NU
theorem Zmu:Ai PG (X8 Hb QK GP KL FG NU):=Ao rfl ⟨X1,Yjz,Qch,Zb1,Qs2,Z0j,trivial⟩
theorem Qcn:Ak PG (Qdn GZ):=rw1 (C:=X8 Hb QK GP KL FG NU) Zmu
def Zxd:=qd 233 Qn1 Qgt
def WJ (D G I L M:Fn):Cfg:={cp [Zjv D,Qyv G,Qt6 I,Zcs L,Qdn M] [260]with rowDst:=[39]}
def Qrp (D G I L M:Fn):Fn:=An PG (WJ D G I L M) 64 233 Qn1 Qgt
theorem Yai (FE FK Cg EY CF:Fn) (x0 x1 x2 x3 x4 x5 x6 x7 x8 x9 L M D:Int) (G:Bool) (N:Int) (O:Bool) (S T U V X:Int) (Y:Bool):Qrp FE FK Cg EY CF [I x0,I x1,I x2,I x3,I x4,I x5,I x6,I x7,I x8,I x9,I L,I M,I D,B G,I N,B O,I S,I T,I U,I V,I X,B Y]=
 cond (x0 !=3) (some [.vC [kI,kI,kI,kI] [],B false]) ((CF [I x0,I x1,I x2,I x3,I x4,I x5,I x6,I x7,I x8,I x9,I L,I M,I D,B G,I N,B O,I S,I T,I U,I V,I X,B Y]).bind λo7=>
 cond (!bA o7 0) (some [.vC [kI,kI,kI,kI] [],B false]) ((EY [I x0,I x1,I x2,I x3,I x4,I x5,I x6,I x7,I x8,I x9,I L,I M,I D,B G,I N,B O,I S,I T,I U,I V,I X,B Y]).bind λo8=>
 (Cg [jA o8 0,jA o8 1,jA o8 2,jA o8 3,jA o8 0,jA o8 1,jA o8 2,jA o8 3]).bind λo9=>
 (FK [jA o9 0,I 2]).bind λa0=>
 (Cg [jA o8 4,jA o8 5,jA o8 6,jA o8 7,jA o8 4,jA o8 5,jA o8 6,jA o8 7]).bind λa1=>
 (FK [jA a1 0,I 2]).bind λa2=>
 (FE [.vC [kI,kI,kI,kI] [[jA o8 0,jA o8 1,jA a0 0,jA o8 3]],jA o8 0,jA o8 1,jA a0 0,jA o8 3,jA o8 4,jA o8 5,jA a2 0,jA o8 7,B G,I 0,I D]).bind λa3=>
 some [.vC [kI,kI,kI,kI] (wA a3 0),B true])):=by kernel_rfl
def Pm:=Qrp S7 IZ GP KL GZ
theorem Yfl:Ai PG (WJ S7 IZ GP KL GZ):=Ao rfl ⟨Z5w,Q14,Qch,Zb1,Qcn,trivial⟩
theorem Zrx:Ak PG (Zxd Pm):=rw1 (C:=WJ S7 IZ GP KL GZ) Yfl
def Zw4:=qd 187 Qn1 Qf6
def Qfj (D G I L M:Fn):Cfg:=cf [Znj D,Q2l G,Zgv I,Zxd L,Qdn M]
def Q5a:Sk:=⟨[td,tf [sd 1 0],td,td,td,td,tf [ci],tf [ci],td,tf [se 41 3]]++dd 32++[tf [sa [kI,kI,kI,kI]],tf [ci],tf [ci]]++dd 22,[(1,31,cc 13++[sb,ci,sb]++cc 5++[sb])],[(41,42,kPt)]⟩
def Zfz:List (Ex×Sk):=[(Ex.exit 0,⟨dd 9++[tf [se 41 3]]++dd 57,[],[(41,42,kPt)]⟩)]
def OB (D G I L M:Fn):Lp:=AG PG (Qfj D G I L M) 64 9 (AH PG 187 9) Q5a Zfz
def Zjs (D G I L M:Fn) (N:Lp):Cfg:=(Qfj D G I L M).loop 9 Q5a Zfz N
def UZ (D G I L M:Fn) (N:Lp):Fn:=An PG (Zjs D G I L M N) 64 187 Qn1 Qf6
theorem Q62 (Hv Ca BT GF CF:Fn) (v0:Rw) (v1 v2:Int) (M:Rw) (v4 D v6 v7 v8 v9 v10 v11 v12 N G S T U V:Int) (X:Bool) (v20:Int) (v21:Bool) (v22 Y v24 v25 a0:Int) (v27:Bool):OB Hv Ca BT GF CF [.vC kPt v0,I v1,I v2, .vC [kI,kI,kI,kI] M,I v4,I D,I v6,I v7,I v8,I v9,I v10,I v11,I v12,I N,I G,I S,I T,I U,I V,B X,I v20,B v21,I v22,I Y,I v24,I v25,I a0,B v27]=
 cond (decide (D<v4)) (cond (decide (0<=D)&&decide (D<(M.length:Int))) ((Hv [I (O (v1+gA (nth [] M D.toNat) 0)),I (O (v2+gA (nth [] M D.toNat) 1)),jA (nth [] M D.toNat) 3,I G]).bind λL=>
 cond (decide (0<=D)&&decide (D<(v0.length:Int))) (some (0,[.vC kPt (v0.set D.toNat [jA L 0,jA L 1,jA L 2]),I v1,I v2, .vC [kI,kI,kI,kI] M,I v4,I (O (D+1)),I v6,I v7,I v8,I v9,I v10,I v11,I v12,I N,I G,I S,I T,I U,I V,B X,I v20,B v21,I v22,I Y,I v24,I v25,I a0,B v27])) (none)) (none)) (some (1,[.vC kPt v0])):=by kernel_rfl
theorem WD (Hv Ca BT GF CF:Fn) (N9:Lp) (x0 x1 x2 x3 x4 x5 x6 x7 x8 x9 G L M:Int) (N:Bool) (O:Int) (S:Bool) (T U V X Y:Int) (a0:Bool):UZ Hv Ca BT GF CF N9 [I x0,I x1,I x2,I x3,I x4,I x5,I x6,I x7,I x8,I x9,I G,I L,I M,B N,I O,B S,I T,I U,I V,I X,I Y,B a0]=
 (CF [I x0,I x1,I x2,I x3,I x4,I x5,I x6,I x7,I x8,I x9,I G,I L,I M,B N,I O,B S,I T,I U,I V,I X,I Y,B a0]).bind λa6=>
 cond (!bA a6 0) (some [.vC kPt [],B false]) ((GF [I x0,I x1,I x2,I x3,I x4,I x5,I x6,I x7,I x8,I x9,I G,I L,I M,B N,I O,B S,I T,I U,I V,I X,I Y,B a0]).bind λD=>
 cond (!bA D 1) ((BT [I x2,I x3,I x4]).bind λa1=>
 (BT [I x5,I x6,I x7]).bind λa2=>
 some [.vC kPt [[jA a1 0,jA a1 1,jA a1 2],[jA a2 0,jA a2 1,jA a2 2]],B true]) ((BT [I x9,I G,I L]).bind λa3=>
 (Ca [jA a3 0,jA a3 1,jA a3 2,I x8]).bind λa4=>
 cond (decide ((↑(wA D 0).length:Int)=(↑(wA D 0).length:Int))) (cond (decide (0<=(↑(wA D 0).length:Int))&&decide ((↑(wA D 0).length:Int)*(↑24:Int)<=140737488355328)) ((N9 [.vC kPt (List.replicate (↑(wA D 0).length:Int).toNat [I 0,I 0,I 0]),jA a4 0,jA a4 1, .vC [kI,kI,kI,kI] (wA D 0),I (↑(wA D 0).length:Int),I 0,I x0,I x1,I x2,I x3,I x4,I x5,I x6,I x7,I x8,I x9,I G,I L,I M,B N,I O,B S,I T,I U,I V,I X,I Y,B a0]).bind λa5=>
 cond (a5.1.beq 1) (some [.vC kPt (wA a5.2 0),B true]) (none)) (none)) (none))):=by kernel_rfl
def Zix:=Al (OB Nc H9 HC Pm GZ)
def Qt:=UZ Nc H9 HC Pm GZ Zix
theorem Q1p:Ai PG (Qfj Nc H9 HC Pm GZ):=Ao rfl ⟨Yb9,Qz4,Zdi,Zrx,Qcn,trivial⟩
theorem Zqn:Ak PG (Zw4 Qt):=rw2 (C:=Zjs Nc H9 HC Pm GZ Zix) (fl fb Q1p) Q1p
def Zpp:=qd 141 Zz Qqn
def Qdi (D G I L M N:Fn):Cfg:=cf [Qe3 D,Qpg G,Q72 I,Zlw L,Vy M,Zw4 N]
def Xr (D G I L M N:Fn):Fn:=An PG (Qdi D G I L M N) 64 141 Zz Qqn
theorem Ztm (Y Bw BW K3 Bl Oc:Fn) (G:Rw) (U x2:Int):Xr Y Bw BW K3 Bl Oc [.vC Ae G,I U,I x2]=
 cond (decide (0<=U)&&decide (U<(G.length:Int))) ((Oc (AF Ae (nth [] G U.toNat))).bind λD=>
 (Bl (AF Ae (nth [] G U.toNat))).bind λa2=>
 cond (!bA a2 0) (some [.vC kPt (wA D 0)]) (cond (decide (0<=1)&&decide (1<=(↑(wA D 0).length:Int))) (cond (decide (0<=O ((↑(wA D 0).length:Int)-1))&&decide (O ((↑(wA D 0).length:Int)-1)<=(↑(wA D 0).length:Int))) (cond (decide (x2>=0)) (cond (decide (0<=x2)&&decide (x2<(G.length:Int))) ((K3 (AF Ae (nth [] G x2.toNat)++AF Ae (nth [] G U.toNat))).bind λT=>
 (BW [.vC Ae G,I U]).bind λa3=>
 cond (bA a3 0) ((Bw [.vC Ae G,I U]).bind λV=>
 cond (decide (0<=gA V 0)&&decide (gA V 0<(G.length:Int))) ((K3 (AF Ae (nth [] G U.toNat)++AF Ae (nth [] G (gA V 0).toNat))).bind λa0=>
 cond ((([]++wA T 1).length*24).ble 140737488355328) ((Y (AF Ae (nth [] G U.toNat))).bind λL=>
 cond ((([]++wA T 1++[[jA L 0,jA L 1,jA L 2]]).length*24).ble 140737488355328) (cond ((([]++wA T 1++[[jA L 0,jA L 1,jA L 2]]++wA a0 0).length*24).ble 140737488355328) (some [.vC kPt ([]++wA T 1++[[jA L 0,jA L 1,jA L 2]]++wA a0 0)]) (none)) (none)) (none)) (none)) (cond ((([]++wA T 1).length*24).ble 140737488355328) ((Y (AF Ae (nth [] G U.toNat))).bind λM=>
 cond ((([]++wA T 1++[[jA M 0,jA M 1,jA M 2]]).length*24).ble 140737488355328) (cond ((([]++wA T 1++[[jA M 0,jA M 1,jA M 2]]++List.drop (O ((↑(wA D 0).length:Int)-1)).toNat (wA D 0)).length*24).ble 140737488355328) (some [.vC kPt ([]++wA T 1++[[jA M 0,jA M 1,jA M 2]]++List.drop (O ((↑(wA D 0).length:Int)-1)).toNat (wA D 0))]) (none)) (none)) (none))) (none)) ((BW [.vC Ae G,I U]).bind λa4=>
 cond (bA a4 0) ((Bw [.vC Ae G,I U]).bind λX=>
 cond (decide (0<=gA X 0)&&decide (gA X 0<(G.length:Int))) ((K3 (AF Ae (nth [] G U.toNat)++AF Ae (nth [] G (gA X 0).toNat))).bind λa1=>
 cond ((([]++List.take (Int.toNat 1) (wA D 0)).length*24).ble 140737488355328) ((Y (AF Ae (nth [] G U.toNat))).bind λN=>
 cond ((([]++List.take (Int.toNat 1) (wA D 0)++[[jA N 0,jA N 1,jA N 2]]).length*24).ble 140737488355328) (cond ((([]++List.take (Int.toNat 1) (wA D 0)++[[jA N 0,jA N 1,jA N 2]]++wA a1 0).length*24).ble 140737488355328) (some [.vC kPt ([]++List.take (Int.toNat 1) (wA D 0)++[[jA N 0,jA N 1,jA N 2]]++wA a1 0)]) (none)) (none)) (none)) (none)) (cond ((([]++List.take (Int.toNat 1) (wA D 0)).length*24).ble 140737488355328) ((Y (AF Ae (nth [] G U.toNat))).bind λS=>
 cond ((([]++List.take (Int.toNat 1) (wA D 0)++[[jA S 0,jA S 1,jA S 2]]).length*24).ble 140737488355328) (cond ((([]++List.take (Int.toNat 1) (wA D 0)++[[jA S 0,jA S 1,jA S 2]]++List.drop (O ((↑(wA D 0).length:Int)-1)).toNat (wA D 0)).length*24).ble 140737488355328) (some [.vC kPt ([]++List.take (Int.toNat 1) (wA D 0)++[[jA S 0,jA S 1,jA S 2]]++List.drop (O ((↑(wA D 0).length:Int)-1)).toNat (wA D 0))]) (none)) (none)) (none)))) (none)) (none))) (none):=by kernel_rfl
def Nh:=Xr Gn Ft Hr RL EV Qt
theorem Z79:Ai PG (Qdi Gn Ft Hr RL EV Qt):=Ao rfl ⟨Qu7,Qqf,Q0s,Ybk,TG,Zqn,trivial⟩
theorem Yfq:Ak PG (Zpp Nh):=rw1 (C:=Qdi Gn Ft Hr RL EV Qt) Z79
def Ztc:=qd 139 Qre Zb
def Qbm (D:Fn):Cfg:=cf [RV D]
def Ws (D:Fn):Fn:=An PG (Qbm D) 64 139 Qre Zb
theorem Q2y (A7:Fn) (x0 x1 x2 x3 x4 x5 x6 x7 x8 x9 M N S:Int) (T:Bool) (D:Int) (G:Bool) (U V X Y a0:Int) (a1:Bool) (L:Int):Ws A7 [I x0,I x1,I x2,I x3,I x4,I x5,I x6,I x7,I x8,I x9,I M,I N,I S,B T,I D,B G,I U,I V,I X,I Y,I a0,B a1,I L]=
 cond (x0==1) (some [I 0]) (cond (G) ((A7 [I (mn (O (D*mx L 1)) 60000000),I 4096,I 60000,I 2]).bind λo2=>
 some [I (mx (gA o2 0) 1)]) ((A7 [I (mn D 60000000),I 4096,I 60000,I 2]).bind λo3=>
 some [I (mx (gA o3 0) 1)])):=by kernel_rfl
def JY:=Ws CY
theorem Z0z:Ai PG (Qbm CY):=Ao rfl ⟨QI,trivial⟩
theorem Yg9:Ak PG (Ztc JY):=rw1 (C:=Qbm CY) Z0z
def Qnx:Sk:=⟨[tf [sd 20000 0],tf [sa Ae],tf [ci],tf [ci]],[(20000,102,[ci,ci,ci,se 20000 7,se 20001 3,sb,ci,ci,ci])],[(20000,111,Ag),(20001,130,kPt)]⟩
def Qf2:Sk:=⟨[tf [sb]],[(20000,102,[ci,ci,ci,se 20000 7,se 20001 3,sb,ci,ci,ci])],[(20000,111,Ag),(20001,130,kPt)]⟩
def Ygl:=qd 91 Qnx Qf2
def Qdk (D G I L M Hq:Fn):Cfg:=cp [Qe3 D,Vy G,Yf3 I,Zpp L,Qzo M,Ztc Hq] [142]
def Zdc:Sk:=⟨[tf [sd 20000 0]]++dd 8++[tf [sd 9 0],tf [sd 10 0]]++dd 24++[tf [sa kPt],tf [ci],tf [ci]]++dd 30,[(9,31,cc 13++[sb,ci,sb]++cc 5++[sb]),(10,111,cc 7),(20000,102,[ci,ci,ci,se 20000 7,se 20001 3,sb,ci,ci,ci])],[(20000,111,Ag),(20001,130,kPt)]⟩
def Q5d:List (Ex×Sk):=[(Ex.exit 0,⟨[tf [sd 20000 0]]++dd 67,[(20000,102,[ci,ci,ci,se 20000 7,se 20001 3,sb,ci,ci,ci])],[(20000,111,Ag),(20001,130,kPt)]⟩)]
def Mk (D G I L M Hq:Fn):Lp:=AG PG (Qdk D G I L M Hq) 64 6 (AH PG 91 6) Zdc Q5d
def Qyt (D G I L M Hq:Fn) (N:Lp):Cfg:=(Qdk D G I L M Hq).loop 6 Zdc Q5d N
def Qo3 (D G I L M Hq:Fn) (N:Lp):Fn:=An PG (Qyt D G I L M Hq N) 64 91 Qnx Qf2
theorem Zjn (BX Bl Hl Fi CM Hq:Fn) (v0 v1 v2:Rw) (v3 G v5 v6 v7 v8 v9 v10 v11 v12 L M N S T:Int) (U:Bool) (V:Int) (v20:Bool) (v21 v22 X v24 v25:Int) (Y:Bool) (v27 v28 a0 v30 v31 a1 v33 a2 v35 v36:Int) (v37:Bool) (v38 a3 v40:Int):Mk BX Bl Hl Fi CM Hq [.vC Ag v0, .vC kPt v1, .vC kPt v2,I v3,I G,I v5,I v6,I v7,I v8,I v9,I v10,I v11,I v12,I L,I M,I N,I S,I T,B U,I V,B v20,I v21,I v22,I X,I v24,I v25,B Y,I v27,I v28,I a0,I v30,I v31,I a1,I v33,I a2,I v35,I v36,B v37,I v38,I a3,I v40]=
 cond (decide (G<v3)) (cond (decide (0<=G)&&decide (G<(v2.length:Int))) ((Hl [.vC Ag v0, .vC kPt v1,jA (nth [] v2 G.toNat) 0,jA (nth [] v2 G.toNat) 1,jA (nth [] v2 G.toNat) 2,I v27,I v28,I a0,I v30,I v31,I a1,I v33,I a2,I v35,I v36,B v37,I v38,I a3,I v40]).bind λD=>
 (Bl [I v5,I v6,I v7,I v8,I v9,I v10,I v11,I v12,I L,I M,I N,I S,I T,B U,I V,B v20,I v21,I v22,I X,I v24,I v25,B Y]).bind λa5=>
 cond (bA a5 0) ((BX [I v5,I v6,I v7,I v8,I v9,I v10,I v11,I v12,I L,I M,I N,I S,I T,B U,I V,B v20,I v21,I v22,I X,I v24,I v25,B Y]).bind λa4=>
 cond (gA (nth [] v2 G.toNat) 0==gA a4 0&&(gA (nth [] v2 G.toNat) 1==gA a4 1&&(gA (nth [] v2 G.toNat) 2==gA a4 2&&true))) (some (0,[.vC Ag (wA D 0), .vC kPt (wA D 1), .vC kPt v2,I v3,I (O (G+1)),I v5,I v6,I v7,I v8,I v9,I v10,I v11,I v12,I L,I M,I N,I S,I T,B U,I V,B v20,I v21,I v22,I X,I v24,I v25,B Y,I v27,I v28,I a0,I v30,I v31,I a1,I v33,jA D 2,jA D 3,jA D 4,B (bA D 5),jA D 6,jA D 7,jA D 6])) (some (0,[.vC Ag (wA D 0), .vC kPt (wA D 1), .vC kPt v2,I v3,I (O (G+1)),I v5,I v6,I v7,I v8,I v9,I v10,I v11,I v12,I L,I M,I N,I S,I T,B U,I V,B v20,I v21,I v22,I X,I v24,I v25,B Y,I v27,I v28,I a0,I v30,I v31,I a1,I v33,jA D 2,jA D 3,jA D 4,B (bA D 5),jA D 6,jA D 7,jA D 8]))) (some (0,[.vC Ag (wA D 0), .vC kPt (wA D 1), .vC kPt v2,I v3,I (O (G+1)),I v5,I v6,I v7,I v8,I v9,I v10,I v11,I v12,I L,I M,I N,I S,I T,B U,I V,B v20,I v21,I v22,I X,I v24,I v25,B Y,I v27,I v28,I a0,I v30,I v31,I a1,I v33,jA D 2,jA D 3,jA D 4,B (bA D 5),jA D 6,jA D 7,jA D 8]))) (none)) (some (1,[.vC Ag v0, .vC kPt v1,I a2,I v35,I v36,B v37,I v38,I a3,I v40])):=by kernel_rfl
abbrev Qgr (U:Fn) (T:Rw) (M V:Int) (X:Lp) (Y x1:Rw) (N:List AC) (x5 x6 x7:Int) (x8:Bool) (x9 O S:Int) (G:AC):Option (List AC):=
 (U [.vC Ae T,I M,I V]).bind λL=>
 (X (.vC Ag Y:: .vC kPt x1:: .vC kPt (wA L 0)::I (↑(wA L 0).length:Int)::I 0::(AF Ae (nth [] T M.toNat)++[I 0,I 0,I 0,I 0,I M,jA N 0,G,I x5,I x6,I x7,B x8,I x9,I O,I S]))).bind λD=>
 cond (D.1.beq 1) (some [.vC Ag (wA D.2 0), .vC kPt (wA D.2 1),B (decide ((↑(wA D.2 0).length:Int)<=1048576)),jA D.2 2,jA D.2 3,jA D.2 4,B (bA D.2 5),jA D.2 6,jA D.2 7,jA D.2 8]) (none)
theorem Yjp (BX Bl Hl S CM Hq:Fn) (T:Lp) (U V L:Rw) (G X Y x6 x7:Int) (x8:Bool) (x9 D M:Int):Qo3 BX Bl Hl S CM Hq T [.vC Ag U, .vC kPt V, .vC Ae L,I G,I X,I Y,I x6,I x7,B x8,I x9,I D,I M]=
 cond (decide (0<=G)&&decide (G<(L.length:Int))) ((Hq (AF Ae (nth [] L G.toNat)++[I D])).bind λN=>
 (CM (AF Ae (nth [] L G.toNat))).bind λa0=>
 cond (bA a0 0) (Qgr S L G X T U V N Y x6 x7 x8 x9 D M (I (mn (O (gA (nth [] L G.toNat) 14*16)) 16777216))) (Qgr S L G X T U V N Y x6 x7 x8 x9 D M (I 0))) (none):=by kernel_rfl
def Qyh:=Al (Mk Gn EV P2 Nh HL JY)
def Ks:=Qo3 Gn EV P2 Nh HL JY Qyh
theorem Q1o:Ai PG (Qdk Gn EV P2 Nh HL JY):=Ao rfl ⟨Qu7,TG,Zlu,Yfq,Q9k,Yg9,trivial⟩
theorem Yiq:Ak PG (Ygl Ks):=rw2 (C:=Qyt Gn EV P2 Nh HL JY Qyh) (fl fb Q1o) Q1o
attribute [go_sem] Z86 Qhz UX Sj Ue R5 Qdj ZD Qin Ou JS Qtv Qix Qfx YL Re UU SU SV TI Qdu RI Qag Qlj Qj5 Qgr
end Go.Bm
