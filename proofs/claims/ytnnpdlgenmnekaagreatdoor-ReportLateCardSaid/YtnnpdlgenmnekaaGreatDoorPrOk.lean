/- laid together -/
import Derived.Test.YtnnpdlgenmnekaaGreatDoorPrWb
import Derived.Test.YtnnpdlgenmnekaaGreatDoorPrLa
import Derived.Test.YtnnpdlgenmnekaaGreatDoorPrPe
import Derived.Test.YtnnpdlgenmnekaaGreatDoorPrPf
import Derived.Test.YtnnpdlgenmnekaaGreatDoorMx3
import Derived.Test.YtnnpdlgenmnekaaGreatDoorMy1
set_option linter.unusedVariables false
set_option linter.unusedSimpArgs false
set_option maxRecDepth 100000
variable {K:Go.Bm.Kf} {i:Nat} {a:Int} {p:Go.Bm.Pth} {t:Go.Bm.Trk} {M Z W S P O H G:Go.Bm.Fn} {l T:Go.Bm.Rw} {E:List Go.Bm.Evn} {N:Go.Bm.Lp} {o:List Go.Bm.AC}
noncomputable section
open Go.IntKind (wrap)
namespace Go.Bm
open Classical
structure Ga (K : Kf) (n : Int) (c : Cv) : Prop where
 way:c.way=0\/c.way=1\/c.way=2
 pass:0<=c.aK/\c.aK<=K.p.aD.length
 task:c.on=true->0<=c.idx/\c.idx<K.p.aD.length
 mo:Mo K c
 m0: -(16777216*n)<=c.m0/\c.m0<=16777216*n
theorem Ga.gd {n:Int} {c:Cv} (g:Ga K n c) (h:c.way=0):Gd K n c:=⟨h,g.pass,g.task,g.mo,g.m0⟩
theorem Gd.ga {n:Int} {c:Cv} (g:Gd K n c):Ga K n c:=⟨.inl g.way,g.pass,g.task,g.mo,g.m0⟩
def w0 (c:Cv):Cv:={c with way:=0}
theorem Ga.w0 {n:Int} {c:Cv} (g:Ga K n c):Gd K n (Go.Bm.w0 c):=⟨rfl,g.pass,g.task,g.mo,g.m0⟩
theorem Ga.up {n:Int} {c:Cv} (g:Ga K n c) (D:0<=n):Ga K (n+1) c:=⟨g.way,g.pass,g.task,g.mo,by have:=g.m0;omega⟩
def BV (K:Kf) (c:Cv) (E:List Evn):Kf×Cv:=E.foldl (λs e=>evA s e.aP e.n) (K,Jp c)
def EvE (E:List Evn):Prop:=E.length<=1000000/\∀e∈E,e.n<=1073741824
theorem Z2r (h:KOK K) (c:Cv) (n:Int):KOK (EL K c n).1:=by
 unfold EL;split
 ·exact h.sT (Q9n h c _)
 ·exact h
theorem Qub {s:Kf×Cv} (h:KOK s.1) (k n:Int):KOK (evA s k n).1:=by
 unfold evA;split
 ·exact h
 ·split
  ·exact h
  ·split
   ·exact Z2r h _ _
   ·exact h
theorem Zdw:∀(E:List Evn) {s:Kf×Cv},KOK s.1->KOK (E.foldl (λs e=>evA s e.aP e.n) s).1
 |[],_,h=>h
 |e::E,_,h=>Zdw E (Qub h e.aP e.n)
theorem RV (h:KOK K) (c:Cv) (E:List Evn):KOK (BV K c E).1:=Zdw E h
theorem Zt9 {M N D O S T MU MS U V X G:Fn} {c:Cv} (Y:EvE E) (h:KOK K)
  (hV:∀{K:Kf} (_:KOK K) (c:Cv) (x k:Int) {n:Int},n<=1073741824->G (I x::I k::I n::Ac K c)=some (Ac (evA (K,c) k n).1 (evA (K,c) k n).2)):
  Am (R_ M N D O S T MU MS U V X G) (.vC kPt (E.map evR)::I (E.map evR).length::I 0::(Ew++Ac K (Jp c)))=some (1,Ew++Ac (BV K c E).1 (BV K c E).2):=by
 have key:Out (λo=>o=(1,Ew++Ac (BV K c E).1 (BV K c E).2)) (Am (R_ M N D O S T MU MS U V X G) (.vC kPt (E.map evR)::I (E.map evR).length::I ((0:Nat):Int)::(Ew++Ac (BV K c (E.take 0)).1 (BV K c (E.take 0)).2))):=by
  refine CJ (λi:Nat=> .vC kPt (E.map evR)::I (E.map evR).length::I (i:Int)::(Ew++Ac (BV K c (E.take i)).1 (BV K c (E.take i)).2)) (λi=>i<=E.length) (λi=>E.length-i) _ ?_ 0 (by simp);intro i L;have hl:=Y.1;refine Out.eqv (Zsf M N D O S T MU MS U V X G (E.map evR) (E.map evR).length i [] [] 0 0 0 0 0 0 0 (BV K c (E.take i)).1 (BV K c (E.take i)).2) ?_;refine .cond (λk=> ?_) λk=> ?_
  ·have k:(i:Int)<((E.map evR).length:Int):=Bl k;have L:i<E.length:=by rw[ag]at k;omega
   refine .cond (λ_=> ?_) λe=>(inB (by omega) k e).elim;rw[Uh E L];refine .bind (p:=λo=>o=_) ⟨_,hV (RV h c (E.take i)) (BV K c (E.take i)).2 E[i].cycle E[i].aP (Y.2 _ (cd L)),rfl⟩ λo e=> ?_;subst e;have e1:BV K c (E.take (i+1))=evA (BV K c (E.take i)) E[i].aP E[i].n:=by
    unfold BV;rw[j5,am L,List.foldl_append];rfl
   rw[Ae (x:=(i:Int)+1)];refine .some (.inl ⟨rfl,i+1,?_,by omega,by omega⟩);rw[e1];have st:∀(K:Kf) (d:Cv),Ew++cR 0 (Ac K d)=Ew++Ac K d:=λ_ _=>rfl;exact ii (λz=>AC.vC kPt (E.map evR)::I (E.map evR).length::I ((i:Int)+1)::z) (st (evA (BV K c (E.take i)) E[i].aP E[i].n).1 (evA (BV K c (E.take i)) E[i].aP E[i].n).2)
  ·have k: ¬(i:Int)<((E.map evR).length:Int):=Bs k;rw[ag]at k;rw[f9 (by omega)];generalize BV K c E=d;exact .some (.inr ⟨by simp,rfl⟩)
 obtain⟨o,h1,rfl⟩:=key;exact h1
def tdC (c:Cv):Cv:={zM c with aL:=true,way:=if c.way=1 then 2 else 0,o2:=if c.way=1 then c.o2 else true}
def toC (K:Kf) (c:Cv):Int:=if c.way=2 then K.len else c.home
def DI (K:Kf) (c:Cv):Kf×Cv:=
 if c.aM=true/\c.m0=V (K.t.length*256)then(if FT K c=true then(sT K (Fu K c (toC K c)),tdC c)else(K,c))else(K,Dx K c K.t.length)
def Iv (c:Cv):Int:=if c.way=2 then 5 else 4
theorem Zuz {c:Cv} {m:AC} (D:M (pxt K.p K.x K.t [I c.m0,I c.m1,I c.m2,I c.m3,I c.m4,I c.m5,I a])=some (JZ K c a)):
  Qe M K c m (I a)=some (if FT K c=true then m::B true::Ac (sT K (Fu K c a)) (tdC c)else m::B true::Ac K c):=by
 unfold JZ at D;cases hb:FT K c
 ·rw[hb,ab (by simp)]at D;rw[ab (by simp)];exact eB D (eT rfl rfl)
 ·rw[hb,aa rfl]at D;rw[aa rfl];generalize Fu K c a=t at*;refine eB D (eF rfl ?_);unfold tdC;refine eC (λe=> ?_) λe=> ?_
  ·have e:c.way=1:=eq_of_beq e;rw[aa e,aa e];exact(show _=_ from by kernel_rfl)
  ·have e:c.way≠1:=by simpa using e
   rw[ab e,ab e];exact(show _=_ from by kernel_rfl)
theorem Zx5 {c:Cv} (D:c.way≠0) (G:Z (nxL K c K.t.length)=some (Ec c.m0 c.m1 c.m3 c.m4 (nxV K c K.t.length)))
  (L:∀to,M (pxt K.p K.x K.t [I c.m0,I c.m1,I c.m2,I c.m3,I c.m4,I c.m5,I to])=some (JZ K c to)):
  SL M Z (Ac K c)=some (I (Iv c)::B true::Ac (DI K c).1 (DI K c).2):=by
 rw[Qz6];refine eF (beF D) ?_;have key:∀m:AC,Uf c Z K M m=some (m::B true::Ac (DI K c).1 (DI K c).2):=by
  intro m;unfold DI;have plan: ¬(c.aM=true/\c.m0=V (K.t.length*256))->((Z (nxL K c K.t.length)).bind λo8=>some (m::B true::Ac K {c with m0:=gA o8 0,m1:=gA o8 1,m2:=gA o8 2,m3:=gA o8 3,m4:=gA o8 4,m5:=gA o8 5}))=some (m::B true::Ac (if c.aM=true/\c.m0=V (K.t.length*256)then(if FT K c=true then(sT K (Fu K c (toC K c)),tdC c)else(K,c))else(K,Dx K c K.t.length)).1 (if c.aM=true/\c.m0=V (K.t.length*256)then(if FT K c=true then(sT K (Fu K c (toC K c)),tdC c)else(K,c))else(K,Dx K c K.t.length)).2):=λN=>by
   rw[ab N];unfold Dx;generalize nxV K c K.t.length=v at*;exact eB G rfl
  have turn:(c.aM=true/\c.m0=V (K.t.length*256))->∀to,to=toC K c->Qe M K c m (I to)=some (m::B true::Ac (if c.aM=true/\c.m0=V (K.t.length*256)then(if FT K c=true then(sT K (Fu K c (toC K c)),tdC c)else(K,c))else(K,Dx K c K.t.length)).1 (if c.aM=true/\c.m0=V (K.t.length*256)then(if FT K c=true then(sT K (Fu K c (toC K c)),tdC c)else(K,c))else(K,Dx K c K.t.length)).2):=λO to S=>by
   rw[aa O,<-S,Zuz (L to)];split<;>rfl
  refine eC (λe=> ?_) λe=>eC (λe2=> ?_) λe2=>eC (λe3=> ?_) λe3=> ?_
  ·have e:c.aM=false:=by simpa using e
   exact plan λq=>by rw[e]at q;cases q.1
  ·have e2:c.m0≠V (K.t.length*256):=λq=>by rw[bnF q]at e2;cases e2
   exact plan λq=>e2 q.2
  ·have e:c.aM=true:=by simpa using e
   have e2:c.m0=V (K.t.length*256):=iw λq=>by rw[bnT q]at e2;cases e2
   exact turn ⟨e,e2⟩ K.len (by unfold toC;rw[aa (show c.way=2 from eq_of_beq e3)])
  ·have e:c.aM=true:=by simpa using e
   have e2:c.m0=V (K.t.length*256):=iw λq=>by rw[bnT q]at e2;cases e2
   exact turn ⟨e,e2⟩ c.home (by unfold toC;rw[ab (show¬c.way=2 by simpa using e3)])
 unfold Iv;refine eC (λe=> ?_) λe=> ?_
 ·rw[aa (show c.way=2 from eq_of_beq e)];exact key _
 ·rw[ab (show¬c.way=2 by simpa using e)];exact key _
theorem Zgn (h:KOK K) {n:Int} {c:Cv} (g:Ga K n c) (D:c.way≠0):IX (Ac K c)=some (I (Iv c)::B true::Ac (DI K c).1 (DI K c).2):=
 Zx5 D (Qlo h g.w0 K.t.length).1 (Zbg h c)
def Ci (K:Kf) (c:Cv):Int×Kf×Cv:=if(B2 K c).1≠0 then((B2 K c).1,K,(B2 K c).2)else if c.way≠0 then(Iv c,DI K c)else(0,K,c)
theorem Zxg {N3:Lp} {ME MR D G L M MU MS MN MX MT MV:Fn} {c:Cv} (frm:Int)
  (hU:MU (Ac K c)=some (if c.g0=2 then I 6::B true::Ac K (stand c)else I 0::B false::Ac K c))
  (hO:M (Ac K c)=some (I c.aI::B (c.aI !=0)::Ac K c))
  (hP:L (Ac K c)=some (if c.aH=true/\c.aM=true then I 8::B true::Ac K {c with aI:=8}else I 0::B false::Ac K c))
  (hB:G (Ac K c)=some (if c.on=true then I (CE K c).1::B true::Ac K (CE K c).2 else I 0::B false::Ac K c))
  (hG:D (Ac K c)=some (if c.way≠0 then I (Iv c)::B true::Ac (DI K c).1 (DI K c).2 else I 0::B false::Ac K c)):
  Am (Ig ME MR D G L M MU MS MN MX MT MV N3) (Fq K frm 0 c)=some (1,SR (Ci K c).2.1 frm (Ci K c).1 (Ci K c).2.2):=by
 have w:∀i:Int,0<=i->i<5->V (i+1)=i+1:=λi _ _=>Ae;have e:=λi=>Z3t ME MR D G L M MU MS MN MX MT MV N3 frm 5 i [] [] 0 0 0 0 0 0 0 [] [] 0 0 0 0 0 0 0 K c;have s0:c.g0≠2->Ig ME MR D G L M MU MS MN MX MT MV N3 (Fq K frm 0 c)=some (0,Fq K frm 1 c):=λh=>by
  refine db (e 0) (eT rfl (eT rfl (eB hU ?_)));rw[ab h];rfl
 have s1:c.aI=0->Ig ME MR D G L M MU MS MN MX MT MV N3 (Fq K frm 1 c)=some (0,Fq K frm 2 c):=λh=>by
  refine db (e 1) (eT rfl (eF rfl (eT rfl (eB hO ?_))));rw[h];rfl
 have s2: ¬(c.aH=true/\c.aM=true)->Ig ME MR D G L M MU MS MN MX MT MV N3 (Fq K frm 2 c)=some (0,Fq K frm 3 c):=λh=>by
  refine db (e 2) (eT rfl (eF rfl (eF rfl (eT rfl (eB hP ?_)))));rw[ab h];rfl
 have s3:c.on=false->Ig ME MR D G L M MU MS MN MX MT MV N3 (Fq K frm 3 c)=some (0,Fq K frm 4 c):=λh=>by
  refine db (e 3) (eT rfl (eF rfl (eF rfl (eF rfl (eT rfl (eB hB ?_))))));rw[ab (by rw[h];simp)];rfl
 have s4: ¬c.way≠0->Ig ME MR D G L M MU MS MN MX MT MV N3 (Fq K frm 4 c)=some (0,Fq K frm 5 c):=λh=>by
  refine db (e 4) (eT rfl (eF rfl (eF rfl (eF rfl (eF rfl (eT rfl (eB hG ?_)))))));rw[ab h];rfl
 have Y:c.way≠0->Ig ME MR D G L M MU MS MN MX MT MV N3 (Fq K frm 4 c)=some (1,SR (DI K c).1 frm (Iv c) (DI K c).2):=λh=>by
  refine db (e 4) (eT rfl (eF rfl (eF rfl (eF rfl (eF rfl (eT rfl (eB hG ?_)))))));rw[aa h];generalize DI K c=z;generalize Iv c=mm;rfl
 have s5:Ig ME MR D G L M MU MS MN MX MT MV N3 (Fq K frm 5 c)=some (1,SR K frm 0 c):=by
  exact db (e 5) (eF rfl rfl)
 have T:∀x:Int×Cv,x.1≠0->B2 K c=x->Ci K c=(x.1,K,x.2):=λx hx e=>by unfold Ci;rw[e,aa hx]
 by_cases h:c.g0=2
 ·have N:B2 K c=(6,stand c):=by unfold B2;rw[aa h]
  rw[T _ (show(6:Int)≠0 by decide) N];refine AQ (db (e 0) (eT rfl (eT rfl (eB hU ?_)))) (by simp);rw[aa h];rfl
 rw[A5 (s0 h)];by_cases O:c.aI=0
 ·rw[A5 (s1 O)];by_cases S:c.aH=true/\c.aM=true
  ·have N:B2 K c=(8,{c with aI:=8}):=by unfold B2;rw[ab h,ab (by simpa using O),aa S]
   rw[T _ (show(8:Int)≠0 by decide) N];refine AQ (db (e 2) (eT rfl (eF rfl (eF rfl (eT rfl (eB hP ?_)))))) (by simp);rw[aa S];rfl
  ·rw[A5 (s2 S)];cases U:c.on
   ·have N:B2 K c=(0,c):=by unfold B2;rw[ab h,ab (by simpa using O),ab S,ab (by rw[U];simp)]
    rw[A5 (s3 U)];unfold Ci;rw[N,ab (by simp)];by_cases X:c.way≠0
    ·rw[aa X];exact AQ (Y X) (by simp)
    ·rw[ab X,A5 (s4 X)];exact AQ s5 (by simp)
   ·have N:B2 K c=CE K c:=by unfold B2;rw[ab h,ab (by simpa using O),ab S,aa U]
    rw[T _ (Zat K c) N];refine AQ (db (e 3) (eT rfl (eF rfl (eF rfl (eF rfl (eT rfl (eB hB ?_))))))) (by simp);rw[aa U];generalize CE K c=wk;rfl
 ·have N:B2 K c=(c.aI,c):=by unfold B2;rw[ab h,aa O]
  rw[T _ O N];refine AQ (db (e 1) (eT rfl (eF rfl (eT rfl (eB hO ?_))))) (by simp);rw[bnT O];rfl
def HX (K:Kf) (c:Cv) (s:Int):List Int×Cv:=if c.way=0 then CU K c s else([],c)
def QO (K:Kf) (c:Cv) (frm:Int):Rw:=if c.aL=true then []else RD K frm (AZ c)
theorem Zwf {MM MP MB MO MU:Fn} {c:Cv} {frm mode:Int}
  (O:MU (Ac K c)=some [I (AZ c)]) (S:MO (Ac K c)=some [I (A_ K c)]) (hB:Out (λo=>wA o 0=RD K frm (AZ c)) (MB (pxt K.p K.x K.t [I frm,I (AZ c)])))
  (L:∀s,MP (I s::Ac K c)=some (.vC Aa ((CU K c s).1.map As)::Ac K (CU K c s).2)) (T:∀s,∃n q:Int,(CU K c s).2={c with aK:=n,outs:=q}) (G:∀u,MM (pxt K.p K.x K.t [I u])=some (ptR (Hj K.p K.x K.t u))):
  Wy MM MP MB MO MU (I frm::(Ac K c++[.vC kPt [], .vC Aa [],I mode,I 0,I 0,I 0,I 0,I 0,I 0]))=
   some (Ac K (HX K c (A_ K c)).2++P9 (QO K c frm) ((HX K c (A_ K c)).1.map As) mode (A_ K c) (S9 K c) c.s3 c.g1):=by
 refine db (Z1l MM MP MB MO MU frm [] [] mode 0 0 0 0 0 0 K c) ?_;refine eB O (eB S ?_);have key:∀(l:Rw) (M D:List AC),gA M 0=AZ c->gA D 0=A_ K c->RZ c MP D K MM M mode [] (.vC kPt l)=some (Ac K (HX K c (A_ K c)).2++P9 l ((HX K c (A_ K c)).1.map As) mode (A_ K c) (S9 K c) c.s3 c.g1):=by
  intro l M D U N;unfold RZ HX;simp only[jA,U,N];have L:=L (A_ K c);obtain⟨n,q,V⟩:=T (A_ K c);have G:=G (AZ c);rw[show S9 K c=Hj K.p K.x K.t (AZ c)from rfl];generalize Hj K.p K.x K.t (AZ c)=mt at*;generalize A_ K c=s at*;refine eC (λe=> ?_) λe=> ?_
  ·rw[aa (show c.way=0 from eq_of_beq e)];generalize CU K c s=ps at*;refine eB L ?_;rw[V];exact eB G rfl
  ·rw[ab (show¬c.way=0 by simpa using e)];exact eB G rfl
 unfold QO;refine eC (λe=> ?_) λe=> ?_
 ·have e:c.aL=false:=by simpa using e
  rw[ab (by rw[e];simp)];obtain⟨o,hB,X⟩:=hB;rw[<-X];exact eB hB (key _ _ _ rfl rfl)
 ·have e:c.aL=true:=by simpa using e
  rw[aa e];exact key _ _ _ rfl rfl
def BB (K:Kf) (c:Cv) (E:List Evn):Kf×Cv:=((BV K c E).1,Jq (GV (BV K c E).1 (Cc (Gg (BV K c E).2))))
def stA (K:Kf) (c:Cv) (E:List Evn):Int×Kf×Cv:=
 if(Ci (BB K c E).1 (BB K c E).2).1=0 then((Gi (BB K c E).1 (Ci (BB K c E).1 (BB K c E).2).2.2).1,(BB K c E).1,(Gi (BB K c E).1 (Ci (BB K c E).1 (BB K c E).2).2.2).2)else Ci (BB K c E).1 (BB K c E).2
def EJ (K:Kf) (c:Cv) (E:List Evn):Kf×Cv:=((stA K c E).2.1,(HX (stA K c E).2.1 (stA K c E).2.2 (A_ (stA K c E).2.1 (stA K c E).2.2)).2)
def tkA (K:Kf) (c:Cv) (E:List Evn):List AC:=
 P9 (QO (stA K c E).2.1 (stA K c E).2.2 (AZ (BV K c E).2)) ((HX (stA K c E).2.1 (stA K c E).2.2 (A_ (stA K c E).2.1 (stA K c E).2.2)).1.map As) (stA K c E).1 (A_ (stA K c E).2.1 (stA K c E).2.2) (S9 (stA K c E).2.1 (stA K c E).2.2) (stA K c E).2.2.s3 (stA K c E).2.2.g1
theorem Zjw {d:Cv} {o:Nat×List AC} (G:∃e,o.2=Ew++Ac K e) {m:Int} {K2:Kf} {d2:Cv}
  (O:N (Fq K a 0 d)=some (1,SR K2 a m d2)) {w s:Int×Cv} (V:m=0->M (Ac K2 d2)=some (I w.1::Ac K2 w.2)) (L:s=if m=0 then w else(m,d2))
  {D outs:Rw} {pos S T:Int} {mt:Pt} {q:Cv}
  (U:Z (I a::(Ac K2 s.2++[.vC kPt [], .vC Aa [],I s.1,I 0,I 0,I 0,I 0,I 0,I 0]))=some (Ac K2 q++P9 D outs s.1 pos mt S T)):
  JS N o M Z (I a) (Ac K d)=some (P9 D outs s.1 pos mt S T++Ac K2 q):=by
 obtain⟨o1,o2⟩:=o;obtain⟨e,G⟩:=G;dsimp only at G;subst G;refine eB O (eT rfl ?_);by_cases h:m=0
 ·rw[aa h]at L;subst L;exact eT (show(m==0)=true from beT h) (eB (V h) (eB U rfl))
 ·rw[ab h]at L;subst L;exact eF (show(m==0)=false from beF h) (eB U rfl)
theorem Z5d {L M N X Y MO MU MS O S U MV:Fn} {V D:Lp} {K K2:Kf} {c d:Cv} {T:List AC}
  (h3:V (.vC kPt (E.map evR)::I (E.map evR).length::I 0::(Ew++Ac K (Jp c)))=some (1,Ew++Ac K2 d))
  (hT:∀c,U (Ac K2 c)=some [B (I4 K2 c)]) (hX:∀(c:Cv) (bH:Int),S [I c.s0,I c.s1,I c.s2,I c.s3,I bH]=some [I (spS c bH).s0,I (spS c bH).s1,I (spS c bH).s2,I (spS c bH).s3])
  (hN:∀c,O (Ac K2 c)=some [I (AZ c)]) (hS:∀c:Cv,MS [I c.m0,I c.m1,I c.m2,I c.m3,I c.m4,I c.m5]=some [B (E2 c)])
  (G:∀o:Nat×List AC,(∃e,o.2=Ew++Ac K2 e)->JS D o M L (I (AZ d)) (Ac K2 (Jq (GV K2 (Cc (Gg d)))))=some T):
  Qn7 L M N X Y MO MU MS O S U MV V D (.vC kPt (E.map evR)::Ac K c)=some T:=by
 refine db (Ztf L M N X Y MO MU MS O S U MV V D (E.map evR) K c) ?_;refine eB h3 (eT rfl ?_)
 have rest:∀b:Cv,Gg d=b->AZ b=AZ d->E2 b=E2 d->
   ((U (Ac K2 (Cc b))).bind λo => bif !bA o 0 then (S [I b.s0, I b.s1, I b.s2, I b.s3, I K2.bH]).bind λo2 => (O (Ac K2 { Cc b with s0 := gA o2 0, s1 := gA o2 1, s2 := gA o2 2, s3 := gA o2 3 })).bind λo3 => (MS [I d.m0, I d.m1, I d.m2, I d.m3, I d.m4, I d.m5]).bind λo4 => JS D (1, Ew ++ Ac K2 d) M L (jA o3 0) (Ac K2 { Cc b with s0 := gA o2 0, s1 := gA o2 1, s2 := gA o2 2, s3 := gA o2 3, aM := bA o4 0 })
    else(O (Ac K2 (Cc b))).bind λo3=>(MS [I d.m0,I d.m1,I d.m2,I d.m3,I d.m4,I d.m5]).bind λo4=>JS D (1,Ew++Ac K2 d) M L (jA o3 0) (Ac K2 {Cc b with aM:=bA o4 0}))=some T:=λb hb hu hs=>by
  have G:=G (1,Ew++Ac K2 d) ⟨d,rfl⟩;rw[hb]at G;refine eB (hT (Cc b)) ?_;cases ht:I4 K2 (Cc b)
  ·have e1:GV K2 (Cc b)=spS (Cc b) K2.bH:=by unfold GV;rw[ab (by rw[ht];simp)]
   rw[e1]at G;refine eT rfl (eB (hX b K2.bH) ?_);refine db (ii (λz=>Option.bind z _) (hN (spS (Cc b) K2.bH))) (eB rfl (eB (hS d) ?_));have e2:AZ (spS (Cc b) K2.bH)=AZ d:=hu;have e3:({spS (Cc b) K2.bH with aM:=E2 d}:Cv)=Jq (spS (Cc b) K2.bH):=by
    unfold Jq;rw[show E2 (spS (Cc b) K2.bH)=E2 b from rfl,hs]
   rw[<-e3,<-e2]at G;exact G
  ·have e1:GV K2 (Cc b)=Cc b:=by unfold GV;rw[aa ht]
   rw[e1]at G;refine eF rfl ?_;refine db (ii (λz=>Option.bind z _) (hN (Cc b))) (eB rfl (eB (hS d) ?_));have e2:AZ (Cc b)=AZ d:=hu;have e3:({Cc b with aM:=E2 d}:Cv)=Jq (Cc b):=by
    unfold Jq;rw[show E2 (Cc b)=E2 b from rfl,hs]
   rw[<-e3,<-e2]at G;exact G
 refine eC (λt=> ?_) λt=>eC (λq=> ?_) λq=> ?_
 ·have t:d.aH=true:=t;exact rest {d with o2:=true} (by unfold Gg;rw[aa (.inl t)]) rfl rfl
 ·have q:d.g0≠0:=λe=>by
   have:(d.g0 !=0)=true:=q;rw[bnF e]at this;cases this
  exact rest {d with o2:=true} (by unfold Gg;rw[aa (.inr q)]) rfl rfl
 ·have t:d.aH=false:=t;have q:d.g0=0:=iw λe=>by
   have:(d.g0 !=0)=false:=q;rw[bnT e]at this;cases this
  exact rest d (by unfold Gg;rw[ab (λw=>by rcases w with w|w;rw[t]at w;cases w;exact w q)]) rfl rfl
theorem Ga.sm {n:Int} {c d:Cv} (g:Ga K n c) (h:Sm c d):Ga K n d:=by
 refine⟨by rw[h.kp.way];exact g.way,by rw[h.kp.aK];exact g.pass,by rw[h.on,h.idx];exact g.task,?_,by rw[h.m0];exact g.m0⟩;have:=g.mo;unfold Mo at*;rw[h.m1,h.m2];exact this
theorem Ga.turn (h:KOK K) {n:Int} {c d:Cv} (g:Ga K n c) (S:0<=n) (D:d.way=0\/d.way=1\/d.way=2) (G:d.aK=c.aK) (I:d.on=c.on) (L:d.idx=c.idx) (M:d.m0=0) (N:d.m1=0) (O:d.m2=0) (t:Trk):Ga (sT K t) n d:=by
 refine⟨D,by rw[G];exact g.pass,by rw[I,L];exact g.task,?_,by rw[M];omega⟩;unfold Mo;rw[N,O];exact Vi h.plan
theorem Zy8 {n:Int} {c d:Cv} (g:Ga K n c) (h:E4 c d):Ga K n d:=by
 rcases h with rfl|⟨a,-,rfl⟩
 ·exact g
 ·exact⟨g.way,g.pass,g.task,g.mo,g.m0⟩
theorem Zr3 (h:KOK K) {n:Int} (D:0<=n) {c:Cv} (g:Ga K n c) (m:Int):Ga (EL K c m).1 n (EL K c m).2:=by
 unfold EL;by_cases hb:Ho K c m=true
 ·rw[aa hb];generalize Fu K c (Sr K c m)=t;generalize A_ K c=z;exact g.turn (d:={zM c with o2:=false,way:=1,home:=z}) h D (.inr (.inl rfl)) rfl rfl rfl rfl rfl rfl t
 ·rw[ab hb];exact g
theorem Z7j {n:Int} {c:Cv} (g:Ga K n c):Ga K n (K1 K c):=by
 have key:∀b:Bool,Ga K n {c with aH:=b}:=λb=>⟨g.way,g.pass,g.task,g.mo,g.m0⟩;exact key _
theorem Zrf {s:Kf×Cv} (h:KOK s.1) {n:Int} (L:0<=n) (g:Ga s.1 n s.2) (k m:Int) (M:m<=1073741824):Ga (evA s k m).1 n (evA s k m).2:=by
 have g1:=g.sm (Q0k s.2 k m);unfold evA;generalize evC s.2 k m=d at*;by_cases D:k=13
 ·rw[aa D];exact Zy8 g1 (Qs8 h d M).2
 ·rw[ab D];by_cases G:k=12
  ·rw[aa G];exact Z7j g1
  ·rw[ab G];by_cases I:k=7
   ·rw[aa I];exact Zr3 h L g1 m
   ·rw[ab I];exact g1
theorem Q6l {n:Int} (D:0<=n):∀(E:List Evn) {s:Kf×Cv},(∀e∈E,e.n<=1073741824)->KOK s.1->Ga s.1 n s.2->Ga (E.foldl (λs e=>evA s e.aP e.n) s).1 n (E.foldl (λs e=>evA s e.aP e.n) s).2
 |[],_,_,_,g=>g
 |e::E,_,G,h,g=>Q6l D E (λx I=>G x (by simp[I])) (Qub h e.aP e.n) (Zrf h D g e.aP e.n (G e (by simp)))
theorem XK (h:KOK K) {n:Int} (D:0<=n) {c:Cv} (g:Ga K n c) {E:List Evn} (G:EvE E):Ga (BV K c E).1 n (BV K c E).2:=
 Q6l D E G.2 (s:=(K,Jp c)) h ⟨g.way,g.pass,g.task,g.mo,g.m0⟩
theorem Zlu (K:Kf) (d:Cv):Sm d (Jq (GV K (Cc (Gg d)))):=
 (Q5h d).trans (Sm.trans (b:=Cc (Gg d)) ⟨⟨rfl,rfl,rfl,rfl⟩,rfl,rfl,rfl,rfl,rfl,rfl,rfl,rfl,rfl,rfl⟩ ((Zcu K _).trans ⟨⟨rfl,rfl,rfl,rfl⟩,rfl,rfl,rfl,rfl,rfl,rfl,rfl,rfl,rfl,rfl⟩))
theorem Zck (h:KOK K) {n:Int} (D:0<=n) {c:Cv} (g:Ga K n c) {E:List Evn} (G:EvE E):Ga (BB K c E).1 n (BB K c E).2:=(XK h D g G).sm (Zlu _ _)
end Go.Bm
namespace Go.Bm
theorem Zu8 {n:Int} {c:Cv} (g:Ga K n c):Ga K n (Jd K c).2:=by
 have done:∀d:Cv,Ga K n d->Ga K n (IE d):=λd g=>⟨g.way,g.pass,λh=>(by cases h),g.mo,g.m0⟩;have cmd:∀D G:Int,Ga K n (JV c D G):=λD G=>⟨g.way,g.pass,g.task,g.mo,g.m0⟩;unfold Jd;split
 ·split
  ·exact done c g
  ·exact g
 ·split
  ·exact done c g
  ·split
   ·split
    ·exact g
    ·exact done c g
   ·split
    ·split
     ·exact done _ (cmd _ _)
     ·exact cmd _ _
    ·split
     ·exact⟨g.way,g.pass,g.task,g.mo,g.m0⟩
     ·exact done c g
theorem Ze4 {n:Int} {c:Cv} (g:Ga K n c):Ga K n (CE K c).2:=Zu8 (K:=K) (c:=CW c) ⟨g.way,g.pass,g.task,g.mo,g.m0⟩
theorem Z99 {n:Int} {c:Cv} (h:KOK K) (g:Ga K n c) (G:0<=n/\n<=10000):Ga K n (B2 K c).2:=by
 unfold B2;split
 ·have D:=(g.w0.stand h G).1;exact⟨g.way,g.pass,g.task,D.mo,D.m0⟩
 ·split
  ·exact g
  ·split
   ·exact⟨g.way,g.pass,g.task,g.mo,g.m0⟩
   ·split
    ·exact Ze4 g
    ·exact g
theorem Zgh {n:Int} {c:Cv} (h:KOK K) (g:Ga K n c) (G:0<=n/\n<=10000) (l:Int):Ga K (n+1) (Dx K c l):=by
 have D:=Y_ h g.w0 G l;exact⟨g.way,g.pass,g.task,D.mo,D.m0⟩
theorem Z6y {n:Int} {c:Cv} (h:KOK K) (g:Ga K n c) (D:0<=n/\n<=10000):Ga (DI K c).1 (n+1) (DI K c).2:=by
 unfold DI;by_cases G:c.aM=true/\c.m0=V (K.t.length*256)
 ·rw[aa G];by_cases I:FT K c=true
  ·rw[aa I];generalize Fu K c (toC K c)=t;have M:(tdC c).way=0\/(tdC c).way=1\/(tdC c).way=2:=by
    show(if c.way=1 then(2:Int)else 0)=0\/_=1\/(if c.way=1 then(2:Int)else 0)=2;by_cases L:c.way=1
    ·rw[aa L];exact .inr (.inr rfl)
    ·rw[ab L];exact .inl rfl
   exact(g.up D.1).turn (d:=tdC c) h (by omega) M rfl rfl rfl rfl rfl rfl t
  ·rw[ab I];exact g.up D.1
 ·rw[ab G];exact Zgh h g D _
theorem Zoz (h:KOK K) (c:Cv):KOK (DI K c).1:=by
 unfold DI;split
 ·split
  ·exact h.sT (Q9n h c _)
  ·exact h
 ·exact h
theorem Z51 (h:KOK K) (c:Cv):KOK (Ci K c).2.1:=by
 unfold Ci;split
 ·exact h
 ·split
  ·exact Zoz h c
  ·exact h
theorem Yc1 {n:Int} {c:Cv} (h:KOK K) (g:Ga K n c) (D:0<=n/\n<=10000):Ga (Ci K c).2.1 (n+1) (Ci K c).2.2:=by
 unfold Ci;split
 ·exact(Z99 h g D).up D.1
 ·split
  ·exact Z6y h g D
  ·exact g.up D.1
theorem SV {c:Cv} (h:(Ci K c).1=0):c.way=0/\Ci K c=(0,K,c):=by
 unfold Ci at h⊢;by_cases D:(B2 K c).1≠0
 ·rw[aa D]at h;exact absurd h D
 ·rw[ab D]at h⊢;by_cases G:c.way≠0
  ·rw[aa G]at h;have h:Iv c=0:=h;unfold Iv at h;split at h<;>cases h
  ·rw[ab G];exact⟨by simpa using G,rfl⟩
theorem Zkk {c:Cv} {n:Int} (h:KOK K) (g:Ga K n c):LO (Ac K c)=some (if c.on=true then I (CE K c).1::B true::Ac K (CE K c).2 else I 0::B false::Ac K c):=by
 have key:∀{M:Fn},(c.on=true->M (Ac K c)=some (I (CE K c).1::Ac K (CE K c).2))->Qpb M (Ac K c)=some (if c.on=true then I (CE K c).1::B true::Ac K (CE K c).2 else I 0::B false::Ac K c):=by
  intro M D;rw[Zue];cases e:c.on
  ·rw[ab (by simp)];rfl
  ·rw[aa rfl];have D:=D e;generalize CE K c=G at*;exact eB D rfl
 exact key λe=>Qzl h (g.task e).1 (g.task e).2
theorem SQ {n:Int} {c:Cv} (g:Ga K n c) (D:0<=n/\n<=10010): -300000000000<=AZ c/\AZ c<=300000000000:=Zlp (c:=w0 c) g.w0 D
theorem Qqg (h:KOK K) (c:Cv) (E:List Evn):KOK (stA K c E).2.1:=by
 have D:KOK (BB K c E).1:=RV h c E;unfold stA;split
 ·exact D
 ·exact Z51 D _
theorem Qg8 {n:Int} {c:Cv} (h:KOK K) (g:Ga K n c) (D:0<=n/\n<=10000) {E:List Evn} (M:EvE E):Ga (stA K c E).2.1 (n+1) (stA K c E).2.2:=by
 have I:KOK (BB K c E).1:=RV h c E;have L:=Zck h D.1 g M;unfold stA;by_cases G:(Ci (BB K c E).1 (BB K c E).2).1=0
 ·rw[aa G];obtain⟨N,e⟩:=SV G;rw[e];exact(Zyp I (L.gd N) D).1.ga
 ·rw[ab G];exact Yc1 I L D
theorem Zhr {n:Int} {c:Cv} (g:Ga K n c) (G:0<=n) (s:Int):Ga K n (HX K c s).2:=by
 unfold HX;by_cases D:c.way=0
 ·rw[aa D];have hb:=Z3 K s (K.p.aD.drop c.aK.toNat) c;rw[dk]at hb;have hb:c.aK<=(CU K c s).2.aK/\(CU K c s).2.aK<=c.aK+((K.p.aD.length-c.aK.toNat:Nat):Int):=hb;obtain⟨m,q,e⟩:=Q9p K c s;rw[e]at hb⊢;have I:=g.pass;exact⟨g.way,by dsimp only at hb⊢;omega,g.task,g.mo,g.m0⟩
 ·rw[ab D];exact g
theorem Q1n {n:Int} {c:Cv} (h:KOK K) (g:Ga K n c) (D:0<=n/\n<=10000) {E:List Evn} (G:EvE E):Ga (EJ K c E).1 (n+1) (EJ K c E).2:=Zhr (Qg8 h g D G) (by omega) _
theorem Q1f (h:KOK K) (c:Cv) (E:List Evn):KOK (EJ K c E).1:=Qqg h c E
theorem Yec (h:KOK K) {n:Int} {c:Cv} (g:Ga K n c):IX (Ac K c)=some (if c.way≠0 then I (Iv c)::B true::Ac (DI K c).1 (DI K c).2 else I 0::B false::Ac K c):=by
 by_cases D:c.way≠0
 ·rw[aa D];exact Zgn h g D
 ·rw[ab D];exact Zvj (by simpa using D)
theorem Zgw {c:Cv} {n:Int} (h:KOK K) (g:Ga K n c) (G:0<=n/\n<=10000) {E:List Evn} (I:EvE E):
  Ke (.vC kPt (E.map evR)::Ac K c)=some (tkA K c E++Ac (EJ K c E).1 (EJ K c E).2):=by
 have N:KOK (BB K c E).1:=RV h c E;have O:=Zck h G.1 g I;have T:=XK h G.1 g I;have S:=Qg8 h g G I;have L:=Qqg h c E;have hf:=SQ T (by omega);have X:=SQ S (by omega);refine Z5d (K2:=(BV K c E).1) (d:=(BV K c E).2) (Zt9 I h (fun{K} M c x k {n} G=>Z0y M c x k G)) (Z1x (RV h c E)) Z29 (PY _) Q7h λo U=> ?_;have V:=Zxg (ME:=Mv) (MR:=J6) (MS:=HF) (MN:=CZ) (MX:=Ka) (MT:=K3) (MV:=Je) (N3:=S4) (K:=(BB K c E).1) (c:=(BB K c E).2) (AZ (BV K c E).2) (Zvr _ _) (Zkc _ _) (Zsg _ _) (Zkk N O) (Yec N O);have he:=Zwf (MM:=DV) (MP:=Ni) (MB:=I1) (MO:=C0) (MU:=CZ) (K:=(stA K c E).2.1) (c:=(stA K c E).2.2) (frm:=AZ (BV K c E).2) (mode:=(stA K c E).1) (PY _ _) (Pb L _) (Z4o L _ _ (by omega)) (λs=>Zo4 L S.pass s) (Q9p _ _) (Qi L.f);have M:(Ci (BB K c E).1 (BB K c E).2).2.1=(stA K c E).2.1:=by
  unfold stA;by_cases D:(Ci (BB K c E).1 (BB K c E).2).1=0
  ·rw[aa D,(SV D).2]
  ·rw[ab D]
 refine Zjw (w:=Gi (BB K c E).1 (Ci (BB K c E).1 (BB K c E).2).2.2) (s:=((stA K c E).1,(stA K c E).2.2)) (K2:=(stA K c E).2.1) (d2:=(Ci (BB K c E).1 (BB K c E).2).2.2) (m:=(Ci (BB K c E).1 (BB K c E).2).1) U ?_ ?_ ?_ he
 ·rw[<-M];exact V
 ·intro D;rw[<-M,(SV D).2];exact Yaa N (O.gd (SV D).1) G
 ·unfold stA;by_cases D:(Ci (BB K c E).1 (BB K c E).2).1=0
  ·rw[aa D,aa D]
  ·rw[ab D,ab D]
end Go.Bm
namespace Go.Bm
open Classical
end Go.Bm
namespace Go.Bm
end Go.Bm
namespace Go.Bm
open Classical
end Go.Bm
namespace Go.Bm
def RR (w v:Pt) (u:Int):Rw:=
 (bif v.x !=w.x then [[I u,I 0,I (V (v.x-w.x))]]else [])++((bif v.y !=w.y then [[I u,I 1,I (V (v.y-w.y))]]else [])++(bif v.z !=w.z then [[I u,I 2,I (V (v.z-w.z))]]else []))
def Fc (M:Int->Pt) (f:Int):Nat->Rw
 |0=>[]
 |n+1=>Fc M f n++RR (M (f+n)) (M (f+n+1)) (f+n+1)
theorem Z2z (w v:Pt) (u:Int):(RR w v u).length<=3:=by
 unfold RR;cases(v.x !=w.x)<;>cases(v.y !=w.y)<;>cases(v.z !=w.z)<;>simp
theorem Qbd (M:Int->Pt) (f:Int):∀n:Nat,(Fc M f n).length<=3*n
 |0=>by simp[Fc]
 |n+1=>by
  have D:=Qbd M f n;have G:=Z2z (M (f+n)) (M (f+n+1)) (f+n+1);simp only[Fc,ap];omega
def clp (t:Trk) (u:Int):Int:=mx 0 (mn u t.length)
theorem S7 (D:0<=t.length) (u:Int):0<=clp t u/\clp t u<=t.length:=by
 unfold clp mx mn
 (repeat' split)<;>omega
theorem Q5y (D:0<=t.length) {u v:Int} (h:u<=v):clp t u<=clp t v/\clp t v-clp t u<=v-u:=by
 unfold clp mx mn
 (repeat' split)<;>omega
def P3 (M:Int->Pt) (t:Trk) (a b:Int):Rw:=Fc M (clp t a) (clp t b-clp t a).toNat
theorem Z6z {P:Int->Pt} {x:Ax3} (U:∀u,M (pxt p x t [I u])=some (ptR (P u))) (T:0<=t.length/\t.length<=900000000000000) (a b:Int) (Y:b-a<=1000000000000):
  SE M (Am (RI M)) (pxt p x t [I a,I b])=some [.vC kPt (P3 P t a b)]:=by
 rw[Q1r];have hf:=S7 T.1 a;have he:=S7 T.1 b;have Y:clp t b-clp t a<=1000000000000:=by
  by_cases h:a<=b
  ·have:=Q5y T.1 h;omega
  ·have:=Q5y (u:=b) (v:=a) T.1 (by omega);omega
 unfold P3;unfold clp at*;generalize mx 0 (mn a t.length)=f at*;generalize mx 0 (mn b t.length)=e at*;refine eB (U f) ?_;have key:Out (λo=>o=(1,[.vC kPt (Fc P f (e-f).toNat)])) (Am (RI M) (.vC kPt (Fc P f 0)::I e::I (f+((0:Nat):Int))::pxt p x t [I (P (f+((0:Nat):Int))).x,I (P (f+((0:Nat):Int))).y,I (P (f+((0:Nat):Int))).z])):=by
  refine CJ (λn:Nat=> .vC kPt (Fc P f n)::I e::I (f+n)::pxt p x t [I (P (f+n)).x,I (P (f+n)).y,I (P (f+n)).z]) (λn=>n<=(e-f).toNat) (λn=>(e-f).toNat-n) _ ?_ 0 (by omega);intro n hn;rw[Zdo];try dsimp only[L7]
  refine .cond (λc=> ?_) (λc=> ?_)
  ·have c:=Bl c;rw[Ae (x:=f+(n:Int)+1)];refine .bind (p:=λo=>o=_) ⟨_,U (f+(n:Int)+1),rfl⟩ λo e=> ?_;subst e;have e1:V (0+1)=1:=Ae;have e2:V (1+1)=2:=Ae;rw[e1,e2];have hl:=Qbd P f n;have N:Fc P f (n+1)=Fc P f n++RR (P (f+n)) (P (f+n+1)) (f+n+1):=rfl;have hu:f+((n+1:Nat):Int)=f+n+1:=by omega
   unfold RR at N;show Out _ (bif(P (f+(n:Int)+1)).x !=(P (f+n)).x then _ else _);generalize Fc P f n=v at*;have fin:∀{y:List AC},y= .vC kPt (Fc P f (n+1))::I e::I (f+n+1)::pxt p x t [I (P (f+n+1)).x,I (P (f+n+1)).y,I (P (f+n+1)).z]->Out (λo:Nat×List AC=>(o.1=0/\∃S:Nat,o.2= .vC kPt (Fc P f S)::I e::I (f+S)::pxt p x t [I (P (f+S)).x,I (P (f+S)).y,I (P (f+S)).z]/\S<=(e-f).toNat/\(e-f).toNat-S<(e-f).toNat-n)\/(o.1≠0/\o=(1,[.vC kPt (Fc P f (e-f).toNat)]))) (some (0,y)):=λhy=>by
    subst hy;exact .some (.inl ⟨rfl,n+1,by rw[hu],by omega,by omega⟩)
   have L:∀{y:Rw},y.length<=v.length+3->(y.length*24).ble 140737488355328=true:=λh=>B_ (by omega);generalize Fc P f (n+1)=z at*;generalize P (f+(n:Int)+1)=q at*;generalize P (f+(n:Int))=w at*;refine .cond (λO=> ?_) λO=> ?_
   ·refine .cond (λ_=> ?_) λc=>by rw[L (by simp)]at c;cases c
    refine .cond (λG=> ?_) λG=> ?_
    ·have G:(q.y !=w.y)=true:=G;refine .cond (λ_=> ?_) λc=>by rw[L (by simp)]at c;cases c
     refine .cond (λD=> ?_) λD=> ?_
     ·have D:(q.z !=w.z)=true:=D;refine .cond (λ_=>fin ?_) λc=>by rw[L (by simp)]at c;cases c
      rw[N,O,G,D];simp[ptR,gA,nth,Af]
     ·have D:(q.z !=w.z)=false:=D;refine fin ?_;rw[N,O,G,D];simp[ptR,gA,nth,Af]
    ·have G:(q.y !=w.y)=false:=G;refine .cond (λD=> ?_) λD=> ?_
     ·have D:(q.z !=w.z)=true:=D;refine .cond (λ_=>fin ?_) λc=>by rw[L (by simp)]at c;cases c
      rw[N,O,G,D];simp[ptR,gA,nth,Af]
     ·have D:(q.z !=w.z)=false:=D;refine fin ?_;rw[N,O,G,D];simp[ptR,gA,nth,Af]
   ·refine .cond (λG=> ?_) λG=> ?_
    ·have G:(q.y !=w.y)=true:=G;refine .cond (λ_=> ?_) λc=>by rw[L (by simp)]at c;cases c
     refine .cond (λD=> ?_) λD=> ?_
     ·have D:(q.z !=w.z)=true:=D;refine .cond (λ_=>fin ?_) λc=>by rw[L (by simp)]at c;cases c
      rw[N,O,G,D];simp[ptR,gA,nth,Af]
     ·have D:(q.z !=w.z)=false:=D;refine fin ?_;rw[N,O,G,D];simp[ptR,gA,nth,Af]
    ·have G:(q.y !=w.y)=false:=G;refine .cond (λD=> ?_) λD=> ?_
     ·have D:(q.z !=w.z)=true:=D;refine .cond (λ_=>fin ?_) λc=>by rw[L (by simp)]at c;cases c
      rw[N,O,G,D];simp[ptR,gA,nth,Af]
     ·have D:(q.z !=w.z)=false:=D;refine fin ?_;rw[N,O,G,D];simp[ptR,gA,nth,Af]
  ·have c:=Bs c;have e1:n=(e-f).toNat:=by omega
   rw[<-e1];exact .some (.inr ⟨by simp,rfl⟩)
 obtain⟨o,X,rfl⟩:=key;rw[show f+((0:Nat):Int)=f by omega]at X;exact eB X rfl
theorem Ybc {x:Ax3} (h:Fix p x t) (a b:Int) (D:b-a<=1000000000000):I1 (pxt p x t [I a,I b])=some [.vC kPt (P3 (Hj p x t) t a b)]:=
 Z6z (Qi h) h.t.q.len a b D
theorem Z68 (h:KOK K) {a b:Int} (D:b-a<=1000000000000):RD K a b=P3 (Hj K.p K.x K.t) K.t a b:=by
 unfold RD;rw[Ybc h.f a b D];rfl
end Go.Bm
namespace Go.Bm
open Classical
end Go.Bm
namespace Go.Bm
end Go.Bm
namespace Go.Bm
open Classical
end Go.Bm
namespace Go.Bm
def OM (m:Int):Bool:=m==7||m==8
def Fk (E:List Evn):Nat->Nat->Kf->Cv->Rw
 |0,_,_,_=>[]
 |n+1,k,K,c=>tkA K c (atE E k)::if OM (stA K c (atE E k)).1=true then []else Fk E n (k+1) (EJ K c (atE E k)).1 (EJ K c (atE E k)).2
theorem Q8r (E:List Evn):∀(n k:Nat) (K:Kf) (c:Cv),(Fk E n k K c).length<=n
 |0,_,_,_=>cm _
 |n+1,k,K,c=>by
  have:=Q8r E n (k+1) (EJ K c (atE E k)).1 (EJ K c (atE E k)).2;unfold Fk;split
  ·simp
  ·simpa using this
theorem Qy9 {E F:List Evn}:∀(n m k:Nat) (K:Kf) (c:Cv),n<=m->(∀j,k<=j->j<k+n->atE E j=atE F j)->∃l,Fk F m k K c=Fk E n k K c++l
 |0,m,k,K,c,_,_=>⟨_,rfl⟩
 |n+1,0,_,_,_,h,_=>by omega
 |n+1,m+1,k,K,c,h,D=>by
  have e:=D k (cm _) (by omega);unfold Fk;rw[e];split
  ·exact⟨[],rfl⟩
  ·obtain⟨l,G⟩:=Qy9 n m (k+1) (EJ K c (atE F k)).1 (EJ K c (atE F k)).2 (by omega) λj I L=>D j (by omega) (by omega);exact⟨l,by rw[G];rfl⟩
abbrev tV (l:Rw):AC:= .vC [Kd.sl kPt,Kd.sl Aa,kI,kI,kI,kI,kI,kI,kI] l
theorem Zq5 (D:E.length<=1000000) (k:Int):Ph [.vC kPt (E.map evR),I k]=some [.vC kPt ((atE E k).map evR)]:=by
 have G:Am U0 [.vC kPt [],I k, .vC kPt (E.map evR),I E.length,I ((0:Nat):Int)]=some (1,[.vC kPt ((E.filter λe=>e.cycle==k).map evR)]):=by
  refine Zo1 (P:=λe=>e.cycle==k) D (enc:=λl i=>[.vC kPt l,I k, .vC kPt (E.map evR),I E.length,I (i:Int)]) λl i M L=> ?_;rw[Zlf];by_cases h:i<E.length
  ·rw[jl h,BG (by simp;omega),BG (by simp;omega),Uh E h,Ae (x:=(i:Int)+1)];by_cases c:(E[i].cycle==k)=true
   ·rw[BG (show(gA (evR E[i]) 0==k)=true from c),B_ (by simp;omega),aa c];rfl
   ·rw[Bj (show(gA (evR E[i]) 0==k)=false from Bool.eq_false_iff.2 c),ab c,gw];rfl
  ·rw[dif_neg h,Bj (by simp;omega)]
 show Qst (Am U0) [.vC kPt (E.map evR),I k]=_;rw[Yb7,ag];rw[show(0:Int)=((0:Nat):Int)from rfl,G];rfl
def VE:Int->List Evn->Prop
 |_,[]=>True
 |p,e::l=>(p<=e.cycle/\e.cycle<=1073741824/\1<=e.aP/\e.aP<=13/\ -1073741824<=e.n/\e.n<=1073741824)/\VE e.cycle l
theorem Qxo {E:List Evn} (L:E.length<=2000):∀(m i:Nat) (p:Int),i+m=E.length->VE p (E.drop i)->Am Ng [I p, .vC kPt (E.map evR),I E.length,I (i:Int)]=some (2,[])
 |0,i,p,h,_=>by
  have e:Ng [I p, .vC kPt (E.map evR),I E.length,I (i:Int)]=some (2,[]):=by
   rw[Zc2];exact eF (aj (by omega)) rfl
  exact AQ e (by simp)
 |m+1,i,p,h,D=>by
  have G:i<E.length:=by omega
  rw[gn G]at D;obtain⟨⟨M,N,O,S,T,U⟩,D⟩:=D;have e:Ng [I p, .vC kPt (E.map evR),I E.length,I (i:Int)]=some (0,[I E[i].cycle, .vC kPt (E.map evR),I E.length,I ((i+1:Nat):Int)]):=by
   rw[Zc2];refine eT (ai (by omega)) (eT (by rw[ag];simp;omega) ?_);rw[Uh E G,Ae (x:=(i:Int)+1)];exact eF (aj (show¬E[i].cycle<p by omega)) (eF (aj (show¬E[i].cycle>1073741824 by omega)) (eF (aj (show¬E[i].aP<1 by omega)) (eF (aj (show¬E[i].aP>13 by omega)) (eF (aj (show¬E[i].n< -1073741824 by omega)) (eF (aj (show¬E[i].n>1073741824 by omega)) rfl)))))
  rw[A5 e];exact Qxo L m (i+1) _ (by omega) D
theorem Ztn (D:E.length<=2000) (h:VE 0 E):O6 [.vC kPt (E.map evR)]=some [B true]:=by
 show Qnn (Am Ng) [.vC kPt (E.map evR)]=_;rw[Zz9,ag];exact eF (aj (by omega)) (eB (Qxo D E.length 0 0 (by omega) h) rfl)
structure RunI (MS : Fn) (E : List Evn) (n0 : Nat) (J : Nat -> Kf -> Cv -> Prop) : Prop where
 step:∀(k:Nat) (K:Kf) (c:Cv),J k K c->k<n0->MS (.vC kPt ((atE E k).map evR)::Ac K c)=some (tkA K c (atE E k)++Ac (EJ K c (atE E k)).1 (EJ K c (atE E k)).2)
 next:∀(k:Nat) (K:Kf) (c:Cv),J k K c->k<n0->OM (stA K c (atE E k)).1=false->J (k+1) (EJ K c (atE E k)).1 (EJ K c (atE E k)).2
theorem Zds {MS G MN MV:Fn} {E:List Evn} {n0:Nat} (S:n0<=1073741824) {J:Nat->Kf->Cv->Prop} (L:RunI MS E n0 J) (M:∀k:Nat,G [.vC kPt (E.map evR),I k]=some [.vC kPt ((atE E k).map evR)]):
  ∀(n k:Nat) (acc:Rw) (K:Kf) (c:Cv),k+n=n0->acc.length<=k->J k K c->
   Am (OO MS G MN MV) (tV acc:: .vC kPt (E.map evR)::I n0::I k::Ac K c)=some (1,[tV (acc++Fk E n k K c)])
 |0,k,acc,K,c,h,_,_=>by
  have e:OO MS G MN MV (tV acc:: .vC kPt (E.map evR)::I n0::I k::Ac K c)=some (1,[tV acc]):=by
   rw[Q87];exact eF (aj (by omega)) rfl
  rw[AQ e (by simp),Fk,gw]
 |n+1,k,acc,K,c,h,V,N=>by
  have T:=L.step k K c N (by omega);have hb:Nat.ble ((acc++[tkA K c (atE E k)]).length*104) 140737488355328=true:=B_ (by rw[ap,dc];omega);have key:∀{r:Option (Nat×List AC)},(bif(stA K c (atE E k)).1==7 then some (1,[tV (acc++[tkA K c (atE E k)])])else bif(stA K c (atE E k)).1==8 then some (1,[tV (acc++[tkA K c (atE E k)])])else some (0,tV (acc++[tkA K c (atE E k)]):: .vC kPt (E.map evR)::I n0::I ((k+1:Nat):Int)::Ac (EJ K c (atE E k)).1 (EJ K c (atE E k)).2))=r->
    OO MS G MN MV (tV acc:: .vC kPt (E.map evR)::I n0::I k::Ac K c)=r:=by
   rintro r rfl;rw[Q87];refine eT (ai (by omega)) (eB (M k) (eB T (eT hb ?_)));rw[Ae (x:=(k:Int)+1)];rfl
  rw[Fk];cases D:OM (stA K c (atE E k)).1
  ·have O:((stA K c (atE E k)).1==7)=false/\((stA K c (atE E k)).1==8)=false:=by unfold OM at D;simpa using D
   rw[A5 (key (by rw[O.1,O.2];rfl)),ab (by simp),Zds S L M n (k+1) _ _ _ (by omega) (by rw[ap,dc];omega) (L.next k K c N (by omega) D),f7];rfl
  ·rw[aa rfl];refine AQ (key ?_) (by simp);unfold OM at D;cases U:(stA K c (atE E k)).1==7
   ·rw[U]at D;have D:((stA K c (atE E k)).1==8)=true:=D;rw[D];rfl
   ·rfl
theorem Zjz (U:i<=1073741824) {J:Nat->Kf->Cv->Prop} (V:RunI M E i J) (X:∀k:Nat,Z [.vC kPt (E.map evR),I k]=some [.vC kPt ((atE E k).map evR)])
  (hV:S [.vC kPt (E.map evR)]=some [B true]) {x:Ax3} {G L N O T:Int} {D:Rw} {K:Kf} {c:Cv} (Y:W (AI x++[I G,I L,I N,I O,I T]++[.vC Ai D,B true])=some (I 0::Ac K c)) (h0:J 0 K c):
  Qka M Z W S (Am (OO M Z W S)) (AI x++[I G,I L,I N,I O,I T]++[.vC Ai D, .vC kPt (E.map evR),I (i:Int)])=some [tV (Fk E i 0 K c),I 0]:=by
 refine db (Zrs M Z W S _ x.a.step x.a.aS x.a.bF x.a.bG x.a.low x.a.aY x.a.bB x.a.aV x.a.aO (x.a.aW.map As) x.b.step x.b.aS x.b.bF x.b.bG x.b.low x.b.aY x.b.bB x.b.aV x.b.aO (x.b.aW.map As) x.c.step x.c.aS x.c.bF x.c.bG x.c.low x.c.aY x.c.bB x.c.aV x.c.aO (x.c.aW.map As) G L N O T D (E.map evR) i) ?_;have hl:=Zds (MN:=W) (MV:=S) U V X i 0 [] K c (by omega) (cm _) h0;exact eB hV (eF rfl (eF (aj (by omega)) (eB Y (eF rfl (eB hl (eT rfl rfl))))))
theorem ZT (S:E.length<=2000) (T:VE 0 E) {n0:Nat} (U:n0<=1073741824) {J:Nat->Kf->Cv->Prop} (V:RunI Ke E n0 J)
  {x:Ax3} {G L M N O:Int} {D:Rw} {K:Kf} {c:Cv} (X:J_ (AI x++[I G,I L,I M,I N,I O]++[.vC Ai D,B true])=some (I 0::Ac K c)) (Y:J 0 K c):
  JP (AI x++[I G,I L,I M,I N,I O]++[.vC Ai D, .vC kPt (E.map evR),I (n0:Int)])=some [tV (Fk E n0 0 K c),I 0]:=
 Zjz U V (λk=>Zq5 (by omega) k) (Ztn S T) X Y
theorem Qjc {n0:Nat} (I:n0<=10000) (D:∀k:Nat,EvE (atE E k)):RunI Ke E n0 λk K c=>KOK K/\Ga K (k:Int) c:=
 ⟨λk K c h G=>Zgw h.1 h.2 (by omega) (D k),λk K c h G _=>⟨Q1f h.1 c _,Q1n h.1 h.2 (by omega) (D k)⟩⟩
theorem Z4i {c:Cv} (h:Tp E):BV K c E=(K,Ti c E):=by
 have key:∀(E:List Evn) (d:Cv),(∀e∈E,e.aP≠7/\e.aP≠12/\e.aP≠13)->E.foldl (λs e=>evA s e.aP e.n) (K,d)=(K,E.foldl (λc e=>evC c e.aP e.n) d):=by
  intro E;induction E with
  |nil=>intro d _;rfl
  |cons e E D=>
   intro d h;have he:=h e (by simp);have G:evA (K,d) e.aP e.n=(K,evC d e.aP e.n):=by
    unfold evA;rw[ab he.2.2,ab he.2.1,ab he.1]
   rw[fc,fc,G];exact D _ λx I=>h x (by simp[I])
 exact key E (Jp c) h.2
theorem Zpc {c:Cv} (h:Tp E):BB K c E=(K,FA K c E):=by
 unfold BB FA;rw[Z4i h]
theorem Zw9 {c:Cv} (h:(B2 K c).1=0):(B2 K c).2=c:=by
 unfold B2 at h⊢;by_cases G:c.g0=2
 ·rw[aa G]at h;cases h
 ·rw[ab G]at h⊢;by_cases D:c.aI≠0
  ·rw[aa D]at h;exact absurd h D
  ·rw[ab D]at h⊢;by_cases I:c.aH=true/\c.aM=true
   ·rw[aa I]at h;cases h
   ·rw[ab I]at h⊢;by_cases L:c.on=true
    ·rw[aa L]at h;exact absurd h (Zat K c)
    ·rw[ab L]
theorem Q1b {n:Int} {c:Cv} (g:Gd K n c) {E:List Evn} (h:Tp E):stA K c E=((stC K c E).1,K,(stC K c E).2):=by
 have G:=Z1y g E;have e:Ci K (FA K c E)=((B2 K (FA K c E)).1,K,(B2 K (FA K c E)).2):=by
  unfold Ci;by_cases D:(B2 K (FA K c E)).1≠0
  ·rw[aa D]
  ·rw[ab D,ab (by rw[G.way];simp)];have D:(B2 K (FA K c E)).1=0:=by simpa using D
   rw[D,Zw9 D]
 unfold stA stC;rw[Zpc h];dsimp only;rw[e];dsimp only;by_cases D:(B2 K (FA K c E)).1=0
 ·rw[aa D,aa D]
 ·rw[ab D,ab D]
theorem Z8q (l:Rw) (t:List AC) (D:l.length<=1073741824):Qq [tV (l++[t])]=some [B (gA t 2==7)]:=by
 show Zt _=_;rw[Zwt];have e:((l++[t]).length:Int)=l.length+1:=by rw[ap,dc];omega
 rw[e,Ae (x:=(l.length:Int)+1-1),show(l.length:Int)+1-1=l.length by omega];refine eT (ai (by omega)) (eT (by rw[ai (by omega),ai (by omega)];rfl) ?_);rw[al,Gb [] _ l.length (by rw[ap,dc];omega),List.getElem_append_right (cm _)];simp only[i9,List.getElem_singleton]
theorem Yae:Fk [] 5 0 (kX []) Cp=[tkA (kX []) Cp []]:=by
 have h:(stA (kX []) Cp []).1=7:=by rw[Q1b (gd0 []) Zbx];exact Quz
 show tkA (kX []) Cp []::(if OM (stA (kX []) Cp []).1=true then []else _)=_;rw[h];rfl
theorem Ya3:Kj 0=⟨#[48]⟩:=by
 unfold Kj Lib.itoa;rw[ab (by decide),Lib.decDigits,jl (by decide)];rfl
theorem Zzt:Kj 7=⟨#[55]⟩:=by
 unfold Kj Lib.itoa;rw[ab (by decide),Lib.decDigits,jl (by decide)];rfl
theorem Zw0:Kj 160=⟨#[49,54,48]⟩:=by
 unfold Kj Lib.itoa;rw[ab (by decide),show(160:Int).toNat=160 from rfl,Lib.decDigits,dif_neg (by decide),show 160/10=16 from rfl,Lib.decDigits,dif_neg (by decide),show 16/10=1 from rfl,Lib.decDigits,jl (by decide)];rfl
theorem Qe5 {n:Int} (h: -9223372036854775808<=n/\n<=9223372036854775807):L6 [I n]=some [.raw (.string (Kj n))]:=by
 show cond (decide (-9223372036854775808<=n)&&decide (n<=9223372036854775807)) _ _=_;rw[ai h.1,ai h.2];rfl
theorem Zg8 (D:M [I 0]=some [.raw (.string ⟨#[48]⟩)]) (G:M [I 7]=some [.raw (.string ⟨#[55]⟩)]) (L:M [I 160]=some [.raw (.string ⟨#[49,54,48]⟩)]):
  Yq M (Am (Sa M)) [I 0, .vC kPt [], .vC Aa [],I 7,I 160,I 0,I 0,I 0,I 0,I 0]=some [.raw (.string ⟨#[48,32,109,111,100,101,55,32,97,116,49,54,48,32,102,97,117,108,116,48,10]⟩)]:=by
 have N:Sa M [AC.raw (Go.Value.string ⟨#[48,32,109,111,100,101,55,32,97,116,49,54,48,32,102,97,117,108,116,48]⟩), .vC Aa [],I 0,I 0]=some (1,[AC.raw (Value.string ⟨#[48,32,109,111,100,101,55,32,97,116,49,54,48,32,102,97,117,108,116,48]⟩)]):=by
  rw[Zvi];rfl
 rw[Zxt];exact eB D (eT rfl (eB G (eT rfl (eT rfl (eB L (eT rfl (eT rfl (eB D (eT rfl (eB (AQ N (by simp)) (eT rfl (eT rfl rfl))))))))))))
theorem Ydr:Qcu [I 0, .vC kPt [], .vC Aa [],I 7,I 160,I 0,I 0,I 0,I 0,I 0]=some [.raw (.string ⟨#[48,32,109,111,100,101,55,32,97,116,49,54,48,32,102,97,117,108,116,48,10]⟩)]:=
 Zg8 (by rw[Qe5 (by decide),Ya3]) (by rw[Qe5 (by decide),Zzt]) (by rw[Qe5 (by decide),Zw0])
theorem Ycc {b:ByteArray} (h:M [I 0, .vC kPt [], .vC Aa [],I 7,I 160,I 0,I 0,I 0,I 0,I 0]=some [.raw (.string b)]) (hb:b.size<=1000):
  QJ M [tV [[.vC (Aa++(Aa++(Aa++[]))) [], .vC Aa [],I 7,I 160,I 0,I 0,I 0,I 0,I 0]]]=some [.raw (.string ⟨b.data.toList.toArray⟩)]:=by
 refine eT rfl ?_;have e:F3 M [[.vC (Aa++(Aa++(Aa++[]))) [], .vC Aa [],I 7,I 160,I 0,I 0,I 0,I 0,I 0]] 1=some b.data.toList:=by
  refine eB (x:=[]) rfl (eT rfl (eB h (eT (B_ ?_) rfl)));show 0+b.size<=_;omega
 exact eB e rfl
theorem Z0q:Ql [tV [[.vC (Aa++(Aa++(Aa++[]))) [], .vC Aa [],I 7,I 160,I 0,I 0,I 0,I 0,I 0]]]=some [.raw (.string ⟨#[48,32,109,111,100,101,55,32,97,116,49,54,48,32,102,97,117,108,116,48,10]⟩)]:=
 Ycc Ydr (by decide)
theorem Z78 (D:W (AI Qf++[I 9,I 3,I 100,I 1,I 0]++[.vC Ai (([]:List Itm).map Ah), .vC kPt (([]:List Evn).map evR),I ((5:Nat):Int)])=some [tV [o],I 0]) (G:Z [tV [o]]=some [B true])
  (L:M [tV [[.vC (Aa++(Aa++(Aa++[]))) [], .vC Aa [],I 7,I 160,I 0,I 0,I 0,I 0,I 0]]]=some [.raw (.string ⟨#[48,32,109,111,100,101,55,32,97,116,49,54,48,32,102,97,117,108,116,48,10]⟩)]):
  Qip M Z W []=some [B true]:=by
 rw[Ycb];exact eB D (eT rfl (eT rfl (eB G (eT rfl (eB L (ii (λq=>some [B q]) (beq_self_eq_true (ByteArray.toList ⟨#[48,32,109,111,100,101,55,32,97,116,49,54,48,32,102,97,117,108,116,48,10]⟩))))))))
end Go.Bm
namespace Go.Bm
open Classical
end Go.Bm
namespace Go.Bm
theorem Z38 (a b c d:Rw):∃q:Bool,ND [.vC Aa a, .vC Aa b, .vC Aa c, .vC Aa d]=some [B q]/\(q=true->a.length<=60/\b.length<=60/\c.length<=60/\d.length<=60):=by
 obtain⟨q,I,D⟩:=Z64 (L:=[a,b,c,d]) (by simp);refine⟨q,?_,λh=>⟨D h a (by simp),D h b (by simp),D h c (by simp),D h d (by simp)⟩⟩;show Qba KU _=_;rw[Zgx];have G:KU [.vC [Kd.sl Aa] [[.vC Aa a],[.vC Aa b],[.vC Aa c],[.vC Aa d]]]=some [B q]:=I;rw[G];rfl
theorem Ms {i n:Nat} (h:i<n):(decide (0<=(i:Int))&&decide ((i:Int)<(n:Int)))=true:=by
 rw[ai (by omega),ai (by omega)];rfl
theorem Zr5 (L:l.length<=1000000000000000000):NF [.vC kPt l, .vC kPt l]=some [B true]:=by
 have D:∀m i:Nat,i+m=l.length->Am Tc [.vC kPt l, .vC kPt l,I (l.length:Int),I (i:Int)]=some (2,[]):=by
  intro m;induction m with
  |zero=>
   intro i h;refine AQ ?_ (by simp);rw[Q6k];exact eF (aj (by omega)) rfl
  |succ m G=>
   intro i h;refine(A5 ?_).trans (G (i+1) (by omega));rw[Q6k];refine eT (ai (by omega)) (eT (Ms (by omega)) (eT (Ms (by omega)) (eF (by simp) ?_)));rw[Ae (x:=(i:Int)+1)];rfl
 show Qjk (Am Tc) _=_;rw[Z6s];exact eF (bnF rfl) (eB (D l.length 0 (by omega)) rfl)
theorem Zzx (V:l.length<=1000000000000000000) (hb:T.length<=1000000000000000000) (O S D G L U N:Int):
  IH [.vC kPt l, .vC Aa T,I O,I S,I D,I G,I L,I U,I N, .vC kPt l, .vC Aa T,I O,I S,I D,I G,I L,I U,I N]=some [B true]:=by
 have key:∀{M:Fn},M [.vC kPt l, .vC kPt l]=some [B true]->Qgl M (Am (Tz M)) [.vC kPt l, .vC Aa T,I O,I S,I D,I G,I L,I U,I N, .vC kPt l, .vC Aa T,I O,I S,I D,I G,I L,I U,I N]=some [B true]:=by
  intro M X;have Y:∀m i:Nat,i+m=T.length->Am (Tz M) [I (T.length:Int),I (i:Int), .vC kPt l, .vC Aa T,I O,I S,I D,I G,I L,I U,I N, .vC kPt l, .vC Aa T,I O,I S,I D,I G,I L,I U,I N]=some (2,[.vC kPt l, .vC Aa T,I O,I S,I D,I G,I L,I U,I N, .vC kPt l, .vC Aa T,I O,I S,I D,I G,I L,I U,I N]):=by
   intro m;induction m with
   |zero=>
    intro i h;refine AQ ?_ (by simp);rw[Q62];exact eF (aj (by omega)) rfl
   |succ m ih=>
    intro i h;refine(A5 ?_).trans (ih (i+1) (by omega));rw[Q62];refine eT (ai (by omega)) (eT (Ms (by omega)) (eT (Ms (by omega)) (eF (bnF rfl) ?_)));rw[Ae (x:=(i:Int)+1)];rfl
  rw[Zfa];refine eB X (eF rfl (eF (bnF rfl) (eB (Y T.length 0 (by omega)) (eF rfl (eT rfl (eT (beT rfl) (eT (beT rfl) (eT ?_ (eT (beT rfl) ?_)))))))))
  ·show(D==D&&(G==G&&(L==L&&true)))=true;simp
  ·show some [B (N==N)]=_;rw[beT rfl]
 exact key (Zr5 V)
def Qbe (t:List AC):Prop:=(wA t 0).length<=1000000000000000000/\(wA t 1).length<=1000000000000000000
theorem Zga (U:T.length<=1073741824) (G:∀t∈T,Qbe t):NK [tV T,tV T]=some [B true]:=by
 have N:∀t∈T,IH [.vC kPt (wA t 0), .vC Aa (wA t 1),jA t 2,jA t 3,jA t 4,jA t 5,jA t 6,jA t 7,jA t 8, .vC kPt (wA t 0), .vC Aa (wA t 1),jA t 2,jA t 3,jA t 4,jA t 5,jA t 6,jA t 7,jA t 8]=some [B true]:=
  λt L=>Zzx (G t L).1 (G t L).2 _ _ _ _ _ _ _
 show WS IH (Am (UU IH)) _=_;generalize IH=M at*;have O:∀m i:Nat,i+m=T.length->Am (UU M) [tV T,tV T,I (T.length:Int),I (i:Int)]=some (2,[]):=by
  intro m;induction m with
  |zero=>
   intro i h;refine AQ ?_ (by simp);rw[Qtt];exact eF (aj (by omega)) rfl
  |succ m S=>
   intro i h;have D:i<T.length:=by omega
   refine(A5 ?_).trans (S (i+1) (by omega));rw[Qtt];refine eT (ai (by omega)) (eT (Ms D) (eT (Ms D) ?_));rw[al,Gb [] T i D,Ae (x:=(i:Int)+1)];exact eB (N _ (cd D)) rfl
 rw[Z50];exact eF (bnF rfl) (eB (O T.length 0 (by omega)) rfl)
theorem Xl (K:Kf) (s:Int):∀(l:List Mrk) (c:Cv),(DJ K s l c).1.length<=l.length
 |[],_=>cm _
 |m::l,c=>by
  unfold DJ;split
  ·exact i7 _
  ·split
   ·have:=Xl K s l {c with outs:=swI c.outs (itK K m.aU),aK:=c.aK+1};simp only[bf];omega
   ·have:=Xl K s l {c with aK:=c.aK+1};simp only[bf];omega
theorem Zxx {n:Int} {c:Cv} (h:KOK K) (g:Ga K n c) (G:0<=n/\n<=10000) {E:List Evn} (I:EvE E):Qbe (tkA K c E):=by
 have D:=Qqg h c E;have g1:=Qg8 h g G I;have L:=SQ g1 (by omega);have M:=SQ (XK h G.1 g I) (by omega);constructor
 ·show(QO (stA K c E).2.1 (stA K c E).2.2 (AZ (BV K c E).2)).length<=_;unfold QO;split
  ·exact i7 _
  ·rw[Z68 D (by omega)];have q:=D.f.t.q.len;generalize AZ (stA K c E).2.2=b at*;generalize AZ (BV K c E).2=a at*;have b1:=S7 q.1 a;have b2:=S7 q.1 b;have l:=Qbd (Hj (stA K c E).2.1.p (stA K c E).2.1.x (stA K c E).2.1.t) (clp (stA K c E).2.1.t a) (clp (stA K c E).2.1.t b-clp (stA K c E).2.1.t a).toNat;unfold P3;omega
 ·show((HX (stA K c E).2.1 (stA K c E).2.2 (A_ (stA K c E).2.1 (stA K c E).2.2)).1.map As).length<=_;rw[ag];unfold HX;split
  ·unfold CU;have l:=Xl (stA K c E).2.1 (A_ (stA K c E).2.1 (stA K c E).2.2) ((stA K c E).2.1.p.aD.drop (stA K c E).2.2.aK.toNat) (stA K c E).2.2;rw[dk]at l;have:=D.count;omega
  ·exact i7 _
theorem Q86 {E:List Evn} (G:∀k:Nat,EvE (atE E k)):∀(n k:Nat) (K:Kf) (c:Cv),k+n<=10000->KOK K->Ga K k c->∀t∈Fk E n k K c,Qbe t
 |0,_,_,_,_,_,_=>λt D=>by cases D
 |n+1,k,K,c,I,h,g=>λt D=>by
  unfold Fk at D;rcases ay.1 D with rfl|D
  ·exact Zxx h g (by omega) (G k)
  ·split at D
   ·cases D
   ·exact Q86 G n (k+1) _ _ (by omega) (Q1f h c _) (Q1n h g (by omega) (G k)) t D
theorem Z6r:Ow []=some [B true]:=by
 have n0:=Zcl machX (aA:=[]) (by simp) Zxu true;have D:=ZT (E:=[]) (by simp) trivial (n0:=5) (by omega) (Qjc (E:=[]) (n0:=5) (by omega) λk=>⟨i7 _,λe h=>by cases h⟩) n0.1 ⟨n0.2,(gd0 []).ga⟩;rw[Yae]at D;have G:=Z8q [] (tkA (kX []) Cp []) (by simp);have I:(gA (tkA (kX []) Cp []) 2==7)=true:=by
  show((stA (kX []) Cp []).1==7)=true;rw[Q1b (gd0 []) Zbx];rw[show(stC (kX []) Cp []).1=7 from Quz];rfl
 rw[I]at G;exact Z78 D G Z0q
theorem Qjv:∀{l:List Evn} {p:Int},l.Pairwise (λa b=>a.cycle<=b.cycle)->(∀e∈l,p<=e.cycle/\e.cycle<=1073741824/\1<=e.aP/\e.aP<=13/\ -1073741824<=e.n/\e.n<=1073741824)->VE p l
 |[],_,_,_=>trivial
 |e::l,p,D,hb=>by
  rw[jz]at D;refine⟨hb e (by simp),Qjv D.2 λa G=> ?_⟩;have:=hb a (by simp[G]);exact⟨D.1 a G,this.2⟩
abbrev HR (E:List Evn) (n:Int):List Evn:=E.filter λe=>decide (e.cycle<n)
theorem Z16 {MT MR ME MI MO MC MF MA:Fn} (L:E.length<=60) {its:Rw} {x6 x7 x8 x9 n:Int} {x:Ax3} {p0 p1 p2 p3 p4:Int}:∀m i:Nat,i+m=E.length->
  Am (R5 MT MR ME MI MO MC MF MA) (.vC kPt ((HR (E.take i) n).map evR):: .vC Ai its::I x6::I n:: .vC kPt (E.map evR)::I (E.length:Int)::I (i:Int)::I x7::I x8::I x9::(AI x++[I p0,I p1,I p2,I p3,I p4]))=
   some (1, .vC kPt ((HR E n).map evR):: .vC Ai its::I x6::I n::I x7::I x8::I x9::(AI x++[I p0,I p1,I p2,I p3,I p4])):=by
 intro m;induction m with
 |zero=>
  intro i h;refine AQ ?_ (by simp);refine db (Qze ..) ?_;refine eF (aj (by omega)) ?_;rw[f9 (by omega)];rfl
 |succ m G=>
  intro i h;have D:i<E.length:=by omega
  refine(A5 ?_).trans (G (i+1) (by omega));refine db (Qze ..) ?_;refine eT (ai (by omega)) (eT (by rw[ag];exact Ms D) ?_);have tf:HR (E.take (i+1)) n=HR (E.take i) n++(if decide (E[i].cycle<n)=true then [E[i]]else []):=Qwj (λe=>decide (e.cycle<n)) E D;rw[Uh E D,Ae (x:=(i:Int)+1),tf];have hlen:(HR (E.take i) n).length<=60:=bp (ip _ _) (by rw[ic];omega);generalize HR (E.take i) n=F at*;by_cases c:E[i].cycle<n
  ·refine eT (ai (show gA (evR E[i]) 0<n from c)) (eT (B_ ?_) ?_)
   ·rw[ap,ag,dc];omega
   ·rw[aa (ai c),bz];rfl
  ·refine eF (aj (show¬gA (evR E[i]) 0<n from c)) ?_;rw[ab (by simpa using c),gw];rfl
theorem Zks {L N U X:Rw} {x4 x5 x6 x7 x8 x9:Int} {q:Bool} (hA:G []=some [B true]) (hF:H [.vC Aa L, .vC Aa N, .vC Aa U, .vC Aa X]=some [B q])
  (w : q = true -> 1 <= x8 /\ x8 <= 13 -> -1073741824 <= x9 /\ x9 <= 1073741824 -> ∃ (x : Ax3) (p0 p1 p2 p3 p4 r : Int) (its : Rw) (E : List Evn) (n : Nat) (m1 m2 : Int) (T D : Rw), E.length <= 60 /\ n < 60 /\
   O [.vC Aa N, .vC Aa U]=some (AI x++[I p0,I p1,I p2,I p3,I p4])/\P [I x4,I 6]=some [I r]/\S [.vC Aa L,I r,B true]=some [.vC Ai its]/\P [I x5,I 60]=some [I (n:Int)]/\W [.vC Aa X]=some [.vC kPt (E.map evR)]/\
   P [I x6,I 1000]=some [I m1]/\Z (AI x++[I p0,I p1,I p2,I p3,I p4]++[.vC Ai its, .vC kPt ((HR E n).map evR),I (n:Int)])=some [tV T,I 0]/\P [I x6,I 30]=some [I m2]/\
   Z (AI x++[I p0,I p1,I p2,I p3,I p4]++[.vC Ai its, .vC kPt ([]++(HR E n).map evR++[[I (V ((n:Int)+m1)),I x8,I x9]]),I (V ((n:Int)+m2))])=some [tV (T++D),I 0]/\M [tV T,tV T]=some [B true]):
  YV M Z W S P O H G (Am (R5 M Z W S P O H G)) [.vC Aa L, .vC Aa N, .vC Aa U, .vC Aa X,I x4,I x5,I x6,I x7,I x8,I x9]=some [B true]:=by
 rw[Z1a];refine eB hA (eF rfl (eB hF ?_));cases q
 ·exact eT rfl rfl
 ·refine eF rfl (eC (λ_=>rfl) λc1=>eC (λ_=>rfl) λc2=>eC (λ_=>rfl) λc3=>eC (λ_=>rfl) λc4=> ?_);have c1:=ig c1;have c2:=ig c2;have c3:=ig c3;have c4:=ig c4;obtain⟨x,p0,p1,p2,p3,p4,r,its,E,n,m1,m2,T,D,hE,hn,h1,h2,h3,h4,h5,h6,h7,h8,h9,Y⟩:=w rfl ⟨by omega,by omega⟩ ⟨by omega,by omega⟩;have hl:=Z16 (MT:=M) (MR:=Z) (ME:=W) (MI:=S) (MO:=P) (MC:=O) (MF:=H) (MA:=G) hE (its:=its) (x6:=x6) (x7:=x7) (x8:=x8) (x9:=x9) (n:=n) (x:=x) (p0:=p0) (p1:=p1) (p2:=p2) (p3:=p3) (p4:=p4) E.length 0 (by omega);have hf:(HR E n).length<=60:=bp (ip _ _) hE;have e0:((E.map evR).length:Int)=(E.length:Int):=by rw[ag]
  rw[<-e0]at hl;generalize HR E n=F at*;have hT:M [tV T,tV (List.take ((T.length:Int)).toNat (T++D))]=some [B true]:=by
   rw[al,List.take_left']
   ·exact Y
   ·rfl
  refine eB h1 (eB h2 (eB h3 (eB h4 (eB h5 (eB hl (eT rfl (eB h6 (eB h7 (eT (B_ ?_) (eT (B_ ?_) (eB h8 (eB h9 (eF rfl (eF rfl (eF (aj ?_) (eT ?_ (eB hT rfl)))))))))))))))))
  ·show([]++F.map evR).length*24<=_;rw[ax,ag];omega
  ·show([]++F.map evR++[_]).length*24<=_;rw[ax,ap,ag,dc];omega
  ·show¬(((T++D).length:Int)<(T.length:Int));rw[ap];omega
  ·show(decide (0<=(T.length:Int))&&decide ((T.length:Int)<=((T++D).length:Int)))=true;rw[ap,ai (by omega),ai (by omega)];rfl
theorem Yao {V X Y x3:Rw} {M O D x7 x8 x9:Int} (h0:Src V) (h1:Src X) (h2:Src Y) (h3:Src x3) (h4:i64 M) (h5:i64 O) (h6:i64 D):
  Quh [.vC Aa V, .vC Aa X, .vC Aa Y, .vC Aa x3,I M,I O,I D,I x7,I x8,I x9]=some [B true]:=by
 obtain⟨q,hF,hq⟩:=Z38 V X Y x3;refine Zks Z6r hF λa0 k8 k9=> ?_;obtain⟨l0,l1,l2,l3⟩:=hq a0;have m4:0<=M%6/\M%6<6:=⟨jd _ (by decide),ij _ (by decide)⟩;have m5:0<=O%60/\O%60<60:=⟨jd _ (by decide),ij _ (by decide)⟩;have m6:0<=D%1000/\D%1000<1000:=⟨jd _ (by decide),ij _ (by decide)⟩;have m7:0<=D%30/\D%30<30:=⟨jd _ (by decide),ij _ (by decide)⟩;obtain⟨x,a,b,c,bH,lag,hQ,hM⟩:=Zh1 h1 h2 (by omega);obtain⟨p,aA,hI,a1,hlen,-⟩:=Z1g h0 (most:=M%6) (by omega) true;obtain⟨hN,N⟩:=Zcl hM (aA:=aA) (by omega) a1 true;obtain⟨E,hV,hE,a2,ho⟩:=Z9f h3 l3;obtain⟨n,hn⟩:=bn m5.1;obtain⟨d,hd⟩:=bn m7.1;have a3:GC [I O,I 60]=some [I (n:Int)]:=by rw[Ra h5 (by omega),hn]
 have a4:GC [I D,I 30]=some [I (d:Int)]:=by rw[Ra h6 (by omega),hd]
 generalize L:(HR E n)=F;have S:∀e∈F,e∈E/\e.cycle<n:=λe he=>by
  rw[<-L]at he;have:=List.mem_filter.1 he;exact⟨this.1,of_decide_eq_true this.2⟩
 have a5:F.length<=60:=by rw[<-L];exact bp (ip _ _) hE
 have U:F.Pairwise λa b=>a.cycle<=b.cycle:=by rw[<-L];exact ho.pw.filter _
 have bd:∀e∈F,0<=e.cycle/\e.cycle<=1073741824/\1<=e.aP/\e.aP<=13/\ -1073741824<=e.n/\e.n<=1073741824:=λe he=>by
  have a:=S e he;have b:=a2 e a.1;have r:=(ho.rg e a.1).1;have k:=b.aP;have m:=b.n;omega
 let late:Evn:=⟨(n:Int)+D%1000,x8,x9⟩
 have bl:∀e∈F++[late],0<=e.cycle/\e.cycle<=1073741824/\1<=e.aP/\e.aP<=13/\ -1073741824<=e.n/\e.n<=1073741824:=λe he=>by
  rcases bj.1 he with he|he
  ·exact bd e he
  ·rw[dg]at he;subst he;exact⟨by show 0<=(n:Int)+D%1000;omega,by show(n:Int)+D%1000<=_;omega,k8.1,k8.2,k9.1,k9.2⟩
 have pl:(F++[late]).Pairwise λa b=>a.cycle<=b.cycle:=by
  refine jn.2 ⟨U,List.pairwise_singleton _ _,λa ha b hb=> ?_⟩;rw[dg]at hb;subst hb;have:=(S a ha).2;show a.cycle<=(n:Int)+D%1000;omega
 have eE:∀{G:List Evn},G.length<=61->(∀e∈G,0<=e.cycle/\e.cycle<=1073741824/\1<=e.aP/\e.aP<=13/\ -1073741824<=e.n/\e.n<=1073741824)->∀k:Nat,EvE (atE G k):=λhl hb k=>
  ⟨bp (Z1t _ _) (by omega),λe he=>(hb e (Zod he)).2.2.2.2.2⟩
 have gl:(F++[late]).length<=61:=by rw[ap,dc];omega
 have R1:=ZT (E:=F) (by omega) (Qjv U bd) (n0:=n) (by omega) (Qjc (by omega) (eE (by omega) bd)) hN ⟨N,(gdK N).ga⟩;have R2:=ZT (E:=F++[late]) (by omega) (Qjv pl bl) (n0:=n+d) (by omega) (Qjc (by omega) (eE gl bl)) hN ⟨N,(gdK N).ga⟩;obtain⟨T',hT⟩:=Qy9 (E:=F) (F:=F++[late]) n (n+d) 0 (kfP x a b c bH lag aA true) Cp (by omega) λj _ hj=>by
  show F.filter _=(F++[late]).filter _;rw[List.filter_append];have:(late.cycle==(j:Int))=false:=beF (show(n:Int)+D%1000≠j by omega);simp[List.filter,this]
 rw[hT]at R2;have small:=Q86 (eE (by omega) bd) n 0 (kfP x a b c bH lag aA true) Cp (by omega) N (gdK N).ga;have tl:=Q8r F n 0 (kfP x a b c bH lag aA true) Cp;generalize Fk F n 0 (kfP x a b c bH lag aA true) Cp=T at*;refine⟨x,a,b,c,bH,lag,M%6,aA.map Ah,E,n,D%1000,d,T,T',hE,by omega,hQ,Ra h4 (by omega),hI,a3,hV,Ra h6 (by omega),?_,a4,?_,Zga (by omega) small⟩
 ·rw[L];exact R1
 ·rw[L,Ae (x:=(n:Int)+D%1000),Ae (x:=(n:Int)+d),ax];rw[bz]at R2;exact R2
theorem SD (h:okR Aa o):i64 (Af (nth .vD o 0)):=by
 match o,h with
 |[],h=>exact h.elim
 |a::_,h=>exact Zsd h.1
theorem U1 (h:okR [Kd.sl Aa] o):Src (Bp (nth .vD o 0)):=by
 match o,h with
 |[],h=>exact h.elim
 |a::_,h=>
  have D:=h.1;unfold okC at D;refine⟨?_,λc G=>SD (D.2 c G).1⟩;have I:=D.1;simp only[maxLen]at I;show(Bp a).length<=_;omega
end Go.Bm
