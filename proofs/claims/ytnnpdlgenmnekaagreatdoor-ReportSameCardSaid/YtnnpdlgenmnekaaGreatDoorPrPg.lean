/- laid together -/
import Derived.Test.YtnnpdlgenmnekaaGreatDoorPrLc
import Derived.Test.YtnnpdlgenmnekaaGreatDoorMx3
import Derived.Test.YtnnpdlgenmnekaaGreatDoorPrAtF
set_option linter.unusedVariables false
set_option linter.unusedSimpArgs false
set_option maxRecDepth 100000
variable {K:Go.Bm.Kf} {i A J:Nat} {a k b v u r d j:Int} {p:Go.Bm.Pth} {M Z W T S P O L:Go.Bm.Fn} {t:Go.Bm.Trk} {l:Go.Bm.Rw} {N:Go.Bm.Lp} {H G z o:Go.Bm.Pt}
noncomputable section
open Go.IntKind (wrap)
namespace Go.Bm
def Jk (j:Int) (l:Rw):Prop:=∀r∈l,-j<=gA r 0/\gA r 0<=j
theorem Jk.snoc {r:List AC} (h:Jk j l) (G: -j<=gA r 0/\gA r 0<=j):Jk j (l++[r]):=λx D=>by
 rcases bn.1 D with D|D
 ·exact h x D
 ·rw[du]at D;subst D;exact G
theorem Zr4 (G:0<=j/\j<=65536):Out (λo=>o.1=1/\(wA o.2 0).length<=65536/\Jk j (wA o.2 0)) (Am QJ [.vC Aa [],I j]):=by
 refine C1 (λs:Rw×Int=>[.vC Aa s.1,I s.2]) (λs=>0<=s.2/\s.2<=j/\s.1.length+s.2<=65536/\Jk j s.1) (λs=>s.2.toNat) _ ?_ ([],j) ⟨G.1,dt _,by simp;omega,λr h=>by cases h⟩;rintro⟨v,k⟩ ⟨g1,g0,g2,D⟩;dsimp only at g0 g1 g2 D;rw[Zh5,bp g1,Ae (x:=k/2)];refine .cond (λc=> ?_) (λc=> ?_)
 ·have c:=BC c;refine .cond (λ_=> ?_) λc=>by rw[Cg (by simp;omega)]at c;cases c
  exact .some (.inl ⟨rfl,(v++[[I k]],k/2),rfl,⟨by dsimp only;omega,by dsimp only;omega,by simp;omega,D.snoc (by show-j<=k/\k<=j;omega)⟩,by dsimp only;omega⟩)
 ·exact .some (.inr ⟨by simp,rfl,by show v.length<=65536;omega,D⟩)
theorem Zcl {up out:Rw} (O:0<=j/\j<=65536) (S:up.length<=65536) (G:Jk j up) (T:out.length=up.length+1) (L:Jk j out):Out (λo=>o.1=1/\(wA o.2 0).length<=140000/\Jk j (wA o.2 0)) (Am (RD N) [.vC Aa up, .vC Aa out,I ((up.length:Int)-1)]):=by
 refine C1 (λs:Rw×Int=>[.vC Aa up, .vC Aa s.1,I s.2]) (λs=> -1<=s.2/\s.2<up.length/\s.1.length+s.2<=2*up.length/\Jk j s.1) (λs=>(s.2+1).toNat) _ ?_ (out,(up.length:Int)-1) ⟨by simp only;omega,by simp only;omega,by simp only;omega,L⟩;rintro⟨v,k⟩ ⟨g1,g2,M,D⟩;dsimp only at g1 g2 M D;rw[Z0v,Ae (x:=k-1)];refine .cond (λc=> ?_) (λc=> ?_)
 ·have c:=BC c;refine .cond (λ_=> ?_) λc=>by simp at c;omega
  refine .cond (λ_=> ?_) λc=>by rw[Cg (by simp;omega)]at c;cases c
  have U: -j<=gA (nth [] up k.toNat) 0/\gA (nth [] up k.toNat) 0<=j:=by
   rw[FC [] up k.toNat (by omega)];exact G _ (cg _)
  exact .some (.inl ⟨rfl,(_,k-1),rfl,⟨by dsimp only;omega,by dsimp only;omega,by simp;omega,D.snoc (by show-j<=V (0-gA (nth [] up k.toNat) 0)/\V (0-gA (nth [] up k.toNat) 0)<=j;rw[Ae];omega)⟩,by dsimp only;omega⟩)
 ·have c:=BB c;exact .some (.inr ⟨by simp,rfl,by show v.length<=140000;omega,D⟩)
theorem Zhm (D:0<=j/\j<=65536):Out (λo=>(wA o 0).length<=140000/\Jk j (wA o 0)) (Pa [I j]):=by
 show Out _ (YV (Am QJ) (Am (RD (Am QJ))) [I j]);rw[Zqj];refine .bind (Zr4 D) λo g=> ?_;rw[g.1];obtain⟨-,g2,G⟩:=g;generalize wA o.2 0=up at*;refine .cond (λ_=> ?_) λc=>by simp at c
 refine .cond (λ_=> ?_) λc=>by rw[Cg (by simp;omega)]at c;cases c
 refine .cond (λ_=> ?_) λc=>by rw[Cg (by simp;omega)]at c;cases c
 rw[Ae (x:=(up.length:Int)-1)];refine .bind (Zcl D g2 G (by simp) (by rw[bc];exact G.snoc (by show-j<=0/\0<=j;omega))) λo g=> ?_;rw[g.1];exact .some g.2
def Qa5 (m0 m1 m3 m4:Int) (Q R:Int->Prop) (o:List AC):Prop:=∃v:Int,o=Eo m0 m1 m3 m4 v/\(Q v\/∃r:Int,v=V (m1+r)/\R r)
theorem Zk7 {x:Ax3} {a b c o0 o1:Int} {D b1 b2:Bool} (hb:0<=b/\b<=65536) {m0 m1 m2 m3 m4 m5 l:Int} {Q R F:Int->Prop}
  (hB:Out (λo=>∃r:Int,o=[I r]/\R r) (M [I a,I b,I c,I m1,I m2]))
  (hS:∀v:Int,0<=v->F v->(∃k:Int,-b<=k/\k<=b/\v=V (m1+V (m2+k)))->Out (λo=>bA o 0=true->Q v) (Z (pxt p x t [I a,I b,I c,I (V (m0+v)),I v,I (V (v-m1)),I m0,I m3,I m4,I l])))
  (hF:∀v:Int,Out (λo=>bA o 0=true->F v) (W (EL p t [I a,I b,I c,I o0,I o1,B D,B b1,B b2,I (V (m0+v)),I v,I (V (v-m1)),I m0,I m3,I m4])))
  (L:∀m0 m1 m2 m3 m4 m5 v,T [I m0,I m1,I m2,I m3,I m4,I m5,I v]=some (Eo m0 m1 m3 m4 v))
  (hR:∀a b c v x,(S [I a,I b,I c,I v,I x]).isSome=true)
  (hC:∀j,0<=j/\j<=65536->Out (λo=>(wA o 0).length<=140000/\Jk j (wA o 0)) (P [I j])):
  Out (Qa5 m0 m1 m3 m4 Q R) (Qlb M Z W T S P (Am (Qmm M Z W T S P)) (pxt p x t [I a,I b,I c,I o0,I o1,B D,B b1,B b2,I m0,I m1,I m2,I m3,I m4,I m5,I l])):=by
 rw[Z4f];refine .bind (hC b hb) λq N=> ?_;obtain⟨N,hJ⟩:=N;generalize wA q 0=ch at*;refine .bind (p:=λo=>o.1=1/\((∃v:Int,∃g0 g1 g2 O U X:Int,o.2=B true::I a::I b::I c::I m0::I m1::I m2::I m3::I m4::I m5::I g0::I g1::I g2::I O::I U::I X::Eo m0 m1 m3 m4 v/\Q v)\/∃l:List AC,o.2=B false::I a::I b::I c::I m0::I m1::I m2::I m3::I m4::I m5::l)) ?_ λo g=>by
  obtain⟨g,g2⟩:=g;rw[g];refine .cond (λ_=> ?_) λc=>by simp at c
  rcases g2 with⟨v,g0,g1,g2,O,U,X,e,G⟩|⟨l',e⟩
  ·rw[e];refine .cond (λ_=> .some ⟨v,rfl, .inl G⟩) λc=>by simp[gA,wA,bA,jA,nth,Dn]at c
  ·rw[e];refine .cond (λc=>by simp[gA,wA,bA,jA,nth,Dn]at c) λ_=> ?_;simp only[gA,wA,bA,jA,nth,Af];refine .bind hB λo g=> ?_;obtain⟨r,rfl,hr⟩:=g;simp only[gA,wA,bA,jA,nth,Af];rw[L];exact .some ⟨_,rfl, .inr ⟨r,rfl,hr⟩⟩
 refine C1 (λs:Nat×(Int×Int×Int×Int×Int×Int)=>I l::B false:: .vC Aa ch::I (ch.length:Int)::I (s.1:Int)::pxt p x t [I a,I b,I c,I o0,I o1,B D,B b1,B b2,I m0,I m1,I m2,I m3,I m4,I m5,I 0,I 0,I 0,I 0,I 0,I 0,I s.2.1,I s.2.2.1,I s.2.2.2.1,I s.2.2.2.2.1,I s.2.2.2.2.2.1,I s.2.2.2.2.2.2])
  (λs=>s.1<=ch.length) (λs=>ch.length-s.1) _ ?_ (0,(0,0,0,0,0,0)) (by simp)
 rintro⟨i,Y,f1,f2,f3,f4,f5⟩ g;dsimp only at g;rw[Zs0];rw[Ae (x:=(i:Int)+1)];refine .cond (λc=> ?_) (λc=> ?_)
 ·have c:=BC c;refine .cond (λ_=> ?_) λc=>by simp at c;omega
  refine .cond (λ_=> ?_) λpos=> ?_
  ·exact .some (.inl ⟨rfl,(i+1,Y,f1,f2,f3,f4,f5),rfl,by dsimp only;omega,by dsimp only;omega⟩)
  ·have pos:=BB pos;refine .ibind (hR _ _ _ _ _) λ_ _=> .cond (λ_=> ?_) λ_=> ?_
   ·exact .some (.inl ⟨rfl,(i+1,Y,f1,f2,f3,f4,f5),rfl,by dsimp only;omega,by dsimp only;omega⟩)
   ·have hk:∃k:Int,-b<=k/\k<=b/\V (m1+V (m2+gA (nth [] ch (i:Int).toNat) 0))=V (m1+V (m2+k)):=by
     have:=hJ _ (cg (show i<ch.length by omega));rw[ak,FC [] ch i (by omega)];exact⟨_,this.1,this.2,rfl⟩
    generalize V (m1+V (m2+gA (nth [] ch (i:Int).toNat) 0))=v at*;rw[L];simp only[af,gA,wA,bA,jA,nth,Af];refine .bind (hF v) λof fit=> .cond (λcf=> ?_) λ_=> ?_
    ·refine .bind (hS v (by omega) (fit cf) hk) λo G=> .cond (λc=> ?_) λ_=> ?_
     ·exact .some (.inr ⟨by simp,rfl, .inl ⟨v,0,0,0,0,0,0,rfl,G c⟩⟩)
     ·exact .some (.inl ⟨rfl,(i+1,_,_,_,_,_,_),rfl,by dsimp only;omega,by dsimp only;omega⟩)
    ·exact .some (.inl ⟨rfl,(i+1,_,_,_,_,_,_),rfl,by dsimp only;omega,by dsimp only;omega⟩)
 ·exact .some (.inr ⟨by simp,rfl, .inr ⟨_,rfl⟩⟩)
theorem Z64 {x:Ax3} {Q:Prop} (L:∀{way:Rw},way.length<=100000->(M (pxt p x t [.vC Aa way])).isSome=true)
  {a b c m0 m1 m2 m3 m4 m5 l:Int} (N:Out (λo=>(wA o 0).length<=4096/\(bA o 1=true->Q)) (Z [I a,I b,I c,I m0,I m1,I m2,I m3,I m4,I m5])):
  Out (λo=>bA o 0=true->Q) (ZN M Z (pxt p x t [I a,I b,I c,I m0,I m1,I m2,I m3,I m4,I m5,I l])):=by
 rw[Zeq];refine .bind N λo h=> ?_;obtain⟨S,D⟩:=h;generalize wA o 0=G at*;refine .cond (λ_=> .some λh=>by simp[gA,wA,bA,jA,nth,Dn]at h) λO=> ?_;have D:=D (by simpa using O);refine .cond (λc=> ?_) λc=> ?_
 ·have c:=BC c;rw[Ae (x:=(G.length:Int)-1)];refine .cond (λ_=> ?_) λc=>by simp at c;omega
  generalize Af (nth .vD (nth [] G ((G.length:Int)-1).toNat) 0)=e;refine .cond (λ_=> .some λ_=>D) λ_=> ?_;refine .cond (λ_=> ?_) λc=>by rw[Cg (by simp;omega)]at c;cases c
  refine .cond (λ_=> ?_) λc=>by rw[Cg (by simp;omega)]at c;cases c
  exact .ibind (L (by simp;omega)) λ_ _=> .some λ_=>D
 ·refine .cond (λ_=> .some λ_=>D) λ_=> ?_;refine .cond (λ_=> ?_) λc=>by rw[Cg (by simp;omega)]at c;cases c
  refine .cond (λ_=> ?_) λc=>by rw[Cg (by simp;omega)]at c;cases c
  exact .ibind (L (by simp;omega)) λ_ _=> .some λ_=>D
theorem Zsr {a k c:Int} (D:Plan3 a k c) (u v x G L N:Int):Out (λo=>(wA o 0).length<=4096/\(bA o 1=true->(Bh a k v x).2=true)) (FH [I a,I k,I c,I u,I v,I x,I G,I L,I N]):=by
 have key:∀{M:Fn},M [I a,I k,I c,I v,I x]=some [.vC Aa ((Bh a k v x).1.map Aq),B (Bh a k v x).2]->Out (λo=>(wA o 0).length<=4096/\(bA o 1=true->(Bh a k v x).2=true)) (UM M (Am (Qm M)) [I a,I k,I c,I u,I v,I x,I G,I L,I N]):=by
  intro M O;have hb:=Zhe D v x;rw[Q0n];refine .bind (p:=λo=>o=_) ⟨_,O,rfl⟩ λo e=> ?_;subst e;refine .cond (λ_=> .some ⟨by simp[wA,nth,Bq],λh=>by simp[bA,nth,Dn]at h⟩) λh=> ?_;have S:(Bh a k v x).2=true:=by simpa [bA,nth,Dn]using h
  have T:(wA [AC.vC Aa ((Bh a k v x).1.map Aq),B (Bh a k v x).2] 0).length<=4096:=by
   show((Bh a k v x).1.map Aq).length<=4096;rw[ah];exact hb.1
  generalize wA [AC.vC Aa ((Bh a k v x).1.map Aq),B (Bh a k v x).2] 0=U at*;refine .cond (λ_=> ?_) λc=>by simp at c
  refine .cond (λ_=> ?_) λc=>by simp at c;omega
  refine .bind (Q4a (by simp) T) λo g=> ?_;rw[g.1];exact .some ⟨by show(wA o.2 0).length<=4096;omega,λ_=>S⟩
 exact key (Z9j D v x)
theorem Qsj {x:Ax3} (h:Fix p x t) {a b c:Int} (D:Plan3 a b c) (m0 m1 m2 m3 m4 m5 l:Int):Out (λo=>bA o 0=true->(Bh a b m1 m2).2=true) (I8 (pxt p x t [I a,I b,I c,I m0,I m1,I m2,I m3,I m4,I m5,I l])):=
 Z64 (Zky h) (Zsr D _ _ _ _ _ _)
theorem Jr {a k v x:Int}:(Bh a k v x).2=true↔Cx a k v x/\(Bz a k 4096 v x).2=true:=by
 unfold Bh;by_cases h:Cx a k v x/\(Bz a k 4096 v x).2=true
 ·rw[ab h];exact⟨λ_=>h,λ_=>rfl⟩
 ·rw[aa h];exact⟨λq=>(by cases q),λq=>absurd q h⟩
theorem Ztu {a k c v x:Int} (D:Plan3 a k c) (h:(Bh a k v x).2=true):(Bh a k (v+AJ a k v x) (AJ a k v x)).2=true/\
  (Bh a k v x).1=if v<=0 then []else(v+AJ a k v x)::(Bh a k (v+AJ a k v x) (AJ a k v x)).1:=by
 obtain⟨G,I⟩:=Jr.1 h;have O:=closed D G;have U:=Io D O.1;by_cases L:v<=0
 ·have S:v=0:=by have:=Io D G;omega
  have hb:AJ a k v x=0:=by
   obtain⟨B,hB⟩:∃B,B=bs k v 20 (-x-k) (min (k-x) a):=⟨_,rfl⟩;obtain⟨V,X,Y,q4,M,q6⟩:=Qyb D G hB;have:=Lh (k:=k) (b:=B) (by have:=D.b;omega);have hx:=G.2.2.2.2 S;have ha:=D.a;have e:AJ a k v x= -B:=by unfold AJ;rw[hB]
   rw[e];rcases M with M|M
   ·omega
   ·by_cases N:B+1<=0
    ·rw[Ks N]at M;omega
    ·omega
  have e0:Bz a k 4096 0 0=([],true):=by unfold Bz;rw[ab]
  refine⟨?_,?_⟩
  ·rw[hb,S];refine Jr.2 ⟨?_,by rw[show(0:Int)+0=0 from rfl,e0]⟩;have:=O.1;rw[hb,S]at this;exact this
  ·rw[ab L];unfold Bh;rw[ab ⟨G,I⟩];unfold Bz;rw[ab L]
 ·have e:Bz a k 4096 v x=((v+AJ a k v x)::(Bz a k 4095 (v+AJ a k v x) (AJ a k v x)).1,(Bz a k 4095 (v+AJ a k v x) (AJ a k v x)).2):=by
   show(if v<=0 then _ else _)=_;rw[aa L]
  rw[e]at I;have T:=Zad a k 4095 _ _ I;have N:(Bh a k (v+AJ a k v x) (AJ a k v x)).2=true:=Jr.2 ⟨O.1,by rw[T];exact I⟩;refine⟨N,?_⟩;rw[aa L];have e2:(Bh a k v x).1=(Bz a k 4096 v x).1:=by unfold Bh;rw[ab (Jr.1 h)]
  have e3:(Bh a k (v+AJ a k v x) (AJ a k v x)).1=(Bz a k 4096 (v+AJ a k v x) (AJ a k v x)).1:=by unfold Bh;rw[ab (Jr.1 N)]
  rw[e2,e3,T,e]
structure KOK (K : Kf) : Prop where
 f:Fix K.p K.x K.t
 plan:Plan3 K.pa K.pb K.pc
 aF:∀g∈K.p.aF,0<=g.aU/\g.aU<K.aA.length/\i64 g.aX
 aD:∀m∈K.p.aD,0<=m.aU/\m.aU<K.aA.length/\i64 m.at_
 count:K.p.aD.length<=1000000
 aS:∀it∈K.aA,it.aP=8->i64 it.aS
 len:i64 K.len
 set:i64 K.set
theorem RT (K:Kf) (c:Cv):Db (Ad K c)=some [I (V (c.m0.tdiv 256))]:=by
 show Qhw (Ad K c)=_;rw[Zug]
abbrev AI (c:Cv):Int:=V (c.m0.tdiv 256)
theorem Yaq {c:Cv} {s:Int} (D:Z (Ad K c)=some [I (AI c)]) (G:M (Br K.t++[I (AI c)])=some [I s]):YT M Z (Ad K c)=some [I s]:=by
 rw[Z2i,D];simp only[af,gA,wA,bA,jA,CM,Dw];rw[G];rfl
abbrev A4 (K:Kf) (c:Cv):Int:=BK K.t (AI c)
theorem UD (h:KOK K) (c:Cv):DG (Ad K c)=some [I (A4 K c)]:=Yaq (RT K c) (UU h.f.t.q (AI c))
theorem Ztf (K:Kf) (c:Cv):Om (Ad K c)=some (I 3::Ad K {c with next:=V (c.idx+1),on:=false,idx:=0,aN:=false,cnt:=0}):=by
 show Qer (Ad K c)=_;rw[Zud]
theorem Zt9 (K:Kf) (c:Cv):GC (Ad K c)=some (Ad K (if c.g0=0 then{c with o2:=true,g0:=1,g1:=18,g2:= -1}else c)):=by
 show Qpg (Ad K c)=_;rw[Zmc];cases h:(c.g0==0)
 ·rw[aa (by simpa using h)];rfl
 ·rw[ab (by simpa using h)];rfl
def nxL (K:Kf) (c:Cv) (l:Int):List AC:=pxt K.p K.x K.t [I K.pa,I K.pb,I K.pc,I c.o0,I c.o1,B c.o2,B c.o3,B c.o4,I c.m0,I c.m1,I c.m2,I c.m3,I c.m4,I c.m5,I l]
def nxV (K:Kf) (c:Cv) (l:Int):Int:=gA ((Fi (nxL K c l)).getD []) 1
def Mo (K:Kf) (c:Cv):Prop:=(Bh K.pa K.pb c.m1 c.m2).2=true
theorem Mo.ready {c:Cv} (h:Mo K c):Cx K.pa K.pb c.m1 c.m2:=(Jr.1 h).1
theorem Zjr {c:Cv} (D:Plan3 K.pa K.pb K.pc) (I:Mo K c) {v:Int} (G:v=V (c.m1+AJ K.pa K.pb c.m1 c.m2)):v=c.m1+AJ K.pa K.pb c.m1 c.m2/\V (v-c.m1)=AJ K.pa K.pb c.m1 c.m2/\(Bh K.pa K.pb v (V (v-c.m1))).2=true:=by
 have L:=Io D I.ready;have M:=Io D (closed D I.ready).1;rw[Ae]at G;have e:V (v-c.m1)=AJ K.pa K.pb c.m1 c.m2:=by rw[G,Ae];omega
 refine⟨G,e,?_⟩;rw[e,G];exact(Ztu D I).1
theorem Q4r {c:Cv} (D:Plan3 K.pa K.pb K.pc) (G:Mo K c):Out (λo=>∃r:Int,o=[I r]/\r=AJ K.pa K.pb c.m1 c.m2) (E4 [I K.pa,I K.pb,I K.pc,I c.m1,I c.m2]):=
 ⟨_,Qsl D G.ready,_,rfl,rfl⟩
theorem Zwb {x:Ax3} (h:Fix p x t) (a b c o0 o1:Int) (D b1 b2:Bool) (m0 m1 m2 m3 m4 m5:Int):Out (λo=>bA o 0=true->True) (LX (EL p t [I a,I b,I c,I o0,I o1,B D,B b1,B b2,I m0,I m1,I m2,I m3,I m4,I m5])):=
 (Out.of (Zu9 h a b c o0 o1 D b1 b2 m0 m1 m2 m3 m4 m5)).mono λ_ _ _=>trivial
theorem Q4h (h:KOK K) {c:Cv} (D:Mo K c) (l:Int) (G:Bool):Out (Qa5 c.m0 c.m1 c.m3 c.m4 (λv=>(Bh K.pa K.pb v (V (v-c.m1))).2=true) λr=>r=AJ K.pa K.pb c.m1 c.m2)
  (Fi (pxt K.p K.x K.t [I K.pa,I K.pb,I K.pc,I c.o0,I c.o1,B G,B c.o3,B c.o4,I c.m0,I c.m1,I c.m2,I c.m3,I c.m4,I c.m5,I l])):=
 Zk7 (F:=λ_=>True) (by have:=h.plan.b;omega) (Q4r h.plan D) (λv _ _ _=>Qsj h.f h.plan _ _ _ _ _ _ _) (λv=>Zwb h.f ..) Q3m Q9u (λ_ L=>Zhm L)
def RX (m0 m1 m3 m4:Int) (Q R:Int->Prop) (o:List AC):Prop:=∃v s b z g e:Int,o=Eo m0 m1 m3 m4 v++[I s,I b,I z,I g,I e]/\(Q v\/∃r:Int,v=V (m1+r)/\R r)
theorem Zc3 {x:Ax3} {a b c:Int} {b0 b1 b2:Bool} {m0 m1 m2 m3 m4 m5 l aX g0 g1 g2 L N U:Int} {Q R:Int->Prop}
  (hN:Out (Qa5 m0 m1 m3 m4 Q R) (M (pxt p x t [I a,I b,I c,I k,I u,B false,B b1,B b2,I m0,I m1,I m2,I m3,I m4,I m5,I l])))
  (hB:Out (λo=>∃r:Int,o=[I r]/\R r) (Z [I a,I b,I c,I m1,I m2]))
  (X:∀a b c x3 x4 x5 x6 x7 x8,(W [I a,I b,I c,I x3,I x4,I x5,I x6,I x7,I x8]).isSome=true)
  (Y:∀v:Int,Out (λo=>bA o 0=true->Q v) (T (pxt p x t [I a,I b,I c,I (V (m0+v)),I v,I (V (v-m1)),I m0,I m3,I m4,I l])))
  (G:∀m0 m1 m2 m3 m4 m5 v,S [I m0,I m1,I m2,I m3,I m4,I m5,I v]=some (Eo m0 m1 m3 m4 v))
  (hF:∀v,i64 v->(P [I aX,I v]).isSome=true) (hD:∀a b,∃v,O [I a,I b]=some [I v]/\i64 v):
  Out (RX m0 m1 m3 m4 Q R) (Qlc M Z W T S P O (pxt p x t [I a,I b,I c,I k,I u,B b0,B b1,B b2,I m0,I m1,I m2,I m3,I m4,I m5,I l,I aX,I g0,I g1,I g2,I L,I N,I U])):=by
 rw[Z1p];obtain⟨v1,e1,w1⟩:=hD U g2;obtain⟨v2,e2,w2⟩:=hD N g2;rw[e1,e2];simp only[af,gA,wA,bA,jA,CM,Ea,Dw];have next:∀s D z g e:Int,Out (RX m0 m1 m3 m4 Q R) ((M (pxt p x t [I a,I b,I c,I k,I u,B false,B b1,B b2,I m0,I m1,I m2,I m3,I m4,I m5,I l])).bind λo=>some [I (gA o 0),I (gA o 1),I (gA o 2),I (gA o 3),I (gA o 4),I (gA o 5),I s,I D,I z,I g,I e]):=λs D z g e=>by
  refine .bind hN λo h=> ?_;obtain⟨v,rfl,h⟩:=h;exact .some ⟨v,s,D,z,g,e,rfl,h⟩
 refine .ibind (hF _ w1) λf1 _=> .cond (λ_=> ?_) λ_=> .cond (λ_=> ?_) λ_=>next _ _ _ _ _
 ·refine .ibind (hF _ w2) λf2 _=> ?_;rw[G];generalize V (Af (nth AC.vD f1 0)-Af (nth AC.vD f2 0))=v;simp only[af,gA,wA,bA,jA,CM,Ea,Dw];refine .cond (λ_=> ?_) λ_=>next _ _ _ _ _
  refine .bind (Y v) λo h=> .cond (λc=> ?_) λ_=>next _ _ _ _ _
  exact .some ⟨v,_,_,_,_,_,rfl, .inl (h c)⟩
 ·rw[G];generalize V (V (V (g1+Af (nth AC.vD f1 0))-L)-m0)=v;simp only[af,gA,wA,bA,jA,CM,Ea,Dw];have stop:∀s D z g e:Int,Out (RX m0 m1 m3 m4 Q R) ((Z [I a,I b,I c,I m1,I m2]).bind λo=>(S [I m0,I m1,I m2,I m3,I m4,I m5,I (V (m1+gA o 0))]).bind λq=>some [I (gA q 0),I (gA q 1),I (gA q 2),I (gA q 3),I (gA q 4),I (gA q 5),I s,I D,I z,I g,I e]):=λs D z g e=>by
   refine .bind hB λo h=> ?_;obtain⟨r,rfl,hr⟩:=h;rw[G];exact .some ⟨_,s,D,z,g,e,rfl, .inr ⟨r,rfl,hr⟩⟩
  refine .cond (λ_=> ?_) λ_=> ?_
  ·refine .bind (Y v) λo h=> .cond (λc=> ?_) λ_=> ?_
   ·exact .some ⟨v,_,_,_,_,_,rfl, .inl (h c)⟩
   ·refine .ibind (X _ _ _ _ _ _ _ _ _) λ_ _=> .cond (λ_=> .cond (λ_=>stop _ _ _ _ _) λ_=>stop _ _ _ _ _) λ_=>stop _ _ _ _ _
  ·refine .ibind (X _ _ _ _ _ _ _ _ _) λ_ _=> .cond (λ_=> .cond (λ_=>stop _ _ _ _ _) λ_=>stop _ _ _ _ _) λ_=>stop _ _ _ _ _
theorem Zw0 (h:KOK K) {c:Cv} (D:Mo K c) (l:Int) {aX:Int} (G:i64 aX):Out (RX c.m0 c.m1 c.m3 c.m4 (λv=>(Bh K.pa K.pb v (V (v-c.m1))).2=true) λr=>r=AJ K.pa K.pb c.m1 c.m2)
  (JK (pxt K.p K.x K.t [I K.pa,I K.pb,I K.pc,I c.o0,I c.o1,B c.o2,B c.o3,B c.o4,I c.m0,I c.m1,I c.m2,I c.m3,I c.m4,I c.m5,I l,I aX,I c.e0,I c.e1,I c.e2,I c.e3,I c.before,I c.s3])):=
 Zc3 (Q4h h D l false) (Q4r h.plan D) Zg6 (λv=>Qsj h.f h.plan _ _ _ _ _ _ _) Q3m (λ_ L=>Z7y G L) Zzq
theorem Qui (h:KOK K) {c:Cv} (G:Mo K c) {v:Int} (I:(Bh K.pa K.pb v (V (v-c.m1))).2=true\/∃r:Int,v=V (c.m1+r)/\r=AJ K.pa K.pb c.m1 c.m2):(Bh K.pa K.pb v (V (v-c.m1))).2=true:=by
 rcases I with D|⟨r,D,L⟩
 ·exact D
 ·subst L;exact(Zjr h.plan G D).2.2
theorem Qn3 {a k c:Int} (D:Plan3 a k c):(Bh a k 0 0).2=true:=by
 refine Jr.2 ⟨?_,by unfold Bz;rw[ab]⟩;have G:=D.a;have hb:=D.b
 refine⟨by omega,by omega,?_,?_,λ_=>by omega⟩
 ·rw[Ks (by omega)];omega
 ·rw[Ks (by omega)];omega
theorem Qys (K:Kf) {i:Nat} (h:i<K.aA.length):nth [] (K.aA.map Ag) i=Ag K.aA[i]:=by
 rw[BV,List.getD,d8,al h];rfl
theorem Z38 (K:Kf) {i:Nat} (h:i<K.p.aD.length):nth [] (K.p.aD.map At) i=At K.p.aD[i]:=by
 rw[BV,List.getD,d8,al h];rfl
theorem Zqr (h:KOK K) (i:Nat) (D:gA (nth [] (K.aA.map Ag) i) 0=8):i64 (gA (nth [] (K.aA.map Ag) i) 20):=by
 by_cases c:i<K.aA.length
 ·rw[Qys K c]at D⊢;exact h.aS _ (cg c) D
 ·have e:nth [] (K.aA.map Ag) i=[]:=by
   rw[BV,List.getD,db (by rw[ah];omega)];rfl
  rw[e];show i64 0;unfold i64;omega
structure Gd (K : Kf) (n : Int) (c : Cv) : Prop where
 way:c.way=0
 pass:0<=c.aK/\c.aK<=K.p.aD.length
 task:c.on=true->0<=c.idx/\c.idx<K.p.aD.length
 mo:Mo K c
 m0: -(16777216*n)<=c.m0/\c.m0<=16777216*n
theorem Gd.up {n:Int} {c:Cv} (h:Gd K n c) (D:0<=n):Gd K (n+1) c:=
 ⟨h.way,h.pass,h.task,h.mo,by have:=h.m0;omega⟩
theorem Gd.bC (h:KOK K) {n:Int} {c:Cv} (g:Gd K n c) (I:0<=n/\n<=10000) {v:Int} (G:(Bh K.pa K.pb v (V (v-c.m1))).2=true\/∃r:Int,v=V (c.m1+r)/\r=AJ K.pa K.pb c.m1 c.m2):
  Gd K (n+1) {c with m0:=V (c.m0+v),m1:=v,m2:=V (v-c.m1),m3:=c.m0,m4:=c.m3,m5:=c.m4}:=by
 have L:=g.m0;have D:=Qui h g.mo G;have M:=Io h.plan (Jr.1 D).1;refine⟨g.way,g.pass,g.task,D,?_⟩;show-(16777216*(n+1))<=V (c.m0+v)/\V (c.m0+v)<=16777216*(n+1);rw[Ae];omega
theorem Gd.same {n:Int} {c c':Cv} (g:Gd K n c) (D:c'.way=c.way) (G:c'.aK=c.aK) (I:c'.on=c.on) (L:c'.idx=c.idx) (M:c'.m0=c.m0) (N:c'.m1=c.m1) (O:c'.m2=c.m2):Gd K n c':=
 ⟨D▸g.way,G▸g.pass,by rw[I,L];exact g.task,by have:=g.mo;unfold Mo at*;rw[N,O];exact this,M▸g.m0⟩
theorem Zsv {c:Cv} (h:c.way=0):KR (Ad K c)=some (I 0::B false::Ad K c):=by
 have key:∀{A B':Fn},XS A B' (Ad K c)=some (I 0::B false::Ad K c):=by
  intro A B';rw[Zor,By (by simp[h])]
 exact key
abbrev stand (c:Cv):Cv:={c with m0:=V (AI c*256),m1:=0,m2:=0,m3:=V (AI c*256),m4:=V (AI c*256),m5:=V (AI c*256)}
theorem Qzk (u:Int):Je [I u]=some [I (V (u*256)),I 0,I 0,I (V (u*256)),I (V (u*256)),I (V (u*256))]:=by
 show Qay [I u]=_;rw[Z5y]
theorem Zi1 {c:Cv} (D:Z (Ad K c)=some [I (AI c)]) (G:∀u:Int,M [I u]=some [I (V (u*256)),I 0,I 0,I (V (u*256)),I (V (u*256)),I (V (u*256))]):
  Qi4 M Z (Ad K c)=some (if c.g0=2 then I 6::B true::Ad K (stand c)else I 0::B false::Ad K c):=by
 rw[Zq7];by_cases h:c.g0=2
 ·rw[ab h,Be (by simp[h]),D];simp only[af,gA,wA,bA,jA,CM,Dw];rw[G];rfl
 ·rw[aa h,By (by simpa using h)]
theorem Zs3 (K:Kf) (c:Cv):K_ (Ad K c)=some (if c.g0=2 then I 6::B true::Ad K (stand c)else I 0::B false::Ad K c):=Zi1 (RT K c) Qzk
theorem Zhu (K:Kf) (c:Cv):Lb (Ad K c)=some (I c.aI::B (c.aI !=0)::Ad K c):=by
 show Vn (Ad K c)=_;rw[Zd5]
theorem Zpu (K:Kf) (c:Cv):Lv (Ad K c)=some (if c.aH=true/\c.aM=true then I 8::B true::Ad K {c with aI:=8}else I 0::B false::Ad K c):=by
 show Qig (Ad K c)=_;rw[Zk5];by_cases h:c.aH=true
 ·by_cases D:c.aM=true
  ·rw[ab ⟨h,D⟩,Be (by simp[h]),Be (by simp[D]),h,D]
  ·rw[aa (λe=>D e.2),Be (by simp[h]),By (by simpa using D)]
 ·rw[aa (λe=>h e.1),By (by simpa using h)]
theorem Qub (h: -v<=a/\a<=v): -v<=a.tdiv 256*256/\a.tdiv 256*256<=v:=by
 by_cases k:0<=a
 ·rw[bp k];omega
 ·obtain⟨b,rfl⟩:∃b,a= -b:=⟨-a,by omega⟩;rw[Int.neg_tdiv,bp (by omega)];omega
theorem Gd.stand (h:KOK K) {n:Int} {c:Cv} (g:Gd K n c) (D:0<=n/\n<=10000):Gd K n (stand c)/\AI (stand c)=AI c:=by
 have G:=Qub g.m0;have e:AI c=c.m0.tdiv 256:=Ae;have e2:(Go.Bm.stand c).m0=c.m0.tdiv 256*256:=by
  show V (AI c*256)=_;rw[e,Ae]
 refine⟨⟨g.way,g.pass,g.task,Qn3 h.plan,?_⟩,?_⟩
 ·rw[e2];omega
 ·show V ((Go.Bm.stand c).m0.tdiv 256)=_;rw[e2,Int.mul_tdiv_cancel _ (by omega),e,Ae]
theorem Out.eqv {α:Type} {p:α->Prop} {a b:Option α} (h:a=b) (g:Out p b):Out p a:=h▸g
abbrev Ne (D outs:Rw) (mode s:Int) (m:Pt) (G fault:Int):List AC:=[.vC kPt D, .vC Aa outs,I mode,I s,I m.x,I m.y,I m.z,I G,I fault]
abbrev Ep:List AC:=[.vC kPt [], .vC Aa [],I 0,I 0,I 0,I 0,I 0,I 0,I 0]
theorem Sb {n:Int} {c:Cv} (g:Gd K n c) (G:0<=n/\n<=10010): -300000000000<=AI c/\AI c<=300000000000:=by
 have h:=g.m0;have D: -300000000000<=c.m0/\c.m0<=300000000000:=by omega
 have I:=Qub D;have e:AI c=c.m0.tdiv 256:=Ae;omega
theorem Zqi (r k:Int):(AR r k=r/\AT r k=0)\/(AR r k=0/\AT r k=r)\/(AR r k= -r/\AT r k=0)\/(AR r k=0/\AT r k= -r):=by
 have D:k%4=0\/k%4=1\/k%4=2\/k%4=3:=by omega
 unfold AR AT;rcases D with h|h|h|h<;>simp[h]
theorem Q6i (r k:Int):sq2 (AR r k) (AT r k)=r*r:=by
 unfold sq2;rcases Zqi r k with⟨D,G⟩|⟨D,G⟩|⟨D,G⟩|⟨D,G⟩<;>rw[D,G]<;>grind
theorem Zg3 (G:v=1\/v=2\/v=3) (I:0<a) (L:0<b):crs (AR a k) (AT a k) (AR b (k+v)) (AT b (k+v))≠0\/dt2 (AR a k) (AT a k) (AR b (k+v)) (AT b (k+v))<0:=by
 have M:k%4=0\/k%4=1\/k%4=2\/k%4=3:=by omega
 have N:0<a*b:=Int.mul_pos I L;have T: -a*b= -(a*b)/\a* -b= -(a*b)/\ -a* -b=a*b:=⟨Int.neg_mul ..,Int.mul_neg ..,Int.neg_mul_neg ..⟩;have e:∀j:Int,(k+v)%4=j->∀i:Int,k%4=i->crs (AR a k) (AT a k) (AR b (k+v)) (AT b (k+v))=(if i=0 then a else if i=2 then-a else 0)*(if j=1 then b else if j=3 then-b else 0)-(if i=1 then a else if i=3 then-a else 0)*(if j=0 then b else if j=2 then-b else 0)/\
   dt2 (AR a k) (AT a k) (AR b (k+v)) (AT b (k+v))=(if i=0 then a else if i=2 then-a else 0)*(if j=0 then b else if j=2 then-b else 0)+(if i=1 then a else if i=3 then-a else 0)*(if j=1 then b else if j=3 then-b else 0):=by
  intro j O i S;subst O S;exact⟨rfl,rfl⟩
 rcases G with rfl|rfl|rfl<;>rcases M with D|D|D|D
 ·obtain⟨e1,e2⟩:=e 1 (by omega) _ D;simp at e1 e2;omega
 ·obtain⟨e1,e2⟩:=e 2 (by omega) _ D;simp at e1 e2;omega
 ·obtain⟨e1,e2⟩:=e 3 (by omega) _ D;simp at e1 e2;omega
 ·obtain⟨e1,e2⟩:=e 0 (by omega) _ D;simp at e1 e2;omega
 ·obtain⟨e1,e2⟩:=e 2 (by omega) _ D;simp at e1 e2;omega
 ·obtain⟨e1,e2⟩:=e 3 (by omega) _ D;simp at e1 e2;omega
 ·obtain⟨e1,e2⟩:=e 0 (by omega) _ D;simp at e1 e2;omega
 ·obtain⟨e1,e2⟩:=e 1 (by omega) _ D;simp at e1 e2;omega
 ·obtain⟨e1,e2⟩:=e 3 (by omega) _ D;simp at e1 e2;omega
 ·obtain⟨e1,e2⟩:=e 0 (by omega) _ D;simp at e1 e2;omega
 ·obtain⟨e1,e2⟩:=e 1 (by omega) _ D;simp at e1 e2;omega
 ·obtain⟨e1,e2⟩:=e 2 (by omega) _ D;simp at e1 e2;omega
theorem Ztk {it:Itm} (h:ArcMade a it):Qha it:=by
 obtain⟨r,k,t,g,x,M,h2,h3,h4,h5,h6,N,T,h9,O,I,D,L⟩:=h.ends;have G:=h.aG;have a1:dU it it.fr=AR r k:=by unfold dU;rw[D,(ND G).1];omega
 have a2:dW it it.fr=AT r k:=by unfold dW;rw[D,(ND G).2.1];omega
 have a3:dU it it.to=AR (r+g) (k+t):=by unfold dU;rw[D,L,(ND G).1,(ND G).1];omega
 have a4:dW it it.to=AT (r+g) (k+t):=by unfold dW;rw[D,L,(ND G).2.1,(ND G).2.1];omega
 have V:qA it=r*r:=by unfold qA;rw[a1,a2,Q6i]
 have X:qB it=(r+g)*(r+g):=by unfold qB;rw[a3,a4,Q6i]
 have m1:64<=r*r:=by
  have:=fj M M (by omega) (by omega);omega
 have m2:64<=(r+g)*(r+g):=by
  have:=fj (show(8:Int)<=r+g by omega) (show(8:Int)<=r+g by omega) (by omega) (by omega);omega
 unfold Qha;refine⟨by omega,by omega,?_,?_,?_⟩
 ·rw[V,X];unfold H2;right;have hg:g*g<=16:=by
   have:=fj T T N (by omega);omega
  have e1:r*r+(r+g)*(r+g)-16=2*(r*(r+g))+(g*g-16):=by grind
  have U:0<=r*(r+g):=f8 (by omega) (by omega);have Y:64<=r*(r+g):=by
   have:=fj M (show(8:Int)<=r+g by omega) (by omega) (by omega);omega
  have a0:0<=g*g:=f8 N N;have e2:4*(r*r)*((r+g)*(r+g))=(2*(r*(r+g)))*(2*(r*(r+g))):=by grind
  rw[e1,e2];generalize 2*(r*(r+g))=m at*;exact ij (by omega) (by omega)
 ·intro hf;rw[I]at hf;have S:=of_decide_eq_true hf;rw[a1,a2,a3,a4,S,O S,jl,jl];exact⟨rfl,rfl⟩
 ·intro hf;rw[I]at hf;have S:=of_decide_eq_false hf;unfold cAB dAB;rw[a1,a2,a3,a4];exact Zg3 (by omega) (by omega) (by omega)
theorem Z5t {it:Itm} (h:Made it) (G:bd 1000000 it.fr) (I:bd 1000000 it.to):Dt it:=by
 refine⟨h.aP,AY G (by omega),AY I (by omega),λL=> ?_⟩;have D:=h.arc L;exact⟨D.aG,D.dir,AY (Qjf D (by omega) G).2 (by omega),Ztk D⟩
end Go.Bm
namespace Go.Bm
open Classical
structure Oth (it : Itm) : Prop where
 aP:7<=it.aP/\it.aP<=14
 spin:it.aP=8->3<=it.n/\it.n<=5/\0<=it.aS/\it.aS<=4000
 dwell:it.aP=7->0<=it.n/\it.n<=4
 out:it.aP=10->0<=it.n/\it.n<=15
def Fg:Pt->List Itm->Prop
 |_,[]=>True
 |p,it::l=>if AB it then it.fr=p/\Fg it.to l else Fg p l
def Ev:Pt->List Itm->Pt
 |p,[]=>p
 |p,it::l=>if AB it then Ev it.to l else Ev p l
theorem Ws {it:Itm}:∀{l:List Itm} {p:Pt},Fg p l->(AB it->it.fr=Ev p l)->Fg p (l++[it])
 |[],p,_,h=>by
  simp only[bc,Fg];split
  ·rename_i c;exact⟨h c,trivial⟩
  ·trivial
 |a::l,p,D,h=>by
  simp only[az,Fg]at D⊢;unfold Ev at h;by_cases c:AB a
  ·rw[ab c]at D h⊢;exact⟨D.1,Ws D.2 h⟩
  ·rw[aa c]at D h⊢;exact Ws D h
theorem IZ {it:Itm}:∀{l:List Itm} {p:Pt},Ev p (l++[it])=if AB it then it.to else Ev p l
 |[],p=>by simp only[bc,Ev]
 |a::l,p=>by
  simp only[az,Ev];by_cases c:AB a
  ·rw[ab c,ab c];exact IZ
  ·rw[aa c,aa c];exact IZ
structure Items (A : Nat) (p : Pt) (l : List Itm) : Prop where
 link:Fg p l
 made:∀it∈l,(AB it/\Made it/\F7 it/\bd A it.fr/\bd A it.to)\/Oth it
theorem PM {l:List Itm} {it:Itm} (h:Items A H l) (G:AB it->it.fr=Ev H l) (I:(AB it/\Made it/\F7 it/\bd A it.fr/\bd A it.to)\/Oth it):Items A H (l++[it]):=by
 refine⟨Ws h.link G,λi D=> ?_⟩;simp only[bn,du]at D;rcases D with D|rfl
 ·exact h.made i D
 ·exact I
theorem P2 {it:Itm} (h:Oth it): ¬AB it:=λg=>by have:=h.aP;have:=g.2;omega
theorem Z3v (G:GH l M) (k:Nat):
  ∃(it:Itm) (k':Nat),Yt M [.vC Aa l,I k]=some (Ag it++[.vC Aa l,I k'])/\k<=k'/\Oth it/\it.aP≠14:=by
 rw[Zjt];obtain⟨D,k0,e0,a0,b0,O,-,-⟩:=G k (n:=8) (by omega);obtain⟨v1,k1,e1,a1,b1,S,-,-⟩:=G k0 (n:=16) (by omega);obtain⟨v2,k2,e2,a2,b2,T,-,-⟩:=G k1 (n:=2) (by omega);obtain⟨v3,k3,e3,a3,b3,U,-,-⟩:=G k0 (n:=5) (by omega);obtain⟨v4,k4,e4,a4,b4,V,-,-⟩:=G k0 (n:=3) (by omega);obtain⟨v5,k5,e5,a5,b5,X,-,-⟩:=G k4 (n:=4000) (by omega);simp only[go_sem,e0,e1,e2,e3,e4,e5];rw[Ae (x:=3+v4)];have fin:∀(N n Y:Int) (on:Bool) (k':Nat),k<=k'->N≠14->Oth ⟨N,0,⟨0,0,0⟩,⟨0,0,0⟩,0,⟨0,0,0⟩,0,false,0,false,0,0,0,n,Y,on⟩->
   ∃(it:Itm) (L:Nat),some [I N,I 0,I 0,I 0,I 0,I 0,I 0,I 0,I 0,I 0,I 0,I 0,I 0,B false,I 0,B false,I 0,I 0,I 0,I n,I Y,B on, .vC Aa l,I k']=some (Ag it++[.vC Aa l,I L])/\k<=L/\Oth it/\it.aP≠14:=by
  intro N n Y on k' h1 h0 h2;exact⟨_,k',rfl,h1,h2,h0⟩
 by_cases O:D=0
 ·rw[ab O];exact fin _ _ _ _ _ (by omega) (by omega) ⟨by simp only;omega,by simp,by simp,λ_=>by simp only;omega⟩
 rw[aa O];by_cases S:D=1
 ·rw[ab S];exact fin _ _ _ _ _ (by omega) (by omega) ⟨by simp only;omega,by simp,by simp,λ_=>by simp only;omega⟩
 rw[aa S];by_cases T:D=2
 ·rw[ab T];exact fin _ _ _ _ _ (by omega) (by omega) ⟨by simp only;omega,by simp,λ_=>by simp only;omega,by simp⟩
 rw[aa T];by_cases U:D=3
 ·rw[ab U];exact fin _ _ _ _ _ (by omega) (by omega) ⟨by simp only;omega,λ_=>by simp only;omega,by simp,by simp⟩
 rw[aa U];by_cases V:D=4
 ·rw[ab V];exact fin _ _ _ _ _ (by omega) (by omega) ⟨by simp only;omega,by simp,by simp,by simp⟩
 rw[aa V];by_cases X:D=5
 ·rw[ab X];exact fin _ _ _ _ _ (by omega) (by omega) ⟨by simp only;omega,by simp,by simp,by simp⟩
 rw[aa X];by_cases c6:D=6
 ·rw[ab c6];exact fin _ _ _ _ _ (by omega) (by omega) ⟨by simp only;omega,by simp,by simp,by simp⟩
 rw[aa c6];exact fin _ _ _ _ _ (by omega) (by omega) ⟨by simp only;omega,by simp,by simp,by simp⟩
theorem Zgx (D:Src l) (k:Nat):∃(it:Itm) (k':Nat),LI [.vC Aa l,I k]=some (Ag it++[.vC Aa l,I k'])/\k<=k'/\Oth it/\it.aP≠14:=Z3v (Hg D) k
theorem Zg0 (h:0<=v/\v<8):∃x,Af (nth .vD (nth [] [[I 2],[I 2],[I 2],[I 3],[I 1],[I 6],[I 5],[I 4]] v.toNat) 0)=x/\1<=x/\x<=6:=by
 have D:v=0\/v=1\/v=2\/v=3\/v=4\/v=5\/v=6\/v=7:=by omega
 rcases D with rfl|rfl|rfl|rfl|rfl|rfl|rfl|rfl<;>exact⟨_,rfl,by decide⟩
theorem S9 {l:List Itm} {it:Itm} (h:∀x∈l,x.aP≠14) (G:it.aP≠14):∀x∈l++[it],x.aP≠14:=λx D=>by
 simp only[bn,du]at D;rcases D with D|rfl
 ·exact h x D
 ·exact G
theorem Zt4 {MM MO ML MN MF:Fn} (Y:GH l MN)
  (hM : ∀ {p : Pt}, bd 100000000 p -> ∀ {aP : Int}, (1 <= aP /\ aP <= 6) -> ∀ k : Nat,
   ∃(it:Itm) (k':Nat),MM [I p.x,I p.y,I p.z,I aP, .vC Aa l,I k]=some (Ag it++[.vC Aa l,I k'])/\k<=k'/\it.fr=p/\it.aP=aP/\Made it/\F7 it)
  (hO:∀k:Nat,∃(it:Itm) (k':Nat),MO [.vC Aa l,I k]=some (Ag it++[.vC Aa l,I k'])/\k<=k'/\Oth it/\it.aP≠14)
  (hL:∀k:Nat,ML [.vC Aa l,I k]=some [B (decide (k<l.length)), .vC Aa l,I k]) {D:Int} {fin:Bool} (hm:D<=100) {p:Pt}:
  ∀s:List Itm×Nat,(Items (4+40*102) p s.1/\bd (4+40*s.1.length) (Ev p s.1)/\(s.1=[]\/s.1.length<=D+1)/\∀it∈s.1,it.aP≠14)->
   ∃o,Am (Qpz MM MO ML MN MF) [.vC Ah (s.1.map Ag),I D,B fin,I (Ev p s.1).x,I (Ev p s.1).y,I (Ev p s.1).z, .vC Aa l,I s.2]=some o/\o.1≠0/\
    ∃aA,o=(1,[.vC Ah (aA.map Ag),B fin])/\Items (4+40*102) p aA/\(aA=[]\/aA.length<=D+1)/\∀it∈aA,it.aP≠14:=by
 refine Qwi (S:=List Itm×Nat) (λs=>[.vC Ah (s.1.map Ag),I D,B fin,I (Ev p s.1).x,I (Ev p s.1).y,I (Ev p s.1).z, .vC Aa l,I s.2]) _ (λs=>l.length-s.2) _ ?_;rintro⟨aA,k⟩ ⟨O,U,h3,T⟩;simp only at O U h3 T;simp only;rw[Z3p];simp only[go_sem,hL,ah];by_cases c1:(aA.length:Int)<D
 case neg=>
  rw[aa c1];exact .inr ⟨_,rfl,by simp,aA,rfl,O,h3,T⟩
 rw[ab c1];by_cases c2:k<l.length
 case neg=>
  rw[aa (by simpa using c2)];exact .inr ⟨_,rfl,by simp,aA,rfl,O,h3,T⟩
 rw[ab (by simpa using c2)];obtain⟨v,k1,e1,a1,b1,d1,d2,-⟩:=Y k (n:=12) (by omega);have d3:=d2 c2;subst d3;simp only[go_sem,e1];have a0:aA.length<100:=by omega
 by_cases c3:v<4
 ·rw[ab c3];obtain⟨it,X,e2,g1,g2,g0⟩:=hO (k+1);have G:=P2 g2;simp only[go_sem,e2,Ag,az,bc];rw[ab (by simp;omega)];left;refine⟨(aA++[it],X),?_,⟨PM O (λh=>absurd h G) (.inr g2),?_, .inr ?_,S9 T g0⟩,?_⟩
  ·simp only[IZ,aa G,bv,ba,dp,Ag]
  ·simp only[IZ,aa G,ap,dv];exact AY U (by omega)
  ·simp only[ap,dv];omega
  ·simp only;omega
 ·rw[aa c3,Ae];obtain⟨x,hx,a5,a6⟩:=Zg0 (v:=v-4) (by omega);have a2:bd 100000000 (Ev p aA):=AY U (by omega);obtain⟨it,X,e2,g1,g2,g3,g4,g5⟩:=hM a2 (aP:=x) (by omega) (k+1);have L:AB it:=by unfold AB;omega
  have N:=Qt2 g4 (by rw[g2];exact U);rw[ab (by simp;omega)];simp only[go_sem,hx,e2,Ag,az,bc];have M:(AB it/\Made it/\F7 it/\bd (4+40*102) it.fr/\bd (4+40*102) it.to)\/Oth it:= .inl ⟨L,g4,g5,by rw[g2];exact AY U (by omega),AY N (by omega)⟩;by_cases c5:it.aP=5
  ·rw[ab c5];obtain⟨v3,k3,e3,a3,b3,d3,-,-⟩:=Y X (n:=2) (by omega);obtain⟨v4,k4,e4,a4,b4,d4,-,-⟩:=Y k3 (n:=3000) (by omega);simp only[go_sem,e3,e4];rw[Ae (x:=3+v3),Ae (x:=200+v4)];rw[ab (by simp;omega),ab (by simp;omega)];have V:Oth ⟨8,0,⟨0,0,0⟩,⟨0,0,0⟩,0,⟨0,0,0⟩,0,false,0,false,0,0,0,3+v3,200+v4,false⟩:=⟨by simp only;omega,λ_=>by simp only;omega,by simp,by simp⟩;have G:=P2 V;have i1:=PM O (λh=>absurd h G) (.inr V);left;refine⟨(aA++[⟨8,0,⟨0,0,0⟩,⟨0,0,0⟩,0,⟨0,0,0⟩,0,false,0,false,0,0,0,3+v3,200+v4,false⟩]++[it],k4),?_,⟨PM i1 (λ_=>by rw[IZ,aa G];exact g2) M,?_, .inr ?_,S9 (S9 T (by simp only;omega)) (by omega)⟩,?_⟩
   ·simp only[IZ,ab L,bv,ba,dp,Ag]
   ·simp only[IZ,ab L,ap,dv];exact AY N (by omega)
   ·simp only[ap,dv];omega
   ·simp only;omega
  ·rw[aa c5,ab (by simp;omega)];left;refine⟨(aA++[it],X),?_,⟨PM O (λ_=>g2) M,?_, .inr ?_,S9 T (by omega)⟩,?_⟩
   ·simp only[IZ,ab L,bv,ba,dp,Ag]
   ·simp only[IZ,ab L,ap,dv];exact AY N (by omega)
   ·simp only[ap,dv];omega
   ·simp only;omega
def JY:Itm:=⟨14,0,⟨0,0,0⟩,⟨0,0,0⟩,0,⟨0,0,0⟩,0,false,0,false,0,0,0,0,0,false⟩
theorem Qux:Oth JY:=⟨by simp[JY],by simp[JY],by simp[JY],by simp[JY]⟩
theorem Z6b {MM MO ML L T:Fn} (M:GH l L) (Y:T [.vC Aa l]=some [.vC Aa l,I 0]) {D:Int} {fin:Bool} (hm:D<=100)
  (hL:∀(p:Pt) (k:Nat),bd 4 p->∃aA,N [.vC Ah [],I D,B fin,I p.x,I p.y,I p.z, .vC Aa l,I k]=some (1,[.vC Ah (aA.map Ag),B fin])/\Items 4084 p aA/\(aA=[]\/aA.length<=D+1)/\∀it∈aA,it.aP≠14):
  ∃(p:Pt) (aA:List Itm),Qqd MM MO ML L T N [.vC Aa l,I D,B fin]=some [.vC Ah ((aA++if fin=true then [JY]else []).map Ag)]/\Items 4084 p aA/\(aA=[]\/aA.length<=D+1)/\∀it∈aA,it.aP≠14:=by
 obtain⟨O,U,e1,a1,b1,c1,-,-⟩:=M 0 (n:=9) (by omega);obtain⟨V,k2,e2,a2,b2,c2,-,-⟩:=M U (n:=9) (by omega);obtain⟨X,k3,e3,a3,b3,c3,-,-⟩:=M k2 (n:=9) (by omega);obtain⟨aA,h1,h2,G,h0⟩:=hL ⟨O-4,V-4,X-4⟩ k3 ⟨by simp only;omega,by simp only;omega,by simp only;omega⟩;rw[Zs4];have S:L [I 9, .vC Aa l,I 0]=some [I O, .vC Aa l,I U]:=e1;simp only[go_sem,Y,S,e2,e3];rw[Ae (x:=O-4),Ae (x:=V-4),Ae (x:=X-4)];simp only[h1,go_sem];refine⟨_,aA,?_,h2,G,h0⟩;have hlen:aA.length<=101:=by
  rcases G with G|G
  ·rw[G];simp
  ·omega
 cases fin
 ·simp
 ·rw[ab rfl,ab (by simp;omega),ab rfl,bv];rfl
theorem Z01 (L:Src l) {D:Int} (S:D<=100) (fin:Bool):
  ∃(p:Pt) (aA:List Itm),Ot [.vC Aa l,I D,B fin]=some [.vC Ah (aA.map Ag)]/\Items 4084 p aA/\(aA.length:Int)<=max D (-1)+2/\(fin=true->∃l,aA=l++[JY]/\(l.length:Int)<=max D (-1)+1)/\(fin=false->(aA.length:Int)<=max D (-1)+1/\∀it∈aA,it.aP≠14):=by
 obtain⟨p,aA,M,T,G,U⟩:=Z6b (MM:=KO) (MO:=LI) (ML:=FW) (N:=Qbt) (fin:=fin) (Hg L) (Ql l) S λp k O=>by
  obtain⟨o,M,-,aA,rfl,G,V,X⟩:=Zt4 (MF:=Cu) (fin:=fin) (Hg L) (λO _ Y k=>Zt2 L O Y k) (λk=>Zgx L k) (Qt8 l) S (p:=p) ([],k) ⟨⟨trivial,by simp⟩,O, .inl rfl,by simp⟩;exact⟨aA,M,G,V,X⟩
 have hle:(aA.length:Int)<=max D (-1)+1:=by
  rcases G with G|G
  ·rw[G];simp;omega
  ·omega
 refine⟨p,_,M,?_,?_,λhf=> ?_,λhf=> ?_⟩
 ·cases fin
  ·simpa using T
  ·simp only[dq];exact PM T (λh=>absurd h (P2 Qux)) (.inr Qux)
 ·cases fin
  ·simp;omega
  ·simp;omega
 ·subst hf;exact⟨aA,by simp,hle⟩
 ·subst hf;exact⟨by simpa using hle,by simpa using U⟩
theorem Zyi (D:Src l) {most:Int} (G:most<=100) (fin:Bool):
  ∃(p:Pt) (aA:List Itm),Ot [.vC Aa l,I most,B fin]=some [.vC Ah (aA.map Ag)]/\Items 4084 p aA/\(aA.length:Int)<=max most (-1)+2/\(fin=true->∃l,aA=l++[JY]/\(l.length:Int)<=max most (-1)+1)/\(fin=false->(aA.length:Int)<=max most (-1)+1):=by
 obtain⟨p,aA,L,M,N,O,S⟩:=Z01 D G fin;exact⟨p,aA,L,M,N,O,λh=>(S h).1⟩
theorem Ql6 {A:Nat} {aA:List Itm} (G:A<=1000000) (L:∀it∈aA,(AB it/\Made it/\F7 it/\bd A it.fr/\bd A it.to)\/Oth it):∀(k i:Nat) (last:Int) (p:Pt),i+k=aA.length->Fg p (aA.drop i)->(0<=last->(vE aA last.toNat).to=p)->Gu aA k i last=0
 |0,_,_,_,_,_,_=>rfl
 |k+1,i,last,p,hi,h,O=>by
  have D:i<aA.length:=by omega
  have M:=L _ (Zbw D);rw[Qmx D]at h;unfold Fg at h;unfold Gu;have S: ¬Cd (vE aA i):=by
   rcases M with⟨T,I,h3,U,V⟩|N
   ·have X:=Z5t I (AY U G) (AY V G);have hf:=I.aZ;have hb:=I.bH;have Y:=I.aP;rintro(g|g|⟨-,g|g|g|g⟩|⟨g,-⟩)
    ·omega
    ·omega
    ·exact g X
    ·omega
    ·omega
    ·omega
    ·exact g T
   ·have Y:=N.aP;rintro(g|g|⟨g,-⟩|⟨-,g1,g2⟩)
    ·omega
    ·omega
    ·exact P2 N g
    ·have:=N.spin g1;omega
  rw[aa S];by_cases c:AB (vE aA i)
  ·rw[ab c]at h⊢;rw[aa (λg=>g.2 (by rw[O g.1];exact h.1.symm))];exact Ql6 G L k (i+1) i _ (by omega) h.2 (λ_=>by rw[ak])
  ·rw[aa c]at h⊢;exact Ql6 G L k (i+1) last p (by omega) h O
theorem Zy0 {aA:List Itm} (D:A<=1000000) (h:Items A H aA) (G:aA.length<=20000):CW aA=0:=by
 unfold CW;rw[aa];exact Ql6 D h.made aA.length 0 (-1) H (by omega) (by rw[fo];exact h.link) (λh=>by omega)
end Go.Bm
namespace Go.Bm
theorem Zh2 (S:∀{hi lo y:Nat},hi<y->y<w64->lo<w64->M [U hi,U lo,U y]=some [U (((hi*w64+lo)/y:Nat):Int),U (((hi*w64+lo)%y:Nat):Int)])
  {hi lo y:Nat} (G:hi<w64) (I:lo<w64) (D:0<y) (T:y<w64):
  ∃L N:Nat,Qbo M [U hi,U lo,U y]=some [U L,U N,B (decide (0<(hi*w64+lo)%y))]/\L<w64/\N<w64/\L*w64+N=(hi*w64+lo)/y:=by
 have V:=S (hi:=0) (lo:=hi) D T G;rw[ik,dy,show((0:Nat):Int)=0 from rfl]at V;have X:=gw hi D;have Y:=S (hi:=hi%y) (lo:=lo) X T I;have e:=gf hi y;have e2:hi*w64+lo=hi%y*w64+lo+hi/y*w64*y:=by
  have:hi*w64=hi/y*w64*y+hi%y*w64:=by
   rw[<-e,Nat.mul_add_mod,Nat.mod_mod];rw[show(y*(hi/y)+hi%y)/y=hi/y from by rw[e]];rw[dk,d9 y,gz,d9 y,gz]
  omega
 have hq:(hi*w64+lo)/y=(hi%y*w64+lo)/y+hi/y*w64:=by rw[e2,Nat.add_mul_div_right _ _ D]
 have hr:(hi*w64+lo)%y=(hi%y*w64+lo)%y:=by rw[e2,Nat.add_mul_mod_self_right]
 have O:(hi%y*w64+lo)/y<w64:=by
  rw[ew D];have:hi%y*w64+w64<=y*w64:=by rw[<-gn];exact be _ X
  rw[d9 w64];omega
 refine⟨hi/y,(hi%y*w64+lo)/y,?_,Nat.lt_of_le_of_lt (ie _ _) G,O,by rw[hq];omega⟩;rw[Zl5];simp only[go_sem,V,Y,hr];by_cases c:0<(hi%y*w64+lo)%y
 ·rw[aj c,aj (show(((hi%y*w64+lo)%y:Nat):Int)>0 by omega)]
 ·rw[an c,an (show¬(((hi%y*w64+lo)%y:Nat):Int)>0 by omega)]
theorem Zsy {A n t:Nat} (D:0<n) (L:t*t<=2*A*(2*A)/n) (M:2*A*(2*A)/n<(t+1)*(t+1)) (down:Bool) {E:Prop} [Decidable E] (N:E↔(2*A*(2*A)%n=0/\t*t=2*A*(2*A)/n)):
  D7 A n down (if t%2=1/\(¬E\/down=false)then t/2+1 else t/2):=by
 have U:2*A*(2*A)=4*(A*A):=by grind
 have G:t*t*n<=2*A*(2*A):=(Nat.le_div_iff_mul_le D).1 L;have V:2*A*(2*A)<(t+1)*(t+1)*n:=(ew D).1 M;have O:(2*A*(2*A)%n=0/\t*t=2*A*(2*A)/n)↔t*t*n=2*A*(2*A):=by
  have hd:=gf (2*A*(2*A)) n;constructor
  ·rintro⟨g1,g2⟩;rw[g2,d9];omega
  ·intro g;rw[<-g];exact⟨Nat.mul_mod_left _ _,(Nat.mul_div_cancel _ D).symm⟩
 have I:=N.trans O;rw[U]at G V I;clear N O L M;generalize X:4*(A*A)=Q at*;unfold D7;rw[X];rcases Nat.mod_two_eq_zero_or_one t with S|S
 ·rw[aa];obtain⟨m,rfl⟩:∃m,t=2*m:=⟨t/2,by omega⟩;rw[show 2*m/2=m by omega];have h5:(2*m+1)*(2*m+1)*n<=(2*m+1)*(2*m+1)*n:=co _;refine⟨?_,?_⟩
  ·rcases ec m with T|T
   ·exact .inl T
   ·right;have Y:(2*m-1)*(2*m-1)*n<2*m*(2*m)*n:=eg (gi (by omega)) D;split<;>omega
  ·split<;>omega
 ·obtain⟨m,rfl⟩:∃m,t=2*m+1:=⟨t/2,by omega⟩;rw[show(2*m+1)/2=m by omega];have Y:(2*m+1+1)*(2*m+1+1)*n<=(2*(m+1)+1)*(2*(m+1)+1)*n:=Ov (by omega);have h7:(2*m-1)*(2*m-1)*n<(2*m+1)*(2*m+1)*n:=eg (gi (by omega)) D;have h8:2*(m+1)-1=2*m+1:=by omega
  by_cases c: ¬E\/down=false
  ·rw[ab ⟨S,c⟩,h8];refine⟨.inr ?_,?_⟩
   ·cases down
    ·simp only[dl,gq];exact G
    ·simp only[dq];rcases c with c|c
     ·exact Nat.lt_of_le_of_ne G λh=>c (I.2 h)
     ·cases c
   ·split<;>omega
  ·have c1:(2*m+1)*(2*m+1)*n=Q:=by
    by_cases g:E
    ·exact I.1 g
    ·exact absurd (.inl g) c
   have c2:down=true:=by
    cases down
    ·exact absurd (.inr rfl) c
    ·rfl
   subst c2;rw[aa (λh=>c h.2)];simp only[dq];exact⟨.inr (by omega),by omega⟩
theorem Zgz {x d:Int}:sgn x d<0↔x*d<0:=by
 rcases Tr x d with⟨h,g⟩|⟨h,g⟩|⟨h,g⟩<;>omega
theorem Z3r {x d:Int} {n X D Y l1 qh ql t V l2:Nat} (hX:X<=2147483648) (hD:D<=2147483648) (hn:0<n/\n<=4611686018427387904)
  (z1:L [I x]=some [U X]) (z2:L [I d]=some [U D]) (hk:O [I 2]=some [B true]) (a4:P [U ((2*(X*D):Nat):Int),U ((2*(X*D):Nat):Int)]=some [U Y,U l1])
  (a5:S [U Y,U l1,U n]=some [U qh,U ql,B (decide (0<2*(X*D)*(2*(X*D))%n))]) (a6:qh*w64+ql=2*(X*D)*(2*(X*D))/n) (a7:ql<w64) (a8:T [U qh,U ql]=some [U t]) (a3:t<w64)
  (a9:P [U t,U t]=some [U V,U l2]) (b0:V*w64+l2=t*t) (b1:l2<w64) (hs:W [I x,I d]=some [I (sgn x d)])
  (hg:∀(more:Int) (some_ neg:Bool),Z [I 2,I more,B some_,B neg]=some [B (if more>0 then true else if more=0 then !neg else false)])
  (g1:∀{n:Nat},n<9223372036854775808->M [U n,B false]=some [I n,B true]) (g2:∀{n:Nat},n<=9223372036854775808->M [U n,B true]=some [I (-(n:Int)),B true]) {J:Nat}
  (a0:t%2=1->(¬(2*(X*D)*(2*(X*D))%n=0/\t*t=2*(X*D)*(2*(X*D))/n)\/ ¬sgn x d<0)->J=t/2+1) (a2: ¬(t%2=1/\(¬(2*(X*D)*(2*(X*D))%n=0/\t*t=2*(X*D)*(2*(X*D))/n)\/ ¬sgn x d<0))->J=t/2) (b4:t<=9223372036854775808):
  W6 M Z W T S P O L [I x,I d,I n,I 2]=some [I (if sgn x d<0 then-(J:Int)else J),B true]:=by
 have b5:X*D<=2147483648*2147483648:=df hX hD;have w1:wrap .u64 (2*wrap .u64 ((X:Int)*(D:Int)))=((2*(X*D):Nat):Int):=by
  rw[<-dc,wr (by omega),show(2:Int)*((X*D:Nat):Int)=((2*(X*D):Nat):Int) by omega,wr (by omega)]
 have w2:wrap .u64 (n:Int)=n:=wr (by omega);have w3:((t:Int)).tdiv 2=((t/2:Nat):Int):=YR t 2;have w4:wrap .u64 ((t/2:Nat):Int)=((t/2:Nat):Int):=wr (by rw[A6]at a3;omega);have w5:wrap .u64 (((t/2:Nat):Int)+1)=((t/2+1:Nat):Int):=by rw[show((t/2:Nat):Int)+1=((t/2+1:Nat):Int) by omega,wr (by rw[A6]at a3;omega)]
 have w6:((t:Int).tmod 2=1)=(t%2=1):=by
  rw[i8 (by omega)];exact propext ⟨by omega,by omega⟩
 have b2:∀(neg:Bool) (k:Nat),k<9223372036854775808->M [U k,B neg]=some [I (if neg=true then-(k:Int)else k),B true]:=by
  intro neg k hk;cases neg
  ·exact g1 hk
  ·exact g2 (by omega)
 have key:∀(neg:Bool) (k:Nat),decide (sgn x d<0)=neg->J=k->k<9223372036854775808->M [U k,B neg]=some [I (if sgn x d<0 then-(J:Int)else J),B true]:=by
  intro neg k Y V h3;rw[b2 neg k h3,V];congr 3;by_cases c:sgn x d<0
  ·rw[ab c,ab (by rw[<-Y];exact aj c)]
  ·rw[aa c,aa (by rw[<-Y];simpa using c)]
 have b3:(V=qh/\l2=ql)↔t*t=2*(X*D)*(2*(X*D))/n:=by
  rw[<-b0,<-a6];constructor
  ·rintro⟨rfl,rfl⟩;rfl
  ·intro h;have a1:∀p q u v:Nat,u<w64->v<w64->p*w64+u=q*w64+v->p=q/\u=v:=by
    intro p q u v hu hv h;rcases Nat.lt_trichotomy p q with c|c|c
    ·have:=be w64 (show p+1<=q from c);rw[gn]at this;omega
    ·subst c;exact⟨rfl,by omega⟩
    ·have:=be w64 (show q+1<=p from c);rw[gn]at this;omega
   exact a1 _ _ _ _ b1 a7 h
 rw[Zf2];simp only[go_sem,z1,z2,hk,w1,w2,a4,a5,a8,hs,a9,w3,w4,w5,hg];rw[aa,aa,aa,aa,aa (by simp)];have N:t/2+1<9223372036854775808:=by omega
 have hT:∀k:Nat,J=k->k<9223372036854775808->((M [U (k:Int),B (decide (sgn x d<0))]).bind λo=>some [I (Af (nth .vD o 0)),B (Dn (nth .vD o 1))])=some [I (if sgn x d<0 then-(J:Int)else J),B true]:=by
  intro k Y V;rw[key _ k rfl Y V];rfl
 have e3:((V:Int)=qh/\(l2:Int)=ql/\True)=(t*t=2*(X*D)*(2*(X*D))/n):=by
  rw[<-propext b3];exact propext ⟨λh=>⟨by omega,by omega⟩,λh=>⟨by omega,by omega,trivial⟩⟩
 simp only[e3,w6];have n1:((1:Int)>0)=True:=by simp
 have n2:((-1:Int)>0)=False:=by simp
 have n3:((-1:Int)=0)=False:=by simp
 have n4:((0:Int)>0)=False:=by simp
 by_cases cR:2*(X*D)*(2*(X*D))%n=0
 ·rw[aa (show¬0<2*(X*D)*(2*(X*D))%n by omega)];by_cases G:t%2=1
  ·by_cases cE:t*t=2*(X*D)*(2*(X*D))/n
   ·by_cases cn:sgn x d<0
    ·have:=a2 (λh=>h.2.elim (λg=>g ⟨cR,cE⟩) λg=>g cn);simp only[n1,n2,n3,n4,dl,G,cE,not_true_eq_false,dq,gq];rw[aa (by simp[cn])];exact hT _ this (by omega)
    ·have:=a0 G (.inr cn);simp only[n1,n2,n3,n4,dl,G,cE,not_true_eq_false,dq,gq];rw[ab (by simp;omega)];exact hT _ this N
   ·have:=a0 G (.inl λg=>cE g.2);simp only[n1,n2,n3,n4,dl,G,cE,not_true_eq_false,j5,dq,gq];exact hT _ this N
  ·have:=a2 (λh=>G h.1);simp only[n1,n2,n3,n4,dl,G,gq,ite_self];exact hT _ this (by omega)
 ·rw[ab (show 0<2*(X*D)*(2*(X*D))%n by omega)];by_cases G:t%2=1
  ·have:=a0 G (.inl λg=>cR g.1);simp only[n1,n2,n3,n4,dl,G,j5,dq];exact hT _ this N
  ·have:=a2 (λh=>G h.1);simp only[n1,n2,n3,n4,dl,G,j5,dq,gq];exact hT _ this (by omega)
theorem Zxe {x d:Int} {n:Nat} (N:0<n) (O:0<=d) (G:D7 (x.natAbs*d.natAbs) n (decide (x*d<0)) J):(if x*d<0 then-(J:Int)else J)=Bk x d n:=by
 unfold Bk;rw[gj];by_cases L:x<0
 ·rw[ab L];by_cases M:d=0
  ·subst M;rw[Int.mul_zero,aa];rw[show x.natAbs*(0:Int).natAbs=0 from by simp]at G⊢;have e1:D7 0 n true 0:=⟨.inl rfl,by simp⟩;rw[KL e1];obtain⟨I,-⟩:=G;rw[an (by simp)]at I;simp only[dl,gq]at I;rcases I with I|I
   ·omega
   ·rcases ec J with S|S
    ·omega
    ·have T:=Nat.mul_pos (Nat.mul_pos (show 0<2*J-1 by omega) (show 0<2*J-1 by omega)) N;omega
  ·have D:x*d<0:=Int.mul_neg_of_neg_of_pos L (by omega);rw[aj D]at G;rw[ab D,KL G]
 ·rw[aa L];have D: ¬x*d<0:=by have:=f8 (show 0<=x by omega) O;omega
  rw[an D]at G;rw[aa D,KL G]
theorem XR {x d n:Int} (hx:x.natAbs<=2147483648) (hd:0<=d/\d<=2147483648) (hn:0<n/\n<=4611686018427387904):Ij [I x,I d,I n,I 2]=some [I (Bk x d n),B true]:=by
 obtain⟨N,rfl⟩:=bq (show 0<=n by omega);have hD:d.natAbs<=2147483648:=by omega
 have a1:x.natAbs*d.natAbs<=2147483648*2147483648:=df hx hD;have O:0<N/\N<=4611686018427387904:=by omega
 have S:2*(x.natAbs*d.natAbs)<w64:=by rw[A6];omega
 obtain⟨G,l1,e1,e2,e3⟩:=OK S S;have T:N<w64:=by rw[A6];omega
 have U:G<w64:=by
  have:=Nat.mul_lt_mul'' S S;rw[<-e2]at this;by_cases c:G<w64
  ·exact c
  ·have:=be w64 (show w64<=G by omega);omega
 obtain⟨qh,ql,q1,q2,q3,V⟩:=Zh2 (M:=Gz) Q99 U e3 O.1 T;rw[e2]at q1 V;obtain⟨t,r1,Y,r3,r4⟩:=Zca q2 q3;rw[V]at Y r3;obtain⟨h2,l2,p1,p2,p3⟩:=OK r4 r4;have ht:t<=9223372036854775808:=by
  have k1:t*t<=2*(x.natAbs*d.natAbs)*(2*(x.natAbs*d.natAbs)):=bz Y (ie _ _);have k2:=Nat.mul_self_le_mul_self_iff.1 k1;omega
 have hi:=Zsy O.1 Y r3 (decide (x*d<0)) (E:=2*(x.natAbs*d.natAbs)*(2*(x.natAbs*d.natAbs))%N=0/\t*t=2*(x.natAbs*d.natAbs)*(2*(x.natAbs*d.natAbs))/N) Iff.rfl;have L:=Zxe O.1 hd.1 hi;rw[<-L];have:= @Zgz x d;have a0:∀a:Int,(if x*d<0 then-a else a)=if sgn x d<0 then-a else a:=by
  intro a;by_cases c:x*d<0
  ·rw[ab c,ab (this.2 c)]
  ·rw[aa c,aa (λh=>c (this.1 h))]
 rw[a0];refine Z3r (X:=x.natAbs) (D:=d.natAbs) hx hD O (Ir (by unfold i64;omega)) (Ir (by unfold i64;omega)) (Qii (.inr (.inr rfl))) e1 q1 V q3 r1 r4 p1 p2 p3 (XY x d) Zag Qe3 Qvg (λG h2=> ?_) (λh=> ?_) ht
 ·rw[ab ⟨G,h2.imp id λh=>an λg=>h (this.2 g)⟩]
 ·rw[aa λg=>h ⟨g.1,g.2.imp id λk g2=>by rw[decide_eq_false_iff_not]at k;exact k (this.1 g2)⟩]
theorem Q8a (D:bd 67108864 H) (hb:bd 67108864 G):
    V (V (V (0+V (V (H.x-G.x)*V (H.x-G.x)))+V (V (H.y-G.y)*V (H.y-G.y)))+V (V (H.z-G.z)*V (H.z-G.z)))=sqD H G:=by
  have h:∀x y:Int,x.natAbs<=67108864->y.natAbs<=67108864->0<=(x-y)*(x-y)/\(x-y)*(x-y)<=18014398509481984:=by
    intro x y I L;exact Dx (x:=x-y) (A:=134217728) (by omega)
  have M:=h _ _ D.1 hb.1;have N:=h _ _ D.2.1 hb.2.1;have O:=h _ _ D.2.2 hb.2.2;obtain⟨a1,a2,a3⟩:=D;obtain⟨b1,b2,b3⟩:=hb;rw[Ae (x:=H.x-G.x),Ae (x:=H.y-G.y),Ae (x:=H.z-G.z)];unfold sqD Jf G1;simp only;generalize(H.x-G.x)*(H.x-G.x)=u at*;generalize(H.y-G.y)*(H.y-G.y)=v at*;generalize(H.z-G.z)*(H.z-G.z)=w at*;rw[Ae (x:=u),Ae (x:=0+u),Ae (x:=v),Ae (x:=0+u+v),Ae (x:=w),Ae,Int.zero_add]
theorem Zhg {n:Nat} (L:bd 67108864 H) (hb:bd 67108864 G) (D:sqD H G=n)
    (N:∃r:Nat,M [I n,I 1]=some [I ((if((1:Int)=1/\r*r<n)\/((1:Int)=2/\r*r+r<n)then r+1 else r:Nat):Int),B true]/\r*r<=n/\n<(r+1)*(r+1)):
    Wm M [I H.x,I H.y,I H.z,I G.x,I G.y,I G.z]=some [I (AD H G)]:=by
  obtain⟨r,O,S,T⟩:=N;have U:=Q1t S T;rw[Zxa,Q8a L hb,D];simp only[go_sem,O];unfold AD;rw[D,Zbx U];congr 3;by_cases c:r*r<n
  · rw[ab (.inl ⟨trivial,c⟩),ab c]
  · rw[aa (by simp[c]),aa c]
theorem Qci (D:bd 67108864 H) (hb:bd 67108864 G):I2 [I H.x,I H.y,I H.z,I G.x,I G.y,I G.z]=some [I (AD H G)]:=by
  have L:=PS H G;have N:=Sa D hb (co _);obtain⟨n,M⟩:=bq L;exact Zhg D hb M (Qv9 (by omega) (.inl rfl))
theorem Z8v {MO:Fn} {a b:Spk} {u w:Int} (N:okS a) (hb:okS b) (O:u.natAbs<=100000000) (S:w.natAbs<=100000000)
    (T: ¬(u=0/\w=0)->MO [I u,I (hf a.r b.r),I (sq2 u w),I 2]=some [I (Bk u (hf a.r b.r) (sq2 u w)),B true]/\MO [I w,I (hf a.r b.r),I (sq2 u w),I 2]=some [I (Bk w (hf a.r b.r) (sq2 u w)),B true]):
    (bif u == 0 then
      bif w==0 then some [AC.int IntKind.i64 0,AC.int IntKind.i64 0,AC.int IntKind.i64 0,AC.int IntKind.i64 0,AC.bool false]
      else(MO [AC.int IntKind.i64 u,AC.int IntKind.i64 ((V (V (a.r+b.r)+1)).fdiv (2^min (Int.toNat 1) IntKind.i64.bits)),AC.int IntKind.i64 (V (V (u*u)+V (w*w))),AC.int IntKind.i64 2]).bind λD=>
       (MO [AC.int IntKind.i64 w,AC.int IntKind.i64 ((V (V (a.r+b.r)+1)).fdiv (2^min (Int.toNat 1) IntKind.i64.bits)),AC.int IntKind.i64 (V (V (u*u)+V (w*w))),AC.int IntKind.i64 2]).bind λG=>
       some [AC.int IntKind.i64 (Af (nth AC.vD D 0)),AC.int IntKind.i64 (Af (nth AC.vD G 0)),AC.int IntKind.i64 ((V (V (a.r+b.r)+1)).fdiv (2^min (Int.toNat 1) IntKind.i64.bits)),AC.int IntKind.i64 ((V (V (a.h+b.h)+1)).fdiv (2^min (Int.toNat 1) IntKind.i64.bits)),AC.bool true]
     else(MO [AC.int IntKind.i64 u,AC.int IntKind.i64 ((V (V (a.r+b.r)+1)).fdiv (2^min (Int.toNat 1) IntKind.i64.bits)),AC.int IntKind.i64 (V (V (u*u)+V (w*w))),AC.int IntKind.i64 2]).bind λD=>
       (MO [AC.int IntKind.i64 w,AC.int IntKind.i64 ((V (V (a.r+b.r)+1)).fdiv (2^min (Int.toNat 1) IntKind.i64.bits)),AC.int IntKind.i64 (V (V (u*u)+V (w*w))),AC.int IntKind.i64 2]).bind λG=>
       some [AC.int IntKind.i64 (Af (nth AC.vD D 0)),AC.int IntKind.i64 (Af (nth AC.vD G 0)),AC.int IntKind.i64 ((V (V (a.r+b.r)+1)).fdiv (2^min (Int.toNat 1) IntKind.i64.bits)),AC.int IntKind.i64 ((V (V (a.h+b.h)+1)).fdiv (2^min (Int.toNat 1) IntKind.i64.bits)),AC.bool true])=
    some (CX (Ht a b u w)++[B (decide (¬(u=0/\w=0)))]):=by
  have q1:=Dx O;have q2:=Dx S;have e:V (V (u*u)+V (w*w))=sq2 u w:=by
    unfold sq2;generalize u*u=x at*;generalize w*w=y at*;rw[Ae (x:=x),Ae (x:=y),Ae]
  have U:(V (V (a.r+b.r)+1)).fdiv (2^min (Int.toNat 1) IntKind.i64.bits)=hf a.r b.r:=by
    have X:=N.2.2.1;have Y:=hb.2.2.1;rw[Ae (x:=a.r+b.r),Ae (x:=a.r+b.r+1),show(2^min (Int.toNat 1) IntKind.i64.bits:Int)=2 from rfl,f6 _ (by omega)];rfl
  have eh:(V (V (a.h+b.h)+1)).fdiv (2^min (Int.toNat 1) IntKind.i64.bits)=hf a.h b.h:=by
    have X:=N.2.2.2;have Y:=hb.2.2.2;rw[Ae (x:=a.h+b.h),Ae (x:=a.h+b.h+1),show(2^min (Int.toNat 1) IntKind.i64.bits:Int)=2 from rfl,f6 _ (by omega)];rfl
  simp only[U,eh,e];simp only[go_sem];unfold Ht;by_cases h:u=0/\w=0
  · rw[ab h.1,ab h.2,ab h]
    simp[h]
  · obtain⟨n1,n2⟩:=T h
    rw[aa h];simp only[n1,n2,go_sem];have hd:decide (¬(u=0/\w=0))=true:=aj h;rw[hd];by_cases L:u=0
    · rw[ab L,aa (λM=>h ⟨L,M⟩)];try rfl
    · rw[aa L];try rfl
theorem Zi7 {a b:Spk} (O:okS a) (hb:okS b) {dir:Int} (G:dir=1\/dir= -1) (bG:Bool)
    (hO:∀{u w:Int},u.natAbs<=100000000->w.natAbs<=100000000-> ¬(u=0/\w=0)->M [I u,I (hf a.r b.r),I (sq2 u w),I 2]=some [I (Bk u (hf a.r b.r) (sq2 u w)),B true]/\M [I w,I (hf a.r b.r),I (sq2 u w),I 2]=some [I (Bk w (hf a.r b.r) (sq2 u w)),B true])
    (hC:Z [I a.u,I a.w,I a.r,I a.h,I b.u,I b.w,I b.r,I b.h]=some [I (crs a.u a.w b.u b.w)]) (hD:W [I a.u,I a.w,I a.r,I a.h,I b.u,I b.w,I b.r,I b.h]=some [I (dt2 a.u a.w b.u b.w)])
    (a0:(crs a.u a.w b.u b.w).natAbs<=5000000000000000):
    Qdw M Z W [I a.u,I a.w,I a.r,I a.h,I b.u,I b.w,I b.r,I b.h,I dir,B bG]=some (CX (EA a b dir bG)++[B (decide (¬((Dp a b dir bG).1=0/\(Dp a b dir bG).2=0)))]):=by
  have key:=fun{u w:Int} (U:u.natAbs<=100000000) (X:w.natAbs<=100000000)=>Z8v (MO:=M) (a:=a) (b:=b) O hb U X (hO U X);have L:=Oa O hb G bG;obtain⟨a1,a2,-⟩:=O;obtain⟨b1,b2,-⟩:=hb;have w1:V (0-a.u)= -a.u:=by rw[Ae];omega
  have w2:V (0-a.w)= -a.w:=by rw[Ae];omega
  have w3:V (a.u+b.u)=a.u+b.u:=Ae;have w4:V (a.w+b.w)=a.w+b.w:=Ae;have w5:V (0-(a.u+b.u))= -(a.u+b.u):=by rw[Ae];omega
  have w6:V (0-(a.w+b.w))= -(a.w+b.w):=by rw[Ae];omega
  have w7:V (b.w-a.w)=b.w-a.w:=Ae;have w8:V (a.u-b.u)=a.u-b.u:=Ae;have w9:V (dir*(b.w-a.w))=dir*(b.w-a.w):=by rcases G with rfl|rfl<;>exact Ae
  have S:V (dir*(a.u-b.u))=dir*(a.u-b.u):=by rcases G with rfl|rfl<;>exact Ae
  have T:V (crs a.u a.w b.u b.w*dir)=crs a.u a.w b.u b.w*dir:=by rcases G with rfl|rfl<;>exact Ae
  rw[Zod];try dsimp only[go_sem]
  unfold EA;simp only[w1,w2,w3,w4,w5,w6,w7,w8,w9,S,hC,hD,af,HQ,HA,gA,jA,wA,bA,T];have fin:∀{x:Option (List AC)},x=some (CX (Ht a b (Dp a b dir bG).1 (Dp a b dir bG).2)++[B (decide (¬((Dp a b dir bG).1=0/\(Dp a b dir bG).2=0)))])->
      (bif dir !=1 then bif dir != -1 then some [AC.int IntKind.i64 0,AC.int IntKind.i64 0,AC.int IntKind.i64 0,AC.int IntKind.i64 0,AC.bool false]else x else x)=some (CX (Ht a b (Dp a b dir bG).1 (Dp a b dir bG).2)++[B (decide (¬((Dp a b dir bG).1=0/\(Dp a b dir bG).2=0)))]):=by
    intro x Y;rcases G with rfl|rfl
    · rw[Be (by decide)];exact Y
    · rw[By (by decide),Be (by decide)];exact Y
  refine fin ?_;have D:=key L.1 L.2;unfold Dp at*;cases bG
  · simp only[aq,dl,gq]at D⊢
    by_cases N:0<dt2 a.u a.w b.u b.w
    · rw[AZ (show¬dt2 a.u a.w b.u b.w<=0 by omega)]
      by_cases c2:0<crs a.u a.w b.u b.w*dir
      · rw[AZ (show¬crs a.u a.w b.u b.w*dir<=0 by omega)]
        rw[ab ⟨N,c2⟩]at D⊢;exact D
      · rw[DD (show crs a.u a.w b.u b.w*dir<=0 by omega)]
        rw[aa (λh=>c2 h.2),ab N]at D⊢;exact D
    · rw[DD (show dt2 a.u a.w b.u b.w<=0 by omega)]
      rw[aa (λh=>N h.1),aa N]at D⊢;exact D
  · simp only[ag,dq]at D⊢
    exact D
theorem Z62 {u w r:Int} (D:u.natAbs<=100000000) (G:w.natAbs<=100000000) (L:0<=r/\r<=50000000) (h: ¬(u=0/\w=0)):
    Ij [I u,I r,I (sq2 u w),I 2]=some [I (Bk u r (sq2 u w)),B true]/\Ij [I w,I r,I (sq2 u w),I 2]=some [I (Bk w r (sq2 u w)),B true]:=by
  have M:=RL h;have N:=Dx D;have O:=Dx G;have S:sq2 u w<=20000000000000000:=by unfold sq2;omega
  exact⟨XR (by omega) (by omega) (by omega),XR (by omega) (by omega) (by omega)⟩
theorem Zka {a b:Spk} (D:okS a) (hb:okS b) {dir:Int} (G:dir=1\/dir= -1) (bG:Bool):
    Md [I a.u,I a.w,I a.r,I a.h,I b.u,I b.w,I b.r,I b.h,I dir,B bG]=some (CX (EA a b dir bG)++[B (decide (¬((Dp a b dir bG).1=0/\(Dp a b dir bG).2=0)))]):=by
  have L:=(Q2h D.1 D.2.1 hb.1 hb.2.1).2;exact Zi7 D hb G bG (λM N h=>Z62 M N (Q3r D.2.2.1 hb.2.2.1) h)
    (Qly (He D.1) (He D.2.1) (He hb.1) (He hb.2.1)) (Qio (He D.1) (He D.2.1) (He hb.1) (He hb.2.1)) L
def okT (s:Spk):Prop:=okS s/\ ¬(s.u=0/\s.w=0)/\1<=s.r
theorem Qre {a b:Spk} (I: ¬(a.u=0/\a.w=0)) (hb: ¬(b.u=0/\b.w=0)) {dir:Int} (L:dir=1\/dir= -1) (bG:Bool): ¬((Dp a b dir bG).1=0/\(Dp a b dir bG).2=0):=by
  have M:=RL I;unfold sq2 at M;unfold Dp;split
  · simp only;omega
  · rename_i hf
    have key:0<dt2 a.u a.w b.u b.w-> ¬(a.u+b.u=0/\a.w+b.w=0):=by
      intro G ⟨N,O⟩;have e1:b.u= -a.u:=by omega
      have e2:b.w= -a.w:=by omega
      unfold dt2 at G;rw[e1,e2,Int.mul_neg,Int.mul_neg]at G;omega
    split
    · rename_i c;exact key c.1
    · split
      · rename_i S D
        have:=key D;simp only;omega
      · rename_i S D
        simp only;rintro⟨N,O⟩;have e1:b.w=a.w/\a.u=b.u:=by rcases L with rfl|rfl<;>omega
        unfold dt2 at D;rw[e1.1,<-e1.2]at D;omega
theorem Z54 {u w r:Int} (G:u.natAbs<=100000000) (I:w.natAbs<=100000000) (T:1<=r/\r<=50000000) (h: ¬(u=0/\w=0)): ¬(Bk u r (sq2 u w)=0/\Bk w r (sq2 u w)=0):=by
  have U:=RL h;have V:=Dx G;have X:=Dx I;have Y:sq2 u w<=20000000000000000:=by unfold sq2;omega
  obtain⟨L,M⟩:=Q8l u w;have key:∀x:Int,x.natAbs<=100000000->x*x<=sq2 u w->Bk x r (sq2 u w)=0->4*(x*x)<=sq2 u w:=by
    intro x N O S;obtain⟨-,D⟩:=Qp3 (x:=x) (r:=r) (n:=sq2 u w) (bz N (by decide)) (by omega) (by omega) O;rw[S]at D;obtain⟨-,D⟩:=D;have g4:4*(x.natAbs*r.natAbs*(x.natAbs*r.natAbs))<=(sq2 u w).natAbs:=by
      rw[show(0:Int).natAbs=0 from rfl]at D;split at D<;>omega
    have e1:x.natAbs*r.natAbs*(x.natAbs*r.natAbs)=x.natAbs*x.natAbs*(r.natAbs*r.natAbs):=by grind
    have g5:x.natAbs*x.natAbs*1<=x.natAbs*x.natAbs*(r.natAbs*r.natAbs):=Nat.mul_le_mul_left _ (df (show 1<=r.natAbs by omega) (show 1<=r.natAbs by omega));have e2:((x.natAbs*x.natAbs:Nat):Int)=x*x:=fm;omega
  rintro⟨g1,g2⟩;have k1:=key u G L g1;have k2:=key w I M g2;unfold sq2 at*;omega
theorem Z20 {a b:Spk} (D:okT a) (hb:okT b) {dir:Int} (I:dir=1\/dir= -1) (bG:Bool):okT (EA a b dir bG):=by
  have L:=Qre D.2.1 hb.2.1 I bG;have G:=Oa D.1 hb.1 I bG;have N:=D.1.2.2.1;have O:=hb.1.2.2.1;have S:=D.2.2;have T:=hb.2.2;have M:1<=hf a.r b.r/\hf a.r b.r<=50000000:=by unfold hf;omega
  refine⟨Qx8 D.1 hb.1 I bG,?_,?_⟩
  · unfold EA Ht
    rw[aa L];exact Z54 G.1 G.2 M L
  · unfold EA Ht
    rw[aa L];exact M.1
theorem Zzo {r n:Int} (D:0<=r/\r<=50000000):NI [I r,I n]=some [B (decide (n<=32*r-64))]:=by
  unfold NI;rw[Zzb,Ae (x:=8*r),Ae (x:=8*r*4),Ae (x:=8*r*4-64),show 8*r*4-64=32*r-64 by omega]
theorem Zio {a b:Spk} (L:okS a) (hb:okS b) {dir:Int} (S:dir=1\/dir= -1) (bG:Bool)
    (T:∀{r n:Int},(0<=r/\r<=50000000)->M [I r,I n]=some [B (decide (n<=32*r-64))])
    (U:Z [I a.u,I a.w,I a.r,I a.h,I b.u,I b.w,I b.r,I b.h]=some [I (crs a.u a.w b.u b.w)]) (X:(crs a.u a.w b.u b.w).natAbs<=5000000000000000):
    Qg2 M Z [.vC DT l,I a.u,I a.w,I a.r,I a.h,I b.u,I b.w,I b.r,I b.h,B bG,I dir]=some [.vC DT l,B (decide (Ia a b dir bG)),I dir]:=by
  have Y:0<=mn a.r b.r/\mn a.r b.r<=50000000:=by
    have h1:=L.2.2.1;have h2:=hb.2.2.1;unfold mn;split<;>omega
  obtain⟨a1,a2,-⟩:=L;obtain⟨b1,b2,-⟩:=hb;have N:=Ib a1 b1;have O:=Ib a2 b2;have q1:=Dx N;have q2:=Dx O;have e:V (V ((a.u-b.u)*(a.u-b.u))+V ((a.w-b.w)*(a.w-b.w)))=sq2 (a.u-b.u) (a.w-b.w):=by
    unfold sq2;generalize(a.u-b.u)*(a.u-b.u)=x at*;generalize(a.w-b.w)*(a.w-b.w)=y at*;rw[Ae (x:=x),Ae (x:=y),Ae]
  have G:V (crs a.u a.w b.u b.w*dir)=crs a.u a.w b.u b.w*dir:=by rcases S with rfl|rfl<;>exact Ae
  rw[Zgk,IA N (by decide),IA O (by decide),e];cases bG
  · simp only[Bool.not_false,ag,U,af,HQ,HA,gA,jA,wA,bA,G,T Y,Qn4]
    by_cases c:0<crs a.u a.w b.u b.w*dir
    · rw[DD (show crs a.u a.w b.u b.w*dir>0 from c)]
      by_cases D:sq2 (a.u-b.u) (a.w-b.w)<=32*mn a.r b.r-64
      · rw[aj D,aj (show Ia a b dir false from⟨rfl,c,D⟩)]
      · rw[an D,an (λh:Ia a b dir false=>D h.2.2)]
    · rw[AZ (show¬crs a.u a.w b.u b.w*dir>0 from c),an (λh:Ia a b dir false=>c h.2.1)]
  · simp only[Bool.not_true,aq]
    rw[an (λh:Ia a b dir true=>by cases h.1)]
theorem Ze2 {out:Rw} {a b:Spk} (D:okS a) (hb:okS b) {dir:Int} (G:dir=1\/dir= -1) (bG:Bool):
    Lj [.vC DT out,I a.u,I a.w,I a.r,I a.h,I b.u,I b.w,I b.r,I b.h,B bG,I dir]=some [.vC DT out,B (decide (Ia a b dir bG)),I dir]:=
  Zio D hb G bG Zzo (Qly (He D.1) (He D.2.1) (He hb.1) (He hb.2.1)) (Q2h D.1 D.2.1 hb.1 hb.2.1).2
theorem Qpy {dir:Int} (D:dir=1\/dir= -1):∀(n k:Nat) (bG:Bool) (a b:Spk) (out:List Spk),k<=16->k<n->okT a->okT b->out.length+2^k<=1000000->
    NW n [.vC DT (out.map CX),I a.u,I a.w,I a.r,I a.h,I b.u,I b.w,I b.r,I b.h,B bG,I (16-k:Int),I dir]=some [.vC DT ((out++DK dir k bG a b).map CX),I dir]
  |0,k,_,_,_,_,_,M,_,_,_=>by omega
  |n+1,0,bG,a,b,out,_,_,G,hb,N=>by
    show Up _ _ _ _=_;rw[Qr0,AZ (by omega),By]
    · unfold DK
      rw[bv];rfl
    · exact gh (by simp only[ap,ah,bm,da];omega)
  |n+1,k+1,bG,a,b,out,M,T,G,hb,N=>by
    have L:=Z20 G hb D bG;have O:=Qre G.2.1 hb.2.1 D bG;have e3:2^(k+1)=2^k+2^k:=by rw[iy];omega
    have U:0<2^k:=fq _;have V:=(UP k false a (EA a b dir bG) (dir:=dir)).2;have i1:=Qpy D n k false a (EA a b dir bG) out (by omega) (by omega) G L (by omega);have S:=Qpy D n k false (EA a b dir bG) b (out++DK dir k false a (EA a b dir bG)) (by omega) (by omega) L hb (by rw[ap];omega);have e1:=Ze2 (out:=out.map CX) G.1 hb.1 D bG;have e2:=Zka G.1 hb.1 D bG;rw[aj O]at e2;show Up (NW n) Md Lj _=_;generalize NW n=X at*;generalize Md=Y at*;generalize Lj=MS at*;rw[Qr0,DD (by omega),Ae,show(16-((k+1:Nat):Int)+1)=16-(k:Int) by omega];unfold DK;generalize EA a b dir bG=m at*;generalize DK dir k false a m=p1 at*;generalize DK dir k false m b=p2 at*;simp only[az,bc,CX]at e2;simp only[e1,e2,af,HQ,L1,LA,Q0,Pw,HA,gA,jA,wA,bA,Qn4,i1,S,Qog];by_cases c:Ia a b dir bG
    · rw[ab c,Be (by simp[c]),By]
      · rw[bv];rfl
      · exact gh (by simp only[ap,ah,bm,da];omega)
    · rw[aa c,By (by simp[c]),ag,fa]
theorem Q2g {it:Itm} (D:bd 1048576 it.ce) (G:bd 1048576 H) (I:64<=sq2 (dU it H) (dW it H)):okT (Ek it H):=by
 obtain⟨T,U,L,M⟩:=Qw D G;have e:sq2 (dU it H*16) (dW it H*16)=256*sq2 (dU it H) (dW it H):=by unfold sq2;grind
 refine⟨TO D G,?_,?_⟩
 ·show¬(dU it H*16=0/\dW it H*16=0);rintro⟨g1,g2⟩;rw[show dU it H=0 by omega,show dW it H=0 by omega]at I;simp[sq2]at I
 ·show 1<=Fp _;obtain⟨n,N⟩:=bq L;rw[N]at M⊢;obtain⟨r,O,S⟩:=OW n;rw[SH (Th O S)];have:1<=r:=by
   rcases ec r with h|h
   ·subst h;omega
   ·exact h
  split<;>omega
theorem Zci {n:Nat} (M:n<=2251799813685248):IE [I n,I 2]=some [I (Fp n),B true]:=by
 obtain⟨r,D,G,L⟩:=Qv9 (n:=n) (mode:=2) (by omega) (.inr rfl);rw[D,SH (Th G L)];congr 3;by_cases c:r*r+r<n
 ·rw[ab (.inr ⟨rfl,c⟩),ab c]
 ·rw[aa (by simp;omega),aa c]
theorem Z0x {it:Itm} (hV:∃v,S (Ag it)=some [B v]/\(v=true↔Dt it)) (h:Dt it)
  (O:it.aP=3->T (Ag it)=some [I (dU it it.fr*16),I (dW it it.fr*16),I 0,I (plH it.aG it.fr*16),I (dU it it.to*16),I (dW it it.to*16),I 0,I (plH it.aG it.to*16)])
  (L:∀p:Pt,it.aP=3->(p=it.fr\/p=it.to)->W [I (dU it p*16),I (dW it p*16),I 0,I (plH it.aG p*16),I (dU it p*16),I (dW it p*16),I 0,I (plH it.aG p*16)]=some [I (sq2 (dU it p*16) (dW it p*16))])
  (N:∀p:Pt,it.aP=3->(p=it.fr\/p=it.to)->Z [I (sq2 (dU it p*16) (dW it p*16)),I 2]=some [I (Fp (sq2 (dU it p*16) (dW it p*16))),B true])
  (U:it.aP=3->M (.vC DT [CX (Ek it it.fr)]::CX (Ek it it.fr)++CX (Ek it it.to)++[B it.bG,I 0,I it.dir])=some [.vC DT ((DH it).map CX),I it.dir]):
  Qna M Z W T S (Ag it)=if it.aP=3 then some [.vC DT ((DH it).map CX),B true]else some [.vC DT [],B false]:=by
 obtain⟨v,V,G⟩:=hV;rw[Z1g];by_cases D:it.aP=3
 ·have e:=O D;have p:=U D;have X:=L it.fr D (.inl rfl);have Y:=L it.to D (.inr rfl);have q1:=N it.fr D (.inl rfl);have q2:=N it.to D (.inr rfl);simp only[az,bc,Ek,CX]at p;simp only[go_sem,V,e,X,Y,q1,q2,p];rw[aa (by simp[D]),aa (by simp[G.2 h]),ab D]
 ·simp only[go_sem];rw[ab D,aa D]
theorem Zdr {it:Itm} (h:Dt it):OG (Ag it)=if it.aP=3 then some [.vC DT ((DH it).map CX),B true]else some [.vC DT [],B false]:=by
 have hb:it.aP=3->∀p:Pt,(p=it.fr\/p=it.to)->bd 1048576 it.ce/\bd 1048576 p:=by
  intro G p I;obtain⟨-,M,N,O⟩:=h;obtain⟨-,-,D,-⟩:=O G;rcases I with rfl|rfl
  ·exact⟨D,M⟩
  ·exact⟨D,N⟩
 refine Z0x (Qnt it) h (λG=> ?_) (λp G I=> ?_) (λp G I=> ?_) λG=> ?_
 ·obtain⟨-,M,N,O⟩:=h;obtain⟨I,-,D,-⟩:=O G;exact Zaz I M N D
 ·obtain⟨D,L⟩:=hb G p I;obtain⟨g1,g2,-⟩:=Qw D L;exact Qio (bz g1 (by decide)) (bz g2 (by decide)) (bz g1 (by decide)) (bz g2 (by decide))
 ·obtain⟨D,L⟩:=hb G p I;obtain⟨-,-,S,T⟩:=Qw D L;obtain⟨n,U⟩:=bq S;rw[U]at T⊢;exact Zci (by omega)
 ·obtain⟨-,M,N,O⟩:=h;obtain⟨I,V,D,X,Y,-⟩:=O G;have:=Qpy V 20 16 it.bG (Ek it it.fr) (Ek it it.to) [Ek it it.fr] (by omega) (by omega) (Q2g D M X) (Q2g D N Y) (show 1+2^16<=1000000 by decide);exact this
theorem Zuq {u w h pl:Int} (G:C4 pl):Mk [I u,I w,I h,I pl]=some (ptR (spP pl u w h)):=by
 show Qhd Fh _=_;have D:=Qfb pl;generalize Fh=M at*;rw[Zvq];rcases G with rfl|rfl|rfl
 ·have e:axI 17=(0,1,2):=rfl;rw[e]at D;rw[D];rfl
 ·have e:axI 18=(2,0,1):=rfl;rw[e]at D;rw[D];rfl
 ·have e:axI 19=(1,2,0):=rfl;rw[e]at D;rw[D];rfl
theorem Zgj {α:Type} (pre rest:List α) (x z:α):(pre++x::rest).set pre.length z=(pre++[z])++rest:=by
 rw[List.set_append_right _ _ (co _),iw];simp
def D6 {α:Type} (f:Nat->α) (z:α) (n i:Nat):List α:=(List.range i).map f++List.replicate (n-i) z
theorem Q71 {α:Type} (f:Nat->α) (z:α) {n i:Nat} (h:i<=n):(D6 f z n i).length=n:=by unfold D6;simp;omega
theorem Q2t {α:Type} (f:Nat->α) (z:α) {n i:Nat} (h:i<n):(D6 f z n i).set i (f i)=D6 f z n (i+1):=by
 unfold D6;have e:n-i=(n-(i+1))+1:=by omega
 rw[e,List.replicate_succ];have:=Zgj ((List.range i).map f) (List.replicate (n-(i+1)) z) z (f i);rw[ah,List.length_range]at this;rw[this,List.range_succ,bv];rfl
theorem Qu0 {α:Type} (f:Nat->α) (z:α) (n:Nat):D6 f z n n=(List.range n).map f:=by unfold D6;simp
theorem Zgg {α:Type} (l:List α) (d:α):(List.range l.length).map (λi=>l.getD i d)=l:=by
 apply List.ext_getElem
 ·simp
 ·intro i G D;simp[D]
def JG:Spk:=⟨0,0,0,0⟩
theorem Quu {MS MP MF MK MV:Fn} {it:Itm} {l:List Spk} {cu cw:Int} (U:l.length<=65537) (N:cu.natAbs<=16777216) (O:cw.natAbs<=16777216) (L:∀s∈l,okS s)
  (T:∀{u w h:Int},MS [I u,I w,I h,I it.aG]=some (ptR (spP it.aG u w h))) {f:Nat->List AC} (hf:∀i,f i=ptR (spP it.aG (cu+(l.getD i JG).u) (cw+(l.getD i JG).w) (l.getD i JG).h)):
  ∀(k i:Nat),i+k=l.length->Am (NP MS MP MF MK MV) (.vC kPt (D6 f [I 0,I 0,I 0] l.length i)::I cu::I cw:: .vC DT (l.map CX)::I l.length::I i::Ag it)=
   some (1,[.vC kPt ((List.range l.length).map f)])
 |0,i,V=>by
  refine A1 ?_ (by simp);rw[Q1a];simp only[go_sem];rw[aa,show i=l.length by omega,Qu0]
 |k+1,i,V=>by
  have D:i<l.length:=by omega
  have X:NP MS MP MF MK MV (.vC kPt (D6 f [I 0,I 0,I 0] l.length i)::I cu::I cw:: .vC DT (l.map CX)::I l.length::I i::Ag it)=
    some (0, .vC kPt (D6 f [I 0,I 0,I 0] l.length (i+1))::I cu::I cw:: .vC DT (l.map CX)::I l.length::I (i+1:Nat)::Ag it):=by
   rw[Q1a];have Y:nth [] (l.map CX) i=CX l[i]:=IR _ _ _ _ D;have ho:=L _ (cg D);have S:=Q71 f [I 0,I 0,I 0] (show i<=l.length by omega);have M:=hf i;rw[show l.getD i JG=l[i] by simp[D]]at M;have G:=Q2t f [I 0,I 0,I 0] D;rw[M]at G;generalize l[i]=s at*;obtain⟨s1,s2,-⟩:=ho;simp only[go_sem,ak,ah,Y];rw[ab,ab,Ae (x:=cu+s.u),Ae (x:=cw+s.w),Ae (x:=(i:Int)+1)];simp only[T,go_sem,S];rw[ab,G];rfl
  rw[Bc X];exact Quu U N O L T hf k (i+1) (by omega)
theorem Zw5 {MS G L MK M:Fn} {it:Itm} {S:List Spk} {f:Pt} {u w h:Int} (O:M (Ag it)=some [B true])
  (T:MK (Ag it)=some [.vC DT (S.map CX),B true]) (hf:L [I it.ce.x,I it.ce.y,I it.ce.z]=some (ptR f)) (D:G [I f.x,I f.y,I f.z,I it.aG]=some [I u,I w,I h]) (V:S.length<=65537)
  (U:N [.vC kPt (List.replicate S.length [I 0,I 0,I 0]),I u,I w, .vC DT (S.map CX),I S.length,I 0,I it.aP,I it.block,I it.fr.x,I it.fr.y,I it.fr.z,I it.to.x,I it.to.y,I it.to.z,I it.aG,I it.ce.x,I it.ce.y,I it.ce.z,I it.dir,B it.bG,I it.aZ,B it.perRev,I it.side,I it.radius,I it.bH,I it.n,I it.aS,B it.on]=some (1,[.vC kPt l])):
  Ua MS G L MK M N (Ag it)=some [.vC kPt l,B true]:=by
 rw[VH];simp only[go_sem,O,T,hf,D,ah,ak,U];rw[aa (by simp),aa (by simp),ab]
theorem Z6o {it:Itm} (hV:∃v,S (Ag it)=some [B v]/\(v=true↔Dt it)) (h:Dt it)
  (O:T (Ag it)=if it.aP=3 then some [.vC DT ((DH it).map CX),B true]else some [.vC DT [],B false])
  (U:∀{p:Pt},bd 100000000 p->W [I p.x,I p.y,I p.z]=some (ptR (Aw p))) (hP:C4 it.aG->∀{p:Pt},Z [I p.x,I p.y,I p.z,I it.aG]=some [I (plU it.aG p),I (plW it.aG p),I (plH it.aG p)])
  (hS:C4 it.aG->∀{u w h:Int},M [I u,I w,I h,I it.aG]=some (ptR (spP it.aG u w h))):
  Ua M Z W T S (Am (NP M Z W T S)) (Ag it)=some [.vC kPt ((Ch it).map ptR),B true]:=by
 obtain⟨v,hv,V⟩:=hV;rw[VH];have X:=V.2 h;subst X;obtain⟨-,h1,h2,ha⟩:=id h;by_cases D:it.aP=3
 ·obtain⟨hp,hd,hc,-⟩:=ha D;rw[ab D]at O;obtain⟨c1,c2,c3⟩:=HK (pl:=it.aG) (E3 hc);have G:=(Qwx it).2;have Y:=Quu (MS:=M) (MP:=Z) (MF:=W) (MK:=T) (MV:=S) (it:=it) (l:=DH it) (cu:=plU it.aG (Aw it.ce)) (cw:=plW it.aG (Aw it.ce)) G c1 c2 (Q58 h D) (hS hp)
   (f:=λi=>ptR (Ji it ((DH it).getD i JG))) (λ_=>rfl) (DH it).length 0 (by omega)
  have L:(List.range (DH it).length).map (λi=>ptR (Ji it ((DH it).getD i JG)))=((DH it).map (Ji it)).map ptR:=by
   rw[List.map_map]
   conv=>rhs;rw[<-Zgg (DH it) JG]
   rw[List.map_map];rfl
  rw[L]at Y;have a0:D6 (λi=>ptR (Ji it ((DH it).getD i JG))) [I 0,I 0,I 0] (DH it).length 0=List.replicate (DH it).length [I 0,I 0,I 0]:=by unfold D6;simp
  rw[a0]at Y;have hf:=U (AY hc (by decide));have a1:= @hP hp (Aw it.ce);have:=Zw5 (MS:=M) (N:=Am (NP M Z W T S)) hv O hf a1 G Y;rw[VH]at this;unfold Ch;rw[ab D];exact this
 ·rw[aa D]at O;have f1:=U (AY h1 (by decide));have f2:=U (AY h2 (by decide));unfold Ch;rw[aa D];simp only[go_sem,hv,O,f1,f2];simp
theorem Z8j {it:Itm} (h:Dt it):PC (Ag it)=some [.vC kPt ((Ch it).map ptR),B true]:=
 Z6o (Qnt it) h (Zdr h) Q2l (λD=>Qvu D) (λD=>Zuq D)
theorem Z16 {c a:Pt} (D:bd B24 c) (G:bd B24 a) (L:a≠c) (O:0<=d/\d<=33554432)
  (N:∀{x:Int},x.natAbs<=33554432*4->x*x<=sqD a c->M [I x,I d,I (sqD a c),I 2]=some [I (Bk x d (sqD a c)),B true]/\(Bk x d (sqD a c)).natAbs<=268435456):
  Qpx M [I c.x,I c.y,I c.z,I a.x,I a.y,I a.z,I d]=some (ptR (Bv c a d)++[B true]):=by
 obtain⟨V,X,Y⟩:=Q8d a c;have S:=Ib G.1 D.1;have T:=Ib G.2.1 D.2.1;have U:=Ib G.2.2 D.2.2;obtain⟨n1,b1⟩:=N (x:=a.x-c.x) (bz S (by decide)) V;obtain⟨n2,b2⟩:=N (x:=a.y-c.y) (bz T (by decide)) X;obtain⟨n3,b3⟩:=N (x:=a.z-c.z) (bz U (by decide)) Y;have h6: ¬d<0:=Int.not_lt.2 O.1;have h7: ¬d>33554432:=Int.not_lt.2 O.2;rw[Zfv,Q8a (AY G (by decide)) (AY D (by decide)),IA S (by decide),IA T (by decide),IA U (by decide)];simp only[go_sem,n1,n2,n3];rw[aa (λh=>L (DU.2 ⟨h.1,h.2.1,h.2.2.1⟩)),aa h6,aa h7];rw[IA (TE D.1 b1) (by decide),IA (TE D.2.1 b2) (by decide),IA (TE D.2.2 b3) (by decide)];rfl
theorem Yq {c a:Pt} (G:bd B24 c) (L:bd B24 a) (D:a≠c) (N:0<=d/\d<=33554432):
  GJ [I c.x,I c.y,I c.z,I a.x,I a.y,I a.z,I d]=some (ptR (Bv c a d)++[B true]):=by
 have S:sqD a c≠0:=λh=>D (Qdp.1 h);have T:=PS a c;have U:=Sa (AY L (by decide)) (AY G (by decide)) (show 67108864<=67108864 by omega);refine Z16 G L D N fun{x} M O=> ?_;obtain⟨g2,-⟩:=Qp3 M (r:=d) (by omega) (n:=sqD a c) (by omega) O;exact⟨XR (bz M (by decide)) (by omega) (by omega),g2⟩
theorem Quo {p c q:Pt} (D:bd B24 p) (G:bd B24 c) (L:bd B24 q):GP [I p.x,I p.y,I p.z,I c.x,I c.y,I c.z,I q.x,I q.y,I q.z]=some [I (Hn p c q)]:=by
 have hb:=Zq2 D G L;have g1:=Dx hb.1;have g2:=Dx hb.2.1;have M:=Dx hb.2.2;unfold GP;unfold bd B24 at D G L;have w:∀u v c:Int,u.natAbs<=16777216->v.natAbs<=16777216->c.natAbs<=16777216->V (V (u+v)-V (2*c))=u-c+(v-c):=by
  intro u v c N O S;rw[Ae (x:=u+v),Ae (x:=2*c),Ae];omega
 rw[Zys,w _ _ _ D.1 L.1 G.1,w _ _ _ D.2.1 L.2.1 G.2.1,w _ _ _ D.2.2 L.2.2 G.2.2];have e1:p.x-c.x+(q.x-c.x)=(Gb p c q).x:=rfl;have e2:p.y-c.y+(q.y-c.y)=(Gb p c q).y:=rfl;have e3:p.z-c.z+(q.z-c.z)=(Gb p c q).z:=rfl;rw[e1,e2,e3];unfold Hn Jf;generalize(Gb p c q).x*(Gb p c q).x=u at*;generalize(Gb p c q).y*(Gb p c q).y=v at*;generalize(Gb p c q).z*(Gb p c q).z=w at*;rw[Ae (x:=u),Ae (x:=0+u),Ae (x:=v),Ae (x:=0+u+v),Ae (x:=w),Ae,Int.zero_add]
open Classical in
theorem Zs2 {a c b:Pt} (T:bd B24 a) (U:bd B24 c) (hb:bd B24 b) (D:a≠c) (G:b≠c) (O:0<=k/\k<=16000) (hd:0<=d/\d+v<=33554432) (he:0<v) (L:v.fdiv (2^min (Int.toNat 1) IntKind.i64.bits)=u)
  (l3:0<=AD a c/\AD a c<=268435456) (l4:0<=AD c b/\AD c b<=268435456)
  (V:∀{a:Pt} {d:Int},bd B24 a->a≠c->0<=d/\d<=33554432->Z [I c.x,I c.y,I c.z,I a.x,I a.y,I a.z,I d]=some (ptR (Bv c a d)++[B true]))
  (hB:∀{p q:Pt},bd B24 p->bd B24 q->M [I p.x,I p.y,I p.z,I c.x,I c.y,I c.z,I q.x,I q.y,I q.z]=some [I (Hn p c q)]):
  Ns M Z W [I k,I (mn (AD a c) (AD c b)-2),I d,I v,I a.x,I a.y,I a.z,I c.x,I c.y,I c.z,I b.x,I b.y,I b.z]=
   some (0,[I k,I (mn (AD a c) (AD c b)-2),I (if G2 a c b k (d+v)then d+v else d),I u,I a.x,I a.y,I a.z,I c.x,I c.y,I c.z,I b.x,I b.y,I b.z]):=by
 obtain⟨m1,m2⟩:=UQ (AD a c) (AD c b);have a0:0<=16*k*k/\16*k*k<=4096000000:=by
  have:=fj (show 16*k<=256000 by omega) O.2 O.1 (by omega);exact⟨f8 (by omega) O.1,by omega⟩
 rw[Q44,L,Ae (x:=d+v),DD he,Ae (x:=16*k),Ae (x:=16*k*k)];by_cases h:d+v>mn (AD a c) (AD c b)-2
 ·rw[DD h,aa (λS:G2 a c b k (d+v)=>by have:=S.1;omega)]
 ·rw[AZ h];have k1:bd B24 (Bv c a (d+v)):=KG U T D (by omega);have k2:bd B24 (Bv c b (d+v)):=KG U hb G (by rw[SW b c];omega);have X:=V (d:=d+v) T D (by omega);have Y:=V (d:=d+v) hb G (by omega);simp only[az,bc,ptR]at X Y;simp only[X,Y,go_sem,hB k1 k2];by_cases N:Hn (Bv c a (d+v)) c (Bv c b (d+v))<=16*k*k
  ·rw[ab N,ab (show G2 a c b k (d+v)from⟨by omega,N⟩)]
  ·rw[aa N,aa (λS:G2 a c b k (d+v)=>N S.2)]
open Classical in
theorem Qs3 {M N ML:Fn} {a c b:Pt} {D m:Int}
  (G : ∀ {d e bit : Int}, 0 <= d /\ d + e <= 33554432 -> 0 < e -> e.fdiv (2 ^ min (Int.toNat 1) IntKind.i64.bits) = bit -> Ns M N ML [I D, I m, I d, I e, I a.x, I a.y, I a.z, I c.x, I c.y, I c.z, I b.x, I b.y, I b.z] =
   some (0,[I D,I m,I (if G2 a c b D (d+e)then d+e else d),I bit,I a.x,I a.y,I a.z,I c.x,I c.y,I c.z,I b.x,I b.y,I b.z])):
  ∀(k:Nat) (d:Int),0<=d/\d+((2^(k+1):Nat):Int)<=33554432->
  Am (Ns M N ML) [I D,I m,I d,I ((2^k:Nat):Int),I a.x,I a.y,I a.z,I c.x,I c.y,I c.z,I b.x,I b.y,I b.z]=some (1,[I (Fy (G2 a c b D) k d)])
 |0,d,O=>by
  simp only[dy,Nat.pow_one]at O;have L:∀d:Int,Am (Ns M N ML) [I D,I m,I d,I 0,I a.x,I a.y,I a.z,I c.x,I c.y,I c.z,I b.x,I b.y,I b.z]=some (1,[I d]):=by
   intro d;refine A1 ?_ (by simp);rw[Q44];rw[AZ (by omega)]
  have S:=G (d:=d) (e:=1) (by omega) (by omega) Z60;have e:((2^0:Nat):Int)=1:=rfl;rw[e,Bc S,L];rfl
 |k+1,d,O=>by
  have T:0<2^(k+1):=fq _;have e3:2^(k+1+1)=2^(k+1)+2^(k+1):=by rw[iy 2 (k+1)];omega
  rw[e3]at O;have S:=G (d:=d) (e:=((2^(k+1):Nat):Int)) (by omega) (by omega) (Zfe k);rw[Bc S];unfold Fy;refine Qs3 G k _ ?_;split<;>omega
theorem Zyx {a c b:Pt}
  (S:M [I a.x,I a.y,I a.z,I c.x,I c.y,I c.z]=some [I (AD a c)]) (T:M [I c.x,I c.y,I c.z,I b.x,I b.y,I b.z]=some [I (AD c b)])
  (V:0<=AD a c/\AD a c<=268435456) (X:0<=AD c b/\AD c b<=268435456)
  (U:a≠c->b≠c->N [I k,I (mn (AD a c) (AD c b)-2),I 0,I 16777216,I a.x,I a.y,I a.z,I c.x,I c.y,I c.z,I b.x,I b.y,I b.z]=some (1,[I (Fy (G2 a c b k) 24 0)])):
  Qmf Z W M N [I a.x,I a.y,I a.z,I c.x,I c.y,I c.z,I b.x,I b.y,I b.z,I k]=some [I (Dj a c b k)]:=by
 rw[Zl1];have m3:0<=mn (AD a c) (AD c b)/\mn (AD a c) (AD c b)<=268435456:=by unfold mn;split<;>omega
 unfold Dj;by_cases L:a=c
 ·rw[ab (.inl L)];have D:=DU.1 L;simp only[go_sem];rw[ab ⟨D.1,D.2.1,D.2.2,trivial⟩]
 ·by_cases D:b=c
  ·rw[ab (.inr D)];have G:=DU.1 D;simp only[go_sem];rw[aa (λh=>L (DU.2 ⟨h.1,h.2.1,h.2.2.1⟩)),ab ⟨G.1,G.2.1,G.2.2,trivial⟩]
  ·have O:=U L D;simp only[go_sem,S,T];rw[Ae];simp only[O,go_sem];rw[aa (λh=>L (DU.2 ⟨h.1,h.2.1,h.2.2.1⟩)),aa (λh=>D (DU.2 ⟨h.1,h.2.1,h.2.2.1⟩)),aa (show¬(a=c\/b=c)from λh=>h.elim L D)];by_cases G:Fy (G2 a c b k) 24 0<16
   ·rw[ab G,ab G]
   ·rw[aa G,aa G]
theorem Z4s {a c b:Pt} (N:bd B24 a) (L:bd B24 c) (hb:bd B24 b) (O:0<=k/\k<=16000):
  Lz [I a.x,I a.y,I a.z,I c.x,I c.y,I c.z,I b.x,I b.y,I b.z,I k]=some [I (Dj a c b k)]:=by
 have A:=AY N (show B24<=67108864 by decide);have C:=AY L (show B24<=67108864 by decide);have D:=AY hb (show B24<=67108864 by decide);exact Zyx (Qci A C) (Qci C D) (H8 A C) (H8 C D)
  λS T=>Qs3 (λM he G=>Zs2 N L hb S T O M he G (H8 A C) (H8 C D) (λhb U M=>Yq L hb U M) λV X=>Quo V L X) 24 0 (by decide)
theorem Zps {p c q:Pt} (U:M [I p.x,I p.y,I p.z,I c.x,I c.y,I c.z,I q.x,I q.y,I q.z]=some [I (Hn p c q)]):
  ∀(k:Nat) (n:Int),J3 n->64<=n*2^k->Am (Qy M) [I n,I p.x,I p.y,I p.z,I c.x,I c.y,I c.z,I q.x,I q.y,I q.z]=some (1,[I (Na (Hn p c q) k n)]):=by
 have L:∀n:Int,J3 n->Qy M [I n,I p.x,I p.y,I p.z,I c.x,I c.y,I c.z,I q.x,I q.y,I q.z]=if n<64/\Hn p c q>16*n*n*n*n*4*4 then some (0,[I (n*2),I p.x,I p.y,I p.z,I c.x,I c.y,I c.z,I q.x,I q.y,I q.z])else some (1,[I n]):=by
  intro n G;rw[Z43];simp only[go_sem,U];have S:V (V (V (V (V (V (16*n)*n)*n)*n)*4)*4)=16*n*n*n*n*4*4/\V (n*2)=n*2:=by
   rcases G with rfl|rfl|rfl|rfl|rfl|rfl<;>decide
  rw[S.1,S.2];by_cases N:n<64
  ·rw[ab N];by_cases O:Hn p c q>16*n*n*n*n*4*4
   ·rw[ab O,ab ⟨N,O⟩]
   ·rw[aa O,aa (λh=>O h.2)]
  ·rw[aa N,aa (λh=>N h.1)]
 intro k;induction k with
 |zero=>
  intro n G D;have:n=64:=by rcases G with rfl|rfl|rfl|rfl|rfl|rfl<;>simp at D⊢
  subst this;refine A1 ?_ (by simp);rw[L _ G,aa];rfl
 |succ k X=>
  intro n G D;unfold Na;by_cases h:n<64/\Hn p c q>16*n*n*n*n*4*4
  ·rw[ab h];have T:=L n G;rw[ab h]at T;rw[Bc T];refine X (n*2) ?_ ?_
   ·rcases G with rfl|rfl|rfl|rfl|rfl|rfl<;>simp[J3]at h⊢
   ·rw[Int.pow_succ]at D;rw[Int.mul_assoc,jk 2];exact D
  ·rw[aa h];refine A1 ?_ (by simp);rw[L _ G,aa h]
theorem Z7h {p c q:Pt} (D:bd B24 p) (G:bd B24 c) (L:bd B24 q):Kl [I p.x,I p.y,I p.z,I c.x,I c.y,I c.z,I q.x,I q.y,I q.z]=some [I (Lk p c q)]:=by
 have N:=Zps (Quo D G L) 5 2 (.inl rfl) (by decide);show ZL _ (Am (Qy _)) _=_;generalize GP=M at*;rw[Zkf];simp only[go_sem,N];rfl
theorem Zap {α:Type} (d x:α):∀(l:List α) (i:Nat),i<l.length->nth d (l.set i x) i=x
 |a::l,0,_=>rfl
 |a::l,i+1,h=>by simp only[List.set_cons_succ,nth];exact Zap d x l i (by simpa using h)
theorem Ztd {n i p c q:Int} (D:2<=n/\n<=64) (G:0<=i/\i<=n) (L:p.natAbs<=B24) (M:c.natAbs<=B24) (N:q.natAbs<=B24):
  Bw [I (V (V (V (V (n-i)*V (n-i))*V (p-c))+V (V (i*i)*V (q-c)))),I 1,I (V (n*n)),I 2]=some [I (Bi ((n-i)*(n-i)*(p-c)+i*i*(q-c)) (n*n)),B true]:=by
 have O:0<n*n/\n*n<=4096:=⟨Int.mul_pos (by omega) (by omega),by have:=fj D.2 D.2 (by omega) (by omega);omega⟩;have S:0<=(n-i)*(n-i)/\(n-i)*(n-i)<=4096:=⟨Fm _,by have:=fj (show n-i<=64 by omega) (show n-i<=64 by omega) (by omega) (by omega);omega⟩;have T:0<=i*i/\i*i<=4096:=⟨Fm _,by have:=fj (show i<=64 by omega) (show i<=64 by omega) (by omega) (by omega);omega⟩;unfold B24 at*;rw[Ae (x:=n-i),Ae (x:=(n-i)*(n-i)),Ae (x:=p-c),Ae (x:=i*i),Ae (x:=q-c),Ae (x:=n*n)];have m1:=HS (x:=(n-i)*(n-i)) (y:=p-c) (A:=4096) (B:=33554432) (by omega) (by omega);have m2:=HS (x:=i*i) (y:=q-c) (A:=4096) (B:=33554432) (by omega) (by omega);generalize(n-i)*(n-i)*(p-c)=u at*;generalize i*i*(q-c)=v at*;rw[Ae (x:=u),Ae (x:=v),Ae];have h:=Tf (a:=u+v) (b:=1) (c:=n*n) (by unfold i64;omega) (by unfold i64;omega) (by omega) (by rw[show(1:Int).natAbs=1 from rfl,Nat.mul_one];omega);rw[Int.mul_one]at h;exact h
theorem Q5l {MR MP MT MC:Fn} {p c q:Pt} {N:Nat} (U:2<=N/\N<=64) (G:bd B24 p) (L:bd B24 c) (M:bd B24 q)
  (S:∀{i p c q:Int},(0<=i/\i<=N)->p.natAbs<=B24->c.natAbs<=B24->q.natAbs<=B24->MR [I (V (V (V (V ((N:Int)-i)*V ((N:Int)-i))*V (p-c))+V (V (i*i)*V (q-c)))),I 1,I (V ((N:Int)*(N:Int))),I 2]=some [I (Bi (((N:Int)-i)*((N:Int)-i)*(p-c)+i*i*(q-c)) ((N:Int)*(N:Int))),B true])
  {f:Nat->List AC} (hf:∀i:Nat,f i=ptR (NS N i p c q)):
  ∀(k i:Nat),i+k=N+1->Am (Oz MR MP MT MC) [.vC kPt (D6 f [I 0,I 0,I 0] (N+1) i),I N,I (N+1:Nat),I i,I c.x,I c.y,I c.z,I p.x,I p.y,I p.z,I q.x,I q.y,I q.z]=
   some (1,[.vC kPt ((List.range (N+1)).map f)])
 |0,i,X=>by
  obtain rfl:i=N+1:=by omega
  refine A1 ?_ (by simp);rw[Qrl,Qu0,AZ (by omega)]
 |k+1,i,X=>by
  have b1:=Nk (n:=N) (i:=i) (A:=B24) (by omega) (by omega) G.1 L.1 M.1;have b2:=Nk (n:=N) (i:=i) (A:=B24) (by omega) (by omega) G.2.1 L.2.1 M.2.1;have b3:=Nk (n:=N) (i:=i) (A:=B24) (by omega) (by omega) G.2.2 L.2.2 M.2.2;have Y:=S (i:=i) (by omega) G.1 L.1 M.1;have r2:=S (i:=i) (by omega) G.2.1 L.2.1 M.2.1;have r3:=S (i:=i) (by omega) G.2.2 L.2.2 M.2.2;have hs:Oz MR MP MT MC [.vC kPt (D6 f [I 0,I 0,I 0] (N+1) i),I N,I (N+1:Nat),I i,I c.x,I c.y,I c.z,I p.x,I p.y,I p.z,I q.x,I q.y,I q.z]=
    some (0,[.vC kPt (D6 f [I 0,I 0,I 0] (N+1) (i+1)),I N,I (N+1:Nat),I (i+1:Nat),I c.x,I c.y,I c.z,I p.x,I p.y,I p.z,I q.x,I q.y,I q.z]):=by
   have hlen:=Q71 f [I 0,I 0,I 0] (show i<=N+1 by omega);have D:=Q2t f [I 0,I 0,I 0] (show i<N+1 by omega);rw[hf i]at D;generalize D6 f [I 0,I 0,I 0] (N+1) i=l at*;have O:∀x:List AC,nth [] (l.set i x) i=x:=λx=>Zap _ _ _ _ (by omega);rw[Qrl];have T:(0:Int)<=(i:Int)/\(i:Int)<((N+1:Nat):Int):=by omega
   simp only[go_sem,Y,r2,r3,ak,hlen,ab T,List.set_set,O,iz];rw[ab];unfold Of B24 at b1 b2 b3;rw[Ae (x:=c.x+_),Ae (x:=c.y+_),Ae (x:=c.z+_),Ae (x:=(i:Int)+1)];rw[<-D];rfl
  rw[Bc hs];exact Q5l U G L M S hf k (i+1) (by omega)
theorem Zse {a c b:Pt} (M:bd B24 a) (D:bd B24 c) (hb:bd B24 b) (ht:0<=k/\k<=16000):
  Pg [I a.x,I a.y,I a.z,I c.x,I c.y,I c.z,I b.x,I b.y,I b.z,I k]=some [.vC kPt ((F3 a c b k).map ptR)]:=by
 show Qkm _ _ _ _ (Am (Oz _ _ _ _)) _=_;have e1:=Z4s M D hb ht;have hR:= @Ztd;generalize Lz=U at*;unfold F3;by_cases h:Dj a c b k=0
 ·rw[ab h];rw[Q2v];simp only[go_sem,e1];rw[ab h];rfl
 ·rw[aa h];obtain⟨X,Y,h3,h4,h5,-⟩:=Qny h;obtain⟨m1,m2⟩:=UQ (AD a c) (AD c b);have h0: ¬Dj a c b k=0:=h;generalize Dj a c b k=d at*;have k1:bd B24 (Bv c a d):=KG D M X (by omega);have k2:bd B24 (Bv c b d):=KG D hb Y (by rw[SW b c];omega);have t1:=Yq D M X (d:=d) (by omega);have t2:=Yq D hb Y (d:=d) (by omega);have p1:=Z7h k1 D k2;have p2:=Qao (Bv c a d) c (Bv c b d);generalize Lk (Bv c a d) c (Bv c b d)=n at*;obtain⟨N,rfl⟩:∃N:Nat,n=N:=⟨n.toNat,by rcases p2 with rfl|rfl|rfl|rfl|rfl|rfl<;>rfl⟩;have hN:2<=N/\N<=64:=by unfold J3 at p2;omega
  have O:=Q5l (MR:=Bw) (MP:=Kl) (MT:=GJ) (MC:=U) hN k1 D k2 (λhi hp D hq=>hR (by omega) hi hp D hq) (f:=λi=>ptR (NS N i (Bv c a d) c (Bv c b d))) (λ_=>rfl) (N+1) 0 (by omega);have S:∀f:Nat->List AC,D6 f [I 0,I 0,I 0] (N+1) 0=List.replicate (N+1) [I 0,I 0,I 0]:=λf=>by unfold D6;rw[List.range_zero,dp,bc,Nat.sub_zero]
  rw[S]at O;generalize Bw=MR at*;generalize Kl=MP at*;generalize GJ=MT at*;generalize Bv c a d=p at*;generalize Bv c b d=q at*;rw[Q2v];simp only[az,bc,ptR]at t1 t2;have G:(List.range (N+1)).map (fun(i:Nat)=>ptR (NS N i p c q))=((List.range ((N:Int).toNat+1)).map fun(i:Nat)=>NS N i p c q).map ptR:=by rw[List.map_map,ak];rfl
  rw[G]at O;generalize((List.range ((N:Int).toNat+1)).map fun(i:Nat)=>NS N i p c q).map ptR=C at*;generalize Am (Oz MR MP MT U)=L at*;have T:L [.vC kPt (List.replicate (N+1) [I 0,I 0,I 0]),I N,I (N+1:Nat),I 0,I c.x,I c.y,I c.z,I p.x,I p.y,I p.z,I q.x,I q.y,I q.z]=some (1,[.vC kPt C]):=O;have w1:V ((N:Int)+1)=((N+1:Nat):Int):=by rw[Ae];rfl
  simp only[e1,t1,t2,p1,w1,af,HQ,L1,LA,HA,gA,jA,wA,bA,ak,List.length_replicate,Qog];rw[Be (by simpa using h0),DD trivial,By (by simp;omega),T];rfl
end Go.Bm
namespace Go.Bm
open Classical
theorem Q1 (k:Int):Dy [I k]=some [B (decide (1<=k/\k<=6))]:=by
 unfold Dy;rw[Z9o];by_cases h:1<=k
 ·rw[DD (show k>=1 from h)];by_cases D:k<=6
  ·rw[aj D,aj ⟨h,D⟩]
  ·rw[an D,an λG=>D G.2]
 ·rw[AZ (show¬k>=1 from h),an λG=>h G.1]
theorem Uf (it:Itm):EH (Ag it)=some [B (decide (smI it))]:=by
 unfold EH;rw[Z8s];by_cases h:it.aP=2
 ·rw[By (by simp[h])];congr 2;by_cases G:it.fr=it.to
  ·have D:=DU.1 G;rw[an (λI:smI it=>I.2 G)];simp[D.1,D.2.1,D.2.2]
  ·rw[aj (show smI it from⟨h,G⟩)];have D: ¬(it.fr.x=it.to.x/\it.fr.y=it.to.y/\it.fr.z=it.to.z):=λD=>G (DU.2 D);simp only[B,AC.bool.injEq,j6,Bool.and_true];by_cases a:it.fr.x=it.to.x<;>by_cases b:it.fr.y=it.to.y<;>by_cases c:it.fr.z=it.to.z<;>simp[a,b,c]at D⊢
 ·rw[Be (by simp[h]),an (λI:smI it=>h I.1)]
theorem SY {it:Itm} (D:bd 1048576 it.fr) (G:bd 1048576 it.to):F4 (Ag it)=some (ptR (A8 it)):=by
 obtain⟨a1,a2,a3⟩:=D;obtain⟨b1,b2,b3⟩:=G;unfold F4;rw[Zmx,Ae (x:=it.fr.x+it.to.x),Ae (x:=(it.fr.x+it.to.x)*8),Ae (x:=it.fr.y+it.to.y),Ae (x:=(it.fr.y+it.to.y)*8),Ae (x:=it.fr.z+it.to.z),Ae (x:=(it.fr.z+it.to.z)*8)];rfl
theorem Z9h (h:bd 100000000 H):NX [I H.x,I H.y,I H.z]=some (ptR (Aw H)):=by
 unfold NX;rw[Zl9];obtain⟨D,G,L⟩:=h;rw[Ae,Ae,Ae];rfl
theorem Qvk (it:Itm):Hz (Ag it)=some [B (decide (syI it))]:=by
 unfold Hz;rw[Zsa];by_cases D:it.aP=5
 ·rw[By (by simp[D]),aj (show syI it from .inl D)]
 ·rw[Be (by simp[D])];by_cases G:it.aP=6
  ·rw[aj (show syI it from .inr G)];simp[G]
  ·rw[an (show¬syI it from λh=>h.elim D G)];simp[G]
theorem Zr7 {it:Itm} (hM:Z [I it.aP]=some [B (decide (1<=it.aP/\it.aP<=6))]) (hV:∃v,M (Ag it)=some [B v]/\(v=true↔Dt it)):
  Qht M Z (Ag it)=some [I (if Cd it then 1 else 0)]:=by
 obtain⟨v,hv,N⟩:=hV;have D:∀{x:Int},(Cd it->x=1)->(¬Cd it->x=0)->some [I x]=some [I (if Cd it then 1 else 0)]:=by
  intro x h1 h2;by_cases c:Cd it
  ·rw[ab c,h1 c]
  ·rw[aa c,h2 c]
 rw[Zo8];simp only[go_sem,hM,hv];unfold Cd AB at D⊢;have one:∀{P:Prop},P->(P->(1:Int)=1)/\(¬P->(1:Int)=0):=λh=>⟨λ_=>rfl,λg=>absurd h g⟩;have zero:∀{P:Prop},¬P->(P->(0:Int)=1)/\(¬P->(0:Int)=0):=λh=>⟨λg=>absurd g h,λ_=>rfl⟩;by_cases O:it.aP<1
 ·rw[ab O];exact D (λ_=>rfl) λg=>absurd (.inl O) g
 rw[aa O];by_cases S:it.aP>14
 ·rw[ab S];exact D (λ_=>rfl) λg=>absurd (.inr (.inl S)) g
 rw[aa S];by_cases G:1<=it.aP/\it.aP<=6
 ·simp only[ab G];have T:it.aP≠8:=by omega
  simp only[aa T];by_cases L:Dt it
  ·rw[aa (by simp[N.2 L])];by_cases U:it.bH<0
   ·rw[ab U];exact D (λ_=>rfl) λg=>absurd (.inr (.inr (.inl ⟨G, .inr (.inr (.inl U))⟩))) g
   rw[aa U];by_cases V:it.bH>1000
   ·rw[ab V];exact D (λ_=>rfl) λg=>absurd (.inr (.inr (.inl ⟨G, .inr (.inr (.inr V))⟩))) g
   rw[aa V];by_cases X:it.aP=1
   ·rw[aa (show¬it.aP≠1 by omega)];refine D (λg=> ?_) λ_=>rfl;rcases g with g|g|⟨-,g|g|g|g⟩|g
    ·omega
    ·omega
    ·exact absurd L g
    ·omega
    ·omega
    ·omega
    ·omega
   ·rw[ab X];by_cases Y:it.aZ<1
    ·rw[ab Y];exact D (λ_=>rfl) λg=>absurd (.inr (.inr (.inl ⟨G, .inr (.inl ⟨X, .inl Y⟩)⟩))) g
    rw[aa Y];by_cases c9:it.aZ>60000000
    ·rw[ab c9];exact D (λ_=>rfl) λg=>absurd (.inr (.inr (.inl ⟨G, .inr (.inl ⟨X, .inr c9⟩)⟩))) g
    rw[aa c9];refine D (λg=> ?_) λ_=>rfl;rcases g with g|g|⟨-,g|g|g|g⟩|g
    ·omega
    ·omega
    ·exact absurd L g
    ·omega
    ·omega
    ·omega
    ·omega
  ·rw[ab (λh=>L (N.1 h))];exact D (λ_=>rfl) λg=>absurd (.inr (.inr (.inl ⟨G, .inl L⟩))) g
 ·simp only[aa G];by_cases L:it.aP=8
  ·rw[ab L];by_cases d1:it.n<3
   ·rw[ab d1];exact D (λ_=>rfl) λg=>absurd (.inr (.inr (.inr ⟨G,L, .inl d1⟩))) g
   rw[aa d1];by_cases d2:it.n>5
   ·rw[ab d2];exact D (λ_=>rfl) λg=>absurd (.inr (.inr (.inr ⟨G,L, .inr (.inl d2)⟩))) g
   rw[aa d2];by_cases d3:it.aS<0
   ·rw[ab d3];exact D (λ_=>rfl) λg=>absurd (.inr (.inr (.inr ⟨G,L, .inr (.inr (.inl d3))⟩))) g
   rw[aa d3];by_cases d4:it.aS>30000
   ·rw[ab d4];exact D (λ_=>rfl) λg=>absurd (.inr (.inr (.inr ⟨G,L, .inr (.inr (.inr d4))⟩))) g
   rw[aa d4];refine D (λg=> ?_) λ_=>rfl;rcases g with g|g|⟨g,-⟩|⟨-,-,g⟩
   ·omega
   ·omega
   ·exact absurd g G
   ·omega
  ·rw[aa L];refine D (λg=> ?_) λ_=>rfl;rcases g with g|g|⟨g,-⟩|⟨-,g,-⟩
   ·omega
   ·omega
   ·exact absurd g G
   ·omega
theorem Z8i (it:Itm):I4 (Ag it)=some [I (if Cd it then 1 else 0)]:=Zr7 (Q1 _) (Qnt it)
def CY:List Itm->Nat->Nat
 |[],k=>k
 |it::l,k=>if it.aP=10 then CY l (k+1)else k
def C3 (aA:List Itm) (i:Nat):Nat:=CY (aA.drop (i+1)) (i+1)
theorem Qm5:∀(l:List Itm) (k:Nat),k<=CY l k/\CY l k<=k+l.length
 |[],k=>by simp[CY]
 |it::l,k=>by
  unfold CY;split
  ·have:=Qm5 l (k+1);simp;omega
  ·simp
theorem Q0e:∀(l:List Itm) (k:Nat),Gr l k=if CY l k-k<l.length/\smI (l.getD (CY l k-k) it0)then(CY l k:Int)else-1
 |[],k=>by simp[Gr]
 |it::l,k=>by
  have L:=Qm5 l (k+1);by_cases D:it.aP=10
  ·have e1:Gr (it::l) k=Gr l (k+1):=by rw[Gr,ab D]
   have e2:CY (it::l) k=CY l (k+1):=by rw[CY,ab D]
   rw[e1,e2,Q0e l (k+1)];have e3:CY l (k+1)-k=(CY l (k+1)-(k+1))+1:=by omega
   rw[e3,List.getD_cons_succ];by_cases c:CY l (k+1)-(k+1)<l.length
   ·have I:CY l (k+1)-(k+1)+1<(it::l).length:=by simp;omega
    by_cases G:smI (l.getD (CY l (k+1)-(k+1)) it0)
    ·rw[ab ⟨c,G⟩,ab ⟨I,G⟩]
    ·rw[aa (λg=>G g.2),aa (λg=>G g.2)]
   ·rw[aa (λg=>c g.1),aa (λg=>c (by have:=g.1;simp at this;omega))]
  ·have e1:Gr (it::l) k=if smI it then(k:Int)else-1:=by rw[Gr,aa D]
   have e2:CY (it::l) k=k:=by rw[CY,aa D]
   rw[e1,e2,iw,List.getD_cons_zero];by_cases c:smI it
   ·rw[ab c,ab ⟨by simp,c⟩]
   ·rw[aa c,aa (λg=>c g.2)]
theorem Q1k {aA:List Itm} (N:aA.length<=1000000):∀(k i:Nat),i+k=aA.length->
  Am PJ [.vC Ah (aA.map Ag),I i]=some (1,[I (CY (aA.drop i) i)])
 |0,i,O=>by
  refine A1 ?_ (by simp);rw[Q6y];simp only[go_sem,ah];rw[aa,ff (by omega)];rfl
 |k+1,i,O=>by
  have G:i<aA.length:=by omega
  have S:=E6 G;rw[Qmx G];have D:PJ [.vC Ah (aA.map Ag),I i]=if(vE aA i).aP=10 then some (0,[.vC Ah (aA.map Ag),I (i+1:Nat)])else some (1,[I i]):=by
   rw[Q6y];have M:(0:Int)<=(i:Int)/\(i:Int)<(aA.length:Int):=by omega
   simp only[go_sem,ah,ak,S,ab M];rw[ab,Ae];rfl
  unfold CY;by_cases L:(vE aA i).aP=10
  ·rw[ab L]at D⊢;rw[Bc D];exact Q1k N k (i+1) (by omega)
  ·rw[aa L]at D⊢;exact A1 D (by simp)
theorem Qbu {aA:List Itm} (D:aA.length<=1000000) {i:Nat} (G:i<aA.length):E8 [.vC Ah (aA.map Ag),I i]=some [I (C3 aA i)]:=by
 show Qd6 (Am PJ) _=_;have h:=Q1k D (aA.length-(i+1)) (i+1) (by omega);rw[Zpm,Ae,show(i:Int)+1=((i+1:Nat):Int) by omega,h];rfl
theorem Q2d {aA:List Itm}:B5 aA i=if smI (vE aA i)/\(vE aA i).bH≠0/\C3 aA i<aA.length/\smI (vE aA (C3 aA i))then(C3 aA i:Int)else-1:=by
 unfold B5;by_cases h:smI (vE aA i)/\(vE aA i).bH≠0
 ·rw[ab h,Q0e];have D:=Qm5 (aA.drop (i+1)) (i+1);rw[dg]at D;have e:(aA.drop (i+1)).getD (CY (aA.drop (i+1)) (i+1)-(i+1)) it0=vE aA (C3 aA i):=by
   unfold vE;rw[fc,ee,fc];have:i+1+(CY (aA.drop (i+1)) (i+1)-(i+1))=C3 aA i:=by unfold C3;omega
   rw[this]
  rw[e,dg];have e2:CY (aA.drop (i+1)) (i+1)=C3 aA i:=rfl;rw[e2]at D⊢;by_cases c:C3 aA i<aA.length/\smI (vE aA (C3 aA i))
  ·rw[ab ⟨by omega,c.2⟩,ab ⟨h.1,h.2,c⟩]
  ·rw[aa (λg=>c ⟨by have:=g.1;omega,g.2⟩),aa (λg=>c g.2.2)]
 ·rw[aa h,aa (λg=>h ⟨g.1,g.2.1⟩)]
theorem Zve {aA:List Itm} (V:∀it,M (Ag it)=some [B (decide (smI it))]) {i:Nat} (Y:i<aA.length) (hN:Z [.vC Ah (aA.map Ag),I i]=some [I (C3 aA i)]):
  Xd M Z [.vC Ah (aA.map Ag),I i]=some [B (decide (0<=B5 aA i))]:=by
 have hr:=E6 Y;have X:=V (vE aA i);rw[Zz5,Q2d];simp only[Ag]at X;have S:(0:Int)<=(i:Int)/\(i:Int)<(aA.length:Int):=by omega
 simp only[go_sem,ah,ak,hr,X,hN,ab S];by_cases L:smI (vE aA i)
 case neg=>rw[aa L,aa (λg=>L g.1)];simp
 rw[ab L];by_cases N:(vE aA i).bH=0
 ·rw[aa (by simp[N]),aa (λg=>g.2.1 N)];simp
 rw[ab N];by_cases T:C3 aA i<aA.length
 ·have U:=E6 T;have D:=V (vE aA (C3 aA i));simp only[Ag]at D;have G:(0:Int)<=(C3 aA i:Int)/\(C3 aA i:Int)<(aA.length:Int):=by omega
  rw[ab,ab G];simp only[go_sem,U,D];by_cases O:smI (vE aA (C3 aA i))
  ·rw[aj O,ab ⟨L,N,T,O⟩,aj (by omega)]
  ·rw[an O,aa (λg=>O g.2.2.2)];simp
 ·rw[aa,aa (λg=>T g.2.2.1)];simp
theorem Qrk {aA:List Itm} (G:aA.length<=1000000) {i:Nat} (D:i<aA.length):G7 [.vC Ah (aA.map Ag),I i]=some [B (decide (0<=B5 aA i))]:=
 Zve Uf D (Qbu G D)
theorem Tn {aA:List Itm} (h:0<=B5 aA i):B5 aA i=C3 aA i:=by
 rw[Q2d]at h⊢;split at h
 ·rename_i c;rw[ab c]
 ·omega
theorem Zmq {a c b:Pt} (G:bd B24 a) (D:bd B24 c) (hb:bd B24 b):(F3 a c b k).length%2=1:=by
 unfold F3;by_cases h:Dj a c b k=0
 ·rw[ab h];rfl
 ·rw[aa h];obtain⟨I,L,N,O,S,-⟩:=Qny h;obtain⟨m1,m2⟩:=UQ (AD a c) (AD c b);generalize Dj a c b k=d at*;have T:bd B24 (Bv c a d):=KG D G I (by omega);have U:bd B24 (Bv c b d):=KG D hb L (by rw[SW b c];omega);have M:=Qao (Bv c a d) c (Bv c b d);generalize Lk (Bv c a d) c (Bv c b d)=n at*;rw[ah,List.length_range];rcases M with rfl|rfl|rfl|rfl|rfl|rfl<;>rfl
theorem Zss {a b:Itm} {l:List Pt} (O:0<=a.bH/\a.bH<=1000) (T:1<=l.length/\l.length<=65) (D:l.length%2=1)
  (G:W (Ag a)=some (ptR (A8 a))) (L:W (Ag b)=some (ptR (A8 b))) (S:Z [I a.to.x,I a.to.y,I a.to.z]=some (ptR (Aw a.to)))
  (N:M (ptR (A8 a)++ptR (Aw a.to)++ptR (A8 b)++[I (a.bH*16)])=some [.vC kPt (l.map ptR)]):
  Qhl M Z W (Ag a++Ag b)=some [.vC kPt ((l.take (l.length/2+1)).map ptR), .vC kPt ((l.drop (l.length/2)).map ptR)]:=by
 simp only[Ag,az,bc]at G L⊢;rw[Z9k];simp only[ptR,az,bc]at N;simp only[go_sem,G,L,S];rw[Ae];simp only[N,go_sem,ah];have e:V ((V ((l.length:Int)-1)).tdiv 2)=((l.length/2:Nat):Int):=by
  rw[Ae (x:=(l.length:Int)-1),bp (by omega),Ae];omega
 have e2:V (((l.length/2:Nat):Int)+1)=((l.length/2+1:Nat):Int):=by rw[Ae];omega
 simp only[e,e2,ak];rw[ab,ab,List.map_take,List.map_drop]
theorem Zk4 {a b:Itm} (D:drawn a) (G:drawn b):
  Q2 (Ag a++Ag b)=some [.vC kPt (((F3 (A8 a) (Aw a.to) (A8 b) (a.bH*16)).take ((F3 (A8 a) (Aw a.to) (A8 b) (a.bH*16)).length/2+1)).map ptR), .vC kPt (((F3 (A8 a) (Aw a.to) (A8 b) (a.bH*16)).drop ((F3 (A8 a) (Aw a.to) (A8 b) (a.bH*16)).length/2)).map ptR)]:=
 have I:=K9 D.1.2.1 D.1.2.2.1;have L:=E3 D.1.2.2.1;have M:=K9 G.1.2.1 G.1.2.2.1
 Zss D.2 (Qzx I L M).2 (Zmq I L M) (SY D.1.2.1 D.1.2.2.1) (SY G.1.2.1 G.1.2.2.1) (Z9h (AY D.1.2.2.1 (by decide))) (Zse I L M (by have:=D.2;omega))
theorem Zxt {aA:List Itm} (hi:i<aA.length) (hd:drawn (vE aA i)) (hf:LF aA i a) (O:∀k<aA.length,AB (vE aA k)->drawn (vE aA k))
  (hK:P (Ag (vE aA i))=some [.vC kPt ((Ch (vE aA i)).map ptR),B true]) (hM:S (Ag (vE aA i))=some [B (decide (smI (vE aA i)))])
  (hJ:∀{i k:Nat},i<aA.length->k<aA.length->drawn (vE aA i)->drawn (vE aA k)->T (Ag (vE aA i)++Ag (vE aA k))=some [.vC kPt (((Hu aA i k).take ((Hu aA i k).length/2+1)).map ptR), .vC kPt (((Hu aA i k).drop ((Hu aA i k).length/2)).map ptR)])
  (hS:W [.vC Ah (aA.map Ag),I i]=some [B (decide (0<=B5 aA i))]) (hN:Z [.vC Ah (aA.map Ag),I i]=some [I (C3 aA i)]) (hC:M (Ag (vE aA i))=some (ptR (A8 (vE aA i)))):
  Wn M Z W T S P [.vC Ah (aA.map Ag),I i,I a]=some [.vC kPt ((CE aA i a).map ptR)]:=by
 have r1:=E6 hi;obtain⟨a6,a7⟩:=Qx0 (vE aA i);rw[Zlj];simp only[Ag,az,bc]at hK hM hC hJ;have a3:(0:Int)<=(i:Int)/\(i:Int)<(aA.length:Int):=by omega
 simp only[go_sem,ah,ak,r1,hK,hM,hC,hS,hN,bc,ab a3];unfold CE;by_cases hs:smI (vE aA i)
 case neg=>rw[ab (by simp[hs]),aa hs]
 rw[aa (by simp[hs]),ab hs];have a4:(vE aA i).aP≠3:=by have:=hs.1;omega
 have U:(Ch (vE aA i)).length=2:=by unfold Ch;rw[aa a4];rfl
 have w1:V (((Ch (vE aA i)).length:Int)-1)=1:=by rw[U];rfl
 rw[w1,U,ab,ab];unfold L6;rcases hf with rfl|⟨f,rfl,a0,a1⟩
 ·rw[aa (show¬(-1:Int)>=0 by omega)];unfold I1;rw[aa (show¬(0:Int)<= -1 by omega)];by_cases D:0<=B5 aA i
  ·obtain⟨k,hk,G,L⟩:=UZ O D;have X:=Tn D;rw[hk]at X;have Y:C3 aA i=k:=by omega
   obtain⟨j1,j2,j3⟩:=Le (aA:=aA) (i:=i) (k:=k) hd L;have hj:=hJ hi G hd L;have r2:=E6 G;have N:(0:Int)<=(k:Int)/\(k:Int)<(aA.length:Int):=by omega
   rw[ab D,ab D,hk,Y,ak,ab N];simp only[go_sem,ak,r2,hj];rw[ab (by simp[R5];omega),ab (by simp;omega),ab (by simp;omega)];simp only[R5,bv,ba,dp]
  ·rw[aa D,aa D,ab (by simp[R5];omega),ab (by simp;omega),ab (by simp;omega)];simp only[R5,Q39,bv,ba,dp]
 ·have a5:=hJ a0 hi a1 hd;obtain⟨f1,f2,f3⟩:=Le (aA:=aA) (i:=f) (k:=i) a1 hd;have rf:=E6 a0;have a2:(0:Int)<=(f:Int)/\(f:Int)<(aA.length:Int):=by omega
  rw[ab (show(f:Int)>=0 by omega),ab a2];unfold I1;rw[ab (show(0:Int)<=(f:Int) by omega),ak];simp only[rf,go_sem,a5,ak];by_cases D:0<=B5 aA i
  ·obtain⟨k,hk,G,L⟩:=UZ O D;have X:=Tn D;rw[hk]at X;have Y:C3 aA i=k:=by omega
   obtain⟨j1,j2,j3⟩:=Le (aA:=aA) (i:=i) (k:=k) hd L;have hj:=hJ hi G hd L;have r2:=E6 G;have N:(0:Int)<=(k:Int)/\(k:Int)<(aA.length:Int):=by omega
   rw[ab D,ab D,hk,Y,ak,ab N];simp only[go_sem,ak,r2,hj];rw[ab (by simp;omega),ab (by simp;omega),ab (by simp;omega)];simp only[bv,ba,dp]
  ·rw[aa D,aa D,ab (by simp;omega),ab (by simp;omega),ab (by simp;omega)];simp only[Q39,bv,ba,dp]
theorem Zy3 {aA:List Itm} (M:aA.length<=1000000) {i:Nat} {frm:Int} (L:i<aA.length) (G:drawn (vE aA i)) (hf:LF aA i frm) (D:∀k<aA.length,AB (vE aA k)->drawn (vE aA k)):
  Mp [.vC Ah (aA.map Ag),I i,I frm]=some [.vC kPt ((CE aA i frm).map ptR)]:=
 Zxt L G hf D (Z8j G.1) (Uf _) (λS T N O=>Zk4 N O) (Qrk M L) (Qbu M L) (SY G.1.2.1 G.1.2.2.1)
theorem Qzh {N MS:Fn} {l:List Itm} (T:∀k:Int,N [I k]=some [B (decide (1<=k/\k<=6))]) (U:∀it,MS (Ag it)=some [B (decide (syI it))]) (X:l.length<=1000000):∀(k i:Nat),i+k=l.length->
  (Am (KW N MS) [.vC Ah (l.map Ag),I l.length,I i]=some (1,[B (decide (Hv (l.drop i)=1))]))\/(Am (KW N MS) [.vC Ah (l.map Ag),I l.length,I i]=some (2,[])/\Hv (l.drop i)=2)
 |0,i,Y=>by
  right;refine⟨A1 ?_ (by simp),by rw[ff (by omega)];rfl⟩;rw[Qxq];simp only[go_sem];rw[aa]
 |k+1,i,Y=>by
  have L:i<l.length:=by omega
  have hr:=E6 L;rw[Qmx L];have V:=U (vE l i);have hm:=T (vE l i).aP;have D:KW N MS [.vC Ah (l.map Ag),I l.length,I i]=if AB (vE l i)then some (1,[B (decide (syI (vE l i)))])else some (0,[.vC Ah (l.map Ag),I l.length,I (i+1:Nat)]):=by
   rw[Qxq];simp only[Ag]at V;have S:(0:Int)<=(i:Int)/\(i:Int)<(l.length:Int):=by omega
   simp only[go_sem,ah,ak,hr,V,hm,ab S];rw[ab,Ae];by_cases O:AB (vE l i)
   ·rw[ab (show 1<=(vE l i).aP/\(vE l i).aP<=6 from O),ab O]
   ·rw[aa (show¬(1<=(vE l i).aP/\(vE l i).aP<=6)from O),aa O];rfl
  unfold Hv;by_cases M:AB (vE l i)
  ·rw[ab M]at D⊢;left;rw[A1 D (by simp)];by_cases G:syI (vE l i)
   ·rw[ab G,aj G];rfl
   ·rw[aa G,an G];rfl
  ·rw[aa M]at D⊢;rw[Bc D];exact Qzh T U X k (i+1) (by omega)
def IM (aA:List Itm) (i:Nat):Prop:=(vE aA i).bH=0\/syI (vE aA i)\/Hv (aA.drop (i+1))=1
theorem Z2c {aA:List Itm} (hM:∀k:Int,M [I k]=some [B (decide (1<=k/\k<=6))]) (Y:∀it,Z (Ag it)=some [B (decide (syI it))]) (hl:aA.length<=1000000) {i:Nat} (hi:i<aA.length):
  Qo9 M Z (Am (KW M Z)) [.vC Ah (aA.map Ag),I i]=some [B (decide (IM aA i))]:=by
 have hr:=E6 hi;have hs:=Y (vE aA i);have G:=Qzh hM Y (l:=aA.drop (i+1)) (by rw[dg];omega) (aA.drop (i+1)).length 0 (by omega);rw[fo]at G;rw[Zyd];simp only[Ag]at hs;have hw:V ((i:Int)+1)=((i+1:Nat):Int):=by rw[Ae];omega
 have U:(0:Int)<=(i:Int)/\(i:Int)<(aA.length:Int):=by omega
 have L:(0:Int)<=((i+1:Nat):Int)/\((i+1:Nat):Int)<=(aA.length:Int):=by omega
 have X:(List.drop (i+1) (aA.map Ag)).length=(aA.drop (i+1)).length:=by rw[dg,dg,ah]
 generalize Am (KW M Z)=N at*;simp only[go_sem,ah,ak,hr,hs,hw,ab U,ab L,X];rw[<-List.map_drop];by_cases O:(vE aA i).bH=0
 ·rw[ab O,aj (show IM aA i from .inl O)]
 ·rw[aa O];by_cases S:syI (vE aA i)
  ·rw[ab S,aj (show IM aA i from .inr (.inl S))]
  ·rw[aa S];rcases G with G|⟨G,hn⟩
   ·have D:N [.vC Ah ((aA.drop (i+1)).map Ag),I (aA.drop (i+1)).length,I 0]=some (1,[B (decide (Hv (aA.drop (i+1))=1))]):=G;simp only[D,go_sem];by_cases T:Hv (aA.drop (i+1))=1
    ·rw[aj T,aj (show IM aA i from .inr (.inr T))]
    ·rw[an T,an (show¬IM aA i from λh=>h.elim O λh=>h.elim S T)]
   ·have D:N [.vC Ah ((aA.drop (i+1)).map Ag),I (aA.drop (i+1)).length,I 0]=some (2,[]):=G;simp only[D,go_sem];rw[an (show¬IM aA i from λh=>h.elim O λh=>h.elim S λh=>by rw[hn]at h;cases h)];simp
theorem Z9f {aA:List Itm} (D:aA.length<=1000000) {i:Nat} (G:i<aA.length):Ro [.vC Ah (aA.map Ag),I i]=some [B (decide (IM aA i))]:=Z2c Q1 Qvk D G
def JB (aA:List Itm) (i:Nat):Int:=if AB (vE aA i)then Uv aA i else SZ (vE aA i)
theorem Yau {aA:List Itm} {aF:Rw} {aD:List Mrk} {b:Bool} (X:i<aA.length) (Y:aD.length<=1000000)
  (hM:Z [I (vE aA i).aP]=some [B (decide (AB (vE aA i)))]) (hE:M [.vC Ah (aA.map Ag),I i]=some [B (decide (IM aA i))]):
  Qin M Z [.vC Aj aF, .vC AF (aD.map At), .vC Ah (aA.map Ag),I i,I H.x,I H.y,I H.z,B b,I a,I v,I u]=
   some [.vC Aj aF, .vC AF ((aD++[(⟨a,JB aA i,i⟩:Mrk)]).map At),I H.x,I H.y,I H.z,B b,I a,I v,I u]:=by
 have hr:=E6 X;have T:(0:Int)<=(i:Int)/\(i:Int)<(aA.length:Int):=by omega
 have hb:(aD.length+1)*24<=140737488355328:=by omega
 have e:∀k:Int,aD.map At++[[I a,I k,I i]]=(aD++[(⟨a,k,i⟩:Mrk)]).map At:=λk=>by rw[bv];rfl
 rw[Z9r];simp only[go_sem,ah,ak,hr,ab T,hM,hE,ap,bm,da,ab hb];have fin:∀{k:Int},k=JB aA i->some [AC.vC Aj aF, .vC AF (aD.map At++[[I a,I k,I i]]),I H.x,I H.y,I H.z,B b,I a,I v,I u]=some [.vC Aj aF, .vC AF ((aD++[(⟨a,JB aA i,i⟩:Mrk)]).map At),I H.x,I H.y,I H.z,B b,I a,I v,I u]:=by
  intro k hk;rw[e,hk]
 unfold JB Uv SZ at fin⊢;by_cases O:(vE aA i).aP=4
 ·rw[ab O];have D:AB (vE aA i):=⟨by omega,by omega⟩;exact fin (by rw[ab D,ab O])
 ·rw[aa O];by_cases D:AB (vE aA i)
  ·rw[ab D];by_cases N:IM aA i
   ·rw[ab N];refine fin ?_;rw[ab D,aa O];rcases N with h|h|h
    ·rw[ab h]
    ·by_cases S:(vE aA i).bH=0
     ·rw[ab S]
     ·rw[aa S,ab h]
    ·by_cases S:(vE aA i).bH=0
     ·rw[ab S]
     ·rw[aa S];by_cases V:syI (vE aA i)
      ·rw[ab V]
      ·rw[aa V,h]
   ·rw[aa N,ab D];refine fin ?_;rw[ab D,aa O,aa (λh=>N (.inl h)),aa (λh=>N (.inr (.inl h)))];have U:∀l:List Itm,Hv l=1\/Hv l=2:=by
     intro l;induction l with
     |nil=>right;rfl
     |cons it l ih=>
      unfold Hv;split
      ·split<;>simp
      ·exact ih
    rcases U (aA.drop (i+1))with h|h
    ·exact absurd (.inr (.inr h)) N
    ·rw[h]
  ·rw[aa D,aa D];by_cases G:(vE aA i).aP=10
   ·rw[ab G];exact fin (by rw[aa D,ab G])
   ·rw[aa G];by_cases L:(vE aA i).aP=13
    ·rw[ab L];exact fin (by rw[aa D,aa G,ab L])
    ·rw[aa L];exact fin (by rw[aa D,aa G,aa L])
theorem Zsk {aA:List Itm} (O:aA.length<=1000000) {i:Nat} {aF:Rw} {aD:List Mrk} {D:Pt} {b:Bool} {len M G:Int} (N:i<aA.length) (L:aD.length<=1000000):
  IW [.vC Aj aF, .vC AF (aD.map At), .vC Ah (aA.map Ag),I i,I D.x,I D.y,I D.z,B b,I len,I M,I G]=
   some [.vC Aj aF, .vC AF ((aD++[(⟨len,JB aA i,i⟩:Mrk)]).map At),I D.x,I D.y,I D.z,B b,I len,I M,I G]:=
 Yau N L (Q1 _) (Z9f O N)
theorem Zo1 (a:Pt) (aF:List Sgm):aF=[]\/∃l g,aF=l++[g]/\E9 a aF=g.to/\((aF.length:Int)>0)/\nth [] (aF.map Ay) (aF.length-1)=Ay g:=by
 rcases List.eq_nil_or_concat aF with h|⟨l,g,h⟩
 ·exact .inl h
 ·right;rw[List.concat_eq_append]at h;refine⟨l,g,h,?_,?_,?_⟩
  ·rw[h];exact Su g a l
  ·rw[h];simp
  ·have D:aF.length-1<aF.length:=by rw[h];simp
   rw[IR _ _ _ _ D];congr 1;subst h;simp
theorem Zq6:
  SJ M [.vC Aj [], .vC AF l,I H.x,I H.y,I H.z,I G.x,I G.y,I G.z,I a,I k,I b,I v,I z.x,I z.y,I z.z,B false,I u,I r,I d]=
   some [.vC Aj [], .vC AF l,I H.x,I H.y,I H.z,B true,I u,I r,I d]:=by
 rw[Q8i];simp
theorem Zil {aF:List Sgm} {aD:Rw} (L:E9 z aF=o)
  (S:M [I o.x,I o.y,I o.z,I H.x,I H.y,I H.z]=some [I (AD o H)]) (hl:0<=AD o H/\AD o H<=268435456) (hs:aF.length+1<=1048577) (hlen:0<=u/\u<=4000000000000000000):
  SJ M [.vC Aj (aF.map Ay), .vC AF aD,I H.x,I H.y,I H.z,I G.x,I G.y,I G.z,I a,I k,I b,I v,I z.x,I z.y,I z.z,B true,I u,I r,I d]=
   some [.vC Aj ((A9 k b v (aF,u,o) H).1.map Ay), .vC AF aD,I z.x,I z.y,I z.z,B true,I (A9 k b v (aF,u,o) H).2.1,I r,I d]:=by
 have N:(aF.map Ay++[[I H.x,I H.y,I H.z,I (AD o H),I k,I b,I v]])=(aF++[(⟨H,AD o H,k,b,v⟩:Sgm)]).map Ay:=by rw[bv];rfl
 rw[Q8i];try dsimp only[go_sem]
 rcases Zo1 z aF with h|⟨l,s,X,T,Y,h4⟩
 ·subst h;have O:z=o:=L;subst O;simp only[dp,da];rw[AZ (by decide),Bool.not_true,aq];by_cases c:H=z
  ·have D:=DU.1 c;rw[By (by simp[D.1,D.2.1,D.2.2]),show A9 k b v ([],u,z) H=([],u,z)from ab c];rfl
  ·rw[Be,S]
   ·simp only[af,HQ,HA,gA,jA,wA,bA,bc,bm,da];rw[By (by decide),show A9 k b v ([],u,z) H=([⟨H,AD z H,k,b,v⟩],u+AD z H,H)from aa c,Ae];rfl
   ·have c2: ¬(H.x=z.x/\H.y=z.y/\H.z=z.z):=λG=>c (DU.2 G);simp only[Bool.and_true,Bool.and_eq_false_iff,beq_eq_false_iff_ne];omega
 ·rw[L]at T;have w1:V ((aF.length:Int)-1)=((aF.length-1:Nat):Int):=by rw[Ae];omega
  have U:(0:Int)<=((aF.length-1:Nat):Int)/\((aF.length-1:Nat):Int)<(aF.length:Int):=by omega
  rw[T]at S N⊢;clear X;simp only[go_sem,ah,w1,ak,h4,ab Y,ab U,S,ap,bm,da];rw[aa (by simp)];by_cases c:H=s.to
  ·have D:=DU.1 c;rw[ab ⟨D.1,D.2.1,D.2.2,trivial⟩,show A9 k b v (aF,u,s.to) H=(aF,u,s.to)from ab c]
  ·rw[aa (λG=>c (DU.2 ⟨G.1,G.2.1,G.2.2.1⟩)),ab,show A9 k b v (aF,u,s.to) H=(aF++[⟨H,AD s.to H,k,b,v⟩],u+AD s.to H,H)from aa c,Ae (by rw[<-T]at*;omega),N]
noncomputable def DO (it:Itm) (aU aZ aX:Int) (s:(List Sgm×Int×Pt)×Int) (q:Pt):(List Sgm×Int×Pt)×Int:=
 (A9 aU aZ aX s.1 q,if smI it/\q=A8 it then(A9 aU aZ aX s.1 q).2.1 else s.2)
theorem Qn5 {it:Itm} {aU aZ aX:Int}:∀(D:List Pt) (s:(List Sgm×Int×Pt)×Int),(D.foldl (DO it aU aZ aX) s).1=D.foldl (A9 aU aZ aX) s.1
 |[],_=>rfl
 |q::D,s=>by rw[fh,fh,Qn5 D];rfl
theorem Za3 {MM S MA MP MG MR:Fn} {it:Itm} {D:List Pt} (hj:i<D.length) (a0:D.length<=1000000) {aF L:Rw} {aD:Rw} {g O G:Pt} {b b':Bool} {X aU aZ aX len M T N:Int}
  (hM:S (Ag it)=some [B (decide (smI it))]) (hC:MM (Ag it)=some (ptR (A8 it)))
  (hA:MA [.vC Aj aF, .vC AF aD,I D[i].x,I D[i].y,I D[i].z,I g.x,I g.y,I g.z,I X,I aU,I aZ,I aX,I O.x,I O.y,I O.z,B b,I len,I T,I N]=some [.vC Aj L, .vC AF aD,I G.x,I G.y,I G.z,B b',I M,I T,I N]):
  LU MM S MA MP MG MR (.vC Aj aF:: .vC AF aD:: .vC kPt (D.map ptR)::I D.length::I i::(Ag it++[I g.x,I g.y,I g.z,I X,I aU,I aZ,I aX,I O.x,I O.y,I O.z,B b,I len,I T,I N]))=
   some (0, .vC Aj L:: .vC AF aD:: .vC kPt (D.map ptR)::I D.length::I (i+1:Nat)::(Ag it++[I g.x,I g.y,I g.z,I X,I aU,I aZ,I aX,I G.x,I G.y,I G.z,B b',I M,I T,I (if smI it/\D[i]=A8 it then M else N)])):=by
 have hr:nth [] (D.map ptR) i=ptR D[i]:=IR _ _ _ _ hj;have Y:(0:Int)<=(i:Int)/\(i:Int)<(D.length:Int):=by omega
 have hw:V ((i:Int)+1)=((i+1:Nat):Int):=by rw[Ae];omega
 generalize D[i]=q at*;simp only[Ag]at hM hC;simp only[Ag,az,bc];rw[Zb7];simp only[go_sem,ah,ak,hr,ab Y,hA,hM,hC,hw];rw[ab];by_cases c:smI it
 ·rw[ab c];by_cases U:q=A8 it
  ·have c3:=DU.1 U;rw[ab ⟨c3.1,c3.2.1,c3.2.2,trivial⟩,ab ⟨c,U⟩]
  ·rw[aa (λh=>U (DU.2 ⟨h.1,h.2.1,h.2.2.1⟩)),aa (λh=>U h.2)]
 ·rw[aa c,aa (λh=>c h.1)]
theorem Qeu {MM S MA MP MG MR:Fn} {it:Itm} {D:List Pt} (T:D.length<=1000000) {aD:Rw} {g G:Pt} {gl aU aZ aX V:Int} (X:bd 67108864 G) (M:∀p∈D,bd 67108864 p)
  (hM:S (Ag it)=some [B (decide (smI it))]) (hC:MM (Ag it)=some (ptR (A8 it)))
  (hA : ∀ {aF : List Sgm} {q at_ : Pt} {len mid : Int}, E9 G aF = at_ -> bd 67108864 at_ -> bd 67108864 q -> aF.length + 1 <= 1048577 -> (0 <= len /\ len <= 4000000000000000000) ->
   MA [.vC Aj (aF.map Ay), .vC AF aD,I q.x,I q.y,I q.z,I g.x,I g.y,I g.z,I gl,I aU,I aZ,I aX,I G.x,I G.y,I G.z,B true,I len,I V,I mid]=
   some [.vC Aj ((A9 aU aZ aX (aF,len,at_) q).1.map Ay), .vC AF aD,I G.x,I G.y,I G.z,B true,I (A9 aU aZ aX (aF,len,at_) q).2.1,I V,I mid]):
  ∀(k j:Nat) (s:List Sgm×Int×Pt) (mid:Int),j+k=D.length->s.1.length+k<=1048576->0<=s.2.1->s.2.1+k*268435456<=4000000000000000000->bd 67108864 s.2.2->E9 G s.1=s.2.2->
  Am (LU MM S MA MP MG MR) (.vC Aj (s.1.map Ay):: .vC AF aD:: .vC kPt (D.map ptR)::I D.length::I j::(Ag it++[I g.x,I g.y,I g.z,I gl,I aU,I aZ,I aX,I G.x,I G.y,I G.z,B true,I s.2.1,I V,I mid]))=
   some (1,[.vC Aj (((D.drop j).foldl (DO it aU aZ aX) (s,mid)).1.1.map Ay), .vC AF aD,I G.x,I G.y,I G.z,B true,I ((D.drop j).foldl (DO it aU aZ aX) (s,mid)).1.2.1,I V,I ((D.drop j).foldl (DO it aU aZ aX) (s,mid)).2])
 |0,j,s,mid,hj,_,_,_,_,_=>by
  refine A1 ?_ (by simp);simp only[Ag,az,bc];rw[Zb7,AZ (by omega),ff (by omega)];rfl
 |k+1,j,s,mid,hj,hs,U,Y,L,he=>by
  have N:j<D.length:=by omega
  have hq:=M _ (cg N);obtain⟨aF,len,at_⟩:=s;simp only at hs U Y L he;have ha:=hA (q:=D[j]) (mid:=mid) he L hq (by omega) (by constructor<;>omega);have O:=Za3 (MP:=MP) (MG:=MG) (MR:=MR) N T hM hC ha;have hinv:E9 G (A9 aU aZ aX (aF,len,at_) D[j]).1=(A9 aU aZ aX (aF,len,at_) D[j]).2.2/\bd 67108864 (A9 aU aZ aX (aF,len,at_) D[j]).2.2/\
    (A9 aU aZ aX (aF,len,at_) D[j]).1.length<=aF.length+1/\0<=(A9 aU aZ aX (aF,len,at_) D[j]).2.1/\(A9 aU aZ aX (aF,len,at_) D[j]).2.1<=len+268435456:=by
   have hl:=H8 L hq;unfold A9;split
   ·exact⟨he,L,by simp,U,by simp only;omega⟩
   ·refine⟨Su _ _ _,hq,by simp,?_,?_⟩<;>simp only<;>omega
  rw[Bc O];obtain⟨i1,i2,i3,i4,i5⟩:=hinv;have:=Qeu (MP:=MP) (MG:=MG) (MR:=MR) T X M hM hC hA k (j+1) (A9 aU aZ aX (aF,len,at_) D[j]) (if smI it/\D[j]=A8 it then(A9 aU aZ aX (aF,len,at_) D[j]).2.1 else mid) (by omega) (by omega) i4 (by omega) i2 i1;rw[this,Ox D j N,fh];rfl
theorem Zly {it:Itm} (h:Dt it):∃l,Ch it=Aw it.fr::l:=by
 unfold Ch;by_cases G:it.aP=3
 ·rw[ab G];unfold DH;rw[ba];refine⟨(DK it.dir 16 it.bG (Ek it it.fr) (Ek it it.to)).map (Ji it),?_⟩;congr 1;obtain⟨D,-,M,-⟩:=h.2.2.2 G;obtain⟨I,L,N⟩:=TG it.aG it.ce;unfold Ji Ek;simp only[I,L];unfold dU dW;have e1:plU it.aG it.ce*16+(plU it.aG it.fr-plU it.aG it.ce)*16=plU it.aG it.fr*16:=by omega
  have e2:plW it.aG it.ce*16+(plW it.aG it.fr-plW it.aG it.ce)*16=plW it.aG it.fr*16:=by omega
  rw[e1,e2];unfold spP plU plW plH Aw;rcases D with D|D|D<;>rw[D]<;>rfl
 ·rw[aa G];exact⟨_,rfl⟩
theorem Z7l {aA:List Itm} (h:Dt (vE aA i)):∃l,CE aA i (-1)=Aw (vE aA i).fr::l:=by
 obtain⟨l,D⟩:=Zly h;unfold CE;split
 ·unfold I1;rw[aa,D];exact⟨_,rfl⟩
 ·exact⟨l,D⟩
noncomputable def Fb (aA:List Itm) (i:Nat) (s:BSt) (D:Int):(List Sgm×Int×Pt)×Int:=
 (CE aA i s.frm).foldl (DO (vE aA i) i (HM (vE aA i) s.aS) (OA (vE aA i))) ((s.aF,s.len,if s.bI=true then s.at_ else Aw (vE aA i).fr),D)
theorem Za1 (aA:List Itm) (i:Nat) (s:BSt) (D:Int):(Fb aA i s D).1=Ft aA i s:=by
 unfold Fb Ft;rw[Qn5]
theorem Z9e {aA:List Itm} {s:BSt} {aD:Rw} {mid:Int} (hi:i<aA.length) (hlen:aA.length<=15) (hv:Dt (vE aA i)) (L:BOK aA i s) (hinv:BInv s)
  (D:(∀p∈CE aA i s.frm,bd 67108864 p)/\(CE aA i s.frm).length<=65537)
  (U:syI (vE aA i)->0<=(vE aA i).aZ/\(vE aA i).aZ<=60000000) (a1:s.bI=false->s.frm= -1)
  (hM:Z (Ag (vE aA i))=some [B (decide (smI (vE aA i)))]) (hC:M (Ag (vE aA i))=some (ptR (A8 (vE aA i))))
  (hG:S (Ag (vE aA i))=some [B (decide (syI (vE aA i)))]) (hR:P (Ag (vE aA i)++[I s.aS])=some [I (HM (vE aA i) s.aS)])
  (hP:T [.vC Ah (aA.map Ag),I i,I s.frm]=some [.vC kPt ((CE aA i s.frm).map ptR)])
  (hA : ∀ {aF : List Sgm} {q g st at_ : Pt} {gl aU aZ aX len mid : Int}, E9 st aF = at_ -> bd 67108864 at_ -> bd 67108864 q -> aF.length + 1 <= 1048577 -> (0 <= len /\ len <= 4000000000000000000) ->
   W [.vC Aj (aF.map Ay), .vC AF aD,I q.x,I q.y,I q.z,I g.x,I g.y,I g.z,I gl,I aU,I aZ,I aX,I st.x,I st.y,I st.z,B true,I len,I s.aS,I mid]=
   some [.vC Aj ((A9 aU aZ aX (aF,len,at_) q).1.map Ay), .vC AF aD,I st.x,I st.y,I st.z,B true,I (A9 aU aZ aX (aF,len,at_) q).2.1,I s.aS,I mid])
  (a3 : ∀ {q g st : Pt} {gl aU aZ aX len mid : Int}, W [.vC Aj [], .vC AF aD, I q.x, I q.y, I q.z, I g.x, I g.y, I g.z, I gl, I aU, I aZ, I aX, I st.x, I st.y, I st.z, B false, I len, I s.aS, I mid] =
   some [.vC Aj [], .vC AF aD,I q.x,I q.y,I q.z,B true,I len,I s.aS,I mid]):
  Qku M Z W T S P (Am (LU M Z W T S P)) [.vC Aj (s.aF.map Ay), .vC AF aD, .vC Ah (aA.map Ag),I i,I s.frm,I s.aQ.x,I s.aQ.y,I s.aQ.z,B s.bI,I s.len,I s.aS,I mid]=
   some [.vC Aj ((Fb aA i s mid).1.1.map Ay), .vC AF aD,B true,I (if s.bI=true then s.aQ else Aw (vE aA i).fr).x,I (if s.bI=true then s.aQ else Aw (vE aA i).fr).y,I (if s.bI=true then s.aQ else Aw (vE aA i).fr).z,B true,I (Fb aA i s mid).1.2.1,I s.aS,I (Fb aA i s mid).2]:=by
 have hr:=E6 hi;have a4:(0:Int)<=(i:Int)/\(i:Int)<(aA.length:Int):=by omega
 have a7:=L.aF;have V:=L.len
 have X:∀aX aZ:Int,Am (LU M Z W T S P) (.vC Aj (s.aF.map Ay):: .vC AF aD:: .vC kPt ((CE aA i s.frm).map ptR)::I (CE aA i s.frm).length::I (0:Nat)::(Ag (vE aA i)++[I (⟨0,0,0⟩:Pt).x,I (⟨0,0,0⟩:Pt).y,I (⟨0,0,0⟩:Pt).z,I 0,I i,I aZ,I aX,I s.aQ.x,I s.aQ.y,I s.aQ.z,B s.bI,I s.len,I s.aS,I mid]))=
   some (1, [.vC Aj (((CE aA i s.frm).foldl (DO (vE aA i) i aZ aX) ((s.aF, s.len, if s.bI = true then s.at_ else Aw (vE aA i).fr), mid)).1.1.map Ay), .vC AF aD, I (if s.bI = true then s.aQ else Aw (vE aA i).fr).x, I (if s.bI = true then s.aQ else Aw (vE aA i).fr).y, I (if s.bI = true then s.aQ else Aw (vE aA i).fr).z, B true,
    I ((CE aA i s.frm).foldl (DO (vE aA i) i aZ aX) ((s.aF,s.len,if s.bI=true then s.at_ else Aw (vE aA i).fr),mid)).1.2.1,I s.aS,I ((CE aA i s.frm).foldl (DO (vE aA i) i aZ aX) ((s.aF,s.len,if s.bI=true then s.at_ else Aw (vE aA i).fr),mid)).2]):=by
  intro aX aZ;by_cases hb:s.bI=true
  ·obtain⟨g1,g2⟩:=hinv.bI hb;obtain⟨g3,g4,g5⟩:=g2;rw[ab hb,ab hb,hb];have:=Qeu (MP:=T) (MG:=S) (MR:=P) (g:=⟨0,0,0⟩) (gl:=0) (aU:=i) (aZ:=aZ) (aX:=aX) (by omega) g1 D.1 hM hC (λh1 h2 h3 h4 h5=>hA h1 h2 h3 h4 h5) (CE aA i s.frm).length 0 (s.aF,s.len,s.at_) mid (by omega) (by simp only;omega) V.1 (by simp only;omega) (L.at_ hb) g4;rw[fo]at this;exact this
  ·have Y:s.bI=false:=by simpa using hb
   obtain⟨e1,e2,e3⟩:=hinv.empty Y;obtain⟨l,hl⟩:=Z7l hv;have a2:bd 67108864 (Aw (vE aA i).fr):=AY (E3 hv.2.1) (by decide);rw[aa hb,aa hb,Y,e1];rw[a1 Y,hl]at D⊢;have h0:0<(Aw (vE aA i).fr::l).length:=by simp
   have a0:=Za3 (MP:=T) (MG:=S) (MR:=P) h0 (by omega) hM hC (a3 (q:=Aw (vE aA i).fr) (g:=⟨0,0,0⟩) (st:=s.aQ) (gl:=0) (aU:=i) (aZ:=aZ) (aX:=aX) (len:=s.len) (mid:=mid));rw[dp,Bc a0];have:=Qeu (MP:=T) (MG:=S) (MR:=P) (g:=⟨0,0,0⟩) (gl:=0) (aU:=i) (aZ:=aZ) (aX:=aX) (by omega) a2 D.1 hM hC (λh1 h2 h3 h4 h5=>hA h1 h2 h3 h4 h5) l.length 1 ([],s.len,Aw (vE aA i).fr) (if smI (vE aA i)/\Aw (vE aA i).fr=A8 (vE aA i)then s.len else mid) (by simp;omega) (by simp only[da];simp at D;omega) V.1 (by simp only;simp at D;omega) a2 rfl;rw[List.drop_succ_cons,fo]at this;rw[fh];have e4:DO (vE aA i) i aZ aX (([],s.len,Aw (vE aA i).fr),mid) (Aw (vE aA i).fr)=(([],s.len,Aw (vE aA i).fr),if smI (vE aA i)/\Aw (vE aA i).fr=A8 (vE aA i)then s.len else mid):=by
    unfold DO;rw[show A9 i aZ aX ([],s.len,Aw (vE aA i).fr) (Aw (vE aA i).fr)=([],s.len,Aw (vE aA i).fr)from ab rfl]
   rw[e4];exact this
 have G:∀aX aZ:Int,((CE aA i s.frm).foldl (DO (vE aA i) i aZ aX) ((s.aF,s.len,if s.bI=true then s.at_ else Aw (vE aA i).fr),mid)).1.1.length<=1048576:=by
  intro aX aZ;rw[Qn5];have a5:bd 67108864 (if s.bI=true then s.at_ else Aw (vE aA i).fr):=by
   split
   ·rename_i hb;exact L.at_ hb
   ·exact AY (E3 hv.2.1) (by decide)
  have:=(S8 (aU:=i) (aZ:=aZ) (aX:=aX) (CE aA i s.frm) (s.aF,s.len,if s.bI=true then s.at_ else Aw (vE aA i).fr) D.1 a5 V.1).1;simp only at this⊢;omega
 generalize Am (LU M Z W T S P)=N at*;have O:=λaX aZ=>X aX aZ;simp only[Ag,az,bc]at hG hR O;rw[Yan];simp only[go_sem,ah,ak,hr,ab a4,hG,hR,hP];have a6:((0:Nat):Int)=0:=rfl;simp only[a6]at O;unfold Fb OA;by_cases hs:syI (vE aA i)
 ·have hf:=U hs;rw[ab hs];simp only[ab hs];rw[Ae];simp only[O,go_sem,ah];rw[aj (show((_:Nat):Int)<=1048576 from by have:=G (mn ((vE aA i).aZ*16) 16777216) (HM (vE aA i) s.aS);omega)]
 ·rw[aa hs];simp only[aa hs];simp only[O,go_sem,ah];rw[aj (show((_:Nat):Int)<=1048576 from by have:=G 0 (HM (vE aA i) s.aS);omega)]
theorem Qca {MK U V MS S T:Fn} {aA:List Itm} (X:∀k:Int,S [I k]=some [B (decide (1<=k/\k<=6))]) (Y:∀it,T (Ag it)=some [I (if Cd it then 1 else 0)]) (hl:aA.length<=1000000):
  ∀(k i:Nat) (last:Int),i+k=aA.length->(last= -1\/(0<=last/\last<i))->
  (Am (P6 MK U V MS S T) [.vC Aj [], .vC AF [], .vC Ah (aA.map Ag),I last, .vC Ah (aA.map Ag),I aA.length,I i,I 0,I 0,I 0,B false,I 0,I 0,I 0]=some (1,[.vC Aj [], .vC AF [],I (Gu aA k i last),I 0,I 0,I 0,B false,I 0,I 0,I 0])/\Gu aA k i last≠0)\/
  (Am (P6 MK U V MS S T) [.vC Aj [], .vC AF [], .vC Ah (aA.map Ag),I last, .vC Ah (aA.map Ag),I aA.length,I i,I 0,I 0,I 0,B false,I 0,I 0,I 0]=some (2,[.vC Aj [], .vC AF [], .vC Ah (aA.map Ag),I 0,I 0,I 0,B false,I 0,I 0,I 0])/\Gu aA k i last=0)
 |0,i,last,hi,_=>by
  right;refine⟨A1 ?_ (by simp),rfl⟩;rw[Q4n,AZ (by omega)]
 |k+1,i,last,hi,a0=>by
  have a1:i<aA.length:=by omega
  have hr:=E6 a1;have hw:=Y (vE aA i);have hm:=X (vE aA i).aP;have a2:(0:Int)<=(i:Int)/\(i:Int)<(aA.length:Int):=by omega
  have D:P6 MK U V MS S T [.vC Aj [], .vC AF [], .vC Ah (aA.map Ag),I last, .vC Ah (aA.map Ag),I aA.length,I i,I 0,I 0,I 0,B false,I 0,I 0,I 0]=
    if Cd (vE aA i)then some (1,[.vC Aj [], .vC AF [],I 1,I 0,I 0,I 0,B false,I 0,I 0,I 0])else if AB (vE aA i)then(if 0<=last/\(vE aA last.toNat).to≠(vE aA i).fr then some (1,[.vC Aj [], .vC AF [],I 13,I 0,I 0,I 0,B false,I 0,I 0,I 0])else some (0,[.vC Aj [], .vC AF [], .vC Ah (aA.map Ag),I i, .vC Ah (aA.map Ag),I aA.length,I (i+1:Nat),I 0,I 0,I 0,B false,I 0,I 0,I 0]))
    else some (0,[.vC Aj [], .vC AF [], .vC Ah (aA.map Ag),I last, .vC Ah (aA.map Ag),I aA.length,I (i+1:Nat),I 0,I 0,I 0,B false,I 0,I 0,I 0]):=by
   rw[Q4n];simp only[Ag]at hw;simp only[go_sem,ah,ak,hr,hw,hm,ab a2];rw[ab,Ae];by_cases N:Cd (vE aA i)
   ·simp only[ab N];rw[ab]
   simp only[aa N];rw[aa (by simp)];by_cases G:AB (vE aA i)
   ·rw[aa (λh=>h G),ab G];rcases a0 with rfl|⟨h1,h2⟩
    ·rw[aa (show¬(-1:Int)>=0 by omega),aa (λh=>by omega)];rfl
    ·obtain⟨L,rfl⟩:=bq h1;have hL:L<aA.length:=by omega
     have O:(0:Int)<=(L:Int)/\(L:Int)<(aA.length:Int):=by omega
     have a3:=E6 hL;simp only[ak,a3,go_sem,ab O];rw[ab];by_cases M:(vE aA L).to=(vE aA i).fr
     ·have c4:=DU.1 M;rw[aa (λh=>h ⟨c4.1,c4.2.1,c4.2.2,trivial⟩),aa (λh=>h.2 M)];rfl
     ·rw[ab (λh=>M (DU.2 ⟨h.1,h.2.1,h.2.2.1⟩)),ab ⟨h1,M⟩]
   ·rw[ab (show¬(1<=(vE aA i).aP/\(vE aA i).aP<=6)from G),aa G];rfl
  unfold Gu;by_cases N:Cd (vE aA i)
  ·rw[ab N]at D⊢;exact .inl ⟨A1 D (by simp),by simp⟩
  ·rw[aa N]at D⊢;by_cases G:AB (vE aA i)
   ·rw[ab G]at D⊢;by_cases M:0<=last/\(vE aA last.toNat).to≠(vE aA i).fr
    ·rw[ab M]at D⊢;exact .inl ⟨A1 D (by simp),by simp⟩
    ·rw[aa M]at D⊢;rw[Bc D];exact Qca X Y hl k (i+1) i (by omega) (.inr (by omega))
   ·rw[aa G]at D⊢;rw[Bc D];exact Qca X Y hl k (i+1) last (by omega) (by omega)
noncomputable def Ga (aA:List Itm):Nat->Int
 |0=> -1
 |i+1=>if AB (vE aA i)then i else Ga aA i
theorem Qus (aA:List Itm):∀i,Ga aA i= -1\/∃L:Nat,Ga aA i=L/\L<i/\AB (vE aA L)/\∀j,L<j->j<i-> ¬AB (vE aA j)
 |0=> .inl rfl
 |i+1=>by
  unfold Ga;by_cases c:AB (vE aA i)
  ·rw[ab c];exact .inr ⟨i,rfl,by omega,c,λj D G=>by omega⟩
  ·rw[aa c];rcases Qus aA i with h|⟨L,D,G,I,M⟩
   ·exact .inl h
   ·refine .inr ⟨L,D,by omega,I,λj g1 g2=> ?_⟩;by_cases e:j=i
    ·rw[e];exact c
    ·exact M j g1 (by omega)
theorem Quk (aA:List Itm):∀i,(Ax aA i).frm=if 0<=Ga aA i/\0<=B5 aA (Ga aA i).toNat then Ga aA i else-1
 |0=>by rw[Ax,Ga,aa]
 |i+1=>by
  rw[Ax,Ga];unfold FY;by_cases c:AB (vE aA i)
  ·rw[ab c,ab c];simp only[ak];by_cases D:0<=B5 aA i
   ·rw[ab D,ab ⟨by omega,D⟩]
   ·rw[aa D,aa (λh=>D h.2)]
  ·rw[aa c,aa c];exact Quk aA i
theorem Zoa {aA:List Itm} (I:A<i) (T:i<aA.length) (L:AB (vE aA i)) (D:∀j,A<j->j<i-> ¬AB (vE aA j)) (M:0<=B5 aA A):C3 aA A=i:=by
 have U:=Tn M;rcases Y4 aA A with h|⟨-,-,k,V,N,X,G,O⟩
 ·omega
 ·have S:C3 aA A=k:=by omega
  rw[S];rcases Nat.lt_trichotomy k i with h|h|h
  ·exact absurd ⟨by have:=G.1;omega,by have:=G.1;omega⟩ (D k N h)
  ·exact h
  ·have:=O i I h;have:=L.2;omega
noncomputable def CO (aA:List Itm):Nat->Int
 |0=>0
 |i+1=>if AB (vE aA i)then(Fb aA i (Ax aA i) (CO aA i)).2 else CO aA i
theorem Qs2 (aA:List Itm):∀i,(Ax aA i).bI=false->(Ax aA i).frm= -1
 |0,_=>by rw[Ax]
 |i+1,h=>by
  rw[Ax]at h⊢;unfold FY at h⊢;by_cases c:AB (vE aA i)
  ·rw[ab c]at h;cases h
  ·rw[aa c]at h⊢;exact Qs2 aA i h
noncomputable abbrev pbR (aA:List Itm) (i:Nat):List AC:=
 [.vC Aj ((Ax aA i).aF.map Ay), .vC AF ((Ax aA i).aD.map At), .vC Ah (aA.map Ag),I (Ga aA i), .vC Ah (aA.map Ag),I aA.length,I i,I (Ax aA i).aQ.x,I (Ax aA i).aQ.y,I (Ax aA i).aQ.z,B (Ax aA i).bI,I (Ax aA i).len,I (Ax aA i).aS,I (CO aA i)]
theorem Zd8 {aA:List Itm} (hi:i<aA.length) (hlen:aA.length<=15) (a3:(Ax aA i).aD.length=i)
  (hM:∀k:Int,S [I k]=some [B (decide (1<=k/\k<=6))]) (hS:∀L:Nat,L<aA.length->T [.vC Ah (aA.map Ag),I L]=some [B (decide (0<=B5 aA L))]) (hN:∀L:Nat,L<aA.length->W [.vC Ah (aA.map Ag),I L]=some [I (C3 aA L)])
  (hV : AB (vE aA i) -> Z [.vC Aj ((Ax aA i).aF.map Ay), .vC AF ((Ax aA i).aD.map At), .vC Ah (aA.map Ag), I i, I (Ax aA i).frm, I (Ax aA i).aQ.x, I (Ax aA i).aQ.y, I (Ax aA i).aQ.z, B (Ax aA i).bI, I (Ax aA i).len, I (Ax aA i).aS, I (CO aA i)] =
   some [.vC Aj ((Fb aA i (Ax aA i) (CO aA i)).1.1.map Ay), .vC AF ((Ax aA i).aD.map At),B true,I (if(Ax aA i).bI=true then(Ax aA i).aQ else Aw (vE aA i).fr).x,I (if(Ax aA i).bI=true then(Ax aA i).aQ else Aw (vE aA i).fr).y,I (if(Ax aA i).bI=true then(Ax aA i).aQ else Aw (vE aA i).fr).z,B true,
    I (Fb aA i (Ax aA i) (CO aA i)).1.2.1,I (Ax aA i).aS,I (Fb aA i (Ax aA i) (CO aA i)).2])
  (hK : ∀ {aF : Rw} {st : Pt} {b : Bool} {len sp O : Int}, M [.vC Aj aF, .vC AF ((Ax aA i).aD.map At), .vC Ah (aA.map Ag), I i, I st.x, I st.y, I st.z, B b, I len, I sp, I O] =
   some [.vC Aj aF, .vC AF (((Ax aA i).aD++[(⟨len,JB aA i,i⟩:Mrk)]).map At),I st.x,I st.y,I st.z,B b,I len,I sp,I O]):
  PB M Z W T S P N (pbR aA i)=some (0,pbR aA (i+1)):=by
 have hr:=E6 hi;have a0:(0:Int)<=(i:Int)/\(i:Int)<(aA.length:Int):=by omega
 have hw:V ((i:Int)+1)=((i+1:Nat):Int):=by rw[Ae];omega
 have hf:=Quk aA i;have X:=Qus aA i;have a1:=Za1 aA i (Ax aA i) (CO aA i);have e1:Ga aA (i+1)=if AB (vE aA i)then(i:Int)else Ga aA i:=rfl;have e2:CO aA (i+1)=if AB (vE aA i)then(Fb aA i (Ax aA i) (CO aA i)).2 else CO aA i:=rfl;have e3:Ax aA (i+1)=FY aA i (Ax aA i):=rfl;unfold pbR;rw[e1,e2,e3];generalize Ax aA i=s at*;generalize Ga aA i=last at*;generalize a4:CO aA i=O at*;unfold FY;rw[Q72];by_cases G:AB (vE aA i)
 ·have h8: ¬(vE aA i).aP=8:=λh=>by have:=G.2;omega
  have hV:=hV G;have D:JB aA i=Uv aA i:=ab G;rw[ab G,ab G,ab G];rw[a1]at hV;have Y:S [I (vE aA i).aP]=some [B true]:=by rw[hM,aj (show 1<=(vE aA i).aP/\(vE aA i).aP<=6 from G)]
  simp only[go_sem,ah,ak,hr,ab a0,Y];rw[ab,aa h8];have U:∀{x:Option (Nat×List AC)} {frm:Int},s.frm=frm->(Z [.vC Aj (s.aF.map Ay), .vC AF (s.aD.map At), .vC Ah (aA.map Ag),I i,I frm,I s.aQ.x,I s.aQ.y,I s.aQ.z,B s.bI,I s.len,I s.aS,I O])=
    some [.vC Aj ((Ft aA i s).1.map Ay), .vC AF (s.aD.map At),B true,I (if s.bI=true then s.aQ else Aw (vE aA i).fr).x,I (if s.bI=true then s.aQ else Aw (vE aA i).fr).y,I (if s.bI=true then s.aQ else Aw (vE aA i).fr).z,B true,I (Ft aA i s).2.1,I s.aS,I (Fb aA i s O).2]:=by
   intro x frm h;rw[<-h];exact hV
  rcases X with X|⟨L,h1,h2,h3,h4⟩
  ·rw[X];rw[X,aa]at hf;rw[aa (show¬(-1:Int)>=0 by omega)];have hv:=U (x:=none) hf;simp only[hv,go_sem,hK,hw,D];simp
  ·rw[h1]at hf⊢;rw[ak]at hf;have hs:=hS L (by omega);have hn:=hN L (by omega);rw[ab (show(L:Int)>=0 by omega)];by_cases c:0<=B5 aA L
   ·have a2:=Zoa h2 hi G h4 c;rw[ab ⟨by omega,c⟩]at hf;rw[a2]at hn;rw[aj c]at hs;have hv:=U (x:=none) hf;simp only[hs,hn,go_sem];simp only[hv,go_sem,hK,hw,D];simp
   ·rw[aa (λh=>c h.2)]at hf;rw[an c]at hs;have hv:=U (x:=none) hf;simp only[hs,go_sem];simp only[hv,go_sem,hK,hw,D];simp
 ·have D:JB aA i=SZ (vE aA i):=aa G;rw[aa G,aa G,aa G];have Y:S [I (vE aA i).aP]=some [B false]:=by rw[hM,an (show¬(1<=(vE aA i).aP/\(vE aA i).aP<=6)from G)]
  unfold QQ;simp only[go_sem,ah,ak,hr,ab a0,Y,hK,hw,D];rw[ab];by_cases h8:(vE aA i).aP=8
  ·by_cases h3:(vE aA i).n=3
   ·simp[h8,h3]
   ·by_cases h4:(vE aA i).n=4
    ·simp[h8,h4]
    ·simp[h8,h3,h4]
  ·simp[h8]
end Go.Bm
