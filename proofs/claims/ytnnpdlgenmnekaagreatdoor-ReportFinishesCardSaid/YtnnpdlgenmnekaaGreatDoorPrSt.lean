/- laid together -/
import Derived.Test.YtnnpdlgenmnekaaGreatDoorPrLc
import Derived.Test.YtnnpdlgenmnekaaGreatDoorMx3
import Derived.Test.YtnnpdlgenmnekaaGreatDoorPrAtF
set_option linter.unusedVariables false
set_option linter.unusedSimpArgs false
set_option maxRecDepth 100000
variable {K:Go.Bm.Kf} {p:Go.Bm.Pth} {i A J L:Nat} {a k u b v r R j:Int} {t:Go.Bm.Trk} {M Z W T P O:Go.Bm.Fn} {d q z o:Go.Bm.Pt} {l:Go.Bm.Rw} {N:Go.Bm.Lp}
noncomputable section
open Go.IntKind (wrap)
namespace Go.Bm
def Jk (j:Int) (l:Rw):Prop:=∀r∈l,-j<=gA r 0/\gA r 0<=j
theorem Jk.snoc {r:List AC} (h:Jk j l) (G: -j<=gA r 0/\gA r 0<=j):Jk j (l++[r]):=λx D=>by
 rcases be.1 D with D|D
 ·exact h x D
 ·rw[de]at D;subst D;exact G
theorem Zq6 (G:0<=j/\j<=65536):Out (λo=>o.1=1/\(wA o.2 0).length<=65536/\Jk j (wA o.2 0)) (Am Ky [.vC Aa [],I j]):=by
 refine Cd (λs:Rw×Int=>[.vC Aa s.1,I s.2]) (λs=>0<=s.2/\s.2<=j/\s.1.length+s.2<=65536/\Jk j s.1) (λs=>s.2.toNat) _ ?_ ([],j) ⟨G.1,cz _,by simp;omega,λr h=>by cases h⟩;rintro⟨v,k⟩ ⟨g1,g0,g2,D⟩;dsimp only at g0 g1 g2 D;rw[Qsu,bm g1,Ad (x:=k/2)];refine .cond (λc=> ?_) (λc=> ?_)
 ·have c:=Bg c;refine .cond (λ_=> ?_) λc=>by rw[BF (by simp;omega)]at c;cases c
  exact .some (.inl ⟨rfl,(v++[[I k]],k/2),rfl,⟨by dsimp only;omega,by dsimp only;omega,by simp;omega,D.snoc (by show-j<=k/\k<=j;omega)⟩,by dsimp only;omega⟩)
 ·exact .some (.inr ⟨by simp,rfl,by show v.length<=65536;omega,D⟩)
theorem Zbn {up out:Rw} (O:0<=j/\j<=65536) (T:up.length<=65536) (G:Jk j up) (U:out.length=up.length+1) (L:Jk j out):Out (λo=>o.1=1/\(wA o.2 0).length<=140000/\Jk j (wA o.2 0)) (Am (M_ N) [.vC Aa up, .vC Aa out,I ((up.length:Int)-1)]):=by
 refine Cd (λs:Rw×Int=>[.vC Aa up, .vC Aa s.1,I s.2]) (λs=> -1<=s.2/\s.2<up.length/\s.1.length+s.2<=2*up.length/\Jk j s.1) (λs=>(s.2+1).toNat) _ ?_ (out,(up.length:Int)-1) ⟨by simp only;omega,by simp only;omega,by simp only;omega,L⟩;rintro⟨v,k⟩ ⟨g1,g2,M,D⟩;dsimp only at g1 g2 M D;rw[Q4w,Ad (x:=k-1)];refine .cond (λc=> ?_) (λc=> ?_)
 ·have c:=Bg c;refine .cond (λ_=> ?_) λc=>by simp at c;omega
  refine .cond (λ_=> ?_) λc=>by rw[BF (by simp;omega)]at c;cases c
  have X: -j<=gA (nth [] up k.toNat) 0/\gA (nth [] up k.toNat) 0<=j:=by
   rw[E1 [] up k.toNat (by omega)];exact G _ (ca _)
  exact .some (.inl ⟨rfl,(_,k-1),rfl,⟨by dsimp only;omega,by dsimp only;omega,by simp;omega,D.snoc (by show-j<=V (0-gA (nth [] up k.toNat) 0)/\V (0-gA (nth [] up k.toNat) 0)<=j;rw[Ad];omega)⟩,by dsimp only;omega⟩)
 ·have c:=Bd c;exact .some (.inr ⟨by simp,rfl,by show v.length<=140000;omega,D⟩)
theorem Qsh (D:0<=j/\j<=65536):Out (λo=>(wA o 0).length<=140000/\Jk j (wA o 0)) (Mv [I j]):=by
 show Out _ (Sy (Am Ky) (Am (M_ (Am Ky))) [I j]);rw[Qxi];refine .bind (Zq6 D) λo g=> ?_;rw[g.1];obtain⟨-,g2,G⟩:=g;generalize wA o.2 0=up at*;refine .cond (λ_=> ?_) λc=>by simp at c
 refine .cond (λ_=> ?_) λc=>by rw[BF (by simp;omega)]at c;cases c
 refine .cond (λ_=> ?_) λc=>by rw[BF (by simp;omega)]at c;cases c
 rw[Ad (x:=(up.length:Int)-1)];refine .bind (Zbn D g2 G (by simp) (by rw[bf];exact G.snoc (by show-j<=0/\0<=j;omega))) λo g=> ?_;rw[g.1];exact .some g.2
def SV (m0 m1 m3 m4:Int) (Q R:Int->Prop) (o:List AC):Prop:=∃v:Int,o=Gy m0 m1 m3 m4 v/\(Q v\/∃r:Int,v=V (m1+r)/\R r)
theorem Quy {x:Ax3} {a b c o0 o1:Int} {D b1 b2:Bool} (hb:0<=b/\b<=65536) {m0 m1 m2 m3 m4 m5 l:Int} {Q R F:Int->Prop}
  (hB:Out (λo=>∃r:Int,o=[I r]/\R r) (M [I a,I b,I c,I m1,I m2]))
  (hS:∀v:Int,0<=v->F v->(∃k:Int,-b<=k/\k<=b/\v=V (m1+V (m2+k)))->Out (λo=>bA o 0=true->Q v) (Z (pxt p x t [I a,I b,I c,I (V (m0+v)),I v,I (V (v-m1)),I m0,I m3,I m4,I l])))
  (hF:∀v:Int,Out (λo=>bA o 0=true->F v) (W (De p t [I a,I b,I c,I o0,I o1,B D,B b1,B b2,I (V (m0+v)),I v,I (V (v-m1)),I m0,I m3,I m4])))
  (L:∀m0 m1 m2 m3 m4 m5 v,T [I m0,I m1,I m2,I m3,I m4,I m5,I v]=some (Gy m0 m1 m3 m4 v))
  (hR:∀a b c v x,(P [I a,I b,I c,I v,I x]).isSome=true)
  (hC:∀j,0<=j/\j<=65536->Out (λo=>(wA o 0).length<=140000/\Jk j (wA o 0)) (O [I j])):
  Out (SV m0 m1 m3 m4 Q R) (Uq M Z W T P O (Am (Uz M Z W T P O)) (pxt p x t [I a,I b,I c,I o0,I o1,B D,B b1,B b2,I m0,I m1,I m2,I m3,I m4,I m5,I l])):=by
 rw[Q63];refine .bind (hC b hb) λq N=> ?_;obtain⟨N,hJ⟩:=N;generalize wA q 0=ch at*;refine .bind (p:=λo=>o.1=1/\((∃v:Int,∃g0 g1 g2 U X Y:Int,o.2=B true::I a::I b::I c::I m0::I m1::I m2::I m3::I m4::I m5::I g0::I g1::I g2::I U::I X::I Y::Gy m0 m1 m3 m4 v/\Q v)\/∃l:List AC,o.2=B false::I a::I b::I c::I m0::I m1::I m2::I m3::I m4::I m5::l)) ?_ λo g=>by
  obtain⟨g,g2⟩:=g;rw[g];refine .cond (λ_=> ?_) λc=>by simp at c
  rcases g2 with⟨v,g0,g1,g2,U,X,Y,e,G⟩|⟨l',e⟩
  ·rw[e];refine .cond (λ_=> .some ⟨v,rfl, .inl G⟩) λc=>by simp[gA,wA,bA,jA,nth,Dz]at c
  ·rw[e];refine .cond (λc=>by simp[gA,wA,bA,jA,nth,Dz]at c) λ_=> ?_;simp only[gA,wA,bA,jA,nth,Ag];refine .bind hB λo g=> ?_;obtain⟨r,rfl,hr⟩:=g;simp only[gA,wA,bA,jA,nth,Ag];rw[L];exact .some ⟨_,rfl, .inr ⟨r,rfl,hr⟩⟩
 refine Cd (λs:Nat×(Int×Int×Int×Int×Int×Int)=>I l::B false:: .vC Aa ch::I (ch.length:Int)::I (s.1:Int)::pxt p x t [I a,I b,I c,I o0,I o1,B D,B b1,B b2,I m0,I m1,I m2,I m3,I m4,I m5,I 0,I 0,I 0,I 0,I 0,I 0,I s.2.1,I s.2.2.1,I s.2.2.2.1,I s.2.2.2.2.1,I s.2.2.2.2.2.1,I s.2.2.2.2.2.2])
  (λs=>s.1<=ch.length) (λs=>ch.length-s.1) _ ?_ (0,(0,0,0,0,0,0)) (by simp)
 rintro⟨i,f0,f1,f2,f3,f4,f5⟩ g;dsimp only at g;rw[Qy0];rw[Ad (x:=(i:Int)+1)];refine .cond (λc=> ?_) (λc=> ?_)
 ·have c:=Bg c;refine .cond (λ_=> ?_) λc=>by simp at c;omega
  refine .cond (λ_=> ?_) λpos=> ?_
  ·exact .some (.inl ⟨rfl,(i+1,f0,f1,f2,f3,f4,f5),rfl,by dsimp only;omega,by dsimp only;omega⟩)
  ·have pos:=Bd pos;refine .ibind (hR _ _ _ _ _) λ_ _=> .cond (λ_=> ?_) λ_=> ?_
   ·exact .some (.inl ⟨rfl,(i+1,f0,f1,f2,f3,f4,f5),rfl,by dsimp only;omega,by dsimp only;omega⟩)
   ·have hk:∃k:Int,-b<=k/\k<=b/\V (m1+V (m2+gA (nth [] ch (i:Int).toNat) 0))=V (m1+V (m2+k)):=by
     have:=hJ _ (ca (show i<ch.length by omega));rw[af,E1 [] ch i (by omega)];exact⟨_,this.1,this.2,rfl⟩
    generalize V (m1+V (m2+gA (nth [] ch (i:Int).toNat) 0))=v at*;rw[L];simp only[am,gA,wA,bA,jA,nth,Ag];refine .bind (hF v) λof fit=> .cond (λcf=> ?_) λ_=> ?_
    ·refine .bind (hS v (by omega) (fit cf) hk) λo G=> .cond (λc=> ?_) λ_=> ?_
     ·exact .some (.inr ⟨by simp,rfl, .inl ⟨v,0,0,0,0,0,0,rfl,G c⟩⟩)
     ·exact .some (.inl ⟨rfl,(i+1,_,_,_,_,_,_),rfl,by dsimp only;omega,by dsimp only;omega⟩)
    ·exact .some (.inl ⟨rfl,(i+1,_,_,_,_,_,_),rfl,by dsimp only;omega,by dsimp only;omega⟩)
 ·exact .some (.inr ⟨by simp,rfl, .inr ⟨_,rfl⟩⟩)
theorem Z69 {x:Ax3} {Q:Prop} (G:∀{way:Rw},way.length<=100000->(M (pxt p x t [.vC Aa way])).isSome=true)
  {a b c m0 m1 m2 m3 m4 m5 l:Int} (L:Out (λo=>(wA o 0).length<=4096/\(bA o 1=true->Q)) (Z [I a,I b,I c,I m0,I m1,I m2,I m3,I m4,I m5])):
  Out (λo=>bA o 0=true->Q) (Qh M Z (pxt p x t [I a,I b,I c,I m0,I m1,I m2,I m3,I m4,I m5,I l])):=by
 rw[Wh];refine .bind L λo h=> ?_;obtain⟨O,D⟩:=h;generalize wA o 0=sp at*;refine .cond (λ_=> .some λh=>by simp[gA,wA,bA,jA,nth,Dz]at h) λN=> ?_;have D:=D (by simpa using N);refine .cond (λc=> ?_) λc=> ?_
 ·have c:=Bg c;rw[Ad (x:=(sp.length:Int)-1)];refine .cond (λ_=> ?_) λc=>by simp at c;omega
  generalize Ag (nth .vD (nth [] sp ((sp.length:Int)-1).toNat) 0)=e;refine .cond (λ_=> .some λ_=>D) λ_=> ?_;refine .cond (λ_=> ?_) λc=>by rw[BF (by simp;omega)]at c;cases c
  refine .cond (λ_=> ?_) λc=>by rw[BF (by simp;omega)]at c;cases c
  exact .ibind (G (by simp;omega)) λ_ _=> .some λ_=>D
 ·refine .cond (λ_=> .some λ_=>D) λ_=> ?_;refine .cond (λ_=> ?_) λc=>by rw[BF (by simp;omega)]at c;cases c
  refine .cond (λ_=> ?_) λc=>by rw[BF (by simp;omega)]at c;cases c
  exact .ibind (G (by simp;omega)) λ_ _=> .some λ_=>D
theorem Zrs {a k c:Int} (D:Plan3 a k c) (u v x G L N:Int):Out (λo=>(wA o 0).length<=4096/\(bA o 1=true->(AO a k v x).2=true)) (EA [I a,I k,I c,I u,I v,I x,I G,I L,I N]):=by
 have key:∀{M:Fn},M [I a,I k,I c,I v,I x]=some [.vC Aa ((AO a k v x).1.map Aj),B (AO a k v x).2]->Out (λo=>(wA o 0).length<=4096/\(bA o 1=true->(AO a k v x).2=true)) (Rn M (Am (I4 M)) [I a,I k,I c,I u,I v,I x,I G,I L,I N]):=by
  intro M O;have hb:=PO D v x;rw[Qcb];refine .bind (p:=λo=>o=_) ⟨_,O,rfl⟩ λo e=> ?_;subst e;refine .cond (λ_=> .some ⟨by simp[wA,nth,BQ],λh=>by simp[bA,nth,Dz]at h⟩) λh=> ?_;have T:(AO a k v x).2=true:=by simpa [bA,nth,Dz]using h
  have U:(wA [AC.vC Aa ((AO a k v x).1.map Aj),B (AO a k v x).2] 0).length<=4096:=by
   show((AO a k v x).1.map Aj).length<=4096;rw[ac];exact hb.1
  generalize wA [AC.vC Aa ((AO a k v x).1.map Aj),B (AO a k v x).2] 0=sp at*;refine .cond (λ_=> ?_) λc=>by simp at c
  refine .cond (λ_=> ?_) λc=>by simp at c;omega
  refine .bind (Q20 (by simp) U) λo g=> ?_;rw[g.1];exact .some ⟨by show(wA o.2 0).length<=4096;omega,λ_=>T⟩
 exact key (Zaa D v x)
theorem Wa {x:Ax3} (h:Fix p x t) {a b c:Int} (D:Plan3 a b c) (m0 m1 m2 m3 m4 m5 l:Int):Out (λo=>bA o 0=true->(AO a b m1 m2).2=true) (Je (pxt p x t [I a,I b,I c,I m0,I m1,I m2,I m3,I m4,I m5,I l])):=
 Z69 (Quq h) (Zrs D _ _ _ _ _ _)
theorem HT {a k v x:Int}:(AO a k v x).2=true↔Ci a k v x/\(Bt a k 4096 v x).2=true:=by
 unfold AO;by_cases h:Ci a k v x/\(Bt a k 4096 v x).2=true
 ·rw[ab h];exact⟨λ_=>h,λ_=>rfl⟩
 ·rw[aa h];exact⟨λq=>(by cases q),λq=>absurd q h⟩
theorem Ti {a k c v x:Int} (D:Plan3 a k c) (h:(AO a k v x).2=true):(AO a k (v+AJ a k v x) (AJ a k v x)).2=true/\
  (AO a k v x).1=if v<=0 then []else(v+AJ a k v x)::(AO a k (v+AJ a k v x) (AJ a k v x)).1:=by
 obtain⟨G,I⟩:=HT.1 h;have O:=closed D G;have V:=E5 D O.1;by_cases L:v<=0
 ·have T:v=0:=by have:=E5 D G;omega
  have hb:AJ a k v x=0:=by
   obtain⟨B,hB⟩:∃B,B=bs k v 20 (-x-k) (min (k-x) a):=⟨_,rfl⟩;obtain⟨X,Y,q3,q4,M,q6⟩:=SH D G hB;have:=IZ (k:=k) (b:=B) (by have:=D.b;omega);have hx:=G.2.2.2.2 T;have ha:=D.a;have e:AJ a k v x= -B:=by unfold AJ;rw[hB]
   rw[e];rcases M with M|M
   ·omega
   ·by_cases N:B+1<=0
    ·rw[Il N]at M;omega
    ·omega
  have e0:Bt a k 4096 0 0=([],true):=by unfold Bt;rw[ab]
  refine⟨?_,?_⟩
  ·rw[hb,T];refine HT.2 ⟨?_,by rw[show(0:Int)+0=0 from rfl,e0]⟩;have:=O.1;rw[hb,T]at this;exact this
  ·rw[ab L];unfold AO;rw[ab ⟨G,I⟩];unfold Bt;rw[ab L]
 ·have e:Bt a k 4096 v x=((v+AJ a k v x)::(Bt a k 4095 (v+AJ a k v x) (AJ a k v x)).1,(Bt a k 4095 (v+AJ a k v x) (AJ a k v x)).2):=by
   show(if v<=0 then _ else _)=_;rw[aa L]
  rw[e]at I;have U:=Q9b a k 4095 _ _ I;have N:(AO a k (v+AJ a k v x) (AJ a k v x)).2=true:=HT.2 ⟨O.1,by rw[U];exact I⟩;refine⟨N,?_⟩;rw[aa L];have e2:(AO a k v x).1=(Bt a k 4096 v x).1:=by unfold AO;rw[ab (HT.1 h)]
  have e3:(AO a k (v+AJ a k v x) (AJ a k v x)).1=(Bt a k 4096 (v+AJ a k v x) (AJ a k v x)).1:=by unfold AO;rw[ab (HT.1 N)]
  rw[e2,e3,U,e]
structure KOK (K : Kf) : Prop where
 f:Fix K.p K.x K.t
 plan:Plan3 K.pa K.pb K.pc
 aF:∀g∈K.p.aF,0<=g.aU/\g.aU<K.aA.length/\i64 g.aX
 aD:∀m∈K.p.aD,0<=m.aU/\m.aU<K.aA.length/\i64 m.at_
 count:K.p.aD.length<=1000000
 aS:∀it∈K.aA,it.aP=8->i64 it.aS
 len:i64 K.len
 set:i64 K.set
theorem RV (K:Kf) (c:Cv):DQ (Ae K c)=some [I (V (c.m0.tdiv 256))]:=by
 show Qg1 (Ae K c)=_;rw[Zte]
abbrev Bk (c:Cv):Int:=V (c.m0.tdiv 256)
theorem Z9o {D MU:Fn} {c:Cv} {s:Int} (G:MU (Ae K c)=some [I (Bk c)]) (L:D (Bw K.t++[I (Bk c)])=some [I s]):YQ D MU (Ae K c)=some [I s]:=by
 rw[Z1b,G];simp only[am,gA,wA,bA,jA,F6,JB];rw[L];rfl
abbrev Bu (K:Kf) (c:Cv):Int:=AV K.t (Bk c)
theorem Q7v (h:KOK K) (c:Cv):GK (Ae K c)=some [I (Bu K c)]:=Z9o (RV K c) (Rv h.f.t.q (Bk c))
theorem Zs7 (K:Kf) (c:Cv):IY (Ae K c)=some (Ae K (if c.g0=0 then{c with o2:=true,g0:=1,g1:=18,g2:= -1}else c)):=by
 show Qnp (Ae K c)=_;rw[Zlc];cases h:(c.g0==0)
 ·rw[aa (by simpa using h)];rfl
 ·rw[ab (by simpa using h)];rfl
def nxL (K:Kf) (c:Cv) (l:Int):List AC:=pxt K.p K.x K.t [I K.pa,I K.pb,I K.pc,I c.o0,I c.o1,B c.o2,B c.o3,B c.o4,I c.m0,I c.m1,I c.m2,I c.m3,I c.m4,I c.m5,I l]
def nxV (K:Kf) (c:Cv) (l:Int):Int:=gA ((Fa (nxL K c l)).getD []) 1
def Mo (K:Kf) (c:Cv):Prop:=(AO K.pa K.pb c.m1 c.m2).2=true
theorem Mo.ready {c:Cv} (h:Mo K c):Ci K.pa K.pb c.m1 c.m2:=(HT.1 h).1
theorem Z3t {c:Cv} {Q R:Int->Prop} (h:Out (SV c.m0 c.m1 c.m3 c.m4 Q R) (Fa (nxL K c a))):Q (nxV K c a)\/∃r:Int,nxV K c a=V (c.m1+r)/\R r:=by
 obtain⟨o,D,v,rfl,G⟩:=h;have e:nxV K c a=v:=by unfold nxV;rw[D];rfl
 rw[e];exact G
theorem Qtw {c:Cv} (D:Plan3 K.pa K.pb K.pc) (I:Mo K c) {v:Int} (G:v=V (c.m1+AJ K.pa K.pb c.m1 c.m2)):v=c.m1+AJ K.pa K.pb c.m1 c.m2/\V (v-c.m1)=AJ K.pa K.pb c.m1 c.m2/\(AO K.pa K.pb v (V (v-c.m1))).2=true:=by
 have L:=E5 D I.ready;have M:=E5 D (closed D I.ready).1;rw[Ad]at G;have e:V (v-c.m1)=AJ K.pa K.pb c.m1 c.m2:=by rw[G,Ad];omega
 refine⟨G,e,?_⟩;rw[e,G];exact(Ti D I).1
theorem Q3j {c:Cv} (D:Plan3 K.pa K.pb K.pc) (G:Mo K c):Out (λo=>∃r:Int,o=[I r]/\r=AJ K.pa K.pb c.m1 c.m2) (F4 [I K.pa,I K.pb,I K.pc,I c.m1,I c.m2]):=
 ⟨_,Qqj D G.ready,_,rfl,rfl⟩
theorem Qeu {x:Ax3} (h:Fix p x t) (a b c o0 o1:Int) (D b1 b2:Bool) (m0 m1 m2 m3 m4 m5:Int):Out (λo=>bA o 0=true->True) (KJ (De p t [I a,I b,I c,I o0,I o1,B D,B b1,B b2,I m0,I m1,I m2,I m3,I m4,I m5])):=
 (Out.of (Zt6 h a b c o0 o1 D b1 b2 m0 m1 m2 m3 m4 m5)).mono λ_ _ _=>trivial
theorem Zxe (h:KOK K) {c:Cv} (D:Mo K c) (l:Int) (G:Bool):Out (SV c.m0 c.m1 c.m3 c.m4 (λv=>(AO K.pa K.pb v (V (v-c.m1))).2=true) λr=>r=AJ K.pa K.pb c.m1 c.m2)
  (Fa (pxt K.p K.x K.t [I K.pa,I K.pb,I K.pc,I c.o0,I c.o1,B G,B c.o3,B c.o4,I c.m0,I c.m1,I c.m2,I c.m3,I c.m4,I c.m5,I l])):=
 Quy (F:=λ_=>True) (by have:=h.plan.b;omega) (Q3j h.plan D) (λv _ _ _=>Wa h.f h.plan _ _ _ _ _ _ _) (λv=>Qeu h.f ..) Qfa Qma (λ_ L=>Qsh L)
theorem Qsa (h:KOK K) {c:Cv} (G:Mo K c) {v:Int} (I:(AO K.pa K.pb v (V (v-c.m1))).2=true\/∃r:Int,v=V (c.m1+r)/\r=AJ K.pa K.pb c.m1 c.m2):(AO K.pa K.pb v (V (v-c.m1))).2=true:=by
 rcases I with D|⟨r,D,L⟩
 ·exact D
 ·subst L;exact(Qtw h.plan G D).2.2
theorem Qmc {a k c:Int} (D:Plan3 a k c):(AO a k 0 0).2=true:=by
 refine HT.2 ⟨?_,by unfold Bt;rw[ab]⟩;have G:=D.a;have hb:=D.b
 refine⟨by omega,by omega,?_,?_,λ_=>by omega⟩
 ·rw[Il (by omega)];omega
 ·rw[Il (by omega)];omega
theorem Zo6 (K:Kf) {i:Nat} (h:i<K.aA.length):nth [] (K.aA.map Af) i=Af K.aA[i]:=by
 rw[B8,List.getD,du,ag h];rfl
theorem Z20 (K:Kf) {i:Nat} (h:i<K.p.aD.length):nth [] (K.p.aD.map Av) i=Av K.p.aD[i]:=by
 rw[B8,List.getD,du,ag h];rfl
structure Gd (K : Kf) (n : Int) (c : Cv) : Prop where
 way:c.way=0
 pass:0<=c.aK/\c.aK<=K.p.aD.length
 task:c.on=true->0<=c.idx/\c.idx<K.p.aD.length
 mo:Mo K c
 m0: -(16777216*n)<=c.m0/\c.m0<=16777216*n
theorem Gd.up {n:Int} {c:Cv} (h:Gd K n c) (D:0<=n):Gd K (n+1) c:=
 ⟨h.way,h.pass,h.task,h.mo,by have:=h.m0;omega⟩
theorem Gd.bC (h:KOK K) {n:Int} {c:Cv} (g:Gd K n c) (I:0<=n/\n<=10000) {v:Int} (G:(AO K.pa K.pb v (V (v-c.m1))).2=true\/∃r:Int,v=V (c.m1+r)/\r=AJ K.pa K.pb c.m1 c.m2):
  Gd K (n+1) {c with m0:=V (c.m0+v),m1:=v,m2:=V (v-c.m1),m3:=c.m0,m4:=c.m3,m5:=c.m4}:=by
 have L:=g.m0;have D:=Qsa h g.mo G;have M:=E5 h.plan (HT.1 D).1;refine⟨g.way,g.pass,g.task,D,?_⟩;show-(16777216*(n+1))<=V (c.m0+v)/\V (c.m0+v)<=16777216*(n+1);rw[Ad];omega
theorem Gd.same {n:Int} {c c':Cv} (g:Gd K n c) (D:c'.way=c.way) (G:c'.aK=c.aK) (I:c'.on=c.on) (L:c'.idx=c.idx) (M:c'.m0=c.m0) (N:c'.m1=c.m1) (O:c'.m2=c.m2):Gd K n c':=
 ⟨D▸g.way,G▸g.pass,by rw[I,L];exact g.task,by have:=g.mo;unfold Mo at*;rw[N,O];exact this,M▸g.m0⟩
theorem Zrw {c:Cv} (h:c.way=0):K3 (Ae K c)=some (I 0::B false::Ae K c):=by
 have key:∀{A B':Fn},XQ A B' (Ae K c)=some (I 0::B false::Ae K c):=by
  intro A B';rw[Zns,Cj (by simp[h])]
 exact key
abbrev stand (c:Cv):Cv:={c with m0:=V (Bk c*256),m1:=0,m2:=0,m3:=V (Bk c*256),m4:=V (Bk c*256),m5:=V (Bk c*256)}
theorem Qx6 (u:Int):Jq [I u]=some [I (V (u*256)),I 0,I 0,I (V (u*256)),I (V (u*256)),I (V (u*256))]:=by
 show Qai [I u]=_;rw[Z4u]
theorem Zic {MS MU:Fn} {c:Cv} (D:MU (Ae K c)=some [I (Bk c)]) (G:∀u:Int,MS [I u]=some [I (V (u*256)),I 0,I 0,I (V (u*256)),I (V (u*256)),I (V (u*256))]):
  Qh6 MS MU (Ae K c)=some (if c.g0=2 then I 6::B true::Ae K (stand c)else I 0::B false::Ae K c):=by
 rw[Zp4];by_cases h:c.g0=2
 ·rw[ab h,B4 (by simp[h]),D];simp only[am,gA,wA,bA,jA,F6,JB];rw[G];rfl
 ·rw[aa h,Cj (by simpa using h)]
theorem Zr1 (K:Kf) (c:Cv):Ln (Ae K c)=some (if c.g0=2 then I 6::B true::Ae K (stand c)else I 0::B false::Ae K c):=Zic (RV K c) Qx6
theorem Zg0 (K:Kf) (c:Cv):J5 (Ae K c)=some (I c.aI::B (c.aI !=0)::Ae K c):=by
 show Vx (Ae K c)=_;rw[Zdd]
theorem Zoz (K:Kf) (c:Cv):LE (Ae K c)=some (if c.aH=true/\c.aM=true then I 8::B true::Ae K {c with aI:=8}else I 0::B false::Ae K c):=by
 show Qhi (Ae K c)=_;rw[Zj9];by_cases h:c.aH=true
 ·by_cases D:c.aM=true
  ·rw[ab ⟨h,D⟩,B4 (by simp[h]),B4 (by simp[D]),h,D]
  ·rw[aa (λe=>D e.2),B4 (by simp[h]),Cj (by simpa using D)]
 ·rw[aa (λe=>h e.1),Cj (by simpa using h)]
theorem Zgh (h: -u<=a/\a<=u): -u<=a.tdiv 256*256/\a.tdiv 256*256<=u:=by
 by_cases k:0<=a
 ·rw[bm k];omega
 ·obtain⟨b,rfl⟩:∃b,a= -b:=⟨-a,by omega⟩;rw[Int.neg_tdiv,bm (by omega)];omega
theorem Out.eqv {α:Type} {p:α->Prop} {a b:Option α} (h:a=b) (g:Out p b):Out p a:=h▸g
abbrev La (D outs:Rw) (mode s:Int) (m:Pt) (sp fault:Int):List AC:=[.vC kPt D, .vC Aa outs,I mode,I s,I m.x,I m.y,I m.z,I sp,I fault]
abbrev Ht:List AC:=[.vC kPt [], .vC Aa [],I 0,I 0,I 0,I 0,I 0,I 0,I 0]
theorem Qte {n:Int} {c:Cv} (g:Gd K n c) (G:0<=n/\n<=10010): -300000000000<=Bk c/\Bk c<=300000000000:=by
 have h:=g.m0;have D: -300000000000<=c.m0/\c.m0<=300000000000:=by omega
 have I:=Zgh D;have e:Bk c=c.m0.tdiv 256:=Ad;omega
theorem Zpi (r k:Int):(AX r k=r/\AY r k=0)\/(AX r k=0/\AY r k=r)\/(AX r k= -r/\AY r k=0)\/(AX r k=0/\AY r k= -r):=by
 have D:k%4=0\/k%4=1\/k%4=2\/k%4=3:=by omega
 unfold AX AY;rcases D with h|h|h|h<;>simp[h]
theorem Q1 (r k:Int):sq2 (AX r k) (AY r k)=r*r:=by
 unfold sq2;rcases Zpi r k with⟨D,G⟩|⟨D,G⟩|⟨D,G⟩|⟨D,G⟩<;>rw[D,G]<;>grind
theorem Zge (G:b=1\/b=2\/b=3) (I:0<a) (L:0<u):crs (AX a k) (AY a k) (AX u (k+b)) (AY u (k+b))≠0\/dt2 (AX a k) (AY a k) (AX u (k+b)) (AY u (k+b))<0:=by
 have M:k%4=0\/k%4=1\/k%4=2\/k%4=3:=by omega
 have N:0<a*u:=gp I L;have U: -a*u= -(a*u)/\a* -u= -(a*u)/\ -a* -u=a*u:=⟨jn ..,Int.mul_neg ..,Int.neg_mul_neg ..⟩;have e:∀j:Int,(k+b)%4=j->∀i:Int,k%4=i->crs (AX a k) (AY a k) (AX u (k+b)) (AY u (k+b))=(if i=0 then a else if i=2 then-a else 0)*(if j=1 then u else if j=3 then-u else 0)-(if i=1 then a else if i=3 then-a else 0)*(if j=0 then u else if j=2 then-u else 0)/\
   dt2 (AX a k) (AY a k) (AX u (k+b)) (AY u (k+b))=(if i=0 then a else if i=2 then-a else 0)*(if j=0 then u else if j=2 then-u else 0)+(if i=1 then a else if i=3 then-a else 0)*(if j=1 then u else if j=3 then-u else 0):=by
  intro j O i T;subst O T;exact⟨rfl,rfl⟩
 rcases G with rfl|rfl|rfl<;>rcases M with D|D|D|D
 ·obtain⟨e1,e2⟩:=e 1 (by omega) _ D;simp at e1 e2;omega
 ·obtain⟨e1,e2⟩:=e 2 (by omega) _ D;simp at e1 e2;omega
 ·obtain⟨e1,e2⟩:=e 3 (by omega) _ D;simp at e1 e2;omega
 ·obtain⟨e1,e2⟩:=e 0 (by omega) _ D;simp at e1 e2;omega
 ·obtain⟨e1,e2⟩:=e 2 (by omega) _ D;simp at e1 e2;omega
 ·obtain⟨e1,e2⟩:=e 3 (by omega) _ D;simp at e1 e2;omega
 ·obtain⟨e1,e2⟩:=e 0 (by omega) _ D;simp at e1 e2;omega
 ·obtain⟨e1,e2⟩:=e 1 (by omega) _ D;simp at e1 e2;omega
 ·obtain⟨e1,e2⟩:=e 3 (by omega) _ D;simp at e1 e2;omega
 ·obtain⟨e1,e2⟩:=e 0 (by omega) _ D;simp at e1 e2;omega
 ·obtain⟨e1,e2⟩:=e 1 (by omega) _ D;simp at e1 e2;omega
 ·obtain⟨e1,e2⟩:=e 2 (by omega) _ D;simp at e1 e2;omega
theorem Zsg {it:Itm} (h:ArcMade a it):Qgj it:=by
 obtain⟨r,k,t,g,x,M,h2,h3,h4,h5,h6,N,U,h9,O,I,D,L⟩:=h.ends;have G:=h.aG;have a1:dU it it.fr=AX r k:=by unfold dU;rw[D,(DD G).1];omega
 have a2:dW it it.fr=AY r k:=by unfold dW;rw[D,(DD G).2.1];omega
 have a3:dU it it.to=AX (r+g) (k+t):=by unfold dU;rw[D,L,(DD G).1,(DD G).1];omega
 have a4:dW it it.to=AY (r+g) (k+t):=by unfold dW;rw[D,L,(DD G).2.1,(DD G).2.1];omega
 have X:qA it=r*r:=by unfold qA;rw[a1,a2,Q1]
 have Y:qB it=(r+g)*(r+g):=by unfold qB;rw[a3,a4,Q1]
 have m1:64<=r*r:=by
  have:=db M M (by omega) (by omega);omega
 have m2:64<=(r+g)*(r+g):=by
  have:=db (show(8:Int)<=r+g by omega) (show(8:Int)<=r+g by omega) (by omega) (by omega);omega
 unfold Qgj;refine⟨by omega,by omega,?_,?_,?_⟩
 ·rw[X,Y];unfold H7;right;have hg:g*g<=16:=by
   have:=db U U N (by omega);omega
  have e1:r*r+(r+g)*(r+g)-16=2*(r*(r+g))+(g*g-16):=by grind
  have V:0<=r*(r+g):=bv (by omega) (by omega);have a0:64<=r*(r+g):=by
   have:=db M (show(8:Int)<=r+g by omega) (by omega) (by omega);omega
  have a5:0<=g*g:=bv N N;have e2:4*(r*r)*((r+g)*(r+g))=(2*(r*(r+g)))*(2*(r*(r+g))):=by grind
  rw[e1,e2];generalize 2*(r*(r+g))=m at*;exact an (by omega) (by omega)
 ·intro hf;rw[I]at hf;have T:=of_decide_eq_true hf;rw[a1,a2,a3,a4,T,O T,fm,fm];exact⟨rfl,rfl⟩
 ·intro hf;rw[I]at hf;have T:=of_decide_eq_false hf;unfold cAB dAB;rw[a1,a2,a3,a4];exact Zge (by omega) (by omega) (by omega)
theorem Qlt {it:Itm} (h:Made it) (G:bd 1000000 it.fr) (I:bd 1000000 it.to):CE it:=by
 refine⟨h.aP,AR G (by omega),AR I (by omega),λL=> ?_⟩;have D:=h.arc L;exact⟨D.aG,D.dir,AR (Ue D (by omega) G).2 (by omega),Zsg D⟩
end Go.Bm
namespace Go.Bm
open Classical
structure Oth (it : Itm) : Prop where
 aP:7<=it.aP/\it.aP<=14
 spin:it.aP=8->3<=it.n/\it.n<=5/\0<=it.aS/\it.aS<=4000
 dwell:it.aP=7->0<=it.n/\it.n<=4
 out:it.aP=10->0<=it.n/\it.n<=15
def ED:Pt->List Itm->Prop
 |_,[]=>True
 |p,it::l=>if AA it then it.fr=p/\ED it.to l else ED p l
def EH:Pt->List Itm->Pt
 |p,[]=>p
 |p,it::l=>if AA it then EH it.to l else EH p l
theorem Wz {it:Itm}:∀{l:List Itm} {p:Pt},ED p l->(AA it->it.fr=EH p l)->ED p (l++[it])
 |[],p,_,h=>by
  simp only[bf,ED];split
  ·rename_i c;exact⟨h c,trivial⟩
  ·trivial
 |a::l,p,D,h=>by
  simp only[az,ED]at D⊢;unfold EH at h;by_cases c:AA a
  ·rw[ab c]at D h⊢;exact⟨D.1,Wz D.2 h⟩
  ·rw[aa c]at D h⊢;exact Wz D h
theorem Qb3 {it:Itm}:∀{l:List Itm} {p:Pt},EH p (l++[it])=if AA it then it.to else EH p l
 |[],p=>by simp only[bf,EH]
 |a::l,p=>by
  simp only[az,EH];by_cases c:AA a
  ·rw[ab c,ab c];exact Qb3
  ·rw[aa c,aa c];exact Qb3
structure Items (A : Nat) (p : Pt) (l : List Itm) : Prop where
 link:ED p l
 made:∀it∈l,(AA it/\Made it/\Gc it/\bd A it.fr/\bd A it.to)\/Oth it
theorem Qtj {l:List Itm} {it:Itm} (h:Items A d l) (G:AA it->it.fr=EH d l) (I:(AA it/\Made it/\Gc it/\bd A it.fr/\bd A it.to)\/Oth it):Items A d (l++[it]):=by
 refine⟨Wz h.link G,λi D=> ?_⟩;simp only[be,de]at D;rcases D with D|rfl
 ·exact h.made i D
 ·exact I
theorem H9 {it:Itm} (h:Oth it): ¬AA it:=λg=>by have:=h.aP;have:=g.2;omega
def Bx:Itm:=⟨14,0,⟨0,0,0⟩,⟨0,0,0⟩,0,⟨0,0,0⟩,0,false,0,false,0,0,0,0,0,false⟩
theorem R_:Oth Bx:=⟨by simp[Bx],by simp[Bx],by simp[Bx],by simp[Bx]⟩
theorem Qkr {A:Nat} {aA:List Itm} (G:A<=1000000) (L:∀it∈aA,(AA it/\Made it/\Gc it/\bd A it.fr/\bd A it.to)\/Oth it):∀(k i:Nat) (last:Int) (p:Pt),i+k=aA.length->ED p (aA.drop i)->(0<=last->(vE aA last.toNat).to=p)->GF aA k i last=0
 |0,_,_,_,_,_,_=>rfl
 |k+1,i,last,p,hi,h,O=>by
  have D:i<aA.length:=by omega
  have M:=L _ (Qoq D);rw[Qlg D]at h;unfold ED at h;unfold GF;have T: ¬B9 (vE aA i):=by
   rcases M with⟨U,I,h3,V,X⟩|N
   ·have Y:=Qlt I (AR V G) (AR X G);have hf:=I.aZ;have hb:=I.bH;have hk:=I.aP;rintro(g|g|⟨-,g|g|g|g⟩|⟨g,-⟩)
    ·omega
    ·omega
    ·exact g Y
    ·omega
    ·omega
    ·omega
    ·exact g U
   ·have hk:=N.aP;rintro(g|g|⟨g,-⟩|⟨-,g1,g2⟩)
    ·omega
    ·omega
    ·exact H9 N g
    ·have:=N.spin g1;omega
  rw[aa T];by_cases c:AA (vE aA i)
  ·rw[ab c]at h⊢;rw[aa (λg=>g.2 (by rw[O g.1];exact h.1.symm))];exact Qkr G L k (i+1) i _ (by omega) h.2 (λ_=>by rw[af])
  ·rw[aa c]at h⊢;exact Qkr G L k (i+1) last p (by omega) h O
theorem T0 {aA:List Itm} (D:A<=1000000) (h:Items A d aA) (G:aA.length<=20000):C4 aA=0:=by
 unfold C4;rw[aa];exact Qkr D h.made aA.length 0 (-1) d (by omega) (by rw[f8];exact h.link) (λh=>by omega)
end Go.Bm
namespace Go.Bm
theorem Zha (T:∀{hi lo y:Nat},hi<y->y<w64->lo<w64->M [U hi,U lo,U y]=some [U (((hi*w64+lo)/y:Nat):Int),U (((hi*w64+lo)%y:Nat):Int)])
  {hi lo y:Nat} (G:hi<w64) (I:lo<w64) (D:0<y) (V:y<w64):
  ∃L N:Nat,Qa9 M [U hi,U lo,U y]=some [U L,U N,B (decide (0<(hi*w64+lo)%y))]/\L<w64/\N<w64/\L*w64+N=(hi*w64+lo)/y:=by
 have X:=T (hi:=0) (lo:=hi) D V G;rw[Nat.zero_mul,fg,show((0:Nat):Int)=0 from rfl]at X;have Y:=il hi D;have h2:=T (hi:=hi%y) (lo:=lo) Y V I;have e:=gf hi y;have e2:hi*w64+lo=hi%y*w64+lo+hi/y*w64*y:=by
  have:hi*w64=hi/y*w64*y+hi%y*w64:=by
   rw[<-e,Nat.mul_add_mod,Nat.mod_mod];rw[show(y*(hi/y)+hi%y)/y=hi/y from by rw[e]];rw[i9,ff y,ia,ff y,ia]
  omega
 have hq:(hi*w64+lo)/y=(hi%y*w64+lo)/y+hi/y*w64:=by rw[e2,Nat.add_mul_div_right _ _ D]
 have hr:(hi*w64+lo)%y=(hi%y*w64+lo)%y:=by rw[e2,Nat.add_mul_mod_self_right]
 have O:(hi%y*w64+lo)/y<w64:=by
  rw[fc D];have:hi%y*w64+w64<=y*w64:=by rw[<-iu];exact bq _ Y
  rw[ff w64];omega
 refine⟨hi/y,(hi%y*w64+lo)/y,?_,Nat.lt_of_le_of_lt (ip _ _) G,O,by rw[hq];omega⟩;rw[Zk6];simp only[go_sem,X,h2,hr];by_cases c:0<(hi%y*w64+lo)%y
 ·rw[ai c,ai (show(((hi%y*w64+lo)%y:Nat):Int)>0 by omega)]
 ·rw[al c,al (show¬(((hi%y*w64+lo)%y:Nat):Int)>0 by omega)]
theorem Zrx {A n t:Nat} (D:0<n) (L:t*t<=2*A*(2*A)/n) (M:2*A*(2*A)/n<(t+1)*(t+1)) (down:Bool) {E:Prop} [Decidable E] (N:E↔(2*A*(2*A)%n=0/\t*t=2*A*(2*A)/n)):
  ET A n down (if t%2=1/\(¬E\/down=false)then t/2+1 else t/2):=by
 have V:2*A*(2*A)=4*(A*A):=by grind
 have G:t*t*n<=2*A*(2*A):=(Nat.le_div_iff_mul_le D).1 L;have X:2*A*(2*A)<(t+1)*(t+1)*n:=(fc D).1 M;have O:(2*A*(2*A)%n=0/\t*t=2*A*(2*A)/n)↔t*t*n=2*A*(2*A):=by
  have hd:=gf (2*A*(2*A)) n;constructor
  ·rintro⟨g1,g2⟩;rw[g2,ff];omega
  ·intro g;rw[<-g];exact⟨Nat.mul_mod_left _ _,(Nat.mul_div_cancel _ D).symm⟩
 have I:=N.trans O;rw[V]at G X I;clear N O L M;generalize Y:4*(A*A)=Q at*;unfold ET;rw[Y];rcases Nat.mod_two_eq_zero_or_one t with T|T
 ·rw[aa];obtain⟨m,rfl⟩:∃m,t=2*m:=⟨t/2,by omega⟩;rw[show 2*m/2=m by omega];have h5:(2*m+1)*(2*m+1)*n<=(2*m+1)*(2*m+1)*n:=cm _;refine⟨?_,?_⟩
  ·rcases ez m with U|U
   ·exact .inl U
   ·right;have h6:(2*m-1)*(2*m-1)*n<2*m*(2*m)*n:=fa (gk (by omega)) D;split<;>omega
  ·split<;>omega
 ·obtain⟨m,rfl⟩:∃m,t=2*m+1:=⟨t/2,by omega⟩;rw[show(2*m+1)/2=m by omega];have h6:(2*m+1+1)*(2*m+1+1)*n<=(2*(m+1)+1)*(2*(m+1)+1)*n:=OO (by omega);have h7:(2*m-1)*(2*m-1)*n<(2*m+1)*(2*m+1)*n:=fa (gk (by omega)) D;have h8:2*(m+1)-1=2*m+1:=by omega
  by_cases c: ¬E\/down=false
  ·rw[ab ⟨T,c⟩,h8];refine⟨.inr ?_,?_⟩
   ·cases down
    ·simp only[d8,iy];exact G
    ·simp only[fo];rcases c with c|c
     ·exact Nat.lt_of_le_of_ne G λh=>c (I.2 h)
     ·cases c
   ·split<;>omega
  ·have c1:(2*m+1)*(2*m+1)*n=Q:=by
    by_cases g:E
    ·exact I.1 g
    ·exact absurd (.inl g) c
   have c2:down=true:=by
    cases down
    ·exact absurd (.inr rfl) c
    ·rfl
   subst c2;rw[aa (λh=>c h.2)];simp only[fo];exact⟨.inr (by omega),by omega⟩
theorem Zgb {x d:Int}:sgn x d<0↔x*d<0:=by
 rcases Tu x d with⟨h,g⟩|⟨h,g⟩|⟨h,g⟩<;>omega
theorem Z2n {G MG MS MR MQ MP MK MZ:Fn} {x d:Int} {n X D O l1 qh Y t N l2:Nat} (hX:X<=2147483648) (hD:D<=2147483648) (hn:0<n/\n<=4611686018427387904)
  (z1:MZ [I x]=some [U X]) (z2:MZ [I d]=some [U D]) (hk:MK [I 2]=some [B true]) (a2:MP [U ((2*(X*D):Nat):Int),U ((2*(X*D):Nat):Int)]=some [U O,U l1])
  (a3:MQ [U O,U l1,U n]=some [U qh,U Y,B (decide (0<2*(X*D)*(2*(X*D))%n))]) (a4:qh*w64+Y=2*(X*D)*(2*(X*D))/n) (a5:Y<w64) (a6:MR [U qh,U Y]=some [U t]) (a0:t<w64)
  (a7:MP [U t,U t]=some [U N,U l2]) (a8:N*w64+l2=t*t) (a9:l2<w64) (hs:MS [I x,I d]=some [I (sgn x d)])
  (hg:∀(more:Int) (some_ neg:Bool),MG [I 2,I more,B some_,B neg]=some [B (if more>0 then true else if more=0 then !neg else false)])
  (g1:∀{n:Nat},n<9223372036854775808->G [U n,B false]=some [I n,B true]) (g2:∀{n:Nat},n<=9223372036854775808->G [U n,B true]=some [I (-(n:Int)),B true]) {J:Nat}
  (T:t%2=1->(¬(2*(X*D)*(2*(X*D))%n=0/\t*t=2*(X*D)*(2*(X*D))/n)\/ ¬sgn x d<0)->J=t/2+1) (V: ¬(t%2=1/\(¬(2*(X*D)*(2*(X*D))%n=0/\t*t=2*(X*D)*(2*(X*D))/n)\/ ¬sgn x d<0))->J=t/2) (b2:t<=9223372036854775808):
  W9 G MG MS MR MQ MP MK MZ [I x,I d,I n,I 2]=some [I (if sgn x d<0 then-(J:Int)else J),B true]:=by
 have b3:X*D<=2147483648*2147483648:=eg hX hD;have w1:wrap .u64 (2*wrap .u64 ((X:Int)*(D:Int)))=((2*(X*D):Nat):Int):=by
  rw[<-cd,wr (by omega),show(2:Int)*((X*D:Nat):Int)=((2*(X*D):Nat):Int) by omega,wr (by omega)]
 have w2:wrap .u64 (n:Int)=n:=wr (by omega);have w3:((t:Int)).tdiv 2=((t/2:Nat):Int):=YN t 2;have w4:wrap .u64 ((t/2:Nat):Int)=((t/2:Nat):Int):=wr (by rw[Ca]at a0;omega);have w5:wrap .u64 (((t/2:Nat):Int)+1)=((t/2+1:Nat):Int):=by rw[show((t/2:Nat):Int)+1=((t/2+1:Nat):Int) by omega,wr (by rw[Ca]at a0;omega)]
 have w6:((t:Int).tmod 2=1)=(t%2=1):=by
  rw[je (by omega)];exact propext ⟨by omega,by omega⟩
 have b0:∀(neg:Bool) (k:Nat),k<9223372036854775808->G [U k,B neg]=some [I (if neg=true then-(k:Int)else k),B true]:=by
  intro neg k hk;cases neg
  ·exact g1 hk
  ·exact g2 (by omega)
 have key:∀(neg:Bool) (k:Nat),decide (sgn x d<0)=neg->J=k->k<9223372036854775808->G [U k,B neg]=some [I (if sgn x d<0 then-(J:Int)else J),B true]:=by
  intro neg k O N h3;rw[b0 neg k h3,N];congr 3;by_cases c:sgn x d<0
  ·rw[ab c,ab (by rw[<-O];exact ai c)]
  ·rw[aa c,aa (by rw[<-O];simpa using c)]
 have b1:(N=qh/\l2=Y)↔t*t=2*(X*D)*(2*(X*D))/n:=by
  rw[<-a8,<-a4];constructor
  ·rintro⟨rfl,rfl⟩;rfl
  ·intro h;have a1:∀p q u v:Nat,u<w64->v<w64->p*w64+u=q*w64+v->p=q/\u=v:=by
    intro p q u v hu hv h;rcases Nat.lt_trichotomy p q with c|c|c
    ·have:=bq w64 (show p+1<=q from c);rw[iu]at this;omega
    ·subst c;exact⟨rfl,by omega⟩
    ·have:=bq w64 (show q+1<=p from c);rw[iu]at this;omega
   exact a1 _ _ _ _ a9 a5 h
 rw[Ze9];simp only[go_sem,z1,z2,hk,w1,w2,a2,a3,a6,hs,a7,w3,w4,w5,hg];rw[aa,aa,aa,aa,aa (by simp)];have M:t/2+1<9223372036854775808:=by omega
 have hT:∀k:Nat,J=k->k<9223372036854775808->((G [U (k:Int),B (decide (sgn x d<0))]).bind λo=>some [I (Ag (nth .vD o 0)),B (Dz (nth .vD o 1))])=some [I (if sgn x d<0 then-(J:Int)else J),B true]:=by
  intro k O N;rw[key _ k rfl O N];rfl
 have e3:((N:Int)=qh/\(l2:Int)=Y/\True)=(t*t=2*(X*D)*(2*(X*D))/n):=by
  rw[<-propext b1];exact propext ⟨λh=>⟨by omega,by omega⟩,λh=>⟨by omega,by omega,trivial⟩⟩
 simp only[e3,w6];have n1:((1:Int)>0)=True:=by simp
 have n2:((-1:Int)>0)=False:=by simp
 have n3:((-1:Int)=0)=False:=by simp
 have n4:((0:Int)>0)=False:=by simp
 by_cases cR:2*(X*D)*(2*(X*D))%n=0
 ·rw[aa (show¬0<2*(X*D)*(2*(X*D))%n by omega)];by_cases L:t%2=1
  ·by_cases cE:t*t=2*(X*D)*(2*(X*D))/n
   ·by_cases cn:sgn x d<0
    ·have:=V (λh=>h.2.elim (λg=>g ⟨cR,cE⟩) λg=>g cn);simp only[n1,n2,n3,n4,d8,L,cE,not_true_eq_false,fo,iy];rw[aa (by simp[cn])];exact hT _ this (by omega)
    ·have:=T L (.inr cn);simp only[n1,n2,n3,n4,d8,L,cE,not_true_eq_false,fo,iy];rw[ab (by simp;omega)];exact hT _ this M
   ·have:=T L (.inl λg=>cE g.2);simp only[n1,n2,n3,n4,d8,L,cE,not_true_eq_false,kf,fo,iy];exact hT _ this M
  ·have:=V (λh=>L h.1);simp only[n1,n2,n3,n4,d8,L,iy,ite_self];exact hT _ this (by omega)
 ·rw[ab (show 0<2*(X*D)*(2*(X*D))%n by omega)];by_cases L:t%2=1
  ·have:=T L (.inl λg=>cR g.1);simp only[n1,n2,n3,n4,d8,L,kf,fo];exact hT _ this M
  ·have:=V (λh=>L h.1);simp only[n1,n2,n3,n4,d8,L,kf,fo,iy];exact hT _ this (by omega)
theorem Zwb {x d:Int} {n:Nat} (N:0<n) (O:0<=d) (G:ET (x.natAbs*d.natAbs) n (decide (x*d<0)) J):(if x*d<0 then-(J:Int)else J)=AN x d n:=by
 unfold AN;rw[i6];by_cases L:x<0
 ·rw[ab L];by_cases M:d=0
  ·subst M;rw[jr,aa];rw[show x.natAbs*(0:Int).natAbs=0 from by simp]at G⊢;have e1:ET 0 n true 0:=⟨.inl rfl,by simp⟩;rw[Px e1];obtain⟨I,-⟩:=G;rw[al (by simp)]at I;simp only[d8,iy]at I;rcases I with I|I
   ·omega
   ·rcases ez J with T|T
    ·omega
    ·have U:=Nat.mul_pos (Nat.mul_pos (show 0<2*J-1 by omega) (show 0<2*J-1 by omega)) N;omega
  ·have D:x*d<0:=Int.mul_neg_of_neg_of_pos L (by omega);rw[ai D]at G;rw[ab D,Px G]
 ·rw[aa L];have D: ¬x*d<0:=by have:=bv (show 0<=x by omega) O;omega
  rw[al D]at G;rw[aa D,Px G]
theorem XO {x d n:Int} (hx:x.natAbs<=2147483648) (hd:0<=d/\d<=2147483648) (hn:0<n/\n<=4611686018427387904):In [I x,I d,I n,I 2]=some [I (AN x d n),B true]:=by
 obtain⟨N,rfl⟩:=bh (show 0<=n by omega);have hD:d.natAbs<=2147483648:=by omega
 have a1:x.natAbs*d.natAbs<=2147483648*2147483648:=eg hx hD;have O:0<N/\N<=4611686018427387904:=by omega
 have T:2*(x.natAbs*d.natAbs)<w64:=by rw[Ca];omega
 obtain⟨G,l1,e1,e2,e3⟩:=OY T T;have U:N<w64:=by rw[Ca];omega
 have V:G<w64:=by
  have:=Nat.mul_lt_mul'' T T;rw[<-e2]at this;by_cases c:G<w64
  ·exact c
  ·have:=bq w64 (show w64<=G by omega);omega
 obtain⟨qh,ql,q1,q2,q3,Y⟩:=Zha (M:=GL) Z6n V e3 O.1 U;rw[e2]at q1 Y;obtain⟨t,r1,r2,r3,r4⟩:=Zbc q2 q3;rw[Y]at r2 r3;obtain⟨h2,l2,p1,p2,p3⟩:=OY r4 r4;have ht:t<=9223372036854775808:=by
  have k1:t*t<=2*(x.natAbs*d.natAbs)*(2*(x.natAbs*d.natAbs)):=cb r2 (ip _ _);have k2:=jx.1 k1;omega
 have hi:=Zrx O.1 r2 r3 (decide (x*d<0)) (E:=2*(x.natAbs*d.natAbs)*(2*(x.natAbs*d.natAbs))%N=0/\t*t=2*(x.natAbs*d.natAbs)*(2*(x.natAbs*d.natAbs))/N) Iff.rfl;have L:=Zwb O.1 hd.1 hi;rw[<-L];have:= @Zgb x d;have a0:∀a:Int,(if x*d<0 then-a else a)=if sgn x d<0 then-a else a:=by
  intro a;by_cases c:x*d<0
  ·rw[ab c,ab (this.2 c)]
  ·rw[aa c,aa (λh=>c (this.1 h))]
 rw[a0];refine Z2n (X:=x.natAbs) (D:=d.natAbs) hx hD O (Jt (by unfold i64;omega)) (Jt (by unfold i64;omega)) (Qhl (.inr (.inr rfl))) e1 q1 Y q3 r1 r4 p1 p2 p3 (XV x d) Q9e Qef Qtf (λG h2=> ?_) (λh=> ?_) ht
 ·rw[ab ⟨G,h2.imp id λh=>al λg=>h (this.2 g)⟩]
 ·rw[aa λg=>h ⟨g.1,g.2.imp id λk g2=>by rw[decide_eq_false_iff_not]at k;exact k (this.1 g2)⟩]
theorem Q62 (D:bd 67108864 d) (hb:bd 67108864 q):
    V (V (V (0+V (V (d.x-q.x)*V (d.x-q.x)))+V (V (d.y-q.y)*V (d.y-q.y)))+V (V (d.z-q.z)*V (d.z-q.z)))=sqD d q:=by
  have h:∀x y:Int,x.natAbs<=67108864->y.natAbs<=67108864->0<=(x-y)*(x-y)/\(x-y)*(x-y)<=18014398509481984:=by
    intro x y G I;exact B0 (x:=x-y) (A:=134217728) (by omega)
  have L:=h _ _ D.1 hb.1;have M:=h _ _ D.2.1 hb.2.1;have N:=h _ _ D.2.2 hb.2.2;obtain⟨a1,a2,a3⟩:=D;obtain⟨b1,b2,b3⟩:=hb;rw[Ad (x:=d.x-q.x),Ad (x:=d.y-q.y),Ad (x:=d.z-q.z)];unfold sqD Gg E6;simp only;generalize(d.x-q.x)*(d.x-q.x)=u at*;generalize(d.y-q.y)*(d.y-q.y)=v at*;generalize(d.z-q.z)*(d.z-q.z)=w at*;rw[Ad (x:=u),Ad (x:=0+u),Ad (x:=v),Ad (x:=0+u+v),Ad (x:=w),Ad,Int.zero_add]
theorem Zgo {n:Nat} (G:bd 67108864 d) (hb:bd 67108864 q) (D:sqD d q=n)
    (L:∃r:Nat,M [I n,I 1]=some [I ((if((1:Int)=1/\r*r<n)\/((1:Int)=2/\r*r+r<n)then r+1 else r:Nat):Int),B true]/\r*r<=n/\n<(r+1)*(r+1)):
    Wv M [I d.x,I d.y,I d.z,I q.x,I q.y,I q.z]=some [I (Ay d q)]:=by
  obtain⟨r,N,O,T⟩:=L;have U:=Q0f O T;rw[Zv7,Q62 G hb,D];simp only[go_sem,N];unfold Ay;rw[D,Za0 U];congr 3;by_cases c:r*r<n
  · rw[ab (.inl ⟨trivial,c⟩),ab c]
  · rw[aa (by simp[c]),aa c]
theorem Qb7 (D:bd 67108864 d) (hb:bd 67108864 q):I9 [I d.x,I d.y,I d.z,I q.x,I q.y,I q.z]=some [I (Ay d q)]:=by
  have G:=NB d q;have M:=PW D hb (cm _);obtain⟨n,L⟩:=bh G;exact Zgo D hb L (Qui (by omega) (.inl rfl))
theorem Z7o {MO:Fn} {a b:Spk} {u w:Int} (N:okS a) (hb:okS b) (O:u.natAbs<=100000000) (T:w.natAbs<=100000000)
    (U: ¬(u=0/\w=0)->MO [I u,I (hf a.r b.r),I (sq2 u w),I 2]=some [I (AN u (hf a.r b.r) (sq2 u w)),B true]/\MO [I w,I (hf a.r b.r),I (sq2 u w),I 2]=some [I (AN w (hf a.r b.r) (sq2 u w)),B true]):
    (bif u == 0 then
      bif w==0 then some [AC.int IntKind.i64 0,AC.int IntKind.i64 0,AC.int IntKind.i64 0,AC.int IntKind.i64 0,AC.bool false]
      else(MO [AC.int IntKind.i64 u,AC.int IntKind.i64 ((V (V (a.r+b.r)+1)).fdiv (2^min (Int.toNat 1) IntKind.i64.bits)),AC.int IntKind.i64 (V (V (u*u)+V (w*w))),AC.int IntKind.i64 2]).bind λD=>
       (MO [AC.int IntKind.i64 w,AC.int IntKind.i64 ((V (V (a.r+b.r)+1)).fdiv (2^min (Int.toNat 1) IntKind.i64.bits)),AC.int IntKind.i64 (V (V (u*u)+V (w*w))),AC.int IntKind.i64 2]).bind λG=>
       some [AC.int IntKind.i64 (Ag (nth AC.vD D 0)),AC.int IntKind.i64 (Ag (nth AC.vD G 0)),AC.int IntKind.i64 ((V (V (a.r+b.r)+1)).fdiv (2^min (Int.toNat 1) IntKind.i64.bits)),AC.int IntKind.i64 ((V (V (a.h+b.h)+1)).fdiv (2^min (Int.toNat 1) IntKind.i64.bits)),AC.bool true]
     else(MO [AC.int IntKind.i64 u,AC.int IntKind.i64 ((V (V (a.r+b.r)+1)).fdiv (2^min (Int.toNat 1) IntKind.i64.bits)),AC.int IntKind.i64 (V (V (u*u)+V (w*w))),AC.int IntKind.i64 2]).bind λD=>
       (MO [AC.int IntKind.i64 w,AC.int IntKind.i64 ((V (V (a.r+b.r)+1)).fdiv (2^min (Int.toNat 1) IntKind.i64.bits)),AC.int IntKind.i64 (V (V (u*u)+V (w*w))),AC.int IntKind.i64 2]).bind λG=>
       some [AC.int IntKind.i64 (Ag (nth AC.vD D 0)),AC.int IntKind.i64 (Ag (nth AC.vD G 0)),AC.int IntKind.i64 ((V (V (a.r+b.r)+1)).fdiv (2^min (Int.toNat 1) IntKind.i64.bits)),AC.int IntKind.i64 ((V (V (a.h+b.h)+1)).fdiv (2^min (Int.toNat 1) IntKind.i64.bits)),AC.bool true])=
    some (C5 (Dg a b u w)++[B (decide (¬(u=0/\w=0)))]):=by
  have q1:=B0 O;have q2:=B0 T;have e:V (V (u*u)+V (w*w))=sq2 u w:=by
    unfold sq2;generalize u*u=x at*;generalize w*w=y at*;rw[Ad (x:=x),Ad (x:=y),Ad]
  have X:(V (V (a.r+b.r)+1)).fdiv (2^min (Int.toNat 1) IntKind.i64.bits)=hf a.r b.r:=by
    have Y:=N.2.2.1;have h2:=hb.2.2.1;rw[Ad (x:=a.r+b.r),Ad (x:=a.r+b.r+1),show(2^min (Int.toNat 1) IntKind.i64.bits:Int)=2 from rfl,fu _ (by omega)];rfl
  have eh:(V (V (a.h+b.h)+1)).fdiv (2^min (Int.toNat 1) IntKind.i64.bits)=hf a.h b.h:=by
    have Y:=N.2.2.2;have h2:=hb.2.2.2;rw[Ad (x:=a.h+b.h),Ad (x:=a.h+b.h+1),show(2^min (Int.toNat 1) IntKind.i64.bits:Int)=2 from rfl,fu _ (by omega)];rfl
  simp only[X,eh,e];simp only[go_sem];unfold Dg;by_cases h:u=0/\w=0
  · rw[ab h.1,ab h.2,ab h]
    simp[h]
  · obtain⟨n1,n2⟩:=U h
    rw[aa h];simp only[n1,n2,go_sem];have hd:decide (¬(u=0/\w=0))=true:=ai h;rw[hd];by_cases L:u=0
    · rw[ab L,aa (λM=>h ⟨L,M⟩)];try rfl
    · rw[aa L];try rfl
theorem Zij {a b:Spk} (O:okS a) (hb:okS b) {dir:Int} (G:dir=1\/dir= -1) (bG:Bool)
    (hO:∀{u w:Int},u.natAbs<=100000000->w.natAbs<=100000000-> ¬(u=0/\w=0)->M [I u,I (hf a.r b.r),I (sq2 u w),I 2]=some [I (AN u (hf a.r b.r) (sq2 u w)),B true]/\M [I w,I (hf a.r b.r),I (sq2 u w),I 2]=some [I (AN w (hf a.r b.r) (sq2 u w)),B true])
    (hC:Z [I a.u,I a.w,I a.r,I a.h,I b.u,I b.w,I b.r,I b.h]=some [I (crs a.u a.w b.u b.w)]) (hD:W [I a.u,I a.w,I a.r,I a.h,I b.u,I b.w,I b.r,I b.h]=some [I (dt2 a.u a.w b.u b.w)])
    (a0:(crs a.u a.w b.u b.w).natAbs<=5000000000000000):
    Qde M Z W [I a.u,I a.w,I a.r,I a.h,I b.u,I b.w,I b.r,I b.h,I dir,B bG]=some (C5 (AI a b dir bG)++[B (decide (¬((BN a b dir bG).1=0/\(BN a b dir bG).2=0)))]):=by
  have key:=fun{u w:Int} (X:u.natAbs<=100000000) (Y:w.natAbs<=100000000)=>Z7o (MO:=M) (a:=a) (b:=b) O hb X Y (hO X Y);have L:=L2 O hb G bG;obtain⟨a1,a2,-⟩:=O;obtain⟨b1,b2,-⟩:=hb;have w1:V (0-a.u)= -a.u:=by rw[Ad];omega
  have w2:V (0-a.w)= -a.w:=by rw[Ad];omega
  have w3:V (a.u+b.u)=a.u+b.u:=Ad;have w4:V (a.w+b.w)=a.w+b.w:=Ad;have w5:V (0-(a.u+b.u))= -(a.u+b.u):=by rw[Ad];omega
  have w6:V (0-(a.w+b.w))= -(a.w+b.w):=by rw[Ad];omega
  have w7:V (b.w-a.w)=b.w-a.w:=Ad;have w8:V (a.u-b.u)=a.u-b.u:=Ad;have w9:V (dir*(b.w-a.w))=dir*(b.w-a.w):=by rcases G with rfl|rfl<;>exact Ad
  have T:V (dir*(a.u-b.u))=dir*(a.u-b.u):=by rcases G with rfl|rfl<;>exact Ad
  have U:V (crs a.u a.w b.u b.w*dir)=crs a.u a.w b.u b.w*dir:=by rcases G with rfl|rfl<;>exact Ad
  rw[Zne];try dsimp only[go_sem]
  unfold AI;simp only[w1,w2,w3,w4,w5,w6,w7,w8,w9,T,hC,hD,am,HU,HH,gA,jA,wA,bA,U];have fin:∀{x:Option (List AC)},x=some (C5 (Dg a b (BN a b dir bG).1 (BN a b dir bG).2)++[B (decide (¬((BN a b dir bG).1=0/\(BN a b dir bG).2=0)))])->
      (bif dir !=1 then bif dir != -1 then some [AC.int IntKind.i64 0,AC.int IntKind.i64 0,AC.int IntKind.i64 0,AC.int IntKind.i64 0,AC.bool false]else x else x)=some (C5 (Dg a b (BN a b dir bG).1 (BN a b dir bG).2)++[B (decide (¬((BN a b dir bG).1=0/\(BN a b dir bG).2=0)))]):=by
    intro x hx;rcases G with rfl|rfl
    · rw[B4 (by decide)];exact hx
    · rw[Cj (by decide),B4 (by decide)];exact hx
  refine fin ?_;have D:=key L.1 L.2;unfold BN at*;cases bG
  · simp only[ay,d8,iy]at D⊢
    by_cases N:0<dt2 a.u a.w b.u b.w
    · rw[Bc (show¬dt2 a.u a.w b.u b.w<=0 by omega)]
      by_cases c2:0<crs a.u a.w b.u b.w*dir
      · rw[Bc (show¬crs a.u a.w b.u b.w*dir<=0 by omega)]
        rw[ab ⟨N,c2⟩]at D⊢;exact D
      · rw[Ea (show crs a.u a.w b.u b.w*dir<=0 by omega)]
        rw[aa (λh=>c2 h.2),ab N]at D⊢;exact D
    · rw[Ea (show dt2 a.u a.w b.u b.w<=0 by omega)]
      rw[aa (λh=>N h.1),aa N]at D⊢;exact D
  · simp only[ak,fo]at D⊢
    exact D
theorem Z5v {u w r:Int} (D:u.natAbs<=100000000) (G:w.natAbs<=100000000) (L:0<=r/\r<=50000000) (h: ¬(u=0/\w=0)):
    In [I u,I r,I (sq2 u w),I 2]=some [I (AN u r (sq2 u w)),B true]/\In [I w,I r,I (sq2 u w),I 2]=some [I (AN w r (sq2 u w)),B true]:=by
  have M:=JP h;have N:=B0 D;have O:=B0 G;have T:sq2 u w<=20000000000000000:=by unfold sq2;omega
  exact⟨XO (by omega) (by omega) (by omega),XO (by omega) (by omega) (by omega)⟩
theorem Zji {a b:Spk} (D:okS a) (hb:okS b) {dir:Int} (G:dir=1\/dir= -1) (bG:Bool):
    Mu [I a.u,I a.w,I a.r,I a.h,I b.u,I b.w,I b.r,I b.h,I dir,B bG]=some (C5 (AI a b dir bG)++[B (decide (¬((BN a b dir bG).1=0/\(BN a b dir bG).2=0)))]):=by
  have L:=(Q01 D.1 D.2.1 hb.1 hb.2.1).2;exact Zij D hb G bG (λM N h=>Z5v M N (Qfm D.2.2.1 hb.2.2.1) h)
    (Qkk (Hl D.1) (Hl D.2.1) (Hl hb.1) (Hl hb.2.1)) (Qhs (Hl D.1) (Hl D.2.1) (Hl hb.1) (Hl hb.2.1)) L
def okT (s:Spk):Prop:=okS s/\ ¬(s.u=0/\s.w=0)/\1<=s.r
theorem Qph {a b:Spk} (I: ¬(a.u=0/\a.w=0)) (hb: ¬(b.u=0/\b.w=0)) {dir:Int} (L:dir=1\/dir= -1) (bG:Bool): ¬((BN a b dir bG).1=0/\(BN a b dir bG).2=0):=by
  have M:=JP I;unfold sq2 at M;unfold BN;split
  · simp only;omega
  · rename_i hf
    have key:0<dt2 a.u a.w b.u b.w-> ¬(a.u+b.u=0/\a.w+b.w=0):=by
      intro G ⟨N,O⟩;have e1:b.u= -a.u:=by omega
      have e2:b.w= -a.w:=by omega
      unfold dt2 at G;rw[e1,e2,Int.mul_neg,Int.mul_neg]at G;omega
    split
    · rename_i c;exact key c.1
    · split
      · rename_i T D
        have:=key D;simp only;omega
      · rename_i T D
        simp only;rintro⟨N,O⟩;have e1:b.w=a.w/\a.u=b.u:=by rcases L with rfl|rfl<;>omega
        unfold dt2 at D;rw[e1.1,<-e1.2]at D;omega
theorem Z40 {u w r:Int} (G:u.natAbs<=100000000) (I:w.natAbs<=100000000) (U:1<=r/\r<=50000000) (h: ¬(u=0/\w=0)): ¬(AN u r (sq2 u w)=0/\AN w r (sq2 u w)=0):=by
  have V:=JP h;have X:=B0 G;have Y:=B0 I;have h3:sq2 u w<=20000000000000000:=by unfold sq2;omega
  obtain⟨L,M⟩:=Iz u w;have key:∀x:Int,x.natAbs<=100000000->x*x<=sq2 u w->AN x r (sq2 u w)=0->4*(x*x)<=sq2 u w:=by
    intro x N O T;obtain⟨-,D⟩:=Ru (x:=x) (r:=r) (n:=sq2 u w) (cb N (by decide)) (by omega) (by omega) O;rw[T]at D;obtain⟨-,D⟩:=D;have g4:4*(x.natAbs*r.natAbs*(x.natAbs*r.natAbs))<=(sq2 u w).natAbs:=by
      rw[show(0:Int).natAbs=0 from rfl]at D;split at D<;>omega
    have e1:x.natAbs*r.natAbs*(x.natAbs*r.natAbs)=x.natAbs*x.natAbs*(r.natAbs*r.natAbs):=by grind
    have g5:x.natAbs*x.natAbs*1<=x.natAbs*x.natAbs*(r.natAbs*r.natAbs):=jz _ (eg (show 1<=r.natAbs by omega) (show 1<=r.natAbs by omega));have e2:((x.natAbs*x.natAbs:Nat):Int)=x*x:=cq;omega
  rintro⟨g1,g2⟩;have k1:=key u G L g1;have k2:=key w I M g2;unfold sq2 at*;omega
theorem Z1x {a b:Spk} (D:okT a) (hb:okT b) {dir:Int} (I:dir=1\/dir= -1) (bG:Bool):okT (AI a b dir bG):=by
  have L:=Qph D.2.1 hb.2.1 I bG;have G:=L2 D.1 hb.1 I bG;have N:=D.1.2.2.1;have O:=hb.1.2.2.1;have T:=D.2.2;have U:=hb.2.2;have M:1<=hf a.r b.r/\hf a.r b.r<=50000000:=by unfold hf;omega
  refine⟨ZL D.1 hb.1 I bG,?_,?_⟩
  · unfold AI Dg
    rw[aa L];exact Z40 G.1 G.2 M L
  · unfold AI Dg
    rw[aa L];exact M.1
theorem Zyo {r n:Int} (D:0<=r/\r<=50000000):Oc [I r,I n]=some [B (decide (n<=32*r-64))]:=by
  unfold Oc;rw[Zya,Ad (x:=8*r),Ad (x:=8*r*4),Ad (x:=8*r*4-64),show 8*r*4-64=32*r-64 by omega]
theorem Zhw {a b:Spk} (L:okS a) (hb:okS b) {dir:Int} (T:dir=1\/dir= -1) (bG:Bool)
    (U:∀{r n:Int},(0<=r/\r<=50000000)->M [I r,I n]=some [B (decide (n<=32*r-64))])
    (X:Z [I a.u,I a.w,I a.r,I a.h,I b.u,I b.w,I b.r,I b.h]=some [I (crs a.u a.w b.u b.w)]) (Y:(crs a.u a.w b.u b.w).natAbs<=5000000000000000):
    Qgc M Z [.vC Ee l,I a.u,I a.w,I a.r,I a.h,I b.u,I b.w,I b.r,I b.h,B bG,I dir]=some [.vC Ee l,B (decide (DE a b dir bG)),I dir]:=by
  have hr:0<=mn a.r b.r/\mn a.r b.r<=50000000:=by
    have h1:=L.2.2.1;have h2:=hb.2.2.1;unfold mn;split<;>omega
  obtain⟨a1,a2,-⟩:=L;obtain⟨b1,b2,-⟩:=hb;have N:=F7 a1 b1;have O:=F7 a2 b2;have q1:=B0 N;have q2:=B0 O;have e:V (V ((a.u-b.u)*(a.u-b.u))+V ((a.w-b.w)*(a.w-b.w)))=sq2 (a.u-b.u) (a.w-b.w):=by
    unfold sq2;generalize(a.u-b.u)*(a.u-b.u)=x at*;generalize(a.w-b.w)*(a.w-b.w)=y at*;rw[Ad (x:=x),Ad (x:=y),Ad]
  have G:V (crs a.u a.w b.u b.w*dir)=crs a.u a.w b.u b.w*dir:=by rcases T with rfl|rfl<;>exact Ad
  rw[Zft,II N (by decide),II O (by decide),e];cases bG
  · simp only[Bool.not_false,ak,X,am,HU,HH,gA,jA,wA,bA,G,U hr,Qmd]
    by_cases c:0<crs a.u a.w b.u b.w*dir
    · rw[Ea (show crs a.u a.w b.u b.w*dir>0 from c)]
      by_cases D:sq2 (a.u-b.u) (a.w-b.w)<=32*mn a.r b.r-64
      · rw[ai D,ai (show DE a b dir false from⟨rfl,c,D⟩)]
      · rw[al D,al (λh:DE a b dir false=>D h.2.2)]
    · rw[Bc (show¬crs a.u a.w b.u b.w*dir>0 from c),al (λh:DE a b dir false=>c h.2.1)]
  · simp only[Bool.not_true,ay]
    rw[al (λh:DE a b dir true=>by cases h.1)]
theorem Zec {out:Rw} {a b:Spk} (D:okS a) (hb:okS b) {dir:Int} (G:dir=1\/dir= -1) (bG:Bool):
    Lw [.vC Ee out,I a.u,I a.w,I a.r,I a.h,I b.u,I b.w,I b.r,I b.h,B bG,I dir]=some [.vC Ee out,B (decide (DE a b dir bG)),I dir]:=
  Zhw D hb G bG Zyo (Qkk (Hl D.1) (Hl D.2.1) (Hl hb.1) (Hl hb.2.1)) (Q01 D.1 D.2.1 hb.1 hb.2.1).2
theorem Qn6 {dir:Int} (D:dir=1\/dir= -1):∀(n k:Nat) (bG:Bool) (a b:Spk) (out:List Spk),k<=16->k<n->okT a->okT b->out.length+2^k<=1000000->
    Ou n [.vC Ee (out.map C5),I a.u,I a.w,I a.r,I a.h,I b.u,I b.w,I b.r,I b.h,B bG,I (16-k:Int),I dir]=some [.vC Ee ((out++AK dir k bG a b).map C5),I dir]
  |0,k,_,_,_,_,_,M,_,_,_=>by omega
  |n+1,0,bG,a,b,out,_,_,G,hb,N=>by
    show Ut _ _ _ _=_;rw[Qp2,Bc (by omega),Cj]
    · unfold AK
      rw[bt];rfl
    · exact gh (by simp only[aq,ac,bp,dg];omega)
  |n+1,k+1,bG,a,b,out,M,U,G,hb,N=>by
    have L:=Z1x G hb D bG;have O:=Qph G.2.1 hb.2.1 D bG;have e3:2^(k+1)=2^k+2^k:=by rw[ji];omega
    have V:0<2^k:=f9 _;have X:=(Pe k false a (AI a b dir bG) (dir:=dir)).2;have i1:=Qn6 D n k false a (AI a b dir bG) out (by omega) (by omega) G L (by omega);have T:=Qn6 D n k false (AI a b dir bG) b (out++AK dir k false a (AI a b dir bG)) (by omega) (by omega) L hb (by rw[aq];omega);have e1:=Zec (out:=out.map C5) G.1 hb.1 D bG;have e2:=Zji G.1 hb.1 D bG;rw[ai O]at e2;show Ut (Ou n) Mu Lw _=_;generalize Ou n=Y at*;generalize Mu=MM at*;generalize Lw=MS at*;rw[Qp2,Ea (by omega),Ad,show(16-((k+1:Nat):Int)+1)=16-(k:Int) by omega];unfold AK;generalize AI a b dir bG=m at*;generalize AK dir k false a m=p1 at*;generalize AK dir k false m b=p2 at*;simp only[az,bf,C5]at e2;simp only[e1,e2,am,HU,Mk,LP,Q2,PE,HH,gA,jA,wA,bA,Qmd,i1,T,Qmq];by_cases c:DE a b dir bG
    · rw[ab c,B4 (by simp[c]),Cj]
      · rw[bt];rfl
      · exact gh (by simp only[aq,ac,bp,dg];omega)
    · rw[aa c,Cj (by simp[c]),ak,df]
theorem Q00 {it:Itm} (D:bd 1048576 it.ce) (G:bd 1048576 d) (I:64<=sq2 (dU it d) (dW it d)):okT (AE it d):=by
 obtain⟨U,V,L,M⟩:=N_ D G;have e:sq2 (dU it d*16) (dW it d*16)=256*sq2 (dU it d) (dW it d):=by unfold sq2;grind
 refine⟨L0 D G,?_,?_⟩
 ·show¬(dU it d*16=0/\dW it d*16=0);rintro⟨g1,g2⟩;rw[show dU it d=0 by omega,show dW it d=0 by omega]at I;simp[sq2]at I
 ·show 1<=EX _;obtain⟨n,N⟩:=bh L;rw[N]at M⊢;obtain⟨r,O,T⟩:=KR n;rw[NN (QC O T)];have:1<=r:=by
   rcases ez r with h|h
   ·subst h;omega
   ·exact h
  split<;>omega
theorem Zbl {n:Nat} (M:n<=2251799813685248):IM [I n,I 2]=some [I (EX n),B true]:=by
 obtain⟨r,D,G,L⟩:=Qui (n:=n) (mode:=2) (by omega) (.inr rfl);rw[D,NN (QC G L)];congr 3;by_cases c:r*r+r<n
 ·rw[ab (.inr ⟨rfl,c⟩),ab c]
 ·rw[aa (by simp;omega),aa c]
theorem Zzs {it:Itm} (hV:∃v,P (Af it)=some [B v]/\(v=true↔CE it)) (h:CE it)
  (O:it.aP=3->T (Af it)=some [I (dU it it.fr*16),I (dW it it.fr*16),I 0,I (plH it.aG it.fr*16),I (dU it it.to*16),I (dW it it.to*16),I 0,I (plH it.aG it.to*16)])
  (L:∀p:Pt,it.aP=3->(p=it.fr\/p=it.to)->W [I (dU it p*16),I (dW it p*16),I 0,I (plH it.aG p*16),I (dU it p*16),I (dW it p*16),I 0,I (plH it.aG p*16)]=some [I (sq2 (dU it p*16) (dW it p*16))])
  (N:∀p:Pt,it.aP=3->(p=it.fr\/p=it.to)->Z [I (sq2 (dU it p*16) (dW it p*16)),I 2]=some [I (EX (sq2 (dU it p*16) (dW it p*16))),B true])
  (U:it.aP=3->M (.vC Ee [C5 (AE it it.fr)]::C5 (AE it it.fr)++C5 (AE it it.to)++[B it.bG,I 0,I it.dir])=some [.vC Ee ((CJ it).map C5),I it.dir]):
  Qls M Z W T P (Af it)=if it.aP=3 then some [.vC Ee ((CJ it).map C5),B true]else some [.vC Ee [],B false]:=by
 obtain⟨v,V,G⟩:=hV;rw[Z0c];by_cases D:it.aP=3
 ·have e:=O D;have p:=U D;have X:=L it.fr D (.inl rfl);have Y:=L it.to D (.inr rfl);have q1:=N it.fr D (.inl rfl);have q2:=N it.to D (.inr rfl);simp only[az,bf,AE,C5]at p;simp only[go_sem,V,e,X,Y,q1,q2,p];rw[aa (by simp[D]),aa (by simp[G.2 h]),ab D]
 ·simp only[go_sem];rw[ab D,aa D]
theorem Zcx {it:Itm} (h:CE it):OU (Af it)=if it.aP=3 then some [.vC Ee ((CJ it).map C5),B true]else some [.vC Ee [],B false]:=by
 have hb:it.aP=3->∀p:Pt,(p=it.fr\/p=it.to)->bd 1048576 it.ce/\bd 1048576 p:=by
  intro G p I;obtain⟨-,M,N,O⟩:=h;obtain⟨-,-,D,-⟩:=O G;rcases I with rfl|rfl
  ·exact⟨D,M⟩
  ·exact⟨D,N⟩
 refine Zzs (Ql6 it) h (λG=> ?_) (λp G I=> ?_) (λp G I=> ?_) λG=> ?_
 ·obtain⟨-,M,N,O⟩:=h;obtain⟨I,-,D,-⟩:=O G;exact Q9y I M N D
 ·obtain⟨D,L⟩:=hb G p I;obtain⟨g1,g2,-⟩:=N_ D L;exact Qhs (cb g1 (by decide)) (cb g2 (by decide)) (cb g1 (by decide)) (cb g2 (by decide))
 ·obtain⟨D,L⟩:=hb G p I;obtain⟨-,-,T,U⟩:=N_ D L;obtain⟨n,V⟩:=bh T;rw[V]at U⊢;exact Zbl (by omega)
 ·obtain⟨-,M,N,O⟩:=h;obtain⟨I,X,D,Y,t2,-⟩:=O G;have:=Qn6 X 20 16 it.bG (AE it it.fr) (AE it it.to) [AE it it.fr] (by omega) (by omega) (Q00 D M Y) (Q00 D N t2) (show 1+2^16<=1000000 by decide);exact this
theorem Ztl {u w h pl:Int} (G:Df pl):MY [I u,I w,I h,I pl]=some (ptR (spP pl u w h)):=by
 show Qgk Fz _=_;have D:=Qem pl;generalize Fz=M at*;rw[Zuo];rcases G with rfl|rfl|rfl
 ·have e:axI 17=(0,1,2):=rfl;rw[e]at D;rw[D];rfl
 ·have e:axI 18=(2,0,1):=rfl;rw[e]at D;rw[D];rfl
 ·have e:axI 19=(1,2,0):=rfl;rw[e]at D;rw[D];rfl
theorem Zfs {α:Type} (pre rest:List α) (x z:α):(pre++x::rest).set pre.length z=(pre++[z])++rest:=by
 rw[List.set_append_right _ _ (cm _),i8];simp
def Em {α:Type} (f:Nat->α) (z:α) (n i:Nat):List α:=(List.range i).map f++List.replicate (n-i) z
theorem Q6q {α:Type} (f:Nat->α) (z:α) {n i:Nat} (h:i<=n):(Em f z n i).length=n:=by unfold Em;simp;omega
theorem Q1g {α:Type} (f:Nat->α) (z:α) {n i:Nat} (h:i<n):(Em f z n i).set i (f i)=Em f z n (i+1):=by
 unfold Em;have e:n-i=(n-(i+1))+1:=by omega
 rw[e,jh];have:=Zfs ((List.range i).map f) (List.replicate (n-(i+1)) z) z (f i);rw[ac,List.length_range]at this;rw[this,List.range_succ,bt];rfl
theorem Qsz {α:Type} (f:Nat->α) (z:α) (n:Nat):Em f z n n=(List.range n).map f:=by unfold Em;simp
theorem Zfp {α:Type} (l:List α) (d:α):(List.range l.length).map (λi=>l.getD i d)=l:=by
 apply List.ext_getElem
 ·simp
 ·intro i G D;simp[D]
def JL:Spk:=⟨0,0,0,0⟩
theorem Qsr {MS MP MF MK MV:Fn} {it:Itm} {l:List Spk} {cu cw:Int} (V:l.length<=65537) (N:cu.natAbs<=16777216) (O:cw.natAbs<=16777216) (L:∀s∈l,okS s)
  (U:∀{u w h:Int},MS [I u,I w,I h,I it.aG]=some (ptR (spP it.aG u w h))) {f:Nat->List AC} (hf:∀i,f i=ptR (spP it.aG (cu+(l.getD i JL).u) (cw+(l.getD i JL).w) (l.getD i JL).h)):
  ∀(k i:Nat),i+k=l.length->Am (Oj MS MP MF MK MV) (.vC kPt (Em f [I 0,I 0,I 0] l.length i)::I cu::I cw:: .vC Ee (l.map C5)::I l.length::I i::Af it)=
   some (1,[.vC kPt ((List.range l.length).map f)])
 |0,i,X=>by
  refine Bn ?_ (by simp);rw[Qzt];simp only[go_sem];rw[aa,show i=l.length by omega,Qsz]
 |k+1,i,X=>by
  have D:i<l.length:=by omega
  have Y:Oj MS MP MF MK MV (.vC kPt (Em f [I 0,I 0,I 0] l.length i)::I cu::I cw:: .vC Ee (l.map C5)::I l.length::I i::Af it)=
    some (0, .vC kPt (Em f [I 0,I 0,I 0] l.length (i+1))::I cu::I cw:: .vC Ee (l.map C5)::I l.length::I (i+1:Nat)::Af it):=by
   rw[Qzt];have hr:nth [] (l.map C5) i=C5 l[i]:=GO _ _ _ _ D;have ho:=L _ (ca D);have T:=Q6q f [I 0,I 0,I 0] (show i<=l.length by omega);have M:=hf i;rw[show l.getD i JL=l[i] by simp[D]]at M;have G:=Q1g f [I 0,I 0,I 0] D;rw[M]at G;generalize l[i]=s at*;obtain⟨s1,s2,-⟩:=ho;simp only[go_sem,af,ac,hr];rw[ab,ab,Ad (x:=cu+s.u),Ad (x:=cw+s.w),Ad (x:=(i:Int)+1)];simp only[U,go_sem,T];rw[ab,G];rfl
  rw[BB Y];exact Qsr V N O L U hf k (i+1) (by omega)
theorem Zvz {MS G L MK M:Fn} {it:Itm} {S:List Spk} {f:Pt} {u w h:Int} (O:M (Af it)=some [B true])
  (T:MK (Af it)=some [.vC Ee (S.map C5),B true]) (hf:L [I it.ce.x,I it.ce.y,I it.ce.z]=some (ptR f)) (D:G [I f.x,I f.y,I f.z,I it.aG]=some [I u,I w,I h]) (V:S.length<=65537)
  (U:N [.vC kPt (List.replicate S.length [I 0,I 0,I 0]),I u,I w, .vC Ee (S.map C5),I S.length,I 0,I it.aP,I it.block,I it.fr.x,I it.fr.y,I it.fr.z,I it.to.x,I it.to.y,I it.to.z,I it.aG,I it.ce.x,I it.ce.y,I it.ce.z,I it.dir,B it.bG,I it.aZ,B it.perRev,I it.side,I it.radius,I it.bH,I it.n,I it.aS,B it.on]=some (1,[.vC kPt l])):
  Ua MS G L MK M N (Af it)=some [.vC kPt l,B true]:=by
 rw[VN];simp only[go_sem,O,T,hf,D,ac,af,U];rw[aa (by simp),aa (by simp),ab]
theorem Z5h {MS G L MK M:Fn} {it:Itm} (hV:∃v,M (Af it)=some [B v]/\(v=true↔CE it)) (h:CE it)
  (U:MK (Af it)=if it.aP=3 then some [.vC Ee ((CJ it).map C5),B true]else some [.vC Ee [],B false])
  (V:∀{p:Pt},bd 100000000 p->L [I p.x,I p.y,I p.z]=some (ptR (Aq p))) (hP:Df it.aG->∀{p:Pt},G [I p.x,I p.y,I p.z,I it.aG]=some [I (plU it.aG p),I (plW it.aG p),I (plH it.aG p)])
  (hS:Df it.aG->∀{u w h:Int},MS [I u,I w,I h,I it.aG]=some (ptR (spP it.aG u w h))):
  Ua MS G L MK M (Am (Oj MS G L MK M)) (Af it)=some [.vC kPt ((Bv it).map ptR),B true]:=by
 obtain⟨v,hv,X⟩:=hV;rw[VN];have Y:=X.2 h;subst Y;obtain⟨-,h1,h2,ha⟩:=id h;by_cases D:it.aP=3
 ·obtain⟨hp,hd,hc,-⟩:=ha D;rw[ab D]at U;obtain⟨c1,c2,c3⟩:=FN (pl:=it.aG) (Er hc);have O:=(Qu7 it).2;have hl:=Qsr (MS:=MS) (MP:=G) (MF:=L) (MK:=MK) (MV:=M) (it:=it) (l:=CJ it) (cu:=plU it.aG (Aq it.ce)) (cw:=plW it.aG (Aq it.ce)) O c1 c2 (Q4y h D) (hS hp)
   (f:=λi=>ptR (CQ it ((CJ it).getD i JL))) (λ_=>rfl) (CJ it).length 0 (by omega)
  have T:(List.range (CJ it).length).map (λi=>ptR (CQ it ((CJ it).getD i JL)))=((CJ it).map (CQ it)).map ptR:=by
   rw[List.map_map]
   conv=>rhs;rw[<-Zfp (CJ it) JL]
   rw[List.map_map];rfl
  rw[T]at hl;have a0:Em (λi=>ptR (CQ it ((CJ it).getD i JL))) [I 0,I 0,I 0] (CJ it).length 0=List.replicate (CJ it).length [I 0,I 0,I 0]:=by unfold Em;simp
  rw[a0]at hl;have hf:=V (AR hc (by decide));have a1:= @hP hp (Aq it.ce);have:=Zvz (MS:=MS) (N:=Am (Oj MS G L MK M)) hv U hf a1 O hl;rw[VN]at this;unfold Bv;rw[ab D];exact this
 ·rw[aa D]at U;have f1:=V (AR h1 (by decide));have f2:=V (AR h2 (by decide));unfold Bv;rw[aa D];simp only[go_sem,hv,U,f1,f2];simp
theorem Z7b {it:Itm} (h:CE it):PL (Af it)=some [.vC kPt ((Bv it).map ptR),B true]:=
 Z5h (Ql6 it) h (Zcx h) Q06 (λD=>Qtt D) (λD=>Ztl D)
theorem Z01 {c a:Pt} (D:bd B24 c) (G:bd B24 a) (L:a≠c) (O:0<=k/\k<=33554432)
  (N:∀{x:Int},x.natAbs<=33554432*4->x*x<=sqD a c->M [I x,I k,I (sqD a c),I 2]=some [I (AN x k (sqD a c)),B true]/\(AN x k (sqD a c)).natAbs<=268435456):
  Qn5 M [I c.x,I c.y,I c.z,I a.x,I a.y,I a.z,I k]=some (ptR (Bj c a k)++[B true]):=by
 obtain⟨X,Y,q3⟩:=Uy a c;have T:=F7 G.1 D.1;have U:=F7 G.2.1 D.2.1;have V:=F7 G.2.2 D.2.2;obtain⟨n1,b1⟩:=N (x:=a.x-c.x) (cb T (by decide)) X;obtain⟨n2,b2⟩:=N (x:=a.y-c.y) (cb U (by decide)) Y;obtain⟨n3,b3⟩:=N (x:=a.z-c.z) (cb V (by decide)) q3;have h6: ¬k<0:=Int.not_lt.2 O.1;have h7: ¬k>33554432:=Int.not_lt.2 O.2;rw[Ze2,Q62 (AR G (by decide)) (AR D (by decide)),II T (by decide),II U (by decide),II V (by decide)];simp only[go_sem,n1,n2,n3];rw[aa (λh=>L (DX.2 ⟨h.1,h.2.1,h.2.2.1⟩)),aa h6,aa h7];rw[II (TI D.1 b1) (by decide),II (TI D.2.1 b2) (by decide),II (TI D.2.2 b3) (by decide)];rfl
theorem Yl {c a:Pt} {d:Int} (G:bd B24 c) (L:bd B24 a) (D:a≠c) (N:0<=d/\d<=33554432):
  GS [I c.x,I c.y,I c.z,I a.x,I a.y,I a.z,I d]=some (ptR (Bj c a d)++[B true]):=by
 have T:sqD a c≠0:=λh=>D (To.1 h);have U:=NB a c;have V:=PW (AR L (by decide)) (AR G (by decide)) (show 67108864<=67108864 by omega);refine Z01 G L D N fun{x} M O=> ?_;obtain⟨g2,-⟩:=Ru M (r:=d) (by omega) (n:=sqD a c) (by omega) O;exact⟨XO (cb M (by decide)) (by omega) (by omega),g2⟩
theorem Qsj {p c q:Pt} (D:bd B24 p) (G:bd B24 c) (L:bd B24 q):G0 [I p.x,I p.y,I p.z,I c.x,I c.y,I c.z,I q.x,I q.y,I q.z]=some [I (Hv p c q)]:=by
 have hb:=Zp0 D G L;have g1:=B0 hb.1;have g2:=B0 hb.2.1;have M:=B0 hb.2.2;unfold G0;unfold bd B24 at D G L;have w:∀u v c:Int,u.natAbs<=16777216->v.natAbs<=16777216->c.natAbs<=16777216->V (V (u+v)-V (2*c))=u-c+(v-c):=by
  intro u v c N O T;rw[Ad (x:=u+v),Ad (x:=2*c),Ad];omega
 rw[Zxp,w _ _ _ D.1 L.1 G.1,w _ _ _ D.2.1 L.2.1 G.2.1,w _ _ _ D.2.2 L.2.2 G.2.2];have e1:p.x-c.x+(q.x-c.x)=(Gi p c q).x:=rfl;have e2:p.y-c.y+(q.y-c.y)=(Gi p c q).y:=rfl;have e3:p.z-c.z+(q.z-c.z)=(Gi p c q).z:=rfl;rw[e1,e2,e3];unfold Hv Gg;generalize(Gi p c q).x*(Gi p c q).x=u at*;generalize(Gi p c q).y*(Gi p c q).y=v at*;generalize(Gi p c q).z*(Gi p c q).z=w at*;rw[Ad (x:=u),Ad (x:=0+u),Ad (x:=v),Ad (x:=0+u+v),Ad (x:=w),Ad,Int.zero_add]
open Classical in
theorem Zr0 {a c b:Pt} {D d e bit:Int} (V:bd B24 a) (X:bd B24 c) (hb:bd B24 b) (G:a≠c) (L:b≠c) (T:0<=D/\D<=16000) (hd:0<=d/\d+e<=33554432) (he:0<e) (N:e.fdiv (2^min (Int.toNat 1) IntKind.i64.bits)=bit)
  (l3:0<=Ay a c/\Ay a c<=268435456) (l4:0<=Ay c b/\Ay c b<=268435456)
  (Y:∀{a:Pt} {d:Int},bd B24 a->a≠c->0<=d/\d<=33554432->Z [I c.x,I c.y,I c.z,I a.x,I a.y,I a.z,I d]=some (ptR (Bj c a d)++[B true]))
  (hB:∀{p q:Pt},bd B24 p->bd B24 q->M [I p.x,I p.y,I p.z,I c.x,I c.y,I c.z,I q.x,I q.y,I q.z]=some [I (Hv p c q)]):
  NJ M Z W [I D,I (mn (Ay a c) (Ay c b)-2),I d,I e,I a.x,I a.y,I a.z,I c.x,I c.y,I c.z,I b.x,I b.y,I b.z]=
   some (0,[I D,I (mn (Ay a c) (Ay c b)-2),I (if G9 a c b D (d+e)then d+e else d),I bit,I a.x,I a.y,I a.z,I c.x,I c.y,I c.z,I b.x,I b.y,I b.z]):=by
 obtain⟨m1,m2⟩:=Rp (Ay a c) (Ay c b);have a0:0<=16*D*D/\16*D*D<=4096000000:=by
  have:=db (show 16*D<=256000 by omega) T.2 T.1 (by omega);exact⟨bv (by omega) T.1,by omega⟩
 rw[Q3t,N,Ad (x:=d+e),Ea he,Ad (x:=16*D),Ad (x:=16*D*D)];by_cases h:d+e>mn (Ay a c) (Ay c b)-2
 ·rw[Ea h,aa (λU:G9 a c b D (d+e)=>by have:=U.1;omega)]
 ·rw[Bc h];have k1:bd B24 (Bj c a (d+e)):=IC X V G (by omega);have k2:bd B24 (Bj c b (d+e)):=IC X hb L (by rw[NS b c];omega);have t1:=Y (d:=d+e) V G (by omega);have t2:=Y (d:=d+e) hb L (by omega);simp only[az,bf,ptR]at t1 t2;simp only[t1,t2,go_sem,hB k1 k2];by_cases O:Hv (Bj c a (d+e)) c (Bj c b (d+e))<=16*D*D
  ·rw[ab O,ab (show G9 a c b D (d+e)from⟨by omega,O⟩)]
  ·rw[aa O,aa (λU:G9 a c b D (d+e)=>O U.2)]
open Classical in
theorem Qqy {M N ML:Fn} {a c b:Pt} {D m:Int}
  (G : ∀ {d e bit : Int}, 0 <= d /\ d + e <= 33554432 -> 0 < e -> e.fdiv (2 ^ min (Int.toNat 1) IntKind.i64.bits) = bit -> NJ M N ML [I D, I m, I d, I e, I a.x, I a.y, I a.z, I c.x, I c.y, I c.z, I b.x, I b.y, I b.z] =
   some (0,[I D,I m,I (if G9 a c b D (d+e)then d+e else d),I bit,I a.x,I a.y,I a.z,I c.x,I c.y,I c.z,I b.x,I b.y,I b.z])):
  ∀(k:Nat) (d:Int),0<=d/\d+((2^(k+1):Nat):Int)<=33554432->
  Am (NJ M N ML) [I D,I m,I d,I ((2^k:Nat):Int),I a.x,I a.y,I a.z,I c.x,I c.y,I c.z,I b.x,I b.y,I b.z]=some (1,[I (FL (G9 a c b D) k d)])
 |0,d,O=>by
  simp only[fg,Nat.pow_one]at O;have L:∀d:Int,Am (NJ M N ML) [I D,I m,I d,I 0,I a.x,I a.y,I a.z,I c.x,I c.y,I c.z,I b.x,I b.y,I b.z]=some (1,[I d]):=by
   intro d;refine Bn ?_ (by simp);rw[Q3t];rw[Bc (by omega)]
  have T:=G (d:=d) (e:=1) (by omega) (by omega) Z5t;have e:((2^0:Nat):Int)=1:=rfl;rw[e,BB T,L];rfl
 |k+1,d,O=>by
  have U:0<2^(k+1):=f9 _;have e3:2^(k+1+1)=2^(k+1)+2^(k+1):=by rw[ji 2 (k+1)];omega
  rw[e3]at O;have T:=G (d:=d) (e:=((2^(k+1):Nat):Int)) (by omega) (by omega) (Zem k);rw[BB T];unfold FL;refine Qqy G k _ ?_;split<;>omega
theorem Zxw {a c b:Pt}
  (T:M [I a.x,I a.y,I a.z,I c.x,I c.y,I c.z]=some [I (Ay a c)]) (U:M [I c.x,I c.y,I c.z,I b.x,I b.y,I b.z]=some [I (Ay c b)])
  (X:0<=Ay a c/\Ay a c<=268435456) (Y:0<=Ay c b/\Ay c b<=268435456)
  (V:a≠c->b≠c->N [I k,I (mn (Ay a c) (Ay c b)-2),I 0,I 16777216,I a.x,I a.y,I a.z,I c.x,I c.y,I c.z,I b.x,I b.y,I b.z]=some (1,[I (FL (G9 a c b k) 24 0)])):
  Qky Z W M N [I a.x,I a.y,I a.z,I c.x,I c.y,I c.z,I b.x,I b.y,I b.z,I k]=some [I (C9 a c b k)]:=by
 rw[Zk2];have m3:0<=mn (Ay a c) (Ay c b)/\mn (Ay a c) (Ay c b)<=268435456:=by unfold mn;split<;>omega
 unfold C9;by_cases L:a=c
 ·rw[ab (.inl L)];have D:=DX.1 L;simp only[go_sem];rw[ab ⟨D.1,D.2.1,D.2.2,trivial⟩]
 ·by_cases D:b=c
  ·rw[ab (.inr D)];have G:=DX.1 D;simp only[go_sem];rw[aa (λh=>L (DX.2 ⟨h.1,h.2.1,h.2.2.1⟩)),ab ⟨G.1,G.2.1,G.2.2,trivial⟩]
  ·have O:=V L D;simp only[go_sem,T,U];rw[Ad];simp only[O,go_sem];rw[aa (λh=>L (DX.2 ⟨h.1,h.2.1,h.2.2.1⟩)),aa (λh=>D (DX.2 ⟨h.1,h.2.1,h.2.2.1⟩)),aa (show¬(a=c\/b=c)from λh=>h.elim L D)];by_cases G:FL (G9 a c b k) 24 0<16
   ·rw[ab G,ab G]
   ·rw[aa G,aa G]
theorem Z3n {a c b:Pt} (N:bd B24 a) (L:bd B24 c) (hb:bd B24 b) (O:0<=k/\k<=16000):
  LO [I a.x,I a.y,I a.z,I c.x,I c.y,I c.z,I b.x,I b.y,I b.z,I k]=some [I (C9 a c b k)]:=by
 have A:=AR N (show B24<=67108864 by decide);have C:=AR L (show B24<=67108864 by decide);have D:=AR hb (show B24<=67108864 by decide);exact Zxw (Qb7 A C) (Qb7 C D) (HF A C) (HF C D)
  λT U=>Qqy (λM he G=>Zr0 N L hb T U O M he G (HF A C) (HF C D) (λhb V M=>Yl L hb V M) λX Y=>Qsj X L Y) 24 0 (by decide)
theorem Zox {p c q:Pt} (X:M [I p.x,I p.y,I p.z,I c.x,I c.y,I c.z,I q.x,I q.y,I q.z]=some [I (Hv p c q)]):
  ∀(k:Nat) (n:Int),J_ n->64<=n*2^k->Am (QD M) [I n,I p.x,I p.y,I p.z,I c.x,I c.y,I c.z,I q.x,I q.y,I q.z]=some (1,[I (Nt (Hv p c q) k n)]):=by
 have L:∀n:Int,J_ n->QD M [I n,I p.x,I p.y,I p.z,I c.x,I c.y,I c.z,I q.x,I q.y,I q.z]=if n<64/\Hv p c q>16*n*n*n*n*4*4 then some (0,[I (n*2),I p.x,I p.y,I p.z,I c.x,I c.y,I c.z,I q.x,I q.y,I q.z])else some (1,[I n]):=by
  intro n G;rw[Z30];simp only[go_sem,X];have T:V (V (V (V (V (V (16*n)*n)*n)*n)*4)*4)=16*n*n*n*n*4*4/\V (n*2)=n*2:=by
   rcases G with rfl|rfl|rfl|rfl|rfl|rfl<;>decide
  rw[T.1,T.2];by_cases N:n<64
  ·rw[ab N];by_cases O:Hv p c q>16*n*n*n*n*4*4
   ·rw[ab O,ab ⟨N,O⟩]
   ·rw[aa O,aa (λh=>O h.2)]
  ·rw[aa N,aa (λh=>N h.1)]
 intro k;induction k with
 |zero=>
  intro n G D;have:n=64:=by rcases G with rfl|rfl|rfl|rfl|rfl|rfl<;>simp at D⊢
  subst this;refine Bn ?_ (by simp);rw[L _ G,aa];rfl
 |succ k Y=>
  intro n G D;unfold Nt;by_cases h:n<64/\Hv p c q>16*n*n*n*n*4*4
  ·rw[ab h];have U:=L n G;rw[ab h]at U;rw[BB U];refine Y (n*2) ?_ ?_
   ·rcases G with rfl|rfl|rfl|rfl|rfl|rfl<;>simp[J_]at h⊢
   ·rw[Int.pow_succ]at D;rw[Int.mul_assoc,iv 2];exact D
  ·rw[aa h];refine Bn ?_ (by simp);rw[L _ G,aa h]
theorem Z59 {p c q:Pt} (D:bd B24 p) (G:bd B24 c) (L:bd B24 q):Kt [I p.x,I p.y,I p.z,I c.x,I c.y,I c.z,I q.x,I q.y,I q.z]=some [I (Kc p c q)]:=by
 have N:=Zox (Qsj D G L) 5 2 (.inl rfl) (by decide);show ZB _ (Am (QD _)) _=_;generalize G0=M at*;rw[Zjm];simp only[go_sem,N];rfl
theorem Q9o {α:Type} (d x:α):∀(l:List α) (i:Nat),i<l.length->nth d (l.set i x) i=x
 |a::l,0,_=>rfl
 |a::l,i+1,h=>by simp only[List.set_cons_succ,nth];exact Q9o d x l i (by simpa using h)
theorem Zr9 {n i p c q:Int} (D:2<=n/\n<=64) (G:0<=i/\i<=n) (L:p.natAbs<=B24) (M:c.natAbs<=B24) (N:q.natAbs<=B24):
  CO [I (V (V (V (V (n-i)*V (n-i))*V (p-c))+V (V (i*i)*V (q-c)))),I 1,I (V (n*n)),I 2]=some [I (AP ((n-i)*(n-i)*(p-c)+i*i*(q-c)) (n*n)),B true]:=by
 have O:0<n*n/\n*n<=4096:=⟨gp (by omega) (by omega),by have:=db D.2 D.2 (by omega) (by omega);omega⟩;have T:0<=(n-i)*(n-i)/\(n-i)*(n-i)<=4096:=⟨B3 _,by have:=db (show n-i<=64 by omega) (show n-i<=64 by omega) (by omega) (by omega);omega⟩;have U:0<=i*i/\i*i<=4096:=⟨B3 _,by have:=db (show i<=64 by omega) (show i<=64 by omega) (by omega) (by omega);omega⟩;unfold B24 at*;rw[Ad (x:=n-i),Ad (x:=(n-i)*(n-i)),Ad (x:=p-c),Ad (x:=i*i),Ad (x:=q-c),Ad (x:=n*n)];have m1:=HV (x:=(n-i)*(n-i)) (y:=p-c) (A:=4096) (B:=33554432) (by omega) (by omega);have m2:=HV (x:=i*i) (y:=q-c) (A:=4096) (B:=33554432) (by omega) (by omega);generalize(n-i)*(n-i)*(p-c)=u at*;generalize i*i*(q-c)=v at*;rw[Ad (x:=u),Ad (x:=v),Ad];have h:=Tk (a:=u+v) (b:=1) (c:=n*n) (by unfold i64;omega) (by unfold i64;omega) (by omega) (by rw[show(1:Int).natAbs=1 from rfl,Nat.mul_one];omega);rw[Int.mul_one]at h;exact h
theorem Q4a {MR MP MT MC:Fn} {p c q:Pt} {N:Nat} (X:2<=N/\N<=64) (G:bd B24 p) (L:bd B24 c) (M:bd B24 q)
  (T:∀{i p c q:Int},(0<=i/\i<=N)->p.natAbs<=B24->c.natAbs<=B24->q.natAbs<=B24->MR [I (V (V (V (V ((N:Int)-i)*V ((N:Int)-i))*V (p-c))+V (V (i*i)*V (q-c)))),I 1,I (V ((N:Int)*(N:Int))),I 2]=some [I (AP (((N:Int)-i)*((N:Int)-i)*(p-c)+i*i*(q-c)) ((N:Int)*(N:Int))),B true])
  {f:Nat->List AC} (hf:∀i:Nat,f i=ptR (Om N i p c q)):
  ∀(k i:Nat),i+k=N+1->Am (OQ MR MP MT MC) [.vC kPt (Em f [I 0,I 0,I 0] (N+1) i),I N,I (N+1:Nat),I i,I c.x,I c.y,I c.z,I p.x,I p.y,I p.z,I q.x,I q.y,I q.z]=
   some (1,[.vC kPt ((List.range (N+1)).map f)])
 |0,i,Y=>by
  obtain rfl:i=N+1:=by omega
  refine Bn ?_ (by simp);rw[Qpn,Qsz,Bc (by omega)]
 |k+1,i,Y=>by
  have b1:=Lk (n:=N) (i:=i) (A:=B24) (by omega) (by omega) G.1 L.1 M.1;have b2:=Lk (n:=N) (i:=i) (A:=B24) (by omega) (by omega) G.2.1 L.2.1 M.2.1;have b3:=Lk (n:=N) (i:=i) (A:=B24) (by omega) (by omega) G.2.2 L.2.2 M.2.2;have r1:=T (i:=i) (by omega) G.1 L.1 M.1;have r2:=T (i:=i) (by omega) G.2.1 L.2.1 M.2.1;have r3:=T (i:=i) (by omega) G.2.2 L.2.2 M.2.2;have hs:OQ MR MP MT MC [.vC kPt (Em f [I 0,I 0,I 0] (N+1) i),I N,I (N+1:Nat),I i,I c.x,I c.y,I c.z,I p.x,I p.y,I p.z,I q.x,I q.y,I q.z]=
    some (0,[.vC kPt (Em f [I 0,I 0,I 0] (N+1) (i+1)),I N,I (N+1:Nat),I (i+1:Nat),I c.x,I c.y,I c.z,I p.x,I p.y,I p.z,I q.x,I q.y,I q.z]):=by
   have hlen:=Q6q f [I 0,I 0,I 0] (show i<=N+1 by omega);have D:=Q1g f [I 0,I 0,I 0] (show i<N+1 by omega);rw[hf i]at D;generalize Em f [I 0,I 0,I 0] (N+1) i=l at*;have O:∀x:List AC,nth [] (l.set i x) i=x:=λx=>Q9o _ _ _ _ (by omega);rw[Qpn];have U:(0:Int)<=(i:Int)/\(i:Int)<((N+1:Nat):Int):=by omega
   simp only[go_sem,r1,r2,r3,af,hlen,ab U,List.set_set,O,List.length_set];rw[ab];unfold Im B24 at b1 b2 b3;rw[Ad (x:=c.x+_),Ad (x:=c.y+_),Ad (x:=c.z+_),Ad (x:=(i:Int)+1)];rw[<-D];rfl
  rw[BB hs];exact Q4a X G L M T hf k (i+1) (by omega)
theorem Zrf {a c b:Pt} (M:bd B24 a) (D:bd B24 c) (hb:bd B24 b) (ht:0<=k/\k<=16000):
  Pp [I a.x,I a.y,I a.z,I c.x,I c.y,I c.z,I b.x,I b.y,I b.z,I k]=some [.vC kPt ((EK a c b k).map ptR)]:=by
 show Qjd _ _ _ _ (Am (OQ _ _ _ _)) _=_;have e1:=Z3n M D hb ht;have hR:= @Zr9;generalize LO=X at*;unfold EK;by_cases h:C9 a c b k=0
 ·rw[ab h];rw[Q1j];simp only[go_sem,e1];rw[ab h];rfl
 ·rw[aa h];obtain⟨Y,h2,h3,h4,h5,-⟩:=UM h;obtain⟨m1,m2⟩:=Rp (Ay a c) (Ay c b);have h0: ¬C9 a c b k=0:=h;generalize C9 a c b k=d at*;have k1:bd B24 (Bj c a d):=IC D M Y (by omega);have k2:bd B24 (Bj c b d):=IC D hb h2 (by rw[NS b c];omega);have t1:=Yl D M Y (d:=d) (by omega);have t2:=Yl D hb h2 (d:=d) (by omega);have p1:=Z59 k1 D k2;have p2:=SO (Bj c a d) c (Bj c b d);generalize Kc (Bj c a d) c (Bj c b d)=n at*;obtain⟨N,rfl⟩:∃N:Nat,n=N:=⟨n.toNat,by rcases p2 with rfl|rfl|rfl|rfl|rfl|rfl<;>rfl⟩;have hN:2<=N/\N<=64:=by unfold J_ at p2;omega
  have O:=Q4a (MR:=CO) (MP:=Kt) (MT:=GS) (MC:=X) hN k1 D k2 (λhi hp D hq=>hR (by omega) hi hp D hq) (f:=λi=>ptR (Om N i (Bj c a d) c (Bj c b d))) (λ_=>rfl) (N+1) 0 (by omega);have T:∀f:Nat->List AC,Em f [I 0,I 0,I 0] (N+1) 0=List.replicate (N+1) [I 0,I 0,I 0]:=λf=>by unfold Em;rw[List.range_zero,dx,bf,Nat.sub_zero]
  rw[T]at O;generalize CO=MR at*;generalize Kt=MP at*;generalize GS=MT at*;generalize Bj c a d=p at*;generalize Bj c b d=q at*;rw[Q1j];simp only[az,bf,ptR]at t1 t2;have G:(List.range (N+1)).map (fun(i:Nat)=>ptR (Om N i p c q))=((List.range ((N:Int).toNat+1)).map fun(i:Nat)=>Om N i p c q).map ptR:=by rw[List.map_map,af];rfl
  rw[G]at O;generalize((List.range ((N:Int).toNat+1)).map fun(i:Nat)=>Om N i p c q).map ptR=C at*;generalize Am (OQ MR MP MT X)=L at*;have U:L [.vC kPt (List.replicate (N+1) [I 0,I 0,I 0]),I N,I (N+1:Nat),I 0,I c.x,I c.y,I c.z,I p.x,I p.y,I p.z,I q.x,I q.y,I q.z]=some (1,[.vC kPt C]):=O;have w1:V ((N:Int)+1)=((N+1:Nat):Int):=by rw[Ad];rfl
  simp only[e1,t1,t2,p1,w1,am,HU,Mk,LP,HH,gA,jA,wA,bA,af,List.length_replicate,Qmq];rw[B4 (by simpa using h0),Ea trivial,Cj (by simp;omega),U];rfl
end Go.Bm
namespace Go.Bm
open Classical
theorem Q3 (k:Int):DK [I k]=some [B (decide (1<=k/\k<=6))]:=by
 unfold DK;rw[Z8h];by_cases h:1<=k
 ·rw[Ea (show k>=1 from h)];by_cases D:k<=6
  ·rw[ai D,ai ⟨h,D⟩]
  ·rw[al D,al λG=>D G.2]
 ·rw[Bc (show¬k>=1 from h),al λG=>h G.1]
theorem Uh (it:Itm):EO (Af it)=some [B (decide (smI it))]:=by
 unfold EO;rw[Z7k];by_cases h:it.aP=2
 ·rw[Cj (by simp[h])];congr 2;by_cases G:it.fr=it.to
  ·have D:=DX.1 G;rw[al (λI:smI it=>I.2 G)];simp[D.1,D.2.1,D.2.2]
  ·rw[ai (show smI it from⟨h,G⟩)];have D: ¬(it.fr.x=it.to.x/\it.fr.y=it.to.y/\it.fr.z=it.to.z):=λD=>G (DX.2 D);simp only[B,AC.bool.injEq,Bool.not_eq_true',Bool.and_true];by_cases a:it.fr.x=it.to.x<;>by_cases b:it.fr.y=it.to.y<;>by_cases c:it.fr.z=it.to.z<;>simp[a,b,c]at D⊢
 ·rw[B4 (by simp[h]),al (λI:smI it=>h I.1)]
theorem S3 {it:Itm} (D:bd 1048576 it.fr) (G:bd 1048576 it.to):F9 (Af it)=some (ptR (A7 it)):=by
 obtain⟨a1,a2,a3⟩:=D;obtain⟨b1,b2,b3⟩:=G;unfold F9;rw[Zlz,Ad (x:=it.fr.x+it.to.x),Ad (x:=(it.fr.x+it.to.x)*8),Ad (x:=it.fr.y+it.to.y),Ad (x:=(it.fr.y+it.to.y)*8),Ad (x:=it.fr.z+it.to.z),Ad (x:=(it.fr.z+it.to.z)*8)];rfl
theorem Z8c (h:bd 100000000 d):Ov [I d.x,I d.y,I d.z]=some (ptR (Aq d)):=by
 unfold Ov;rw[Zk9];obtain⟨D,G,L⟩:=h;rw[Ad,Ad,Ad];rfl
theorem Qti (it:Itm):HG (Af it)=some [B (decide (syI it))]:=by
 unfold HG;rw[Zrb];by_cases D:it.aP=5
 ·rw[Cj (by simp[D]),ai (show syI it from .inl D)]
 ·rw[B4 (by simp[D])];by_cases G:it.aP=6
  ·rw[ai (show syI it from .inr G)];simp[G]
  ·rw[al (show¬syI it from λh=>h.elim D G)];simp[G]
theorem Zq9 {it:Itm} (hM:Z [I it.aP]=some [B (decide (1<=it.aP/\it.aP<=6))]) (hV:∃v,M (Af it)=some [B v]/\(v=true↔CE it)):
  Qgy M Z (Af it)=some [I (if B9 it then 1 else 0)]:=by
 obtain⟨v,hv,N⟩:=hV;have D:∀{x:Int},(B9 it->x=1)->(¬B9 it->x=0)->some [I x]=some [I (if B9 it then 1 else 0)]:=by
  intro x h1 h2;by_cases c:B9 it
  ·rw[ab c,h1 c]
  ·rw[aa c,h2 c]
 rw[Zod];simp only[go_sem,hM,hv];unfold B9 AA at D⊢;have one:∀{P:Prop},P->(P->(1:Int)=1)/\(¬P->(1:Int)=0):=λh=>⟨λ_=>rfl,λg=>absurd h g⟩;have zero:∀{P:Prop},¬P->(P->(0:Int)=1)/\(¬P->(0:Int)=0):=λh=>⟨λg=>absurd g h,λ_=>rfl⟩;by_cases O:it.aP<1
 ·rw[ab O];exact D (λ_=>rfl) λg=>absurd (.inl O) g
 rw[aa O];by_cases T:it.aP>14
 ·rw[ab T];exact D (λ_=>rfl) λg=>absurd (.inr (.inl T)) g
 rw[aa T];by_cases G:1<=it.aP/\it.aP<=6
 ·simp only[ab G];have U:it.aP≠8:=by omega
  simp only[aa U];by_cases L:CE it
  ·rw[aa (by simp[N.2 L])];by_cases V:it.bH<0
   ·rw[ab V];exact D (λ_=>rfl) λg=>absurd (.inr (.inr (.inl ⟨G, .inr (.inr (.inl V))⟩))) g
   rw[aa V];by_cases X:it.bH>1000
   ·rw[ab X];exact D (λ_=>rfl) λg=>absurd (.inr (.inr (.inl ⟨G, .inr (.inr (.inr X))⟩))) g
   rw[aa X];by_cases Y:it.aP=1
   ·rw[aa (show¬it.aP≠1 by omega)];refine D (λg=> ?_) λ_=>rfl;rcases g with g|g|⟨-,g|g|g|g⟩|g
    ·omega
    ·omega
    ·exact absurd L g
    ·omega
    ·omega
    ·omega
    ·omega
   ·rw[ab Y];by_cases c8:it.aZ<1
    ·rw[ab c8];exact D (λ_=>rfl) λg=>absurd (.inr (.inr (.inl ⟨G, .inr (.inl ⟨Y, .inl c8⟩)⟩))) g
    rw[aa c8];by_cases c9:it.aZ>60000000
    ·rw[ab c9];exact D (λ_=>rfl) λg=>absurd (.inr (.inr (.inl ⟨G, .inr (.inl ⟨Y, .inr c9⟩)⟩))) g
    rw[aa c9];refine D (λg=> ?_) λ_=>rfl;rcases g with g|g|⟨-,g|g|g|g⟩|g
    ·omega
    ·omega
    ·exact absurd L g
    ·omega
    ·omega
    ·omega
    ·omega
  ·rw[ab (λh=>L (N.1 h))];exact D (λ_=>rfl) λg=>absurd (.inr (.inr (.inl ⟨G, .inl L⟩))) g
 ·simp only[aa G];by_cases L:it.aP=8
  ·rw[ab L];by_cases d1:it.n<3
   ·rw[ab d1];exact D (λ_=>rfl) λg=>absurd (.inr (.inr (.inr ⟨G,L, .inl d1⟩))) g
   rw[aa d1];by_cases d2:it.n>5
   ·rw[ab d2];exact D (λ_=>rfl) λg=>absurd (.inr (.inr (.inr ⟨G,L, .inr (.inl d2)⟩))) g
   rw[aa d2];by_cases d3:it.aS<0
   ·rw[ab d3];exact D (λ_=>rfl) λg=>absurd (.inr (.inr (.inr ⟨G,L, .inr (.inr (.inl d3))⟩))) g
   rw[aa d3];by_cases d4:it.aS>30000
   ·rw[ab d4];exact D (λ_=>rfl) λg=>absurd (.inr (.inr (.inr ⟨G,L, .inr (.inr (.inr d4))⟩))) g
   rw[aa d4];refine D (λg=> ?_) λ_=>rfl;rcases g with g|g|⟨g,-⟩|⟨-,-,g⟩
   ·omega
   ·omega
   ·exact absurd g G
   ·omega
  ·rw[aa L];refine D (λg=> ?_) λ_=>rfl;rcases g with g|g|⟨g,-⟩|⟨-,g,-⟩
   ·omega
   ·omega
   ·exact absurd g G
   ·omega
theorem Z7a (it:Itm):Ja (Af it)=some [I (if B9 it then 1 else 0)]:=Zq9 (Q3 _) (Ql6 it)
def C7:List Itm->Nat->Nat
 |[],k=>k
 |it::l,k=>if it.aP=10 then C7 l (k+1)else k
def Dd (aA:List Itm) (i:Nat):Nat:=C7 (aA.drop (i+1)) (i+1)
theorem Qln:∀(l:List Itm) (k:Nat),k<=C7 l k/\C7 l k<=k+l.length
 |[],k=>by simp[C7]
 |it::l,k=>by
  unfold C7;split
  ·have:=Qln l (k+1);simp;omega
  ·simp
theorem Qyx:∀(l:List Itm) (k:Nat),GD l k=if C7 l k-k<l.length/\smI (l.getD (C7 l k-k) it0)then(C7 l k:Int)else-1
 |[],k=>by simp[GD]
 |it::l,k=>by
  have L:=Qln l (k+1);by_cases D:it.aP=10
  ·have e1:GD (it::l) k=GD l (k+1):=by rw[GD,ab D]
   have e2:C7 (it::l) k=C7 l (k+1):=by rw[C7,ab D]
   rw[e1,e2,Qyx l (k+1)];have e3:C7 l (k+1)-k=(C7 l (k+1)-(k+1))+1:=by omega
   rw[e3,List.getD_cons_succ];by_cases c:C7 l (k+1)-(k+1)<l.length
   ·have I:C7 l (k+1)-(k+1)+1<(it::l).length:=by simp;omega
    by_cases G:smI (l.getD (C7 l (k+1)-(k+1)) it0)
    ·rw[ab ⟨c,G⟩,ab ⟨I,G⟩]
    ·rw[aa (λg=>G g.2),aa (λg=>G g.2)]
   ·rw[aa (λg=>c g.1),aa (λg=>c (by have:=g.1;simp at this;omega))]
  ·have e1:GD (it::l) k=if smI it then(k:Int)else-1:=by rw[GD,aa D]
   have e2:C7 (it::l) k=k:=by rw[C7,aa D]
   rw[e1,e2,i8,List.getD_cons_zero];by_cases c:smI it
   ·rw[ab c,ab ⟨by simp,c⟩]
   ·rw[aa c,aa (λg=>c g.2)]
theorem Qz3 {aA:List Itm} (N:aA.length<=1000000):∀(k i:Nat),i+k=aA.length->
  Am PV [.vC Ai (aA.map Af),I i]=some (1,[I (C7 (aA.drop i) i)])
 |0,i,O=>by
  refine Bn ?_ (by simp);rw[Q5m];simp only[go_sem,ac];rw[aa,eu (by omega)];rfl
 |k+1,i,O=>by
  have G:i<aA.length:=by omega
  have T:=Fh G;rw[Qlg G];have D:PV [.vC Ai (aA.map Af),I i]=if(vE aA i).aP=10 then some (0,[.vC Ai (aA.map Af),I (i+1:Nat)])else some (1,[I i]):=by
   rw[Q5m];have M:(0:Int)<=(i:Int)/\(i:Int)<(aA.length:Int):=by omega
   simp only[go_sem,ac,af,T,ab M];rw[ab,Ad];rfl
  unfold C7;by_cases L:(vE aA i).aP=10
  ·rw[ab L]at D⊢;rw[BB D];exact Qz3 N k (i+1) (by omega)
  ·rw[aa L]at D⊢;exact Bn D (by simp)
theorem Qbf {aA:List Itm} (D:aA.length<=1000000) {i:Nat} (G:i<aA.length):Fi [.vC Ai (aA.map Af),I i]=some [I (Dd aA i)]:=by
 show Qdn (Am PV) _=_;have h:=Qz3 D (aA.length-(i+1)) (i+1) (by omega);rw[Zos,Ad,show(i:Int)+1=((i+1:Nat):Int) by omega,h];rfl
theorem Q0y {aA:List Itm}:BE aA i=if smI (vE aA i)/\(vE aA i).bH≠0/\Dd aA i<aA.length/\smI (vE aA (Dd aA i))then(Dd aA i:Int)else-1:=by
 unfold BE;by_cases h:smI (vE aA i)/\(vE aA i).bH≠0
 ·rw[ab h,Qyx];have D:=Qln (aA.drop (i+1)) (i+1);rw[co]at D;have e:(aA.drop (i+1)).getD (C7 (aA.drop (i+1)) (i+1)-(i+1)) it0=vE aA (Dd aA i):=by
   unfold vE;rw[fe,fh,fe];have:i+1+(C7 (aA.drop (i+1)) (i+1)-(i+1))=Dd aA i:=by unfold Dd;omega
   rw[this]
  rw[e,co];have e2:C7 (aA.drop (i+1)) (i+1)=Dd aA i:=rfl;rw[e2]at D⊢;by_cases c:Dd aA i<aA.length/\smI (vE aA (Dd aA i))
  ·rw[ab ⟨by omega,c.2⟩,ab ⟨h.1,h.2,c⟩]
  ·rw[aa (λg=>c ⟨by have:=g.1;omega,g.2⟩),aa (λg=>c g.2.2)]
 ·rw[aa h,aa (λg=>h ⟨g.1,g.2.1⟩)]
theorem Zua {aA:List Itm} (X:∀it,M (Af it)=some [B (decide (smI it))]) {i:Nat} (hi:i<aA.length) (hN:Z [.vC Ai (aA.map Af),I i]=some [I (Dd aA i)]):
  Xh M Z [.vC Ai (aA.map Af),I i]=some [B (decide (0<=BE aA i))]:=by
 have hr:=Fh hi;have Y:=X (vE aA i);rw[Zy2,Q0y];simp only[Af]at Y;have T:(0:Int)<=(i:Int)/\(i:Int)<(aA.length:Int):=by omega
 simp only[go_sem,ac,af,hr,Y,hN,ab T];by_cases L:smI (vE aA i)
 case neg=>rw[aa L,aa (λg=>L g.1)];simp
 rw[ab L];by_cases N:(vE aA i).bH=0
 ·rw[aa (by simp[N]),aa (λg=>g.2.1 N)];simp
 rw[ab N];by_cases U:Dd aA i<aA.length
 ·have V:=Fh U;have D:=X (vE aA (Dd aA i));simp only[Af]at D;have G:(0:Int)<=(Dd aA i:Int)/\(Dd aA i:Int)<(aA.length:Int):=by omega
  rw[ab,ab G];simp only[go_sem,V,D];by_cases O:smI (vE aA (Dd aA i))
  ·rw[ai O,ab ⟨L,N,U,O⟩,ai (by omega)]
  ·rw[al O,aa (λg=>O g.2.2.2)];simp
 ·rw[aa,aa (λg=>U g.2.2.1)];simp
theorem Qpl {aA:List Itm} (G:aA.length<=1000000) {i:Nat} (D:i<aA.length):Hc [.vC Ai (aA.map Af),I i]=some [B (decide (0<=BE aA i))]:=
 Zua Uh D (Qbf G D)
theorem Ts {aA:List Itm} (h:0<=BE aA i):BE aA i=Dd aA i:=by
 rw[Q0y]at h⊢;split at h
 ·rename_i c;rw[ab c]
 ·omega
theorem Zlu {a c b:Pt} (G:bd B24 a) (D:bd B24 c) (hb:bd B24 b):(EK a c b k).length%2=1:=by
 unfold EK;by_cases h:C9 a c b k=0
 ·rw[ab h];rfl
 ·rw[aa h];obtain⟨I,L,N,O,T,-⟩:=UM h;obtain⟨m1,m2⟩:=Rp (Ay a c) (Ay c b);generalize C9 a c b k=d at*;have U:bd B24 (Bj c a d):=IC D G I (by omega);have V:bd B24 (Bj c b d):=IC D hb L (by rw[NS b c];omega);have M:=SO (Bj c a d) c (Bj c b d);generalize Kc (Bj c a d) c (Bj c b d)=n at*;rw[ac,List.length_range];rcases M with rfl|rfl|rfl|rfl|rfl|rfl<;>rfl
theorem Zrt {a b:Itm} {l:List Pt} (O:0<=a.bH/\a.bH<=1000) (U:1<=l.length/\l.length<=65) (D:l.length%2=1)
  (G:W (Af a)=some (ptR (A7 a))) (L:W (Af b)=some (ptR (A7 b))) (T:Z [I a.to.x,I a.to.y,I a.to.z]=some (ptR (Aq a.to)))
  (N:M (ptR (A7 a)++ptR (Aq a.to)++ptR (A7 b)++[I (a.bH*16)])=some [.vC kPt (l.map ptR)]):
  Qgq M Z W (Af a++Af b)=some [.vC kPt ((l.take (l.length/2+1)).map ptR), .vC kPt ((l.drop (l.length/2)).map ptR)]:=by
 simp only[Af,az,bf]at G L⊢;rw[Z8e];simp only[ptR,az,bf]at N;simp only[go_sem,G,L,T];rw[Ad];simp only[N,go_sem,ac];have e:V ((V ((l.length:Int)-1)).tdiv 2)=((l.length/2:Nat):Int):=by
  rw[Ad (x:=(l.length:Int)-1),bm (by omega),Ad];omega
 have e2:V (((l.length/2:Nat):Int)+1)=((l.length/2+1:Nat):Int):=by rw[Ad];omega
 simp only[e,e2,af];rw[ab,ab,List.map_take,List.map_drop]
theorem Zj8 {a b:Itm} (D:drawn a) (G:drawn b):
  Q4 (Af a++Af b)=some [.vC kPt (((EK (A7 a) (Aq a.to) (A7 b) (a.bH*16)).take ((EK (A7 a) (Aq a.to) (A7 b) (a.bH*16)).length/2+1)).map ptR), .vC kPt (((EK (A7 a) (Aq a.to) (A7 b) (a.bH*16)).drop ((EK (A7 a) (Aq a.to) (A7 b) (a.bH*16)).length/2)).map ptR)]:=
 have I:=Lm D.1.2.1 D.1.2.2.1;have L:=Er D.1.2.2.1;have M:=Lm G.1.2.1 G.1.2.2.1
 Zrt D.2 (Qbe I L M).2 (Zlu I L M) (S3 D.1.2.1 D.1.2.2.1) (S3 G.1.2.1 G.1.2.2.1) (Z8c (AR D.1.2.2.1 (by decide))) (Zrf I L M (by have:=D.2;omega))
theorem Zwo {MM MN MS MC Y MK:Fn} {aA:List Itm} (hi:i<aA.length) (X:drawn (vE aA i)) (hf:LX aA i a) (N:∀k<aA.length,AA (vE aA k)->drawn (vE aA k))
  (hK:MK (Af (vE aA i))=some [.vC kPt ((Bv (vE aA i)).map ptR),B true]) (hM:Y (Af (vE aA i))=some [B (decide (smI (vE aA i)))])
  (hJ:∀{i k:Nat},i<aA.length->k<aA.length->drawn (vE aA i)->drawn (vE aA k)->MC (Af (vE aA i)++Af (vE aA k))=some [.vC kPt (((DR aA i k).take ((DR aA i k).length/2+1)).map ptR), .vC kPt (((DR aA i k).drop ((DR aA i k).length/2)).map ptR)])
  (hS:MS [.vC Ai (aA.map Af),I i]=some [B (decide (0<=BE aA i))]) (hN:MN [.vC Ai (aA.map Af),I i]=some [I (Dd aA i)]) (hC:MM (Af (vE aA i))=some (ptR (A7 (vE aA i)))):
  Ww MM MN MS MC Y MK [.vC Ai (aA.map Af),I i,I a]=some [.vC kPt ((BY aA i a).map ptR)]:=by
 have r1:=Fh hi;obtain⟨a6,a7⟩:=Qwg (vE aA i);rw[Zko];simp only[Af,az,bf]at hK hM hC hJ;have a3:(0:Int)<=(i:Int)/\(i:Int)<(aA.length:Int):=by omega
 simp only[go_sem,ac,af,r1,hK,hM,hC,hS,hN,bf,ab a3];unfold BY;by_cases hs:smI (vE aA i)
 case neg=>rw[ab (by simp[hs]),aa hs]
 rw[aa (by simp[hs]),ab hs];have a4:(vE aA i).aP≠3:=by have:=hs.1;omega
 have O:(Bv (vE aA i)).length=2:=by unfold Bv;rw[aa a4];rfl
 have w1:V (((Bv (vE aA i)).length:Int)-1)=1:=by rw[O];rfl
 rw[w1,O,ab,ab];unfold Gm;rcases hf with rfl|⟨f,rfl,a0,a1⟩
 ·rw[aa (show¬(-1:Int)>=0 by omega)];unfold GX;rw[aa (show¬(0:Int)<= -1 by omega)];by_cases D:0<=BE aA i
  ·obtain⟨k,hk,G,L⟩:=U8 N D;have T:=Ts D;rw[hk]at T;have U:Dd aA i=k:=by omega
   obtain⟨j1,j2,j3⟩:=Ls (aA:=aA) (i:=i) (k:=k) X L;have hj:=hJ hi G X L;have r2:=Fh G;have M:(0:Int)<=(k:Int)/\(k:Int)<(aA.length:Int):=by omega
   rw[ab D,ab D,hk,U,af,ab M];simp only[go_sem,af,r2,hj];rw[ab (by simp[R8];omega),ab (by simp;omega),ab (by simp;omega)];simp only[R8,bt,bj,dx]
  ·rw[aa D,aa D,ab (by simp[R8];omega),ab (by simp;omega),ab (by simp;omega)];simp only[R8,Q2y,bt,bj,dx]
 ·have a5:=hJ a0 hi a1 X;obtain⟨f1,f2,f3⟩:=Ls (aA:=aA) (i:=f) (k:=i) a1 X;have rf:=Fh a0;have a2:(0:Int)<=(f:Int)/\(f:Int)<(aA.length:Int):=by omega
  rw[ab (show(f:Int)>=0 by omega),ab a2];unfold GX;rw[ab (show(0:Int)<=(f:Int) by omega),af];simp only[rf,go_sem,a5,af];by_cases D:0<=BE aA i
  ·obtain⟨k,hk,G,L⟩:=U8 N D;have T:=Ts D;rw[hk]at T;have U:Dd aA i=k:=by omega
   obtain⟨j1,j2,j3⟩:=Ls (aA:=aA) (i:=i) (k:=k) X L;have hj:=hJ hi G X L;have r2:=Fh G;have M:(0:Int)<=(k:Int)/\(k:Int)<(aA.length:Int):=by omega
   rw[ab D,ab D,hk,U,af,ab M];simp only[go_sem,af,r2,hj];rw[ab (by simp;omega),ab (by simp;omega),ab (by simp;omega)];simp only[bt,bj,dx]
  ·rw[aa D,aa D,ab (by simp;omega),ab (by simp;omega),ab (by simp;omega)];simp only[Q2y,bt,bj,dx]
theorem Zx2 {aA:List Itm} (M:aA.length<=1000000) {i:Nat} {frm:Int} (L:i<aA.length) (G:drawn (vE aA i)) (hf:LX aA i frm) (D:∀k<aA.length,AA (vE aA k)->drawn (vE aA k)):
  Nc [.vC Ai (aA.map Af),I i,I frm]=some [.vC kPt ((BY aA i frm).map ptR)]:=
 Zwo L G hf D (Z7b G.1) (Uh _) (λT U N O=>Zj8 N O) (Qpl M L) (Qbf M L) (S3 G.1.2.1 G.1.2.2.1)
theorem Qx4 {N MS:Fn} {l:List Itm} (U:∀k:Int,N [I k]=some [B (decide (1<=k/\k<=6))]) (V:∀it,MS (Af it)=some [B (decide (syI it))]) (Y:l.length<=1000000):∀(k i:Nat),i+k=l.length->
  (Am (K9 N MS) [.vC Ai (l.map Af),I l.length,I i]=some (1,[B (decide (FE (l.drop i)=1))]))\/(Am (K9 N MS) [.vC Ai (l.map Af),I l.length,I i]=some (2,[])/\FE (l.drop i)=2)
 |0,i,hi=>by
  right;refine⟨Bn ?_ (by simp),by rw[eu (by omega)];rfl⟩;rw[Qv6];simp only[go_sem];rw[aa]
 |k+1,i,hi=>by
  have L:i<l.length:=by omega
  have hr:=Fh L;rw[Qlg L];have X:=V (vE l i);have hm:=U (vE l i).aP;have D:K9 N MS [.vC Ai (l.map Af),I l.length,I i]=if AA (vE l i)then some (1,[B (decide (syI (vE l i)))])else some (0,[.vC Ai (l.map Af),I l.length,I (i+1:Nat)]):=by
   rw[Qv6];simp only[Af]at X;have T:(0:Int)<=(i:Int)/\(i:Int)<(l.length:Int):=by omega
   simp only[go_sem,ac,af,hr,X,hm,ab T];rw[ab,Ad];by_cases O:AA (vE l i)
   ·rw[ab (show 1<=(vE l i).aP/\(vE l i).aP<=6 from O),ab O]
   ·rw[aa (show¬(1<=(vE l i).aP/\(vE l i).aP<=6)from O),aa O];rfl
  unfold FE;by_cases M:AA (vE l i)
  ·rw[ab M]at D⊢;left;rw[Bn D (by simp)];by_cases G:syI (vE l i)
   ·rw[ab G,ai G];rfl
   ·rw[aa G,al G];rfl
  ·rw[aa M]at D⊢;rw[BB D];exact Qx4 U V Y k (i+1) (by omega)
def IW (aA:List Itm) (i:Nat):Prop:=(vE aA i).bH=0\/syI (vE aA i)\/FE (aA.drop (i+1))=1
theorem Z07 {aA:List Itm} (hM:∀k:Int,M [I k]=some [B (decide (1<=k/\k<=6))]) (hS:∀it,Z (Af it)=some [B (decide (syI it))]) (hl:aA.length<=1000000) {i:Nat} (hi:i<aA.length):
  Qnj M Z (Am (K9 M Z)) [.vC Ai (aA.map Af),I i]=some [B (decide (IW aA i))]:=by
 have hr:=Fh hi;have hs:=hS (vE aA i);have G:=Qx4 hM hS (l:=aA.drop (i+1)) (by rw[co];omega) (aA.drop (i+1)).length 0 (by omega);rw[f8]at G;rw[Zw9];simp only[Af]at hs;have hw:V ((i:Int)+1)=((i+1:Nat):Int):=by rw[Ad];omega
 have X:(0:Int)<=(i:Int)/\(i:Int)<(aA.length:Int):=by omega
 have L:(0:Int)<=((i+1:Nat):Int)/\((i+1:Nat):Int)<=(aA.length:Int):=by omega
 have Y:(List.drop (i+1) (aA.map Af)).length=(aA.drop (i+1)).length:=by rw[co,co,ac]
 generalize Am (K9 M Z)=N at*;simp only[go_sem,ac,af,hr,hs,hw,ab X,ab L,Y];rw[<-List.map_drop];by_cases O:(vE aA i).bH=0
 ·rw[ab O,ai (show IW aA i from .inl O)]
 ·rw[aa O];by_cases T:syI (vE aA i)
  ·rw[ab T,ai (show IW aA i from .inr (.inl T))]
  ·rw[aa T];rcases G with G|⟨G,hn⟩
   ·have D:N [.vC Ai ((aA.drop (i+1)).map Af),I (aA.drop (i+1)).length,I 0]=some (1,[B (decide (FE (aA.drop (i+1))=1))]):=G;simp only[D,go_sem];by_cases U:FE (aA.drop (i+1))=1
    ·rw[ai U,ai (show IW aA i from .inr (.inr U))]
    ·rw[al U,al (show¬IW aA i from λh=>h.elim O λh=>h.elim T U)]
   ·have D:N [.vC Ai ((aA.drop (i+1)).map Af),I (aA.drop (i+1)).length,I 0]=some (2,[]):=G;simp only[D,go_sem];rw[al (show¬IW aA i from λh=>h.elim O λh=>h.elim T λh=>by rw[hn]at h;cases h)];simp
theorem Z8a {aA:List Itm} (D:aA.length<=1000000) {i:Nat} (G:i<aA.length):Ro [.vC Ai (aA.map Af),I i]=some [B (decide (IW aA i))]:=Z07 Q3 Qti D G
def JE (aA:List Itm) (i:Nat):Int:=if AA (vE aA i)then Iw aA i else Qv (vE aA i)
theorem Z9t {aA:List Itm} {aF:Rw} {aD:List Mrk} {b:Bool} (Y:i<aA.length) (a0:aD.length<=1000000)
  (hM:Z [I (vE aA i).aP]=some [B (decide (AA (vE aA i)))]) (hE:M [.vC Ai (aA.map Af),I i]=some [B (decide (IW aA i))]):
  Qhr M Z [.vC Ah aF, .vC AL (aD.map Av), .vC Ai (aA.map Af),I i,I d.x,I d.y,I d.z,B b,I a,I u,I v]=
   some [.vC Ah aF, .vC AL ((aD++[(⟨a,JE aA i,i⟩:Mrk)]).map Av),I d.x,I d.y,I d.z,B b,I a,I u,I v]:=by
 have hr:=Fh Y;have U:(0:Int)<=(i:Int)/\(i:Int)<(aA.length:Int):=by omega
 have hb:(aD.length+1)*24<=140737488355328:=by omega
 have e:∀k:Int,aD.map Av++[[I a,I k,I i]]=(aD++[(⟨a,k,i⟩:Mrk)]).map Av:=λk=>by rw[bt];rfl
 rw[Z8j];simp only[go_sem,ac,af,hr,ab U,hM,hE,aq,bp,dg,ab hb];have fin:∀{k:Int},k=JE aA i->some [AC.vC Ah aF, .vC AL (aD.map Av++[[I a,I k,I i]]),I d.x,I d.y,I d.z,B b,I a,I u,I v]=some [.vC Ah aF, .vC AL ((aD++[(⟨a,JE aA i,i⟩:Mrk)]).map Av),I d.x,I d.y,I d.z,B b,I a,I u,I v]:=by
  intro k hk;rw[e,hk]
 unfold JE Iw Qv at fin⊢;by_cases O:(vE aA i).aP=4
 ·rw[ab O];have D:AA (vE aA i):=⟨by omega,by omega⟩;exact fin (by rw[ab D,ab O])
 ·rw[aa O];by_cases D:AA (vE aA i)
  ·rw[ab D];by_cases N:IW aA i
   ·rw[ab N];refine fin ?_;rw[ab D,aa O];rcases N with h|h|h
    ·rw[ab h]
    ·by_cases T:(vE aA i).bH=0
     ·rw[ab T]
     ·rw[aa T,ab h]
    ·by_cases T:(vE aA i).bH=0
     ·rw[ab T]
     ·rw[aa T];by_cases X:syI (vE aA i)
      ·rw[ab X]
      ·rw[aa X,h]
   ·rw[aa N,ab D];refine fin ?_;rw[ab D,aa O,aa (λh=>N (.inl h)),aa (λh=>N (.inr (.inl h)))];have V:∀l:List Itm,FE l=1\/FE l=2:=by
     intro l;induction l with
     |nil=>right;rfl
     |cons it l ih=>
      unfold FE;split
      ·split<;>simp
      ·exact ih
    rcases V (aA.drop (i+1))with h|h
    ·exact absurd (.inr (.inr h)) N
    ·rw[h]
  ·rw[aa D,aa D];by_cases G:(vE aA i).aP=10
   ·rw[ab G];exact fin (by rw[aa D,ab G])
   ·rw[aa G];by_cases L:(vE aA i).aP=13
    ·rw[ab L];exact fin (by rw[aa D,aa G,ab L])
    ·rw[aa L];exact fin (by rw[aa D,aa G,aa L])
theorem Zrj {aA:List Itm} (N:aA.length<=1000000) {i:Nat} {aF:Rw} {aD:List Mrk} {D:Pt} {b:Bool} {len sp G:Int} (M:i<aA.length) (L:aD.length<=1000000):
  I5 [.vC Ah aF, .vC AL (aD.map Av), .vC Ai (aA.map Af),I i,I D.x,I D.y,I D.z,B b,I len,I sp,I G]=
   some [.vC Ah aF, .vC AL ((aD++[(⟨len,JE aA i,i⟩:Mrk)]).map Av),I D.x,I D.y,I D.z,B b,I len,I sp,I G]:=
 Z9t M L (Q3 _) (Z8a N M)
theorem Zn5 (a:Pt) (aF:List Sgm):aF=[]\/∃l g,aF=l++[g]/\Fj a aF=g.to/\((aF.length:Int)>0)/\nth [] (aF.map AB) (aF.length-1)=AB g:=by
 rcases List.eq_nil_or_concat aF with h|⟨l,g,h⟩
 ·exact .inl h
 ·right;rw[List.concat_eq_append]at h;refine⟨l,g,h,?_,?_,?_⟩
  ·rw[h];exact Sv g a l
  ·rw[h];simp
  ·have D:aF.length-1<aF.length:=by rw[h];simp
   rw[GO _ _ _ _ D];congr 1;subst h;simp
theorem Zp3:
  SL M [.vC Ah [], .vC AL l,I q.x,I q.y,I q.z,I d.x,I d.y,I d.z,I a,I k,I u,I b,I z.x,I z.y,I z.z,B false,I v,I r,I R]=
   some [.vC Ah [], .vC AL l,I q.x,I q.y,I q.z,B true,I v,I r,I R]:=by
 rw[Q7a];simp
theorem Zhs {aF:List Sgm} {aD:Rw} (G:Fj z aF=o)
  (O:M [I o.x,I o.y,I o.z,I q.x,I q.y,I q.z]=some [I (Ay o q)]) (hl:0<=Ay o q/\Ay o q<=268435456) (hs:aF.length+1<=1048577) (hlen:0<=v/\v<=4000000000000000000):
  SL M [.vC Ah (aF.map AB), .vC AL aD,I q.x,I q.y,I q.z,I d.x,I d.y,I d.z,I a,I k,I u,I b,I z.x,I z.y,I z.z,B true,I v,I r,I R]=
   some [.vC Ah ((AU k u b (aF,v,o) q).1.map AB), .vC AL aD,I z.x,I z.y,I z.z,B true,I (AU k u b (aF,v,o) q).2.1,I r,I R]:=by
 have L:(aF.map AB++[[I q.x,I q.y,I q.z,I (Ay o q),I k,I u,I b]])=(aF++[(⟨q,Ay o q,k,u,b⟩:Sgm)]).map AB:=by rw[bt];rfl
 rw[Q7a];try dsimp only[go_sem]
 rcases Zn5 z aF with h|⟨l,s,X,T,Y,h4⟩
 ·subst h;have N:z=o:=G;subst N;simp only[dx,dg];rw[Bc (by decide),Bool.not_true,ay];by_cases c:q=z
  ·have D:=DX.1 c;rw[Cj (by simp[D.1,D.2.1,D.2.2]),show AU k u b ([],v,z) q=([],v,z)from ab c];rfl
  ·rw[B4,O]
   ·simp only[am,HU,HH,gA,jA,wA,bA,bf,bp,dg];rw[Cj (by decide),show AU k u b ([],v,z) q=([⟨q,Ay z q,k,u,b⟩],v+Ay z q,q)from aa c,Ad];rfl
   ·have c2: ¬(q.x=z.x/\q.y=z.y/\q.z=z.z):=λd=>c (DX.2 d);simp only[Bool.and_true,Bool.and_eq_false_iff,beq_eq_false_iff_ne];omega
 ·rw[G]at T;have w1:V ((aF.length:Int)-1)=((aF.length-1:Nat):Int):=by rw[Ad];omega
  have U:(0:Int)<=((aF.length-1:Nat):Int)/\((aF.length-1:Nat):Int)<(aF.length:Int):=by omega
  rw[T]at O L⊢;clear X;simp only[go_sem,ac,w1,af,h4,ab Y,ab U,O,aq,bp,dg];rw[aa (by simp)];by_cases c:q=s.to
  ·have D:=DX.1 c;rw[ab ⟨D.1,D.2.1,D.2.2,trivial⟩,show AU k u b (aF,v,s.to) q=(aF,v,s.to)from ab c]
  ·rw[aa (λd=>c (DX.2 ⟨d.1,d.2.1,d.2.2.1⟩)),ab,show AU k u b (aF,v,s.to) q=(aF++[⟨q,Ay s.to q,k,u,b⟩],v+Ay s.to q,q)from aa c,Ad (by rw[<-T]at*;omega),L]
noncomputable def D8 (it:Itm) (aU aZ aX:Int) (s:(List Sgm×Int×Pt)×Int) (q:Pt):(List Sgm×Int×Pt)×Int:=
 (AU aU aZ aX s.1 q,if smI it/\q=A7 it then(AU aU aZ aX s.1 q).2.1 else s.2)
theorem Qme {it:Itm} {aU aZ aX:Int}:∀(D:List Pt) (s:(List Sgm×Int×Pt)×Int),(D.foldl (D8 it aU aZ aX) s).1=D.foldl (AU aU aZ aX) s.1
 |[],_=>rfl
 |q::D,s=>by rw[dv,dv,Qme D];rfl
theorem Q97 {MM T MA MP MG MR:Fn} {it:Itm} {D:List Pt} (hj:i<D.length) (a0:D.length<=1000000) {aF L:Rw} {aD:Rw} {g O G:Pt} {b b':Bool} {X aU aZ aX len M sp N:Int}
  (hM:T (Af it)=some [B (decide (smI it))]) (hC:MM (Af it)=some (ptR (A7 it)))
  (hA:MA [.vC Ah aF, .vC AL aD,I D[i].x,I D[i].y,I D[i].z,I g.x,I g.y,I g.z,I X,I aU,I aZ,I aX,I O.x,I O.y,I O.z,B b,I len,I sp,I N]=some [.vC Ah L, .vC AL aD,I G.x,I G.y,I G.z,B b',I M,I sp,I N]):
  Me MM T MA MP MG MR (.vC Ah aF:: .vC AL aD:: .vC kPt (D.map ptR)::I D.length::I i::(Af it++[I g.x,I g.y,I g.z,I X,I aU,I aZ,I aX,I O.x,I O.y,I O.z,B b,I len,I sp,I N]))=
   some (0, .vC Ah L:: .vC AL aD:: .vC kPt (D.map ptR)::I D.length::I (i+1:Nat)::(Af it++[I g.x,I g.y,I g.z,I X,I aU,I aZ,I aX,I G.x,I G.y,I G.z,B b',I M,I sp,I (if smI it/\D[i]=A7 it then M else N)])):=by
 have hr:nth [] (D.map ptR) i=ptR D[i]:=GO _ _ _ _ hj;have Y:(0:Int)<=(i:Int)/\(i:Int)<(D.length:Int):=by omega
 have hw:V ((i:Int)+1)=((i+1:Nat):Int):=by rw[Ad];omega
 generalize D[i]=q at*;simp only[Af]at hM hC;simp only[Af,az,bf];rw[Za9];simp only[go_sem,ac,af,hr,ab Y,hA,hM,hC,hw];rw[ab];by_cases c:smI it
 ·rw[ab c];by_cases U:q=A7 it
  ·have c3:=DX.1 U;rw[ab ⟨c3.1,c3.2.1,c3.2.2,trivial⟩,ab ⟨c,U⟩]
  ·rw[aa (λh=>U (DX.2 ⟨h.1,h.2.1,h.2.2.1⟩)),aa (λh=>U h.2)]
 ·rw[aa c,aa (λh=>c h.1)]
theorem Qd8 {MM T MA MP MG MR:Fn} {it:Itm} {D:List Pt} (U:D.length<=1000000) {aD:Rw} {g G:Pt} {gl aU aZ aX sp:Int} (X:bd 67108864 G) (M:∀p∈D,bd 67108864 p)
  (hM:T (Af it)=some [B (decide (smI it))]) (hC:MM (Af it)=some (ptR (A7 it)))
  (hA : ∀ {aF : List Sgm} {q at_ : Pt} {len mid : Int}, Fj G aF = at_ -> bd 67108864 at_ -> bd 67108864 q -> aF.length + 1 <= 1048577 -> (0 <= len /\ len <= 4000000000000000000) ->
   MA [.vC Ah (aF.map AB), .vC AL aD,I q.x,I q.y,I q.z,I g.x,I g.y,I g.z,I gl,I aU,I aZ,I aX,I G.x,I G.y,I G.z,B true,I len,I sp,I mid]=
   some [.vC Ah ((AU aU aZ aX (aF,len,at_) q).1.map AB), .vC AL aD,I G.x,I G.y,I G.z,B true,I (AU aU aZ aX (aF,len,at_) q).2.1,I sp,I mid]):
  ∀(k j:Nat) (s:List Sgm×Int×Pt) (mid:Int),j+k=D.length->s.1.length+k<=1048576->0<=s.2.1->s.2.1+k*268435456<=4000000000000000000->bd 67108864 s.2.2->Fj G s.1=s.2.2->
  Am (Me MM T MA MP MG MR) (.vC Ah (s.1.map AB):: .vC AL aD:: .vC kPt (D.map ptR)::I D.length::I j::(Af it++[I g.x,I g.y,I g.z,I gl,I aU,I aZ,I aX,I G.x,I G.y,I G.z,B true,I s.2.1,I sp,I mid]))=
   some (1,[.vC Ah (((D.drop j).foldl (D8 it aU aZ aX) (s,mid)).1.1.map AB), .vC AL aD,I G.x,I G.y,I G.z,B true,I ((D.drop j).foldl (D8 it aU aZ aX) (s,mid)).1.2.1,I sp,I ((D.drop j).foldl (D8 it aU aZ aX) (s,mid)).2])
 |0,j,s,mid,hj,_,_,_,_,_=>by
  refine Bn ?_ (by simp);simp only[Af,az,bf];rw[Za9,Bc (by omega),eu (by omega)];rfl
 |k+1,j,s,mid,hj,hs,V,Y,L,he=>by
  have N:j<D.length:=by omega
  have hq:=M _ (ca N);obtain⟨aF,len,at_⟩:=s;simp only at hs V Y L he;have ha:=hA (q:=D[j]) (mid:=mid) he L hq (by omega) (by constructor<;>omega);have O:=Q97 (MP:=MP) (MG:=MG) (MR:=MR) N U hM hC ha;have hinv:Fj G (AU aU aZ aX (aF,len,at_) D[j]).1=(AU aU aZ aX (aF,len,at_) D[j]).2.2/\bd 67108864 (AU aU aZ aX (aF,len,at_) D[j]).2.2/\
    (AU aU aZ aX (aF,len,at_) D[j]).1.length<=aF.length+1/\0<=(AU aU aZ aX (aF,len,at_) D[j]).2.1/\(AU aU aZ aX (aF,len,at_) D[j]).2.1<=len+268435456:=by
   have hl:=HF L hq;unfold AU;split
   ·exact⟨he,L,by simp,V,by simp only;omega⟩
   ·refine⟨Sv _ _ _,hq,by simp,?_,?_⟩<;>simp only<;>omega
  rw[BB O];obtain⟨i1,i2,i3,i4,i5⟩:=hinv;have:=Qd8 (MP:=MP) (MG:=MG) (MR:=MR) U X M hM hC hA k (j+1) (AU aU aZ aX (aF,len,at_) D[j]) (if smI it/\D[j]=A7 it then(AU aU aZ aX (aF,len,at_) D[j]).2.1 else mid) (by omega) (by omega) i4 (by omega) i2 i1;rw[this,KF D j N,dv];rfl
theorem Zk1 {it:Itm} (h:CE it):∃l,Bv it=Aq it.fr::l:=by
 unfold Bv;by_cases G:it.aP=3
 ·rw[ab G];unfold CJ;rw[bj];refine⟨(AK it.dir 16 it.bG (AE it it.fr) (AE it it.to)).map (CQ it),?_⟩;congr 1;obtain⟨D,-,M,-⟩:=h.2.2.2 G;obtain⟨I,L,N⟩:=QL it.aG it.ce;unfold CQ AE;simp only[I,L];unfold dU dW;have e1:plU it.aG it.ce*16+(plU it.aG it.fr-plU it.aG it.ce)*16=plU it.aG it.fr*16:=by omega
  have e2:plW it.aG it.ce*16+(plW it.aG it.fr-plW it.aG it.ce)*16=plW it.aG it.fr*16:=by omega
  rw[e1,e2];unfold spP plU plW plH Aq;rcases D with D|D|D<;>rw[D]<;>rfl
 ·rw[aa G];exact⟨_,rfl⟩
theorem Z6d {aA:List Itm} (h:CE (vE aA i)):∃l,BY aA i (-1)=Aq (vE aA i).fr::l:=by
 obtain⟨l,D⟩:=Zk1 h;unfold BY;split
 ·unfold GX;rw[aa,D];exact⟨_,rfl⟩
 ·exact⟨l,D⟩
noncomputable def Fs (aA:List Itm) (i:Nat) (s:BSt) (D:Int):(List Sgm×Int×Pt)×Int:=
 (BY aA i s.frm).foldl (D8 (vE aA i) i (FQ (vE aA i) s.aS) (HO (vE aA i))) ((s.aF,s.len,if s.bI=true then s.at_ else Aq (vE aA i).fr),D)
theorem Q91 (aA:List Itm) (i:Nat) (s:BSt) (D:Int):(Fs aA i s D).1=DC aA i s:=by
 unfold Fs DC;rw[Qme]
theorem Z78 {aA:List Itm} {s:BSt} {aD:Rw} {mid:Int} (hi:i<aA.length) (hlen:aA.length<=15) (hv:CE (vE aA i)) (L:BOK aA i s) (hinv:BInv s)
  (D:(∀p∈BY aA i s.frm,bd 67108864 p)/\(BY aA i s.frm).length<=65537)
  (V:syI (vE aA i)->0<=(vE aA i).aZ/\(vE aA i).aZ<=60000000) (a2:s.bI=false->s.frm= -1)
  (hM:Z (Af (vE aA i))=some [B (decide (smI (vE aA i)))]) (hC:M (Af (vE aA i))=some (ptR (A7 (vE aA i))))
  (hG:P (Af (vE aA i))=some [B (decide (syI (vE aA i)))]) (hR:O (Af (vE aA i)++[I s.aS])=some [I (FQ (vE aA i) s.aS)])
  (hP:T [.vC Ai (aA.map Af),I i,I s.frm]=some [.vC kPt ((BY aA i s.frm).map ptR)])
  (hA : ∀ {aF : List Sgm} {q g st at_ : Pt} {gl aU aZ aX len mid : Int}, Fj st aF = at_ -> bd 67108864 at_ -> bd 67108864 q -> aF.length + 1 <= 1048577 -> (0 <= len /\ len <= 4000000000000000000) ->
   W [.vC Ah (aF.map AB), .vC AL aD,I q.x,I q.y,I q.z,I g.x,I g.y,I g.z,I gl,I aU,I aZ,I aX,I st.x,I st.y,I st.z,B true,I len,I s.aS,I mid]=
   some [.vC Ah ((AU aU aZ aX (aF,len,at_) q).1.map AB), .vC AL aD,I st.x,I st.y,I st.z,B true,I (AU aU aZ aX (aF,len,at_) q).2.1,I s.aS,I mid])
  (a4 : ∀ {q g st : Pt} {gl aU aZ aX len mid : Int}, W [.vC Ah [], .vC AL aD, I q.x, I q.y, I q.z, I g.x, I g.y, I g.z, I gl, I aU, I aZ, I aX, I st.x, I st.y, I st.z, B false, I len, I s.aS, I mid] =
   some [.vC Ah [], .vC AL aD,I q.x,I q.y,I q.z,B true,I len,I s.aS,I mid]):
  Qjm M Z W T P O (Am (Me M Z W T P O)) [.vC Ah (s.aF.map AB), .vC AL aD, .vC Ai (aA.map Af),I i,I s.frm,I s.aQ.x,I s.aQ.y,I s.aQ.z,B s.bI,I s.len,I s.aS,I mid]=
   some [.vC Ah ((Fs aA i s mid).1.1.map AB), .vC AL aD,B true,I (if s.bI=true then s.aQ else Aq (vE aA i).fr).x,I (if s.bI=true then s.aQ else Aq (vE aA i).fr).y,I (if s.bI=true then s.aQ else Aq (vE aA i).fr).z,B true,I (Fs aA i s mid).1.2.1,I s.aS,I (Fs aA i s mid).2]:=by
 have hr:=Fh hi;have a5:(0:Int)<=(i:Int)/\(i:Int)<(aA.length:Int):=by omega
 have a8:=L.aF;have X:=L.len
 have Y:∀aX aZ:Int,Am (Me M Z W T P O) (.vC Ah (s.aF.map AB):: .vC AL aD:: .vC kPt ((BY aA i s.frm).map ptR)::I (BY aA i s.frm).length::I (0:Nat)::(Af (vE aA i)++[I (⟨0,0,0⟩:Pt).x,I (⟨0,0,0⟩:Pt).y,I (⟨0,0,0⟩:Pt).z,I 0,I i,I aZ,I aX,I s.aQ.x,I s.aQ.y,I s.aQ.z,B s.bI,I s.len,I s.aS,I mid]))=
   some (1, [.vC Ah (((BY aA i s.frm).foldl (D8 (vE aA i) i aZ aX) ((s.aF, s.len, if s.bI = true then s.at_ else Aq (vE aA i).fr), mid)).1.1.map AB), .vC AL aD, I (if s.bI = true then s.aQ else Aq (vE aA i).fr).x, I (if s.bI = true then s.aQ else Aq (vE aA i).fr).y, I (if s.bI = true then s.aQ else Aq (vE aA i).fr).z, B true,
    I ((BY aA i s.frm).foldl (D8 (vE aA i) i aZ aX) ((s.aF,s.len,if s.bI=true then s.at_ else Aq (vE aA i).fr),mid)).1.2.1,I s.aS,I ((BY aA i s.frm).foldl (D8 (vE aA i) i aZ aX) ((s.aF,s.len,if s.bI=true then s.at_ else Aq (vE aA i).fr),mid)).2]):=by
  intro aX aZ;by_cases hb:s.bI=true
  ·obtain⟨g1,g2⟩:=hinv.bI hb;obtain⟨g3,g4,g5⟩:=g2;rw[ab hb,ab hb,hb];have:=Qd8 (MP:=T) (MG:=P) (MR:=O) (g:=⟨0,0,0⟩) (gl:=0) (aU:=i) (aZ:=aZ) (aX:=aX) (by omega) g1 D.1 hM hC (λh1 h2 h3 h4 h5=>hA h1 h2 h3 h4 h5) (BY aA i s.frm).length 0 (s.aF,s.len,s.at_) mid (by omega) (by simp only;omega) X.1 (by simp only;omega) (L.at_ hb) g4;rw[f8]at this;exact this
  ·have a0:s.bI=false:=by simpa using hb
   obtain⟨e1,e2,e3⟩:=hinv.empty a0;obtain⟨l,hl⟩:=Z6d hv;have a3:bd 67108864 (Aq (vE aA i).fr):=AR (Er hv.2.1) (by decide);rw[aa hb,aa hb,a0,e1];rw[a2 a0,hl]at D⊢;have h0:0<(Aq (vE aA i).fr::l).length:=by simp
   have a1:=Q97 (MP:=T) (MG:=P) (MR:=O) h0 (by omega) hM hC (a4 (q:=Aq (vE aA i).fr) (g:=⟨0,0,0⟩) (st:=s.aQ) (gl:=0) (aU:=i) (aZ:=aZ) (aX:=aX) (len:=s.len) (mid:=mid));rw[dx,BB a1];have:=Qd8 (MP:=T) (MG:=P) (MR:=O) (g:=⟨0,0,0⟩) (gl:=0) (aU:=i) (aZ:=aZ) (aX:=aX) (by omega) a3 D.1 hM hC (λh1 h2 h3 h4 h5=>hA h1 h2 h3 h4 h5) l.length 1 ([],s.len,Aq (vE aA i).fr) (if smI (vE aA i)/\Aq (vE aA i).fr=A7 (vE aA i)then s.len else mid) (by simp;omega) (by simp only[dg];simp at D;omega) X.1 (by simp only;simp at D;omega) a3 rfl;rw[List.drop_succ_cons,f8]at this;rw[dv];have e4:D8 (vE aA i) i aZ aX (([],s.len,Aq (vE aA i).fr),mid) (Aq (vE aA i).fr)=(([],s.len,Aq (vE aA i).fr),if smI (vE aA i)/\Aq (vE aA i).fr=A7 (vE aA i)then s.len else mid):=by
    unfold D8;rw[show AU i aZ aX ([],s.len,Aq (vE aA i).fr) (Aq (vE aA i).fr)=([],s.len,Aq (vE aA i).fr)from ab rfl]
   rw[e4];exact this
 have G:∀aX aZ:Int,((BY aA i s.frm).foldl (D8 (vE aA i) i aZ aX) ((s.aF,s.len,if s.bI=true then s.at_ else Aq (vE aA i).fr),mid)).1.1.length<=1048576:=by
  intro aX aZ;rw[Qme];have a6:bd 67108864 (if s.bI=true then s.at_ else Aq (vE aA i).fr):=by
   split
   ·rename_i hb;exact L.at_ hb
   ·exact AR (Er hv.2.1) (by decide)
  have:=(Tc (aU:=i) (aZ:=aZ) (aX:=aX) (BY aA i s.frm) (s.aF,s.len,if s.bI=true then s.at_ else Aq (vE aA i).fr) D.1 a6 X.1).1;simp only at this⊢;omega
 generalize Am (Me M Z W T P O)=N at*;have U:=λaX aZ=>Y aX aZ;simp only[Af,az,bf]at hG hR U;rw[Z9k];simp only[go_sem,ac,af,hr,ab a5,hG,hR,hP];have a7:((0:Nat):Int)=0:=rfl;simp only[a7]at U;unfold Fs HO;by_cases hs:syI (vE aA i)
 ·have hf:=V hs;rw[ab hs];simp only[ab hs];rw[Ad];simp only[U,go_sem,ac];rw[ai (show((_:Nat):Int)<=1048576 from by have:=G (mn ((vE aA i).aZ*16) 16777216) (FQ (vE aA i) s.aS);omega)]
 ·rw[aa hs];simp only[aa hs];simp only[U,go_sem,ac];rw[ai (show((_:Nat):Int)<=1048576 from by have:=G 0 (FQ (vE aA i) s.aS);omega)]
theorem Qbw {MK V X MS T U:Fn} {aA:List Itm} (Y:∀k:Int,T [I k]=some [B (decide (1<=k/\k<=6))]) (hW:∀it,U (Af it)=some [I (if B9 it then 1 else 0)]) (hl:aA.length<=1000000):
  ∀(k i:Nat) (last:Int),i+k=aA.length->(last= -1\/(0<=last/\last<i))->
  (Am (Qf MK V X MS T U) [.vC Ah [], .vC AL [], .vC Ai (aA.map Af),I last, .vC Ai (aA.map Af),I aA.length,I i,I 0,I 0,I 0,B false,I 0,I 0,I 0]=some (1,[.vC Ah [], .vC AL [],I (GF aA k i last),I 0,I 0,I 0,B false,I 0,I 0,I 0])/\GF aA k i last≠0)\/
  (Am (Qf MK V X MS T U) [.vC Ah [], .vC AL [], .vC Ai (aA.map Af),I last, .vC Ai (aA.map Af),I aA.length,I i,I 0,I 0,I 0,B false,I 0,I 0,I 0]=some (2,[.vC Ah [], .vC AL [], .vC Ai (aA.map Af),I 0,I 0,I 0,B false,I 0,I 0,I 0])/\GF aA k i last=0)
 |0,i,last,hi,_=>by
  right;refine⟨Bn ?_ (by simp),rfl⟩;rw[Q3f,Bc (by omega)]
 |k+1,i,last,hi,a0=>by
  have a1:i<aA.length:=by omega
  have hr:=Fh a1;have hw:=hW (vE aA i);have hm:=Y (vE aA i).aP;have a2:(0:Int)<=(i:Int)/\(i:Int)<(aA.length:Int):=by omega
  have D:Qf MK V X MS T U [.vC Ah [], .vC AL [], .vC Ai (aA.map Af),I last, .vC Ai (aA.map Af),I aA.length,I i,I 0,I 0,I 0,B false,I 0,I 0,I 0]=
    if B9 (vE aA i)then some (1,[.vC Ah [], .vC AL [],I 1,I 0,I 0,I 0,B false,I 0,I 0,I 0])else if AA (vE aA i)then(if 0<=last/\(vE aA last.toNat).to≠(vE aA i).fr then some (1,[.vC Ah [], .vC AL [],I 13,I 0,I 0,I 0,B false,I 0,I 0,I 0])else some (0,[.vC Ah [], .vC AL [], .vC Ai (aA.map Af),I i, .vC Ai (aA.map Af),I aA.length,I (i+1:Nat),I 0,I 0,I 0,B false,I 0,I 0,I 0]))
    else some (0,[.vC Ah [], .vC AL [], .vC Ai (aA.map Af),I last, .vC Ai (aA.map Af),I aA.length,I (i+1:Nat),I 0,I 0,I 0,B false,I 0,I 0,I 0]):=by
   rw[Q3f];simp only[Af]at hw;simp only[go_sem,ac,af,hr,hw,hm,ab a2];rw[ab,Ad];by_cases N:B9 (vE aA i)
   ·simp only[ab N];rw[ab]
   simp only[aa N];rw[aa (by simp)];by_cases G:AA (vE aA i)
   ·rw[aa (λh=>h G),ab G];rcases a0 with rfl|⟨h1,h2⟩
    ·rw[aa (show¬(-1:Int)>=0 by omega),aa (λh=>by omega)];rfl
    ·obtain⟨L,rfl⟩:=bh h1;have hL:L<aA.length:=by omega
     have O:(0:Int)<=(L:Int)/\(L:Int)<(aA.length:Int):=by omega
     have a3:=Fh hL;simp only[af,a3,go_sem,ab O];rw[ab];by_cases M:(vE aA L).to=(vE aA i).fr
     ·have c4:=DX.1 M;rw[aa (λh=>h ⟨c4.1,c4.2.1,c4.2.2,trivial⟩),aa (λh=>h.2 M)];rfl
     ·rw[ab (λh=>M (DX.2 ⟨h.1,h.2.1,h.2.2.1⟩)),ab ⟨h1,M⟩]
   ·rw[ab (show¬(1<=(vE aA i).aP/\(vE aA i).aP<=6)from G),aa G];rfl
  unfold GF;by_cases N:B9 (vE aA i)
  ·rw[ab N]at D⊢;exact .inl ⟨Bn D (by simp),by simp⟩
  ·rw[aa N]at D⊢;by_cases G:AA (vE aA i)
   ·rw[ab G]at D⊢;by_cases M:0<=last/\(vE aA last.toNat).to≠(vE aA i).fr
    ·rw[ab M]at D⊢;exact .inl ⟨Bn D (by simp),by simp⟩
    ·rw[aa M]at D⊢;rw[BB D];exact Qbw Y hW hl k (i+1) i (by omega) (.inr (by omega))
   ·rw[aa G]at D⊢;rw[BB D];exact Qbw Y hW hl k (i+1) last (by omega) (by omega)
noncomputable def Gh (aA:List Itm):Nat->Int
 |0=> -1
 |i+1=>if AA (vE aA i)then i else Gh aA i
theorem Qsp (aA:List Itm):∀i,Gh aA i= -1\/∃L:Nat,Gh aA i=L/\L<i/\AA (vE aA L)/\∀j,L<j->j<i-> ¬AA (vE aA j)
 |0=> .inl rfl
 |i+1=>by
  unfold Gh;by_cases c:AA (vE aA i)
  ·rw[ab c];exact .inr ⟨i,rfl,by omega,c,λj D G=>by omega⟩
  ·rw[aa c];rcases Qsp aA i with h|⟨L,D,G,I,M⟩
   ·exact .inl h
   ·refine .inr ⟨L,D,by omega,I,λj g1 g2=> ?_⟩;by_cases e:j=i
    ·rw[e];exact c
    ·exact M j g1 (by omega)
theorem Qsc (aA:List Itm):∀i,(At aA i).frm=if 0<=Gh aA i/\0<=BE aA (Gh aA i).toNat then Gh aA i else-1
 |0=>by rw[At,Gh,aa]
 |i+1=>by
  rw[At,Gh];unfold Dh;by_cases c:AA (vE aA i)
  ·rw[ab c,ab c];simp only[af];by_cases D:0<=BE aA i
   ·rw[ab D,ab ⟨by omega,D⟩]
   ·rw[aa D,aa (λh=>D h.2)]
  ·rw[aa c,aa c];exact Qsc aA i
theorem Zna {aA:List Itm} (I:L<i) (V:i<aA.length) (M:AA (vE aA i)) (D:∀j,L<j->j<i-> ¬AA (vE aA j)) (N:0<=BE aA L):Dd aA L=i:=by
 have X:=Ts N;rcases J4 aA L with h|⟨-,-,k,Y,O,k3,G,T⟩
 ·omega
 ·have U:Dd aA L=k:=by omega
  rw[U];rcases Nat.lt_trichotomy k i with h|h|h
  ·exact absurd ⟨by have:=G.1;omega,by have:=G.1;omega⟩ (D k O h)
  ·exact h
  ·have:=T i I h;have:=M.2;omega
noncomputable def CZ (aA:List Itm):Nat->Int
 |0=>0
 |i+1=>if AA (vE aA i)then(Fs aA i (At aA i) (CZ aA i)).2 else CZ aA i
theorem Qqw (aA:List Itm):∀i,(At aA i).bI=false->(At aA i).frm= -1
 |0,_=>by rw[At]
 |i+1,h=>by
  rw[At]at h⊢;unfold Dh at h⊢;by_cases c:AA (vE aA i)
  ·rw[ab c]at h;cases h
  ·rw[aa c]at h⊢;exact Qqw aA i h
noncomputable abbrev pbR (aA:List Itm) (i:Nat):List AC:=
 [.vC Ah ((At aA i).aF.map AB), .vC AL ((At aA i).aD.map Av), .vC Ai (aA.map Af),I (Gh aA i), .vC Ai (aA.map Af),I aA.length,I i,I (At aA i).aQ.x,I (At aA i).aQ.y,I (At aA i).aQ.z,B (At aA i).bI,I (At aA i).len,I (At aA i).aS,I (CZ aA i)]
theorem Zdg {MK MV MN MS MM MC:Fn} {aA:List Itm} (hi:i<aA.length) (hlen:aA.length<=15) (a3:(At aA i).aD.length=i)
  (hM:∀k:Int,MM [I k]=some [B (decide (1<=k/\k<=6))]) (hS:∀L:Nat,L<aA.length->MS [.vC Ai (aA.map Af),I L]=some [B (decide (0<=BE aA L))]) (hN:∀L:Nat,L<aA.length->MN [.vC Ai (aA.map Af),I L]=some [I (Dd aA L)])
  (hV : AA (vE aA i) -> MV [.vC Ah ((At aA i).aF.map AB), .vC AL ((At aA i).aD.map Av), .vC Ai (aA.map Af), I i, I (At aA i).frm, I (At aA i).aQ.x, I (At aA i).aQ.y, I (At aA i).aQ.z, B (At aA i).bI, I (At aA i).len, I (At aA i).aS, I (CZ aA i)] =
   some [.vC Ah ((Fs aA i (At aA i) (CZ aA i)).1.1.map AB), .vC AL ((At aA i).aD.map Av),B true,I (if(At aA i).bI=true then(At aA i).aQ else Aq (vE aA i).fr).x,I (if(At aA i).bI=true then(At aA i).aQ else Aq (vE aA i).fr).y,I (if(At aA i).bI=true then(At aA i).aQ else Aq (vE aA i).fr).z,B true,
    I (Fs aA i (At aA i) (CZ aA i)).1.2.1,I (At aA i).aS,I (Fs aA i (At aA i) (CZ aA i)).2])
  (hK : ∀ {aF : Rw} {X : Pt} {b : Bool} {len sp M : Int}, MK [.vC Ah aF, .vC AL ((At aA i).aD.map Av), .vC Ai (aA.map Af), I i, I X.x, I X.y, I X.z, B b, I len, I sp, I M] =
   some [.vC Ah aF, .vC AL (((At aA i).aD++[(⟨len,JE aA i,i⟩:Mrk)]).map Av),I X.x,I X.y,I X.z,B b,I len,I sp,I M]):
  PK MK MV MN MS MM MC N (pbR aA i)=some (0,pbR aA (i+1)):=by
 have hr:=Fh hi;have a0:(0:Int)<=(i:Int)/\(i:Int)<(aA.length:Int):=by omega
 have hw:V ((i:Int)+1)=((i+1:Nat):Int):=by rw[Ad];omega
 have hf:=Qsc aA i;have T:=Qsp aA i;have a1:=Q91 aA i (At aA i) (CZ aA i);have e1:Gh aA (i+1)=if AA (vE aA i)then(i:Int)else Gh aA i:=rfl;have e2:CZ aA (i+1)=if AA (vE aA i)then(Fs aA i (At aA i) (CZ aA i)).2 else CZ aA i:=rfl;have e3:At aA (i+1)=Dh aA i (At aA i):=rfl;unfold pbR;rw[e1,e2,e3];generalize At aA i=s at*;generalize Gh aA i=last at*;generalize a4:CZ aA i=M at*;unfold Dh;rw[Q6s];by_cases G:AA (vE aA i)
 ·have Y: ¬(vE aA i).aP=8:=λh=>by have:=G.2;omega
  have hV:=hV G;have D:JE aA i=Iw aA i:=ab G;rw[ab G,ab G,ab G];rw[a1]at hV;have U:MM [I (vE aA i).aP]=some [B true]:=by rw[hM,ai (show 1<=(vE aA i).aP/\(vE aA i).aP<=6 from G)]
  simp only[go_sem,ac,af,hr,ab a0,U];rw[ab,aa Y];have O:∀{x:Option (Nat×List AC)} {frm:Int},s.frm=frm->(MV [.vC Ah (s.aF.map AB), .vC AL (s.aD.map Av), .vC Ai (aA.map Af),I i,I frm,I s.aQ.x,I s.aQ.y,I s.aQ.z,B s.bI,I s.len,I s.aS,I M])=
    some [.vC Ah ((DC aA i s).1.map AB), .vC AL (s.aD.map Av),B true,I (if s.bI=true then s.aQ else Aq (vE aA i).fr).x,I (if s.bI=true then s.aQ else Aq (vE aA i).fr).y,I (if s.bI=true then s.aQ else Aq (vE aA i).fr).z,B true,I (DC aA i s).2.1,I s.aS,I (Fs aA i s M).2]:=by
   intro x frm h;rw[<-h];exact hV
  rcases T with T|⟨L,h1,h2,h3,h4⟩
  ·rw[T];rw[T,aa]at hf;rw[aa (show¬(-1:Int)>=0 by omega)];have hv:=O (x:=none) hf;simp only[hv,go_sem,hK,hw,D];simp
  ·rw[h1]at hf⊢;rw[af]at hf;have hs:=hS L (by omega);have hn:=hN L (by omega);rw[ab (show(L:Int)>=0 by omega)];by_cases c:0<=BE aA L
   ·have a2:=Zna h2 hi G h4 c;rw[ab ⟨by omega,c⟩]at hf;rw[a2]at hn;rw[ai c]at hs;have hv:=O (x:=none) hf;simp only[hs,hn,go_sem];simp only[hv,go_sem,hK,hw,D];simp
   ·rw[aa (λh=>c h.2)]at hf;rw[al c]at hs;have hv:=O (x:=none) hf;simp only[hs,go_sem];simp only[hv,go_sem,hK,hw,D];simp
 ·have D:JE aA i=Qv (vE aA i):=aa G;rw[aa G,aa G,aa G];have U:MM [I (vE aA i).aP]=some [B false]:=by rw[hM,al (show¬(1<=(vE aA i).aP/\(vE aA i).aP<=6)from G)]
  unfold QQ;simp only[go_sem,ac,af,hr,ab a0,U,hK,hw,D];rw[ab];by_cases Y:(vE aA i).aP=8
  ·by_cases h3:(vE aA i).n=3
   ·simp[Y,h3]
   ·by_cases h4:(vE aA i).n=4
    ·simp[Y,h4]
    ·simp[Y,h3,h4]
  ·simp[Y]
theorem Zc3 {it:Itm} (hf:it.aP=1\/1<=it.aZ/\it.aZ<=60000000) (G:0<=a/\a<=30000):JI (Af it++[I a])=some [I (FQ it a)]:=by
 by_cases D:it.aP=1
 ·unfold JI FQ;generalize CO=M;have h:=Qwb (A9:=M) it.aP it.block it.fr.x it.fr.y it.fr.z it.to.x it.to.y it.to.z it.aG it.ce.x it.ce.y it.ce.z it.dir it.bG it.aZ it.perRev it.side it.radius it.bH it.n it.aS it.on a;rw[ab D];refine dp h ?_;rw[Cj (by simp[D])]
 ·exact Zea (by omega) G
theorem Z3e {aF:List Sgm} (D:Fj z aF=o) (G:bd 67108864 o) (L:bd 67108864 q) (M:aF.length+1<=1048577) (hlen:0<=v/\v<=4000000000000000000):
  Pk [.vC Ah (aF.map AB), .vC AL l,I q.x,I q.y,I q.z,I d.x,I d.y,I d.z,I a,I k,I u,I b,I z.x,I z.y,I z.z,B true,I v,I r,I R]=
   some [.vC Ah ((AU k u b (aF,v,o) q).1.map AB), .vC AL l,I z.x,I z.y,I z.z,B true,I (AU k u b (aF,v,o) q).2.1,I r,I R]:=
 Zhs D (Qb7 G L) (HF G L) M hlen
theorem Zbk {aA:List Itm} (hlen:aA.length<=15) (D:∀j<aA.length,¬B9 (vE aA j)) {i:Nat} (M:i<aA.length):
  PK I5 Kk Fi Hc DK Ja QU (pbR aA i)=some (0,pbR aA (i+1)):=by
 have hb:=On D i (by omega);have T:=Ia D i (by omega);have G:∀k<aA.length,AA (vE aA k)->drawn (vE aA k):=λk X N=>(Lx (D k X) N).1;have I:=Lx (D i M);refine Zdg M hlen hb.aD Q3 (λL U=>Qpl (by omega) U) (λL U=>Qbf (by omega) U) (λN=> ?_) (Zrj (by omega) M (by have:=hb.aD;omega));have O:=(I N).1;exact Z78 M hlen O.1 hb T (Wy O hb.frm G) (λY=>by have V:=(I N).2;rcases Y with h|h<;>omega) (Qqw aA i) (Uh _) (S3 O.1.2.1 O.1.2.2.1) (Qti _) (Zc3 (I N).2 hb.aS)
  (Zx2 (by omega) M O hb.frm G) (λh1 V h3 h4 h5=>Z3e h1 V h3 h4 h5) Zp3
theorem Za3 {aA:List Itm} (hlen:aA.length<=15) (D:∀j<aA.length,¬B9 (vE aA j)):∀(k i:Nat),i+k=aA.length->
  Am (PK I5 Kk Fi Hc DK Ja QU) (pbR aA i)=
   some (2,[.vC Ah ((AF aA).aF.map AB), .vC AL ((AF aA).aD.map Av),I (AF aA).aQ.x,I (AF aA).aQ.y,I (AF aA).aQ.z,B (At aA aA.length).bI,I (At aA aA.length).len,I (At aA aA.length).aS,I (CZ aA aA.length)])
 |0,i,G=>by
  obtain rfl:i=aA.length:=by omega
  refine Bn ?_ (by simp);unfold pbR AF;rw[Q6s,Bc (by omega)]
 |k+1,i,G=>by
  rw[BB (Zbk hlen D (by omega))];exact Za3 hlen D k (i+1) (by omega)
def JM (aA:List Itm) (o:List AC):Prop:=
 if C4 aA=0 then o=[.vC Ah ((AF aA).aF.map AB), .vC AL ((AF aA).aD.map Av),I 0,I (AF aA).aQ.x,I (AF aA).aQ.y,I (AF aA).aQ.z,B (At aA aA.length).bI,I (At aA aA.length).len,I (At aA aA.length).aS,I (CZ aA aA.length)]
 else o=[.vC Ah [], .vC AL [],I (C4 aA),I 0,I 0,I 0,B false,I 0,I 0,I 0]
theorem Zrq {MK O T MS U V:Fn} {M D:Lp} {aA:List Itm} (hlen:aA.length<=15)
  (X : (M [.vC Ah [], .vC AL [], .vC Ai (aA.map Af), I (-1), .vC Ai (aA.map Af), I aA.length, I 0, I 0, I 0, I 0, B false, I 0, I 0, I 0] = some (1, [.vC Ah [], .vC AL [], I (C4 aA), I 0, I 0, I 0, B false, I 0, I 0, I 0]) /\ C4 aA ≠ 0) \/
   (M [.vC Ah [], .vC AL [], .vC Ai (aA.map Af),I (-1), .vC Ai (aA.map Af),I aA.length,I 0,I 0,I 0,I 0,B false,I 0,I 0,I 0]=some (2,[.vC Ah [], .vC AL [], .vC Ai (aA.map Af),I 0,I 0,I 0,B false,I 0,I 0,I 0])/\C4 aA=0))
  (N : C4 aA = 0 -> D [.vC Ah [], .vC AL [], .vC Ai (aA.map Af), I (-1), .vC Ai (aA.map Af), I aA.length, I 0, I 0, I 0, I 0, B false, I 0, I 0, I 0] =
   some (2,[.vC Ah ((AF aA).aF.map AB), .vC AL ((AF aA).aD.map Av),I (AF aA).aQ.x,I (AF aA).aQ.y,I (AF aA).aQ.z,B (At aA aA.length).bI,I (At aA aA.length).len,I (At aA aA.length).aS,I (CZ aA aA.length)])):
  ∃o,Qis MK O T MS U V M D [.vC Ai (aA.map Af)]=some o/\JM aA o:=by
 rw[Zq5];have G: ¬((aA.length:Int)>20000):=by omega
 rcases X with⟨h,L⟩|⟨h,L⟩
 ·simp only[go_sem,ac,h,aa G];exact⟨_,rfl,by unfold JM;rw[aa L]⟩
 ·have g:=N L;simp only[go_sem,ac,h,aa G,g];rw[aa (by decide),aa (by decide)];exact⟨_,rfl,by unfold JM;rw[ab L]⟩
theorem Za8 {aA:List Itm} (hlen:aA.length<=15):∃o,IQ [.vC Ai (aA.map Af)]=some o/\JM aA o:=by
 have D:C4 aA=GF aA aA.length 0 (-1):=by unfold C4;rw[aa]
 refine Zrq hlen ?_ λhe=>Za3 hlen (JF he).2 aA.length 0 (by omega);rw[D];exact Qbw Q3 Z7a (by omega) aA.length 0 (-1) (by omega) (.inl rfl)
theorem Zff {aA:List Itm} (h:∃o,M [.vC Ai (aA.map Af)]=some o/\JM aA o):
  Qgg M [.vC Ai (aA.map Af)]=if C4 aA=0 then some (Bl (AF aA)++[I 0])else some [I 0,I 0,I 0, .vC Ah [], .vC AL [],I (C4 aA)]:=by
 obtain⟨o,G,D⟩:=h;rw[Ztt,G];unfold JM at D;by_cases c:C4 aA=0
 ·rw[ab c]at D⊢;subst D;simp only[go_sem];rw[aa (by simp)];try rfl
 ·rw[aa c]at D⊢;subst D;simp only[go_sem];rw[ab c]
theorem Qyr {aA:List Itm} (hlen:aA.length<=15):H4 [.vC Ai (aA.map Af)]=if C4 aA=0 then some (Bl (AF aA)++[I 0])else some [I 0,I 0,I 0, .vC Ah [], .vC AL [],I (C4 aA)]:=
 Zff (Za8 hlen)
def Kw (aA:List Itm):Nat->Option Nat
 |0=>none
 |i+1=>if(vE aA i).aP=10 then Kw aA i else some i
noncomputable def L6 (aA:List Itm):Int:=
 match Kw aA aA.length with
 |some i=>if smI (vE aA i)/\(vE aA i).bH≠0 then As (AF aA).aF-Ay (A7 (vE aA i)) (Aq (vE aA i).to)else As (AF aA).aF
 |none=>As (AF aA).aF
theorem Y2 {aA:List Itm} {i:Nat}:∀{n:Nat},Kw aA n=some i->i<n/\(vE aA i).aP≠10/\∀j,i<j->j<n->(vE aA j).aP=10
 |0,h=>by cases h
 |n+1,h=>by
  unfold Kw at h;split at h
  ·rename_i c;obtain⟨I,D,G⟩:=Y2 h;refine⟨by omega,D,λj g1 g2=> ?_⟩;by_cases e:j=n
   ·rw[e];exact c
   ·exact G j g1 (by omega)
  ·rename_i c;cases h
   exact⟨by omega,c,λj g1 g2=>by omega⟩
theorem Zq7 {aA:List Itm} (h:(vE aA i).aP=10):(At aA (i+1)).len=(At aA i).len/\CZ aA (i+1)=CZ aA i:=by
 have D: ¬AA (vE aA i):=λg=>by have:=g.2;omega
 constructor
 ·rw[At];unfold Dh;rw[aa D]
 ·rw[CZ,aa D]
theorem Qzo {aA:List Itm} {i:Nat}:∀(k:Nat),(∀j,i<=j->j<i+k->(vE aA j).aP=10)->(At aA (i+k)).len=(At aA i).len/\CZ aA (i+k)=CZ aA i
 |0,_=>⟨rfl,rfl⟩
 |k+1,h=>by
  obtain⟨D,G⟩:=Qzo k λj g1 g2=>h j g1 (by omega);obtain⟨I,L⟩:=Zq7 (h (i+k) (by omega) (by omega));exact⟨I.trans D,L.trans G⟩
theorem Zjs {aA:List Itm} (D:∀j<aA.length,¬B9 (vE aA j)):As (AF aA).aF=(At aA aA.length).len:=by
 have h:=Ia D aA.length (cm _);unfold AF;by_cases hb:(At aA aA.length).bI=true
 ·exact(h.bI hb).2.2.2
 ·obtain⟨g1,g2,-⟩:=h.empty (by simpa using hb);simp only[g1,g2];rfl
theorem Zm1 {it:Itm} (h:it.fr≠it.to):Aq it.to≠A7 it:=by
 intro g;unfold Aq A7 at g;injection g with g1 g2 D;exact h (DX.2 ⟨by omega,by omega,by omega⟩)
theorem Zlf (it:Itm) (h:smI it) (aU aZ aX:Int) (s:(List Sgm×Int×Pt)×Int):
  (D8 it aU aZ aX (D8 it aU aZ aX s (A7 it)) (Aq it.to)).2=(D8 it aU aZ aX (D8 it aU aZ aX s (A7 it)) (Aq it.to)).1.2.1-Ay (A7 it) (Aq it.to):=by
 have D:=Zm1 h.2;have I:(D8 it aU aZ aX s (A7 it)).2=(AU aU aZ aX s.1 (A7 it)).2.1:=ab ⟨h,rfl⟩;have G:(AU aU aZ aX s.1 (A7 it)).2.2=A7 it:=by
  unfold AU;split
  ·rename_i c;exact c.symm
  ·rfl
 have L:(D8 it aU aZ aX s (A7 it)).1=AU aU aZ aX s.1 (A7 it):=rfl;generalize D8 it aU aZ aX s (A7 it)=t at*;have M:(D8 it aU aZ aX t (Aq it.to)).2=t.2:=aa λg=>D g.2;have N:(D8 it aU aZ aX t (Aq it.to)).1=AU aU aZ aX t.1 (Aq it.to):=rfl;rw[M,N,I,L];rw[<-G]at D⊢;rw[G];generalize AU aU aZ aX s.1 (A7 it)=u at*;have O:AU aU aZ aX u (Aq it.to)=(u.1++[⟨Aq it.to,Ay u.2.2 (Aq it.to),aU,aZ,aX⟩],u.2.1+Ay u.2.2 (Aq it.to),Aq it.to):=aa D;rw[O,G];simp only;omega
theorem Z2b {aA:List Itm} (M:Kw aA aA.length=some i) (G:smI (vE aA i)):CZ aA aA.length=(At aA aA.length).len-Ay (A7 (vE aA i)) (Aq (vE aA i).to):=by
 obtain⟨O,-,I⟩:=Y2 M;obtain⟨k,N⟩:∃k,aA.length=i+1+k:=⟨aA.length-(i+1),by omega⟩;have L:AA (vE aA i):=⟨by have:=G.1;omega,by have:=G.1;omega⟩;obtain⟨g1,g2⟩:=Qzo (aA:=aA) (i:=i+1) k λj e1 e2=>I j (by omega) (by omega);have D: ¬0<=BE aA i:=by
  intro c;have T:=Ts c;rcases J4 aA i with h|⟨-,-,m,m1,m2,m3,m4,m5⟩
  ·omega
  ·have:=I m m2 m3;have:=m4.1;omega
 rw[N,g1,g2];have e1:CZ aA (i+1)=(Fs aA i (At aA i) (CZ aA i)).2:=ab L;have e2:(At aA (i+1)).len=(Fs aA i (At aA i) (CZ aA i)).1.2.1:=by
  rw[Q91,At];unfold Dh;rw[ab L]
 rw[e1,e2];unfold Fs;have e3:BY aA i (At aA i).frm=GX aA i (At aA i).frm++[A7 (vE aA i)]++[Aq (vE aA i).to]:=by
  unfold BY;rw[ab G];unfold Gm;rw[aa D];unfold Bv;rw[aa (by have:=G.1;omega)];rfl
 rw[e3,List.foldl_append,List.foldl_append,dv,List.foldl_nil,dv,List.foldl_nil];exact Zlf _ G _ _ _ _
theorem Q2q {MS V:Fn} {aA:List Itm} {aF aD:Rw} {G:Pt} {b:Bool} {len sp D:Int} (hl:aA.length<=1000) (X:∀it,MS (Af it)=some [B (decide (smI it))]):
  ∀n:Nat,n<=aA.length->∃o:Nat×List AC,Am (Po MS V) [.vC Ah aF, .vC AL aD, .vC Ai (aA.map Af),I ((n:Int)-1),I G.x,I G.y,I G.z,B b,I len,I sp,I D]=some o/\
   match Kw aA n with
   |some i=>o=(1,[I (if smI (vE aA i)/\(vE aA i).bH≠0 then D else len)])
   |none=>o=(2,[.vC Ah aF, .vC AL aD,I G.x,I G.y,I G.z,B b,I len,I sp,I D])
 |0,_=>by
  refine⟨_,Bn (o:=(2,_)) ?_ (by simp),rfl⟩;rw[Q6p,Bc (by omega)]
 |n+1,hn=>by
  have T:n<aA.length:=by omega
  have hr:=Fh T;have Y:=X (vE aA n);simp only[Af]at Y;have U:(0:Int)<=(n:Int)/\(n:Int)<(aA.length:Int):=by omega
  have e:((n+1:Nat):Int)-1=n:=by omega
  have L:Po MS V [.vC Ah aF, .vC AL aD, .vC Ai (aA.map Af),I n,I G.x,I G.y,I G.z,B b,I len,I sp,I D]=
    if(vE aA n).aP=10 then some (0,[.vC Ah aF, .vC AL aD, .vC Ai (aA.map Af),I ((n:Int)-1),I G.x,I G.y,I G.z,B b,I len,I sp,I D])
    else some (1,[I (if smI (vE aA n)/\(vE aA n).bH≠0 then D else len)]):=by
   rw[Q6p];simp only[go_sem,ac,af,hr,Y,ab U];rw[ab,Ad];by_cases M:(vE aA n).aP=10
   ·rw[ab M,ab M]
   ·rw[aa M,aa M];by_cases N:smI (vE aA n)
    ·rw[ab N];by_cases O:(vE aA n).bH≠0
     ·rw[ab O,ab ⟨N,O⟩]
     ·rw[aa O,aa (λg=>O g.2)]
    ·rw[aa N,aa (λg=>N g.1)]
  rw[e];unfold Kw;by_cases M:(vE aA n).aP=10
  ·rw[ab M]at L⊢;rw[BB L];exact Q2q hl X n (by omega)
  ·rw[aa M]at L⊢;exact⟨_,Bn L (by simp),rfl⟩
theorem Zsi {aA:List Itm} (hl:aA.length<=15) (hS:∀it,M (Af it)=some [B (decide (smI it))]) (h:∃o,Z [.vC Ai (aA.map Af)]=some o/\JM aA o):
  Qiy M Z (Am (Po M Z)) [.vC Ai (aA.map Af)]=some [I (if C4 aA=0 then L6 aA else 0)]:=by
 obtain⟨o,h1,L⟩:=h;unfold JM at L;by_cases c:C4 aA=0
 ·rw[ab c]at L⊢;have D:=(JF c).2;have O:=Zjs D;have T:=λi U hs=>Z2b (aA:=aA) (i:=i) U hs;have Y:= @Q2q M Z aA ((AF aA).aF.map AB) ((AF aA).aD.map Av) (AF aA).aQ (At aA aA.length).bI (At aA aA.length).len (At aA aA.length).aS (CZ aA aA.length) (by omega) hS aA.length (by omega);obtain⟨r,r1,G⟩:=Y;rw[Q7d,h1];subst L;have hw:V ((aA.length:Int)-1)=(aA.length:Int)-1:=Ad;unfold L6;rw[O];generalize Am (Po M Z)=N at*;simp only[go_sem,ac,hw,r1];rw[aa (by simp)];cases U:Kw aA aA.length with
  |none=>
   rw[U]at G;simp only at G;subst G;rfl
  |some i=>
   rw[U]at G;simp only at G;subst G;simp only[go_sem];by_cases X:smI (vE aA i)/\(vE aA i).bH≠0
   ·rw[ab X,ab X,T i U X.1]
   ·rw[aa X,aa X]
 ·rw[aa c]at L⊢;subst L;rw[Q7d,h1];simp only[go_sem];rw[ab c]
theorem Zmy {aA:List Itm} (D:aA.length<=15):Nz [.vC Ai (aA.map Af)]=some [I (if C4 aA=0 then L6 aA else 0)]:=Zsi D Uh (Za8 D)
end Go.Bm
