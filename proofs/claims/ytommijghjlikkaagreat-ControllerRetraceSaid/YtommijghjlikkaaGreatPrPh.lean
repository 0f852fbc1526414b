/- laid together -/
import Derived.Test.YtommijghjlikkaaGreatPrLc
import Derived.Test.YtommijghjlikkaaGreatMx3
import Derived.Test.YtommijghjlikkaaGreatPrTk
set_option linter.unusedVariables false
set_option linter.unusedSimpArgs false
set_option maxRecDepth 100000
variable {K:Go.Bm.Kf} {a k b v u j m:Int} {p:Go.Bm.Pth} {t:Go.Bm.Trk} {i r A J:Nat} {M Z W T S P O:Go.Bm.Fn} {l:Go.Bm.Rw} {N:Go.Bm.Lp} {g:Go.Bm.Pt}
noncomputable section
open Go.IntKind (wrap)
namespace Go.Bm
def Jk (j:Int) (l:Rw):Prop:=∀r∈l,-j<=gA r 0/\gA r 0<=j
theorem Jk.snoc {r:List AC} (h:Jk j l) (G: -j<=gA r 0/\gA r 0<=j):Jk j (l++[r]):=λx E=>by
 rcases bq.1 E with E|E
 ·exact h x E
 ·rw[dw]at E;subst E;exact G
theorem Zs6 (G:0<=j/\j<=65536):Out (λo=>o.1=1/\(wA o.2 0).length<=65536/\Jk j (wA o.2 0)) (Ak RB [.vC Aa [],I j]):=by
 refine Co (λs:Rw×Int=>[.vC Aa s.1,I s.2]) (λs=>0<=s.2/\s.2<=j/\s.1.length+s.2<=65536/\Jk j s.1) (λs=>s.2.toNat) _ ?_ ([],j) ⟨G.1,bz _,by simp;omega,λr h=>by cases h⟩;rintro⟨v,k⟩ ⟨g1,g0,g2,E⟩;dsimp only at g0 g1 g2 E;rw[Zjs,bh g1,Ae (x:=k/2)];refine .cond (λc=> ?_) (λc=> ?_)
 ·have c:=Bi c;refine .cond (λ_=> ?_) λc=>by rw[Dl (by simp;omega)]at c;cases c
  exact .some (.inl ⟨rfl,(v++[[I k]],k/2),rfl,⟨by dsimp only;omega,by dsimp only;omega,by simp;omega,E.snoc (by show-j<=k/\k<=j;omega)⟩,by dsimp only;omega⟩)
 ·exact .some (.inr ⟨by simp,rfl,by show v.length<=65536;omega,E⟩)
theorem Zea {up out:Rw} (O:0<=j/\j<=65536) (S:up.length<=65536) (G:Jk j up) (T:out.length=up.length+1) (J:Jk j out):Out (λo=>o.1=1/\(wA o.2 0).length<=140000/\Jk j (wA o.2 0)) (Ak (SB N) [.vC Aa up, .vC Aa out,I ((up.length:Int)-1)]):=by
 refine Co (λs:Rw×Int=>[.vC Aa up, .vC Aa s.1,I s.2]) (λs=> -1<=s.2/\s.2<up.length/\s.1.length+s.2<=2*up.length/\Jk j s.1) (λs=>(s.2+1).toNat) _ ?_ (out,(up.length:Int)-1) ⟨by simp only;omega,by simp only;omega,by simp only;omega,J⟩;rintro⟨v,k⟩ ⟨g1,g2,M,E⟩;dsimp only at g1 g2 M E;rw[Z0x,Ae (x:=k-1)];refine .cond (λc=> ?_) (λc=> ?_)
 ·have c:=Bi c;refine .cond (λ_=> ?_) λc=>by simp at c;omega
  refine .cond (λ_=> ?_) λc=>by rw[Dl (by simp;omega)]at c;cases c
  have U: -j<=gA (nth [] up k.toNat) 0/\gA (nth [] up k.toNat) 0<=j:=by
   rw[Gm [] up k.toNat (by omega)];exact G _ (bn _)
  exact .some (.inl ⟨rfl,(_,k-1),rfl,⟨by dsimp only;omega,by dsimp only;omega,by simp;omega,E.snoc (by show-j<=V (0-gA (nth [] up k.toNat) 0)/\V (0-gA (nth [] up k.toNat) 0)<=j;rw[Ae];omega)⟩,by dsimp only;omega⟩)
 ·have c:=Bp c;exact .some (.inr ⟨by simp,rfl,by show v.length<=140000;omega,E⟩)
theorem SX (E:0<=j/\j<=65536):Out (λo=>(wA o 0).length<=140000/\Jk j (wA o 0)) (PZ [I j]):=by
 show Out _ (Z8 (Ak RB) (Ak (SB (Ak RB))) [I j]);rw[Zrm];refine .bind (Zs6 E) λo g=> ?_;rw[g.1];obtain⟨-,g2,G⟩:=g;generalize wA o.2 0=up at*;refine .cond (λ_=> ?_) λc=>by simp at c
 refine .cond (λ_=> ?_) λc=>by rw[Dl (by simp;omega)]at c;cases c
 refine .cond (λ_=> ?_) λc=>by rw[Dl (by simp;omega)]at c;cases c
 rw[Ae (x:=(up.length:Int)-1)];refine .bind (Zea E g2 G (by simp) (by rw[bf];exact G.snoc (by show-j<=0/\0<=j;omega))) λo g=> ?_;rw[g.1];exact .some g.2
def L7 (m0 m1 m3 m4:Int) (Q R:Int->Prop) (o:List AC):Prop:=∃v:Int,o=El m0 m1 m3 m4 v/\(Q v\/∃r:Int,v=V (m1+r)/\R r)
theorem Ts {x:Ax3} {a b c o0 o1:Int} {E b1 b2:Bool} (hb:0<=b/\b<=65536) {m0 m1 m2 m3 m4 m5 l:Int} {Q R F:Int->Prop}
  (hB:Out (λo=>∃r:Int,o=[I r]/\R r) (M [I a,I b,I c,I m1,I m2]))
  (hS:∀v:Int,0<=v->F v->(∃k:Int,-b<=k/\k<=b/\v=V (m1+V (m2+k)))->Out (λo=>bA o 0=true->Q v) (Z (pxt p x t [I a,I b,I c,I (V (m0+v)),I v,I (V (v-m1)),I m0,I m3,I m4,I l])))
  (hF:∀v:Int,Out (λo=>bA o 0=true->F v) (W (DM p t [I a,I b,I c,I o0,I o1,B E,B b1,B b2,I (V (m0+v)),I v,I (V (v-m1)),I m0,I m3,I m4])))
  (J:∀m0 m1 m2 m3 m4 m5 v,T [I m0,I m1,I m2,I m3,I m4,I m5,I v]=some (El m0 m1 m3 m4 v))
  (hR:∀a b c v x,(S [I a,I b,I c,I v,I x]).isSome=true)
  (hC:∀j,0<=j/\j<=65536->Out (λo=>(wA o 0).length<=140000/\Jk j (wA o 0)) (P [I j])):
  Out (L7 m0 m1 m3 m4 Q R) (Qm1 M Z W T S P (Ak (Qn7 M Z W T S P)) (pxt p x t [I a,I b,I c,I o0,I o1,B E,B b1,B b2,I m0,I m1,I m2,I m3,I m4,I m5,I l])):=by
 rw[Z3z];refine .bind (hC b hb) λq N=> ?_;obtain⟨N,hJ⟩:=N;generalize wA q 0=ch at*;refine .bind (p:=λo=>o.1=1/\((∃v:Int,∃g0 g1 g2 O U X:Int,o.2=B true::I a::I b::I c::I m0::I m1::I m2::I m3::I m4::I m5::I g0::I g1::I g2::I O::I U::I X::El m0 m1 m3 m4 v/\Q v)\/∃l:List AC,o.2=B false::I a::I b::I c::I m0::I m1::I m2::I m3::I m4::I m5::l)) ?_ λo g=>by
  obtain⟨g,g2⟩:=g;rw[g];refine .cond (λ_=> ?_) λc=>by simp at c
  rcases g2 with⟨v,g0,g1,g2,O,U,X,e,G⟩|⟨l',e⟩
  ·rw[e];refine .cond (λ_=> .some ⟨v,rfl, .inl G⟩) λc=>by simp[gA,wA,bA,jA,nth,Dh]at c
  ·rw[e];refine .cond (λc=>by simp[gA,wA,bA,jA,nth,Dh]at c) λ_=> ?_;simp only[gA,wA,bA,jA,nth,Ah];refine .bind hB λo g=> ?_;obtain⟨r,rfl,hr⟩:=g;simp only[gA,wA,bA,jA,nth,Ah];rw[J];exact .some ⟨_,rfl, .inr ⟨r,rfl,hr⟩⟩
 refine Co (λs:Nat×(Int×Int×Int×Int×Int×Int)=>I l::B false:: .vC Aa ch::I (ch.length:Int)::I (s.1:Int)::pxt p x t [I a,I b,I c,I o0,I o1,B E,B b1,B b2,I m0,I m1,I m2,I m3,I m4,I m5,I 0,I 0,I 0,I 0,I 0,I 0,I s.2.1,I s.2.2.1,I s.2.2.2.1,I s.2.2.2.2.1,I s.2.2.2.2.2.1,I s.2.2.2.2.2.2])
  (λs=>s.1<=ch.length) (λs=>ch.length-s.1) _ ?_ (0,(0,0,0,0,0,0)) (by simp)
 rintro⟨i,Y,f1,f2,f3,f4,f5⟩ g;dsimp only at g;rw[Zt3];rw[Ae (x:=(i:Int)+1)];refine .cond (λc=> ?_) (λc=> ?_)
 ·have c:=Bi c;refine .cond (λ_=> ?_) λc=>by simp at c;omega
  refine .cond (λ_=> ?_) λpos=> ?_
  ·exact .some (.inl ⟨rfl,(i+1,Y,f1,f2,f3,f4,f5),rfl,by dsimp only;omega,by dsimp only;omega⟩)
  ·have pos:=Bp pos;refine .ibind (hR _ _ _ _ _) λ_ _=> .cond (λ_=> ?_) λ_=> ?_
   ·exact .some (.inl ⟨rfl,(i+1,Y,f1,f2,f3,f4,f5),rfl,by dsimp only;omega,by dsimp only;omega⟩)
   ·have hk:∃k:Int,-b<=k/\k<=b/\V (m1+V (m2+gA (nth [] ch (i:Int).toNat) 0))=V (m1+V (m2+k)):=by
     have:=hJ _ (bn (show i<ch.length by omega));rw[ak,Gm [] ch i (by omega)];exact⟨_,this.1,this.2,rfl⟩
    generalize V (m1+V (m2+gA (nth [] ch (i:Int).toNat) 0))=v at*;rw[J];simp only[ag,gA,wA,bA,jA,nth,Ah];refine .bind (hF v) λof fit=> .cond (λcf=> ?_) λ_=> ?_
    ·refine .bind (hS v (by omega) (fit cf) hk) λo G=> .cond (λc=> ?_) λ_=> ?_
     ·exact .some (.inr ⟨by simp,rfl, .inl ⟨v,0,0,0,0,0,0,rfl,G c⟩⟩)
     ·exact .some (.inl ⟨rfl,(i+1,_,_,_,_,_,_),rfl,by dsimp only;omega,by dsimp only;omega⟩)
    ·exact .some (.inl ⟨rfl,(i+1,_,_,_,_,_,_),rfl,by dsimp only;omega,by dsimp only;omega⟩)
 ·exact .some (.inr ⟨by simp,rfl, .inr ⟨_,rfl⟩⟩)
theorem Z6o {x:Ax3} {Q:Prop} (G:∀{way:Rw},way.length<=100000->(M (pxt p x t [.vC Aa way])).isSome=true)
  {a b c m0 m1 m2 m3 m4 m5 l:Int} (J:Out (λo=>(wA o 0).length<=4096/\(bA o 1=true->Q)) (Z [I a,I b,I c,I m0,I m1,I m2,I m3,I m4,I m5])):
  Out (λo=>bA o 0=true->Q) (TL M Z (pxt p x t [I a,I b,I c,I m0,I m1,I m2,I m3,I m4,I m5,I l])):=by
 rw[Qt9];refine .bind J λo h=> ?_;obtain⟨O,E⟩:=h;generalize wA o 0=sp at*;refine .cond (λ_=> .some λh=>by simp[gA,wA,bA,jA,nth,Dh]at h) λN=> ?_;have E:=E (by simpa using N);refine .cond (λc=> ?_) λc=> ?_
 ·have c:=Bi c;rw[Ae (x:=(sp.length:Int)-1)];refine .cond (λ_=> ?_) λc=>by simp at c;omega
  generalize Ah (nth .dead (nth [] sp ((sp.length:Int)-1).toNat) 0)=e;refine .cond (λ_=> .some λ_=>E) λ_=> ?_;refine .cond (λ_=> ?_) λc=>by rw[Dl (by simp;omega)]at c;cases c
  refine .cond (λ_=> ?_) λc=>by rw[Dl (by simp;omega)]at c;cases c
  exact .ibind (G (by simp;omega)) λ_ _=> .some λ_=>E
 ·refine .cond (λ_=> .some λ_=>E) λ_=> ?_;refine .cond (λ_=> ?_) λc=>by rw[Dl (by simp;omega)]at c;cases c
  refine .cond (λ_=> ?_) λc=>by rw[Dl (by simp;omega)]at c;cases c
  exact .ibind (G (by simp;omega)) λ_ _=> .some λ_=>E
theorem Ztw {a k c:Int} (E:Plan3 a k c) (u v x G J N:Int):Out (λo=>(wA o 0).length<=4096/\(bA o 1=true->(AM a k v x).2=true)) (Fo [I a,I k,I c,I u,I v,I x,I G,I J,I N]):=by
 have key:∀{M:Fn},M [I a,I k,I c,I v,I x]=some [.vC Aa ((AM a k v x).1.map Ao),B (AM a k v x).2]->Out (λo=>(wA o 0).length<=4096/\(bA o 1=true->(AM a k v x).2=true)) (PM M (Ak (H5 M)) [I a,I k,I c,I u,I v,I x,I G,I J,I N]):=by
  intro M O;have hb:=Qq E v x;rw[Uf];refine .bind (p:=λo=>o=_) ⟨_,O,rfl⟩ λo e=> ?_;subst e;refine .cond (λ_=> .some ⟨by simp[wA,nth,CI],λh=>by simp[bA,nth,Dh]at h⟩) λh=> ?_;have S:(AM a k v x).2=true:=by simpa [bA,nth,Dh]using h
  have T:(wA [AC.vC Aa ((AM a k v x).1.map Ao),B (AM a k v x).2] 0).length<=4096:=by
   show((AM a k v x).1.map Ao).length<=4096;rw[af];exact hb.1
  generalize wA [AC.vC Aa ((AM a k v x).1.map Ao),B (AM a k v x).2] 0=sp at*;refine .cond (λ_=> ?_) λc=>by simp at c
  refine .cond (λ_=> ?_) λc=>by simp at c;omega
  refine .bind (Q51 (by simp) T) λo g=> ?_;rw[g.1];exact .some ⟨by show(wA o.2 0).length<=4096;omega,λ_=>S⟩
 exact key (Zcy E v x)
theorem Qc {x:Ax3} (h:Fix p x t) {a b c:Int} (E:Plan3 a b c) (m0 m1 m2 m3 m4 m5 l:Int):Out (λo=>bA o 0=true->(AM a b m1 m2).2=true) (IX (pxt p x t [I a,I b,I c,I m0,I m1,I m2,I m3,I m4,I m5,I l])):=
 Z6o (Qx1 h) (Ztw E _ _ _ _ _ _)
theorem F1 {a k v x:Int}:(AM a k v x).2=true↔Ci a k v x/\(BU a k 4096 v x).2=true:=by
 unfold AM;by_cases h:Ci a k v x/\(BU a k 4096 v x).2=true
 ·rw[ab h];exact⟨λ_=>h,λ_=>rfl⟩
 ·rw[aa h];exact⟨λq=>(by cases q),λq=>absurd q h⟩
theorem Ul {a k c v x:Int} (E:Plan3 a k c) (h:(AM a k v x).2=true):(AM a k (v+AB a k v x) (AB a k v x)).2=true/\
  (AM a k v x).1=if v<=0 then []else(v+AB a k v x)::(AM a k (v+AB a k v x) (AB a k v x)).1:=by
 obtain⟨G,I⟩:=F1.1 h;have O:=closed E G;have V:=DH E O.1;by_cases J:v<=0
 ·have S:v=0:=by have:=DH E G;omega
  have hb:AB a k v x=0:=by
   obtain⟨B,T⟩:∃B,B=bs k v 20 (-x-k) (min (k-x) a):=⟨_,rfl⟩;obtain⟨X,Y,q3,q4,M,q6⟩:=Ot E G T;have:=H3 (k:=k) (b:=B) (by have:=E.b;omega);have hx:=G.2.2.2.2 S;have ha:=E.a;have e:AB a k v x= -B:=by unfold AB;rw[T]
   rw[e];rcases M with M|M
   ·omega
   ·by_cases N:B+1<=0
    ·rw[Id N]at M;omega
    ·omega
  have e0:BU a k 4096 0 0=([],true):=by unfold BU;rw[ab]
  refine⟨?_,?_⟩
  ·rw[hb,S];refine F1.2 ⟨?_,by rw[show(0:Int)+0=0 from rfl,e0]⟩;have:=O.1;rw[hb,S]at this;exact this
  ·rw[ab J];unfold AM;rw[ab ⟨G,I⟩];unfold BU;rw[ab J]
 ·have e:BU a k 4096 v x=((v+AB a k v x)::(BU a k 4095 (v+AB a k v x) (AB a k v x)).1,(BU a k 4095 (v+AB a k v x) (AB a k v x)).2):=by
   show(if v<=0 then _ else _)=_;rw[aa J]
  rw[e]at I;have U:=Zb6 a k 4095 _ _ I;have N:(AM a k (v+AB a k v x) (AB a k v x)).2=true:=F1.2 ⟨O.1,by rw[U];exact I⟩;refine⟨N,?_⟩;rw[aa J];have e2:(AM a k v x).1=(BU a k 4096 v x).1:=by unfold AM;rw[ab (F1.1 h)]
  have e3:(AM a k (v+AB a k v x) (AB a k v x)).1=(BU a k 4096 (v+AB a k v x) (AB a k v x)).1:=by unfold AM;rw[ab (F1.1 N)]
  rw[e2,e3,U,e]
structure KOK (K : Kf) : Prop where
 f:Fix K.p K.x K.t
 plan:Plan3 K.pa K.pb K.pc
 aF:∀g∈K.p.aF,0<=g.aU/\g.aU<K.aA.length/\i64 g.aX
 aD:∀m∈K.p.aD,0<=m.aU/\m.aU<K.aA.length/\i64 m.at_
 count:K.p.aD.length<=1000000
 aS:∀it∈K.aA,it.aP=8->i64 it.aS
 len:i64 K.len
 set:i64 K.set
theorem LD (K:Kf) (c:Cv):Dm (Ab K c)=some [I (V (c.m0.tdiv 256))]:=by
 show Qjt (Ab K c)=_;rw[Zvd]
abbrev AE (c:Cv):Int:=V (c.m0.tdiv 256)
theorem Z93 {E MU:Fn} {c:Cv} {s:Int} (G:MU (Ab K c)=some [I (AE c)]) (J:E (Ba K.t++[I (AE c)])=some [I s]):Z6 E MU (Ab K c)=some [I s]:=by
 rw[Z2e,G];simp only[ag,gA,wA,bA,jA,FB,HO];rw[J];rfl
abbrev At (K:Kf) (c:Cv):Int:=Az K.t (AE c)
theorem Nk (h:KOK K) (c:Cv):Dn (Ab K c)=some [I (At K c)]:=Z93 (LD K c) (PW h.f.t.q (AE c))
theorem Zug (K:Kf) (c:Cv):Pc (Ab K c)=some (I 3::Ab K {c with next:=V (c.idx+1),on:=false,idx:=0,aN:=false,cnt:=0}):=by
 show Qgr (Ab K c)=_;rw[Zva]
theorem Zu7 (K:Kf) (c:Cv):Hd (Ab K c)=some (Ab K (if c.g0=0 then{c with o2:=true,g0:=1,g1:=18,g2:= -1}else c)):=by
 show Qq0 (Ab K c)=_;rw[Znm];cases h:(c.g0==0)
 ·rw[aa (by simpa using h)];rfl
 ·rw[ab (by simpa using h)];rfl
def nxL (K:Kf) (c:Cv) (l:Int):List AC:=pxt K.p K.x K.t [I K.pa,I K.pb,I K.pc,I c.o0,I c.o1,B c.o2,B c.o3,B c.o4,I c.m0,I c.m1,I c.m2,I c.m3,I c.m4,I c.m5,I l]
def nxV (K:Kf) (c:Cv) (l:Int):Int:=gA ((ES (nxL K c l)).getD []) 1
def Mo (K:Kf) (c:Cv):Prop:=(AM K.pa K.pb c.m1 c.m2).2=true
theorem Mo.ready {c:Cv} (h:Mo K c):Ci K.pa K.pb c.m1 c.m2:=(F1.1 h).1
theorem Qoe {c:Cv} {Q R:Int->Prop} (h:Out (L7 c.m0 c.m1 c.m3 c.m4 Q R) (ES (nxL K c a))):Q (nxV K c a)\/∃r:Int,nxV K c a=V (c.m1+r)/\R r:=by
 obtain⟨o,E,v,rfl,G⟩:=h;have e:nxV K c a=v:=by unfold nxV;rw[E];rfl
 rw[e];exact G
theorem QA {c:Cv} (E:Plan3 K.pa K.pb K.pc) (I:Mo K c) {v:Int} (G:v=V (c.m1+AB K.pa K.pb c.m1 c.m2)):v=c.m1+AB K.pa K.pb c.m1 c.m2/\V (v-c.m1)=AB K.pa K.pb c.m1 c.m2/\(AM K.pa K.pb v (V (v-c.m1))).2=true:=by
 have J:=DH E I.ready;have M:=DH E (closed E I.ready).1;rw[Ae]at G;have e:V (v-c.m1)=AB K.pa K.pb c.m1 c.m2:=by rw[G,Ae];omega
 refine⟨G,e,?_⟩;rw[e,G];exact(Ul E I).1
theorem O7 {c:Cv} (E:Plan3 K.pa K.pb K.pc) (G:Mo K c):Out (λo=>∃r:Int,o=[I r]/\r=AB K.pa K.pb c.m1 c.m2) (FN [I K.pa,I K.pb,I K.pc,I c.m1,I c.m2]):=
 ⟨_,Qt6 E G.ready,_,rfl,rfl⟩
theorem Qhk {x:Ax3} (h:Fix p x t) (a b c o0 o1:Int) (E b1 b2:Bool) (m0 m1 m2 m3 m4 m5:Int):Out (λo=>bA o 0=true->True) (Lj (DM p t [I a,I b,I c,I o0,I o1,B E,B b1,B b2,I m0,I m1,I m2,I m3,I m4,I m5])):=
 (Out.of (Zv2 h a b c o0 o1 E b1 b2 m0 m1 m2 m3 m4 m5)).mono λ_ _ _=>trivial
theorem Q6d (h:KOK K) {c:Cv} (E:Mo K c) (l:Int) (G:Bool):Out (L7 c.m0 c.m1 c.m3 c.m4 (λv=>(AM K.pa K.pb v (V (v-c.m1))).2=true) λr=>r=AB K.pa K.pb c.m1 c.m2)
  (ES (pxt K.p K.x K.t [I K.pa,I K.pb,I K.pc,I c.o0,I c.o1,B G,B c.o3,B c.o4,I c.m0,I c.m1,I c.m2,I c.m3,I c.m4,I c.m5,I l])):=
 Ts (F:=λ_=>True) (by have:=h.plan.b;omega) (O7 h.plan E) (λv _ _ _=>Qc h.f h.plan _ _ _ _ _ _ _) (λv=>Qhk h.f ..) OX R_ (λ_ J=>SX J)
def Qr (m0 m1 m3 m4:Int) (Q R:Int->Prop) (o:List AC):Prop:=∃v s b z g e:Int,o=El m0 m1 m3 m4 v++[I s,I b,I z,I g,I e]/\(Q v\/∃r:Int,v=V (m1+r)/\R r)
theorem Qtd {x:Ax3} {a b c:Int} {b0 b1 b2:Bool} {m0 m1 m2 m3 m4 m5 l aX g0 g1 g2 J N U:Int} {Q R:Int->Prop}
  (hN:Out (L7 m0 m1 m3 m4 Q R) (M (pxt p x t [I a,I b,I c,I k,I u,B false,B b1,B b2,I m0,I m1,I m2,I m3,I m4,I m5,I l])))
  (hB:Out (λo=>∃r:Int,o=[I r]/\R r) (Z [I a,I b,I c,I m1,I m2]))
  (X:∀a b c x3 x4 x5 x6 x7 x8,(W [I a,I b,I c,I x3,I x4,I x5,I x6,I x7,I x8]).isSome=true)
  (Y:∀v:Int,Out (λo=>bA o 0=true->Q v) (T (pxt p x t [I a,I b,I c,I (V (m0+v)),I v,I (V (v-m1)),I m0,I m3,I m4,I l])))
  (G:∀m0 m1 m2 m3 m4 m5 v,S [I m0,I m1,I m2,I m3,I m4,I m5,I v]=some (El m0 m1 m3 m4 v))
  (hF:∀v,i64 v->(P [I aX,I v]).isSome=true) (hD:∀a b,∃v,O [I a,I b]=some [I v]/\i64 v):
  Out (Qr m0 m1 m3 m4 Q R) (Qm2 M Z W T S P O (pxt p x t [I a,I b,I c,I k,I u,B b0,B b1,B b2,I m0,I m1,I m2,I m3,I m4,I m5,I l,I aX,I g0,I g1,I g2,I J,I N,I U])):=by
 rw[Z1j];obtain⟨v1,e1,w1⟩:=hD U g2;obtain⟨v2,e2,w2⟩:=hD N g2;rw[e1,e2];simp only[ag,gA,wA,bA,jA,FB,IT,HO];have next:∀s E z g e:Int,Out (Qr m0 m1 m3 m4 Q R) ((M (pxt p x t [I a,I b,I c,I k,I u,B false,B b1,B b2,I m0,I m1,I m2,I m3,I m4,I m5,I l])).bind λo=>some [I (gA o 0),I (gA o 1),I (gA o 2),I (gA o 3),I (gA o 4),I (gA o 5),I s,I E,I z,I g,I e]):=λs E z g e=>by
  refine .bind hN λo h=> ?_;obtain⟨v,rfl,h⟩:=h;exact .some ⟨v,s,E,z,g,e,rfl,h⟩
 refine .ibind (hF _ w1) λf1 _=> .cond (λ_=> ?_) λ_=> .cond (λ_=> ?_) λ_=>next _ _ _ _ _
 ·refine .ibind (hF _ w2) λf2 _=> ?_;rw[G];generalize V (Ah (nth AC.dead f1 0)-Ah (nth AC.dead f2 0))=v;simp only[ag,gA,wA,bA,jA,FB,IT,HO];refine .cond (λ_=> ?_) λ_=>next _ _ _ _ _
  refine .bind (Y v) λo h=> .cond (λc=> ?_) λ_=>next _ _ _ _ _
  exact .some ⟨v,_,_,_,_,_,rfl, .inl (h c)⟩
 ·rw[G];generalize V (V (V (g1+Ah (nth AC.dead f1 0))-J)-m0)=v;simp only[ag,gA,wA,bA,jA,FB,IT,HO];have stop:∀s E z g e:Int,Out (Qr m0 m1 m3 m4 Q R) ((Z [I a,I b,I c,I m1,I m2]).bind λo=>(S [I m0,I m1,I m2,I m3,I m4,I m5,I (V (m1+gA o 0))]).bind λq=>some [I (gA q 0),I (gA q 1),I (gA q 2),I (gA q 3),I (gA q 4),I (gA q 5),I s,I E,I z,I g,I e]):=λs E z g e=>by
   refine .bind hB λo h=> ?_;obtain⟨r,rfl,hr⟩:=h;rw[G];exact .some ⟨_,s,E,z,g,e,rfl, .inr ⟨r,rfl,hr⟩⟩
  refine .cond (λ_=> ?_) λ_=> ?_
  ·refine .bind (Y v) λo h=> .cond (λc=> ?_) λ_=> ?_
   ·exact .some ⟨v,_,_,_,_,_,rfl, .inl (h c)⟩
   ·refine .ibind (X _ _ _ _ _ _ _ _ _) λ_ _=> .cond (λ_=> .cond (λ_=>stop _ _ _ _ _) λ_=>stop _ _ _ _ _) λ_=>stop _ _ _ _ _
  ·refine .ibind (X _ _ _ _ _ _ _ _ _) λ_ _=> .cond (λ_=> .cond (λ_=>stop _ _ _ _ _) λ_=>stop _ _ _ _ _) λ_=>stop _ _ _ _ _
theorem Zxi (h:KOK K) {c:Cv} (E:Mo K c) (l:Int) {aX:Int} (G:i64 aX):Out (Qr c.m0 c.m1 c.m3 c.m4 (λv=>(AM K.pa K.pb v (V (v-c.m1))).2=true) λr=>r=AB K.pa K.pb c.m1 c.m2)
  (It (pxt K.p K.x K.t [I K.pa,I K.pb,I K.pc,I c.o0,I c.o1,B c.o2,B c.o3,B c.o4,I c.m0,I c.m1,I c.m2,I c.m3,I c.m4,I c.m5,I l,I aX,I c.e0,I c.e1,I c.e2,I c.e3,I c.before,I c.s3])):=
 Qtd (Q6d h E l false) (O7 h.plan E) Qvt (λv=>Qc h.f h.plan _ _ _ _ _ _ _) OX (λ_ J=>Zb4 G J) Q7e
theorem Qv0 (h:KOK K) {c:Cv} (G:Mo K c) {v:Int} (I:(AM K.pa K.pb v (V (v-c.m1))).2=true\/∃r:Int,v=V (c.m1+r)/\r=AB K.pa K.pb c.m1 c.m2):(AM K.pa K.pb v (V (v-c.m1))).2=true:=by
 rcases I with E|⟨r,E,J⟩
 ·exact E
 ·subst J;exact(QA h.plan G E).2.2
theorem PJ {a k c:Int} (E:Plan3 a k c):(AM a k 0 0).2=true:=by
 refine F1.2 ⟨?_,by unfold BU;rw[ab]⟩;have G:=E.a;have hb:=E.b
 refine⟨by omega,by omega,?_,?_,λ_=>by omega⟩
 ·rw[Id (by omega)];omega
 ·rw[Id (by omega)];omega
theorem Zy2 (o0 o1:Int) (b1 b2:Bool) (a b c:Int) (r:List AC):OQ (I o0::I o1::B true::B b1::B b2::I a::I b::I c::AT Ag r)=some [I 0]:=by
 rw[Q7t];show Vn _=_;rw[Q9y];rfl
theorem Z5f {J M N MU:Fn} {a b c o0 o1:Int} {b1 b2:Bool} (O:∀r,J (I o0::I o1::B true::B b1::B b2::I a::I b::I c::AT Ag r)=some [I 0])
  (S:∀s,i64 s->∃i v:Int,M (BC p++[I s])=some [I i,I v]/\(i= -1\/0<=i/\i<p.aF.length)/\(p.aF≠[]->0<=i)) (T:∀u,∃s,N (Ba t++[I u])=some [I s]/\i64 s) (U:∀u,(MU [I u]).isSome=true) (E:p.aF≠[]) (u:Int):
  Out (λo=>gA o 0=0) (U_ J M N MU (DM p t [I a,I b,I c,I o0,I o1,B true,B b1,B b2,I u])):=by
 rw[Qzq];refine .ibind (U _) λq _=> ?_;obtain⟨s,V,X⟩:=T (gA q 0);refine .bind (p:=λo=>o=[I s]) ⟨_,V,rfl⟩ λo e=> ?_;subst e;obtain⟨i,v,g1,g2,G⟩:=S s X;refine .bind (p:=λo=>o=[I i,I v]) ⟨_,g1,rfl⟩ λo e=> ?_;subst e;have G:=G E;refine .cond (λ_=> ?_) λc=> ?_
 ·refine .bind (p:=λo=>o=[I 0]) ⟨_,O _,rfl⟩ λo e=> ?_;subst e;exact .some rfl
 ·refine(inB (show 0<=i from G) (show i<((p.aF.map Av).length:Int)from ?_) c).elim;rw[af];omega
theorem Zv0 {x:Ax3} (h:Fix p x t) (E:p.aF≠[]) (a b c o0 o1:Int) (b1 b2:Bool) (u:Int):
  Out (λo=>gA o 0=0) (LW (DM p t [I a,I b,I c,I o0,I o1,B true,B b1,B b2,I u])):=
 Z5f (λr=>Zy2 o0 o1 b1 b2 a b c r) (λ_ G=>Q9j h G) (λu=>⟨_,PW h.t.q u,VR h u⟩) Qp8 E u
theorem Z3v {a b c o0 o1:Int} {b1 b2:Bool} (E:p.aF≠[]->∀u,Out (λo=>gA o 0=0) (M (DM p t [I a,I b,I c,I o0,I o1,B true,B b1,B b2,I u])))
  (O:∀a b c S T U V X Y,Out (λo=>(wA o 0).length<=4096) (Z [I a,I b,I c,I S,I T,I U,I V,I X,I Y])) (m0 m1 m2 m3 m4 m5:Int):
  Out (λo=>bA o 0=true->m1<=0) (UW M Z (Ak (ST M Z)) (DM p t [I a,I b,I c,I o0,I o1,B true,B b1,B b2,I m0,I m1,I m2,I m3,I m4,I m5])):=by
 rw[Qxn];refine .bind (O a b c m0 m1 m2 m3 m4 m5) λo h2=> ?_;have no:∀{x:List AC},x=[B false]->bA x 0=true->m1<=0:=λe h=>by subst e;simp[bA,nth,Dh]at h
 generalize wA o 0=sp at*;refine .cond (λ_=> .some (no rfl)) λ_=> .cond (λ_=> .some (no rfl)) λN=> ?_;have G:p.aF≠[]:=by
  intro e;rw[e]at N;simp at N
 have E:=E G;refine .bind (E _) λq hq=> .cond (λ_=> .some (no rfl)) λJ=> ?_;have J: ¬m1>gA q 0:=Bp J;rw[hq]at J;refine .bind (p:=λo=>o.1=1\/o.1=2) ?_ λo g=>by rcases g with g|g<;>rw[g]<;>exact .some λ_=>by omega
 refine Co (λs:Int×Nat=>I s.1:: .vC Aa sp::I (sp.length:Int)::I (s.2:Int)::DM p t [I a,I b,I c,I o0,I o1,B true,B b1,B b2]) (λs=>s.2<=sp.length) (λs=>sp.length-s.2) _ ?_ (m0,0) (by simp);rintro⟨v,i⟩ g;dsimp only at g;rw[Qwy];rw[Ae (x:=(i:Int)+1)];refine .cond (λc=> ?_) (λc=> ?_)
 ·have c:=Bi c;refine .cond (λ_=> ?_) λc=>by simp at c;omega
  refine .bind (E _) λ_ _=> .cond (λ_=> .some (.inr ⟨by simp, .inl rfl⟩)) λ_=> ?_;exact .some (.inl ⟨rfl,(_,i+1),rfl,by dsimp only;omega,by dsimp only;omega⟩)
 ·exact .some (.inr ⟨by simp, .inr rfl⟩)
theorem Zeu {x:Ax3} (h:Fix p x t) (a b c o0 o1:Int) (b1 b2:Bool) (m0 m1 m2 m3 m4 m5:Int):
  Out (λo=>bA o 0=true->m1<=0) (Lj (DM p t [I a,I b,I c,I o0,I o1,B true,B b1,B b2,I m0,I m1,I m2,I m3,I m4,I m5])):=
 Z3v (λE u=>Zv0 h E a b c o0 o1 b1 b2 u) VX m0 m1 m2 m3 m4 m5
theorem Q71 (h:KOK K) {c:Cv} (I:Mo K c) (T:c.o2=true) (l:Int):nxV K c l=c.m1+AB K.pa K.pb c.m1 c.m2:=by
 have E:=h.plan;have N:=I.ready;have rg:=DH E N;have J:Out (L7 c.m0 c.m1 c.m3 c.m4 (λv=>(AM K.pa K.pb v (V (v-c.m1))).2=true/\v=0/\∃k:Int,-K.pb<=k/\k<=K.pb/\v=V (c.m1+V (c.m2+k))) λr=>r=AB K.pa K.pb c.m1 c.m2) (ES (nxL K c l)):=by
  unfold nxL;rw[T];exact Ts (F:=λv=>v<=0) (by have:=E.b;omega) (O7 E I) (λv h0 G U=>(Qc h.f E _ _ _ _ _ _ _).mono λo J hb=>⟨J hb,by omega,U⟩) (λv=>Zeu h.f ..) OX R_ (λ_ X=>SX X)
 rcases Qoe J with⟨G,M,k,k1,k2,O⟩|⟨r,G,M⟩
 ·have hb:=E.b;have ha:=E.a
  rw[M]at G O⊢;rw[Ae (x:=c.m2+k),Ae (x:=c.m1+(c.m2+k))]at O;rw[Ae (x:=0-c.m1)]at G;obtain⟨⟨q1,q2,Y,q4,q5⟩,-⟩:=F1.1 G;have e1: -(0-c.m1)=c.m1:=by omega
  rw[e1]at Y;obtain⟨B,S⟩:∃B,B=bs K.pb c.m1 20 (-c.m2-K.pb) (min (K.pb-c.m2) K.pa):=⟨_,rfl⟩;obtain⟨b1,b2,b3,b4,b5,b6⟩:=Ot E N S;have l0:=H3 (k:=K.pb) (b:=B) (by omega);have eb:AB K.pa K.pb c.m1 c.m2= -B:=by unfold AB;rw[S]
  rw[eb];by_cases a0:B<c.m1
  ·rcases b5 with b5|b5
   ·omega
   ·have:=VN (k:=K.pb) (b:=B+1) (c:=c.m1) (by omega) (by omega);omega
  ·omega
 ·subst M;exact(QA E I G).1
theorem Q0l (K:Kf) {i:Nat} (h:i<K.aA.length):nth [] (K.aA.map Af) i=Af K.aA[i]:=by
 rw[B7,List.getD,fo,ai h];rfl
theorem Z3q (K:Kf) {i:Nat} (h:i<K.p.aD.length):nth [] (K.p.aD.map Aw) i=Aw K.p.aD[i]:=by
 rw[B7,List.getD,fo,ai h];rfl
theorem Zrt (h:KOK K) (i:Nat) (E:gA (nth [] (K.aA.map Af) i) 0=8):i64 (gA (nth [] (K.aA.map Af) i) 20):=by
 by_cases c:i<K.aA.length
 ·rw[Q0l K c]at E⊢;exact h.aS _ (bn c) E
 ·have e:nth [] (K.aA.map Af) i=[]:=by
   rw[B7,List.getD,dm (by rw[af];omega)];rfl
  rw[e];show i64 0;unfold i64;omega
structure Gd (K : Kf) (n : Int) (c : Cv) : Prop where
 way:c.way=0
 pass:0<=c.aK/\c.aK<=K.p.aD.length
 task:c.on=true->0<=c.idx/\c.idx<K.p.aD.length
 mo:Mo K c
 m0: -(16777216*n)<=c.m0/\c.m0<=16777216*n
theorem Gd.up {n:Int} {c:Cv} (h:Gd K n c) (E:0<=n):Gd K (n+1) c:=
 ⟨h.way,h.pass,h.task,h.mo,by have:=h.m0;omega⟩
theorem Gd.bD (h:KOK K) {n:Int} {c:Cv} (g:Gd K n c) (I:0<=n/\n<=10000) {v:Int} (G:(AM K.pa K.pb v (V (v-c.m1))).2=true\/∃r:Int,v=V (c.m1+r)/\r=AB K.pa K.pb c.m1 c.m2):
  Gd K (n+1) {c with m0:=V (c.m0+v),m1:=v,m2:=V (v-c.m1),m3:=c.m0,m4:=c.m3,m5:=c.m4}:=by
 have h0:=g.m0;have E:=Qv0 h g.mo G;have J:=DH h.plan (F1.1 E).1;refine⟨g.way,g.pass,g.task,E,?_⟩;show-(16777216*(n+1))<=V (c.m0+v)/\V (c.m0+v)<=16777216*(n+1);rw[Ae];omega
theorem Gd.same {n:Int} {c c':Cv} (g:Gd K n c) (E:c'.way=c.way) (G:c'.aK=c.aK) (I:c'.on=c.on) (J:c'.idx=c.idx) (M:c'.m0=c.m0) (N:c'.m1=c.m1) (O:c'.m2=c.m2):Gd K n c':=
 ⟨E▸g.way,G▸g.pass,by rw[I,J];exact g.task,by have:=g.mo;unfold Mo at*;rw[N,O];exact this,M▸g.m0⟩
theorem Q2d {c:Cv} (h:c.way=0):Jp (Ab K c)=some (I 0::B false::Ab K c):=by
 have key:∀{A B':Fn},Ta A B' (Ab K c)=some (I 0::B false::Ab K c):=by
  intro A B';rw[Qzt,Ca (by simp[h])]
 exact key
abbrev stand (c:Cv):Cv:={c with m0:=V (AE c*256),m1:=0,m2:=0,m3:=V (AE c*256),m4:=V (AE c*256),m5:=V (AE c*256)}
theorem Qdk (u:Int):HA [I u]=some [I (V (u*256)),I 0,I 0,I (V (u*256)),I (V (u*256)),I (V (u*256))]:=by
 show Qcx [I u]=_;rw[Z5l]
theorem Zkr {E MU:Fn} {c:Cv} (G:MU (Ab K c)=some [I (AE c)]) (J:∀u:Int,E [I u]=some [I (V (u*256)),I 0,I 0,I (V (u*256)),I (V (u*256)),I (V (u*256))]):
  Qk1 E MU (Ab K c)=some (if c.g0=2 then I 6::B true::Ab K (stand c)else I 0::B false::Ab K c):=by
 rw[Zr8];by_cases h:c.g0=2
 ·rw[ab h,BI (by simp[h]),G];simp only[ag,gA,wA,bA,jA,FB,HO];rw[J];rfl
 ·rw[aa h,Ca (by simpa using h)]
theorem Q2e (K:Kf) (c:Cv):LT (Ab K c)=some (if c.g0=2 then I 6::B true::Ab K (stand c)else I 0::B false::Ab K c):=Zkr (LD K c) Qdk
theorem Qwe (K:Kf) (c:Cv):LV (Ab K c)=some (I c.aI::B (c.aI !=0)::Ab K c):=by
 show Wo (Ab K c)=_;rw[Zfy]
theorem Q0i (K:Kf) (c:Cv):Me (Ab K c)=some (if c.aH=true/\c.aM=true then I 8::B true::Ab K {c with aI:=8}else I 0::B false::Ab K c):=by
 show Qkd (Ab K c)=_;rw[Zmo];by_cases h:c.aH=true
 ·by_cases E:c.aM=true
  ·rw[ab ⟨h,E⟩,BI (by simp[h]),BI (by simp[E]),h,E]
  ·rw[aa (λe=>E e.2),BI (by simp[h]),Ca (by simpa using E)]
 ·rw[aa (λe=>h e.1),Ca (by simpa using h)]
theorem Qvu (h: -v<=a/\a<=v): -v<=a.tdiv 256*256/\a.tdiv 256*256<=v:=by
 by_cases k:0<=a
 ·rw[bh k];omega
 ·obtain⟨b,rfl⟩:∃b,a= -b:=⟨-a,by omega⟩;rw[Int.neg_tdiv,bh (by omega)];omega
theorem Gd.stand (h:KOK K) {n:Int} {c:Cv} (g:Gd K n c) (E:0<=n/\n<=10000):Gd K n (stand c)/\AE (stand c)=AE c:=by
 have h0:=Qvu g.m0;have e:AE c=c.m0.tdiv 256:=Ae;have e2:(Go.Bm.stand c).m0=c.m0.tdiv 256*256:=by
  show V (AE c*256)=_;rw[e,Ae]
 refine⟨⟨g.way,g.pass,g.task,PJ h.plan,?_⟩,?_⟩
 ·rw[e2];omega
 ·show V ((Go.Bm.stand c).m0.tdiv 256)=_;rw[e2,Int.mul_tdiv_cancel _ (by omega),e,Ae]
theorem Out.eqv {α:Type} {p:α->Prop} {a b:Option α} (h:a=b) (g:Out p b):Out p a:=h▸g
abbrev B8 (pul outs:Rw) (mode s:Int) (m:Pt) (sp fault:Int):List AC:=[.vC kPt pul, .vC Aa outs,I mode,I s,I m.x,I m.y,I m.z,I sp,I fault]
abbrev Cg:List AC:=[.vC kPt [], .vC Aa [],I 0,I 0,I 0,I 0,I 0,I 0,I 0]
theorem Y0 {n:Int} {c:Cv} (g:Gd K n c) (G:0<=n/\n<=10010): -300000000000<=AE c/\AE c<=300000000000:=by
 have h:=g.m0;have E: -300000000000<=c.m0/\c.m0<=300000000000:=by omega
 have I:=Qvu E;have e:AE c=c.m0.tdiv 256:=Ae;omega
theorem Zrl (r k:Int):(A6 r k=r/\A7 r k=0)\/(A6 r k=0/\A7 r k=r)\/(A6 r k= -r/\A7 r k=0)\/(A6 r k=0/\A7 r k= -r):=by
 have E:k%4=0\/k%4=1\/k%4=2\/k%4=3:=by omega
 unfold A6 A7;rcases E with h|h|h|h<;>simp[h]
theorem Q78 (r k:Int):sq2 (A6 r k) (A7 r k)=r*r:=by
 unfold sq2;rcases Zrl r k with⟨E,G⟩|⟨E,G⟩|⟨E,G⟩|⟨E,G⟩<;>rw[E,G]<;>grind
theorem Zit (G:v=1\/v=2\/v=3) (I:0<a) (J:0<b):crs (A6 a k) (A7 a k) (A6 b (k+v)) (A7 b (k+v))≠0\/dt2 (A6 a k) (A7 a k) (A6 b (k+v)) (A7 b (k+v))<0:=by
 have M:k%4=0\/k%4=1\/k%4=2\/k%4=3:=by omega
 have N:0<a*b:=Int.mul_pos I J;have S: -a*b= -(a*b)/\a* -b= -(a*b)/\ -a* -b=a*b:=⟨j6 ..,Int.mul_neg ..,Int.neg_mul_neg ..⟩;have e:∀j:Int,(k+v)%4=j->∀i:Int,k%4=i->crs (A6 a k) (A7 a k) (A6 b (k+v)) (A7 b (k+v))=(if i=0 then a else if i=2 then-a else 0)*(if j=1 then b else if j=3 then-b else 0)-(if i=1 then a else if i=3 then-a else 0)*(if j=0 then b else if j=2 then-b else 0)/\
   dt2 (A6 a k) (A7 a k) (A6 b (k+v)) (A7 b (k+v))=(if i=0 then a else if i=2 then-a else 0)*(if j=0 then b else if j=2 then-b else 0)+(if i=1 then a else if i=3 then-a else 0)*(if j=1 then b else if j=3 then-b else 0):=by
  intro j O i hi;subst O hi;exact⟨rfl,rfl⟩
 rcases G with rfl|rfl|rfl<;>rcases M with E|E|E|E
 ·obtain⟨e1,e2⟩:=e 1 (by omega) _ E;simp at e1 e2;omega
 ·obtain⟨e1,e2⟩:=e 2 (by omega) _ E;simp at e1 e2;omega
 ·obtain⟨e1,e2⟩:=e 3 (by omega) _ E;simp at e1 e2;omega
 ·obtain⟨e1,e2⟩:=e 0 (by omega) _ E;simp at e1 e2;omega
 ·obtain⟨e1,e2⟩:=e 2 (by omega) _ E;simp at e1 e2;omega
 ·obtain⟨e1,e2⟩:=e 3 (by omega) _ E;simp at e1 e2;omega
 ·obtain⟨e1,e2⟩:=e 0 (by omega) _ E;simp at e1 e2;omega
 ·obtain⟨e1,e2⟩:=e 1 (by omega) _ E;simp at e1 e2;omega
 ·obtain⟨e1,e2⟩:=e 3 (by omega) _ E;simp at e1 e2;omega
 ·obtain⟨e1,e2⟩:=e 0 (by omega) _ E;simp at e1 e2;omega
 ·obtain⟨e1,e2⟩:=e 1 (by omega) _ E;simp at e1 e2;omega
 ·obtain⟨e1,e2⟩:=e 2 (by omega) _ E;simp at e1 e2;omega
theorem Zul {it:Itm} (h:ArcMade a it):Qjb it:=by
 obtain⟨r,k,t,g,x,M,h2,h3,h4,h5,h6,N,T,h9,O,I,E,J⟩:=h.ends;have G:=h.aG;have a1:dU it it.fr=A6 r k:=by unfold dU;rw[E,(Ho G).1];omega
 have a2:dW it it.fr=A7 r k:=by unfold dW;rw[E,(Ho G).2.1];omega
 have a3:dU it it.to=A6 (r+g) (k+t):=by unfold dU;rw[E,J,(Ho G).1,(Ho G).1];omega
 have a4:dW it it.to=A7 (r+g) (k+t):=by unfold dW;rw[E,J,(Ho G).2.1,(Ho G).2.1];omega
 have V:qA it=r*r:=by unfold qA;rw[a1,a2,Q78]
 have X:qB it=(r+g)*(r+g):=by unfold qB;rw[a3,a4,Q78]
 have m1:64<=r*r:=by
  have:=f6 M M (by omega) (by omega);omega
 have m2:64<=(r+g)*(r+g):=by
  have:=f6 (show(8:Int)<=r+g by omega) (show(8:Int)<=r+g by omega) (by omega) (by omega);omega
 unfold Qjb;refine⟨by omega,by omega,?_,?_,?_⟩
 ·rw[V,X];unfold IG;right;have hg:g*g<=16:=by
   have:=f6 T T N (by omega);omega
  have e1:r*r+(r+g)*(r+g)-16=2*(r*(r+g))+(g*g-16):=by grind
  have U:0<=r*(r+g):=fy (by omega) (by omega);have Y:64<=r*(r+g):=by
   have:=f6 M (show(8:Int)<=r+g by omega) (by omega) (by omega);omega
  have a0:0<=g*g:=fy N N;have e2:4*(r*r)*((r+g)*(r+g))=(2*(r*(r+g)))*(2*(r*(r+g))):=by grind
  rw[e1,e2];generalize 2*(r*(r+g))=m at*;exact iv (by omega) (by omega)
 ·intro hf;rw[I]at hf;have S:=of_decide_eq_true hf;rw[a1,a2,a3,a4,S,O S,iz,iz];exact⟨rfl,rfl⟩
 ·intro hf;rw[I]at hf;have S:=j9 hf;unfold cAB dAB;rw[a1,a2,a3,a4];exact Zit (by omega) (by omega) (by omega)
theorem Zas {it:Itm} (h:Made it) (G:bd 1000000 it.fr) (I:bd 1000000 it.to):Ed it:=by
 refine⟨h.aP,A3 G (by omega),A3 I (by omega),λJ=> ?_⟩;have E:=h.arc J;exact⟨E.aG,E.dir,A3 (Ve E (by omega) G).2 (by omega),Zul E⟩
end Go.Bm
namespace Go.Bm
open Classical
structure Oth (it : Itm) : Prop where
 aP:7<=it.aP/\it.aP<=14
 spin:it.aP=8->3<=it.n/\it.n<=5/\0<=it.aS/\it.aS<=4000
 dwell:it.aP=7->0<=it.n/\it.n<=4
 out:it.aP=10->0<=it.n/\it.n<=15
def HS:Pt->List Itm->Prop
 |_,[]=>True
 |p,it::l=>if AK it then it.fr=p/\HS it.to l else HS p l
def Q4:Pt->List Itm->Pt
 |p,[]=>p
 |p,it::l=>if AK it then Q4 it.to l else Q4 p l
theorem Xy {it:Itm}:∀{l:List Itm} {p:Pt},HS p l->(AK it->it.fr=Q4 p l)->HS p (l++[it])
 |[],p,_,h=>by
  simp only[bf,HS];split
  ·rename_i c;exact⟨h c,trivial⟩
  ·trivial
 |a::l,p,E,h=>by
  simp only[az,HS]at E⊢;unfold Q4 at h;by_cases c:AK a
  ·rw[ab c]at E h⊢;exact⟨E.1,Xy E.2 h⟩
  ·rw[aa c]at E h⊢;exact Xy E h
structure Items (A : Nat) (p : Pt) (l : List Itm) : Prop where
 link:HS p l
 made:∀it∈l,(AK it/\Made it/\GM it/\bd A it.fr/\bd A it.to)\/Oth it
theorem Zk6 {l:List Itm} {it:Itm} (h:Items A g l) (E:AK it->it.fr=Q4 g l) (G:(AK it/\Made it/\GM it/\bd A it.fr/\bd A it.to)\/Oth it):Items A g (l++[it]):=by
 refine⟨Xy h.link E,λi hi=> ?_⟩;simp only[bq,dw]at hi;rcases hi with hi|rfl
 ·exact h.made i hi
 ·exact G
theorem Qyt {it:Itm} (h:Oth it): ¬AK it:=λg=>by have:=h.aP;have:=g.2;omega
theorem Qnt {aA:List Itm} (G:A<=1000000) (J:∀it∈aA,(AK it/\Made it/\GM it/\bd A it.fr/\bd A it.to)\/Oth it):∀(k i:Nat) (last:Int) (p:Pt),i+k=aA.length->HS p (aA.drop i)->(0<=last->(itA aA last.toNat).to=p)->G5 aA k i last=0
 |0,_,_,_,_,_,_=>rfl
 |k+1,i,last,p,hi,h,O=>by
  have E:i<aA.length:=by omega
  have M:=J _ (Zdl E);rw[Qog E]at h;unfold HS at h;unfold G5;have S: ¬Cc (itA aA i):=by
   rcases M with⟨T,I,h3,U,V⟩|N
   ·have X:=Zas I (A3 U G) (A3 V G);have hf:=I.aZ;have hb:=I.blend;have Y:=I.aP;rintro(g|g|⟨-,g|g|g|g⟩|⟨g,-⟩)
    ·omega
    ·omega
    ·exact g X
    ·omega
    ·omega
    ·omega
    ·exact g T
   ·have Y:=N.aP;rintro(g|g|⟨g,-⟩|⟨-,g1,g2⟩)
    ·omega
    ·omega
    ·exact Qyt N g
    ·have:=N.spin g1;omega
  rw[aa S];by_cases c:AK (itA aA i)
  ·rw[ab c]at h⊢;rw[aa (λg=>g.2 (by rw[O g.1];exact h.1.symm))];exact Qnt G J k (i+1) i _ (by omega) h.2 (λ_=>by rw[ak])
  ·rw[aa c]at h⊢;exact Qnt G J k (i+1) last p (by omega) h O
theorem Q6x {aA:List Itm} (E:A<=1000000) (h:Items A g aA) (G:aA.length<=20000):Do aA=0:=by
 unfold Do;rw[aa];exact Qnt E h.made aA.length 0 (-1) g (by omega) (by rw[f9];exact h.link) (λh=>by omega)
end Go.Bm
namespace Go.Bm
theorem Zjq (S:∀{hi lo y:Nat},hi<y->y<w64->lo<w64->M [U hi,U lo,U y]=some [U (((hi*w64+lo)/y:Nat):Int),U (((hi*w64+lo)%y:Nat):Int)])
  {hi lo y:Nat} (G:hi<w64) (I:lo<w64) (E:0<y) (T:y<w64):
  ∃J N:Nat,Qdu M [U hi,U lo,U y]=some [U J,U N,B (decide (0<(hi*w64+lo)%y))]/\J<w64/\N<w64/\J*w64+N=(hi*w64+lo)/y:=by
 have V:=S (hi:=0) (lo:=hi) E T G;rw[ja,d9,show((0:Nat):Int)=0 from rfl]at V;have X:=ia hi E;have Y:=S (hi:=hi%y) (lo:=lo) X T I;have e:=gv hi y;have e2:hi*w64+lo=hi%y*w64+lo+hi/y*w64*y:=by
  have:hi*w64=hi/y*w64*y+hi%y*w64:=by
   rw[<-e,Nat.mul_add_mod,Nat.mod_mod];rw[show(y*(hi/y)+hi%y)/y=hi/y from by rw[e]];rw[dt,fg y,ik,fg y,ik]
  omega
 have hq:(hi*w64+lo)/y=(hi%y*w64+lo)/y+hi/y*w64:=by rw[e2,Nat.add_mul_div_right _ _ E]
 have hr:(hi*w64+lo)%y=(hi%y*w64+lo)%y:=by rw[e2,Nat.add_mul_mod_self_right]
 have O:(hi%y*w64+lo)/y<w64:=by
  rw[fh E];have:hi%y*w64+w64<=y*w64:=by rw[<-ij];exact bp _ X
  rw[fg w64];omega
 refine⟨hi/y,(hi%y*w64+lo)/y,?_,Nat.lt_of_le_of_lt (iq _ _) G,O,by rw[hq];omega⟩;rw[Zne];simp only[go_sem,V,Y,hr];by_cases c:0<(hi%y*w64+lo)%y
 ·rw[am c,am (show(((hi%y*w64+lo)%y:Nat):Int)>0 by omega)]
 ·rw[an c,an (show¬(((hi%y*w64+lo)%y:Nat):Int)>0 by omega)]
theorem Zt1 {A n t:Nat} (G:0<n) (J:t*t<=2*A*(2*A)/n) (M:2*A*(2*A)/n<(t+1)*(t+1)) (down:Bool) {E:Prop} [Decidable E] (N:E↔(2*A*(2*A)%n=0/\t*t=2*A*(2*A)/n)):
  E8 A n down (if t%2=1/\(¬E\/down=false)then t/2+1 else t/2):=by
 have U:2*A*(2*A)=4*(A*A):=by grind
 have k1:t*t*n<=2*A*(2*A):=(Nat.le_div_iff_mul_le G).1 J;have k2:2*A*(2*A)<(t+1)*(t+1)*n:=(fh G).1 M;have O:(2*A*(2*A)%n=0/\t*t=2*A*(2*A)/n)↔t*t*n=2*A*(2*A):=by
  have hd:=gv (2*A*(2*A)) n;constructor
  ·rintro⟨g1,g2⟩;rw[g2,fg];omega
  ·intro g;rw[<-g];exact⟨Nat.mul_mod_left _ _,(Nat.mul_div_cancel _ G).symm⟩
 have I:=N.trans O;rw[U]at k1 k2 I;clear N O J M;generalize V:4*(A*A)=Q at*;unfold E8;rw[V];rcases Nat.mod_two_eq_zero_or_one t with S|S
 ·rw[aa];obtain⟨m,rfl⟩:∃m,t=2*m:=⟨t/2,by omega⟩;rw[show 2*m/2=m by omega];have h5:(2*m+1)*(2*m+1)*n<=(2*m+1)*(2*m+1)*n:=db _;refine⟨?_,?_⟩
  ·rcases fd m with T|T
   ·exact .inl T
   ·right;have X:(2*m-1)*(2*m-1)*n<2*m*(2*m)*n:=ff (ip (by omega)) G;split<;>omega
  ·split<;>omega
 ·obtain⟨m,rfl⟩:∃m,t=2*m+1:=⟨t/2,by omega⟩;rw[show(2*m+1)/2=m by omega];have X:(2*m+1+1)*(2*m+1+1)*n<=(2*(m+1)+1)*(2*(m+1)+1)*n:=RN (by omega);have h7:(2*m-1)*(2*m-1)*n<(2*m+1)*(2*m+1)*n:=ff (ip (by omega)) G;have Y:2*(m+1)-1=2*m+1:=by omega
  by_cases c: ¬E\/down=false
  ·rw[ab ⟨S,c⟩,Y];refine⟨.inr ?_,?_⟩
   ·cases down
    ·simp only[dx,ig];exact k1
    ·simp only[dz];rcases c with c|c
     ·exact Nat.lt_of_le_of_ne k1 λh=>c (I.2 h)
     ·cases c
   ·split<;>omega
  ·have c1:(2*m+1)*(2*m+1)*n=Q:=by
    by_cases g:E
    ·exact I.1 g
    ·exact absurd (.inl g) c
   have c2:down=true:=by
    cases down
    ·exact absurd (.inr rfl) c
    ·rfl
   subst c2;rw[aa (λh=>c h.2)];simp only[dz];exact⟨.inr (by omega),by omega⟩
theorem Zip {x d:Int}:sgn x d<0↔x*d<0:=by
 rcases Uz x d with⟨h,g⟩|⟨h,g⟩|⟨h,g⟩<;>omega
theorem Z3g {E MG MS MR MQ MP MK MZ:Fn} {x d:Int} {n X D O l1 qh V t N l2:Nat} (hX:X<=2147483648) (hD:D<=2147483648) (hn:0<n/\n<=4611686018427387904)
  (z1:MZ [I x]=some [U X]) (z2:MZ [I d]=some [U D]) (hk:MK [I 2]=some [B true]) (a2:MP [U ((2*(X*D):Nat):Int),U ((2*(X*D):Nat):Int)]=some [U O,U l1])
  (a3:MQ [U O,U l1,U n]=some [U qh,U V,B (decide (0<2*(X*D)*(2*(X*D))%n))]) (a4:qh*w64+V=2*(X*D)*(2*(X*D))/n) (a5:V<w64) (a6:MR [U qh,U V]=some [U t]) (a0:t<w64)
  (a7:MP [U t,U t]=some [U N,U l2]) (a8:N*w64+l2=t*t) (a9:l2<w64) (hs:MS [I x,I d]=some [I (sgn x d)])
  (hg:∀(more:Int) (some_ neg:Bool),MG [I 2,I more,B some_,B neg]=some [B (if more>0 then true else if more=0 then !neg else false)])
  (g1:∀{n:Nat},n<9223372036854775808->E [U n,B false]=some [I n,B true]) (g2:∀{n:Nat},n<=9223372036854775808->E [U n,B true]=some [I (-(n:Int)),B true]) {J:Nat}
  (S:t%2=1->(¬(2*(X*D)*(2*(X*D))%n=0/\t*t=2*(X*D)*(2*(X*D))/n)\/ ¬sgn x d<0)->J=t/2+1) (T: ¬(t%2=1/\(¬(2*(X*D)*(2*(X*D))%n=0/\t*t=2*(X*D)*(2*(X*D))/n)\/ ¬sgn x d<0))->J=t/2) (b2:t<=9223372036854775808):
  Yc E MG MS MR MQ MP MK MZ [I x,I d,I n,I 2]=some [I (if sgn x d<0 then-(J:Int)else J),B true]:=by
 have b3:X*D<=2147483648*2147483648:=fv hX hD;have w1:wrap .u64 (2*wrap .u64 ((X:Int)*(D:Int)))=((2*(X*D):Nat):Int):=by
  rw[<-dq,wr (by omega),show(2:Int)*((X*D:Nat):Int)=((2*(X*D):Nat):Int) by omega,wr (by omega)]
 have w2:wrap .u64 (n:Int)=n:=wr (by omega);have w3:((t:Int)).tdiv 2=((t/2:Nat):Int):=Z3 t 2;have w4:wrap .u64 ((t/2:Nat):Int)=((t/2:Nat):Int):=wr (by rw[B6]at a0;omega);have w5:wrap .u64 (((t/2:Nat):Int)+1)=((t/2+1:Nat):Int):=by rw[show((t/2:Nat):Int)+1=((t/2+1:Nat):Int) by omega,wr (by rw[B6]at a0;omega)]
 have w6:((t:Int).tmod 2=1)=(t%2=1):=by
  rw[je (by omega)];exact propext ⟨by omega,by omega⟩
 have b0:∀(neg:Bool) (k:Nat),k<9223372036854775808->E [U k,B neg]=some [I (if neg=true then-(k:Int)else k),B true]:=by
  intro neg k hk;cases neg
  ·exact g1 hk
  ·exact g2 (by omega)
 have key:∀(neg:Bool) (k:Nat),decide (sgn x d<0)=neg->J=k->k<9223372036854775808->E [U k,B neg]=some [I (if sgn x d<0 then-(J:Int)else J),B true]:=by
  intro neg k O N h3;rw[b0 neg k h3,N];congr 3;by_cases c:sgn x d<0
  ·rw[ab c,ab (by rw[<-O];exact am c)]
  ·rw[aa c,aa (by rw[<-O];simpa using c)]
 have b1:(N=qh/\l2=V)↔t*t=2*(X*D)*(2*(X*D))/n:=by
  rw[<-a8,<-a4];constructor
  ·rintro⟨rfl,rfl⟩;rfl
  ·intro h;have a1:∀p q u v:Nat,u<w64->v<w64->p*w64+u=q*w64+v->p=q/\u=v:=by
    intro p q u v hu hv h;rcases Nat.lt_trichotomy p q with c|c|c
    ·have:=bp w64 (show p+1<=q from c);rw[ij]at this;omega
    ·subst c;exact⟨rfl,by omega⟩
    ·have:=bp w64 (show q+1<=p from c);rw[ij]at this;omega
   exact a1 _ _ _ _ a9 a5 h
 rw[Zhw];simp only[go_sem,z1,z2,hk,w1,w2,a2,a3,a6,hs,a7,w3,w4,w5,hg];rw[aa,aa,aa,aa,aa (by simp)];have M:t/2+1<9223372036854775808:=by omega
 have Y:∀k:Nat,J=k->k<9223372036854775808->((E [U (k:Int),B (decide (sgn x d<0))]).bind λo=>some [I (Ah (nth .dead o 0)),B (Dh (nth .dead o 1))])=some [I (if sgn x d<0 then-(J:Int)else J),B true]:=by
  intro k O N;rw[key _ k rfl O N];rfl
 have e3:((N:Int)=qh/\(l2:Int)=V/\True)=(t*t=2*(X*D)*(2*(X*D))/n):=by
  rw[<-propext b1];exact propext ⟨λh=>⟨by omega,by omega⟩,λh=>⟨by omega,by omega,trivial⟩⟩
 simp only[e3,w6];have n1:((1:Int)>0)=True:=by simp
 have n2:((-1:Int)>0)=False:=by simp
 have n3:((-1:Int)=0)=False:=by simp
 have n4:((0:Int)>0)=False:=by simp
 by_cases cR:2*(X*D)*(2*(X*D))%n=0
 ·rw[aa (show¬0<2*(X*D)*(2*(X*D))%n by omega)];by_cases G:t%2=1
  ·by_cases cE:t*t=2*(X*D)*(2*(X*D))/n
   ·by_cases cn:sgn x d<0
    ·have:=T (λh=>h.2.elim (λg=>g ⟨cR,cE⟩) λg=>g cn);simp only[n1,n2,n3,n4,dx,G,cE,not_true_eq_false,dz,ig];rw[aa (by simp[cn])];exact Y _ this (by omega)
    ·have:=S G (.inr cn);simp only[n1,n2,n3,n4,dx,G,cE,not_true_eq_false,dz,ig];rw[ab (by simp;omega)];exact Y _ this M
   ·have:=S G (.inl λg=>cE g.2);simp only[n1,n2,n3,n4,dx,G,cE,not_true_eq_false,kk,dz,ig];exact Y _ this M
  ·have:=T (λh=>G h.1);simp only[n1,n2,n3,n4,dx,G,ig,ite_self];exact Y _ this (by omega)
 ·rw[ab (show 0<2*(X*D)*(2*(X*D))%n by omega)];by_cases G:t%2=1
  ·have:=S G (.inl λg=>cR g.1);simp only[n1,n2,n3,n4,dx,G,kk,dz];exact Y _ this M
  ·have:=T (λh=>G h.1);simp only[n1,n2,n3,n4,dx,G,kk,dz,ig];exact Y _ this (by omega)
theorem Zxu {x d:Int} {n:Nat} (N:0<n) (O:0<=d) (hi:E8 (x.natAbs*d.natAbs) n (decide (x*d<0)) J):(if x*d<0 then-(J:Int)else J)=Ct x d n:=by
 unfold Ct;rw[jo];by_cases I:x<0
 ·rw[ab I];by_cases M:d=0
  ·subst M;rw[Int.mul_zero,aa];rw[show x.natAbs*(0:Int).natAbs=0 from by simp]at hi⊢;have e1:E8 0 n true 0:=⟨.inl rfl,by simp⟩;rw[SD e1];obtain⟨G,-⟩:=hi;rw[an (by simp)]at G;simp only[dx,ig]at G;rcases G with G|G
   ·omega
   ·rcases fd J with S|S
    ·omega
    ·have T:=Nat.mul_pos (Nat.mul_pos (show 0<2*J-1 by omega) (show 0<2*J-1 by omega)) N;omega
  ·have E:x*d<0:=Int.mul_neg_of_neg_of_pos I (by omega);rw[am E]at hi;rw[ab E,SD hi]
 ·rw[aa I];have E: ¬x*d<0:=by have:=fy (show 0<=x by omega) O;omega
  rw[an E]at hi;rw[aa E,SD hi]
theorem Y1 {x d n:Int} (hx:x.natAbs<=2147483648) (hd:0<=d/\d<=2147483648) (hn:0<n/\n<=4611686018427387904):I3 [I x,I d,I n,I 2]=some [I (Ct x d n),B true]:=by
 obtain⟨N,rfl⟩:=cg (show 0<=n by omega);have hD:d.natAbs<=2147483648:=by omega
 have a1:x.natAbs*d.natAbs<=2147483648*2147483648:=fv hx hD;have O:0<N/\N<=4611686018427387904:=by omega
 have S:2*(x.natAbs*d.natAbs)<w64:=by rw[B6];omega
 obtain⟨G,l1,e1,e2,e3⟩:=Px S S;have T:N<w64:=by rw[B6];omega
 have U:G<w64:=by
  have:=Nat.mul_lt_mul'' S S;rw[<-e2]at this;by_cases c:G<w64
  ·exact c
  ·have:=bp w64 (show w64<=G by omega);omega
 obtain⟨qh,ql,q1,q2,q3,V⟩:=Zjq (M:=Hc) Zb0 U e3 O.1 T;rw[e2]at q1 V;obtain⟨t,r1,Y,r3,r4⟩:=Zd1 q2 q3;rw[V]at Y r3;obtain⟨h2,l2,p1,p2,p3⟩:=Px r4 r4;have ht:t<=9223372036854775808:=by
  have k1:t*t<=2*(x.natAbs*d.natAbs)*(2*(x.natAbs*d.natAbs)):=df Y (iq _ _);have k2:=Nat.mul_self_le_mul_self_iff.1 k1;omega
 have hi:=Zt1 O.1 Y r3 (decide (x*d<0)) (E:=2*(x.natAbs*d.natAbs)*(2*(x.natAbs*d.natAbs))%N=0/\t*t=2*(x.natAbs*d.natAbs)*(2*(x.natAbs*d.natAbs))/N) Iff.rfl;have J:=Zxu O.1 hd.1 hi;rw[<-J];have:= @Zip x d;have a0:∀a:Int,(if x*d<0 then-a else a)=if sgn x d<0 then-a else a:=by
  intro a;by_cases c:x*d<0
  ·rw[ab c,ab (this.2 c)]
  ·rw[aa c,aa (λh=>c (this.1 h))]
 rw[a0];refine Z3g (X:=x.natAbs) (D:=d.natAbs) hx hD O (Jb (by unfold i64;omega)) (Jb (by unfold i64;omega)) (Qkg (.inr (.inr rfl))) e1 q1 V q3 r1 r4 p1 p2 p3 (Y7 x d) Zb8 Qg1 Qwz (λG h2=> ?_) (λh=> ?_) ht
 ·rw[ab ⟨G,h2.imp id λh=>an λg=>h (this.2 g)⟩]
 ·rw[aa λg=>h ⟨g.1,g.2.imp id λk g2=>by rw[decide_eq_false_iff_not]at k;exact k (this.1 g2)⟩]
theorem Q90 {a b:Pt} (E:bd 67108864 a) (hb:bd 67108864 b):
    V (V (V (0+V (V (a.x-b.x)*V (a.x-b.x)))+V (V (a.y-b.y)*V (a.y-b.y)))+V (V (a.z-b.z)*V (a.z-b.z)))=sqD a b:=by
  have h:∀x y:Int,x.natAbs<=67108864->y.natAbs<=67108864->0<=(x-y)*(x-y)/\(x-y)*(x-y)<=18014398509481984:=by
    intro x y G I;exact DL (x:=x-y) (A:=134217728) (by omega)
  have J:=h _ _ E.1 hb.1;have M:=h _ _ E.2.1 hb.2.1;have N:=h _ _ E.2.2 hb.2.2;obtain⟨a1,a2,a3⟩:=E;obtain⟨b1,b2,b3⟩:=hb;rw[Ae (x:=a.x-b.x),Ae (x:=a.y-b.y),Ae (x:=a.z-b.z)];unfold sqD JW HD;simp only;generalize(a.x-b.x)*(a.x-b.x)=u at*;generalize(a.y-b.y)*(a.y-b.y)=v at*;generalize(a.z-b.z)*(a.z-b.z)=w at*;rw[Ae (x:=u),Ae (x:=0+u),Ae (x:=v),Ae (x:=0+u+v),Ae (x:=w),Ae,Int.zero_add]
theorem Zi5 {a b:Pt} {n:Nat} (G:bd 67108864 a) (hb:bd 67108864 b) (E:sqD a b=n)
    (J:∃r:Nat,M [I n,I 1]=some [I ((if((1:Int)=1/\r*r<n)\/((1:Int)=2/\r*r+r<n)then r+1 else r:Nat):Int),B true]/\r*r<=n/\n<(r+1)*(r+1)):
    Xt M [I a.x,I a.y,I a.z,I b.x,I b.y,I b.z]=some [I (AJ a b)]:=by
  obtain⟨r,N,O,S⟩:=J;have T:=Q3o O S;rw[Zxs,Q90 G hb,E];simp only[go_sem,N];unfold AJ;rw[E,Zdm T];congr 3;by_cases c:r*r<n
  · rw[ab (.inl ⟨trivial,c⟩),ab c]
  · rw[aa (by simp[c]),aa c]
theorem Qeq {a b:Pt} (E:bd 67108864 a) (hb:bd 67108864 b):JJ [I a.x,I a.y,I a.z,I b.x,I b.y,I b.z]=some [I (AJ a b)]:=by
  have h0:=QF a b;have J:=Qx E hb (db _);obtain⟨n,G⟩:=cg h0;exact Zi5 E hb G (Qxu (by omega) (.inl rfl))
theorem Z8f {MO:Fn} {a b:Spk} {u w:Int} (N:okS a) (hb:okS b) (O:u.natAbs<=100000000) (S:w.natAbs<=100000000)
    (T: ¬(u=0/\w=0)->MO [I u,I (hf a.r b.r),I (sq2 u w),I 2]=some [I (Ct u (hf a.r b.r) (sq2 u w)),B true]/\MO [I w,I (hf a.r b.r),I (sq2 u w),I 2]=some [I (Ct w (hf a.r b.r) (sq2 u w)),B true]):
    (bif u == 0 then
      bif w==0 then some [AC.int IntKind.i64 0,AC.int IntKind.i64 0,AC.int IntKind.i64 0,AC.int IntKind.i64 0,AC.bool false]
      else(MO [AC.int IntKind.i64 u,AC.int IntKind.i64 ((V (V (a.r+b.r)+1)).fdiv (2^min (Int.toNat 1) IntKind.i64.bits)),AC.int IntKind.i64 (V (V (u*u)+V (w*w))),AC.int IntKind.i64 2]).bind λE=>
       (MO [AC.int IntKind.i64 w,AC.int IntKind.i64 ((V (V (a.r+b.r)+1)).fdiv (2^min (Int.toNat 1) IntKind.i64.bits)),AC.int IntKind.i64 (V (V (u*u)+V (w*w))),AC.int IntKind.i64 2]).bind λG=>
       some [AC.int IntKind.i64 (Ah (nth AC.dead E 0)),AC.int IntKind.i64 (Ah (nth AC.dead G 0)),AC.int IntKind.i64 ((V (V (a.r+b.r)+1)).fdiv (2^min (Int.toNat 1) IntKind.i64.bits)),AC.int IntKind.i64 ((V (V (a.h+b.h)+1)).fdiv (2^min (Int.toNat 1) IntKind.i64.bits)),AC.bool true]
     else(MO [AC.int IntKind.i64 u,AC.int IntKind.i64 ((V (V (a.r+b.r)+1)).fdiv (2^min (Int.toNat 1) IntKind.i64.bits)),AC.int IntKind.i64 (V (V (u*u)+V (w*w))),AC.int IntKind.i64 2]).bind λE=>
       (MO [AC.int IntKind.i64 w,AC.int IntKind.i64 ((V (V (a.r+b.r)+1)).fdiv (2^min (Int.toNat 1) IntKind.i64.bits)),AC.int IntKind.i64 (V (V (u*u)+V (w*w))),AC.int IntKind.i64 2]).bind λG=>
       some [AC.int IntKind.i64 (Ah (nth AC.dead E 0)),AC.int IntKind.i64 (Ah (nth AC.dead G 0)),AC.int IntKind.i64 ((V (V (a.r+b.r)+1)).fdiv (2^min (Int.toNat 1) IntKind.i64.bits)),AC.int IntKind.i64 ((V (V (a.h+b.h)+1)).fdiv (2^min (Int.toNat 1) IntKind.i64.bits)),AC.bool true])=
    some (Dp (GB a b u w)++[B (decide (¬(u=0/\w=0)))]):=by
  have q1:=DL O;have q2:=DL S;have e:V (V (u*u)+V (w*w))=sq2 u w:=by
    unfold sq2;generalize u*u=x at*;generalize w*w=y at*;rw[Ae (x:=x),Ae (x:=y),Ae]
  have U:(V (V (a.r+b.r)+1)).fdiv (2^min (Int.toNat 1) IntKind.i64.bits)=hf a.r b.r:=by
    have X:=N.2.2.1;have Y:=hb.2.2.1;rw[Ae (x:=a.r+b.r),Ae (x:=a.r+b.r+1),show(2^min (Int.toNat 1) IntKind.i64.bits:Int)=2 from rfl,gk _ (by omega)];rfl
  have eh:(V (V (a.h+b.h)+1)).fdiv (2^min (Int.toNat 1) IntKind.i64.bits)=hf a.h b.h:=by
    have X:=N.2.2.2;have Y:=hb.2.2.2;rw[Ae (x:=a.h+b.h),Ae (x:=a.h+b.h+1),show(2^min (Int.toNat 1) IntKind.i64.bits:Int)=2 from rfl,gk _ (by omega)];rfl
  simp only[U,eh,e];simp only[go_sem];unfold GB;by_cases h:u=0/\w=0
  · rw[ab h.1,ab h.2,ab h]
    simp[h]
  · obtain⟨n1,n2⟩:=T h
    rw[aa h];simp only[n1,n2,go_sem];have hd:decide (¬(u=0/\w=0))=true:=am h;rw[hd];by_cases J:u=0
    · rw[ab J,aa (λM=>h ⟨J,M⟩)];try rfl
    · rw[aa J];try rfl
theorem Zkx {a b:Spk} (O:okS a) (hb:okS b) {dir:Int} (G:dir=1\/dir= -1) (full:Bool)
    (hO:∀{u w:Int},u.natAbs<=100000000->w.natAbs<=100000000-> ¬(u=0/\w=0)->M [I u,I (hf a.r b.r),I (sq2 u w),I 2]=some [I (Ct u (hf a.r b.r) (sq2 u w)),B true]/\M [I w,I (hf a.r b.r),I (sq2 u w),I 2]=some [I (Ct w (hf a.r b.r) (sq2 u w)),B true])
    (hC:Z [I a.u,I a.w,I a.r,I a.h,I b.u,I b.w,I b.r,I b.h]=some [I (crs a.u a.w b.u b.w)]) (hD:W [I a.u,I a.w,I a.r,I a.h,I b.u,I b.w,I b.r,I b.h]=some [I (dt2 a.u a.w b.u b.w)])
    (a0:(crs a.u a.w b.u b.w).natAbs<=5000000000000000):
    Qf2 M Z W [I a.u,I a.w,I a.r,I a.h,I b.u,I b.w,I b.r,I b.h,I dir,B full]=some (Dp (Ea a b dir full)++[B (decide (¬((DZ a b dir full).1=0/\(DZ a b dir full).2=0)))]):=by
  have key:=fun{u w:Int} (U:u.natAbs<=100000000) (X:w.natAbs<=100000000)=>Z8f (MO:=M) (a:=a) (b:=b) O hb U X (hO U X);have J:=Ms O hb G full;obtain⟨a1,a2,-⟩:=O;obtain⟨b1,b2,-⟩:=hb;have w1:V (0-a.u)= -a.u:=by rw[Ae];omega
  have w2:V (0-a.w)= -a.w:=by rw[Ae];omega
  have w3:V (a.u+b.u)=a.u+b.u:=Ae;have w4:V (a.w+b.w)=a.w+b.w:=Ae;have w5:V (0-(a.u+b.u))= -(a.u+b.u):=by rw[Ae];omega
  have w6:V (0-(a.w+b.w))= -(a.w+b.w):=by rw[Ae];omega
  have w7:V (b.w-a.w)=b.w-a.w:=Ae;have w8:V (a.u-b.u)=a.u-b.u:=Ae;have w9:V (dir*(b.w-a.w))=dir*(b.w-a.w):=by rcases G with rfl|rfl<;>exact Ae
  have S:V (dir*(a.u-b.u))=dir*(a.u-b.u):=by rcases G with rfl|rfl<;>exact Ae
  have T:V (crs a.u a.w b.u b.w*dir)=crs a.u a.w b.u b.w*dir:=by rcases G with rfl|rfl<;>exact Ae
  rw[Zpg];try dsimp only[go_sem]
  unfold Ea;simp only[w1,w2,w3,w4,w5,w6,w7,w8,w9,S,hC,hD,ag,Ik,H7,gA,jA,wA,bA,T];have fin:∀{x:Option (List AC)},x=some (Dp (GB a b (DZ a b dir full).1 (DZ a b dir full).2)++[B (decide (¬((DZ a b dir full).1=0/\(DZ a b dir full).2=0)))])->
      (bif dir !=1 then bif dir != -1 then some [AC.int IntKind.i64 0,AC.int IntKind.i64 0,AC.int IntKind.i64 0,AC.int IntKind.i64 0,AC.bool false]else x else x)=some (Dp (GB a b (DZ a b dir full).1 (DZ a b dir full).2)++[B (decide (¬((DZ a b dir full).1=0/\(DZ a b dir full).2=0)))]):=by
    intro x Y;rcases G with rfl|rfl
    · rw[BI (by decide)];exact Y
    · rw[Ca (by decide),BI (by decide)];exact Y
  refine fin ?_;have E:=key J.1 J.2;unfold DZ at*;cases full
  · simp only[ao,dx,ig]at E⊢
    by_cases N:0<dt2 a.u a.w b.u b.w
    · rw[Bg (show¬dt2 a.u a.w b.u b.w<=0 by omega)]
      by_cases c2:0<crs a.u a.w b.u b.w*dir
      · rw[Bg (show¬crs a.u a.w b.u b.w*dir<=0 by omega)]
        rw[ab ⟨N,c2⟩]at E⊢;exact E
      · rw[Ep (show crs a.u a.w b.u b.w*dir<=0 by omega)]
        rw[aa (λh=>c2 h.2),ab N]at E⊢;exact E
    · rw[Ep (show dt2 a.u a.w b.u b.w<=0 by omega)]
      rw[aa (λh=>N h.1),aa N]at E⊢;exact E
  · simp only[aj,dz]at E⊢
    exact E
theorem Z6m {u w r:Int} (E:u.natAbs<=100000000) (G:w.natAbs<=100000000) (J:0<=r/\r<=50000000) (h: ¬(u=0/\w=0)):
    I3 [I u,I r,I (sq2 u w),I 2]=some [I (Ct u r (sq2 u w)),B true]/\I3 [I w,I r,I (sq2 u w),I 2]=some [I (Ct w r (sq2 u w)),B true]:=by
  have M:=SI h;have N:=DL E;have O:=DL G;have S:sq2 u w<=20000000000000000:=by unfold sq2;omega
  exact⟨Y1 (by omega) (by omega) (by omega),Y1 (by omega) (by omega) (by omega)⟩
theorem Zly {a b:Spk} (E:okS a) (hb:okS b) {dir:Int} (G:dir=1\/dir= -1) (full:Bool):
    Nt [I a.u,I a.w,I a.r,I a.h,I b.u,I b.w,I b.r,I b.h,I dir,B full]=some (Dp (Ea a b dir full)++[B (decide (¬((DZ a b dir full).1=0/\(DZ a b dir full).2=0)))]):=by
  have J:=(Q4a E.1 E.2.1 hb.1 hb.2.1).2;exact Zkx E hb G full (λM N h=>Z6m M N (Qid E.2.2.1 hb.2.2.1) h)
    (Qnm (HM E.1) (HM E.2.1) (HM hb.1) (HM hb.2.1)) (Qkm (HM E.1) (HM E.2.1) (HM hb.1) (HM hb.2.1)) J
def okT (s:Spk):Prop:=okS s/\ ¬(s.u=0/\s.w=0)/\1<=s.r
theorem Qs3 {a b:Spk} (I: ¬(a.u=0/\a.w=0)) (hb: ¬(b.u=0/\b.w=0)) {dir:Int} (J:dir=1\/dir= -1) (full:Bool): ¬((DZ a b dir full).1=0/\(DZ a b dir full).2=0):=by
  have M:=SI I;unfold sq2 at M;unfold DZ;split
  · simp only;omega
  · rename_i hf
    have key:0<dt2 a.u a.w b.u b.w-> ¬(a.u+b.u=0/\a.w+b.w=0):=by
      intro G ⟨N,O⟩;have e1:b.u= -a.u:=by omega
      have e2:b.w= -a.w:=by omega
      unfold dt2 at G;rw[e1,e2,Int.mul_neg,Int.mul_neg]at G;omega
    split
    · rename_i c;exact key c.1
    · split
      · rename_i S E
        have:=key E;simp only;omega
      · rename_i S E
        simp only;rintro⟨N,O⟩;have e1:b.w=a.w/\a.u=b.u:=by rcases J with rfl|rfl<;>omega
        unfold dt2 at E;rw[e1.1,<-e1.2]at E;omega
theorem Z5r {u w r:Int} (G:u.natAbs<=100000000) (I:w.natAbs<=100000000) (S:1<=r/\r<=50000000) (h: ¬(u=0/\w=0)): ¬(Ct u r (sq2 u w)=0/\Ct w r (sq2 u w)=0):=by
  have T:=SI h;have U:=DL G;have V:=DL I;have X:sq2 u w<=20000000000000000:=by unfold sq2;omega
  obtain⟨J,M⟩:=Zaa u w;have key:∀x:Int,x.natAbs<=100000000->x*x<=sq2 u w->Ct x r (sq2 u w)=0->4*(x*x)<=sq2 u w:=by
    intro x N O h0;obtain⟨-,-,E⟩:=Ug (x:=x) (r:=r) (n:=sq2 u w) (df N (by decide)) (by omega) (by omega) O;rw[h0]at E;obtain⟨-,E⟩:=E;have Y:4*(x.natAbs*r.natAbs*(x.natAbs*r.natAbs))<=(sq2 u w).natAbs:=by
      rw[show(0:Int).natAbs=0 from rfl]at E;split at E<;>omega
    have e1:x.natAbs*r.natAbs*(x.natAbs*r.natAbs)=x.natAbs*x.natAbs*(r.natAbs*r.natAbs):=by grind
    have g5:x.natAbs*x.natAbs*1<=x.natAbs*x.natAbs*(r.natAbs*r.natAbs):=Nat.mul_le_mul_left _ (fv (show 1<=r.natAbs by omega) (show 1<=r.natAbs by omega));have e2:((x.natAbs*x.natAbs:Nat):Int)=x*x:=gn;omega
  rintro⟨g1,g2⟩;have k1:=key u G J g1;have k2:=key w I M g2;unfold sq2 at*;omega
theorem Z2v {a b:Spk} (E:okT a) (hb:okT b) {dir:Int} (I:dir=1\/dir= -1) (full:Bool):okT (Ea a b dir full):=by
  have J:=Qs3 E.2.1 hb.2.1 I full;have G:=Ms E.1 hb.1 I full;have N:=E.1.2.2.1;have O:=hb.1.2.2.1;have S:=E.2.2;have T:=hb.2.2;have M:1<=hf a.r b.r/\hf a.r b.r<=50000000:=by unfold hf;omega
  refine⟨Qbx E.1 hb.1 I full,?_,?_⟩
  · unfold Ea GB
    rw[aa J];exact Z5r G.1 G.2 M J
  · unfold Ea GB
    rw[aa J];exact M.1
theorem Zzw {r n:Int} (E:0<=r/\r<=50000000):OH [I r,I n]=some [B (decide (n<=32*r-64))]:=by
  unfold OH;rw[Zzn,Ae (x:=8*r),Ae (x:=8*r*4),Ae (x:=8*r*4-64),show 8*r*4-64=32*r-64 by omega]
theorem Zkb {a b:Spk} (J:okS a) (hb:okS b) {dir:Int} (S:dir=1\/dir= -1) (full:Bool)
    (T:∀{r n:Int},(0<=r/\r<=50000000)->M [I r,I n]=some [B (decide (n<=32*r-64))])
    (U:Z [I a.u,I a.w,I a.r,I a.h,I b.u,I b.w,I b.r,I b.h]=some [I (crs a.u a.w b.u b.w)]) (X:(crs a.u a.w b.u b.w).natAbs<=5000000000000000):
    Qi4 M Z [.vC EI l,I a.u,I a.w,I a.r,I a.h,I b.u,I b.w,I b.r,I b.h,B full,I dir]=some [.vC EI l,B (decide (IQ a b dir full)),I dir]:=by
  have Y:0<=mn a.r b.r/\mn a.r b.r<=50000000:=by
    have h1:=J.2.2.1;have h2:=hb.2.2.1;unfold mn;split<;>omega
  obtain⟨a1,a2,-⟩:=J;obtain⟨b1,b2,-⟩:=hb;have N:=IR a1 b1;have O:=IR a2 b2;have q1:=DL N;have q2:=DL O;have e:V (V ((a.u-b.u)*(a.u-b.u))+V ((a.w-b.w)*(a.w-b.w)))=sq2 (a.u-b.u) (a.w-b.w):=by
    unfold sq2;generalize(a.u-b.u)*(a.u-b.u)=x at*;generalize(a.w-b.w)*(a.w-b.w)=y at*;rw[Ae (x:=x),Ae (x:=y),Ae]
  have G:V (crs a.u a.w b.u b.w*dir)=crs a.u a.w b.u b.w*dir:=by rcases S with rfl|rfl<;>exact Ae
  rw[Zie,Ji N (by decide),Ji O (by decide),e];cases full
  · simp only[Bool.not_false,aj,U,ag,Ik,H7,gA,jA,wA,bA,G,T Y,Qpm]
    by_cases c:0<crs a.u a.w b.u b.w*dir
    · rw[Ep (show crs a.u a.w b.u b.w*dir>0 from c)]
      by_cases E:sq2 (a.u-b.u) (a.w-b.w)<=32*mn a.r b.r-64
      · rw[am E,am (show IQ a b dir false from⟨rfl,c,E⟩)]
      · rw[an E,an (λh:IQ a b dir false=>E h.2.2)]
    · rw[Bg (show¬crs a.u a.w b.u b.w*dir>0 from c),an (λh:IQ a b dir false=>c h.2.1)]
  · simp only[Bool.not_true,ao]
    rw[an (λh:IQ a b dir true=>by cases h.1)]
theorem Zgz {out:Rw} {a b:Spk} (E:okS a) (hb:okS b) {dir:Int} (G:dir=1\/dir= -1) (full:Bool):
    L3 [.vC EI out,I a.u,I a.w,I a.r,I a.h,I b.u,I b.w,I b.r,I b.h,B full,I dir]=some [.vC EI out,B (decide (IQ a b dir full)),I dir]:=
  Zkb E hb G full Zzw (Qnm (HM E.1) (HM E.2.1) (HM hb.1) (HM hb.2.1)) (Q4a E.1 E.2.1 hb.1 hb.2.1).2
theorem Qrk {dir:Int} (E:dir=1\/dir= -1):∀(n k:Nat) (full:Bool) (a b:Spk) (out:List Spk),k<=16->k<n->okT a->okT b->out.length+2^k<=1000000->
    OV n [.vC EI (out.map Dp),I a.u,I a.w,I a.r,I a.h,I b.u,I b.w,I b.r,I b.h,B full,I (16-k:Int),I dir]=some [.vC EI ((out++C7 dir k full a b).map Dp),I dir]
  |0,k,_,_,_,_,_,M,_,_,_=>by omega
  |n+1,0,full,a,b,out,_,_,G,hb,N=>by
    show Vv _ _ _ _=_;rw[Qto,Bg (by omega),Ca]
    · unfold C7
      rw[de];rfl
    · exact gw (by simp only[ay,af,bj,dg];omega)
  |n+1,k+1,full,a,b,out,M,T,G,hb,N=>by
    have J:=Z2v G hb E full;have O:=Qs3 G.2.1 hb.2.1 E full;have e3:2^(k+1)=2^k+2^k:=by rw[jk];omega
    have U:0<2^k:=gq _;have V:=(VV k false a (Ea a b dir full) (dir:=dir)).2;have i1:=Qrk E n k false a (Ea a b dir full) out (by omega) (by omega) G J (by omega);have S:=Qrk E n k false (Ea a b dir full) b (out++C7 dir k false a (Ea a b dir full)) (by omega) (by omega) J hb (by rw[ay];omega);have e1:=Zgz (out:=out.map Dp) G.1 hb.1 E full;have e2:=Zly G.1 hb.1 E full;rw[am O]at e2;show Vv (OV n) Nt L3 _=_;generalize OV n=X at*;generalize Nt=Y at*;generalize L3=MS at*;rw[Qto,Ep (by omega),Ae,show(16-((k+1:Nat):Int)+1)=16-(k:Int) by omega];unfold C7;generalize Ea a b dir full=m at*;generalize C7 dir k false a m=p1 at*;generalize C7 dir k false m b=p2 at*;simp only[az,bf,Dp]at e2;simp only[e1,e2,ag,Ik,Ng,Mj,RQ,Qi,H7,gA,jA,wA,bA,Qpm,i1,S,Qpx];by_cases c:IQ a b dir full
    · rw[ab c,BI (by simp[c]),Ca]
      · rw[de];rfl
      · exact gw (by simp only[ay,af,bj,dg];omega)
    · rw[aa c,Ca (by simp[c]),aj,fq]
theorem Q39 {it:Itm} (E:bd 1048576 it.ce) (G:bd 1048576 g) (I:64<=sq2 (dU it g) (dW it g)):okT (Eg it g):=by
 obtain⟨T,U,J,M⟩:=OF E G;have e:sq2 (dU it g*16) (dW it g*16)=256*sq2 (dU it g) (dW it g):=by unfold sq2;grind
 refine⟨RD E G,?_,?_⟩
 ·show¬(dU it g*16=0/\dW it g*16=0);rintro⟨g1,g2⟩;rw[show dU it g=0 by omega,show dW it g=0 by omega]at I;simp[sq2]at I
 ·show 1<=FL _;obtain⟨n,N⟩:=cg J;rw[N]at M⊢;obtain⟨r,-,O,S,-⟩:=Sc (n:=n) (by omega);rw[Q1 (Ro O S)];have:1<=r:=by
   rcases fd r with h|h
   ·subst h;omega
   ·exact h
  split<;>omega
theorem Zd8 {n:Nat} (M:n<=2251799813685248):Jo [I n,I 2]=some [I (FL n),B true]:=by
 obtain⟨r,E,G,J⟩:=Qxu (n:=n) (mode:=2) (by omega) (.inr rfl);rw[E,Q1 (Ro G J)];congr 3;by_cases c:r*r+r<n
 ·rw[ab (.inr ⟨rfl,c⟩),ab c]
 ·rw[aa (by simp;omega),aa c]
theorem Z0y {it:Itm} (O:∃v,S (Af it)=some [B v]/\(v=true↔Ed it)) (h:Ed it)
  (U:it.aP=3->T (Af it)=some [I (dU it it.fr*16),I (dW it it.fr*16),I 0,I (plH it.aG it.fr*16),I (dU it it.to*16),I (dW it it.to*16),I 0,I (plH it.aG it.to*16)])
  (J:∀p:Pt,it.aP=3->(p=it.fr\/p=it.to)->W [I (dU it p*16),I (dW it p*16),I 0,I (plH it.aG p*16),I (dU it p*16),I (dW it p*16),I 0,I (plH it.aG p*16)]=some [I (sq2 (dU it p*16) (dW it p*16))])
  (N:∀p:Pt,it.aP=3->(p=it.fr\/p=it.to)->Z [I (sq2 (dU it p*16) (dW it p*16)),I 2]=some [I (FL (sq2 (dU it p*16) (dW it p*16))),B true])
  (V:it.aP=3->M (.vC EI [Dp (Eg it it.fr)]::Dp (Eg it it.fr)++Dp (Eg it it.to)++[B it.full,I 0,I it.dir])=some [.vC EI ((D6 it).map Dp),I it.dir]):
  Qov M Z W T S (Af it)=if it.aP=3 then some [.vC EI ((D6 it).map Dp),B true]else some [.vC EI [],B false]:=by
 obtain⟨v,X,G⟩:=O;rw[Z09];by_cases E:it.aP=3
 ·have e:=U E;have p:=V E;have Y:=J it.fr E (.inl rfl);have d2:=J it.to E (.inr rfl);have q1:=N it.fr E (.inl rfl);have q2:=N it.to E (.inr rfl);simp only[az,bf,Eg,Dp]at p;simp only[go_sem,X,e,Y,d2,q1,q2,p];rw[aa (by simp[E]),aa (by simp[G.2 h]),ab E]
 ·simp only[go_sem];rw[ab E,aa E]
theorem Zfk {it:Itm} (h:Ed it):Pu (Af it)=if it.aP=3 then some [.vC EI ((D6 it).map Dp),B true]else some [.vC EI [],B false]:=by
 have hb:it.aP=3->∀p:Pt,(p=it.fr\/p=it.to)->bd 1048576 it.ce/\bd 1048576 p:=by
  intro G p I;obtain⟨-,M,N,O⟩:=h;obtain⟨-,-,E,-⟩:=O G;rcases I with rfl|rfl
  ·exact⟨E,M⟩
  ·exact⟨E,N⟩
 refine Z0y (Qpd it) h (λG=> ?_) (λp G I=> ?_) (λp G I=> ?_) λG=> ?_
 ·obtain⟨-,M,N,O⟩:=h;obtain⟨I,-,E,-⟩:=O G;exact Zcp I M N E
 ·obtain⟨E,J⟩:=hb G p I;obtain⟨g1,g2,-⟩:=OF E J;exact Qkm (df g1 (by decide)) (df g2 (by decide)) (df g1 (by decide)) (df g2 (by decide))
 ·obtain⟨E,J⟩:=hb G p I;obtain⟨-,-,S,T⟩:=OF E J;obtain⟨n,U⟩:=cg S;rw[U]at T⊢;exact Zd8 (by omega)
 ·obtain⟨-,M,N,O⟩:=h;obtain⟨I,V,E,X,Y,-⟩:=O G;have:=Qrk V 20 16 it.full (Eg it it.fr) (Eg it it.to) [Eg it it.fr] (by omega) (by omega) (Q39 E M X) (Q39 E N Y) (show 1+2^16<=1000000 by decide);exact this
theorem Zvk {u w h pl:Int} (G:Dx pl):NB [I u,I w,I h,I pl]=some (ptR (spP pl u w h)):=by
 show Qjc F5 _=_;have E:=Qg9 pl;generalize F5=M at*;rw[Zwj];rcases G with rfl|rfl|rfl
 ·have e:axI 17=(0,1,2):=rfl;rw[e]at E;rw[E];rfl
 ·have e:axI 18=(2,0,1):=rfl;rw[e]at E;rw[E];rfl
 ·have e:axI 19=(1,2,0):=rfl;rw[e]at E;rw[E];rfl
theorem Zid {α:Type} (pre rest:List α) (x z:α):(pre++x::rest).set pre.length z=(pre++[z])++rest:=by
 rw[List.set_append_right _ _ (db _),jt];simp
def ER {α:Type} (f:Nat->α) (z:α) (n i:Nat):List α:=(List.range i).map f++List.replicate (n-i) z
theorem Q9o {α:Type} (f:Nat->α) (z:α) {n i:Nat} (h:i<=n):(ER f z n i).length=n:=by unfold ER;simp;omega
theorem Q4q {α:Type} (f:Nat->α) (z:α) {n i:Nat} (h:i<n):(ER f z n i).set i (f i)=ER f z n (i+1):=by
 unfold ER;have e:n-i=(n-(i+1))+1:=by omega
 rw[e,j0];have:=Zid ((List.range i).map f) (List.replicate (n-(i+1)) z) z (f i);rw[af,List.length_range]at this;rw[this,List.range_succ,de];rfl
theorem Qwm {α:Type} (f:Nat->α) (z:α) (n:Nat):ER f z n n=(List.range n).map f:=by unfold ER;simp
theorem Zia {α:Type} (l:List α) (d:α):(List.range l.length).map (λi=>l.getD i d)=l:=by
 apply List.ext_getElem
 ·simp
 ·intro i G E;simp[E]
def Km:Spk:=⟨0,0,0,0⟩
theorem Qwh {MS MP MF MK MV:Fn} {it:Itm} {l:List Spk} {cu cw:Int} (U:l.length<=65537) (N:cu.natAbs<=16777216) (O:cw.natAbs<=16777216) (J:∀s∈l,okS s)
  (T:∀{u w h:Int},MS [I u,I w,I h,I it.aG]=some (ptR (spP it.aG u w h))) {f:Nat->List AC} (hf:∀i,f i=ptR (spP it.aG (cu+(l.getD i Km).u) (cw+(l.getD i Km).w) (l.getD i Km).h)):
  ∀(k i:Nat),i+k=l.length->Ak (OO MS MP MF MK MV) (.vC kPt (ER f [I 0,I 0,I 0] l.length i)::I cu::I cw:: .vC EI (l.map Dp)::I l.length::I i::Af it)=
   some (1,[.vC kPt ((List.range l.length).map f)])
 |0,i,hi=>by
  refine Be ?_ (by simp);rw[Q26];simp only[go_sem];rw[aa,show i=l.length by omega,Qwm]
 |k+1,i,hi=>by
  have E:i<l.length:=by omega
  have V:OO MS MP MF MK MV (.vC kPt (ER f [I 0,I 0,I 0] l.length i)::I cu::I cw:: .vC EI (l.map Dp)::I l.length::I i::Af it)=
    some (0, .vC kPt (ER f [I 0,I 0,I 0] l.length (i+1))::I cu::I cw:: .vC EI (l.map Dp)::I l.length::I (i+1:Nat)::Af it):=by
   rw[Q26];have X:nth [] (l.map Dp) i=Dp l[i]:=JA _ _ _ _ E;have Y:=J _ (bn E);have S:=Q9o f [I 0,I 0,I 0] (show i<=l.length by omega);have M:=hf i;rw[show l.getD i Km=l[i] by simp[E]]at M;have G:=Q4q f [I 0,I 0,I 0] E;rw[M]at G;generalize l[i]=s at*;obtain⟨s1,s2,-⟩:=Y;simp only[go_sem,ak,af,X];rw[ab,ab,Ae (x:=cu+s.u),Ae (x:=cw+s.w),Ae (x:=(i:Int)+1)];simp only[T,go_sem,S];rw[ab,G];rfl
  rw[Bz V];exact Qwh U N O J T hf k (i+1) (by omega)
theorem Zxn {MS G J MK M:Fn} {it:Itm} {S:List Spk} {f:Pt} {u w h:Int} (O:M (Af it)=some [B true])
  (T:MK (Af it)=some [.vC EI (S.map Dp),B true]) (hf:J [I it.ce.x,I it.ce.y,I it.ce.z]=some (ptR f)) (E:G [I f.x,I f.y,I f.z,I it.aG]=some [I u,I w,I h]) (V:S.length<=65537)
  (U:N [.vC kPt (List.replicate S.length [I 0,I 0,I 0]),I u,I w, .vC EI (S.map Dp),I S.length,I 0,I it.aP,I it.block,I it.fr.x,I it.fr.y,I it.fr.z,I it.to.x,I it.to.y,I it.to.z,I it.aG,I it.ce.x,I it.ce.y,I it.ce.z,I it.dir,B it.full,I it.aZ,B it.perRev,I it.side,I it.radius,I it.blend,I it.n,I it.aS,B it.on]=some (1,[.vC kPt l])):
  U8 MS G J MK M N (Af it)=some [.vC kPt l,B true]:=by
 rw[WI];simp only[go_sem,O,T,hf,E,af,ak,U];rw[aa (by simp),aa (by simp),ab]
theorem Z58 {E J M MK O:Fn} {it:Itm} (hV:∃v,O (Af it)=some [B v]/\(v=true↔Ed it)) (h:Ed it)
  (U:MK (Af it)=if it.aP=3 then some [.vC EI ((D6 it).map Dp),B true]else some [.vC EI [],B false])
  (V:∀{p:Pt},bd 100000000 p->M [I p.x,I p.y,I p.z]=some (ptR (AF p))) (hP:Dx it.aG->∀{p:Pt},J [I p.x,I p.y,I p.z,I it.aG]=some [I (plU it.aG p),I (plW it.aG p),I (plH it.aG p)])
  (hS:Dx it.aG->∀{u w h:Int},E [I u,I w,I h,I it.aG]=some (ptR (spP it.aG u w h))):
  U8 E J M MK O (Ak (OO E J M MK O)) (Af it)=some [.vC kPt ((CB it).map ptR),B true]:=by
 obtain⟨v,hv,X⟩:=hV;rw[WI];have Y:=X.2 h;subst Y;obtain⟨-,h1,h2,ha⟩:=id h;by_cases G:it.aP=3
 ·obtain⟨hp,hd,hc,-⟩:=ha G;rw[ab G]at U;obtain⟨c1,c2,c3⟩:=Gl (pl:=it.aG) (EW hc);have S:=(Qyf it).2;have hl:=Qwh (MS:=E) (MP:=J) (MF:=M) (MK:=MK) (MV:=O) (it:=it) (l:=D6 it) (cu:=plU it.aG (AF it.ce)) (cw:=plW it.aG (AF it.ce)) S c1 c2 (Q72 h G) (hS hp)
   (f:=λi=>ptR (Ja it ((D6 it).getD i Km))) (λ_=>rfl) (D6 it).length 0 (by omega)
  have T:(List.range (D6 it).length).map (λi=>ptR (Ja it ((D6 it).getD i Km)))=((D6 it).map (Ja it)).map ptR:=by
   rw[List.map_map]
   conv=>rhs;rw[<-Zia (D6 it) Km]
   rw[List.map_map];rfl
  rw[T]at hl;have a0:ER (λi=>ptR (Ja it ((D6 it).getD i Km))) [I 0,I 0,I 0] (D6 it).length 0=List.replicate (D6 it).length [I 0,I 0,I 0]:=by unfold ER;simp
  rw[a0]at hl;have hf:=V (A3 hc (by decide));have a1:= @hP hp (AF it.ce);have:=Zxn (MS:=E) (N:=Ak (OO E J M MK O)) hv U hf a1 S hl;rw[WI]at this;unfold CB;rw[ab G];exact this
 ·rw[aa G]at U;have f1:=V (A3 h1 (by decide));have f2:=V (A3 h2 (by decide));unfold CB;rw[aa G];simp only[go_sem,hv,U,f1,f2];simp
theorem Z73 {it:Itm} (h:Ed it):Qo (Af it)=some [.vC kPt ((CB it).map ptR),B true]:=
 Z58 (Qpd it) h (Zfk h) Q4g (λE=>Qxc E) (λE=>Zvk E)
theorem Z13 {c a:Pt} (E:bd B24 c) (G:bd B24 a) (J:a≠c) (O:0<=k/\k<=33554432)
  (N:∀{x:Int},x.natAbs<=33554432*4->x*x<=sqD a c->M [I x,I k,I (sqD a c),I 2]=some [I (Ct x k (sqD a c)),B true]/\(Ct x k (sqD a c)).natAbs<=268435456):
  Qrj M [I c.x,I c.y,I c.z,I a.x,I a.y,I a.z,I k]=some (ptR (Cb c a k)++[B true]):=by
 obtain⟨V,X,Y⟩:=Q94 a c;have S:=IR G.1 E.1;have T:=IR G.2.1 E.2.1;have U:=IR G.2.2 E.2.2;obtain⟨n1,b1⟩:=N (x:=a.x-c.x) (df S (by decide)) V;obtain⟨n2,b2⟩:=N (x:=a.y-c.y) (df T (by decide)) X;obtain⟨n3,b3⟩:=N (x:=a.z-c.z) (df U (by decide)) Y;have h6: ¬k<0:=Int.not_lt.2 O.1;have h7: ¬k>33554432:=Int.not_lt.2 O.2;rw[Zhr,Q90 (A3 G (by decide)) (A3 E (by decide)),Ji S (by decide),Ji T (by decide),Ji U (by decide)];simp only[go_sem,n1,n2,n3];rw[aa (λh=>J (D7.2 ⟨h.1,h.2.1,h.2.2.1⟩)),aa h6,aa h7];rw[Ji (UH E.1 b1) (by decide),Ji (UH E.2.1 b2) (by decide),Ji (UH E.2.2 b3) (by decide)];rfl
theorem Zx {c a:Pt} {d:Int} (G:bd B24 c) (J:bd B24 a) (E:a≠c) (N:0<=d/\d<=33554432):
  Hi [I c.x,I c.y,I c.z,I a.x,I a.y,I a.z,I d]=some (ptR (Cb c a d)++[B true]):=by
 have h0:sqD a c≠0:=λh=>E (Qft.1 h);have S:=QF a c;have T:=Qx (A3 J (by decide)) (A3 G (by decide)) (show 67108864<=67108864 by omega);refine Z13 G J E N fun{x} M O=> ?_;obtain⟨-,g2,-⟩:=Ug M (r:=d) (by omega) (n:=sqD a c) (by omega) O;exact⟨Y1 (df M (by decide)) (by omega) (by omega),g2⟩
theorem Qv8 {p c q:Pt} (E:bd B24 p) (G:bd B24 c) (J:bd B24 q):Ht [I p.x,I p.y,I p.z,I c.x,I c.y,I c.z,I q.x,I q.y,I q.z]=some [I (HV p c q)]:=by
 have hb:=Zr3 E G J;have g1:=DL hb.1;have g2:=DL hb.2.1;have M:=DL hb.2.2;unfold Ht;unfold bd B24 at E G J;have w:∀u v c:Int,u.natAbs<=16777216->v.natAbs<=16777216->c.natAbs<=16777216->V (V (u+v)-V (2*c))=u-c+(v-c):=by
  intro u v c N O S;rw[Ae (x:=u+v),Ae (x:=2*c),Ae];omega
 rw[Zy8,w _ _ _ E.1 J.1 G.1,w _ _ _ E.2.1 J.2.1 G.2.1,w _ _ _ E.2.2 J.2.2 G.2.2];have e1:p.x-c.x+(q.x-c.x)=(GQ p c q).x:=rfl;have e2:p.y-c.y+(q.y-c.y)=(GQ p c q).y:=rfl;have e3:p.z-c.z+(q.z-c.z)=(GQ p c q).z:=rfl;rw[e1,e2,e3];unfold HV JW;generalize(GQ p c q).x*(GQ p c q).x=u at*;generalize(GQ p c q).y*(GQ p c q).y=v at*;generalize(GQ p c q).z*(GQ p c q).z=w at*;rw[Ae (x:=u),Ae (x:=0+u),Ae (x:=v),Ae (x:=0+u+v),Ae (x:=w),Ae,Int.zero_add]
open Classical in
theorem Zt5 {a c b:Pt} {E d e bit:Int} (U:bd B24 a) (V:bd B24 c) (hb:bd B24 b) (G:a≠c) (J:b≠c) (S:0<=E/\E<=16000) (hd:0<=d/\d+e<=33554432) (he:0<e) (N:e.fdiv (2^min (Int.toNat 1) IntKind.i64.bits)=bit)
  (l3:0<=AJ a c/\AJ a c<=268435456) (l4:0<=AJ c b/\AJ c b<=268435456)
  (X:∀{a:Pt} {d:Int},bd B24 a->a≠c->0<=d/\d<=33554432->Z [I c.x,I c.y,I c.z,I a.x,I a.y,I a.z,I d]=some (ptR (Cb c a d)++[B true]))
  (hB:∀{p q:Pt},bd B24 p->bd B24 q->M [I p.x,I p.y,I p.z,I c.x,I c.y,I c.z,I q.x,I q.y,I q.z]=some [I (HV p c q)]):
  Oo M Z W [I E,I (mn (AJ a c) (AJ c b)-2),I d,I e,I a.x,I a.y,I a.z,I c.x,I c.y,I c.z,I b.x,I b.y,I b.z]=
   some (0,[I E,I (mn (AJ a c) (AJ c b)-2),I (if HE a c b E (d+e)then d+e else d),I bit,I a.x,I a.y,I a.z,I c.x,I c.y,I c.z,I b.x,I b.y,I b.z]):=by
 obtain⟨m1,m2⟩:=VW (AJ a c) (AJ c b);have a0:0<=16*E*E/\16*E*E<=4096000000:=by
  have:=f6 (show 16*E<=256000 by omega) S.2 S.1 (by omega);exact⟨fy (by omega) S.1,by omega⟩
 rw[Q6z,N,Ae (x:=d+e),Ep he,Ae (x:=16*E),Ae (x:=16*E*E)];by_cases h:d+e>mn (AJ a c) (AJ c b)-2
 ·rw[Ep h,aa (λT:HE a c b E (d+e)=>by have:=T.1;omega)]
 ·rw[Bg h];have k1:bd B24 (Cb c a (d+e)):=Lr V U G (by omega);have k2:bd B24 (Cb c b (d+e)):=Lr V hb J (by rw[T4 b c];omega);have Y:=X (d:=d+e) U G (by omega);have t2:=X (d:=d+e) hb J (by omega);simp only[az,bf,ptR]at Y t2;simp only[Y,t2,go_sem,hB k1 k2];by_cases O:HV (Cb c a (d+e)) c (Cb c b (d+e))<=16*E*E
  ·rw[ab O,ab (show HE a c b E (d+e)from⟨by omega,O⟩)]
  ·rw[aa O,aa (λT:HE a c b E (d+e)=>O T.2)]
open Classical in
theorem Qup {a c b:Pt}
  (E : ∀ {d e bit : Int}, 0 <= d /\ d + e <= 33554432 -> 0 < e -> e.fdiv (2 ^ min (Int.toNat 1) IntKind.i64.bits) = bit -> Oo M Z W [I v, I m, I d, I e, I a.x, I a.y, I a.z, I c.x, I c.y, I c.z, I b.x, I b.y, I b.z] =
   some (0,[I v,I m,I (if HE a c b v (d+e)then d+e else d),I bit,I a.x,I a.y,I a.z,I c.x,I c.y,I c.z,I b.x,I b.y,I b.z])):
  ∀(k:Nat) (d:Int),0<=d/\d+((2^(k+1):Nat):Int)<=33554432->
  Ak (Oo M Z W) [I v,I m,I d,I ((2^k:Nat):Int),I a.x,I a.y,I a.z,I c.x,I c.y,I c.z,I b.x,I b.y,I b.z]=some (1,[I (Gj (HE a c b v) k d)])
 |0,d,J=>by
  simp only[d9,Nat.pow_one]at J;have G:∀d:Int,Ak (Oo M Z W) [I v,I m,I d,I 0,I a.x,I a.y,I a.z,I c.x,I c.y,I c.z,I b.x,I b.y,I b.z]=some (1,[I d]):=by
   intro d;refine Be ?_ (by simp);rw[Q6z];rw[Bg (by omega)]
  have N:=E (d:=d) (e:=1) (by omega) (by omega) Z6k;have e:((2^0:Nat):Int)=1:=rfl;rw[e,Bz N,G];rfl
 |k+1,d,J=>by
  have O:0<2^(k+1):=gq _;have e3:2^(k+1+1)=2^(k+1)+2^(k+1):=by rw[jk 2 (k+1)];omega
  rw[e3]at J;have N:=E (d:=d) (e:=((2^(k+1):Nat):Int)) (by omega) (by omega) (Zg9 k);rw[Bz N];unfold Gj;refine Qup E k _ ?_;split<;>omega
theorem Zze {a c b:Pt}
  (S:M [I a.x,I a.y,I a.z,I c.x,I c.y,I c.z]=some [I (AJ a c)]) (T:M [I c.x,I c.y,I c.z,I b.x,I b.y,I b.z]=some [I (AJ c b)])
  (V:0<=AJ a c/\AJ a c<=268435456) (X:0<=AJ c b/\AJ c b<=268435456)
  (U:a≠c->b≠c->N [I k,I (mn (AJ a c) (AJ c b)-2),I 0,I 16777216,I a.x,I a.y,I a.z,I c.x,I c.y,I c.z,I b.x,I b.y,I b.z]=some (1,[I (Gj (HE a c b k) 24 0)])):
  Qn0 Z W M N [I a.x,I a.y,I a.z,I c.x,I c.y,I c.z,I b.x,I b.y,I b.z,I k]=some [I (DS a c b k)]:=by
 rw[Znc];have m3:0<=mn (AJ a c) (AJ c b)/\mn (AJ a c) (AJ c b)<=268435456:=by unfold mn;split<;>omega
 unfold DS;by_cases J:a=c
 ·rw[ab (.inl J)];have E:=D7.1 J;simp only[go_sem];rw[ab ⟨E.1,E.2.1,E.2.2,trivial⟩]
 ·by_cases E:b=c
  ·rw[ab (.inr E)];have G:=D7.1 E;simp only[go_sem];rw[aa (λh=>J (D7.2 ⟨h.1,h.2.1,h.2.2.1⟩)),ab ⟨G.1,G.2.1,G.2.2,trivial⟩]
  ·have O:=U J E;simp only[go_sem,S,T];rw[Ae];simp only[O,go_sem];rw[aa (λh=>J (D7.2 ⟨h.1,h.2.1,h.2.2.1⟩)),aa (λh=>E (D7.2 ⟨h.1,h.2.1,h.2.2.1⟩)),aa (show¬(a=c\/b=c)from λh=>h.elim J E)];by_cases G:Gj (HE a c b k) 24 0<16
   ·rw[ab G,ab G]
   ·rw[aa G,aa G]
theorem Z4e {a c b:Pt} (M:bd B24 a) (G:bd B24 c) (hb:bd B24 b) (N:0<=k/\k<=16000):
  Mi [I a.x,I a.y,I a.z,I c.x,I c.y,I c.z,I b.x,I b.y,I b.z,I k]=some [I (DS a c b k)]:=by
 have A:=A3 M (show B24<=67108864 by decide);have C:=A3 G (show B24<=67108864 by decide);have D:=A3 hb (show B24<=67108864 by decide);exact Zze (Qeq A C) (Qeq C D) (IP A C) (IP C D)
  λO S=>Qup (λJ he E=>Zt5 M G hb O S N J he E (IP A C) (IP C D) (λhb T J=>Zx G hb T J) λU V=>Qv8 U G V) 24 0 (by decide)
theorem Zqz {p c q:Pt} (U:M [I p.x,I p.y,I p.z,I c.x,I c.y,I c.z,I q.x,I q.y,I q.z]=some [I (HV p c q)]):
  ∀(k:Nat) (n:Int),KG n->64<=n*2^k->Ak (Rq M) [I n,I p.x,I p.y,I p.z,I c.x,I c.y,I c.z,I q.x,I q.y,I q.z]=some (1,[I (LG (HV p c q) k n)]):=by
 have J:∀n:Int,KG n->Rq M [I n,I p.x,I p.y,I p.z,I c.x,I c.y,I c.z,I q.x,I q.y,I q.z]=if n<64/\HV p c q>16*n*n*n*n*4*4 then some (0,[I (n*2),I p.x,I p.y,I p.z,I c.x,I c.y,I c.z,I q.x,I q.y,I q.z])else some (1,[I n]):=by
  intro n G;rw[Z4t];simp only[go_sem,U];have S:V (V (V (V (V (V (16*n)*n)*n)*n)*4)*4)=16*n*n*n*n*4*4/\V (n*2)=n*2:=by
   rcases G with rfl|rfl|rfl|rfl|rfl|rfl<;>decide
  rw[S.1,S.2];by_cases N:n<64
  ·rw[ab N];by_cases O:HV p c q>16*n*n*n*n*4*4
   ·rw[ab O,ab ⟨N,O⟩]
   ·rw[aa O,aa (λh=>O h.2)]
  ·rw[aa N,aa (λh=>N h.1)]
 intro k;induction k with
 |zero=>
  intro n G E;have:n=64:=by rcases G with rfl|rfl|rfl|rfl|rfl|rfl<;>simp at E⊢
  subst this;refine Be ?_ (by simp);rw[J _ G,aa];rfl
 |succ k X=>
  intro n G E;unfold LG;by_cases h:n<64/\HV p c q>16*n*n*n*n*4*4
  ·rw[ab h];have T:=J n G;rw[ab h]at T;rw[Bz T];refine X (n*2) ?_ ?_
   ·rcases G with rfl|rfl|rfl|rfl|rfl|rfl<;>simp[KG]at h⊢
   ·rw[Int.pow_succ]at E;rw[Int.mul_assoc,fa 2];exact E
  ·rw[aa h];refine Be ?_ (by simp);rw[J _ G,aa h]
theorem Z61 {p c q:Pt} (E:bd B24 p) (G:bd B24 c) (J:bd B24 q):K6 [I p.x,I p.y,I p.z,I c.x,I c.y,I c.z,I q.x,I q.y,I q.z]=some [I (L4 p c q)]:=by
 have N:=Zqz (Qv8 E G J) 5 2 (.inl rfl) (by decide);show Qbk _ (Ak (Rq _)) _=_;generalize Ht=M at*;rw[Zl2];simp only[go_sem,N];rfl
theorem Zcf {α:Type} (d x:α):∀(l:List α) (i:Nat),i<l.length->nth d (l.set i x) i=x
 |a::l,0,_=>rfl
 |a::l,i+1,h=>by simp only[List.set_cons_succ,nth];exact Zcf d x l i (by simpa using h)
theorem Zue {n i p c q:Int} (E:2<=n/\n<=64) (hi:0<=i/\i<=n) (G:p.natAbs<=B24) (J:c.natAbs<=B24) (M:q.natAbs<=B24):
  BM [I (V (V (V (V (n-i)*V (n-i))*V (p-c))+V (V (i*i)*V (q-c)))),I 1,I (V (n*n)),I 2]=some [I (BA ((n-i)*(n-i)*(p-c)+i*i*(q-c)) (n*n)),B true]:=by
 have N:0<n*n/\n*n<=4096:=⟨Int.mul_pos (by omega) (by omega),by have:=f6 E.2 E.2 (by omega) (by omega);omega⟩;have O:0<=(n-i)*(n-i)/\(n-i)*(n-i)<=4096:=⟨F_ _,by have:=f6 (show n-i<=64 by omega) (show n-i<=64 by omega) (by omega) (by omega);omega⟩;have S:0<=i*i/\i*i<=4096:=⟨F_ _,by have:=f6 (show i<=64 by omega) (show i<=64 by omega) (by omega) (by omega);omega⟩;unfold B24 at*;rw[Ae (x:=n-i),Ae (x:=(n-i)*(n-i)),Ae (x:=p-c),Ae (x:=i*i),Ae (x:=q-c),Ae (x:=n*n)];have m1:=Im (x:=(n-i)*(n-i)) (y:=p-c) (A:=4096) (B:=33554432) (by omega) (by omega);have m2:=Im (x:=i*i) (y:=q-c) (A:=4096) (B:=33554432) (by omega) (by omega);generalize(n-i)*(n-i)*(p-c)=u at*;generalize i*i*(q-c)=v at*;rw[Ae (x:=u),Ae (x:=v),Ae];have h:=Uo (a:=u+v) (b:=1) (c:=n*n) (by unfold i64;omega) (by unfold i64;omega) (by omega) (by rw[show(1:Int).natAbs=1 from rfl,Nat.mul_one];omega);rw[Int.mul_one]at h;exact h
theorem Q7f {MR MP MT MC:Fn} {p c q:Pt} (T:2<=r/\r<=64) (G:bd B24 p) (J:bd B24 c) (M:bd B24 q)
  (O:∀{i p c q:Int},(0<=i/\i<=r)->p.natAbs<=B24->c.natAbs<=B24->q.natAbs<=B24->MR [I (V (V (V (V ((r:Int)-i)*V ((r:Int)-i))*V (p-c))+V (V (i*i)*V (q-c)))),I 1,I (V ((r:Int)*(r:Int))),I 2]=some [I (BA (((r:Int)-i)*((r:Int)-i)*(p-c)+i*i*(q-c)) ((r:Int)*(r:Int))),B true])
  {f:Nat->List AC} (hf:∀i:Nat,f i=ptR (OS r i p c q)):
  ∀(k i:Nat),i+k=r+1->Ak (Pm MR MP MT MC) [.vC kPt (ER f [I 0,I 0,I 0] (r+1) i),I r,I (r+1:Nat),I i,I c.x,I c.y,I c.z,I p.x,I p.y,I p.z,I q.x,I q.y,I q.z]=
   some (1,[.vC kPt ((List.range (r+1)).map f)])
 |0,i,hi=>by
  obtain rfl:i=r+1:=by omega
  refine Be ?_ (by simp);rw[Qta,Qwm,Bg (by omega)]
 |k+1,i,hi=>by
  have b1:=Oe (n:=r) (i:=i) (A:=B24) (by omega) (by omega) G.1 J.1 M.1;have b2:=Oe (n:=r) (i:=i) (A:=B24) (by omega) (by omega) G.2.1 J.2.1 M.2.1;have b3:=Oe (n:=r) (i:=i) (A:=B24) (by omega) (by omega) G.2.2 J.2.2 M.2.2;have U:=O (i:=i) (by omega) G.1 J.1 M.1;have X:=O (i:=i) (by omega) G.2.1 J.2.1 M.2.1;have Y:=O (i:=i) (by omega) G.2.2 J.2.2 M.2.2;have hs:Pm MR MP MT MC [.vC kPt (ER f [I 0,I 0,I 0] (r+1) i),I r,I (r+1:Nat),I i,I c.x,I c.y,I c.z,I p.x,I p.y,I p.z,I q.x,I q.y,I q.z]=
    some (0,[.vC kPt (ER f [I 0,I 0,I 0] (r+1) (i+1)),I r,I (r+1:Nat),I (i+1:Nat),I c.x,I c.y,I c.z,I p.x,I p.y,I p.z,I q.x,I q.y,I q.z]):=by
   have hlen:=Q9o f [I 0,I 0,I 0] (show i<=r+1 by omega);have E:=Q4q f [I 0,I 0,I 0] (show i<r+1 by omega);rw[hf i]at E;generalize ER f [I 0,I 0,I 0] (r+1) i=l at*;have N:∀x:List AC,nth [] (l.set i x) i=x:=λx=>Zcf _ _ _ _ (by omega);rw[Qta];have S:(0:Int)<=(i:Int)/\(i:Int)<((r+1:Nat):Int):=by omega
   simp only[go_sem,U,X,Y,ak,hlen,ab S,List.set_set,N,jb];rw[ab];unfold O6 B24 at b1 b2 b3;rw[Ae (x:=c.x+_),Ae (x:=c.y+_),Ae (x:=c.z+_),Ae (x:=(i:Int)+1)];rw[<-E];rfl
  rw[Bz hs];exact Q7f T G J M O hf k (i+1) (by omega)
theorem Zth {a c b:Pt} (J:bd B24 a) (E:bd B24 c) (hb:bd B24 b) (ht:0<=k/\k<=16000):
  P5 [I a.x,I a.y,I a.z,I c.x,I c.y,I c.z,I b.x,I b.y,I b.z,I k]=some [.vC kPt ((GI a c b k).map ptR)]:=by
 show Qmb _ _ _ _ (Ak (Pm _ _ _ _)) _=_;have e1:=Z4e J E hb ht;have hR:= @Zue;generalize Mi=T at*;unfold GI;by_cases h:DS a c b k=0
 ·rw[ab h];rw[Q4s];simp only[go_sem,e1];rw[ab h];rfl
 ·rw[aa h];obtain⟨U,X,h3,h4,h5,-⟩:=Qpj h;obtain⟨m1,m2⟩:=VW (AJ a c) (AJ c b);have h0: ¬DS a c b k=0:=h;generalize DS a c b k=d at*;have k1:bd B24 (Cb c a d):=Lr E J U (by omega);have k2:bd B24 (Cb c b d):=Lr E hb X (by rw[T4 b c];omega);have Y:=Zx E J U (d:=d) (by omega);have t2:=Zx E hb X (d:=d) (by omega);have p1:=Z61 k1 E k2;have p2:=(W7 k1 E k2).2;generalize L4 (Cb c a d) c (Cb c b d)=n at*;obtain⟨N,rfl⟩:∃N:Nat,n=N:=⟨n.toNat,by rcases p2 with rfl|rfl|rfl|rfl|rfl|rfl<;>rfl⟩;have hN:2<=N/\N<=64:=by unfold KG at p2;omega
  have M:=Q7f (MR:=BM) (MP:=K6) (MT:=Hi) (MC:=T) hN k1 E k2 (λhi hp E hq=>hR (by omega) hi hp E hq) (f:=λi=>ptR (OS N i (Cb c a d) c (Cb c b d))) (λ_=>rfl) (N+1) 0 (by omega);have O:∀f:Nat->List AC,ER f [I 0,I 0,I 0] (N+1) 0=List.replicate (N+1) [I 0,I 0,I 0]:=λf=>by unfold ER;rw[List.range_zero,f8,bf,Nat.sub_zero]
  rw[O]at M;generalize BM=MR at*;generalize K6=MP at*;generalize Hi=MT at*;generalize Cb c a d=p at*;generalize Cb c b d=q at*;rw[Q4s];simp only[az,bf,ptR]at Y t2;have G:(List.range (N+1)).map (fun(i:Nat)=>ptR (OS N i p c q))=((List.range ((N:Int).toNat+1)).map fun(i:Nat)=>OS N i p c q).map ptR:=by rw[List.map_map,ak];rfl
  rw[G]at M;generalize((List.range ((N:Int).toNat+1)).map fun(i:Nat)=>OS N i p c q).map ptR=C at*;generalize Ak (Pm MR MP MT T)=L at*;have S:L [.vC kPt (List.replicate (N+1) [I 0,I 0,I 0]),I N,I (N+1:Nat),I 0,I c.x,I c.y,I c.z,I p.x,I p.y,I p.z,I q.x,I q.y,I q.z]=some (1,[.vC kPt C]):=M;have w1:V ((N:Int)+1)=((N+1:Nat):Int):=by rw[Ae];rfl
  simp only[e1,Y,t2,p1,w1,ag,Ik,Ng,Mj,H7,gA,jA,wA,bA,ak,List.length_replicate,Qpx];rw[BI (by simpa using h0),Ep trivial,Ca (by simp;omega),S];rfl
end Go.Bm
namespace Go.Bm
open Classical
theorem RR (k:Int):Eh [I k]=some [B (decide (1<=k/\k<=6))]:=by
 unfold Eh;rw[Z82];by_cases h:1<=k
 ·rw[Ep (show k>=1 from h)];by_cases E:k<=6
  ·rw[am E,am ⟨h,E⟩]
  ·rw[an E,an λG=>E G.2]
 ·rw[Bg (show¬k>=1 from h),an λG=>h G.1]
theorem Vi (it:Itm):Fp (Af it)=some [B (decide (smI it))]:=by
 unfold Fp;rw[Z8b];by_cases h:it.aP=2
 ·rw[Ca (by simp[h])];congr 2;by_cases G:it.fr=it.to
  ·have E:=D7.1 G;rw[an (λI:smI it=>I.2 G)];simp[E.1,E.2.1,E.2.2]
  ·rw[am (show smI it from⟨h,G⟩)];have E: ¬(it.fr.x=it.to.x/\it.fr.y=it.to.y/\it.fr.z=it.to.z):=λE=>G (D7.2 E);simp only[B,AC.bool.injEq,iw,Bool.and_true];by_cases a:it.fr.x=it.to.x<;>by_cases b:it.fr.y=it.to.y<;>by_cases c:it.fr.z=it.to.z<;>simp[a,b,c]at E⊢
 ·rw[BI (by simp[h]),an (λI:smI it=>h I.1)]
theorem T6 {it:Itm} (E:bd 1048576 it.fr) (G:bd 1048576 it.to):GJ (Af it)=some (ptR (Bq it)):=by
 obtain⟨a1,a2,a3⟩:=E;obtain⟨b1,b2,b3⟩:=G;unfold GJ;rw[Zn5,Ae (x:=it.fr.x+it.to.x),Ae (x:=(it.fr.x+it.to.x)*8),Ae (x:=it.fr.y+it.to.y),Ae (x:=(it.fr.y+it.to.y)*8),Ae (x:=it.fr.z+it.to.z),Ae (x:=(it.fr.z+it.to.z)*8)];rfl
theorem Z8w (h:bd 100000000 g):OW [I g.x,I g.y,I g.z]=some (ptR (AF g)):=by
 unfold OW;rw[Zni];obtain⟨E,G,J⟩:=h;rw[Ae,Ae,Ae];rfl
theorem Qw2 (it:Itm):H6 (Af it)=some [B (decide (syI it))]:=by
 unfold H6;rw[Ztc];by_cases E:it.aP=5
 ·rw[Ca (by simp[E]),am (show syI it from .inl E)]
 ·rw[BI (by simp[E])];by_cases G:it.aP=6
  ·rw[am (show syI it from .inr G)];simp[G]
  ·rw[an (show¬syI it from λh=>h.elim E G)];simp[G]
theorem Zta {it:Itm} (hM:Z [I it.aP]=some [B (decide (1<=it.aP/\it.aP<=6))]) (hV:∃v,M (Af it)=some [B v]/\(v=true↔Ed it)):
  Qjq M Z (Af it)=some [I (if Cc it then 1 else 0)]:=by
 obtain⟨v,hv,N⟩:=hV;have E:∀{x:Int},(Cc it->x=1)->(¬Cc it->x=0)->some [I x]=some [I (if Cc it then 1 else 0)]:=by
  intro x h1 h2;by_cases c:Cc it
  ·rw[ab c,h1 c]
  ·rw[aa c,h2 c]
 rw[Zqd];simp only[go_sem,hM,hv];unfold Cc AK at E⊢;have one:∀{P:Prop},P->(P->(1:Int)=1)/\(¬P->(1:Int)=0):=λh=>⟨λ_=>rfl,λg=>absurd h g⟩;have zero:∀{P:Prop},¬P->(P->(0:Int)=1)/\(¬P->(0:Int)=0):=λh=>⟨λg=>absurd g h,λ_=>rfl⟩;by_cases O:it.aP<1
 ·rw[ab O];exact E (λ_=>rfl) λg=>absurd (.inl O) g
 rw[aa O];by_cases S:it.aP>14
 ·rw[ab S];exact E (λ_=>rfl) λg=>absurd (.inr (.inl S)) g
 rw[aa S];by_cases G:1<=it.aP/\it.aP<=6
 ·simp only[ab G];have T:it.aP≠8:=by omega
  simp only[aa T];by_cases J:Ed it
  ·rw[aa (by simp[N.2 J])];by_cases U:it.blend<0
   ·rw[ab U];exact E (λ_=>rfl) λg=>absurd (.inr (.inr (.inl ⟨G, .inr (.inr (.inl U))⟩))) g
   rw[aa U];by_cases V:it.blend>1000
   ·rw[ab V];exact E (λ_=>rfl) λg=>absurd (.inr (.inr (.inl ⟨G, .inr (.inr (.inr V))⟩))) g
   rw[aa V];by_cases X:it.aP=1
   ·rw[aa (show¬it.aP≠1 by omega)];refine E (λg=> ?_) λ_=>rfl;rcases g with g|g|⟨-,g|g|g|g⟩|g
    ·omega
    ·omega
    ·exact absurd J g
    ·omega
    ·omega
    ·omega
    ·omega
   ·rw[ab X];by_cases Y:it.aZ<1
    ·rw[ab Y];exact E (λ_=>rfl) λg=>absurd (.inr (.inr (.inl ⟨G, .inr (.inl ⟨X, .inl Y⟩)⟩))) g
    rw[aa Y];by_cases c9:it.aZ>60000000
    ·rw[ab c9];exact E (λ_=>rfl) λg=>absurd (.inr (.inr (.inl ⟨G, .inr (.inl ⟨X, .inr c9⟩)⟩))) g
    rw[aa c9];refine E (λg=> ?_) λ_=>rfl;rcases g with g|g|⟨-,g|g|g|g⟩|g
    ·omega
    ·omega
    ·exact absurd J g
    ·omega
    ·omega
    ·omega
    ·omega
  ·rw[ab (λh=>J (N.1 h))];exact E (λ_=>rfl) λg=>absurd (.inr (.inr (.inl ⟨G, .inl J⟩))) g
 ·simp only[aa G];by_cases J:it.aP=8
  ·rw[ab J];by_cases d1:it.n<3
   ·rw[ab d1];exact E (λ_=>rfl) λg=>absurd (.inr (.inr (.inr ⟨G,J, .inl d1⟩))) g
   rw[aa d1];by_cases d2:it.n>5
   ·rw[ab d2];exact E (λ_=>rfl) λg=>absurd (.inr (.inr (.inr ⟨G,J, .inr (.inl d2)⟩))) g
   rw[aa d2];by_cases d3:it.aS<0
   ·rw[ab d3];exact E (λ_=>rfl) λg=>absurd (.inr (.inr (.inr ⟨G,J, .inr (.inr (.inl d3))⟩))) g
   rw[aa d3];by_cases d4:it.aS>30000
   ·rw[ab d4];exact E (λ_=>rfl) λg=>absurd (.inr (.inr (.inr ⟨G,J, .inr (.inr (.inr d4))⟩))) g
   rw[aa d4];refine E (λg=> ?_) λ_=>rfl;rcases g with g|g|⟨g,-⟩|⟨-,-,g⟩
   ·omega
   ·omega
   ·exact absurd g G
   ·omega
  ·rw[aa J];refine E (λg=> ?_) λ_=>rfl;rcases g with g|g|⟨g,-⟩|⟨-,g,-⟩
   ·omega
   ·omega
   ·exact absurd g G
   ·omega
theorem Z72 (it:Itm):JL (Af it)=some [I (if Cc it then 1 else 0)]:=Zta (RR _) (Qpd it)
def Dt:List Itm->Nat->Nat
 |[],k=>k
 |it::l,k=>if it.aP=10 then Dt l (k+1)else k
def Dw (aA:List Itm) (i:Nat):Nat:=Dt (aA.drop (i+1)) (i+1)
theorem Qoq:∀(l:List Itm) (k:Nat),k<=Dt l k/\Dt l k<=k+l.length
 |[],k=>by simp[Dt]
 |it::l,k=>by
  unfold Dt;split
  ·have:=Qoq l (k+1);simp;omega
  ·simp
theorem Q2b:∀(l:List Itm) (k:Nat),G3 l k=if Dt l k-k<l.length/\smI (l.getD (Dt l k-k) it0)then(Dt l k:Int)else-1
 |[],k=>by simp[G3]
 |it::l,k=>by
  have J:=Qoq l (k+1);by_cases E:it.aP=10
  ·have e1:G3 (it::l) k=G3 l (k+1):=by rw[G3,ab E]
   have e2:Dt (it::l) k=Dt l (k+1):=by rw[Dt,ab E]
   rw[e1,e2,Q2b l (k+1)];have e3:Dt l (k+1)-k=(Dt l (k+1)-(k+1))+1:=by omega
   rw[e3,List.getD_cons_succ];by_cases c:Dt l (k+1)-(k+1)<l.length
   ·have I:Dt l (k+1)-(k+1)+1<(it::l).length:=by simp;omega
    by_cases G:smI (l.getD (Dt l (k+1)-(k+1)) it0)
    ·rw[ab ⟨c,G⟩,ab ⟨I,G⟩]
    ·rw[aa (λg=>G g.2),aa (λg=>G g.2)]
   ·rw[aa (λg=>c g.1),aa (λg=>c (by have:=g.1;simp at this;omega))]
  ·have e1:G3 (it::l) k=if smI it then(k:Int)else-1:=by rw[G3,aa E]
   have e2:Dt (it::l) k=k:=by rw[Dt,aa E]
   rw[e1,e2,jt,List.getD_cons_zero];by_cases c:smI it
   ·rw[ab c,ab ⟨by simp,c⟩]
   ·rw[aa c,aa (λg=>c g.2)]
theorem Q3f {aA:List Itm} (N:aA.length<=1000000):∀(k i:Nat),i+k=aA.length->
  Ak Qw [.vC Aj (aA.map Af),I i]=some (1,[I (Dt (aA.drop i) i)])
 |0,i,hi=>by
  refine Be ?_ (by simp);rw[Q8n];simp only[go_sem,af];rw[aa,fc (by omega)];rfl
 |k+1,i,hi=>by
  have G:i<aA.length:=by omega
  have O:=FQ G;rw[Qog G];have E:Qw [.vC Aj (aA.map Af),I i]=if(itA aA i).aP=10 then some (0,[.vC Aj (aA.map Af),I (i+1:Nat)])else some (1,[I i]):=by
   rw[Q8n];have M:(0:Int)<=(i:Int)/\(i:Int)<(aA.length:Int):=by omega
   simp only[go_sem,af,ak,O,ab M];rw[ab,Ae];rfl
  unfold Dt;by_cases J:(itA aA i).aP=10
  ·rw[ab J]at E⊢;rw[Bz E];exact Q3f N k (i+1) (by omega)
  ·rw[aa J]at E⊢;exact Be E (by simp)
theorem Qd1 {aA:List Itm} (E:aA.length<=1000000) {i:Nat} (hi:i<aA.length):FR [.vC Aj (aA.map Af),I i]=some [I (Dw aA i)]:=by
 show Qgd (Ak Qw) _=_;have h:=Q3f E (aA.length-(i+1)) (i+1) (by omega);rw[Zqt,Ae,show(i:Int)+1=((i+1:Nat):Int) by omega,h];rfl
theorem Q37 {aA:List Itm}:CD aA i=if smI (itA aA i)/\(itA aA i).blend≠0/\Dw aA i<aA.length/\smI (itA aA (Dw aA i))then(Dw aA i:Int)else-1:=by
 unfold CD;by_cases h:smI (itA aA i)/\(itA aA i).blend≠0
 ·rw[ab h,Q2b];have E:=Qoq (aA.drop (i+1)) (i+1);rw[co]at E;have e:(aA.drop (i+1)).getD (Dt (aA.drop (i+1)) (i+1)-(i+1)) it0=itA aA (Dw aA i):=by
   unfold itA;rw[fu,fe,fu];have:i+1+(Dt (aA.drop (i+1)) (i+1)-(i+1))=Dw aA i:=by unfold Dw;omega
   rw[this]
  rw[e,co];have e2:Dt (aA.drop (i+1)) (i+1)=Dw aA i:=rfl;rw[e2]at E⊢;by_cases c:Dw aA i<aA.length/\smI (itA aA (Dw aA i))
  ·rw[ab ⟨by omega,c.2⟩,ab ⟨h.1,h.2,c⟩]
  ·rw[aa (λg=>c ⟨by have:=g.1;omega,g.2⟩),aa (λg=>c g.2.2)]
 ·rw[aa h,aa (λg=>h ⟨g.1,g.2.1⟩)]
theorem Z1o {aA:List Itm} (V:∀it,M (Af it)=some [B (decide (smI it))]) {i:Nat} (hi:i<aA.length) (Y:Z [.vC Aj (aA.map Af),I i]=some [I (Dw aA i)]):
  Yk M Z [.vC Aj (aA.map Af),I i]=some [B (decide (0<=CD aA i))]:=by
 have hr:=FQ hi;have X:=V (itA aA i);rw[Zz9,Q37];simp only[Af]at X;have S:(0:Int)<=(i:Int)/\(i:Int)<(aA.length:Int):=by omega
 simp only[go_sem,af,ak,hr,X,Y,ab S];by_cases J:smI (itA aA i)
 case neg=>rw[aa J,aa (λg=>J g.1)];simp
 rw[ab J];by_cases N:(itA aA i).blend=0
 ·rw[aa (by simp[N]),aa (λg=>g.2.1 N)];simp
 rw[ab N];by_cases T:Dw aA i<aA.length
 ·have U:=FQ T;have E:=V (itA aA (Dw aA i));simp only[Af]at E;have G:(0:Int)<=(Dw aA i:Int)/\(Dw aA i:Int)<(aA.length:Int):=by omega
  rw[ab,ab G];simp only[go_sem,U,E];by_cases O:smI (itA aA (Dw aA i))
  ·rw[am O,ab ⟨J,N,T,O⟩,am (by omega)]
  ·rw[an O,aa (λg=>O g.2.2.2)];simp
 ·rw[aa,aa (λg=>T g.2.2.1)];simp
theorem Qs8 {aA:List Itm} (E:aA.length<=1000000) {i:Nat} (hi:i<aA.length):HJ [.vC Aj (aA.map Af),I i]=some [B (decide (0<=CD aA i))]:=
 Z1o Vi hi (Qd1 E hi)
theorem Uw {aA:List Itm} (h:0<=CD aA i):CD aA i=Dw aA i:=by
 rw[Q37]at h⊢;split at h
 ·rename_i c;rw[ab c]
 ·omega
theorem Zn1 {a c b:Pt} (G:bd B24 a) (E:bd B24 c) (hb:bd B24 b):(GI a c b k).length%2=1:=by
 unfold GI;by_cases h:DS a c b k=0
 ·rw[ab h];rfl
 ·rw[aa h];obtain⟨I,J,N,O,S,-⟩:=Qpj h;obtain⟨m1,m2⟩:=VW (AJ a c) (AJ c b);generalize DS a c b k=d at*;have k1:bd B24 (Cb c a d):=Lr E G I (by omega);have k2:bd B24 (Cb c b d):=Lr E hb J (by rw[T4 b c];omega);have M:=(W7 k1 E k2).2;generalize L4 (Cb c a d) c (Cb c b d)=n at*;rw[af,List.length_range];rcases M with rfl|rfl|rfl|rfl|rfl|rfl<;>rfl
theorem Ztx {a b:Itm} {l:List Pt} (O:0<=a.blend/\a.blend<=1000) (T:1<=l.length/\l.length<=65) (E:l.length%2=1)
  (G:W (Af a)=some (ptR (Bq a))) (J:W (Af b)=some (ptR (Bq b))) (S:Z [I a.to.x,I a.to.y,I a.to.z]=some (ptR (AF a.to)))
  (N:M (ptR (Bq a)++ptR (AF a.to)++ptR (Bq b)++[I (a.blend*16)])=some [.vC kPt (l.map ptR)]):
  Qjh M Z W (Af a++Af b)=some [.vC kPt ((l.take (l.length/2+1)).map ptR), .vC kPt ((l.drop (l.length/2)).map ptR)]:=by
 simp only[Af,az,bf]at G J⊢;rw[Z8y];simp only[ptR,az,bf]at N;simp only[go_sem,G,J,S];rw[Ae];simp only[N,go_sem,af];have e:V ((V ((l.length:Int)-1)).tdiv 2)=((l.length/2:Nat):Int):=by
  rw[Ae (x:=(l.length:Int)-1),bh (by omega),Ae];omega
 have e2:V (((l.length/2:Nat):Int)+1)=((l.length/2+1:Nat):Int):=by rw[Ae];omega
 simp only[e,e2,ak];rw[ab,ab,List.map_take,List.map_drop]
theorem Zmn {a b:Itm} (E:drawn a) (G:drawn b):
  RS (Af a++Af b)=some [.vC kPt (((GI (Bq a) (AF a.to) (Bq b) (a.blend*16)).take ((GI (Bq a) (AF a.to) (Bq b) (a.blend*16)).length/2+1)).map ptR), .vC kPt (((GI (Bq a) (AF a.to) (Bq b) (a.blend*16)).drop ((GI (Bq a) (AF a.to) (Bq b) (a.blend*16)).length/2)).map ptR)]:=
 have k1:=LS E.1.2.1 E.1.2.2.1;have k2:=EW E.1.2.2.1;have I:=LS G.1.2.1 G.1.2.2.1
 Ztx E.2 (Q1r k1 k2 I).2 (Zn1 k1 k2 I) (T6 E.1.2.1 E.1.2.2.1) (T6 G.1.2.1 G.1.2.2.1) (Z8w (A3 E.1.2.2.1 (by decide))) (Zth k1 k2 I (by have:=E.2;omega))
theorem Zx9 {MM MN MS MC X MK:Fn} {aA:List Itm} (hi:i<aA.length) (U:drawn (itA aA i)) (hf:Mq aA i a) (N:∀k<aA.length,AK (itA aA k)->drawn (itA aA k))
  (hK:MK (Af (itA aA i))=some [.vC kPt ((CB (itA aA i)).map ptR),B true]) (hM:X (Af (itA aA i))=some [B (decide (smI (itA aA i)))])
  (hJ:∀{i k:Nat},i<aA.length->k<aA.length->drawn (itA aA i)->drawn (itA aA k)->MC (Af (itA aA i)++Af (itA aA k))=some [.vC kPt (((H1 aA i k).take ((H1 aA i k).length/2+1)).map ptR), .vC kPt (((H1 aA i k).drop ((H1 aA i k).length/2)).map ptR)])
  (hS:MS [.vC Aj (aA.map Af),I i]=some [B (decide (0<=CD aA i))]) (hN:MN [.vC Aj (aA.map Af),I i]=some [I (Dw aA i)]) (hC:MM (Af (itA aA i))=some (ptR (Bq (itA aA i)))):
  Xu MM MN MS MC X MK [.vC Aj (aA.map Af),I i,I a]=some [.vC kPt ((C3 aA i a).map ptR)]:=by
 have r1:=FQ hi;obtain⟨a6,a7⟩:=Qzk (itA aA i);rw[Zmy];simp only[Af,az,bf]at hK hM hC hJ;have a3:(0:Int)<=(i:Int)/\(i:Int)<(aA.length:Int):=by omega
 simp only[go_sem,af,ak,r1,hK,hM,hC,hS,hN,bf,ab a3];unfold C3;by_cases Y:smI (itA aA i)
 case neg=>rw[ab (by simp[Y]),aa Y]
 rw[aa (by simp[Y]),ab Y];have a4:(itA aA i).aP≠3:=by have:=Y.1;omega
 have O:(CB (itA aA i)).length=2:=by unfold CB;rw[aa a4];rfl
 have w1:V (((CB (itA aA i)).length:Int)-1)=1:=by rw[O];rfl
 rw[w1,O,ab,ab];unfold Nl;rcases hf with rfl|⟨f,rfl,a0,a1⟩
 ·rw[aa (show¬(-1:Int)>=0 by omega)];unfold JI;rw[aa (show¬(0:Int)<= -1 by omega)];by_cases E:0<=CD aA i
  ·obtain⟨k,hk,G,J⟩:=V3 N E;have S:=Uw E;rw[hk]at S;have T:Dw aA i=k:=by omega
   obtain⟨j1,j2,j3⟩:=LY (aA:=aA) (i:=i) (k:=k) U J;have hj:=hJ hi G U J;have r2:=FQ G;have M:(0:Int)<=(k:Int)/\(k:Int)<(aA.length:Int):=by omega
   rw[ab E,ab E,hk,T,ak,ab M];simp only[go_sem,ak,r2,hj];rw[ab (by simp[S2];omega),ab (by simp;omega),ab (by simp;omega)];simp only[S2,de,bt,f8]
  ·rw[aa E,aa E,ab (by simp[S2];omega),ab (by simp;omega),ab (by simp;omega)];simp only[S2,Q50,de,bt,f8]
 ·have a5:=hJ a0 hi a1 U;obtain⟨f1,f2,f3⟩:=LY (aA:=aA) (i:=f) (k:=i) a1 U;have rf:=FQ a0;have a2:(0:Int)<=(f:Int)/\(f:Int)<(aA.length:Int):=by omega
  rw[ab (show(f:Int)>=0 by omega),ab a2];unfold JI;rw[ab (show(0:Int)<=(f:Int) by omega),ak];simp only[rf,go_sem,a5,ak];by_cases E:0<=CD aA i
  ·obtain⟨k,hk,G,J⟩:=V3 N E;have S:=Uw E;rw[hk]at S;have T:Dw aA i=k:=by omega
   obtain⟨j1,j2,j3⟩:=LY (aA:=aA) (i:=i) (k:=k) U J;have hj:=hJ hi G U J;have r2:=FQ G;have M:(0:Int)<=(k:Int)/\(k:Int)<(aA.length:Int):=by omega
   rw[ab E,ab E,hk,T,ak,ab M];simp only[go_sem,ak,r2,hj];rw[ab (by simp;omega),ab (by simp;omega),ab (by simp;omega)];simp only[de,bt,f8]
  ·rw[aa E,aa E,ab (by simp;omega),ab (by simp;omega),ab (by simp;omega)];simp only[Q50,de,bt,f8]
theorem Zun {aA:List Itm} (J:aA.length<=1000000) {i:Nat} {frm:Int} (hi:i<aA.length) (G:drawn (itA aA i)) (hf:Mq aA i frm) (E:∀k<aA.length,AK (itA aA k)->drawn (itA aA k)):
  NG [.vC Aj (aA.map Af),I i,I frm]=some [.vC kPt ((C3 aA i frm).map ptR)]:=
 Zx9 hi G hf E (Z73 G.1) (Vi _) (λO S M N=>Zmn M N) (Qs8 J hi) (Qd1 J hi) (T6 G.1.2.1 G.1.2.2.1)
theorem Q1c {l:List Itm} (T:∀k:Int,M [I k]=some [B (decide (1<=k/\k<=6))]) (U:∀it,Z (Af it)=some [B (decide (syI it))]) (X:l.length<=1000000):∀(k i:Nat),i+k=l.length->
  (Ak (LF M Z) [.vC Aj (l.map Af),I l.length,I i]=some (1,[B (decide (Gc (l.drop i)=1))]))\/(Ak (LF M Z) [.vC Aj (l.map Af),I l.length,I i]=some (2,[])/\Gc (l.drop i)=2)
 |0,i,hi=>by
  right;refine⟨Be ?_ (by simp),by rw[fc (by omega)];rfl⟩;rw[Qzd];simp only[go_sem];rw[aa]
 |k+1,i,hi=>by
  have J:i<l.length:=by omega
  have Y:=FQ J;rw[Qog J];have V:=U (itA l i);have hm:=T (itA l i).aP;have E:LF M Z [.vC Aj (l.map Af),I l.length,I i]=if AK (itA l i)then some (1,[B (decide (syI (itA l i)))])else some (0,[.vC Aj (l.map Af),I l.length,I (i+1:Nat)]):=by
   rw[Qzd];simp only[Af]at V;have S:(0:Int)<=(i:Int)/\(i:Int)<(l.length:Int):=by omega
   simp only[go_sem,af,ak,Y,V,hm,ab S];rw[ab,Ae];by_cases O:AK (itA l i)
   ·rw[ab (show 1<=(itA l i).aP/\(itA l i).aP<=6 from O),ab O]
   ·rw[aa (show¬(1<=(itA l i).aP/\(itA l i).aP<=6)from O),aa O];rfl
  unfold Gc;by_cases N:AK (itA l i)
  ·rw[ab N]at E⊢;left;rw[Be E (by simp)];by_cases G:syI (itA l i)
   ·rw[ab G,am G];rfl
   ·rw[aa G,an G];rfl
  ·rw[aa N]at E⊢;rw[Bz E];exact Q1c T U X k (i+1) (by omega)
def Jv (aA:List Itm) (i:Nat):Prop:=(itA aA i).blend=0\/syI (itA aA i)\/Gc (aA.drop (i+1))=1
theorem Z19 {aA:List Itm} (hM:∀k:Int,M [I k]=some [B (decide (1<=k/\k<=6))]) (Y:∀it,Z (Af it)=some [B (decide (syI it))]) (hl:aA.length<=1000000) {i:Nat} (hi:i<aA.length):
  Qqt M Z (Ak (LF M Z)) [.vC Aj (aA.map Af),I i]=some [B (decide (Jv aA i))]:=by
 have hr:=FQ hi;have hs:=Y (itA aA i);have G:=Q1c hM Y (l:=aA.drop (i+1)) (by rw[co];omega) (aA.drop (i+1)).length 0 (by omega);rw[f9]at G;rw[Zyt];simp only[Af]at hs;have hw:V ((i:Int)+1)=((i+1:Nat):Int):=by rw[Ae];omega
 have U:(0:Int)<=(i:Int)/\(i:Int)<(aA.length:Int):=by omega
 have J:(0:Int)<=((i+1:Nat):Int)/\((i+1:Nat):Int)<=(aA.length:Int):=by omega
 have X:(List.drop (i+1) (aA.map Af)).length=(aA.drop (i+1)).length:=by rw[co,co,af]
 generalize Ak (LF M Z)=N at*;simp only[go_sem,af,ak,hr,hs,hw,ab U,ab J,X];rw[<-List.map_drop];by_cases O:(itA aA i).blend=0
 ·rw[ab O,am (show Jv aA i from .inl O)]
 ·rw[aa O];by_cases S:syI (itA aA i)
  ·rw[ab S,am (show Jv aA i from .inr (.inl S))]
  ·rw[aa S];rcases G with G|⟨G,hn⟩
   ·have E:N [.vC Aj ((aA.drop (i+1)).map Af),I (aA.drop (i+1)).length,I 0]=some (1,[B (decide (Gc (aA.drop (i+1))=1))]):=G;simp only[E,go_sem];by_cases T:Gc (aA.drop (i+1))=1
    ·rw[am T,am (show Jv aA i from .inr (.inr T))]
    ·rw[an T,an (show¬Jv aA i from λh=>h.elim O λh=>h.elim S T)]
   ·have E:N [.vC Aj ((aA.drop (i+1)).map Af),I (aA.drop (i+1)).length,I 0]=some (2,[]):=G;simp only[E,go_sem];rw[an (show¬Jv aA i from λh=>h.elim O λh=>h.elim S λh=>by rw[hn]at h;cases h)];simp
theorem Z8u {aA:List Itm} (E:aA.length<=1000000) {i:Nat} (hi:i<aA.length):Sf [.vC Aj (aA.map Af),I i]=some [B (decide (Jv aA i))]:=Z19 RR Qw2 E hi
def Kb (aA:List Itm) (i:Nat):Int:=if AK (itA aA i)then HH aA i else Re (itA aA i)
theorem Z96 {aA:List Itm} {aF:Rw} {aD:List Mrk} {b:Bool} (hi:i<aA.length) (X:aD.length<=1000000)
  (Y:Z [I (itA aA i).aP]=some [B (decide (AK (itA aA i)))]) (hE:M [.vC Aj (aA.map Af),I i]=some [B (decide (Jv aA i))]):
  Qkl M Z [.vC Ag aF, .vC AO (aD.map Aw), .vC Aj (aA.map Af),I i,I g.x,I g.y,I g.z,B b,I a,I v,I u]=
   some [.vC Ag aF, .vC AO ((aD++[(⟨a,Kb aA i,i⟩:Mrk)]).map Aw),I g.x,I g.y,I g.z,B b,I a,I v,I u]:=by
 have hr:=FQ hi;have T:(0:Int)<=(i:Int)/\(i:Int)<(aA.length:Int):=by omega
 have hb:(aD.length+1)*24<=140737488355328:=by omega
 have e:∀k:Int,aD.map Aw++[[I a,I k,I i]]=(aD++[(⟨a,k,i⟩:Mrk)]).map Aw:=λk=>by rw[de];rfl
 rw[Z84];simp only[go_sem,af,ak,hr,ab T,Y,hE,ay,bj,dg,ab hb];have fin:∀{k:Int},k=Kb aA i->some [AC.vC Ag aF, .vC AO (aD.map Aw++[[I a,I k,I i]]),I g.x,I g.y,I g.z,B b,I a,I v,I u]=some [.vC Ag aF, .vC AO ((aD++[(⟨a,Kb aA i,i⟩:Mrk)]).map Aw),I g.x,I g.y,I g.z,B b,I a,I v,I u]:=by
  intro k hk;rw[e,hk]
 unfold Kb HH Re at fin⊢;by_cases O:(itA aA i).aP=4
 ·rw[ab O];have E:AK (itA aA i):=⟨by omega,by omega⟩;exact fin (by rw[ab E,ab O])
 ·rw[aa O];by_cases E:AK (itA aA i)
  ·rw[ab E];by_cases N:Jv aA i
   ·rw[ab N];refine fin ?_;rw[ab E,aa O];rcases N with h|h|h
    ·rw[ab h]
    ·by_cases S:(itA aA i).blend=0
     ·rw[ab S]
     ·rw[aa S,ab h]
    ·by_cases S:(itA aA i).blend=0
     ·rw[ab S]
     ·rw[aa S];by_cases V:syI (itA aA i)
      ·rw[ab V]
      ·rw[aa V,h]
   ·rw[aa N,ab E];refine fin ?_;rw[ab E,aa O,aa (λh=>N (.inl h)),aa (λh=>N (.inr (.inl h)))];have U:∀l:List Itm,Gc l=1\/Gc l=2:=by
     intro l;induction l with
     |nil=>right;rfl
     |cons it l ih=>
      unfold Gc;split
      ·split<;>simp
      ·exact ih
    rcases U (aA.drop (i+1))with h|h
    ·exact absurd (.inr (.inr h)) N
    ·rw[h]
  ·rw[aa E,aa E];by_cases G:(itA aA i).aP=10
   ·rw[ab G];exact fin (by rw[aa E,ab G])
   ·rw[aa G];by_cases J:(itA aA i).aP=13
    ·rw[ab J];exact fin (by rw[aa E,aa G,ab J])
    ·rw[aa J];exact fin (by rw[aa E,aa G,aa J])
theorem Ztm {aA:List Itm} (J:aA.length<=1000000) {i:Nat} {aF:Rw} {aD:List Mrk} {st:Pt} {b:Bool} {len sp E:Int} (hi:i<aA.length) (G:aD.length<=1000000):
  JF [.vC Ag aF, .vC AO (aD.map Aw), .vC Aj (aA.map Af),I i,I st.x,I st.y,I st.z,B b,I len,I sp,I E]=
   some [.vC Ag aF, .vC AO ((aD++[(⟨len,Kb aA i,i⟩:Mrk)]).map Aw),I st.x,I st.y,I st.z,B b,I len,I sp,I E]:=
 Z96 hi G (RR _) (Z8u J hi)
theorem Zp8 (a:Pt) (aF:List Sgm):aF=[]\/∃l g,aF=l++[g]/\FT a aF=g.to/\((aF.length:Int)>0)/\nth [] (aF.map Av) (aF.length-1)=Av g:=by
 rcases List.eq_nil_or_concat aF with h|⟨l,g,h⟩
 ·exact .inl h
 ·right;rw[List.concat_eq_append]at h;refine⟨l,g,h,?_,?_,?_⟩
  ·rw[h];exact Tv g a l
  ·rw[h];simp
  ·have E:aF.length-1<aF.length:=by rw[h];simp
   rw[JA _ _ _ _ E];congr 1;subst h;simp
theorem Zr6 {q g st:Pt} {G aU aZ aX len sp E:Int}:
  TO M [.vC Ag [], .vC AO l,I q.x,I q.y,I q.z,I g.x,I g.y,I g.z,I G,I aU,I aZ,I aX,I st.x,I st.y,I st.z,B false,I len,I sp,I E]=
   some [.vC Ag [], .vC AO l,I q.x,I q.y,I q.z,B true,I len,I sp,I E]:=by
 rw[Q97];simp
theorem Zj9 {aF:List Sgm} {aD:Rw} {q g st at_:Pt} {X aU aZ aX len sp G:Int} (J:FT st aF=at_)
  (S:M [I at_.x,I at_.y,I at_.z,I q.x,I q.y,I q.z]=some [I (AJ at_ q)]) (hl:0<=AJ at_ q/\AJ at_ q<=268435456) (hs:aF.length+1<=1048577) (hlen:0<=len/\len<=4000000000000000000):
  TO M [.vC Ag (aF.map Av), .vC AO aD,I q.x,I q.y,I q.z,I g.x,I g.y,I g.z,I X,I aU,I aZ,I aX,I st.x,I st.y,I st.z,B true,I len,I sp,I G]=
   some [.vC Ag ((A9 aU aZ aX (aF,len,at_) q).1.map Av), .vC AO aD,I st.x,I st.y,I st.z,B true,I (A9 aU aZ aX (aF,len,at_) q).2.1,I sp,I G]:=by
 have N:(aF.map Av++[[I q.x,I q.y,I q.z,I (AJ at_ q),I aU,I aZ,I aX]])=(aF++[(⟨q,AJ at_ q,aU,aZ,aX⟩:Sgm)]).map Av:=by rw[de];rfl
 rw[Q97];try dsimp only[go_sem]
 rcases Zp8 st aF with h|⟨l,s,Y,T,h3,h4⟩
 ·subst h;have O:st=at_:=J;subst O;simp only[f8,dg];rw[Bg (by decide),Bool.not_true,ao];by_cases c:q=st
  ·have E:=D7.1 c;rw[Ca (by simp[E.1,E.2.1,E.2.2]),show A9 aU aZ aX ([],len,st) q=([],len,st)from ab c];rfl
  ·rw[BI,S]
   ·simp only[ag,Ik,H7,gA,jA,wA,bA,bf,bj,dg];rw[Ca (by decide),show A9 aU aZ aX ([],len,st) q=([⟨q,AJ st q,aU,aZ,aX⟩],len+AJ st q,q)from aa c,Ae];rfl
   ·have c2: ¬(q.x=st.x/\q.y=st.y/\q.z=st.z):=λg=>c (D7.2 g);simp only[Bool.and_true,Bool.and_eq_false_iff,beq_eq_false_iff_ne];omega
 ·rw[J]at T;have w1:V ((aF.length:Int)-1)=((aF.length-1:Nat):Int):=by rw[Ae];omega
  have U:(0:Int)<=((aF.length-1:Nat):Int)/\((aF.length-1:Nat):Int)<(aF.length:Int):=by omega
  rw[T]at S N⊢;clear Y;simp only[go_sem,af,w1,ak,h4,ab h3,ab U,S,ay,bj,dg];rw[aa (by simp)];by_cases c:q=s.to
  ·have E:=D7.1 c;rw[ab ⟨E.1,E.2.1,E.2.2,trivial⟩,show A9 aU aZ aX (aF,len,s.to) q=(aF,len,s.to)from ab c]
  ·rw[aa (λg=>c (D7.2 ⟨g.1,g.2.1,g.2.2.1⟩)),ab,show A9 aU aZ aX (aF,len,s.to) q=(aF++[⟨q,AJ s.to q,aU,aZ,aX⟩],len+AJ s.to q,q)from aa c,Ae (by rw[<-T]at*;omega),N]
noncomputable def EA (it:Itm) (aU aZ aX:Int) (s:(List Sgm×Int×Pt)×Int) (q:Pt):(List Sgm×Int×Pt)×Int:=
 (A9 aU aZ aX s.1 q,if smI it/\q=Bq it then(A9 aU aZ aX s.1 q).2.1 else s.2)
theorem Qpn {it:Itm} {aU aZ aX:Int}:∀(E:List Pt) (s:(List Sgm×Int×Pt)×Int),(E.foldl (EA it aU aZ aX) s).1=E.foldl (A9 aU aZ aX) s.1
 |[],_=>rfl
 |q::E,s=>by rw[fj,fj,Qpn E];rfl
theorem Qtk {Y O MA MP MG MR:Fn} {it:Itm} {E:List Pt} (hj:i<E.length) (a0:E.length<=1000000) {aF J:Rw} {aD:Rw} {g st G:Pt} {b b':Bool} {T aU aZ aX len M sp N:Int}
  (hM:O (Af it)=some [B (decide (smI it))]) (hC:Y (Af it)=some (ptR (Bq it)))
  (hA:MA [.vC Ag aF, .vC AO aD,I E[i].x,I E[i].y,I E[i].z,I g.x,I g.y,I g.z,I T,I aU,I aZ,I aX,I st.x,I st.y,I st.z,B b,I len,I sp,I N]=some [.vC Ag J, .vC AO aD,I G.x,I G.y,I G.z,B b',I M,I sp,I N]):
  Nc Y O MA MP MG MR (.vC Ag aF:: .vC AO aD:: .vC kPt (E.map ptR)::I E.length::I i::(Af it++[I g.x,I g.y,I g.z,I T,I aU,I aZ,I aX,I st.x,I st.y,I st.z,B b,I len,I sp,I N]))=
   some (0, .vC Ag J:: .vC AO aD:: .vC kPt (E.map ptR)::I E.length::I (i+1:Nat)::(Af it++[I g.x,I g.y,I g.z,I T,I aU,I aZ,I aX,I G.x,I G.y,I G.z,B b',I M,I sp,I (if smI it/\E[i]=Bq it then M else N)])):=by
 have hr:nth [] (E.map ptR) i=ptR E[i]:=JA _ _ _ _ hj;have U:(0:Int)<=(i:Int)/\(i:Int)<(E.length:Int):=by omega
 have hw:V ((i:Int)+1)=((i+1:Nat):Int):=by rw[Ae];omega
 generalize E[i]=q at*;simp only[Af]at hM hC;simp only[Af,az,bf];rw[Zdw];simp only[go_sem,af,ak,hr,ab U,hA,hM,hC,hw];rw[ab];by_cases c:smI it
 ·rw[ab c];by_cases S:q=Bq it
  ·have X:=D7.1 S;rw[ab ⟨X.1,X.2.1,X.2.2,trivial⟩,ab ⟨c,S⟩]
  ·rw[aa (λh=>S (D7.2 ⟨h.1,h.2.1,h.2.2.1⟩)),aa (λh=>S h.2)]
 ·rw[aa c,aa (λh=>c h.1)]
theorem Qgu {Y O MA MP MG MR:Fn} {it:Itm} {E:List Pt} (S:E.length<=1000000) {aD:Rw} {g st:Pt} {gl aU aZ aX sp:Int} (U:bd 67108864 st) (J:∀p∈E,bd 67108864 p)
  (hM:O (Af it)=some [B (decide (smI it))]) (hC:Y (Af it)=some (ptR (Bq it)))
  (hA : ∀ {aF : List Sgm} {q at_ : Pt} {len mid : Int}, FT st aF = at_ -> bd 67108864 at_ -> bd 67108864 q -> aF.length + 1 <= 1048577 -> (0 <= len /\ len <= 4000000000000000000) ->
   MA [.vC Ag (aF.map Av), .vC AO aD,I q.x,I q.y,I q.z,I g.x,I g.y,I g.z,I gl,I aU,I aZ,I aX,I st.x,I st.y,I st.z,B true,I len,I sp,I mid]=
   some [.vC Ag ((A9 aU aZ aX (aF,len,at_) q).1.map Av), .vC AO aD,I st.x,I st.y,I st.z,B true,I (A9 aU aZ aX (aF,len,at_) q).2.1,I sp,I mid]):
  ∀(k j:Nat) (s:List Sgm×Int×Pt) (mid:Int),j+k=E.length->s.1.length+k<=1048576->0<=s.2.1->s.2.1+k*268435456<=4000000000000000000->bd 67108864 s.2.2->FT st s.1=s.2.2->
  Ak (Nc Y O MA MP MG MR) (.vC Ag (s.1.map Av):: .vC AO aD:: .vC kPt (E.map ptR)::I E.length::I j::(Af it++[I g.x,I g.y,I g.z,I gl,I aU,I aZ,I aX,I st.x,I st.y,I st.z,B true,I s.2.1,I sp,I mid]))=
   some (1,[.vC Ag (((E.drop j).foldl (EA it aU aZ aX) (s,mid)).1.1.map Av), .vC AO aD,I st.x,I st.y,I st.z,B true,I ((E.drop j).foldl (EA it aU aZ aX) (s,mid)).1.2.1,I sp,I ((E.drop j).foldl (EA it aU aZ aX) (s,mid)).2])
 |0,j,s,mid,hj,_,_,_,_,_=>by
  refine Be ?_ (by simp);simp only[Af,az,bf];rw[Zdw,Bg (by omega),fc (by omega)];rfl
 |k+1,j,s,mid,hj,hs,T,V,G,he=>by
  have M:j<E.length:=by omega
  have X:=J _ (bn M);obtain⟨aF,len,at_⟩:=s;simp only at hs T V G he;have ha:=hA (q:=E[j]) (mid:=mid) he G X (by omega) (by constructor<;>omega);have N:=Qtk (MP:=MP) (MG:=MG) (MR:=MR) M S hM hC ha;have hinv:FT st (A9 aU aZ aX (aF,len,at_) E[j]).1=(A9 aU aZ aX (aF,len,at_) E[j]).2.2/\bd 67108864 (A9 aU aZ aX (aF,len,at_) E[j]).2.2/\
    (A9 aU aZ aX (aF,len,at_) E[j]).1.length<=aF.length+1/\0<=(A9 aU aZ aX (aF,len,at_) E[j]).2.1/\(A9 aU aZ aX (aF,len,at_) E[j]).2.1<=len+268435456:=by
   have hl:=IP G X;unfold A9;split
   ·exact⟨he,G,by simp,T,by simp only;omega⟩
   ·refine⟨Tv _ _ _,X,by simp,?_,?_⟩<;>simp only<;>omega
  rw[Bz N];obtain⟨i1,i2,i3,i4,i5⟩:=hinv;have:=Qgu (MP:=MP) (MG:=MG) (MR:=MR) S U J hM hC hA k (j+1) (A9 aU aZ aX (aF,len,at_) E[j]) (if smI it/\E[j]=Bq it then(A9 aU aZ aX (aF,len,at_) E[j]).2.1 else mid) (by omega) (by omega) i4 (by omega) i2 i1;rw[this,Ph E j M,fj];rfl
theorem Zna {it:Itm} (h:Ed it):∃l,CB it=AF it.fr::l:=by
 unfold CB;by_cases G:it.aP=3
 ·rw[ab G];unfold D6;rw[bt];refine⟨(C7 it.dir 16 it.full (Eg it it.fr) (Eg it it.to)).map (Ja it),?_⟩;congr 1;obtain⟨E,-,M,-⟩:=h.2.2.2 G;obtain⟨I,J,N⟩:=UK it.aG it.ce;unfold Ja Eg;simp only[I,J];unfold dU dW;have e1:plU it.aG it.ce*16+(plU it.aG it.fr-plU it.aG it.ce)*16=plU it.aG it.fr*16:=by omega
  have e2:plW it.aG it.ce*16+(plW it.aG it.fr-plW it.aG it.ce)*16=plW it.aG it.fr*16:=by omega
  rw[e1,e2];unfold spP plU plW plH AF;rcases E with E|E|E<;>rw[E]<;>rfl
 ·rw[aa G];exact⟨_,rfl⟩
theorem Z66 {aA:List Itm} (h:Ed (itA aA i)):∃l,C3 aA i (-1)=AF (itA aA i).fr::l:=by
 obtain⟨l,E⟩:=Zna h;unfold C3;split
 ·unfold JI;rw[aa,E];exact⟨_,rfl⟩
 ·exact⟨l,E⟩
noncomputable def FY (aA:List Itm) (i:Nat) (s:BSt) (E:Int):(List Sgm×Int×Pt)×Int:=
 (C3 aA i s.frm).foldl (EA (itA aA i) i (HB (itA aA i) s.aS) (JV (itA aA i))) ((s.aF,s.len,if s.begun=true then s.at_ else AF (itA aA i).fr),E)
theorem Zcs (aA:List Itm) (i:Nat) (s:BSt) (E:Int):(FY aA i s E).1=Ge aA i s:=by
 unfold FY Ge;rw[Qpn]
theorem Z8s {aA:List Itm} {s:BSt} {aD:Rw} {mid:Int} (hi:i<aA.length) (hlen:aA.length<=15) (hv:Ed (itA aA i)) (J:BOK aA i s) (hinv:BInv s)
  (E:(∀p∈C3 aA i s.frm,bd 67108864 p)/\(C3 aA i s.frm).length<=65537)
  (U:syI (itA aA i)->0<=(itA aA i).aZ/\(itA aA i).aZ<=60000000) (a1:s.begun=false->s.frm= -1)
  (hM:Z (Af (itA aA i))=some [B (decide (smI (itA aA i)))]) (hC:M (Af (itA aA i))=some (ptR (Bq (itA aA i))))
  (hG:S (Af (itA aA i))=some [B (decide (syI (itA aA i)))]) (hR:P (Af (itA aA i)++[I s.aS])=some [I (HB (itA aA i) s.aS)])
  (hP:T [.vC Aj (aA.map Af),I i,I s.frm]=some [.vC kPt ((C3 aA i s.frm).map ptR)])
  (hA : ∀ {aF : List Sgm} {q g st at_ : Pt} {gl aU aZ aX len mid : Int}, FT st aF = at_ -> bd 67108864 at_ -> bd 67108864 q -> aF.length + 1 <= 1048577 -> (0 <= len /\ len <= 4000000000000000000) ->
   W [.vC Ag (aF.map Av), .vC AO aD,I q.x,I q.y,I q.z,I g.x,I g.y,I g.z,I gl,I aU,I aZ,I aX,I st.x,I st.y,I st.z,B true,I len,I s.aS,I mid]=
   some [.vC Ag ((A9 aU aZ aX (aF,len,at_) q).1.map Av), .vC AO aD,I st.x,I st.y,I st.z,B true,I (A9 aU aZ aX (aF,len,at_) q).2.1,I s.aS,I mid])
  (a3 : ∀ {q g st : Pt} {gl aU aZ aX len mid : Int}, W [.vC Ag [], .vC AO aD, I q.x, I q.y, I q.z, I g.x, I g.y, I g.z, I gl, I aU, I aZ, I aX, I st.x, I st.y, I st.z, B false, I len, I s.aS, I mid] =
   some [.vC Ag [], .vC AO aD,I q.x,I q.y,I q.z,B true,I len,I s.aS,I mid]):
  Qmk M Z W T S P (Ak (Nc M Z W T S P)) [.vC Ag (s.aF.map Av), .vC AO aD, .vC Aj (aA.map Af),I i,I s.frm,I s.aQ.x,I s.aQ.y,I s.aQ.z,B s.begun,I s.len,I s.aS,I mid]=
   some [.vC Ag ((FY aA i s mid).1.1.map Av), .vC AO aD,B true,I (if s.begun=true then s.aQ else AF (itA aA i).fr).x,I (if s.begun=true then s.aQ else AF (itA aA i).fr).y,I (if s.begun=true then s.aQ else AF (itA aA i).fr).z,B true,I (FY aA i s mid).1.2.1,I s.aS,I (FY aA i s mid).2]:=by
 have hr:=FQ hi;have a4:(0:Int)<=(i:Int)/\(i:Int)<(aA.length:Int):=by omega
 have a7:=J.aF;have V:=J.len
 have X:∀aX aZ:Int,Ak (Nc M Z W T S P) (.vC Ag (s.aF.map Av):: .vC AO aD:: .vC kPt ((C3 aA i s.frm).map ptR)::I (C3 aA i s.frm).length::I (0:Nat)::(Af (itA aA i)++[I (⟨0,0,0⟩:Pt).x,I (⟨0,0,0⟩:Pt).y,I (⟨0,0,0⟩:Pt).z,I 0,I i,I aZ,I aX,I s.aQ.x,I s.aQ.y,I s.aQ.z,B s.begun,I s.len,I s.aS,I mid]))=
   some (1, [.vC Ag (((C3 aA i s.frm).foldl (EA (itA aA i) i aZ aX) ((s.aF, s.len, if s.begun = true then s.at_ else AF (itA aA i).fr), mid)).1.1.map Av), .vC AO aD, I (if s.begun = true then s.aQ else AF (itA aA i).fr).x, I (if s.begun = true then s.aQ else AF (itA aA i).fr).y, I (if s.begun = true then s.aQ else AF (itA aA i).fr).z, B true,
    I ((C3 aA i s.frm).foldl (EA (itA aA i) i aZ aX) ((s.aF,s.len,if s.begun=true then s.at_ else AF (itA aA i).fr),mid)).1.2.1,I s.aS,I ((C3 aA i s.frm).foldl (EA (itA aA i) i aZ aX) ((s.aF,s.len,if s.begun=true then s.at_ else AF (itA aA i).fr),mid)).2]):=by
  intro aX aZ;by_cases hb:s.begun=true
  ·obtain⟨g1,g2⟩:=hinv.begun hb;obtain⟨g3,g4,g5⟩:=g2;rw[ab hb,ab hb,hb];have:=Qgu (MP:=T) (MG:=S) (MR:=P) (g:=⟨0,0,0⟩) (gl:=0) (aU:=i) (aZ:=aZ) (aX:=aX) (by omega) g1 E.1 hM hC (λh1 h2 h3 h4 h5=>hA h1 h2 h3 h4 h5) (C3 aA i s.frm).length 0 (s.aF,s.len,s.at_) mid (by omega) (by simp only;omega) V.1 (by simp only;omega) (J.at_ hb) g4;rw[f9]at this;exact this
  ·have Y:s.begun=false:=by simpa using hb
   obtain⟨e1,e2,e3⟩:=hinv.empty Y;obtain⟨l,hl⟩:=Z66 hv;have a2:bd 67108864 (AF (itA aA i).fr):=A3 (EW hv.2.1) (by decide);rw[aa hb,aa hb,Y,e1];rw[a1 Y,hl]at E⊢;have h0:0<(AF (itA aA i).fr::l).length:=by simp
   have a0:=Qtk (MP:=T) (MG:=S) (MR:=P) h0 (by omega) hM hC (a3 (q:=AF (itA aA i).fr) (g:=⟨0,0,0⟩) (st:=s.aQ) (gl:=0) (aU:=i) (aZ:=aZ) (aX:=aX) (len:=s.len) (mid:=mid));rw[f8,Bz a0];have:=Qgu (MP:=T) (MG:=S) (MR:=P) (g:=⟨0,0,0⟩) (gl:=0) (aU:=i) (aZ:=aZ) (aX:=aX) (by omega) a2 E.1 hM hC (λh1 h2 h3 h4 h5=>hA h1 h2 h3 h4 h5) l.length 1 ([],s.len,AF (itA aA i).fr) (if smI (itA aA i)/\AF (itA aA i).fr=Bq (itA aA i)then s.len else mid) (by simp;omega) (by simp only[dg];simp at E;omega) V.1 (by simp only;simp at E;omega) a2 rfl;rw[List.drop_succ_cons,f9]at this;rw[fj];have e4:EA (itA aA i) i aZ aX (([],s.len,AF (itA aA i).fr),mid) (AF (itA aA i).fr)=(([],s.len,AF (itA aA i).fr),if smI (itA aA i)/\AF (itA aA i).fr=Bq (itA aA i)then s.len else mid):=by
    unfold EA;rw[show A9 i aZ aX ([],s.len,AF (itA aA i).fr) (AF (itA aA i).fr)=([],s.len,AF (itA aA i).fr)from ab rfl]
   rw[e4];exact this
 have G:∀aX aZ:Int,((C3 aA i s.frm).foldl (EA (itA aA i) i aZ aX) ((s.aF,s.len,if s.begun=true then s.at_ else AF (itA aA i).fr),mid)).1.1.length<=1048576:=by
  intro aX aZ;rw[Qpn];have a5:bd 67108864 (if s.begun=true then s.at_ else AF (itA aA i).fr):=by
   split
   ·rename_i hb;exact J.at_ hb
   ·exact A3 (EW hv.2.1) (by decide)
  have:=(Uh (aU:=i) (aZ:=aZ) (aX:=aX) (C3 aA i s.frm) (s.aF,s.len,if s.begun=true then s.at_ else AF (itA aA i).fr) E.1 a5 V.1).1;simp only at this⊢;omega
 generalize Ak (Nc M Z W T S P)=N at*;have O:=λaX aZ=>X aX aZ;simp only[Af,az,bf]at hG hR O;rw[Z91];simp only[go_sem,af,ak,hr,ab a4,hG,hR,hP];have a6:((0:Nat):Int)=0:=rfl;simp only[a6]at O;unfold FY JV;by_cases hs:syI (itA aA i)
 ·have hf:=U hs;rw[ab hs];simp only[ab hs];rw[Ae];simp only[O,go_sem,af];rw[am (show((_:Nat):Int)<=1048576 from by have:=G (mn ((itA aA i).aZ*16) 16777216) (HB (itA aA i) s.aS);omega)]
 ·rw[aa hs];simp only[aa hs];simp only[O,go_sem,af];rw[am (show((_:Nat):Int)<=1048576 from by have:=G 0 (HB (itA aA i) s.aS);omega)]
theorem Qeh {MK T U V O S:Fn} {aA:List Itm} (X:∀k:Int,O [I k]=some [B (decide (1<=k/\k<=6))]) (Y:∀it,S (Af it)=some [I (if Cc it then 1 else 0)]) (hl:aA.length<=1000000):
  ∀(k i:Nat) (last:Int),i+k=aA.length->(last= -1\/(0<=last/\last<i))->
  (Ak (QQ MK T U V O S) [.vC Ag [], .vC AO [], .vC Aj (aA.map Af),I last, .vC Aj (aA.map Af),I aA.length,I i,I 0,I 0,I 0,B false,I 0,I 0,I 0]=some (1,[.vC Ag [], .vC AO [],I (G5 aA k i last),I 0,I 0,I 0,B false,I 0,I 0,I 0])/\G5 aA k i last≠0)\/
  (Ak (QQ MK T U V O S) [.vC Ag [], .vC AO [], .vC Aj (aA.map Af),I last, .vC Aj (aA.map Af),I aA.length,I i,I 0,I 0,I 0,B false,I 0,I 0,I 0]=some (2,[.vC Ag [], .vC AO [], .vC Aj (aA.map Af),I 0,I 0,I 0,B false,I 0,I 0,I 0])/\G5 aA k i last=0)
 |0,i,last,hi,_=>by
  right;refine⟨Be ?_ (by simp),rfl⟩;rw[Q6j,Bg (by omega)]
 |k+1,i,last,hi,a0=>by
  have a1:i<aA.length:=by omega
  have hr:=FQ a1;have hw:=Y (itA aA i);have hm:=X (itA aA i).aP;have a2:(0:Int)<=(i:Int)/\(i:Int)<(aA.length:Int):=by omega
  have E:QQ MK T U V O S [.vC Ag [], .vC AO [], .vC Aj (aA.map Af),I last, .vC Aj (aA.map Af),I aA.length,I i,I 0,I 0,I 0,B false,I 0,I 0,I 0]=
    if Cc (itA aA i)then some (1,[.vC Ag [], .vC AO [],I 1,I 0,I 0,I 0,B false,I 0,I 0,I 0])else if AK (itA aA i)then(if 0<=last/\(itA aA last.toNat).to≠(itA aA i).fr then some (1,[.vC Ag [], .vC AO [],I 13,I 0,I 0,I 0,B false,I 0,I 0,I 0])else some (0,[.vC Ag [], .vC AO [], .vC Aj (aA.map Af),I i, .vC Aj (aA.map Af),I aA.length,I (i+1:Nat),I 0,I 0,I 0,B false,I 0,I 0,I 0]))
    else some (0,[.vC Ag [], .vC AO [], .vC Aj (aA.map Af),I last, .vC Aj (aA.map Af),I aA.length,I (i+1:Nat),I 0,I 0,I 0,B false,I 0,I 0,I 0]):=by
   rw[Q6j];simp only[Af]at hw;simp only[go_sem,af,ak,hr,hw,hm,ab a2];rw[ab,Ae];by_cases M:Cc (itA aA i)
   ·simp only[ab M];rw[ab]
   simp only[aa M];rw[aa (by simp)];by_cases G:AK (itA aA i)
   ·rw[aa (λh=>h G),ab G];rcases a0 with rfl|⟨h1,h2⟩
    ·rw[aa (show¬(-1:Int)>=0 by omega),aa (λh=>by omega)];rfl
    ·obtain⟨L,rfl⟩:=cg h1;have hL:L<aA.length:=by omega
     have N:(0:Int)<=(L:Int)/\(L:Int)<(aA.length:Int):=by omega
     have a3:=FQ hL;simp only[ak,a3,go_sem,ab N];rw[ab];by_cases J:(itA aA L).to=(itA aA i).fr
     ·have c4:=D7.1 J;rw[aa (λh=>h ⟨c4.1,c4.2.1,c4.2.2,trivial⟩),aa (λh=>h.2 J)];rfl
     ·rw[ab (λh=>J (D7.2 ⟨h.1,h.2.1,h.2.2.1⟩)),ab ⟨h1,J⟩]
   ·rw[ab (show¬(1<=(itA aA i).aP/\(itA aA i).aP<=6)from G),aa G];rfl
  unfold G5;by_cases M:Cc (itA aA i)
  ·rw[ab M]at E⊢;exact .inl ⟨Be E (by simp),by simp⟩
  ·rw[aa M]at E⊢;by_cases G:AK (itA aA i)
   ·rw[ab G]at E⊢;by_cases J:0<=last/\(itA aA last.toNat).to≠(itA aA i).fr
    ·rw[ab J]at E⊢;exact .inl ⟨Be E (by simp),by simp⟩
    ·rw[aa J]at E⊢;rw[Bz E];exact Qeh X Y hl k (i+1) i (by omega) (.inr (by omega))
   ·rw[aa G]at E⊢;rw[Bz E];exact Qeh X Y hl k (i+1) last (by omega) (by omega)
noncomputable def GP (aA:List Itm):Nat->Int
 |0=> -1
 |i+1=>if AK (itA aA i)then i else GP aA i
theorem Qwb (aA:List Itm):∀i,GP aA i= -1\/∃L:Nat,GP aA i=L/\L<i/\AK (itA aA L)/\∀j,L<j->j<i-> ¬AK (itA aA j)
 |0=> .inl rfl
 |i+1=>by
  unfold GP;by_cases c:AK (itA aA i)
  ·rw[ab c];exact .inr ⟨i,rfl,by omega,c,λj E G=>by omega⟩
  ·rw[aa c];rcases Qwb aA i with h|⟨L,E,G,I,J⟩
   ·exact .inl h
   ·refine .inr ⟨L,E,by omega,I,λj g1 g2=> ?_⟩;by_cases e:j=i
    ·rw[e];exact c
    ·exact J j g1 (by omega)
theorem Qv3 (aA:List Itm):∀i,(Au aA i).frm=if 0<=GP aA i/\0<=CD aA (GP aA i).toNat then GP aA i else-1
 |0=>by rw[Au,GP,aa]
 |i+1=>by
  rw[Au,GP];unfold DO;by_cases c:AK (itA aA i)
  ·rw[ab c,ab c];simp only[ak];by_cases E:0<=CD aA i
   ·rw[ab E,ab ⟨by omega,E⟩]
   ·rw[aa E,aa (λh=>E h.2)]
  ·rw[aa c,aa c];exact Qv3 aA i
theorem Zpe {aA:List Itm} (I:r<i) (hi:i<aA.length) (J:AK (itA aA i)) (E:∀j,r<j->j<i-> ¬AK (itA aA j)) (M:0<=CD aA r):Dw aA r=i:=by
 have S:=Uw M;rcases Qah aA r with h|⟨-,-,k,k1,k2,T,G,N⟩
 ·omega
 ·have O:Dw aA r=k:=by omega
  rw[O];rcases Nat.lt_trichotomy k i with h|h|h
  ·exact absurd ⟨by have:=G.1;omega,by have:=G.1;omega⟩ (E k k2 h)
  ·exact h
  ·have:=N i I h;have:=J.2;omega
noncomputable def Dj (aA:List Itm):Nat->Int
 |0=>0
 |i+1=>if AK (itA aA i)then(FY aA i (Au aA i) (Dj aA i)).2 else Dj aA i
theorem Quo (aA:List Itm):∀i,(Au aA i).begun=false->(Au aA i).frm= -1
 |0,_=>by rw[Au]
 |i+1,h=>by
  rw[Au]at h⊢;unfold DO at h⊢;by_cases c:AK (itA aA i)
  ·rw[ab c]at h;cases h
  ·rw[aa c]at h⊢;exact Quo aA i h
noncomputable abbrev pbR (aA:List Itm) (i:Nat):List AC:=
 [.vC Ag ((Au aA i).aF.map Av), .vC AO ((Au aA i).aD.map Aw), .vC Aj (aA.map Af),I (GP aA i), .vC Aj (aA.map Af),I aA.length,I i,I (Au aA i).aQ.x,I (Au aA i).aQ.y,I (Au aA i).aQ.z,B (Au aA i).begun,I (Au aA i).len,I (Au aA i).aS,I (Dj aA i)]
theorem Zf1 {MK MV MN MS MM MC:Fn} {aA:List Itm} (hi:i<aA.length) (hlen:aA.length<=15) (a1:(Au aA i).aD.length=i)
  (hM:∀k:Int,MM [I k]=some [B (decide (1<=k/\k<=6))]) (hS:∀L:Nat,L<aA.length->MS [.vC Aj (aA.map Af),I L]=some [B (decide (0<=CD aA L))]) (hN:∀L:Nat,L<aA.length->MN [.vC Aj (aA.map Af),I L]=some [I (Dw aA L)])
  (hV : AK (itA aA i) -> MV [.vC Ag ((Au aA i).aF.map Av), .vC AO ((Au aA i).aD.map Aw), .vC Aj (aA.map Af), I i, I (Au aA i).frm, I (Au aA i).aQ.x, I (Au aA i).aQ.y, I (Au aA i).aQ.z, B (Au aA i).begun, I (Au aA i).len, I (Au aA i).aS, I (Dj aA i)] =
   some [.vC Ag ((FY aA i (Au aA i) (Dj aA i)).1.1.map Av), .vC AO ((Au aA i).aD.map Aw),B true,I (if(Au aA i).begun=true then(Au aA i).aQ else AF (itA aA i).fr).x,I (if(Au aA i).begun=true then(Au aA i).aQ else AF (itA aA i).fr).y,I (if(Au aA i).begun=true then(Au aA i).aQ else AF (itA aA i).fr).z,B true,
    I (FY aA i (Au aA i) (Dj aA i)).1.2.1,I (Au aA i).aS,I (FY aA i (Au aA i) (Dj aA i)).2])
  (hK : ∀ {aF : Rw} {st : Pt} {b : Bool} {len sp J : Int}, MK [.vC Ag aF, .vC AO ((Au aA i).aD.map Aw), .vC Aj (aA.map Af), I i, I st.x, I st.y, I st.z, B b, I len, I sp, I J] =
   some [.vC Ag aF, .vC AO (((Au aA i).aD++[(⟨len,Kb aA i,i⟩:Mrk)]).map Aw),I st.x,I st.y,I st.z,B b,I len,I sp,I J]):
  Qn MK MV MN MS MM MC N (pbR aA i)=some (0,pbR aA (i+1)):=by
 have hr:=FQ hi;have U:(0:Int)<=(i:Int)/\(i:Int)<(aA.length:Int):=by omega
 have hw:V ((i:Int)+1)=((i+1:Nat):Int):=by rw[Ae];omega
 have hf:=Qv3 aA i;have O:=Qwb aA i;have X:=Zcs aA i (Au aA i) (Dj aA i);have e1:GP aA (i+1)=if AK (itA aA i)then(i:Int)else GP aA i:=rfl;have e2:Dj aA (i+1)=if AK (itA aA i)then(FY aA i (Au aA i) (Dj aA i)).2 else Dj aA i:=rfl;have e3:Au aA (i+1)=DO aA i (Au aA i):=rfl;unfold pbR;rw[e1,e2,e3];generalize Au aA i=s at*;generalize GP aA i=last at*;generalize a2:Dj aA i=J at*;unfold DO;rw[Q9q];by_cases G:AK (itA aA i)
 ·have T: ¬(itA aA i).aP=8:=λh=>by have:=G.2;omega
  have hV:=hV G;have E:Kb aA i=HH aA i:=ab G;rw[ab G,ab G,ab G];rw[X]at hV;have S:MM [I (itA aA i).aP]=some [B true]:=by rw[hM,am (show 1<=(itA aA i).aP/\(itA aA i).aP<=6 from G)]
  simp only[go_sem,af,ak,hr,ab U,S];rw[ab,aa T];have M:∀{x:Option (Nat×List AC)} {frm:Int},s.frm=frm->(MV [.vC Ag (s.aF.map Av), .vC AO (s.aD.map Aw), .vC Aj (aA.map Af),I i,I frm,I s.aQ.x,I s.aQ.y,I s.aQ.z,B s.begun,I s.len,I s.aS,I J])=
    some [.vC Ag ((Ge aA i s).1.map Av), .vC AO (s.aD.map Aw),B true,I (if s.begun=true then s.aQ else AF (itA aA i).fr).x,I (if s.begun=true then s.aQ else AF (itA aA i).fr).y,I (if s.begun=true then s.aQ else AF (itA aA i).fr).z,B true,I (Ge aA i s).2.1,I s.aS,I (FY aA i s J).2]:=by
   intro x frm h;rw[<-h];exact hV
  rcases O with O|⟨L,h1,h2,h3,h4⟩
  ·rw[O];rw[O,aa]at hf;rw[aa (show¬(-1:Int)>=0 by omega)];have Y:=M (x:=none) hf;simp only[Y,go_sem,hK,hw,E];simp
  ·rw[h1]at hf⊢;rw[ak]at hf;have hs:=hS L (by omega);have hn:=hN L (by omega);rw[ab (show(L:Int)>=0 by omega)];by_cases c:0<=CD aA L
   ·have a0:=Zpe h2 hi G h4 c;rw[ab ⟨by omega,c⟩]at hf;rw[a0]at hn;rw[am c]at hs;have Y:=M (x:=none) hf;simp only[hs,hn,go_sem];simp only[Y,go_sem,hK,hw,E];simp
   ·rw[aa (λh=>c h.2)]at hf;rw[an c]at hs;have Y:=M (x:=none) hf;simp only[hs,go_sem];simp only[Y,go_sem,hK,hw,E];simp
 ·have E:Kb aA i=Re (itA aA i):=aa G;rw[aa G,aa G,aa G];have S:MM [I (itA aA i).aP]=some [B false]:=by rw[hM,an (show¬(1<=(itA aA i).aP/\(itA aA i).aP<=6)from G)]
  unfold RH;simp only[go_sem,af,ak,hr,ab U,S,hK,hw,E];rw[ab];by_cases T:(itA aA i).aP=8
  ·by_cases h3:(itA aA i).n=3
   ·simp[T,h3]
   ·by_cases h4:(itA aA i).n=4
    ·simp[T,h4]
    ·simp[T,h3,h4]
  ·simp[T]
theorem Zfq {it:Itm} (hf:it.aP=1\/1<=it.aZ/\it.aZ<=60000000) (G:0<=a/\a<=30000):Kg (Af it++[I a])=some [I (HB it a)]:=by
 by_cases E:it.aP=1
 ·unfold Kg HB;generalize BM=M;have h:=Qzg (AQ:=M) it.aP it.block it.fr.x it.fr.y it.fr.z it.to.x it.to.y it.to.z it.aG it.ce.x it.ce.y it.ce.z it.dir it.full it.aZ it.perRev it.side it.radius it.blend it.n it.aS it.on a;rw[ab E];refine cx h ?_;rw[Ca (by simp[E])]
 ·exact Zgy (by omega) G
theorem Z36 {aF:List Sgm} {q g st at_:Pt} {N aU aZ aX len sp E:Int} (G:FT st aF=at_) (J:bd 67108864 at_) (M:bd 67108864 q) (O:aF.length+1<=1048577) (hlen:0<=len/\len<=4000000000000000000):
  P0 [.vC Ag (aF.map Av), .vC AO l,I q.x,I q.y,I q.z,I g.x,I g.y,I g.z,I N,I aU,I aZ,I aX,I st.x,I st.y,I st.z,B true,I len,I sp,I E]=
   some [.vC Ag ((A9 aU aZ aX (aF,len,at_) q).1.map Av), .vC AO l,I st.x,I st.y,I st.z,B true,I (A9 aU aZ aX (aF,len,at_) q).2.1,I sp,I E]:=
 Zj9 G (Qeq J M) (IP J M) O hlen
theorem Zd7 {aA:List Itm} (hlen:aA.length<=15) (E:∀j<aA.length,¬Cc (itA aA j)) {i:Nat} (hi:i<aA.length):
  Qn JF KO FR HJ Eh JL RI (pbR aA i)=some (0,pbR aA (i+1)):=by
 have hb:=OT E i (by omega);have N:=KH E i (by omega);have G:∀k<aA.length,AK (itA aA k)->drawn (itA aA k):=λk T J=>(L5 (E k T) J).1;have I:=L5 (E i hi);refine Zf1 hi hlen hb.aD RR (λL O=>Qs8 (by omega) O) (λL O=>Qd1 (by omega) O) (λJ=> ?_) (Ztm (by omega) hi (by have:=hb.aD;omega));have M:=(I J).1;exact Z8s hi hlen M.1 hb N (Xx M hb.frm G) (λU=>by have S:=(I J).2;rcases U with h|h<;>omega) (Quo aA i) (Vi _) (T6 M.1.2.1 M.1.2.2.1) (Qw2 _) (Zfq (I J).2 hb.aS)
  (Zun (by omega) hi M hb.frm G) (λV S X Y h5=>Z36 V S X Y h5) Zr6
theorem Zdo {aA:List Itm} (hlen:aA.length<=15) (E:∀j<aA.length,¬Cc (itA aA j)):∀(k i:Nat),i+k=aA.length->
  Ak (Qn JF KO FR HJ Eh JL RI) (pbR aA i)=
   some (2,[.vC Ag ((AZ aA).aF.map Av), .vC AO ((AZ aA).aD.map Aw),I (AZ aA).aQ.x,I (AZ aA).aQ.y,I (AZ aA).aQ.z,B (Au aA aA.length).begun,I (Au aA aA.length).len,I (Au aA aA.length).aS,I (Dj aA aA.length)])
 |0,i,hi=>by
  obtain rfl:i=aA.length:=by omega
  refine Be ?_ (by simp);unfold pbR AZ;rw[Q9q,Bg (by omega)]
 |k+1,i,hi=>by
  rw[Bz (Zd7 hlen E (by omega))];exact Zdo hlen E k (i+1) (by omega)
def Kn (aA:List Itm) (o:List AC):Prop:=
 if Do aA=0 then o=[.vC Ag ((AZ aA).aF.map Av), .vC AO ((AZ aA).aD.map Aw),I 0,I (AZ aA).aQ.x,I (AZ aA).aQ.y,I (AZ aA).aQ.z,B (Au aA aA.length).begun,I (Au aA aA.length).len,I (Au aA aA.length).aS,I (Dj aA aA.length)]
 else o=[.vC Ag [], .vC AO [],I (Do aA),I 0,I 0,I 0,B false,I 0,I 0,I 0]
theorem Ztr {MK O S T U V:Fn} {M E:Lp} {aA:List Itm} (hlen:aA.length<=15)
  (X : (M [.vC Ag [], .vC AO [], .vC Aj (aA.map Af), I (-1), .vC Aj (aA.map Af), I aA.length, I 0, I 0, I 0, I 0, B false, I 0, I 0, I 0] = some (1, [.vC Ag [], .vC AO [], I (Do aA), I 0, I 0, I 0, B false, I 0, I 0, I 0]) /\ Do aA ≠ 0) \/
   (M [.vC Ag [], .vC AO [], .vC Aj (aA.map Af),I (-1), .vC Aj (aA.map Af),I aA.length,I 0,I 0,I 0,I 0,B false,I 0,I 0,I 0]=some (2,[.vC Ag [], .vC AO [], .vC Aj (aA.map Af),I 0,I 0,I 0,B false,I 0,I 0,I 0])/\Do aA=0))
  (N : Do aA = 0 -> E [.vC Ag [], .vC AO [], .vC Aj (aA.map Af), I (-1), .vC Aj (aA.map Af), I aA.length, I 0, I 0, I 0, I 0, B false, I 0, I 0, I 0] =
   some (2,[.vC Ag ((AZ aA).aF.map Av), .vC AO ((AZ aA).aD.map Aw),I (AZ aA).aQ.x,I (AZ aA).aQ.y,I (AZ aA).aQ.z,B (Au aA aA.length).begun,I (Au aA aA.length).len,I (Au aA aA.length).aS,I (Dj aA aA.length)])):
  ∃o,Qlo MK O S T U V M E [.vC Aj (aA.map Af)]=some o/\Kn aA o:=by
 rw[Zs5];have G: ¬((aA.length:Int)>20000):=by omega
 rcases X with⟨h,J⟩|⟨h,J⟩
 ·simp only[go_sem,af,h,aa G];exact⟨_,rfl,by unfold Kn;rw[aa J]⟩
 ·have g:=N J;simp only[go_sem,af,h,aa G,g];rw[aa (by decide),aa (by decide)];exact⟨_,rfl,by unfold Kn;rw[ab J]⟩
theorem Zdv {aA:List Itm} (hlen:aA.length<=15):∃o,Js [.vC Aj (aA.map Af)]=some o/\Kn aA o:=by
 have E:Do aA=G5 aA aA.length 0 (-1):=by unfold Do;rw[aa]
 refine Ztr hlen ?_ λhe=>Zdo hlen (NA he).2 aA.length 0 (by omega);rw[E];exact Qeh RR Z72 (by omega) aA.length 0 (-1) (by omega) (.inl rfl)
theorem Zh1 {aA:List Itm} (h:∃o,M [.vC Aj (aA.map Af)]=some o/\Kn aA o):
  Qi8 M [.vC Aj (aA.map Af)]=if Do aA=0 then some (BC (AZ aA)++[I 0])else some [I 0,I 0,I 0, .vC Ag [], .vC AO [],I (Do aA)]:=by
 obtain⟨o,G,E⟩:=h;rw[Zvr,G];unfold Kn at E;by_cases c:Do aA=0
 ·rw[ab c]at E⊢;subst E;simp only[go_sem];rw[aa (by simp)];try rfl
 ·rw[aa c]at E⊢;subst E;simp only[go_sem];rw[ab c]
theorem Ztk {aA:List Itm} (hlen:aA.length<=15):N0 [.vC Aj (aA.map Af)]=if Do aA=0 then some (BC (AZ aA)++[I 0])else some [I 0,I 0,I 0, .vC Ag [], .vC AO [],I (Do aA)]:=
 Zh1 (Zdv hlen)
end Go.Bm
