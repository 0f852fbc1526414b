/- laid together -/
import Derived.Test.YtommijghjlikkaaGreatPrLc
import Derived.Test.YtommijghjlikkaaGreatMx3
import Derived.Test.YtommijghjlikkaaGreatPrTk
set_option linter.unusedVariables false
set_option linter.unusedSimpArgs false
set_option maxRecDepth 100000
variable {K:Go.Bm.Kf} {a k b u v j:Int} {p:Go.Bm.Pth} {t:Go.Bm.Trk} {i A J:Nat} {M Z W T S P O:Go.Bm.Fn} {l:Go.Bm.Rw} {q:Go.Bm.Pt} {N:Go.Bm.Lp}
noncomputable section
open Go.IntKind (wrap)
namespace Go.Bm
def Jk (j:Int) (l:Rw):Prop:=∀r∈l,-j<=gA r 0/\gA r 0<=j
theorem Jk.snoc {r:List AC} (h:Jk j l) (E: -j<=gA r 0/\gA r 0<=j):Jk j (l++[r]):=λx D=>by
 rcases ba.1 D with D|D
 ·exact h x D
 ·rw[fa]at D;subst D;exact E
theorem Zu4 (E:0<=j/\j<=65536):Out (λo=>o.1=1/\(wA o.2 0).length<=65536/\Jk j (wA o.2 0)) (Am RL [.vC Aa [],I j]):=by
 refine BZ (λs:Rw×Int=>[.vC Aa s.1,I s.2]) (λs=>0<=s.2/\s.2<=j/\s.1.length+s.2<=65536/\Jk j s.1) (λs=>s.2.toNat) _ ?_ ([],j) ⟨E.1,bz _,by simp;omega,λr h=>by cases h⟩;rintro⟨v,k⟩ ⟨g1,g0,g2,D⟩;dsimp only at g0 g1 g2 D;rw[Zlv,ap g1,Ae (x:=k/2)];refine .cond (λc=> ?_) (λc=> ?_)
 ·have c:=A0 c;refine .cond (λ_=> ?_) λc=>by rw[BM (by simp;omega)]at c;cases c
  exact .some (.inl ⟨rfl,(v++[[I k]],k/2),rfl,⟨by dsimp only;omega,by dsimp only;omega,by simp;omega,D.snoc (by show-j<=k/\k<=j;omega)⟩,by dsimp only;omega⟩)
 ·exact .some (.inr ⟨by simp,rfl,by show v.length<=65536;omega,D⟩)
theorem Zf9 {up out:Rw} (L:0<=j/\j<=65536) (M:up.length<=65536) (E:Jk j up) (O:out.length=up.length+1) (G:Jk j out):Out (λo=>o.1=1/\(wA o.2 0).length<=140000/\Jk j (wA o.2 0)) (Am (SO N) [.vC Aa up, .vC Aa out,I ((up.length:Int)-1)]):=by
 refine BZ (λs:Rw×Int=>[.vC Aa up, .vC Aa s.1,I s.2]) (λs=> -1<=s.2/\s.2<up.length/\s.1.length+s.2<=2*up.length/\Jk j s.1) (λs=>(s.2+1).toNat) _ ?_ (out,(up.length:Int)-1) ⟨by simp only;omega,by simp only;omega,by simp only;omega,G⟩;rintro⟨v,k⟩ ⟨g1,g2,J,D⟩;dsimp only at g1 g2 J D;rw[Z22,Ae (x:=k-1)];refine .cond (λc=> ?_) (λc=> ?_)
 ·have c:=A0 c;refine .cond (λ_=> ?_) λc=>by simp at c;omega
  refine .cond (λ_=> ?_) λc=>by rw[BM (by simp;omega)]at c;cases c
  have S: -j<=gA (nth [] up k.toNat) 0/\gA (nth [] up k.toNat) 0<=j:=by
   rw[HH [] up k.toNat (by omega)];exact E _ (bf _)
  exact .some (.inl ⟨rfl,(_,k-1),rfl,⟨by dsimp only;omega,by dsimp only;omega,by simp;omega,D.snoc (by show-j<=V (0-gA (nth [] up k.toNat) 0)/\V (0-gA (nth [] up k.toNat) 0)<=j;rw[Ae];omega)⟩,by dsimp only;omega⟩)
 ·have c:=AU c;exact .some (.inr ⟨by simp,rfl,by show v.length<=140000;omega,D⟩)
theorem S9 (D:0<=j/\j<=65536):Out (λo=>(wA o 0).length<=140000/\Jk j (wA o 0)) (Qa [I j]):=by
 show Out _ (Qaj (Am RL) (Am (SO (Am RL))) [I j]);rw[Zth];refine .bind (Zu4 D) λo g=> ?_;rw[g.1];obtain⟨-,g2,E⟩:=g;generalize wA o.2 0=up at*;refine .cond (λ_=> ?_) λc=>by simp at c
 refine .cond (λ_=> ?_) λc=>by rw[BM (by simp;omega)]at c;cases c
 refine .cond (λ_=> ?_) λc=>by rw[BM (by simp;omega)]at c;cases c
 rw[Ae (x:=(up.length:Int)-1)];refine .bind (Zf9 D g2 E (by simp) (by rw[az];exact E.snoc (by show-j<=0/\0<=j;omega))) λo g=> ?_;rw[g.1];exact .some g.2
def Mi (m0 m1 m3 m4:Int) (Q R:Int->Prop) (o:List AC):Prop:=∃v:Int,o=DK m0 m1 m3 m4 v/\(Q v\/∃r:Int,v=V (m1+r)/\R r)
theorem TE {x:Ax3} {a b c o0 o1:Int} {D b1 b2:Bool} (hb:0<=b/\b<=65536) {m0 m1 m2 m3 m4 m5 l:Int} {Q R F:Int->Prop}
  (hB:Out (λo=>∃r:Int,o=[I r]/\R r) (M [I a,I b,I c,I m1,I m2]))
  (hS:∀v:Int,0<=v->F v->(∃k:Int,-b<=k/\k<=b/\v=V (m1+V (m2+k)))->Out (λo=>bA o 0=true->Q v) (Z (pxt p x t [I a,I b,I c,I (V (m0+v)),I v,I (V (v-m1)),I m0,I m3,I m4,I l])))
  (hF:∀v:Int,Out (λo=>bA o 0=true->F v) (W (DL p t [I a,I b,I c,I o0,I o1,B D,B b1,B b2,I (V (m0+v)),I v,I (V (v-m1)),I m0,I m3,I m4])))
  (G:∀m0 m1 m2 m3 m4 m5 v,T [I m0,I m1,I m2,I m3,I m4,I m5,I v]=some (DK m0 m1 m3 m4 v))
  (hR:∀a b c v x,(S [I a,I b,I c,I v,I x]).isSome=true)
  (hC:∀j,0<=j/\j<=65536->Out (λo=>(wA o 0).length<=140000/\Jk j (wA o 0)) (P [I j])):
  Out (Mi m0 m1 m3 m4 Q R) (Qnr M Z W T S P (Am (Qoy M Z W T S P)) (pxt p x t [I a,I b,I c,I o0,I o1,B D,B b1,B b2,I m0,I m1,I m2,I m3,I m4,I m5,I l])):=by
 rw[Z58];refine .bind (hC b hb) λq J=> ?_;obtain⟨J,hJ⟩:=J;generalize wA q 0=ch at*;refine .bind (p:=λo=>o.1=1/\((∃v:Int,∃g0 g1 g2 L N O:Int,o.2=B true::I a::I b::I c::I m0::I m1::I m2::I m3::I m4::I m5::I g0::I g1::I g2::I L::I N::I O::DK m0 m1 m3 m4 v/\Q v)\/∃l:List AC,o.2=B false::I a::I b::I c::I m0::I m1::I m2::I m3::I m4::I m5::l)) ?_ λo g=>by
  obtain⟨g,g2⟩:=g;rw[g];refine .cond (λ_=> ?_) λc=>by simp at c
  rcases g2 with⟨v,g0,g1,g2,L,N,O,e,E⟩|⟨l',e⟩
  ·rw[e];refine .cond (λ_=> .some ⟨v,rfl, .inl E⟩) λc=>by simp[gA,wA,bA,jA,nth,CU]at c
  ·rw[e];refine .cond (λc=>by simp[gA,wA,bA,jA,nth,CU]at c) λ_=> ?_;simp only[gA,wA,bA,jA,nth,Af];refine .bind hB λo g=> ?_;obtain⟨r,rfl,hr⟩:=g;simp only[gA,wA,bA,jA,nth,Af];rw[G];exact .some ⟨_,rfl, .inr ⟨r,rfl,hr⟩⟩
 refine BZ (λs:Nat×(Int×Int×Int×Int×Int×Int)=>I l::B false:: .vC Aa ch::I (ch.length:Int)::I (s.1:Int)::pxt p x t [I a,I b,I c,I o0,I o1,B D,B b1,B b2,I m0,I m1,I m2,I m3,I m4,I m5,I 0,I 0,I 0,I 0,I 0,I 0,I s.2.1,I s.2.2.1,I s.2.2.2.1,I s.2.2.2.2.1,I s.2.2.2.2.2.1,I s.2.2.2.2.2.2])
  (λs=>s.1<=ch.length) (λs=>ch.length-s.1) _ ?_ (0,(0,0,0,0,0,0)) (by simp)
 rintro⟨i,U,X,Y,f3,f4,f5⟩ g;dsimp only at g;rw[Zvz];rw[Ae (x:=(i:Int)+1)];refine .cond (λc=> ?_) (λc=> ?_)
 ·have c:=A0 c;refine .cond (λ_=> ?_) λc=>by simp at c;omega
  refine .cond (λ_=> ?_) λpos=> ?_
  ·exact .some (.inl ⟨rfl,(i+1,U,X,Y,f3,f4,f5),rfl,by dsimp only;omega,by dsimp only;omega⟩)
  ·have pos:=AU pos;refine .ibind (hR _ _ _ _ _) λ_ _=> .cond (λ_=> ?_) λ_=> ?_
   ·exact .some (.inl ⟨rfl,(i+1,U,X,Y,f3,f4,f5),rfl,by dsimp only;omega,by dsimp only;omega⟩)
   ·have hk:∃k:Int,-b<=k/\k<=b/\V (m1+V (m2+gA (nth [] ch (i:Int).toNat) 0))=V (m1+V (m2+k)):=by
     have:=hJ _ (bf (show i<ch.length by omega));rw[aj,HH [] ch i (by omega)];exact⟨_,this.1,this.2,rfl⟩
    generalize V (m1+V (m2+gA (nth [] ch (i:Int).toNat) 0))=v at*;rw[G];simp only[ah,gA,wA,bA,jA,nth,Af];refine .bind (hF v) λof fit=> .cond (λcf=> ?_) λ_=> ?_
    ·refine .bind (hS v (by omega) (fit cf) hk) λo E=> .cond (λc=> ?_) λ_=> ?_
     ·exact .some (.inr ⟨by simp,rfl, .inl ⟨v,0,0,0,0,0,0,rfl,E c⟩⟩)
     ·exact .some (.inl ⟨rfl,(i+1,_,_,_,_,_,_),rfl,by dsimp only;omega,by dsimp only;omega⟩)
    ·exact .some (.inl ⟨rfl,(i+1,_,_,_,_,_,_),rfl,by dsimp only;omega,by dsimp only;omega⟩)
 ·exact .some (.inr ⟨by simp,rfl, .inr ⟨_,rfl⟩⟩)
theorem Z8t {x:Ax3} {Q:Prop} (E:∀{way:Rw},way.length<=100000->(M (pxt p x t [.vC Aa way])).isSome=true)
  {a b c m0 m1 m2 m3 m4 m5 l:Int} (G:Out (λo=>(wA o 0).length<=4096/\(bA o 1=true->Q)) (Z [I a,I b,I c,I m0,I m1,I m2,I m3,I m4,I m5])):
  Out (λo=>bA o 0=true->Q) (Q4 M Z (pxt p x t [I a,I b,I c,I m0,I m1,I m2,I m3,I m4,I m5,I l])):=by
 rw[Xp];refine .bind G λo h=> ?_;obtain⟨L,D⟩:=h;generalize wA o 0=sp at*;refine .cond (λ_=> .some λh=>by simp[gA,wA,bA,jA,nth,CU]at h) λJ=> ?_;have D:=D (by simpa using J);refine .cond (λc=> ?_) λc=> ?_
 ·have c:=A0 c;rw[Ae (x:=(sp.length:Int)-1)];refine .cond (λ_=> ?_) λc=>by simp at c;omega
  generalize Af (nth .vD (nth [] sp ((sp.length:Int)-1).toNat) 0)=e;refine .cond (λ_=> .some λ_=>D) λ_=> ?_;refine .cond (λ_=> ?_) λc=>by rw[BM (by simp;omega)]at c;cases c
  refine .cond (λ_=> ?_) λc=>by rw[BM (by simp;omega)]at c;cases c
  exact .ibind (E (by simp;omega)) λ_ _=> .some λ_=>D
 ·refine .cond (λ_=> .some λ_=>D) λ_=> ?_;refine .cond (λ_=> ?_) λc=>by rw[BM (by simp;omega)]at c;cases c
  refine .cond (λ_=> ?_) λc=>by rw[BM (by simp;omega)]at c;cases c
  exact .ibind (E (by simp;omega)) λ_ _=> .some λ_=>D
theorem Zvs {a k c:Int} (D:Plan3 a k c) (u v x E G J:Int):Out (λo=>(wA o 0).length<=4096/\(bA o 1=true->(AJ a k v x).2=true)) (Fc [I a,I k,I c,I u,I v,I x,I E,I G,I J]):=by
 have key:∀{M:Fn},M [I a,I k,I c,I v,I x]=some [.vC Aa ((AJ a k v x).1.map Ai),B (AJ a k v x).2]->Out (λo=>(wA o 0).length<=4096/\(bA o 1=true->(AJ a k v x).2=true)) (PX M (Am (Il M)) [I a,I k,I c,I u,I v,I x,I E,I G,I J]):=by
  intro M L;have hb:=LQ D v x;rw[Um];refine .bind (p:=λo=>o=_) ⟨_,L,rfl⟩ λo e=> ?_;subst e;refine .cond (λ_=> .some ⟨by simp[wA,nth,B_],λh=>by simp[bA,nth,CU]at h⟩) λh=> ?_;have N:(AJ a k v x).2=true:=by simpa [bA,nth,CU]using h
  have O:(wA [AC.vC Aa ((AJ a k v x).1.map Ai),B (AJ a k v x).2] 0).length<=4096:=by
   show((AJ a k v x).1.map Ai).length<=4096;rw[ac];exact hb.1
  generalize wA [AC.vC Aa ((AJ a k v x).1.map Ai),B (AJ a k v x).2] 0=sp at*;refine .cond (λ_=> ?_) λc=>by simp at c
  refine .cond (λ_=> ?_) λc=>by simp at c;omega
  refine .bind (Q7j (by simp) O) λo g=> ?_;rw[g.1];exact .some ⟨by show(wA o.2 0).length<=4096;omega,λ_=>N⟩
 exact key (Zer D v x)
theorem Qp {x:Ax3} (h:Fix p x t) {a b c:Int} (D:Plan3 a b c) (m0 m1 m2 m3 m4 m5 l:Int):Out (λo=>bA o 0=true->(AJ a b m1 m2).2=true) (Iu (pxt p x t [I a,I b,I c,I m0,I m1,I m2,I m3,I m4,I m5,I l])):=
 Z8t (Qza h) (Zvs D _ _ _ _ _ _)
theorem FA {a k v x:Int}:(AJ a k v x).2=true↔CZ a k v x/\(BS a k 4096 v x).2=true:=by
 unfold AJ;by_cases h:CZ a k v x/\(BS a k 4096 v x).2=true
 ·rw[aa h];exact⟨λ_=>h,λ_=>rfl⟩
 ·rw[ab h];exact⟨λq=>(by cases q),λq=>absurd q h⟩
theorem Ry {a k c v x:Int} (D:Plan3 a k c) (h:(AJ a k v x).2=true):(AJ a k (v+AH a k v x) (AH a k v x)).2=true/\
  (AJ a k v x).1=if v<=0 then []else(v+AH a k v x)::(AJ a k (v+AH a k v x) (AH a k v x)).1:=by
 obtain⟨E,G⟩:=FA.1 h;have M:=closed D E;have T:=DH D M.1;by_cases I:v<=0
 ·have N:v=0:=by have:=DH D E;omega
  have hb:AH a k v x=0:=by
   obtain⟨B,O⟩:∃B,B=bs k v 20 (-x-k) (min (k-x) a):=⟨_,rfl⟩;obtain⟨U,V,X,Y,J,q6⟩:=TZ D E O;have:=Ij (k:=k) (b:=B) (by have:=D.b;omega);have hx:=E.2.2.2.2 N;have ha:=D.a;have e:AH a k v x= -B:=by unfold AH;rw[O]
   rw[e];rcases J with J|J
   ·omega
   ·by_cases L:B+1<=0
    ·rw[Je L]at J;omega
    ·omega
  have e0:BS a k 4096 0 0=([],true):=by unfold BS;rw[aa]
  refine⟨?_,?_⟩
  ·rw[hb,N];refine FA.2 ⟨?_,by rw[show(0:Int)+0=0 from rfl,e0]⟩;have:=M.1;rw[hb,N]at this;exact this
  ·rw[aa I];unfold AJ;rw[aa ⟨E,G⟩];unfold BS;rw[aa I]
 ·have e:BS a k 4096 v x=((v+AH a k v x)::(BS a k 4095 (v+AH a k v x) (AH a k v x)).1,(BS a k 4095 (v+AH a k v x) (AH a k v x)).2):=by
   show(if v<=0 then _ else _)=_;rw[ab I]
  rw[e]at G;have S:=Zdy a k 4095 _ _ G;have L:(AJ a k (v+AH a k v x) (AH a k v x)).2=true:=FA.2 ⟨M.1,by rw[S];exact G⟩;refine⟨L,?_⟩;rw[ab I];have e2:(AJ a k v x).1=(BS a k 4096 v x).1:=by unfold AJ;rw[aa (FA.1 h)]
  have e3:(AJ a k (v+AH a k v x) (AH a k v x)).1=(BS a k 4096 (v+AH a k v x) (AH a k v x)).1:=by unfold AJ;rw[aa (FA.1 L)]
  rw[e2,e3,S,e]
structure KOK (K : Kf) : Prop where
 f:Fix K.p K.x K.t
 plan:Plan3 K.pa K.pb K.pc
 aF:∀g∈K.p.aF,0<=g.aU/\g.aU<K.aA.length/\i64 g.aX
 aD:∀m∈K.p.aD,0<=m.aU/\m.aU<K.aA.length/\i64 m.at_
 count:K.p.aD.length<=1000000
 aS:∀it∈K.aA,it.aP=8->i64 it.aS
 len:i64 K.len
 set:i64 K.set
theorem LP (K:Kf) (c:Cv):Ds (Ab K c)=some [I (V (c.m0.tdiv 256))]:=by
 show Qke (Ab K c)=_;rw[Zxc]
abbrev AB (c:Cv):Int:=V (c.m0.tdiv 256)
theorem Yb2 {D MU:Fn} {c:Cv} {s:Int} (E:MU (Ab K c)=some [I (AB c)]) (G:D (A4 K.t++[I (AB c)])=some [I s]):Qah D MU (Ab K c)=some [I s]:=by
 rw[Z4k,E];simp only[ah,gA,wA,bA,jA,Dl,Ef];rw[G];rfl
abbrev Ay (K:Kf) (c:Cv):Int:=AA K.t (AB c)
theorem NA (h:KOK K) (c:Cv):Dt (Ab K c)=some [I (Ay K c)]:=Yb2 (LP K c) (P8 h.f.t.q (AB c))
theorem Zwb (K:Kf) (c:Cv):Ps (Ab K c)=some (I 3::Ab K {c with next:=V (c.idx+1),on:=false,idx:=0,aN:=false,cnt:=0}):=by
 show Qhd (Ab K c)=_;rw[Zw9]
theorem Zw6 (K:Kf) (c:Cv):Hm (Ab K c)=some (Ab K (if c.g0=0 then{c with o2:=true,g0:=1,g1:=18,g2:= -1}else c)):=by
 show Qr5 (Ab K c)=_;rw[Zpm];cases h:(c.g0==0)
 ·rw[ab (by simpa using h)];rfl
 ·rw[aa (by simpa using h)];rfl
def nxL (K:Kf) (c:Cv) (l:Int):List AC:=pxt K.p K.x K.t [I K.pa,I K.pb,I K.pc,I c.o0,I c.o1,B c.o2,B c.o3,B c.o4,I c.m0,I c.m1,I c.m2,I c.m3,I c.m4,I c.m5,I l]
def nxV (K:Kf) (c:Cv) (l:Int):Int:=gA ((EW (nxL K c l)).getD []) 1
def Mo (K:Kf) (c:Cv):Prop:=(AJ K.pa K.pb c.m1 c.m2).2=true
theorem Mo.ready {c:Cv} (h:Mo K c):CZ K.pa K.pb c.m1 c.m2:=(FA.1 h).1
theorem Qo8 {c:Cv} {Q R:Int->Prop} (h:Out (Mi c.m0 c.m1 c.m3 c.m4 Q R) (EW (nxL K c a))):Q (nxV K c a)\/∃r:Int,nxV K c a=V (c.m1+r)/\R r:=by
 obtain⟨o,D,v,rfl,E⟩:=h;have e:nxV K c a=v:=by unfold nxV;rw[D];rfl
 rw[e];exact E
theorem QK {c:Cv} (D:Plan3 K.pa K.pb K.pc) (G:Mo K c) {v:Int} (E:v=V (c.m1+AH K.pa K.pb c.m1 c.m2)):v=c.m1+AH K.pa K.pb c.m1 c.m2/\V (v-c.m1)=AH K.pa K.pb c.m1 c.m2/\(AJ K.pa K.pb v (V (v-c.m1))).2=true:=by
 have I:=DH D G.ready;have J:=DH D (closed D G.ready).1;rw[Ae]at E;have e:V (v-c.m1)=AH K.pa K.pb c.m1 c.m2:=by rw[E,Ae];omega
 refine⟨E,e,?_⟩;rw[e,E];exact(Ry D G).1
theorem Ni {c:Cv} (D:Plan3 K.pa K.pb K.pc) (E:Mo K c):Out (λo=>∃r:Int,o=[I r]/\r=AH K.pa K.pb c.m1 c.m2) (FX [I K.pa,I K.pb,I K.pc,I c.m1,I c.m2]):=
 ⟨_,Qvb D E.ready,_,rfl,rfl⟩
theorem Qh7 {x:Ax3} (h:Fix p x t) (a b c o0 o1:Int) (D b1 b2:Bool) (m0 m1 m2 m3 m4 m5:Int):Out (λo=>bA o 0=true->True) (Lw (DL p t [I a,I b,I c,I o0,I o1,B D,B b1,B b2,I m0,I m1,I m2,I m3,I m4,I m5])):=
 (Out.of (Zx1 h a b c o0 o1 D b1 b2 m0 m1 m2 m3 m4 m5)).mono λ_ _ _=>trivial
theorem Q7u (h:KOK K) {c:Cv} (D:Mo K c) (l:Int) (E:Bool):Out (Mi c.m0 c.m1 c.m3 c.m4 (λv=>(AJ K.pa K.pb v (V (v-c.m1))).2=true) λr=>r=AH K.pa K.pb c.m1 c.m2)
  (EW (pxt K.p K.x K.t [I K.pa,I K.pb,I K.pc,I c.o0,I c.o1,B E,B c.o3,B c.o4,I c.m0,I c.m1,I c.m2,I c.m3,I c.m4,I c.m5,I l])):=
 TE (F:=λ_=>True) (by have:=h.plan.b;omega) (Ni h.plan D) (λv _ _ _=>Qp h.f h.plan _ _ _ _ _ _ _) (λv=>Qh7 h.f ..) Nc Sq (λ_ G=>S9 G)
def Of (m0 m1 m3 m4:Int) (Q R:Int->Prop) (o:List AC):Prop:=∃v s b z g e:Int,o=DK m0 m1 m3 m4 v++[I s,I b,I z,I g,I e]/\(Q v\/∃r:Int,v=V (m1+r)/\R r)
theorem Wn {x:Ax3} {a b c:Int} {b0 b1 b2:Bool} {m0 m1 m2 m3 m4 m5 l aX g0 g1 g2 G J L:Int} {Q R:Int->Prop}
  (hN:Out (Mi m0 m1 m3 m4 Q R) (M (pxt p x t [I a,I b,I c,I k,I u,B false,B b1,B b2,I m0,I m1,I m2,I m3,I m4,I m5,I l])))
  (hB:Out (λo=>∃r:Int,o=[I r]/\R r) (Z [I a,I b,I c,I m1,I m2]))
  (N:∀a b c x3 x4 x5 x6 x7 x8,(W [I a,I b,I c,I x3,I x4,I x5,I x6,I x7,I x8]).isSome=true)
  (U:∀v:Int,Out (λo=>bA o 0=true->Q v) (T (pxt p x t [I a,I b,I c,I (V (m0+v)),I v,I (V (v-m1)),I m0,I m3,I m4,I l])))
  (E:∀m0 m1 m2 m3 m4 m5 v,S [I m0,I m1,I m2,I m3,I m4,I m5,I v]=some (DK m0 m1 m3 m4 v))
  (X:∀v,i64 v->(P [I aX,I v]).isSome=true) (Y:∀a b,∃v,O [I a,I b]=some [I v]/\i64 v):
  Out (Of m0 m1 m3 m4 Q R) (Qns M Z W T S P O (pxt p x t [I a,I b,I c,I k,I u,B b0,B b1,B b2,I m0,I m1,I m2,I m3,I m4,I m5,I l,I aX,I g0,I g1,I g2,I G,I J,I L])):=by
 rw[Z3q];obtain⟨v1,e1,w1⟩:=Y L g2;obtain⟨v2,e2,w2⟩:=Y J g2;rw[e1,e2];simp only[ah,gA,wA,bA,jA,Dl,E3,Ef];have next:∀s D z g e:Int,Out (Of m0 m1 m3 m4 Q R) ((M (pxt p x t [I a,I b,I c,I k,I u,B false,B b1,B b2,I m0,I m1,I m2,I m3,I m4,I m5,I l])).bind λo=>some [I (gA o 0),I (gA o 1),I (gA o 2),I (gA o 3),I (gA o 4),I (gA o 5),I s,I D,I z,I g,I e]):=λs D z g e=>by
  refine .bind hN λo h=> ?_;obtain⟨v,rfl,h⟩:=h;exact .some ⟨v,s,D,z,g,e,rfl,h⟩
 refine .ibind (X _ w1) λf1 _=> .cond (λ_=> ?_) λ_=> .cond (λ_=> ?_) λ_=>next _ _ _ _ _
 ·refine .ibind (X _ w2) λf2 _=> ?_;rw[E];generalize V (Af (nth AC.vD f1 0)-Af (nth AC.vD f2 0))=v;simp only[ah,gA,wA,bA,jA,Dl,E3,Ef];refine .cond (λ_=> ?_) λ_=>next _ _ _ _ _
  refine .bind (U v) λo h=> .cond (λc=> ?_) λ_=>next _ _ _ _ _
  exact .some ⟨v,_,_,_,_,_,rfl, .inl (h c)⟩
 ·rw[E];generalize V (V (V (g1+Af (nth AC.vD f1 0))-G)-m0)=v;simp only[ah,gA,wA,bA,jA,Dl,E3,Ef];have stop:∀s D z g e:Int,Out (Of m0 m1 m3 m4 Q R) ((Z [I a,I b,I c,I m1,I m2]).bind λo=>(S [I m0,I m1,I m2,I m3,I m4,I m5,I (V (m1+gA o 0))]).bind λq=>some [I (gA q 0),I (gA q 1),I (gA q 2),I (gA q 3),I (gA q 4),I (gA q 5),I s,I D,I z,I g,I e]):=λs D z g e=>by
   refine .bind hB λo h=> ?_;obtain⟨r,rfl,hr⟩:=h;rw[E];exact .some ⟨_,s,D,z,g,e,rfl, .inr ⟨r,rfl,hr⟩⟩
  refine .cond (λ_=> ?_) λ_=> ?_
  ·refine .bind (U v) λo h=> .cond (λc=> ?_) λ_=> ?_
   ·exact .some ⟨v,_,_,_,_,_,rfl, .inl (h c)⟩
   ·refine .ibind (N _ _ _ _ _ _ _ _ _) λ_ _=> .cond (λ_=> .cond (λ_=>stop _ _ _ _ _) λ_=>stop _ _ _ _ _) λ_=>stop _ _ _ _ _
  ·refine .ibind (N _ _ _ _ _ _ _ _ _) λ_ _=> .cond (λ_=> .cond (λ_=>stop _ _ _ _ _) λ_=>stop _ _ _ _ _) λ_=>stop _ _ _ _ _
theorem Zzo (h:KOK K) {c:Cv} (D:Mo K c) (l:Int) {aX:Int} (E:i64 aX):Out (Of c.m0 c.m1 c.m3 c.m4 (λv=>(AJ K.pa K.pb v (V (v-c.m1))).2=true) λr=>r=AH K.pa K.pb c.m1 c.m2)
  (G8 (pxt K.p K.x K.t [I K.pa,I K.pb,I K.pc,I c.o0,I c.o1,B c.o2,B c.o3,B c.o4,I c.m0,I c.m1,I c.m2,I c.m3,I c.m4,I c.m5,I l,I aX,I c.e0,I c.e1,I c.e2,I c.e3,I c.before,I c.s3])):=
 Wn (Q7u h D l false) (Ni h.plan D) Yl (λv=>Qp h.f h.plan _ _ _ _ _ _ _) Nc (λ_ G=>Qre E G) Qk6
theorem Qw6 (h:KOK K) {c:Cv} (E:Mo K c) {v:Int} (G:(AJ K.pa K.pb v (V (v-c.m1))).2=true\/∃r:Int,v=V (c.m1+r)/\r=AH K.pa K.pb c.m1 c.m2):(AJ K.pa K.pb v (V (v-c.m1))).2=true:=by
 rcases G with D|⟨r,D,I⟩
 ·exact D
 ·subst I;exact(QK h.plan E D).2.2
theorem PU {a k c:Int} (D:Plan3 a k c):(AJ a k 0 0).2=true:=by
 refine FA.2 ⟨?_,by unfold BS;rw[aa]⟩;have E:=D.a;have hb:=D.b
 refine⟨by omega,by omega,?_,?_,λ_=>by omega⟩
 ·rw[Je (by omega)];omega
 ·rw[Je (by omega)];omega
theorem Z1a (o0 o1:Int) (b1 b2:Bool) (a b c:Int) (r:List AC):O4 (I o0::I o1::B true::B b1::B b2::I a::I b::I c::AV Ag r)=some [I 0]:=by
 rw[Q9g];show Vr _=_;rw[Zbq];rfl
theorem Z7f {G J L MU:Fn} {a b c o0 o1:Int} {b1 b2:Bool} (M:∀r,G (I o0::I o1::B true::B b1::B b2::I a::I b::I c::AV Ag r)=some [I 0])
  (N:∀s,i64 s->∃i v:Int,J (Bv p++[I s])=some [I i,I v]/\(i= -1\/0<=i/\i<p.aF.length)/\(p.aF≠[]->0<=i)) (O:∀u,∃s,L (A4 t++[I u])=some [I s]/\i64 s) (S:∀u,(MU [I u]).isSome=true) (D:p.aF≠[]) (u:Int):
  Out (λo=>gA o 0=0) (Vh G J L MU (DL p t [I a,I b,I c,I o0,I o1,B true,B b1,B b2,I u])):=by
 rw[Q03];refine .ibind (S _) λq _=> ?_;obtain⟨s,T,U⟩:=O (gA q 0);refine .bind (p:=λo=>o=[I s]) ⟨_,T,rfl⟩ λo e=> ?_;subst e;obtain⟨i,v,g1,g2,E⟩:=N s U;refine .bind (p:=λo=>o=[I i,I v]) ⟨_,g1,rfl⟩ λo e=> ?_;subst e;have E:=E D;refine .cond (λ_=> ?_) λc=> ?_
 ·refine .bind (p:=λo=>o=[I 0]) ⟨_,M _,rfl⟩ λo e=> ?_;subst e;exact .some rfl
 ·refine(inB (show 0<=i from E) (show i<((p.aF.map Ax).length:Int)from ?_) c).elim;rw[ac];omega
theorem Zx0 {x:Ax3} (h:Fix p x t) (D:p.aF≠[]) (a b c o0 o1:Int) (b1 b2:Bool) (u:Int):
  Out (λo=>gA o 0=0) (L9 (DL p t [I a,I b,I c,I o0,I o1,B true,B b1,B b2,I u])):=
 Z7f (λr=>Z1a o0 o1 b1 b2 a b c r) (λ_ E=>Zbb h E) (λu=>⟨_,P8 h.t.q u,VW h u⟩) Qq8 D u
theorem Z55 {a b c o0 o1:Int} {b1 b2:Bool} (D:p.aF≠[]->∀u,Out (λo=>gA o 0=0) (M (DL p t [I a,I b,I c,I o0,I o1,B true,B b1,B b2,I u])))
  (L:∀a b c N O S T U V,Out (λo=>(wA o 0).length<=4096) (Z [I a,I b,I c,I N,I O,I S,I T,I U,I V])) (m0 m1 m2 m3 m4 m5:Int):
  Out (λo=>bA o 0=true->m1<=0) (U3 M Z (Am (S5 M Z)) (DL p t [I a,I b,I c,I o0,I o1,B true,B b1,B b2,I m0,I m1,I m2,I m3,I m4,I m5])):=by
 rw[Qyu];refine .bind (L a b c m0 m1 m2 m3 m4 m5) λo Y=> ?_;have no:∀{x:List AC},x=[B false]->bA x 0=true->m1<=0:=λe h=>by subst e;simp[bA,nth,CU]at h
 generalize wA o 0=sp at*;refine .cond (λ_=> .some (no rfl)) λ_=> .cond (λ_=> .some (no rfl)) λJ=> ?_;have E:p.aF≠[]:=by
  intro e;rw[e]at J;simp at J
 have D:=D E;refine .bind (D _) λq X=> .cond (λ_=> .some (no rfl)) λG=> ?_;have G: ¬m1>gA q 0:=AU G;rw[X]at G;refine .bind (p:=λo=>o.1=1\/o.1=2) ?_ λo g=>by rcases g with g|g<;>rw[g]<;>exact .some λ_=>by omega
 refine BZ (λs:Int×Nat=>I s.1:: .vC Aa sp::I (sp.length:Int)::I (s.2:Int)::DL p t [I a,I b,I c,I o0,I o1,B true,B b1,B b2]) (λs=>s.2<=sp.length) (λs=>sp.length-s.2) _ ?_ (m0,0) (by simp);rintro⟨v,i⟩ g;dsimp only at g;rw[Qx3];rw[Ae (x:=(i:Int)+1)];refine .cond (λc=> ?_) (λc=> ?_)
 ·have c:=A0 c;refine .cond (λ_=> ?_) λc=>by simp at c;omega
  refine .bind (D _) λ_ _=> .cond (λ_=> .some (.inr ⟨by simp, .inl rfl⟩)) λ_=> ?_;exact .some (.inl ⟨rfl,(_,i+1),rfl,by dsimp only;omega,by dsimp only;omega⟩)
 ·exact .some (.inr ⟨by simp, .inr rfl⟩)
theorem Zgv {x:Ax3} (h:Fix p x t) (a b c o0 o1:Int) (b1 b2:Bool) (m0 m1 m2 m3 m4 m5:Int):
  Out (λo=>bA o 0=true->m1<=0) (Lw (DL p t [I a,I b,I c,I o0,I o1,B true,B b1,B b2,I m0,I m1,I m2,I m3,I m4,I m5])):=
 Z55 (λD u=>Zx0 h D a b c o0 o1 b1 b2 u) V3 m0 m1 m2 m3 m4 m5
theorem Z26 (h:KOK K) {c:Cv} (G:Mo K c) (O:c.o2=true) (l:Int):nxV K c l=c.m1+AH K.pa K.pb c.m1 c.m2:=by
 have D:=h.plan;have L:=G.ready;have rg:=DH D L;have I:Out (Mi c.m0 c.m1 c.m3 c.m4 (λv=>(AJ K.pa K.pb v (V (v-c.m1))).2=true/\v=0/\∃k:Int,-K.pb<=k/\k<=K.pb/\v=V (c.m1+V (c.m2+k))) λr=>r=AH K.pa K.pb c.m1 c.m2) (EW (nxL K c l)):=by
  unfold nxL;rw[O];exact TE (F:=λv=>v<=0) (by have:=D.b;omega) (Ni D G) (λv h0 E S=>(Qp h.f D _ _ _ _ _ _ _).mono λo I hb=>⟨I hb,by omega,S⟩) (λv=>Zgv h.f ..) Nc Sq (λ_ T=>S9 T)
 rcases Qo8 I with⟨E,J,k,k1,k2,M⟩|⟨r,E,J⟩
 ·have hb:=D.b;have ha:=D.a
  rw[J]at E M⊢;rw[Ae (x:=c.m2+k),Ae (x:=c.m1+(c.m2+k))]at M;rw[Ae (x:=0-c.m1)]at E;obtain⟨⟨q1,q2,U,q4,q5⟩,-⟩:=FA.1 E;have e1: -(0-c.m1)=c.m1:=by omega
  rw[e1]at U;obtain⟨B,N⟩:∃B,B=bs K.pb c.m1 20 (-c.m2-K.pb) (min (K.pb-c.m2) K.pa):=⟨_,rfl⟩;obtain⟨b1,b2,b3,b4,b5,b6⟩:=TZ D L N;have l0:=Ij (k:=K.pb) (b:=B) (by omega);have X:AH K.pa K.pb c.m1 c.m2= -B:=by unfold AH;rw[N]
  rw[X];by_cases Y:B<c.m1
  ·rcases b5 with b5|b5
   ·omega
   ·have:=Z8o (k:=K.pb) (b:=B+1) (c:=c.m1) (by omega) (by omega);omega
  ·omega
 ·subst J;exact(QK D G E).1
theorem Q1y (K:Kf) {i:Nat} (h:i<K.aA.length):nth [] (K.aA.map Ah) i=Ah K.aA[i]:=by
 rw[B5,List.getD,d7,ag h];rfl
theorem Z50 (K:Kf) {i:Nat} (h:i<K.p.aD.length):nth [] (K.p.aD.map Aw) i=Aw K.p.aD[i]:=by
 rw[B5,List.getD,d7,ag h];rfl
theorem Zto (h:KOK K) (i:Nat) (D:gA (nth [] (K.aA.map Ah) i) 0=8):i64 (gA (nth [] (K.aA.map Ah) i) 20):=by
 by_cases c:i<K.aA.length
 ·rw[Q1y K c]at D⊢;exact h.aS _ (bf c) D
 ·have e:nth [] (K.aA.map Ah) i=[]:=by
   rw[B5,List.getD,df (by rw[ac];omega)];rfl
  rw[e];show i64 0;unfold i64;omega
structure Gd (K : Kf) (n : Int) (c : Cv) : Prop where
 way:c.way=0
 pass:0<=c.aK/\c.aK<=K.p.aD.length
 task:c.on=true->0<=c.idx/\c.idx<K.p.aD.length
 mo:Mo K c
 m0: -(16777216*n)<=c.m0/\c.m0<=16777216*n
theorem Gd.up {n:Int} {c:Cv} (h:Gd K n c) (D:0<=n):Gd K (n+1) c:=
 ⟨h.way,h.pass,h.task,h.mo,by have:=h.m0;omega⟩
theorem Gd.bD (h:KOK K) {n:Int} {c:Cv} (g:Gd K n c) (G:0<=n/\n<=10000) {v:Int} (E:(AJ K.pa K.pb v (V (v-c.m1))).2=true\/∃r:Int,v=V (c.m1+r)/\r=AH K.pa K.pb c.m1 c.m2):
  Gd K (n+1) {c with m0:=V (c.m0+v),m1:=v,m2:=V (v-c.m1),m3:=c.m0,m4:=c.m3,m5:=c.m4}:=by
 have I:=g.m0;have D:=Qw6 h g.mo E;have J:=DH h.plan (FA.1 D).1;refine⟨g.way,g.pass,g.task,D,?_⟩;show-(16777216*(n+1))<=V (c.m0+v)/\V (c.m0+v)<=16777216*(n+1);rw[Ae];omega
theorem Gd.same {n:Int} {c c':Cv} (g:Gd K n c) (D:c'.way=c.way) (E:c'.aK=c.aK) (G:c'.on=c.on) (I:c'.idx=c.idx) (J:c'.m0=c.m0) (L:c'.m1=c.m1) (M:c'.m2=c.m2):Gd K n c':=
 ⟨D▸g.way,E▸g.pass,by rw[G,I];exact g.task,by have:=g.mo;unfold Mo at*;rw[L,M];exact this,J▸g.m0⟩
theorem Q3m {c:Cv} (h:c.way=0):Jx (Ab K c)=some (I 0::B false::Ab K c):=by
 have key:∀{A B':Fn},Tt A B' (Ab K c)=some (I 0::B false::Ab K c):=by
  intro A B';rw[Q07,BX (by simp[h])]
 exact key
abbrev stand (c:Cv):Cv:={c with m0:=V (AB c*256),m1:=0,m2:=0,m3:=V (AB c*256),m4:=V (AB c*256),m5:=V (AB c*256)}
theorem Qd1 (u:Int):HK [I u]=some [I (V (u*256)),I 0,I 0,I (V (u*256)),I (V (u*256)),I (V (u*256))]:=by
 show Qdf [I u]=_;rw[Z7l]
theorem Zmv {D MU:Fn} {c:Cv} (E:MU (Ab K c)=some [I (AB c)]) (G:∀u:Int,D [I u]=some [I (V (u*256)),I 0,I 0,I (V (u*256)),I (V (u*256)),I (V (u*256))]):
  Qlp D MU (Ab K c)=some (if c.g0=2 then I 6::B true::Ab K (stand c)else I 0::B false::Ab K c):=by
 rw[Zt5];by_cases h:c.g0=2
 ·rw[aa h,BG (by simp[h]),E];simp only[ah,gA,wA,bA,jA,Dl,Ef];rw[G];rfl
 ·rw[ab h,BX (by simpa using h)]
theorem Q3n (K:Kf) (c:Cv):L6 (Ab K c)=some (if c.g0=2 then I 6::B true::Ab K (stand c)else I 0::B false::Ab K c):=Zmv (LP K c) Qd1
theorem Qxh (K:Kf) (c:Cv):L8 (Ab K c)=some (I c.aI::B (c.aI !=0)::Ab K c):=by
 show Wx (Ab K c)=_;rw[Zhz]
theorem Q1v (K:Kf) (c:Cv):Mu (Ab K c)=some (if c.aH=true/\c.aM=true then I 8::B true::Ab K {c with aI:=8}else I 0::B false::Ab K c):=by
 show Qky (Ab K c)=_;rw[Zon];by_cases h:c.aH=true
 ·by_cases D:c.aM=true
  ·rw[aa ⟨h,D⟩,BG (by simp[h]),BG (by simp[D]),h,D]
  ·rw[ab (λe=>D e.2),BG (by simp[h]),BX (by simpa using D)]
 ·rw[ab (λe=>h e.1),BX (by simpa using h)]
theorem Qw0 (h: -u<=a/\a<=u): -u<=a.tdiv 256*256/\a.tdiv 256*256<=u:=by
 by_cases k:0<=a
 ·rw[ap k];omega
 ·obtain⟨b,rfl⟩:∃b,a= -b:=⟨-a,by omega⟩;rw[Int.neg_tdiv,ap (by omega)];omega
theorem Gd.stand (h:KOK K) {n:Int} {c:Cv} (g:Gd K n c) (D:0<=n/\n<=10000):Gd K n (stand c)/\AB (stand c)=AB c:=by
 have E:=Qw0 g.m0;have e:AB c=c.m0.tdiv 256:=Ae;have e2:(Go.Bm.stand c).m0=c.m0.tdiv 256*256:=by
  show V (AB c*256)=_;rw[e,Ae]
 refine⟨⟨g.way,g.pass,g.task,PU h.plan,?_⟩,?_⟩
 ·rw[e2];omega
 ·show V ((Go.Bm.stand c).m0.tdiv 256)=_;rw[e2,Int.mul_tdiv_cancel _ (by omega),e,Ae]
theorem Out.eqv {α:Type} {p:α->Prop} {a b:Option α} (h:a=b) (g:Out p b):Out p a:=h▸g
abbrev H7 (pul outs:Rw) (mode s:Int) (m:Pt) (sp fault:Int):List AC:=[.vC kPt pul, .vC Aa outs,I mode,I s,I m.x,I m.y,I m.z,I sp,I fault]
abbrev Ci:List AC:=[.vC kPt [], .vC Aa [],I 0,I 0,I 0,I 0,I 0,I 0,I 0]
theorem Zb {n:Int} {c:Cv} (g:Gd K n c) (E:0<=n/\n<=10010): -300000000000<=AB c/\AB c<=300000000000:=by
 have h:=g.m0;have D: -300000000000<=c.m0/\c.m0<=300000000000:=by omega
 have G:=Qw0 D;have e:AB c=c.m0.tdiv 256:=Ae;omega
theorem Ztg (r k:Int):(A_ r k=r/\Ba r k=0)\/(A_ r k=0/\Ba r k=r)\/(A_ r k= -r/\Ba r k=0)\/(A_ r k=0/\Ba r k= -r):=by
 have D:k%4=0\/k%4=1\/k%4=2\/k%4=3:=by omega
 unfold A_ Ba;rcases D with h|h|h|h<;>simp[h]
theorem Q9x (r k:Int):sq2 (A_ r k) (Ba r k)=r*r:=by
 unfold sq2;rcases Ztg r k with⟨D,E⟩|⟨D,E⟩|⟨D,E⟩|⟨D,E⟩<;>rw[D,E]<;>grind
theorem Zkr (E:u=1\/u=2\/u=3) (G:0<a) (I:0<b):crs (A_ a k) (Ba a k) (A_ b (k+u)) (Ba b (k+u))≠0\/dt2 (A_ a k) (Ba a k) (A_ b (k+u)) (Ba b (k+u))<0:=by
 have J:k%4=0\/k%4=1\/k%4=2\/k%4=3:=by omega
 have L:0<a*b:=Int.mul_pos G I;have O: -a*b= -(a*b)/\a* -b= -(a*b)/\ -a* -b=a*b:=⟨Int.neg_mul ..,Int.mul_neg ..,Int.neg_mul_neg ..⟩;have e:∀j:Int,(k+u)%4=j->∀i:Int,k%4=i->crs (A_ a k) (Ba a k) (A_ b (k+u)) (Ba b (k+u))=(if i=0 then a else if i=2 then-a else 0)*(if j=1 then b else if j=3 then-b else 0)-(if i=1 then a else if i=3 then-a else 0)*(if j=0 then b else if j=2 then-b else 0)/\
   dt2 (A_ a k) (Ba a k) (A_ b (k+u)) (Ba b (k+u))=(if i=0 then a else if i=2 then-a else 0)*(if j=0 then b else if j=2 then-b else 0)+(if i=1 then a else if i=3 then-a else 0)*(if j=1 then b else if j=3 then-b else 0):=by
  intro j M i N;subst M N;exact⟨rfl,rfl⟩
 rcases E with rfl|rfl|rfl<;>rcases J with D|D|D|D
 ·obtain⟨e1,e2⟩:=e 1 (by omega) _ D;simp at e1 e2;omega
 ·obtain⟨e1,e2⟩:=e 2 (by omega) _ D;simp at e1 e2;omega
 ·obtain⟨e1,e2⟩:=e 3 (by omega) _ D;simp at e1 e2;omega
 ·obtain⟨e1,e2⟩:=e 0 (by omega) _ D;simp at e1 e2;omega
 ·obtain⟨e1,e2⟩:=e 2 (by omega) _ D;simp at e1 e2;omega
 ·obtain⟨e1,e2⟩:=e 3 (by omega) _ D;simp at e1 e2;omega
 ·obtain⟨e1,e2⟩:=e 0 (by omega) _ D;simp at e1 e2;omega
 ·obtain⟨e1,e2⟩:=e 1 (by omega) _ D;simp at e1 e2;omega
 ·obtain⟨e1,e2⟩:=e 3 (by omega) _ D;simp at e1 e2;omega
 ·obtain⟨e1,e2⟩:=e 0 (by omega) _ D;simp at e1 e2;omega
 ·obtain⟨e1,e2⟩:=e 1 (by omega) _ D;simp at e1 e2;omega
 ·obtain⟨e1,e2⟩:=e 2 (by omega) _ D;simp at e1 e2;omega
theorem Zwh {it:Itm} (h:ArcMade a it):Qjw it:=by
 obtain⟨r,k,t,g,x,J,Y,h3,h4,h5,h6,L,O,h9,M,G,D,I⟩:=h.ends;have E:=h.aG;have a1:dU it it.fr=A_ r k:=by unfold dU;rw[D,(OR E).1];omega
 have a2:dW it it.fr=Ba r k:=by unfold dW;rw[D,(OR E).2.1];omega
 have a3:dU it it.to=A_ (r+g) (k+t):=by unfold dU;rw[D,I,(OR E).1,(OR E).1];omega
 have a4:dW it it.to=Ba (r+g) (k+t):=by unfold dW;rw[D,I,(OR E).2.1,(OR E).2.1];omega
 have T:qA it=r*r:=by unfold qA;rw[a1,a2,Q9x]
 have U:qB it=(r+g)*(r+g):=by unfold qB;rw[a3,a4,Q9x]
 have m1:64<=r*r:=by
  have:=f6 J J (by omega) (by omega);omega
 have m2:64<=(r+g)*(r+g):=by
  have:=f6 (show(8:Int)<=r+g by omega) (show(8:Int)<=r+g by omega) (by omega) (by omega);omega
 unfold Qjw;refine⟨by omega,by omega,?_,?_,?_⟩
 ·rw[T,U];unfold IW;right;have hg:g*g<=16:=by
   have:=f6 O O L (by omega);omega
  have e1:r*r+(r+g)*(r+g)-16=2*(r*(r+g))+(g*g-16):=by grind
  have S:0<=r*(r+g):=gq (by omega) (by omega);have V:64<=r*(r+g):=by
   have:=f6 J (show(8:Int)<=r+g by omega) (by omega) (by omega);omega
  have X:0<=g*g:=gq L L;have e2:4*(r*r)*((r+g)*(r+g))=(2*(r*(r+g)))*(2*(r*(r+g))):=by grind
  rw[e1,e2];generalize 2*(r*(r+g))=m at*;exact i9 (by omega) (by omega)
 ·intro hf;rw[G]at hf;have N:=of_decide_eq_true hf;rw[a1,a2,a3,a4,N,M N,ja,ja];exact⟨rfl,rfl⟩
 ·intro hf;rw[G]at hf;have N:=of_decide_eq_false hf;unfold cAB dAB;rw[a1,a2,a3,a4];exact Zkr (by omega) (by omega) (by omega)
theorem Z7g {it:Itm} (h:Made it) (E:bd 1000000 it.fr) (G:bd 1000000 it.to):Ed it:=by
 refine⟨h.aP,Bf E (by omega),Bf G (by omega),λI=> ?_⟩;have D:=h.arc I;exact⟨D.aG,D.dir,Bf (Ql2 D (by omega) E).2 (by omega),Zwh D⟩
end Go.Bm
namespace Go.Bm
open Classical
structure Oth (it : Itm) : Prop where
 aP:7<=it.aP/\it.aP<=14
 spin:it.aP=8->3<=it.n/\it.n<=5/\0<=it.aS/\it.aS<=4000
 dwell:it.aP=7->0<=it.n/\it.n<=4
 out:it.aP=10->0<=it.n/\it.n<=15
def Jy:Pt->List Itm->Prop
 |_,[]=>True
 |p,it::l=>if AF it then it.fr=p/\Jy it.to l else Jy p l
def Fo:Pt->List Itm->Pt
 |p,[]=>p
 |p,it::l=>if AF it then Fo it.to l else Fo p l
theorem XI {it:Itm}:∀{l:List Itm} {p:Pt},Jy p l->(AF it->it.fr=Fo p l)->Jy p (l++[it])
 |[],p,_,h=>by
  simp only[az,Jy];split
  ·rename_i c;exact⟨h c,trivial⟩
  ·trivial
 |a::l,p,D,h=>by
  simp only[ay,Jy]at D⊢;unfold Fo at h;by_cases c:AF a
  ·rw[aa c]at D h⊢;exact⟨D.1,XI D.2 h⟩
  ·rw[ab c]at D h⊢;exact XI D h
theorem JM {it:Itm}:∀{l:List Itm} {p:Pt},Fo p (l++[it])=if AF it then it.to else Fo p l
 |[],p=>by simp only[az,Fo]
 |a::l,p=>by
  simp only[ay,Fo];by_cases c:AF a
  ·rw[aa c,aa c];exact JM
  ·rw[ab c,ab c];exact JM
structure Items (A : Nat) (p : Pt) (l : List Itm) : Prop where
 link:Jy p l
 made:∀it∈l,(AF it/\Made it/\Gv it/\bd A it.fr/\bd A it.to)\/Oth it
theorem Om {l:List Itm} {it:Itm} (h:Items A q l) (E:AF it->it.fr=Fo q l) (G:(AF it/\Made it/\Gv it/\bd A it.fr/\bd A it.to)\/Oth it):Items A q (l++[it]):=by
 refine⟨XI h.link E,λi D=> ?_⟩;simp only[ba,fa]at D;rcases D with D|rfl
 ·exact h.made i D
 ·exact G
theorem Oz {it:Itm} (h:Oth it): ¬AF it:=λg=>by have:=h.aP;have:=g.2;omega
theorem Z5r (D:Ht l M) (k:Nat):
  ∃(it:Itm) (k':Nat),ZQ M [.vC Aa l,I k]=some (Ah it++[.vC Aa l,I k'])/\k<=k'/\Oth it/\it.aP≠14:=by
 rw[Zng];obtain⟨v0,k0,e0,a0,b0,J,-,-⟩:=D k (n:=8) (by omega);obtain⟨v1,V,e1,a1,b1,L,-,-⟩:=D k0 (n:=16) (by omega);obtain⟨v2,k2,e2,a2,b2,N,-,-⟩:=D V (n:=2) (by omega);obtain⟨v3,k3,e3,a3,b3,O,-,-⟩:=D k0 (n:=5) (by omega);obtain⟨X,Y,e4,a4,b4,S,-,-⟩:=D k0 (n:=3) (by omega);obtain⟨v5,k5,e5,a5,b5,T,-,-⟩:=D Y (n:=4000) (by omega);simp only[go_sem,e0,e1,e2,e3,e4,e5];rw[Ae (x:=3+X)];have fin:∀(G n sp:Int) (on:Bool) (k':Nat),k<=k'->G≠14->Oth ⟨G,0,⟨0,0,0⟩,⟨0,0,0⟩,0,⟨0,0,0⟩,0,false,0,false,0,0,0,n,sp,on⟩->
   ∃(it:Itm) (E:Nat),some [I G,I 0,I 0,I 0,I 0,I 0,I 0,I 0,I 0,I 0,I 0,I 0,I 0,B false,I 0,B false,I 0,I 0,I 0,I n,I sp,B on, .vC Aa l,I k']=some (Ah it++[.vC Aa l,I E])/\k<=E/\Oth it/\it.aP≠14:=by
  intro G n sp on k' h1 h0 h2;exact⟨_,k',rfl,h1,h2,h0⟩
 by_cases J:v0=0
 ·rw[aa J];exact fin _ _ _ _ _ (by omega) (by omega) ⟨by simp only;omega,by simp,by simp,λ_=>by simp only;omega⟩
 rw[ab J];by_cases L:v0=1
 ·rw[aa L];exact fin _ _ _ _ _ (by omega) (by omega) ⟨by simp only;omega,by simp,by simp,λ_=>by simp only;omega⟩
 rw[ab L];by_cases N:v0=2
 ·rw[aa N];exact fin _ _ _ _ _ (by omega) (by omega) ⟨by simp only;omega,by simp,λ_=>by simp only;omega,by simp⟩
 rw[ab N];by_cases O:v0=3
 ·rw[aa O];exact fin _ _ _ _ _ (by omega) (by omega) ⟨by simp only;omega,λ_=>by simp only;omega,by simp,by simp⟩
 rw[ab O];by_cases S:v0=4
 ·rw[aa S];exact fin _ _ _ _ _ (by omega) (by omega) ⟨by simp only;omega,by simp,by simp,by simp⟩
 rw[ab S];by_cases T:v0=5
 ·rw[aa T];exact fin _ _ _ _ _ (by omega) (by omega) ⟨by simp only;omega,by simp,by simp,by simp⟩
 rw[ab T];by_cases U:v0=6
 ·rw[aa U];exact fin _ _ _ _ _ (by omega) (by omega) ⟨by simp only;omega,by simp,by simp,by simp⟩
 rw[ab U];exact fin _ _ _ _ _ (by omega) (by omega) ⟨by simp only;omega,by simp,by simp,by simp⟩
theorem Zkl (D:Src l) (k:Nat):∃(it:Itm) (k':Nat),Ng [.vC Aa l,I k]=some (Ah it++[.vC Aa l,I k'])/\k<=k'/\Oth it/\it.aP≠14:=Z5r (H0 D) k
theorem Zkn (h:0<=v/\v<8):∃x,Af (nth .vD (nth [] [[I 2],[I 2],[I 2],[I 3],[I 1],[I 6],[I 5],[I 4]] v.toNat) 0)=x/\1<=x/\x<=6:=by
 have D:v=0\/v=1\/v=2\/v=3\/v=4\/v=5\/v=6\/v=7:=by omega
 rcases D with rfl|rfl|rfl|rfl|rfl|rfl|rfl|rfl<;>exact⟨_,rfl,by decide⟩
theorem Up {l:List Itm} {it:Itm} (h:∀x∈l,x.aP≠14) (E:it.aP≠14):∀x∈l++[it],x.aP≠14:=λx D=>by
 simp only[ba,fa]at D;rcases D with D|rfl
 ·exact h x D
 ·exact E
theorem Zw3 {MM MO ML MN MF:Fn} (V:Ht l MN)
  (hM : ∀ {p : Pt}, bd 100000000 p -> ∀ {aP : Int}, (1 <= aP /\ aP <= 6) -> ∀ k : Nat,
   ∃(it:Itm) (k':Nat),MM [I p.x,I p.y,I p.z,I aP, .vC Aa l,I k]=some (Ah it++[.vC Aa l,I k'])/\k<=k'/\it.fr=p/\it.aP=aP/\Made it/\Gv it)
  (hO:∀k:Nat,∃(it:Itm) (k':Nat),MO [.vC Aa l,I k]=some (Ah it++[.vC Aa l,I k'])/\k<=k'/\Oth it/\it.aP≠14)
  (hL:∀k:Nat,ML [.vC Aa l,I k]=some [B (decide (k<l.length)), .vC Aa l,I k]) {D:Int} {fin:Bool} (hm:D<=100) {p:Pt}:
  ∀s:List Itm×Nat,(Items (4+40*102) p s.1/\bd (4+40*s.1.length) (Fo p s.1)/\(s.1=[]\/s.1.length<=D+1)/\∀it∈s.1,it.aP≠14)->
   ∃o,Am (Qsr MM MO ML MN MF) [.vC Ak (s.1.map Ah),I D,B fin,I (Fo p s.1).x,I (Fo p s.1).y,I (Fo p s.1).z, .vC Aa l,I s.2]=some o/\o.1≠0/\
    ∃aA,o=(1,[.vC Ak (aA.map Ah),B fin])/\Items (4+40*102) p aA/\(aA=[]\/aA.length<=D+1)/\∀it∈aA,it.aP≠14:=by
 refine Qzc (S:=List Itm×Nat) (λs=>[.vC Ak (s.1.map Ah),I D,B fin,I (Fo p s.1).x,I (Fo p s.1).y,I (Fo p s.1).z, .vC Aa l,I s.2]) _ (λs=>l.length-s.2) _ ?_;rintro⟨aA,k⟩ ⟨M,O,X,N⟩;simp only at M O X N;simp only;rw[Z5o];simp only[go_sem,hL,ac];by_cases c1:(aA.length:Int)<D
 case neg=>
  rw[ab c1];exact .inr ⟨_,rfl,by simp,aA,rfl,M,X,N⟩
 rw[aa c1];by_cases Y:k<l.length
 case neg=>
  rw[ab (by simpa using Y)];exact .inr ⟨_,rfl,by simp,aA,rfl,M,X,N⟩
 rw[aa (by simpa using Y)];obtain⟨v,k1,e1,a1,b1,d1,d2,-⟩:=V k (n:=12) (by omega);have d3:=d2 Y;subst d3;simp only[go_sem,e1];have a0:aA.length<100:=by omega
 by_cases c3:v<4
 ·rw[aa c3];obtain⟨it,U,e2,g1,g2,g0⟩:=hO (k+1);have E:=Oz g2;simp only[go_sem,e2,Ah,ay,az];rw[aa (by simp;omega)];left;refine⟨(aA++[it],U),?_,⟨Om M (λh=>absurd h E) (.inr g2),?_, .inr ?_,Up N g0⟩,?_⟩
  ·simp only[JM,ab E,bn,bm,d8,Ah]
  ·simp only[JM,ab E,an,f8];exact Bf O (by omega)
  ·simp only[an,f8];omega
  ·simp only;omega
 ·rw[ab c3,Ae];obtain⟨x,hx,a5,a6⟩:=Zkn (v:=v-4) (by omega);have a2:bd 100000000 (Fo p aA):=Bf O (by omega);obtain⟨it,U,e2,g1,g2,g3,g4,g5⟩:=hM a2 (aP:=x) (by omega) (k+1);have G:AF it:=by unfold AF;omega
  have L:=Qwo g4 (by rw[g2];exact O);rw[aa (by simp;omega)];simp only[go_sem,hx,e2,Ah,ay,az];have J:(AF it/\Made it/\Gv it/\bd (4+40*102) it.fr/\bd (4+40*102) it.to)\/Oth it:= .inl ⟨G,g4,g5,by rw[g2];exact Bf O (by omega),Bf L (by omega)⟩;by_cases c5:it.aP=5
  ·rw[aa c5];obtain⟨v3,k3,e3,a3,b3,d3,-,-⟩:=V U (n:=2) (by omega);obtain⟨v4,k4,e4,a4,b4,d4,-,-⟩:=V k3 (n:=3000) (by omega);simp only[go_sem,e3,e4];rw[Ae (x:=3+v3),Ae (x:=200+v4)];rw[aa (by simp;omega),aa (by simp;omega)];have T:Oth ⟨8,0,⟨0,0,0⟩,⟨0,0,0⟩,0,⟨0,0,0⟩,0,false,0,false,0,0,0,3+v3,200+v4,false⟩:=⟨by simp only;omega,λ_=>by simp only;omega,by simp,by simp⟩;have E:=Oz T;have i1:=Om M (λh=>absurd h E) (.inr T);left;refine⟨(aA++[⟨8,0,⟨0,0,0⟩,⟨0,0,0⟩,0,⟨0,0,0⟩,0,false,0,false,0,0,0,3+v3,200+v4,false⟩]++[it],k4),?_,⟨Om i1 (λ_=>by rw[JM,ab E];exact g2) J,?_, .inr ?_,Up (Up N (by simp only;omega)) (by omega)⟩,?_⟩
   ·simp only[JM,aa G,bn,bm,d8,Ah]
   ·simp only[JM,aa G,an,f8];exact Bf L (by omega)
   ·simp only[an,f8];omega
   ·simp only;omega
  ·rw[ab c5,aa (by simp;omega)];left;refine⟨(aA++[it],U),?_,⟨Om M (λ_=>g2) J,?_, .inr ?_,Up N (by omega)⟩,?_⟩
   ·simp only[JM,aa G,bn,bm,d8,Ah]
   ·simp only[JM,aa G,an,f8];exact Bf L (by omega)
   ·simp only[an,f8];omega
   ·simp only;omega
def Ie:Itm:=⟨14,0,⟨0,0,0⟩,⟨0,0,0⟩,0,⟨0,0,0⟩,0,false,0,false,0,0,0,0,0,false⟩
theorem YJ:Oth Ie:=⟨by simp[Ie],by simp[Ie],by simp[Ie],by simp[Ie]⟩
theorem Z7y {MM MO ML G O:Fn} (J:Ht l G) (V:O [.vC Aa l]=some [.vC Aa l,I 0]) {D:Int} {fin:Bool} (hm:D<=100)
  (X:∀(p:Pt) (k:Nat),bd 4 p->∃aA,N [.vC Ak [],I D,B fin,I p.x,I p.y,I p.z, .vC Aa l,I k]=some (1,[.vC Ak (aA.map Ah),B fin])/\Items 4084 p aA/\(aA=[]\/aA.length<=D+1)/\∀it∈aA,it.aP≠14):
  ∃(p:Pt) (aA:List Itm),Qs4 MM MO ML G O N [.vC Aa l,I D,B fin]=some [.vC Ak ((aA++if fin=true then [Ie]else []).map Ah)]/\Items 4084 p aA/\(aA=[]\/aA.length<=D+1)/\∀it∈aA,it.aP≠14:=by
 obtain⟨L,S,e1,a1,b1,c1,-,-⟩:=J 0 (n:=9) (by omega);obtain⟨T,Y,e2,a2,b2,c2,-,-⟩:=J S (n:=9) (by omega);obtain⟨U,k3,e3,a3,b3,c3,-,-⟩:=J Y (n:=9) (by omega);obtain⟨aA,h1,h2,E,h0⟩:=X ⟨L-4,T-4,U-4⟩ k3 ⟨by simp only;omega,by simp only;omega,by simp only;omega⟩;rw[Zv2];have M:G [I 9, .vC Aa l,I 0]=some [I L, .vC Aa l,I S]:=e1;simp only[go_sem,V,M,e2,e3];rw[Ae (x:=L-4),Ae (x:=T-4),Ae (x:=U-4)];simp only[h1,go_sem];refine⟨_,aA,?_,h2,E,h0⟩;have hlen:aA.length<=101:=by
  rcases E with E|E
  ·rw[E];simp
  ·omega
 cases fin
 ·simp
 ·rw[aa rfl,aa (by simp;omega),aa rfl,bn];rfl
theorem Qoj {A:Nat} {aA:List Itm} (E:A<=1000000) (I:∀it∈aA,(AF it/\Made it/\Gv it/\bd A it.fr/\bd A it.to)\/Oth it):∀(k i:Nat) (last:Int) (p:Pt),i+k=aA.length->Jy p (aA.drop i)->(0<=last->(vE aA last.toNat).to=p)->Hd aA k i last=0
 |0,_,_,_,_,_,_=>rfl
 |k+1,i,last,p,X,h,M=>by
  have D:i<aA.length:=by omega
  have J:=I _ (Zfh D);rw[Sh D]at h;unfold Jy at h;unfold Hd;have N: ¬B6 (vE aA i):=by
   rcases J with⟨O,G,Y,S,T⟩|L
   ·have U:=Z7g G (Bf S E) (Bf T E);have hf:=G.aZ;have hb:=G.bJ;have V:=G.aP;rintro(g|g|⟨-,g|g|g|g⟩|⟨g,-⟩)
    ·omega
    ·omega
    ·exact g U
    ·omega
    ·omega
    ·omega
    ·exact g O
   ·have V:=L.aP;rintro(g|g|⟨g,-⟩|⟨-,g1,g2⟩)
    ·omega
    ·omega
    ·exact Oz L g
    ·have:=L.spin g1;omega
  rw[ab N];by_cases c:AF (vE aA i)
  ·rw[aa c]at h⊢;rw[ab (λg=>g.2 (by rw[M g.1];exact h.1.symm))];exact Qoj E I k (i+1) i _ (by omega) h.2 (λ_=>by rw[aj])
  ·rw[ab c]at h⊢;exact Qoj E I k (i+1) last p (by omega) h M
theorem Q8f {aA:List Itm} (D:A<=1000000) (h:Items A q aA) (E:aA.length<=20000):Du aA=0:=by
 unfold Du;rw[ab];exact Qoj D h.made aA.length 0 (-1) q (by omega) (by rw[f9];exact h.link) (λh=>by omega)
end Go.Bm
namespace Go.Bm
theorem Zls (N:∀{hi lo y:Nat},hi<y->y<w64->lo<w64->M [U hi,U lo,U y]=some [U (((hi*w64+lo)/y:Nat):Int),U (((hi*w64+lo)%y:Nat):Int)])
  {hi lo y:Nat} (E:hi<w64) (G:lo<w64) (D:0<y) (O:y<w64):
  ∃I J:Nat,Qeb M [U hi,U lo,U y]=some [U I,U J,B (decide (0<(hi*w64+lo)%y))]/\I<w64/\J<w64/\I*w64+J=(hi*w64+lo)/y:=by
 have S:=N (hi:=0) (lo:=hi) D O E;rw[jd,fc,show((0:Nat):Int)=0 from rfl]at S;have T:=iq hi D;have V:=N (hi:=hi%y) (lo:=lo) T O G;have e:=gw hi y;have e2:hi*w64+lo=hi%y*w64+lo+hi/y*w64*y:=by
  have:hi*w64=hi/y*w64*y+hi%y*w64:=by
   rw[<-e,Nat.mul_add_mod,Nat.mod_mod];rw[show(y*(hi/y)+hi%y)/y=hi/y from by rw[e]];rw[dh,ff y,iy,ff y,iy]
  omega
 have X:(hi*w64+lo)/y=(hi%y*w64+lo)/y+hi/y*w64:=by rw[e2,Nat.add_mul_div_right _ _ D]
 have Y:(hi*w64+lo)%y=(hi%y*w64+lo)%y:=by rw[e2,Nat.add_mul_mod_self_right]
 have L:(hi%y*w64+lo)/y<w64:=by
  rw[fg D];have:hi%y*w64+w64<=y*w64:=by rw[<-iw];exact bt _ T
  rw[ff w64];omega
 refine⟨hi/y,(hi%y*w64+lo)/y,?_,Nat.lt_of_le_of_lt (i7 _ _) E,L,by rw[X];omega⟩;rw[Zpg];simp only[go_sem,S,V,Y];by_cases c:0<(hi%y*w64+lo)%y
 ·rw[al c,al (show(((hi%y*w64+lo)%y:Nat):Int)>0 by omega)]
 ·rw[am c,am (show¬(((hi%y*w64+lo)%y:Nat):Int)>0 by omega)]
theorem Zvx {A n t:Nat} (D:0<n) (J:t*t<=2*A*(2*A)/n) (L:2*A*(2*A)/n<(t+1)*(t+1)) (down:Bool) {E:Prop} [Decidable E] (M:E↔(2*A*(2*A)%n=0/\t*t=2*A*(2*A)/n)):
  Fj A n down (if t%2=1/\(¬E\/down=false)then t/2+1 else t/2):=by
 have T:2*A*(2*A)=4*(A*A):=by grind
 have G:t*t*n<=2*A*(2*A):=(Nat.le_div_iff_mul_le D).1 J;have U:2*A*(2*A)<(t+1)*(t+1)*n:=(fg D).1 L;have N:(2*A*(2*A)%n=0/\t*t=2*A*(2*A)/n)↔t*t*n=2*A*(2*A):=by
  have hd:=gw (2*A*(2*A)) n;constructor
  ·rintro⟨g1,g2⟩;rw[g2,ff];omega
  ·intro g;rw[<-g];exact⟨Nat.mul_mod_left _ _,(Nat.mul_div_cancel _ D).symm⟩
 have I:=M.trans N;rw[T]at G U I;clear M N J L;generalize V:4*(A*A)=Q at*;unfold Fj;rw[V];rcases Nat.mod_two_eq_zero_or_one t with O|O
 ·rw[ab];obtain⟨m,rfl⟩:∃m,t=2*m:=⟨t/2,by omega⟩;rw[show 2*m/2=m by omega];have h5:(2*m+1)*(2*m+1)*n<=(2*m+1)*(2*m+1)*n:=cx _;refine⟨?_,?_⟩
  ·rcases ez m with S|S
   ·exact .inl S
   ·right;have X:(2*m-1)*(2*m-1)*n<2*m*(2*m)*n:=fd (i6 (by omega)) D;split<;>omega
  ·split<;>omega
 ·obtain⟨m,rfl⟩:∃m,t=2*m+1:=⟨t/2,by omega⟩;rw[show(2*m+1)/2=m by omega];have X:(2*m+1+1)*(2*m+1+1)*n<=(2*(m+1)+1)*(2*(m+1)+1)*n:=RX (by omega);have h7:(2*m-1)*(2*m-1)*n<(2*m+1)*(2*m+1)*n:=fd (i6 (by omega)) D;have Y:2*(m+1)-1=2*m+1:=by omega
  by_cases c: ¬E\/down=false
  ·rw[aa ⟨O,c⟩,Y];refine⟨.inr ?_,?_⟩
   ·cases down
    ·simp only[du,iv];exact G
    ·simp only[dv];rcases c with c|c
     ·exact Nat.lt_of_le_of_ne G λh=>c (I.2 h)
     ·cases c
   ·split<;>omega
  ·have c1:(2*m+1)*(2*m+1)*n=Q:=by
    by_cases g:E
    ·exact I.1 g
    ·exact absurd (.inl g) c
   have c2:down=true:=by
    cases down
    ·exact absurd (.inr rfl) c
    ·rfl
   subst c2;rw[ab (λh=>c h.2)];simp only[dv];exact⟨.inr (by omega),by omega⟩
theorem Zkm {x d:Int}:sgn x d<0↔x*d<0:=by
 rcases UG x d with⟨h,g⟩|⟨h,g⟩|⟨h,g⟩<;>omega
theorem Z5p {E MG MS MR MQ MP MK MZ:Fn} {x d:Int} {n X D N l1 qh T t M l2:Nat} (hX:X<=2147483648) (hD:D<=2147483648) (hn:0<n/\n<=4611686018427387904)
  (z1:MZ [I x]=some [U X]) (z2:MZ [I d]=some [U D]) (hk:MK [I 2]=some [B true]) (a2:MP [U ((2*(X*D):Nat):Int),U ((2*(X*D):Nat):Int)]=some [U N,U l1])
  (a3:MQ [U N,U l1,U n]=some [U qh,U T,B (decide (0<2*(X*D)*(2*(X*D))%n))]) (a4:qh*w64+T=2*(X*D)*(2*(X*D))/n) (a5:T<w64) (a6:MR [U qh,U T]=some [U t]) (a0:t<w64)
  (a7:MP [U t,U t]=some [U M,U l2]) (a8:M*w64+l2=t*t) (a9:l2<w64) (hs:MS [I x,I d]=some [I (sgn x d)])
  (hg:∀(more:Int) (some_ neg:Bool),MG [I 2,I more,B some_,B neg]=some [B (if more>0 then true else if more=0 then !neg else false)])
  (g1:∀{n:Nat},n<9223372036854775808->E [U n,B false]=some [I n,B true]) (g2:∀{n:Nat},n<=9223372036854775808->E [U n,B true]=some [I (-(n:Int)),B true]) {J:Nat}
  (O:t%2=1->(¬(2*(X*D)*(2*(X*D))%n=0/\t*t=2*(X*D)*(2*(X*D))/n)\/ ¬sgn x d<0)->J=t/2+1) (S: ¬(t%2=1/\(¬(2*(X*D)*(2*(X*D))%n=0/\t*t=2*(X*D)*(2*(X*D))/n)\/ ¬sgn x d<0))->J=t/2) (b2:t<=9223372036854775808):
  Ym E MG MS MR MQ MP MK MZ [I x,I d,I n,I 2]=some [I (if sgn x d<0 then-(J:Int)else J),B true]:=by
 have b3:X*D<=2147483648*2147483648:=fv hX hD;have w1:wrap .u64 (2*wrap .u64 ((X:Int)*(D:Int)))=((2*(X*D):Nat):Int):=by
  rw[<-dg,wr (by omega),show(2:Int)*((X*D:Nat):Int)=((2*(X*D):Nat):Int) by omega,wr (by omega)]
 have w2:wrap .u64 (n:Int)=n:=wr (by omega);have w3:((t:Int)).tdiv 2=((t/2:Nat):Int):=Qaf t 2;have w4:wrap .u64 ((t/2:Nat):Int)=((t/2:Nat):Int):=wr (by rw[B8]at a0;omega);have w5:wrap .u64 (((t/2:Nat):Int)+1)=((t/2+1:Nat):Int):=by rw[show((t/2:Nat):Int)+1=((t/2+1:Nat):Int) by omega,wr (by rw[B8]at a0;omega)]
 have w6:((t:Int).tmod 2=1)=(t%2=1):=by
  rw[jh (by omega)];exact propext ⟨by omega,by omega⟩
 have b0:∀(neg:Bool) (k:Nat),k<9223372036854775808->E [U k,B neg]=some [I (if neg=true then-(k:Int)else k),B true]:=by
  intro neg k hk;cases neg
  ·exact g1 hk
  ·exact g2 (by omega)
 have key:∀(neg:Bool) (k:Nat),decide (sgn x d<0)=neg->J=k->k<9223372036854775808->E [U k,B neg]=some [I (if sgn x d<0 then-(J:Int)else J),B true]:=by
  intro neg k N M h3;rw[b0 neg k h3,M];congr 3;by_cases c:sgn x d<0
  ·rw[aa c,aa (by rw[<-N];exact al c)]
  ·rw[ab c,ab (by rw[<-N];simpa using c)]
 have b1:(M=qh/\l2=T)↔t*t=2*(X*D)*(2*(X*D))/n:=by
  rw[<-a8,<-a4];constructor
  ·rintro⟨rfl,rfl⟩;rfl
  ·intro h;have a1:∀p q u v:Nat,u<w64->v<w64->p*w64+u=q*w64+v->p=q/\u=v:=by
    intro p q u v hu hv h;rcases Nat.lt_trichotomy p q with c|c|c
    ·have:=bt w64 (show p+1<=q from c);rw[iw]at this;omega
    ·subst c;exact⟨rfl,by omega⟩
    ·have:=bt w64 (show q+1<=p from c);rw[iw]at this;omega
   exact a1 _ _ _ _ a9 a5 h
 rw[Zjs];simp only[go_sem,z1,z2,hk,w1,w2,a2,a3,a6,hs,a7,w3,w4,w5,hg];rw[ab,ab,ab,ab,ab (by simp)];have L:t/2+1<9223372036854775808:=by omega
 have V:∀k:Nat,J=k->k<9223372036854775808->((E [U (k:Int),B (decide (sgn x d<0))]).bind λo=>some [I (Af (nth .vD o 0)),B (CU (nth .vD o 1))])=some [I (if sgn x d<0 then-(J:Int)else J),B true]:=by
  intro k N M;rw[key _ k rfl N M];rfl
 have e3:((M:Int)=qh/\(l2:Int)=T/\True)=(t*t=2*(X*D)*(2*(X*D))/n):=by
  rw[<-propext b1];exact propext ⟨λh=>⟨by omega,by omega⟩,λh=>⟨by omega,by omega,trivial⟩⟩
 simp only[e3,w6];have Y:((1:Int)>0)=True:=by simp
 have n2:((-1:Int)>0)=False:=by simp
 have n3:((-1:Int)=0)=False:=by simp
 have n4:((0:Int)>0)=False:=by simp
 by_cases cR:2*(X*D)*(2*(X*D))%n=0
 ·rw[ab (show¬0<2*(X*D)*(2*(X*D))%n by omega)];by_cases G:t%2=1
  ·by_cases cE:t*t=2*(X*D)*(2*(X*D))/n
   ·by_cases cn:sgn x d<0
    ·have:=S (λh=>h.2.elim (λg=>g ⟨cR,cE⟩) λg=>g cn);simp only[Y,n2,n3,n4,du,G,cE,not_true_eq_false,dv,iv];rw[ab (by simp[cn])];exact V _ this (by omega)
    ·have:=O G (.inr cn);simp only[Y,n2,n3,n4,du,G,cE,not_true_eq_false,dv,iv];rw[aa (by simp;omega)];exact V _ this L
   ·have:=O G (.inl λg=>cE g.2);simp only[Y,n2,n3,n4,du,G,cE,not_true_eq_false,kx,dv,iv];exact V _ this L
  ·have:=S (λh=>G h.1);simp only[Y,n2,n3,n4,du,G,iv,ite_self];exact V _ this (by omega)
 ·rw[aa (show 0<2*(X*D)*(2*(X*D))%n by omega)];by_cases G:t%2=1
  ·have:=O G (.inl λg=>cR g.1);simp only[Y,n2,n3,n4,du,G,kx,dv];exact V _ this L
  ·have:=S (λh=>G h.1);simp only[Y,n2,n3,n4,du,G,kx,dv,iv];exact V _ this (by omega)
theorem Zz0 {x d:Int} {n:Nat} (M:0<n) (N:0<=d) (E:Fj (x.natAbs*d.natAbs) n (decide (x*d<0)) J):(if x*d<0 then-(J:Int)else J)=Cu x d n:=by
 unfold Cu;rw[jx];by_cases I:x<0
 ·rw[aa I];by_cases L:d=0
  ·subst L;rw[Int.mul_zero,ab];rw[show x.natAbs*(0:Int).natAbs=0 from by simp]at E⊢;have e1:Fj 0 n true 0:=⟨.inl rfl,by simp⟩;rw[SQ e1];obtain⟨G,-⟩:=E;rw[am (by simp)]at G;simp only[du,iv]at G;rcases G with G|G
   ·omega
   ·rcases ez J with O|O
    ·omega
    ·have S:=Nat.mul_pos (Nat.mul_pos (show 0<2*J-1 by omega) (show 0<2*J-1 by omega)) M;omega
  ·have D:x*d<0:=Int.mul_neg_of_neg_of_pos I (by omega);rw[al D]at E;rw[aa D,SQ E]
 ·rw[ab I];have D: ¬x*d<0:=by have:=gq (show 0<=x by omega) N;omega
  rw[am D]at E;rw[ab D,SQ E]
theorem Zc {x d n:Int} (hx:x.natAbs<=2147483648) (hd:0<=d/\d<=2147483648) (hn:0<n/\n<=4611686018427387904):Jf [I x,I d,I n,I 2]=some [I (Cu x d n),B true]:=by
 obtain⟨N,rfl⟩:=cg (show 0<=n by omega);have hD:d.natAbs<=2147483648:=by omega
 have a1:x.natAbs*d.natAbs<=2147483648*2147483648:=fv hx hD;have L:0<N/\N<=4611686018427387904:=by omega
 have O:2*(x.natAbs*d.natAbs)<w64:=by rw[B8];omega
 obtain⟨G,l1,e1,e2,e3⟩:=PM O O;have S:N<w64:=by rw[B8];omega
 have T:G<w64:=by
  have:=Nat.mul_lt_mul'' O O;rw[<-e2]at this;by_cases c:G<w64
  ·exact c
  ·have:=bt w64 (show w64<=G by omega);omega
 obtain⟨qh,ql,q1,q2,q3,U⟩:=Zls (M:=Hl) Zdu T e3 L.1 S;rw[e2]at q1 U;obtain⟨t,r1,V,r3,Y⟩:=Zfz q2 q3;rw[U]at V r3;obtain⟨h2,l2,p1,p2,p3⟩:=PM Y Y;have ht:t<=9223372036854775808:=by
  have k1:t*t<=2*(x.natAbs*d.natAbs)*(2*(x.natAbs*d.natAbs)):=cq V (i7 _ _);have k2:=Nat.mul_self_le_mul_self_iff.1 k1;omega
 have hi:=Zvx L.1 V r3 (decide (x*d<0)) (E:=2*(x.natAbs*d.natAbs)*(2*(x.natAbs*d.natAbs))%N=0/\t*t=2*(x.natAbs*d.natAbs)*(2*(x.natAbs*d.natAbs))/N) Iff.rfl;have J:=Zz0 L.1 hd.1 hi;rw[<-J];have:= @Zkm x d;have a0:∀a:Int,(if x*d<0 then-a else a)=if sgn x d<0 then-a else a:=by
  intro a;by_cases c:x*d<0
  ·rw[aa c,aa (this.2 c)]
  ·rw[ab c,ab (λh=>c (this.1 h))]
 rw[a0];refine Z5p (X:=x.natAbs) (D:=d.natAbs) hx hD L (Jo (by unfold i64;omega)) (Jo (by unfold i64;omega)) (Qk1 (.inr (.inr rfl))) e1 q1 U q3 r1 Y p1 p2 p3 (Zi x d) Zd0 Qhn Qx5 (λG h2=> ?_) (λh=> ?_) ht
 ·rw[aa ⟨G,h2.imp id λh=>am λg=>h (this.2 g)⟩]
 ·rw[ab λg=>h ⟨g.1,g.2.imp id λk g2=>by rw[decide_eq_false_iff_not]at k;exact k (this.1 g2)⟩]
theorem Zbs {a b:Pt} (D:bd 67108864 a) (hb:bd 67108864 b):
    V (V (V (0+V (V (a.x-b.x)*V (a.x-b.x)))+V (V (a.y-b.y)*V (a.y-b.y)))+V (V (a.z-b.z)*V (a.z-b.z)))=sqD a b:=by
  have h:∀x y:Int,x.natAbs<=67108864->y.natAbs<=67108864->0<=(x-y)*(x-y)/\(x-y)*(x-y)<=18014398509481984:=by
    intro x y E G;exact Eg (x:=x-y) (A:=134217728) (by omega)
  have I:=h _ _ D.1 hb.1;have J:=h _ _ D.2.1 hb.2.1;have L:=h _ _ D.2.2 hb.2.2;obtain⟨a1,a2,a3⟩:=D;obtain⟨b1,b2,b3⟩:=hb;rw[Ae (x:=a.x-b.x),Ae (x:=a.y-b.y),Ae (x:=a.z-b.z)];unfold sqD J1 HN;simp only;generalize(a.x-b.x)*(a.x-b.x)=u at*;generalize(a.y-b.y)*(a.y-b.y)=v at*;generalize(a.z-b.z)*(a.z-b.z)=w at*;rw[Ae (x:=u),Ae (x:=0+u),Ae (x:=v),Ae (x:=0+u+v),Ae (x:=w),Ae,Int.zero_add]
theorem Zk4 {a b:Pt} {n:Nat} (E:bd 67108864 a) (hb:bd 67108864 b) (D:sqD a b=n)
    (G:∃r:Nat,M [I n,I 1]=some [I ((if((1:Int)=1/\r*r<n)\/((1:Int)=2/\r*r+r<n)then r+1 else r:Nat):Int),B true]/\r*r<=n/\n<(r+1)*(r+1)):
    XD M [I a.x,I a.y,I a.z,I b.x,I b.y,I b.z]=some [I (AK a b)]:=by
  obtain⟨r,J,L,N⟩:=G;have O:=Q4x L N;rw[Zzy,Zbs E hb,D];simp only[go_sem,J];unfold AK;rw[D,Zfi O];congr 3;by_cases c:r*r<n
  · rw[aa (.inl ⟨trivial,c⟩),aa c]
  · rw[ab (by simp[c]),ab c]
theorem Qfa {a b:Pt} (D:bd 67108864 a) (hb:bd 67108864 b):JO [I a.x,I a.y,I a.z,I b.x,I b.y,I b.z]=some [I (AK a b)]:=by
  have E:=QR a b;have J:=QH D hb (cx _);obtain⟨n,G⟩:=cg E;exact Zk4 D hb G (Qy2 (by omega) (.inl rfl))
theorem Yaa {MO:Fn} {a b:Spk} {u w:Int} (L:okS a) (hb:okS b) (M:u.natAbs<=100000000) (N:w.natAbs<=100000000)
    (O: ¬(u=0/\w=0)->MO [I u,I (hf a.r b.r),I (sq2 u w),I 2]=some [I (Cu u (hf a.r b.r) (sq2 u w)),B true]/\MO [I w,I (hf a.r b.r),I (sq2 u w),I 2]=some [I (Cu w (hf a.r b.r) (sq2 u w)),B true]):
    (bif u == 0 then
      bif w==0 then some [AC.int IntKind.i64 0,AC.int IntKind.i64 0,AC.int IntKind.i64 0,AC.int IntKind.i64 0,AC.bool false]
      else(MO [AC.int IntKind.i64 u,AC.int IntKind.i64 ((V (V (a.r+b.r)+1)).fdiv (2^min (Int.toNat 1) IntKind.i64.bits)),AC.int IntKind.i64 (V (V (u*u)+V (w*w))),AC.int IntKind.i64 2]).bind λD=>
       (MO [AC.int IntKind.i64 w,AC.int IntKind.i64 ((V (V (a.r+b.r)+1)).fdiv (2^min (Int.toNat 1) IntKind.i64.bits)),AC.int IntKind.i64 (V (V (u*u)+V (w*w))),AC.int IntKind.i64 2]).bind λE=>
       some [AC.int IntKind.i64 (Af (nth AC.vD D 0)),AC.int IntKind.i64 (Af (nth AC.vD E 0)),AC.int IntKind.i64 ((V (V (a.r+b.r)+1)).fdiv (2^min (Int.toNat 1) IntKind.i64.bits)),AC.int IntKind.i64 ((V (V (a.h+b.h)+1)).fdiv (2^min (Int.toNat 1) IntKind.i64.bits)),AC.bool true]
     else(MO [AC.int IntKind.i64 u,AC.int IntKind.i64 ((V (V (a.r+b.r)+1)).fdiv (2^min (Int.toNat 1) IntKind.i64.bits)),AC.int IntKind.i64 (V (V (u*u)+V (w*w))),AC.int IntKind.i64 2]).bind λD=>
       (MO [AC.int IntKind.i64 w,AC.int IntKind.i64 ((V (V (a.r+b.r)+1)).fdiv (2^min (Int.toNat 1) IntKind.i64.bits)),AC.int IntKind.i64 (V (V (u*u)+V (w*w))),AC.int IntKind.i64 2]).bind λE=>
       some [AC.int IntKind.i64 (Af (nth AC.vD D 0)),AC.int IntKind.i64 (Af (nth AC.vD E 0)),AC.int IntKind.i64 ((V (V (a.r+b.r)+1)).fdiv (2^min (Int.toNat 1) IntKind.i64.bits)),AC.int IntKind.i64 ((V (V (a.h+b.h)+1)).fdiv (2^min (Int.toNat 1) IntKind.i64.bits)),AC.bool true])=
    some (Dw (Id a b u w)++[B (decide (¬(u=0/\w=0)))]):=by
  have q1:=Eg M;have q2:=Eg N;have e:V (V (u*u)+V (w*w))=sq2 u w:=by
    unfold sq2;generalize u*u=x at*;generalize w*w=y at*;rw[Ae (x:=x),Ae (x:=y),Ae]
  have S:(V (V (a.r+b.r)+1)).fdiv (2^min (Int.toNat 1) IntKind.i64.bits)=hf a.r b.r:=by
    have T:=L.2.2.1;have U:=hb.2.2.1;rw[Ae (x:=a.r+b.r),Ae (x:=a.r+b.r+1),show(2^min (Int.toNat 1) IntKind.i64.bits:Int)=2 from rfl,gk _ (by omega)];rfl
  have X:(V (V (a.h+b.h)+1)).fdiv (2^min (Int.toNat 1) IntKind.i64.bits)=hf a.h b.h:=by
    have T:=L.2.2.2;have U:=hb.2.2.2;rw[Ae (x:=a.h+b.h),Ae (x:=a.h+b.h+1),show(2^min (Int.toNat 1) IntKind.i64.bits:Int)=2 from rfl,gk _ (by omega)];rfl
  simp only[S,X,e];simp only[go_sem];unfold Id;by_cases h:u=0/\w=0
  · rw[aa h.1,aa h.2,aa h]
    simp[h]
  · obtain⟨Y,n2⟩:=O h
    rw[ab h];simp only[Y,n2,go_sem];have hd:decide (¬(u=0/\w=0))=true:=al h;rw[hd];by_cases G:u=0
    · rw[aa G,ab (λJ=>h ⟨G,J⟩)];try rfl
    · rw[ab G];try rfl
theorem Zm0 {a b:Spk} (L:okS a) (hb:okS b) {dir:Int} (E:dir=1\/dir= -1) (bI:Bool)
    (Y:∀{u w:Int},u.natAbs<=100000000->w.natAbs<=100000000-> ¬(u=0/\w=0)->M [I u,I (hf a.r b.r),I (sq2 u w),I 2]=some [I (Cu u (hf a.r b.r) (sq2 u w)),B true]/\M [I w,I (hf a.r b.r),I (sq2 u w),I 2]=some [I (Cu w (hf a.r b.r) (sq2 u w)),B true])
    (hC:Z [I a.u,I a.w,I a.r,I a.h,I b.u,I b.w,I b.r,I b.h]=some [I (crs a.u a.w b.u b.w)]) (hD:W [I a.u,I a.w,I a.r,I a.h,I b.u,I b.w,I b.r,I b.h]=some [I (dt2 a.u a.w b.u b.w)])
    (a0:(crs a.u a.w b.u b.w).natAbs<=5000000000000000):
    Qgl M Z W [I a.u,I a.w,I a.r,I a.h,I b.u,I b.w,I b.r,I b.h,I dir,B bI]=some (Dw (Ft a b dir bI)++[B (decide (¬((DZ a b dir bI).1=0/\(DZ a b dir bI).2=0)))]):=by
  have key:=fun{u w:Int} (S:u.natAbs<=100000000) (T:w.natAbs<=100000000)=>Yaa (MO:=M) (a:=a) (b:=b) L hb S T (Y S T);have G:=Pf L hb E bI;obtain⟨a1,a2,-⟩:=L;obtain⟨b1,b2,-⟩:=hb;have w1:V (0-a.u)= -a.u:=by rw[Ae];omega
  have w2:V (0-a.w)= -a.w:=by rw[Ae];omega
  have w3:V (a.u+b.u)=a.u+b.u:=Ae;have w4:V (a.w+b.w)=a.w+b.w:=Ae;have w5:V (0-(a.u+b.u))= -(a.u+b.u):=by rw[Ae];omega
  have w6:V (0-(a.w+b.w))= -(a.w+b.w):=by rw[Ae];omega
  have w7:V (b.w-a.w)=b.w-a.w:=Ae;have w8:V (a.u-b.u)=a.u-b.u:=Ae;have w9:V (dir*(b.w-a.w))=dir*(b.w-a.w):=by rcases E with rfl|rfl<;>exact Ae
  have N:V (dir*(a.u-b.u))=dir*(a.u-b.u):=by rcases E with rfl|rfl<;>exact Ae
  have O:V (crs a.u a.w b.u b.w*dir)=crs a.u a.w b.u b.w*dir:=by rcases E with rfl|rfl<;>exact Ae
  rw[Zrd];try dsimp only[go_sem]
  unfold Ft;simp only[w1,w2,w3,w4,w5,w6,w7,w8,w9,N,hC,hD,ah,IF,In,gA,jA,wA,bA,O];have fin:∀{x:Option (List AC)},x=some (Dw (Id a b (DZ a b dir bI).1 (DZ a b dir bI).2)++[B (decide (¬((DZ a b dir bI).1=0/\(DZ a b dir bI).2=0)))])->
      (bif dir !=1 then bif dir != -1 then some [AC.int IntKind.i64 0,AC.int IntKind.i64 0,AC.int IntKind.i64 0,AC.int IntKind.i64 0,AC.bool false]else x else x)=some (Dw (Id a b (DZ a b dir bI).1 (DZ a b dir bI).2)++[B (decide (¬((DZ a b dir bI).1=0/\(DZ a b dir bI).2=0)))]):=by
    intro x U;rcases E with rfl|rfl
    · rw[BG (by decide)];exact U
    · rw[BX (by decide),BG (by decide)];exact U
  refine fin ?_;have D:=key G.1 G.2;unfold DZ at*;cases bI
  · simp only[aq,du,iv]at D⊢
    by_cases J:0<dt2 a.u a.w b.u b.w
    · rw[Bi (show¬dt2 a.u a.w b.u b.w<=0 by omega)]
      by_cases X:0<crs a.u a.w b.u b.w*dir
      · rw[Bi (show¬crs a.u a.w b.u b.w*dir<=0 by omega)]
        rw[aa ⟨J,X⟩]at D⊢;exact D
      · rw[Eo (show crs a.u a.w b.u b.w*dir<=0 by omega)]
        rw[ab (λh=>X h.2),aa J]at D⊢;exact D
    · rw[Eo (show dt2 a.u a.w b.u b.w<=0 by omega)]
      rw[ab (λh=>J h.1),ab J]at D⊢;exact D
  · simp only[ai,dv]at D⊢
    exact D
theorem Z8r {u w r:Int} (D:u.natAbs<=100000000) (E:w.natAbs<=100000000) (G:0<=r/\r<=50000000) (h: ¬(u=0/\w=0)):
    Jf [I u,I r,I (sq2 u w),I 2]=some [I (Cu u r (sq2 u w)),B true]/\Jf [I w,I r,I (sq2 u w),I 2]=some [I (Cu w r (sq2 u w)),B true]:=by
  have J:=SV h;have L:=Eg D;have M:=Eg E;have N:sq2 u w<=20000000000000000:=by unfold sq2;omega
  exact⟨Zc (by omega) (by omega) (by omega),Zc (by omega) (by omega) (by omega)⟩
theorem Zny {a b:Spk} (D:okS a) (hb:okS b) {dir:Int} (E:dir=1\/dir= -1) (bI:Bool):
    NK [I a.u,I a.w,I a.r,I a.h,I b.u,I b.w,I b.r,I b.h,I dir,B bI]=some (Dw (Ft a b dir bI)++[B (decide (¬((DZ a b dir bI).1=0/\(DZ a b dir bI).2=0)))]):=by
  have G:=(Q5l D.1 D.2.1 hb.1 hb.2.1).2;exact Zm0 D hb E bI (λJ L h=>Z8r J L (Q63 D.2.2.1 hb.2.2.1) h)
    (Qod (HW D.1) (HW D.2.1) (HW hb.1) (HW hb.2.1)) (Qla (HW D.1) (HW D.2.1) (HW hb.1) (HW hb.2.1)) G
def okT (s:Spk):Prop:=okS s/\ ¬(s.u=0/\s.w=0)/\1<=s.r
theorem Qt8 {a b:Spk} (G: ¬(a.u=0/\a.w=0)) (hb: ¬(b.u=0/\b.w=0)) {dir:Int} (I:dir=1\/dir= -1) (bI:Bool): ¬((DZ a b dir bI).1=0/\(DZ a b dir bI).2=0):=by
  have J:=SV G;unfold sq2 at J;unfold DZ;split
  · simp only;omega
  · rename_i hf
    have key:0<dt2 a.u a.w b.u b.w-> ¬(a.u+b.u=0/\a.w+b.w=0):=by
      intro E ⟨L,M⟩;have e1:b.u= -a.u:=by omega
      have e2:b.w= -a.w:=by omega
      unfold dt2 at E;rw[e1,e2,Int.mul_neg,Int.mul_neg]at E;omega
    split
    · rename_i c;exact key c.1
    · split
      · rename_i N D
        have:=key D;simp only;omega
      · rename_i N D
        simp only;rintro⟨L,M⟩;have e1:b.w=a.w/\a.u=b.u:=by rcases I with rfl|rfl<;>omega
        unfold dt2 at D;rw[e1.1,<-e1.2]at D;omega
theorem Z7r {u w r:Int} (E:u.natAbs<=100000000) (G:w.natAbs<=100000000) (O:1<=r/\r<=50000000) (h: ¬(u=0/\w=0)): ¬(Cu u r (sq2 u w)=0/\Cu w r (sq2 u w)=0):=by
  have S:=SV h;have T:=Eg E;have U:=Eg G;have V:sq2 u w<=20000000000000000:=by unfold sq2;omega
  obtain⟨I,J⟩:=Zb3 u w;have key:∀x:Int,x.natAbs<=100000000->x*x<=sq2 u w->Cu x r (sq2 u w)=0->4*(x*x)<=sq2 u w:=by
    intro x L M N;obtain⟨-,-,D⟩:=Un (x:=x) (r:=r) (n:=sq2 u w) (cq L (by decide)) (by omega) (by omega) M;rw[N]at D;obtain⟨-,D⟩:=D;have X:4*(x.natAbs*r.natAbs*(x.natAbs*r.natAbs))<=(sq2 u w).natAbs:=by
      rw[show(0:Int).natAbs=0 from rfl]at D;split at D<;>omega
    have e1:x.natAbs*r.natAbs*(x.natAbs*r.natAbs)=x.natAbs*x.natAbs*(r.natAbs*r.natAbs):=by grind
    have Y:x.natAbs*x.natAbs*1<=x.natAbs*x.natAbs*(r.natAbs*r.natAbs):=Nat.mul_le_mul_left _ (fv (show 1<=r.natAbs by omega) (show 1<=r.natAbs by omega));have e2:((x.natAbs*x.natAbs:Nat):Int)=x*x:=gn;omega
  rintro⟨g1,g2⟩;have k1:=key u E I g1;have k2:=key w G J g2;unfold sq2 at*;omega
theorem Z42 {a b:Spk} (D:okT a) (hb:okT b) {dir:Int} (G:dir=1\/dir= -1) (bI:Bool):okT (Ft a b dir bI):=by
  have I:=Qt8 D.2.1 hb.2.1 G bI;have E:=Pf D.1 hb.1 G bI;have L:=D.1.2.2.1;have M:=hb.1.2.2.1;have N:=D.2.2;have O:=hb.2.2;have J:1<=hf a.r b.r/\hf a.r b.r<=50000000:=by unfold hf;omega
  refine⟨Q04 D.1 hb.1 G bI,?_,?_⟩
  · unfold Ft Id
    rw[ab I];exact Z7r E.1 E.2 J I
  · unfold Ft Id
    rw[ab I];exact J.1
theorem Z15 {r n:Int} (D:0<=r/\r<=50000000):OW [I r,I n]=some [B (decide (n<=32*r-64))]:=by
  unfold OW;rw[Z1w,Ae (x:=8*r),Ae (x:=8*r*4),Ae (x:=8*r*4-64),show 8*r*4-64=32*r-64 by omega]
theorem Zmi {a b:Spk} (G:okS a) (hb:okS b) {dir:Int} (N:dir=1\/dir= -1) (bI:Bool)
    (O:∀{r n:Int},(0<=r/\r<=50000000)->M [I r,I n]=some [B (decide (n<=32*r-64))])
    (S:Z [I a.u,I a.w,I a.r,I a.h,I b.u,I b.w,I b.r,I b.h]=some [I (crs a.u a.w b.u b.w)]) (T:(crs a.u a.w b.u b.w).natAbs<=5000000000000000):
    Qjp M Z [.vC EJ l,I a.u,I a.w,I a.r,I a.h,I b.u,I b.w,I b.r,I b.h,B bI,I dir]=some [.vC EJ l,B (decide (I7 a b dir bI)),I dir]:=by
  have U:0<=mn a.r b.r/\mn a.r b.r<=50000000:=by
    have X:=G.2.2.1;have Y:=hb.2.2.1;unfold mn;split<;>omega
  obtain⟨a1,a2,-⟩:=G;obtain⟨b1,b2,-⟩:=hb;have J:=I8 a1 b1;have L:=I8 a2 b2;have q1:=Eg J;have q2:=Eg L;have e:V (V ((a.u-b.u)*(a.u-b.u))+V ((a.w-b.w)*(a.w-b.w)))=sq2 (a.u-b.u) (a.w-b.w):=by
    unfold sq2;generalize(a.u-b.u)*(a.u-b.u)=x at*;generalize(a.w-b.w)*(a.w-b.w)=y at*;rw[Ae (x:=x),Ae (x:=y),Ae]
  have E:V (crs a.u a.w b.u b.w*dir)=crs a.u a.w b.u b.w*dir:=by rcases N with rfl|rfl<;>exact Ae
  rw[Zka,Ju J (by decide),Ju L (by decide),e];cases bI
  · simp only[Bool.not_false,ai,S,ah,IF,In,gA,jA,wA,bA,E,O U,Qqj]
    by_cases c:0<crs a.u a.w b.u b.w*dir
    · rw[Eo (show crs a.u a.w b.u b.w*dir>0 from c)]
      by_cases D:sq2 (a.u-b.u) (a.w-b.w)<=32*mn a.r b.r-64
      · rw[al D,al (show I7 a b dir false from⟨rfl,c,D⟩)]
      · rw[am D,am (λh:I7 a b dir false=>D h.2.2)]
    · rw[Bi (show¬crs a.u a.w b.u b.w*dir>0 from c),am (λh:I7 a b dir false=>c h.2.1)]
  · simp only[Bool.not_true,aq]
    rw[am (λh:I7 a b dir true=>by cases h.1)]
theorem Ziw {out:Rw} {a b:Spk} (D:okS a) (hb:okS b) {dir:Int} (E:dir=1\/dir= -1) (bI:Bool):
    Md [.vC EJ out,I a.u,I a.w,I a.r,I a.h,I b.u,I b.w,I b.r,I b.h,B bI,I dir]=some [.vC EJ out,B (decide (I7 a b dir bI)),I dir]:=
  Zmi D hb E bI Z15 (Qod (HW D.1) (HW D.2.1) (HW hb.1) (HW hb.2.1)) (Q5l D.1 D.2.1 hb.1 hb.2.1).2
theorem Qsq {dir:Int} (D:dir=1\/dir= -1):∀(n k:Nat) (bI:Bool) (a b:Spk) (out:List Spk),k<=16->k<n->okT a->okT b->out.length+2^k<=1000000->
    O_ n [.vC EJ (out.map Dw),I a.u,I a.w,I a.r,I a.h,I b.u,I b.w,I b.r,I b.h,B bI,I (16-k:Int),I dir]=some [.vC EJ ((out++Ev dir k bI a b).map Dw),I dir]
  |0,k,_,_,_,_,_,J,_,_,_=>by omega
  |n+1,0,bI,a,b,out,_,_,E,hb,L=>by
    show Vx _ _ _ _=_;rw[Quu,Bi (by omega),BX]
    · unfold Ev
      rw[bn];rfl
    · exact gx (by simp only[an,ac,bh,da];omega)
  |n+1,k+1,bI,a,b,out,J,O,E,hb,L=>by
    have G:=Z42 E hb D bI;have M:=Qt8 E.2.1 hb.2.1 D bI;have e3:2^(k+1)=2^k+2^k:=by rw[jr];omega
    have S:0<2^k:=gv _;have T:=(VZ k false a (Ft a b dir bI) (dir:=dir)).2;have i1:=Qsq D n k false a (Ft a b dir bI) out (by omega) (by omega) E G (by omega);have N:=Qsq D n k false (Ft a b dir bI) b (out++Ev dir k false a (Ft a b dir bI)) (by omega) (by omega) G hb (by rw[an];omega);have e1:=Ziw (out:=out.map Dw) E.1 hb.1 D bI;have e2:=Zny E.1 hb.1 D bI;rw[al M]at e2;show Vx (O_ n) NK Md _=_;generalize O_ n=U at*;generalize NK=V at*;generalize Md=X at*;rw[Quu,Eo (by omega),Ae,show(16-((k+1:Nat):Int)+1)=16-(k:Int) by omega];unfold Ev;generalize Ft a b dir bI=m at*;generalize Ev dir k false a m=Y at*;generalize Ev dir k false m b=p2 at*;simp only[ay,az,Dw]at e2;simp only[e1,e2,ah,IF,Nv,My,R1,Qu,In,gA,jA,wA,bA,Qqj,i1,N,Qqy];by_cases c:I7 a b dir bI
    · rw[aa c,BG (by simp[c]),BX]
      · rw[bn];rfl
      · exact gx (by simp only[an,ac,bh,da];omega)
    · rw[ab c,BX (by simp[c]),ai,dk]
theorem Q5j {it:Itm} (D:bd 1048576 it.ce) (E:bd 1048576 q) (G:64<=sq2 (dU it q) (dW it q)):okT (Fg it q):=by
 obtain⟨O,S,I,J⟩:=Rz D E;have e:sq2 (dU it q*16) (dW it q*16)=256*sq2 (dU it q) (dW it q):=by unfold sq2;grind
 refine⟨UZ D E,?_,?_⟩
 ·show¬(dU it q*16=0/\dW it q*16=0);rintro⟨g1,g2⟩;rw[show dU it q=0 by omega,show dW it q=0 by omega]at G;simp[sq2]at G
 ·show 1<=Gm _;obtain⟨n,L⟩:=cg I;rw[L]at J⊢;obtain⟨r,-,M,N,-⟩:=VT (n:=n) (by omega);rw[T1 (Ux M N)];have:1<=r:=by
   rcases ez r with h|h
   ·subst h;omega
   ·exact h
  split<;>omega
theorem Zf7 {n:Nat} (J:n<=2251799813685248):Jw [I n,I 2]=some [I (Gm n),B true]:=by
 obtain⟨r,D,E,G⟩:=Qy2 (n:=n) (mode:=2) (by omega) (.inr rfl);rw[D,T1 (Ux E G)];congr 3;by_cases c:r*r+r<n
 ·rw[aa (.inr ⟨rfl,c⟩),aa c]
 ·rw[ab (by simp;omega),ab c]
theorem Z23 {it:Itm} (L:∃v,S (Ah it)=some [B v]/\(v=true↔Ed it)) (h:Ed it)
  (N:it.aP=3->T (Ah it)=some [I (dU it it.fr*16),I (dW it it.fr*16),I 0,I (plH it.aG it.fr*16),I (dU it it.to*16),I (dW it it.to*16),I 0,I (plH it.aG it.to*16)])
  (G:∀p:Pt,it.aP=3->(p=it.fr\/p=it.to)->W [I (dU it p*16),I (dW it p*16),I 0,I (plH it.aG p*16),I (dU it p*16),I (dW it p*16),I 0,I (plH it.aG p*16)]=some [I (sq2 (dU it p*16) (dW it p*16))])
  (J:∀p:Pt,it.aP=3->(p=it.fr\/p=it.to)->Z [I (sq2 (dU it p*16) (dW it p*16)),I 2]=some [I (Gm (sq2 (dU it p*16) (dW it p*16))),B true])
  (O:it.aP=3->M (.vC EJ [Dw (Fg it it.fr)]::Dw (Fg it it.fr)++Dw (Fg it it.to)++[B it.bI,I 0,I it.dir])=some [.vC EJ ((Es it).map Dw),I it.dir]):
  Qpr M Z W T S (Ah it)=if it.aP=3 then some [.vC EJ ((Es it).map Dw),B true]else some [.vC EJ [],B false]:=by
 obtain⟨v,U,E⟩:=L;rw[Z3g];by_cases D:it.aP=3
 ·have e:=N D;have p:=O D;have V:=G it.fr D (.inl rfl);have X:=G it.to D (.inr rfl);have Y:=J it.fr D (.inl rfl);have q2:=J it.to D (.inr rfl);simp only[ay,az,Fg,Dw]at p;simp only[go_sem,U,e,V,X,Y,q2,p];rw[ab (by simp[D]),ab (by simp[E.2 h]),aa D]
 ·simp only[go_sem];rw[aa D,ab D]
theorem Zhm {it:Itm} (h:Ed it):PJ (Ah it)=if it.aP=3 then some [.vC EJ ((Es it).map Dw),B true]else some [.vC EJ [],B false]:=by
 have hb:it.aP=3->∀p:Pt,(p=it.fr\/p=it.to)->bd 1048576 it.ce/\bd 1048576 p:=by
  intro E p G;obtain⟨-,J,L,M⟩:=h;obtain⟨-,-,D,-⟩:=M E;rcases G with rfl|rfl
  ·exact⟨D,J⟩
  ·exact⟨D,L⟩
 refine Z23 (Qqa it) h (λE=> ?_) (λp E G=> ?_) (λp E G=> ?_) λE=> ?_
 ·obtain⟨-,J,L,M⟩:=h;obtain⟨G,-,D,-⟩:=M E;exact Zei G J L D
 ·obtain⟨D,I⟩:=hb E p G;obtain⟨g1,g2,-⟩:=Rz D I;exact Qla (cq g1 (by decide)) (cq g2 (by decide)) (cq g1 (by decide)) (cq g2 (by decide))
 ·obtain⟨D,I⟩:=hb E p G;obtain⟨-,-,N,O⟩:=Rz D I;obtain⟨n,S⟩:=cg N;rw[S]at O⊢;exact Zf7 (by omega)
 ·obtain⟨-,J,L,M⟩:=h;obtain⟨G,T,D,U,V,-⟩:=M E;have:=Qsq T 20 16 it.bI (Fg it it.fr) (Fg it it.to) [Fg it it.fr] (by omega) (by omega) (Q5j D J U) (Q5j D L V) (show 1+2^16<=1000000 by decide);exact this
theorem Zxj {u w h pl:Int} (E:DB pl):NR [I u,I w,I h,I pl]=some (ptR (spP pl u w h)):=by
 show Qjx Gf _=_;have D:=Qhw pl;generalize Gf=M at*;rw[Zym];rcases E with rfl|rfl|rfl
 ·have e:axI 17=(0,1,2):=rfl;rw[e]at D;rw[D];rfl
 ·have e:axI 18=(2,0,1):=rfl;rw[e]at D;rw[D];rfl
 ·have e:axI 19=(1,2,0):=rfl;rw[e]at D;rw[D];rfl
theorem Zj9 {α:Type} (pre rest:List α) (x z:α):(pre++x::rest).set pre.length z=(pre++[z])++rest:=by
 rw[List.set_append_right _ _ (cx _),jq];simp
def EV {α:Type} (f:Nat->α) (z:α) (n i:Nat):List α:=(List.range i).map f++List.replicate (n-i) z
theorem Zbf {α:Type} (f:Nat->α) (z:α) {n i:Nat} (h:i<=n):(EV f z n i).length=n:=by unfold EV;simp;omega
theorem Q5x {α:Type} (f:Nat->α) (z:α) {n i:Nat} (h:i<n):(EV f z n i).set i (f i)=EV f z n (i+1):=by
 unfold EV;have e:n-i=(n-(i+1))+1:=by omega
 rw[e,jo];have:=Zj9 ((List.range i).map f) (List.replicate (n-(i+1)) z) z (f i);rw[ac,List.length_range]at this;rw[this,List.range_succ,bn];rfl
theorem Qxr {α:Type} (f:Nat->α) (z:α) (n:Nat):EV f z n n=(List.range n).map f:=by unfold EV;simp
theorem Zj6 {α:Type} (l:List α) (d:α):(List.range l.length).map (λi=>l.getD i d)=l:=by
 apply List.ext_getElem
 ·simp
 ·intro i E D;simp[D]
def Ks:Spk:=⟨0,0,0,0⟩
theorem Qxk {MS MP MF MK MV:Fn} {it:Itm} {l:List Spk} {cu cw:Int} (S:l.length<=65537) (L:cu.natAbs<=16777216) (M:cw.natAbs<=16777216) (G:∀s∈l,okS s)
  (O:∀{u w h:Int},MS [I u,I w,I h,I it.aG]=some (ptR (spP it.aG u w h))) {f:Nat->List AC} (hf:∀i,f i=ptR (spP it.aG (cu+(l.getD i Ks).u) (cw+(l.getD i Ks).w) (l.getD i Ks).h)):
  ∀(k i:Nat),i+k=l.length->Am (O2 MS MP MF MK MV) (.vC kPt (EV f [I 0,I 0,I 0] l.length i)::I cu::I cw:: .vC EJ (l.map Dw)::I l.length::I i::Ah it)=
   some (1,[.vC kPt ((List.range l.length).map f)])
 |0,i,T=>by
  refine Bg ?_ (by simp);rw[Q4f];simp only[go_sem];rw[ab,show i=l.length by omega,Qxr]
 |k+1,i,T=>by
  have D:i<l.length:=by omega
  have U:O2 MS MP MF MK MV (.vC kPt (EV f [I 0,I 0,I 0] l.length i)::I cu::I cw:: .vC EJ (l.map Dw)::I l.length::I i::Ah it)=
    some (0, .vC kPt (EV f [I 0,I 0,I 0] l.length (i+1))::I cu::I cw:: .vC EJ (l.map Dw)::I l.length::I (i+1:Nat)::Ah it):=by
   rw[Q4f];have V:nth [] (l.map Dw) i=Dw l[i]:=GK _ _ _ _ D;have X:=G _ (bf D);have N:=Zbf f [I 0,I 0,I 0] (show i<=l.length by omega);have J:=hf i;rw[show l.getD i Ks=l[i] by simp[D]]at J;have E:=Q5x f [I 0,I 0,I 0] D;rw[J]at E;generalize l[i]=s at*;obtain⟨s1,s2,-⟩:=X;simp only[go_sem,aj,ac,V];rw[aa,aa,Ae (x:=cu+s.u),Ae (x:=cw+s.w),Ae (x:=(i:Int)+1)];simp only[O,go_sem,N];rw[aa,E];rfl
  rw[BE U];exact Qxk S L M G O hf k (i+1) (by omega)
theorem Zzt {MS E G MK J:Fn} {it:Itm} {S:List Spk} {f:Pt} {u w h:Int} (L:J (Ah it)=some [B true])
  (M:MK (Ah it)=some [.vC EJ (S.map Dw),B true]) (hf:G [I it.ce.x,I it.ce.y,I it.ce.z]=some (ptR f)) (D:E [I f.x,I f.y,I f.z,I it.aG]=some [I u,I w,I h]) (T:S.length<=65537)
  (O:N [.vC kPt (List.replicate S.length [I 0,I 0,I 0]),I u,I w, .vC EJ (S.map Dw),I S.length,I 0,I it.aP,I it.block,I it.fr.x,I it.fr.y,I it.fr.z,I it.to.x,I it.to.y,I it.to.z,I it.aG,I it.ce.x,I it.ce.y,I it.ce.z,I it.dir,B it.bI,I it.aZ,B it.perRev,I it.side,I it.radius,I it.bJ,I it.n,I it.aS,B it.on]=some (1,[.vC kPt l])):
  Vg MS E G MK J N (Ah it)=some [.vC kPt l,B true]:=by
 rw[WP];simp only[go_sem,L,M,hf,D,ac,aj,O];rw[ab (by simp),ab (by simp),aa]
theorem Z8c {D G J MK L:Fn} {it:Itm} (hV:∃v,L (Ah it)=some [B v]/\(v=true↔Ed it)) (h:Ed it)
  (S:MK (Ah it)=if it.aP=3 then some [.vC EJ ((Es it).map Dw),B true]else some [.vC EJ [],B false])
  (T:∀{p:Pt},bd 100000000 p->J [I p.x,I p.y,I p.z]=some (ptR (AE p))) (hP:DB it.aG->∀{p:Pt},G [I p.x,I p.y,I p.z,I it.aG]=some [I (plU it.aG p),I (plW it.aG p),I (plH it.aG p)])
  (hS:DB it.aG->∀{u w h:Int},D [I u,I w,I h,I it.aG]=some (ptR (spP it.aG u w h))):
  Vg D G J MK L (Am (O2 D G J MK L)) (Ah it)=some [.vC kPt ((CV it).map ptR),B true]:=by
 obtain⟨v,hv,U⟩:=hV;rw[WP];have V:=U.2 h;subst V;obtain⟨-,h1,h2,ha⟩:=id h;by_cases E:it.aP=3
 ·obtain⟨hp,hd,hc,-⟩:=ha E;rw[aa E]at S;obtain⟨c1,c2,c3⟩:=Iz (pl:=it.aG) (FW hc);have M:=(Qzq it).2;have X:=Qxk (MS:=D) (MP:=G) (MF:=J) (MK:=MK) (MV:=L) (it:=it) (l:=Es it) (cu:=plU it.aG (AE it.ce)) (cw:=plW it.aG (AE it.ce)) M c1 c2 (Q9o h E) (hS hp)
   (f:=λi=>ptR (J5 it ((Es it).getD i Ks))) (λ_=>rfl) (Es it).length 0 (by omega)
  have O:(List.range (Es it).length).map (λi=>ptR (J5 it ((Es it).getD i Ks)))=((Es it).map (J5 it)).map ptR:=by
   rw[List.map_map]
   conv=>rhs;rw[<-Zj6 (Es it) Ks]
   rw[List.map_map];rfl
  rw[O]at X;have Y:EV (λi=>ptR (J5 it ((Es it).getD i Ks))) [I 0,I 0,I 0] (Es it).length 0=List.replicate (Es it).length [I 0,I 0,I 0]:=by unfold EV;simp
  rw[Y]at X;have hf:=T (Bf hc (by decide));have a0:= @hP hp (AE it.ce);have:=Zzt (MS:=D) (N:=Am (O2 D G J MK L)) hv S hf a0 M X;rw[WP]at this;unfold CV;rw[aa E];exact this
 ·rw[ab E]at S;have f1:=T (Bf h1 (by decide));have f2:=T (Bf h2 (by decide));unfold CV;rw[ab E];simp only[go_sem,hv,S,f1,f2];simp
theorem Z91 {it:Itm} (h:Ed it):QB (Ah it)=some [.vC kPt ((CV it).map ptR),B true]:=
 Z8c (Qqa it) h (Zhm h) Q5o (λD=>Qyl D) (λD=>Zxj D)
theorem Z4a {c a:Pt} (D:bd B24 c) (E:bd B24 a) (G:a≠c) (L:0<=k/\k<=33554432)
  (J:∀{x:Int},x.natAbs<=33554432*4->x*x<=sqD a c->M [I x,I k,I (sqD a c),I 2]=some [I (Cu x k (sqD a c)),B true]/\(Cu x k (sqD a c)).natAbs<=268435456):
  Qso M [I c.x,I c.y,I c.z,I a.x,I a.y,I a.z,I k]=some (ptR (Cd c a k)++[B true]):=by
 obtain⟨T,U,V⟩:=Zbw a c;have N:=I8 E.1 D.1;have O:=I8 E.2.1 D.2.1;have S:=I8 E.2.2 D.2.2;obtain⟨X,b1⟩:=J (x:=a.x-c.x) (cq N (by decide)) T;obtain⟨Y,b2⟩:=J (x:=a.y-c.y) (cq O (by decide)) U;obtain⟨n3,b3⟩:=J (x:=a.z-c.z) (cq S (by decide)) V;have h6: ¬k<0:=Int.not_lt.2 L.1;have h7: ¬k>33554432:=Int.not_lt.2 L.2;rw[Zjn,Zbs (Bf E (by decide)) (Bf D (by decide)),Ju N (by decide),Ju O (by decide),Ju S (by decide)];simp only[go_sem,X,Y,n3];rw[ab (λh=>G (D6.2 ⟨h.1,h.2.1,h.2.2.1⟩)),ab h6,ab h7];rw[Ju (UP D.1 b1) (by decide),Ju (UP D.2.1 b2) (by decide),Ju (UP D.2.2 b3) (by decide)];rfl
theorem ZJ {c a:Pt} {d:Int} (E:bd B24 c) (G:bd B24 a) (D:a≠c) (L:0<=d/\d<=33554432):
  Hu [I c.x,I c.y,I c.z,I a.x,I a.y,I a.z,I d]=some (ptR (Cd c a d)++[B true]):=by
 have N:sqD a c≠0:=λh=>D (Qgc.1 h);have O:=QR a c;have S:=QH (Bf G (by decide)) (Bf E (by decide)) (show 67108864<=67108864 by omega);refine Z4a E G D L fun{x} J M=> ?_;obtain⟨-,g2,-⟩:=Un J (r:=d) (by omega) (n:=sqD a c) (by omega) M;exact⟨Zc (cq J (by decide)) (by omega) (by omega),g2⟩
theorem Qxc {p c q:Pt} (D:bd B24 p) (E:bd B24 c) (G:bd B24 q):HB [I p.x,I p.y,I p.z,I c.x,I c.y,I c.z,I q.x,I q.y,I q.z]=some [I (H8 p c q)]:=by
 have hb:=Ztz D E G;have g1:=Eg hb.1;have g2:=Eg hb.2.1;have J:=Eg hb.2.2;unfold HB;unfold bd B24 at D E G;have w:∀u v c:Int,u.natAbs<=16777216->v.natAbs<=16777216->c.natAbs<=16777216->V (V (u+v)-V (2*c))=u-c+(v-c):=by
  intro u v c L M N;rw[Ae (x:=u+v),Ae (x:=2*c),Ae];omega
 rw[Z1g,w _ _ _ D.1 G.1 E.1,w _ _ _ D.2.1 G.2.1 E.2.1,w _ _ _ D.2.2 G.2.2 E.2.2];have e1:p.x-c.x+(q.x-c.x)=(GX p c q).x:=rfl;have e2:p.y-c.y+(q.y-c.y)=(GX p c q).y:=rfl;have e3:p.z-c.z+(q.z-c.z)=(GX p c q).z:=rfl;rw[e1,e2,e3];unfold H8 J1;generalize(GX p c q).x*(GX p c q).x=u at*;generalize(GX p c q).y*(GX p c q).y=v at*;generalize(GX p c q).z*(GX p c q).z=w at*;rw[Ae (x:=u),Ae (x:=0+u),Ae (x:=v),Ae (x:=0+u+v),Ae (x:=w),Ae,Int.zero_add]
open Classical in
theorem Zv1 {a c b:Pt} {D d e bit:Int} (S:bd B24 a) (T:bd B24 c) (hb:bd B24 b) (E:a≠c) (G:b≠c) (N:0<=D/\D<=16000) (hd:0<=d/\d+e<=33554432) (he:0<e) (J:e.fdiv (2^min (Int.toNat 1) IntKind.i64.bits)=bit)
  (l3:0<=AK a c/\AK a c<=268435456) (l4:0<=AK c b/\AK c b<=268435456)
  (U:∀{a:Pt} {d:Int},bd B24 a->a≠c->0<=d/\d<=33554432->Z [I c.x,I c.y,I c.z,I a.x,I a.y,I a.z,I d]=some (ptR (Cd c a d)++[B true]))
  (Y:∀{p q:Pt},bd B24 p->bd B24 q->M [I p.x,I p.y,I p.z,I c.x,I c.y,I c.z,I q.x,I q.y,I q.z]=some [I (H8 p c q)]):
  OH M Z W [I D,I (mn (AK a c) (AK c b)-2),I d,I e,I a.x,I a.y,I a.z,I c.x,I c.y,I c.z,I b.x,I b.y,I b.z]=
   some (0,[I D,I (mn (AK a c) (AK c b)-2),I (if HO a c b D (d+e)then d+e else d),I bit,I a.x,I a.y,I a.z,I c.x,I c.y,I c.z,I b.x,I b.y,I b.z]):=by
 obtain⟨m1,m2⟩:=V2 (AK a c) (AK c b);have a0:0<=16*D*D/\16*D*D<=4096000000:=by
  have:=f6 (show 16*D<=256000 by omega) N.2 N.1 (by omega);exact⟨gq (by omega) N.1,by omega⟩
 rw[Q8h,J,Ae (x:=d+e),Eo he,Ae (x:=16*D),Ae (x:=16*D*D)];by_cases h:d+e>mn (AK a c) (AK c b)-2
 ·rw[Eo h,ab (λO:HO a c b D (d+e)=>by have:=O.1;omega)]
 ·rw[Bi h];have k1:bd B24 (Cd c a (d+e)):=LB T S E (by omega);have k2:bd B24 (Cd c b (d+e)):=LB T hb G (by rw[Ub b c];omega);have V:=U (d:=d+e) S E (by omega);have X:=U (d:=d+e) hb G (by omega);simp only[ay,az,ptR]at V X;simp only[V,X,go_sem,Y k1 k2];by_cases L:H8 (Cd c a (d+e)) c (Cd c b (d+e))<=16*D*D
  ·rw[aa L,aa (show HO a c b D (d+e)from⟨by omega,L⟩)]
  ·rw[ab L,ab (λO:HO a c b D (d+e)=>L O.2)]
open Classical in
theorem Qvr {J L M:Fn} {a c b:Pt} {D m:Int}
  (E : ∀ {d e bit : Int}, 0 <= d /\ d + e <= 33554432 -> 0 < e -> e.fdiv (2 ^ min (Int.toNat 1) IntKind.i64.bits) = bit -> OH J L M [I D, I m, I d, I e, I a.x, I a.y, I a.z, I c.x, I c.y, I c.z, I b.x, I b.y, I b.z] =
   some (0,[I D,I m,I (if HO a c b D (d+e)then d+e else d),I bit,I a.x,I a.y,I a.z,I c.x,I c.y,I c.z,I b.x,I b.y,I b.z])):
  ∀(k:Nat) (d:Int),0<=d/\d+((2^(k+1):Nat):Int)<=33554432->
  Am (OH J L M) [I D,I m,I d,I ((2^k:Nat):Int),I a.x,I a.y,I a.z,I c.x,I c.y,I c.z,I b.x,I b.y,I b.z]=some (1,[I (Gt (HO a c b D) k d)])
 |0,d,N=>by
  simp only[fc,Nat.pow_one]at N;have G:∀d:Int,Am (OH J L M) [I D,I m,I d,I 0,I a.x,I a.y,I a.z,I c.x,I c.y,I c.z,I b.x,I b.y,I b.z]=some (1,[I d]):=by
   intro d;refine Bg ?_ (by simp);rw[Q8h];rw[Bi (by omega)]
  have O:=E (d:=d) (e:=1) (by omega) (by omega) Z8p;have e:((2^0:Nat):Int)=1:=rfl;rw[e,BE O,G];rfl
 |k+1,d,N=>by
  have S:0<2^(k+1):=gv _;have e3:2^(k+1+1)=2^(k+1)+2^(k+1):=by rw[jr 2 (k+1)];omega
  rw[e3]at N;have O:=E (d:=d) (e:=((2^(k+1):Nat):Int)) (by omega) (by omega) (Zi7 k);rw[BE O];unfold Gt;refine Qvr E k _ ?_;split<;>omega
theorem Z1n {a c b:Pt}
  (L:M [I a.x,I a.y,I a.z,I c.x,I c.y,I c.z]=some [I (AK a c)]) (O:M [I c.x,I c.y,I c.z,I b.x,I b.y,I b.z]=some [I (AK c b)])
  (T:0<=AK a c/\AK a c<=268435456) (U:0<=AK c b/\AK c b<=268435456)
  (S:a≠c->b≠c->N [I k,I (mn (AK a c) (AK c b)-2),I 0,I 16777216,I a.x,I a.y,I a.z,I c.x,I c.y,I c.z,I b.x,I b.y,I b.z]=some (1,[I (Gt (HO a c b k) 24 0)])):
  Qoq Z W M N [I a.x,I a.y,I a.z,I c.x,I c.y,I c.z,I b.x,I b.y,I b.z,I k]=some [I (DQ a c b k)]:=by
 rw[Zpe];have m3:0<=mn (AK a c) (AK c b)/\mn (AK a c) (AK c b)<=268435456:=by unfold mn;split<;>omega
 unfold DQ;by_cases G:a=c
 ·rw[aa (.inl G)];have D:=D6.1 G;simp only[go_sem];rw[aa ⟨D.1,D.2.1,D.2.2,trivial⟩]
 ·by_cases D:b=c
  ·rw[aa (.inr D)];have E:=D6.1 D;simp only[go_sem];rw[ab (λh=>G (D6.2 ⟨h.1,h.2.1,h.2.2.1⟩)),aa ⟨E.1,E.2.1,E.2.2,trivial⟩]
  ·have J:=S G D;simp only[go_sem,L,O];rw[Ae];simp only[J,go_sem];rw[ab (λh=>G (D6.2 ⟨h.1,h.2.1,h.2.2.1⟩)),ab (λh=>D (D6.2 ⟨h.1,h.2.1,h.2.2.1⟩)),ab (show¬(a=c\/b=c)from λh=>h.elim G D)];by_cases E:Gt (HO a c b k) 24 0<16
   ·rw[aa E,aa E]
   ·rw[ab E,ab E]
theorem Z6k {a c b:Pt} (L:bd B24 a) (G:bd B24 c) (hb:bd B24 b) (M:0<=k/\k<=16000):
  Mx [I a.x,I a.y,I a.z,I c.x,I c.y,I c.z,I b.x,I b.y,I b.z,I k]=some [I (DQ a c b k)]:=by
 have A:=Bf L (show B24<=67108864 by decide);have C:=Bf G (show B24<=67108864 by decide);have D:=Bf hb (show B24<=67108864 by decide);exact Z1n (Qfa A C) (Qfa C D) (I5 A C) (I5 C D)
  λN O=>Qvr (λJ he E=>Zv1 L G hb N O M J he E (I5 A C) (I5 C D) (λhb S J=>ZJ G hb S J) λT U=>Qxc T G U) 24 0 (by decide)
theorem Zsr {p c q:Pt} (S:M [I p.x,I p.y,I p.z,I c.x,I c.y,I c.z,I q.x,I q.y,I q.z]=some [I (H8 p c q)]):
  ∀(k:Nat) (n:Int),KQ n->64<=n*2^k->Am (RB M) [I n,I p.x,I p.y,I p.z,I c.x,I c.y,I c.z,I q.x,I q.y,I q.z]=some (1,[I (LU (H8 p c q) k n)]):=by
 have G:∀n:Int,KQ n->RB M [I n,I p.x,I p.y,I p.z,I c.x,I c.y,I c.z,I q.x,I q.y,I q.z]=if n<64/\H8 p c q>16*n*n*n*n*4*4 then some (0,[I (n*2),I p.x,I p.y,I p.z,I c.x,I c.y,I c.z,I q.x,I q.y,I q.z])else some (1,[I n]):=by
  intro n E;rw[Z6x];simp only[go_sem,S];have N:V (V (V (V (V (V (16*n)*n)*n)*n)*4)*4)=16*n*n*n*n*4*4/\V (n*2)=n*2:=by
   rcases E with rfl|rfl|rfl|rfl|rfl|rfl<;>decide
  rw[N.1,N.2];by_cases J:n<64
  ·rw[aa J];by_cases L:H8 p c q>16*n*n*n*n*4*4
   ·rw[aa L,aa ⟨J,L⟩]
   ·rw[ab L,ab (λh=>L h.2)]
  ·rw[ab J,ab (λh=>J h.1)]
 intro k;induction k with
 |zero=>
  intro n E D;have:n=64:=by rcases E with rfl|rfl|rfl|rfl|rfl|rfl<;>simp at D⊢
  subst this;refine Bg ?_ (by simp);rw[G _ E,ab];rfl
 |succ k T=>
  intro n E D;unfold LU;by_cases h:n<64/\H8 p c q>16*n*n*n*n*4*4
  ·rw[aa h];have O:=G n E;rw[aa h]at O;rw[BE O];refine T (n*2) ?_ ?_
   ·rcases E with rfl|rfl|rfl|rfl|rfl|rfl<;>simp[KQ]at h⊢
   ·rw[Int.pow_succ]at D;rw[Int.mul_assoc,j9 2];exact D
  ·rw[ab h];refine Bg ?_ (by simp);rw[G _ E,ab h]
theorem Z84 {p c q:Pt} (D:bd B24 p) (E:bd B24 c) (G:bd B24 q):Ld [I p.x,I p.y,I p.z,I c.x,I c.y,I c.z,I q.x,I q.y,I q.z]=some [I (Mf p c q)]:=by
 have J:=Zsr (Qxc D E G) 5 2 (.inl rfl) (by decide);show Qb2 _ (Am (RB _)) _=_;generalize HB=M at*;rw[Zn2];simp only[go_sem,J];rfl
theorem Zd6 {α:Type} (d x:α):∀(l:List α) (i:Nat),i<l.length->nth d (l.set i x) i=x
 |a::l,0,_=>rfl
 |a::l,i+1,h=>by simp only[List.set_cons_succ,nth];exact Zd6 d x l i (by simpa using h)
theorem Zv9 {n i p c q:Int} (D:2<=n/\n<=64) (E:0<=i/\i<=n) (G:p.natAbs<=B24) (J:c.natAbs<=B24) (L:q.natAbs<=B24):
  BO [I (V (V (V (V (n-i)*V (n-i))*V (p-c))+V (V (i*i)*V (q-c)))),I 1,I (V (n*n)),I 2]=some [I (BF ((n-i)*(n-i)*(p-c)+i*i*(q-c)) (n*n)),B true]:=by
 have M:0<n*n/\n*n<=4096:=⟨Int.mul_pos (by omega) (by omega),by have:=f6 D.2 D.2 (by omega) (by omega);omega⟩;have N:0<=(n-i)*(n-i)/\(n-i)*(n-i)<=4096:=⟨Gk _,by have:=f6 (show n-i<=64 by omega) (show n-i<=64 by omega) (by omega) (by omega);omega⟩;have O:0<=i*i/\i*i<=4096:=⟨Gk _,by have:=f6 (show i<=64 by omega) (show i<=64 by omega) (by omega) (by omega);omega⟩;unfold B24 at*;rw[Ae (x:=n-i),Ae (x:=(n-i)*(n-i)),Ae (x:=p-c),Ae (x:=i*i),Ae (x:=q-c),Ae (x:=n*n)];have m1:=IH (x:=(n-i)*(n-i)) (y:=p-c) (A:=4096) (B:=33554432) (by omega) (by omega);have m2:=IH (x:=i*i) (y:=q-c) (A:=4096) (B:=33554432) (by omega) (by omega);generalize(n-i)*(n-i)*(p-c)=u at*;generalize i*i*(q-c)=v at*;rw[Ae (x:=u),Ae (x:=v),Ae];have h:=Uv (a:=u+v) (b:=1) (c:=n*n) (by unfold i64;omega) (by unfold i64;omega) (by omega) (by rw[show(1:Int).natAbs=1 from rfl,Nat.mul_one];omega);rw[Int.mul_one]at h;exact h
theorem Q8w {MR MP MT MC:Fn} {p c q:Pt} {N:Nat} (S:2<=N/\N<=64) (E:bd B24 p) (G:bd B24 c) (J:bd B24 q)
  (M:∀{i p c q:Int},(0<=i/\i<=N)->p.natAbs<=B24->c.natAbs<=B24->q.natAbs<=B24->MR [I (V (V (V (V ((N:Int)-i)*V ((N:Int)-i))*V (p-c))+V (V (i*i)*V (q-c)))),I 1,I (V ((N:Int)*(N:Int))),I 2]=some [I (BF (((N:Int)-i)*((N:Int)-i)*(p-c)+i*i*(q-c)) ((N:Int)*(N:Int))),B true])
  {f:Nat->List AC} (hf:∀i:Nat,f i=ptR (O6 N i p c q)):
  ∀(k i:Nat),i+k=N+1->Am (PB MR MP MT MC) [.vC kPt (EV f [I 0,I 0,I 0] (N+1) i),I N,I (N+1:Nat),I i,I c.x,I c.y,I c.z,I p.x,I p.y,I p.z,I q.x,I q.y,I q.z]=
   some (1,[.vC kPt ((List.range (N+1)).map f)])
 |0,i,T=>by
  obtain rfl:i=N+1:=by omega
  refine Bg ?_ (by simp);rw[Quf,Qxr,Bi (by omega)]
 |k+1,i,T=>by
  have b1:=Ov (n:=N) (i:=i) (A:=B24) (by omega) (by omega) E.1 G.1 J.1;have b2:=Ov (n:=N) (i:=i) (A:=B24) (by omega) (by omega) E.2.1 G.2.1 J.2.1;have b3:=Ov (n:=N) (i:=i) (A:=B24) (by omega) (by omega) E.2.2 G.2.2 J.2.2;have U:=M (i:=i) (by omega) E.1 G.1 J.1;have X:=M (i:=i) (by omega) E.2.1 G.2.1 J.2.1;have Y:=M (i:=i) (by omega) E.2.2 G.2.2 J.2.2;have hs:PB MR MP MT MC [.vC kPt (EV f [I 0,I 0,I 0] (N+1) i),I N,I (N+1:Nat),I i,I c.x,I c.y,I c.z,I p.x,I p.y,I p.z,I q.x,I q.y,I q.z]=
    some (0,[.vC kPt (EV f [I 0,I 0,I 0] (N+1) (i+1)),I N,I (N+1:Nat),I (i+1:Nat),I c.x,I c.y,I c.z,I p.x,I p.y,I p.z,I q.x,I q.y,I q.z]):=by
   have hlen:=Zbf f [I 0,I 0,I 0] (show i<=N+1 by omega);have D:=Q5x f [I 0,I 0,I 0] (show i<N+1 by omega);rw[hf i]at D;generalize EV f [I 0,I 0,I 0] (N+1) i=l at*;have L:∀x:List AC,nth [] (l.set i x) i=x:=λx=>Zd6 _ _ _ _ (by omega);rw[Quf];have O:(0:Int)<=(i:Int)/\(i:Int)<((N+1:Nat):Int):=by omega
   simp only[go_sem,U,X,Y,aj,hlen,aa O,List.set_set,L,je];rw[aa];unfold Pk B24 at b1 b2 b3;rw[Ae (x:=c.x+_),Ae (x:=c.y+_),Ae (x:=c.z+_),Ae (x:=(i:Int)+1)];rw[<-D];rfl
  rw[BE hs];exact Q8w S E G J M hf k (i+1) (by omega)
theorem Zvd {a c b:Pt} (G:bd B24 a) (D:bd B24 c) (hb:bd B24 b) (ht:0<=k/\k<=16000):
  Qh [I a.x,I a.y,I a.z,I c.x,I c.y,I c.z,I b.x,I b.y,I b.z,I k]=some [.vC kPt ((GO a c b k).map ptR)]:=by
 show Qm1 _ _ _ _ (Am (PB _ _ _ _)) _=_;have e1:=Z6k G D hb ht;have hR:= @Zv9;generalize Mx=U at*;unfold GO;by_cases h:DQ a c b k=0
 ·rw[aa h];rw[Q5z];simp only[go_sem,e1];rw[aa h];rfl
 ·rw[ab h];obtain⟨X,Y,h3,h4,h5,-⟩:=Qqg h;obtain⟨m1,m2⟩:=V2 (AK a c) (AK c b);have h0: ¬DQ a c b k=0:=h;generalize DQ a c b k=d at*;have J:bd B24 (Cd c a d):=LB D G X (by omega);have M:bd B24 (Cd c b d):=LB D hb Y (by rw[Ub b c];omega);have t1:=ZJ D G X (d:=d) (by omega);have t2:=ZJ D hb Y (d:=d) (by omega);have p1:=Z84 J D M;have p2:=(Xc J D M).2;generalize Mf (Cd c a d) c (Cd c b d)=n at*;obtain⟨N,rfl⟩:∃N:Nat,n=N:=⟨n.toNat,by rcases p2 with rfl|rfl|rfl|rfl|rfl|rfl<;>rfl⟩;have hN:2<=N/\N<=64:=by unfold KQ at p2;omega
  have O:=Q8w (MR:=BO) (MP:=Ld) (MT:=Hu) (MC:=U) hN J D M (λhi hp D hq=>hR (by omega) hi hp D hq) (f:=λi=>ptR (O6 N i (Cd c a d) c (Cd c b d))) (λ_=>rfl) (N+1) 0 (by omega);have S:∀f:Nat->List AC,EV f [I 0,I 0,I 0] (N+1) 0=List.replicate (N+1) [I 0,I 0,I 0]:=λf=>by unfold EV;rw[List.range_zero,d8,az,Nat.sub_zero]
  rw[S]at O;generalize BO=MR at*;generalize Ld=MP at*;generalize Hu=MT at*;generalize Cd c a d=p at*;generalize Cd c b d=q at*;rw[Q5z];simp only[ay,az,ptR]at t1 t2;have E:(List.range (N+1)).map (fun(i:Nat)=>ptR (O6 N i p c q))=((List.range ((N:Int).toNat+1)).map fun(i:Nat)=>O6 N i p c q).map ptR:=by rw[List.map_map,aj];rfl
  rw[E]at O;generalize((List.range ((N:Int).toNat+1)).map fun(i:Nat)=>O6 N i p c q).map ptR=C at*;generalize Am (PB MR MP MT U)=L at*;have T:L [.vC kPt (List.replicate (N+1) [I 0,I 0,I 0]),I N,I (N+1:Nat),I 0,I c.x,I c.y,I c.z,I p.x,I p.y,I p.z,I q.x,I q.y,I q.z]=some (1,[.vC kPt C]):=O;have w1:V ((N:Int)+1)=((N+1:Nat):Int):=by rw[Ae];rfl
  simp only[e1,t1,t2,p1,w1,ah,IF,Nv,My,In,gA,jA,wA,bA,aj,List.length_replicate,Qqy];rw[BG (by simpa using h0),Eo trivial,BX (by simp;omega),T];rfl
end Go.Bm
namespace Go.Bm
open Classical
theorem R2 (k:Int):Eh [I k]=some [B (decide (1<=k/\k<=6))]:=by
 unfold Eh;rw[Yaz];by_cases h:1<=k
 ·rw[Eo (show k>=1 from h)];by_cases D:k<=6
  ·rw[al D,al ⟨h,D⟩]
  ·rw[am D,am λE=>D E.2]
 ·rw[Bi (show¬k>=1 from h),am λE=>h E.1]
theorem Vm (it:Itm):FB (Ah it)=some [B (decide (smI it))]:=by
 unfold FB;rw[Z97];by_cases h:it.aP=2
 ·rw[BX (by simp[h])];congr 2;by_cases E:it.fr=it.to
  ·have D:=D6.1 E;rw[am (λG:smI it=>G.2 E)];simp[D.1,D.2.1,D.2.2]
  ·rw[al (show smI it from⟨h,E⟩)];have D: ¬(it.fr.x=it.to.x/\it.fr.y=it.to.y/\it.fr.z=it.to.z):=λD=>E (D6.2 D);simp only[B,AC.bool.injEq,ig,Bool.and_true];by_cases a:it.fr.x=it.to.x<;>by_cases b:it.fr.y=it.to.y<;>by_cases c:it.fr.z=it.to.z<;>simp[a,b,c]at D⊢
 ·rw[BG (by simp[h]),am (λG:smI it=>h G.1)]
theorem Uc {it:Itm} (D:bd 1048576 it.fr) (E:bd 1048576 it.to):GP (Ah it)=some (ptR (Bu it)):=by
 obtain⟨a1,a2,a3⟩:=D;obtain⟨b1,b2,b3⟩:=E;unfold GP;rw[Zp7,Ae (x:=it.fr.x+it.to.x),Ae (x:=(it.fr.x+it.to.x)*8),Ae (x:=it.fr.y+it.to.y),Ae (x:=(it.fr.y+it.to.y)*8),Ae (x:=it.fr.z+it.to.z),Ae (x:=(it.fr.z+it.to.z)*8)];rfl
theorem Yas (h:bd 100000000 q):Pa [I q.x,I q.y,I q.z]=some (ptR (AE q)):=by
 unfold Pa;rw[Zpk];obtain⟨D,E,G⟩:=h;rw[Ae,Ae,Ae];rfl
theorem Qx9 (it:Itm):Im (Ah it)=some [B (decide (syI it))]:=by
 unfold Im;rw[Zu8];by_cases D:it.aP=5
 ·rw[BX (by simp[D]),al (show syI it from .inl D)]
 ·rw[BG (by simp[D])];by_cases E:it.aP=6
  ·rw[al (show syI it from .inr E)];simp[E]
  ·rw[am (show¬syI it from λh=>h.elim D E)];simp[E]
theorem Zu7 {it:Itm} (hM:Z [I it.aP]=some [B (decide (1<=it.aP/\it.aP<=6))]) (hV:∃v,M (Ah it)=some [B v]/\(v=true↔Ed it)):
  Qkb M Z (Ah it)=some [I (if B6 it then 1 else 0)]:=by
 obtain⟨v,hv,J⟩:=hV;have D:∀{x:Int},(B6 it->x=1)->(¬B6 it->x=0)->some [I x]=some [I (if B6 it then 1 else 0)]:=by
  intro x h1 h2;by_cases c:B6 it
  ·rw[aa c,h1 c]
  ·rw[ab c,h2 c]
 rw[Zr7];simp only[go_sem,hM,hv];unfold B6 AF at D⊢;have one:∀{P:Prop},P->(P->(1:Int)=1)/\(¬P->(1:Int)=0):=λh=>⟨λ_=>rfl,λg=>absurd h g⟩;have zero:∀{P:Prop},¬P->(P->(0:Int)=1)/\(¬P->(0:Int)=0):=λh=>⟨λg=>absurd g h,λ_=>rfl⟩;by_cases L:it.aP<1
 ·rw[aa L];exact D (λ_=>rfl) λg=>absurd (.inl L) g
 rw[ab L];by_cases N:it.aP>14
 ·rw[aa N];exact D (λ_=>rfl) λg=>absurd (.inr (.inl N)) g
 rw[ab N];by_cases E:1<=it.aP/\it.aP<=6
 ·simp only[aa E];have O:it.aP≠8:=by omega
  simp only[ab O];by_cases G:Ed it
  ·rw[ab (by simp[J.2 G])];by_cases S:it.bJ<0
   ·rw[aa S];exact D (λ_=>rfl) λg=>absurd (.inr (.inr (.inl ⟨E, .inr (.inr (.inl S))⟩))) g
   rw[ab S];by_cases T:it.bJ>1000
   ·rw[aa T];exact D (λ_=>rfl) λg=>absurd (.inr (.inr (.inl ⟨E, .inr (.inr (.inr T))⟩))) g
   rw[ab T];by_cases U:it.aP=1
   ·rw[ab (show¬it.aP≠1 by omega)];refine D (λg=> ?_) λ_=>rfl;rcases g with g|g|⟨-,g|g|g|g⟩|g
    ·omega
    ·omega
    ·exact absurd G g
    ·omega
    ·omega
    ·omega
    ·omega
   ·rw[aa U];by_cases V:it.aZ<1
    ·rw[aa V];exact D (λ_=>rfl) λg=>absurd (.inr (.inr (.inl ⟨E, .inr (.inl ⟨U, .inl V⟩)⟩))) g
    rw[ab V];by_cases X:it.aZ>60000000
    ·rw[aa X];exact D (λ_=>rfl) λg=>absurd (.inr (.inr (.inl ⟨E, .inr (.inl ⟨U, .inr X⟩)⟩))) g
    rw[ab X];refine D (λg=> ?_) λ_=>rfl;rcases g with g|g|⟨-,g|g|g|g⟩|g
    ·omega
    ·omega
    ·exact absurd G g
    ·omega
    ·omega
    ·omega
    ·omega
  ·rw[aa (λh=>G (J.1 h))];exact D (λ_=>rfl) λg=>absurd (.inr (.inr (.inl ⟨E, .inl G⟩))) g
 ·simp only[ab E];by_cases G:it.aP=8
  ·rw[aa G];by_cases Y:it.n<3
   ·rw[aa Y];exact D (λ_=>rfl) λg=>absurd (.inr (.inr (.inr ⟨E,G, .inl Y⟩))) g
   rw[ab Y];by_cases d2:it.n>5
   ·rw[aa d2];exact D (λ_=>rfl) λg=>absurd (.inr (.inr (.inr ⟨E,G, .inr (.inl d2)⟩))) g
   rw[ab d2];by_cases d3:it.aS<0
   ·rw[aa d3];exact D (λ_=>rfl) λg=>absurd (.inr (.inr (.inr ⟨E,G, .inr (.inr (.inl d3))⟩))) g
   rw[ab d3];by_cases d4:it.aS>30000
   ·rw[aa d4];exact D (λ_=>rfl) λg=>absurd (.inr (.inr (.inr ⟨E,G, .inr (.inr (.inr d4))⟩))) g
   rw[ab d4];refine D (λg=> ?_) λ_=>rfl;rcases g with g|g|⟨g,-⟩|⟨-,-,g⟩
   ·omega
   ·omega
   ·exact absurd g E
   ·omega
  ·rw[ab G];refine D (λg=> ?_) λ_=>rfl;rcases g with g|g|⟨g,-⟩|⟨-,g,-⟩
   ·omega
   ·omega
   ·exact absurd g E
   ·omega
theorem Z90 (it:Itm):JQ (Ah it)=some [I (if B6 it then 1 else 0)]:=Zu7 (R2 _) (Qqa it)
def Dz:List Itm->Nat->Nat
 |[],k=>k
 |it::l,k=>if it.aP=10 then Dz l (k+1)else k
def DA (aA:List Itm) (i:Nat):Nat:=Dz (aA.drop (i+1)) (i+1)
theorem Qpk:∀(l:List Itm) (k:Nat),k<=Dz l k/\Dz l k<=k+l.length
 |[],k=>by simp[Dz]
 |it::l,k=>by
  unfold Dz;split
  ·have:=Qpk l (k+1);simp;omega
  ·simp
theorem Q3k:∀(l:List Itm) (k:Nat),Ha l k=if Dz l k-k<l.length/\smI (l.getD (Dz l k-k) it0)then(Dz l k:Int)else-1
 |[],k=>by simp[Ha]
 |it::l,k=>by
  have I:=Qpk l (k+1);by_cases D:it.aP=10
  ·have e1:Ha (it::l) k=Ha l (k+1):=by rw[Ha,aa D]
   have e2:Dz (it::l) k=Dz l (k+1):=by rw[Dz,aa D]
   rw[e1,e2,Q3k l (k+1)];have e3:Dz l (k+1)-k=(Dz l (k+1)-(k+1))+1:=by omega
   rw[e3,List.getD_cons_succ];by_cases c:Dz l (k+1)-(k+1)<l.length
   ·have G:Dz l (k+1)-(k+1)+1<(it::l).length:=by simp;omega
    by_cases E:smI (l.getD (Dz l (k+1)-(k+1)) it0)
    ·rw[aa ⟨c,E⟩,aa ⟨G,E⟩]
    ·rw[ab (λg=>E g.2),ab (λg=>E g.2)]
   ·rw[ab (λg=>c g.1),ab (λg=>c (by have:=g.1;simp at this;omega))]
  ·have e1:Ha (it::l) k=if smI it then(k:Int)else-1:=by rw[Ha,ab D]
   have e2:Dz (it::l) k=k:=by rw[Dz,ab D]
   rw[e1,e2,jq,List.getD_cons_zero];by_cases c:smI it
   ·rw[aa c,aa ⟨by simp,c⟩]
   ·rw[ab c,ab (λg=>c g.2)]
theorem Q4n {aA:List Itm} (L:aA.length<=1000000):∀(k i:Nat),i+k=aA.length->
  Am QG [.vC Ak (aA.map Ah),I i]=some (1,[I (Dz (aA.drop i) i)])
 |0,i,M=>by
  refine Bg ?_ (by simp);rw[Zae];simp only[go_sem,ac];rw[ab,d9 (by omega)];rfl
 |k+1,i,M=>by
  have E:i<aA.length:=by omega
  have N:=F0 E;rw[Sh E];have D:QG [.vC Ak (aA.map Ah),I i]=if(vE aA i).aP=10 then some (0,[.vC Ak (aA.map Ah),I (i+1:Nat)])else some (1,[I i]):=by
   rw[Zae];have J:(0:Int)<=(i:Int)/\(i:Int)<(aA.length:Int):=by omega
   simp only[go_sem,ac,aj,N,aa J];rw[aa,Ae];rfl
  unfold Dz;by_cases G:(vE aA i).aP=10
  ·rw[aa G]at D⊢;rw[BE D];exact Q4n L k (i+1) (by omega)
  ·rw[ab G]at D⊢;exact Bg D (by simp)
theorem Qek {aA:List Itm} (D:aA.length<=1000000) {i:Nat} (E:i<aA.length):F2 [.vC Ak (aA.map Ah),I i]=some [I (DA aA i)]:=by
 show Qgy (Am QG) _=_;have h:=Q4n D (aA.length-(i+1)) (i+1) (by omega);rw[Zsl,Ae,show(i:Int)+1=((i+1:Nat):Int) by omega,h];rfl
theorem Q5g {aA:List Itm}:CA aA i=if smI (vE aA i)/\(vE aA i).bJ≠0/\DA aA i<aA.length/\smI (vE aA (DA aA i))then(DA aA i:Int)else-1:=by
 unfold CA;by_cases h:smI (vE aA i)/\(vE aA i).bJ≠0
 ·rw[aa h,Q3k];have D:=Qpk (aA.drop (i+1)) (i+1);rw[bq]at D;have e:(aA.drop (i+1)).getD (Dz (aA.drop (i+1)) (i+1)-(i+1)) it0=vE aA (DA aA i):=by
   unfold vE;rw[dq,dy,dq];have:i+1+(Dz (aA.drop (i+1)) (i+1)-(i+1))=DA aA i:=by unfold DA;omega
   rw[this]
  rw[e,bq];have e2:Dz (aA.drop (i+1)) (i+1)=DA aA i:=rfl;rw[e2]at D⊢;by_cases c:DA aA i<aA.length/\smI (vE aA (DA aA i))
  ·rw[aa ⟨by omega,c.2⟩,aa ⟨h.1,h.2,c⟩]
  ·rw[ab (λg=>c ⟨by have:=g.1;omega,g.2⟩),ab (λg=>c g.2.2)]
 ·rw[ab h,ab (λg=>h ⟨g.1,g.2.1⟩)]
theorem Z3u {aA:List Itm} (T:∀it,M (Ah it)=some [B (decide (smI it))]) {i:Nat} (V:i<aA.length) (X:Z [.vC Ak (aA.map Ah),I i]=some [I (DA aA i)]):
  Yw M Z [.vC Ak (aA.map Ah),I i]=some [B (decide (0<=CA aA i))]:=by
 have Y:=F0 V;have U:=T (vE aA i);rw[Z2h,Q5g];simp only[Ah]at U;have N:(0:Int)<=(i:Int)/\(i:Int)<(aA.length:Int):=by omega
 simp only[go_sem,ac,aj,Y,U,X,aa N];by_cases G:smI (vE aA i)
 case neg=>rw[ab G,ab (λg=>G g.1)];simp
 rw[aa G];by_cases J:(vE aA i).bJ=0
 ·rw[ab (by simp[J]),ab (λg=>g.2.1 J)];simp
 rw[aa J];by_cases O:DA aA i<aA.length
 ·have S:=F0 O;have D:=T (vE aA (DA aA i));simp only[Ah]at D;have E:(0:Int)<=(DA aA i:Int)/\(DA aA i:Int)<(aA.length:Int):=by omega
  rw[aa,aa E];simp only[go_sem,S,D];by_cases L:smI (vE aA (DA aA i))
  ·rw[al L,aa ⟨G,J,O,L⟩,al (by omega)]
  ·rw[am L,ab (λg=>L g.2.2.2)];simp
 ·rw[ab,ab (λg=>O g.2.2.1)];simp
theorem Qud {aA:List Itm} (E:aA.length<=1000000) {i:Nat} (D:i<aA.length):HT [.vC Ak (aA.map Ah),I i]=some [B (decide (0<=CA aA i))]:=
 Z3u Vm D (Qek E D)
theorem UD {aA:List Itm} (h:0<=CA aA i):CA aA i=DA aA i:=by
 rw[Q5g]at h⊢;split at h
 ·rename_i c;rw[aa c]
 ·omega
theorem Zp3 {a c b:Pt} (E:bd B24 a) (D:bd B24 c) (hb:bd B24 b):(GO a c b k).length%2=1:=by
 unfold GO;by_cases h:DQ a c b k=0
 ·rw[aa h];rfl
 ·rw[ab h];obtain⟨G,I,N,O,S,-⟩:=Qqg h;obtain⟨m1,m2⟩:=V2 (AK a c) (AK c b);generalize DQ a c b k=d at*;have J:bd B24 (Cd c a d):=LB D E G (by omega);have L:bd B24 (Cd c b d):=LB D hb I (by rw[Ub b c];omega);have M:=(Xc J D L).2;generalize Mf (Cd c a d) c (Cd c b d)=n at*;rw[ac,List.length_range];rcases M with rfl|rfl|rfl|rfl|rfl|rfl<;>rfl
theorem Zvt {a b:Itm} {l:List Pt} (L:0<=a.bJ/\a.bJ<=1000) (O:1<=l.length/\l.length<=65) (D:l.length%2=1)
  (E:W (Ah a)=some (ptR (Bu a))) (G:W (Ah b)=some (ptR (Bu b))) (N:Z [I a.to.x,I a.to.y,I a.to.z]=some (ptR (AE a.to)))
  (J:M (ptR (Bu a)++ptR (AE a.to)++ptR (Bu b)++[I (a.bJ*16)])=some [.vC kPt (l.map ptR)]):
  Qj3 M Z W (Ah a++Ah b)=some [.vC kPt ((l.take (l.length/2+1)).map ptR), .vC kPt ((l.drop (l.length/2)).map ptR)]:=by
 simp only[Ah,ay,az]at E G⊢;rw[Yav];simp only[ptR,ay,az]at J;simp only[go_sem,E,G,N];rw[Ae];simp only[J,go_sem,ac];have e:V ((V ((l.length:Int)-1)).tdiv 2)=((l.length/2:Nat):Int):=by
  rw[Ae (x:=(l.length:Int)-1),ap (by omega),Ae];omega
 have e2:V (((l.length/2:Nat):Int)+1)=((l.length/2+1:Nat):Int):=by rw[Ae];omega
 simp only[e,e2,aj];rw[aa,aa,List.map_take,ld]
theorem Zom {a b:Itm} (D:drawn a) (E:drawn b):
  R3 (Ah a++Ah b)=some [.vC kPt (((GO (Bu a) (AE a.to) (Bu b) (a.bJ*16)).take ((GO (Bu a) (AE a.to) (Bu b) (a.bJ*16)).length/2+1)).map ptR), .vC kPt (((GO (Bu a) (AE a.to) (Bu b) (a.bJ*16)).drop ((GO (Bu a) (AE a.to) (Bu b) (a.bJ*16)).length/2)).map ptR)]:=
 have G:=L5 D.1.2.1 D.1.2.2.1;have I:=FW D.1.2.2.1;have J:=L5 E.1.2.1 E.1.2.2.1
 Zvt D.2 (Q22 G I J).2 (Zp3 G I J) (Uc D.1.2.1 D.1.2.2.1) (Uc E.1.2.1 E.1.2.2.1) (Yas (Bf D.1.2.2.1 (by decide))) (Zvd G I J (by have:=D.2;omega))
theorem Z0g {MM MN MS MC T MK:Fn} {aA:List Itm} (hi:i<aA.length) (S:drawn (vE aA i)) (hf:Ne aA i a) (L:∀k<aA.length,AF (vE aA k)->drawn (vE aA k))
  (hK:MK (Ah (vE aA i))=some [.vC kPt ((CV (vE aA i)).map ptR),B true]) (hM:T (Ah (vE aA i))=some [B (decide (smI (vE aA i)))])
  (hJ:∀{i k:Nat},i<aA.length->k<aA.length->drawn (vE aA i)->drawn (vE aA k)->MC (Ah (vE aA i)++Ah (vE aA k))=some [.vC kPt (((Ig aA i k).take ((Ig aA i k).length/2+1)).map ptR), .vC kPt (((Ig aA i k).drop ((Ig aA i k).length/2)).map ptR)])
  (hS:MS [.vC Ak (aA.map Ah),I i]=some [B (decide (0<=CA aA i))]) (hN:MN [.vC Ak (aA.map Ah),I i]=some [I (DA aA i)]) (hC:MM (Ah (vE aA i))=some (ptR (Bu (vE aA i)))):
  XE MM MN MS MC T MK [.vC Ak (aA.map Ah),I i,I a]=some [.vC kPt ((C3 aA i a).map ptR)]:=by
 have r1:=F0 hi;obtain⟨a4,a5⟩:=Q0x (vE aA i);rw[Zox];simp only[Ah,ay,az]at hK hM hC hJ;have a1:(0:Int)<=(i:Int)/\(i:Int)<(aA.length:Int):=by omega
 simp only[go_sem,ac,aj,r1,hK,hM,hC,hS,hN,az,aa a1];unfold C3;by_cases U:smI (vE aA i)
 case neg=>rw[aa (by simp[U]),ab U]
 rw[ab (by simp[U]),aa U];have a2:(vE aA i).aP≠3:=by have:=U.1;omega
 have M:(CV (vE aA i)).length=2:=by unfold CV;rw[ab a2];rfl
 have w1:V (((CV (vE aA i)).length:Int)-1)=1:=by rw[M];rfl
 rw[w1,M,aa,aa];unfold NB;rcases hf with rfl|⟨f,rfl,X,Y⟩
 ·rw[ab (show¬(-1:Int)>=0 by omega)];unfold JN;rw[ab (show¬(0:Int)<= -1 by omega)];by_cases D:0<=CA aA i
  ·obtain⟨k,hk,E,G⟩:=V8 L D;have N:=UD D;rw[hk]at N;have O:DA aA i=k:=by omega
   obtain⟨j1,j2,j3⟩:=Ma (aA:=aA) (i:=i) (k:=k) S G;have hj:=hJ hi E S G;have r2:=F0 E;have J:(0:Int)<=(k:Int)/\(k:Int)<(aA.length:Int):=by omega
   rw[aa D,aa D,hk,O,aj,aa J];simp only[go_sem,aj,r2,hj];rw[aa (by simp[Tg];omega),aa (by simp;omega),aa (by simp;omega)];simp only[Tg,bn,bm,d8]
  ·rw[ab D,ab D,aa (by simp[Tg];omega),aa (by simp;omega),aa (by simp;omega)];simp only[Tg,Q7i,bn,bm,d8]
 ·have a3:=hJ X hi Y S;obtain⟨f1,f2,f3⟩:=Ma (aA:=aA) (i:=f) (k:=i) Y S;have rf:=F0 X;have a0:(0:Int)<=(f:Int)/\(f:Int)<(aA.length:Int):=by omega
  rw[aa (show(f:Int)>=0 by omega),aa a0];unfold JN;rw[aa (show(0:Int)<=(f:Int) by omega),aj];simp only[rf,go_sem,a3,aj];by_cases D:0<=CA aA i
  ·obtain⟨k,hk,E,G⟩:=V8 L D;have N:=UD D;rw[hk]at N;have O:DA aA i=k:=by omega
   obtain⟨j1,j2,j3⟩:=Ma (aA:=aA) (i:=i) (k:=k) S G;have hj:=hJ hi E S G;have r2:=F0 E;have J:(0:Int)<=(k:Int)/\(k:Int)<(aA.length:Int):=by omega
   rw[aa D,aa D,hk,O,aj,aa J];simp only[go_sem,aj,r2,hj];rw[aa (by simp;omega),aa (by simp;omega),aa (by simp;omega)];simp only[bn,bm,d8]
  ·rw[ab D,ab D,aa (by simp;omega),aa (by simp;omega),aa (by simp;omega)];simp only[Q7i,bn,bm,d8]
theorem Zwj {aA:List Itm} (J:aA.length<=1000000) {i:Nat} {frm:Int} (G:i<aA.length) (E:drawn (vE aA i)) (hf:Ne aA i frm) (D:∀k<aA.length,AF (vE aA k)->drawn (vE aA k)):
  NW [.vC Ak (aA.map Ah),I i,I frm]=some [.vC kPt ((C3 aA i frm).map ptR)]:=
 Z0g G E hf D (Z91 E.1) (Vm _) (λN O L M=>Zom L M) (Qud J G) (Qek J G) (Uc E.1.2.1 E.1.2.2.1)
theorem Q2o {L M:Fn} {l:List Itm} (S:∀k:Int,L [I k]=some [B (decide (1<=k/\k<=6))]) (T:∀it,M (Ah it)=some [B (decide (syI it))]) (V:l.length<=1000000):∀(k i:Nat),i+k=l.length->
  (Am (LT L M) [.vC Ak (l.map Ah),I l.length,I i]=some (1,[B (decide (Fk (l.drop i)=1))]))\/(Am (LT L M) [.vC Ak (l.map Ah),I l.length,I i]=some (2,[])/\Fk (l.drop i)=2)
 |0,i,X=>by
  right;refine⟨Bg ?_ (by simp),by rw[d9 (by omega)];rfl⟩;rw[Q0p];simp only[go_sem];rw[ab]
 |k+1,i,X=>by
  have G:i<l.length:=by omega
  have Y:=F0 G;rw[Sh G];have U:=T (vE l i);have hm:=S (vE l i).aP;have D:LT L M [.vC Ak (l.map Ah),I l.length,I i]=if AF (vE l i)then some (1,[B (decide (syI (vE l i)))])else some (0,[.vC Ak (l.map Ah),I l.length,I (i+1:Nat)]):=by
   rw[Q0p];simp only[Ah]at U;have O:(0:Int)<=(i:Int)/\(i:Int)<(l.length:Int):=by omega
   simp only[go_sem,ac,aj,Y,U,hm,aa O];rw[aa,Ae];by_cases N:AF (vE l i)
   ·rw[aa (show 1<=(vE l i).aP/\(vE l i).aP<=6 from N),aa N]
   ·rw[ab (show¬(1<=(vE l i).aP/\(vE l i).aP<=6)from N),ab N];rfl
  unfold Fk;by_cases J:AF (vE l i)
  ·rw[aa J]at D⊢;left;rw[Bg D (by simp)];by_cases E:syI (vE l i)
   ·rw[aa E,al E];rfl
   ·rw[ab E,am E];rfl
  ·rw[ab J]at D⊢;rw[BE D];exact Q2o S T V k (i+1) (by omega)
def JC (aA:List Itm) (i:Nat):Prop:=(vE aA i).bJ=0\/syI (vE aA i)\/Fk (aA.drop (i+1))=1
theorem Z4g {aA:List Itm} (Y:∀k:Int,M [I k]=some [B (decide (1<=k/\k<=6))]) (U:∀it,Z (Ah it)=some [B (decide (syI it))]) (hl:aA.length<=1000000) {i:Nat} (hi:i<aA.length):
  Qry M Z (Am (LT M Z)) [.vC Ak (aA.map Ah),I i]=some [B (decide (JC aA i))]:=by
 have hr:=F0 hi;have X:=U (vE aA i);have E:=Q2o Y U (l:=aA.drop (i+1)) (by rw[bq];omega) (aA.drop (i+1)).length 0 (by omega);rw[f9]at E;rw[Z01];simp only[Ah]at X;have hw:V ((i:Int)+1)=((i+1:Nat):Int):=by rw[Ae];omega
 have S:(0:Int)<=(i:Int)/\(i:Int)<(aA.length:Int):=by omega
 have G:(0:Int)<=((i+1:Nat):Int)/\((i+1:Nat):Int)<=(aA.length:Int):=by omega
 have T:(List.drop (i+1) (aA.map Ah)).length=(aA.drop (i+1)).length:=by rw[bq,bq,ac]
 generalize Am (LT M Z)=N at*;simp only[go_sem,ac,aj,hr,X,hw,aa S,aa G,T];rw[<-ld];by_cases J:(vE aA i).bJ=0
 ·rw[aa J,al (show JC aA i from .inl J)]
 ·rw[ab J];by_cases L:syI (vE aA i)
  ·rw[aa L,al (show JC aA i from .inr (.inl L))]
  ·rw[ab L];rcases E with E|⟨E,hn⟩
   ·have D:N [.vC Ak ((aA.drop (i+1)).map Ah),I (aA.drop (i+1)).length,I 0]=some (1,[B (decide (Fk (aA.drop (i+1))=1))]):=E;simp only[D,go_sem];by_cases O:Fk (aA.drop (i+1))=1
    ·rw[al O,al (show JC aA i from .inr (.inr O))]
    ·rw[am O,am (show¬JC aA i from λh=>h.elim J λh=>h.elim L O)]
   ·have D:N [.vC Ak ((aA.drop (i+1)).map Ah),I (aA.drop (i+1)).length,I 0]=some (2,[]):=E;simp only[D,go_sem];rw[am (show¬JC aA i from λh=>h.elim J λh=>h.elim L λh=>by rw[hn]at h;cases h)];simp
theorem Yaq {aA:List Itm} (D:aA.length<=1000000) {i:Nat} (E:i<aA.length):Sw [.vC Ak (aA.map Ah),I i]=some [B (decide (JC aA i))]:=Z4g R2 Qx9 D E
def Kj (aA:List Itm) (i:Nat):Int:=if AF (vE aA i)then GY aA i else I6 (vE aA i)
theorem Yb5 {aA:List Itm} {aF:Rw} {aD:List Mrk} {b:Bool} (U:i<aA.length) (V:aD.length<=1000000)
  (X:Z [I (vE aA i).aP]=some [B (decide (AF (vE aA i)))]) (Y:M [.vC Ak (aA.map Ah),I i]=some [B (decide (JC aA i))]):
  Qk9 M Z [.vC Ag aF, .vC AN (aD.map Aw), .vC Ak (aA.map Ah),I i,I q.x,I q.y,I q.z,B b,I a,I u,I v]=
   some [.vC Ag aF, .vC AN ((aD++[(⟨a,Kj aA i,i⟩:Mrk)]).map Aw),I q.x,I q.y,I q.z,B b,I a,I u,I v]:=by
 have hr:=F0 U;have O:(0:Int)<=(i:Int)/\(i:Int)<(aA.length:Int):=by omega
 have hb:(aD.length+1)*24<=140737488355328:=by omega
 have e:∀k:Int,aD.map Aw++[[I a,I k,I i]]=(aD++[(⟨a,k,i⟩:Mrk)]).map Aw:=λk=>by rw[bn];rfl
 rw[Ya1];simp only[go_sem,ac,aj,hr,aa O,X,Y,an,bh,da,aa hb];have fin:∀{k:Int},k=Kj aA i->some [AC.vC Ag aF, .vC AN (aD.map Aw++[[I a,I k,I i]]),I q.x,I q.y,I q.z,B b,I a,I u,I v]=some [.vC Ag aF, .vC AN ((aD++[(⟨a,Kj aA i,i⟩:Mrk)]).map Aw),I q.x,I q.y,I q.z,B b,I a,I u,I v]:=by
  intro k hk;rw[e,hk]
 unfold Kj GY I6 at fin⊢;by_cases L:(vE aA i).aP=4
 ·rw[aa L];have D:AF (vE aA i):=⟨by omega,by omega⟩;exact fin (by rw[aa D,aa L])
 ·rw[ab L];by_cases D:AF (vE aA i)
  ·rw[aa D];by_cases J:JC aA i
   ·rw[aa J];refine fin ?_;rw[aa D,ab L];rcases J with h|h|h
    ·rw[aa h]
    ·by_cases N:(vE aA i).bJ=0
     ·rw[aa N]
     ·rw[ab N,aa h]
    ·by_cases N:(vE aA i).bJ=0
     ·rw[aa N]
     ·rw[ab N];by_cases T:syI (vE aA i)
      ·rw[aa T]
      ·rw[ab T,h]
   ·rw[ab J,aa D];refine fin ?_;rw[aa D,ab L,ab (λh=>J (.inl h)),ab (λh=>J (.inr (.inl h)))];have S:∀l:List Itm,Fk l=1\/Fk l=2:=by
     intro l;induction l with
     |nil=>right;rfl
     |cons it l ih=>
      unfold Fk;split
      ·split<;>simp
      ·exact ih
    rcases S (aA.drop (i+1))with h|h
    ·exact absurd (.inr (.inr h)) J
    ·rw[h]
  ·rw[ab D,ab D];by_cases E:(vE aA i).aP=10
   ·rw[aa E];exact fin (by rw[ab D,aa E])
   ·rw[ab E];by_cases G:(vE aA i).aP=13
    ·rw[aa G];exact fin (by rw[ab D,ab E,aa G])
    ·rw[ab G];exact fin (by rw[ab D,ab E,ab G])
theorem Zvi {aA:List Itm} (L:aA.length<=1000000) {i:Nat} {aF:Rw} {aD:List Mrk} {D:Pt} {b:Bool} {len sp E:Int} (J:i<aA.length) (G:aD.length<=1000000):
  JJ [.vC Ag aF, .vC AN (aD.map Aw), .vC Ak (aA.map Ah),I i,I D.x,I D.y,I D.z,B b,I len,I sp,I E]=
   some [.vC Ag aF, .vC AN ((aD++[(⟨len,Kj aA i,i⟩:Mrk)]).map Aw),I D.x,I D.y,I D.z,B b,I len,I sp,I E]:=
 Yb5 J G (R2 _) (Yaq L J)
theorem Zr2 (a:Pt) (aF:List Sgm):aF=[]\/∃l g,aF=l++[g]/\F3 a aF=g.to/\((aF.length:Int)>0)/\nth [] (aF.map Ax) (aF.length-1)=Ax g:=by
 rcases List.eq_nil_or_concat aF with h|⟨l,g,h⟩
 ·exact .inl h
 ·right;rw[List.concat_eq_append]at h;refine⟨l,g,h,?_,?_,?_⟩
  ·rw[h];exact TG g a l
  ·rw[h];simp
  ·have D:aF.length-1<aF.length:=by rw[h];simp
   rw[GK _ _ _ _ D];congr 1;subst h;simp
theorem Zt2 {q g E:Pt} {G aU aZ aX len sp D:Int}:
  T2 M [.vC Ag [], .vC AN l,I q.x,I q.y,I q.z,I g.x,I g.y,I g.z,I G,I aU,I aZ,I aX,I E.x,I E.y,I E.z,B false,I len,I sp,I D]=
   some [.vC Ag [], .vC AN l,I q.x,I q.y,I q.z,B true,I len,I sp,I D]:=by
 rw[Zb0];simp
theorem Zmg {aF:List Sgm} {aD:Rw} {q g D at_:Pt} {U aU aZ aX len sp G:Int} (J:F3 D aF=at_)
  (O:M [I at_.x,I at_.y,I at_.z,I q.x,I q.y,I q.z]=some [I (AK at_ q)]) (hl:0<=AK at_ q/\AK at_ q<=268435456) (hs:aF.length+1<=1048577) (hlen:0<=len/\len<=4000000000000000000):
  T2 M [.vC Ag (aF.map Ax), .vC AN aD,I q.x,I q.y,I q.z,I g.x,I g.y,I g.z,I U,I aU,I aZ,I aX,I D.x,I D.y,I D.z,B true,I len,I sp,I G]=
   some [.vC Ag ((Bc aU aZ aX (aF,len,at_) q).1.map Ax), .vC AN aD,I D.x,I D.y,I D.z,B true,I (Bc aU aZ aX (aF,len,at_) q).2.1,I sp,I G]:=by
 have L:(aF.map Ax++[[I q.x,I q.y,I q.z,I (AK at_ q),I aU,I aZ,I aX]])=(aF++[(⟨q,AK at_ q,aU,aZ,aX⟩:Sgm)]).map Ax:=by rw[bn];rfl
 rw[Zb0];try dsimp only[go_sem]
 rcases Zr2 D aF with h|⟨l,s,X,S,Y,h4⟩
 ·subst h;have N:D=at_:=J;subst N;simp only[d8,da];rw[Bi (by decide),Bool.not_true,aq];by_cases c:q=D
  ·have E:=D6.1 c;rw[BX (by simp[E.1,E.2.1,E.2.2]),show Bc aU aZ aX ([],len,D) q=([],len,D)from aa c];rfl
  ·rw[BG,O]
   ·simp only[ah,IF,In,gA,jA,wA,bA,az,bh,da];rw[BX (by decide),show Bc aU aZ aX ([],len,D) q=([⟨q,AK D q,aU,aZ,aX⟩],len+AK D q,q)from ab c,Ae];rfl
   ·have c2: ¬(q.x=D.x/\q.y=D.y/\q.z=D.z):=λg=>c (D6.2 g);simp only[Bool.and_true,Bool.and_eq_false_iff,beq_eq_false_iff_ne];omega
 ·rw[J]at S;have w1:V ((aF.length:Int)-1)=((aF.length-1:Nat):Int):=by rw[Ae];omega
  have T:(0:Int)<=((aF.length-1:Nat):Int)/\((aF.length-1:Nat):Int)<(aF.length:Int):=by omega
  rw[S]at O L⊢;clear X;simp only[go_sem,ac,w1,aj,h4,aa Y,aa T,O,an,bh,da];rw[ab (by simp)];by_cases c:q=s.to
  ·have E:=D6.1 c;rw[aa ⟨E.1,E.2.1,E.2.2,trivial⟩,show Bc aU aZ aX (aF,len,s.to) q=(aF,len,s.to)from aa c]
  ·rw[ab (λg=>c (D6.2 ⟨g.1,g.2.1,g.2.2.1⟩)),aa,show Bc aU aZ aX (aF,len,s.to) q=(aF++[⟨q,AK s.to q,aU,aZ,aX⟩],len+AK s.to q,q)from ab c,Ae (by rw[<-S]at*;omega),L]
noncomputable def EC (it:Itm) (aU aZ aX:Int) (s:(List Sgm×Int×Pt)×Int) (q:Pt):(List Sgm×Int×Pt)×Int:=
 (Bc aU aZ aX s.1 q,if smI it/\q=Bu it then(Bc aU aZ aX s.1 q).2.1 else s.2)
theorem Qqk {it:Itm} {aU aZ aX:Int}:∀(D:List Pt) (s:(List Sgm×Int×Pt)×Int),(D.foldl (EC it aU aZ aX) s).1=D.foldl (Bc aU aZ aX) s.1
 |[],_=>rfl
 |q::D,s=>by rw[fh,fh,Qqk D];rfl
theorem Quq {X N Y MP MG MR:Fn} {it:Itm} {D:List Pt} (hj:i<D.length) (a0:D.length<=1000000) {aF G:Rw} {aD:Rw} {g M E:Pt} {b b':Bool} {S aU aZ aX len J sp L:Int}
  (hM:N (Ah it)=some [B (decide (smI it))]) (hC:X (Ah it)=some (ptR (Bu it)))
  (hA:Y [.vC Ag aF, .vC AN aD,I D[i].x,I D[i].y,I D[i].z,I g.x,I g.y,I g.z,I S,I aU,I aZ,I aX,I M.x,I M.y,I M.z,B b,I len,I sp,I L]=some [.vC Ag G, .vC AN aD,I E.x,I E.y,I E.z,B b',I J,I sp,I L]):
  Nr X N Y MP MG MR (.vC Ag aF:: .vC AN aD:: .vC kPt (D.map ptR)::I D.length::I i::(Ah it++[I g.x,I g.y,I g.z,I S,I aU,I aZ,I aX,I M.x,I M.y,I M.z,B b,I len,I sp,I L]))=
   some (0, .vC Ag G:: .vC AN aD:: .vC kPt (D.map ptR)::I D.length::I (i+1:Nat)::(Ah it++[I g.x,I g.y,I g.z,I S,I aU,I aZ,I aX,I E.x,I E.y,I E.z,B b',I J,I sp,I (if smI it/\D[i]=Bu it then J else L)])):=by
 have hr:nth [] (D.map ptR) i=ptR D[i]:=GK _ _ _ _ hj;have T:(0:Int)<=(i:Int)/\(i:Int)<(D.length:Int):=by omega
 have hw:V ((i:Int)+1)=((i+1:Nat):Int):=by rw[Ae];omega
 generalize D[i]=q at*;simp only[Ah]at hM hC;simp only[Ah,ay,az];rw[Zfw];simp only[go_sem,ac,aj,hr,aa T,hA,hM,hC,hw];rw[aa];by_cases c:smI it
 ·rw[aa c];by_cases O:q=Bu it
  ·have U:=D6.1 O;rw[aa ⟨U.1,U.2.1,U.2.2,trivial⟩,aa ⟨c,O⟩]
  ·rw[ab (λh=>O (D6.2 ⟨h.1,h.2.1,h.2.2.1⟩)),ab (λh=>O h.2)]
 ·rw[ab c,ab (λh=>c h.1)]
theorem Qhg {X N Y MP MG MR:Fn} {it:Itm} {D:List Pt} (O:D.length<=1000000) {aD:Rw} {g E:Pt} {gl aU aZ aX sp:Int} (T:bd 67108864 E) (J:∀p∈D,bd 67108864 p)
  (hM:N (Ah it)=some [B (decide (smI it))]) (hC:X (Ah it)=some (ptR (Bu it)))
  (hA : ∀ {aF : List Sgm} {q at_ : Pt} {len mid : Int}, F3 E aF = at_ -> bd 67108864 at_ -> bd 67108864 q -> aF.length + 1 <= 1048577 -> (0 <= len /\ len <= 4000000000000000000) ->
   Y [.vC Ag (aF.map Ax), .vC AN aD,I q.x,I q.y,I q.z,I g.x,I g.y,I g.z,I gl,I aU,I aZ,I aX,I E.x,I E.y,I E.z,B true,I len,I sp,I mid]=
   some [.vC Ag ((Bc aU aZ aX (aF,len,at_) q).1.map Ax), .vC AN aD,I E.x,I E.y,I E.z,B true,I (Bc aU aZ aX (aF,len,at_) q).2.1,I sp,I mid]):
  ∀(k j:Nat) (s:List Sgm×Int×Pt) (mid:Int),j+k=D.length->s.1.length+k<=1048576->0<=s.2.1->s.2.1+k*268435456<=4000000000000000000->bd 67108864 s.2.2->F3 E s.1=s.2.2->
  Am (Nr X N Y MP MG MR) (.vC Ag (s.1.map Ax):: .vC AN aD:: .vC kPt (D.map ptR)::I D.length::I j::(Ah it++[I g.x,I g.y,I g.z,I gl,I aU,I aZ,I aX,I E.x,I E.y,I E.z,B true,I s.2.1,I sp,I mid]))=
   some (1,[.vC Ag (((D.drop j).foldl (EC it aU aZ aX) (s,mid)).1.1.map Ax), .vC AN aD,I E.x,I E.y,I E.z,B true,I ((D.drop j).foldl (EC it aU aZ aX) (s,mid)).1.2.1,I sp,I ((D.drop j).foldl (EC it aU aZ aX) (s,mid)).2])
 |0,j,s,mid,hj,_,_,_,_,_=>by
  refine Bg ?_ (by simp);simp only[Ah,ay,az];rw[Zfw,Bi (by omega),d9 (by omega)];rfl
 |k+1,j,s,mid,hj,hs,S,U,G,he=>by
  have L:j<D.length:=by omega
  have V:=J _ (bf L);obtain⟨aF,len,at_⟩:=s;simp only at hs S U G he;have ha:=hA (q:=D[j]) (mid:=mid) he G V (by omega) (by constructor<;>omega);have M:=Quq (MP:=MP) (MG:=MG) (MR:=MR) L O hM hC ha;have hinv:F3 E (Bc aU aZ aX (aF,len,at_) D[j]).1=(Bc aU aZ aX (aF,len,at_) D[j]).2.2/\bd 67108864 (Bc aU aZ aX (aF,len,at_) D[j]).2.2/\
    (Bc aU aZ aX (aF,len,at_) D[j]).1.length<=aF.length+1/\0<=(Bc aU aZ aX (aF,len,at_) D[j]).2.1/\(Bc aU aZ aX (aF,len,at_) D[j]).2.1<=len+268435456:=by
   have hl:=I5 G V;unfold Bc;split
   ·exact⟨he,G,by simp,S,by simp only;omega⟩
   ·refine⟨TG _ _ _,V,by simp,?_,?_⟩<;>simp only<;>omega
  rw[BE M];obtain⟨i1,i2,i3,i4,i5⟩:=hinv;have:=Qhg (MP:=MP) (MG:=MG) (MR:=MR) O T J hM hC hA k (j+1) (Bc aU aZ aX (aF,len,at_) D[j]) (if smI it/\D[j]=Bu it then(Bc aU aZ aX (aF,len,at_) D[j]).2.1 else mid) (by omega) (by omega) i4 (by omega) i2 i1;rw[this,Py D j L,fh];rfl
theorem Zpc {it:Itm} (h:Ed it):∃l,CV it=AE it.fr::l:=by
 unfold CV;by_cases E:it.aP=3
 ·rw[aa E];unfold Es;rw[bm];refine⟨(Ev it.dir 16 it.bI (Fg it it.fr) (Fg it it.to)).map (J5 it),?_⟩;congr 1;obtain⟨D,-,J,-⟩:=h.2.2.2 E;obtain⟨G,I,L⟩:=US it.aG it.ce;unfold J5 Fg;simp only[G,I];unfold dU dW;have e1:plU it.aG it.ce*16+(plU it.aG it.fr-plU it.aG it.ce)*16=plU it.aG it.fr*16:=by omega
  have e2:plW it.aG it.ce*16+(plW it.aG it.fr-plW it.aG it.ce)*16=plW it.aG it.fr*16:=by omega
  rw[e1,e2];unfold spP plU plW plH AE;rcases D with D|D|D<;>rw[D]<;>rfl
 ·rw[ab E];exact⟨_,rfl⟩
theorem Z88 {aA:List Itm} (h:Ed (vE aA i)):∃l,C3 aA i (-1)=AE (vE aA i).fr::l:=by
 obtain⟨l,D⟩:=Zpc h;unfold C3;split
 ·unfold JN;rw[ab,D];exact⟨_,rfl⟩
 ·exact⟨l,D⟩
noncomputable def F8 (aA:List Itm) (i:Nat) (s:BSt) (D:Int):(List Sgm×Int×Pt)×Int:=
 (C3 aA i s.frm).foldl (EC (vE aA i) i (HL (vE aA i) s.aS) (Jl (vE aA i))) ((s.aF,s.len,if s.bK=true then s.at_ else AE (vE aA i).fr),D)
theorem Zel (aA:List Itm) (i:Nat) (s:BSt) (D:Int):(F8 aA i s D).1=Gp aA i s:=by
 unfold F8 Gp;rw[Qqk]
theorem Yao {aA:List Itm} {s:BSt} {aD:Rw} {mid:Int} (hi:i<aA.length) (hlen:aA.length<=15) (hv:Ed (vE aA i)) (G:BOK aA i s) (hinv:BInv s)
  (D:(∀p∈C3 aA i s.frm,bd 67108864 p)/\(C3 aA i s.frm).length<=65537)
  (L:syI (vE aA i)->0<=(vE aA i).aZ/\(vE aA i).aZ<=60000000) (Y:s.bK=false->s.frm= -1)
  (hM:Z (Ah (vE aA i))=some [B (decide (smI (vE aA i)))]) (hC:M (Ah (vE aA i))=some (ptR (Bu (vE aA i))))
  (hG:S (Ah (vE aA i))=some [B (decide (syI (vE aA i)))]) (hR:P (Ah (vE aA i)++[I s.aS])=some [I (HL (vE aA i) s.aS)])
  (hP:T [.vC Ak (aA.map Ah),I i,I s.frm]=some [.vC kPt ((C3 aA i s.frm).map ptR)])
  (hA : ∀ {aF : List Sgm} {q g st at_ : Pt} {gl aU aZ aX len mid : Int}, F3 st aF = at_ -> bd 67108864 at_ -> bd 67108864 q -> aF.length + 1 <= 1048577 -> (0 <= len /\ len <= 4000000000000000000) ->
   W [.vC Ag (aF.map Ax), .vC AN aD,I q.x,I q.y,I q.z,I g.x,I g.y,I g.z,I gl,I aU,I aZ,I aX,I st.x,I st.y,I st.z,B true,I len,I s.aS,I mid]=
   some [.vC Ag ((Bc aU aZ aX (aF,len,at_) q).1.map Ax), .vC AN aD,I st.x,I st.y,I st.z,B true,I (Bc aU aZ aX (aF,len,at_) q).2.1,I s.aS,I mid])
  (a1 : ∀ {q g st : Pt} {gl aU aZ aX len mid : Int}, W [.vC Ag [], .vC AN aD, I q.x, I q.y, I q.z, I g.x, I g.y, I g.z, I gl, I aU, I aZ, I aX, I st.x, I st.y, I st.z, B false, I len, I s.aS, I mid] =
   some [.vC Ag [], .vC AN aD,I q.x,I q.y,I q.z,B true,I len,I s.aS,I mid]):
  Qm9 M Z W T S P (Am (Nr M Z W T S P)) [.vC Ag (s.aF.map Ax), .vC AN aD, .vC Ak (aA.map Ah),I i,I s.frm,I s.aQ.x,I s.aQ.y,I s.aQ.z,B s.bK,I s.len,I s.aS,I mid]=
   some [.vC Ag ((F8 aA i s mid).1.1.map Ax), .vC AN aD,B true,I (if s.bK=true then s.aQ else AE (vE aA i).fr).x,I (if s.bK=true then s.aQ else AE (vE aA i).fr).y,I (if s.bK=true then s.aQ else AE (vE aA i).fr).z,B true,I (F8 aA i s mid).1.2.1,I s.aS,I (F8 aA i s mid).2]:=by
 have hr:=F0 hi;have a2:(0:Int)<=(i:Int)/\(i:Int)<(aA.length:Int):=by omega
 have a5:=G.aF;have O:=G.len
 have U:∀aX aZ:Int,Am (Nr M Z W T S P) (.vC Ag (s.aF.map Ax):: .vC AN aD:: .vC kPt ((C3 aA i s.frm).map ptR)::I (C3 aA i s.frm).length::I (0:Nat)::(Ah (vE aA i)++[I (⟨0,0,0⟩:Pt).x,I (⟨0,0,0⟩:Pt).y,I (⟨0,0,0⟩:Pt).z,I 0,I i,I aZ,I aX,I s.aQ.x,I s.aQ.y,I s.aQ.z,B s.bK,I s.len,I s.aS,I mid]))=
   some (1, [.vC Ag (((C3 aA i s.frm).foldl (EC (vE aA i) i aZ aX) ((s.aF, s.len, if s.bK = true then s.at_ else AE (vE aA i).fr), mid)).1.1.map Ax), .vC AN aD, I (if s.bK = true then s.aQ else AE (vE aA i).fr).x, I (if s.bK = true then s.aQ else AE (vE aA i).fr).y, I (if s.bK = true then s.aQ else AE (vE aA i).fr).z, B true,
    I ((C3 aA i s.frm).foldl (EC (vE aA i) i aZ aX) ((s.aF,s.len,if s.bK=true then s.at_ else AE (vE aA i).fr),mid)).1.2.1,I s.aS,I ((C3 aA i s.frm).foldl (EC (vE aA i) i aZ aX) ((s.aF,s.len,if s.bK=true then s.at_ else AE (vE aA i).fr),mid)).2]):=by
  intro aX aZ;by_cases hb:s.bK=true
  ·obtain⟨g1,g2⟩:=hinv.bK hb;obtain⟨g3,g4,g5⟩:=g2;rw[aa hb,aa hb,hb];have:=Qhg (MP:=T) (MG:=S) (MR:=P) (g:=⟨0,0,0⟩) (gl:=0) (aU:=i) (aZ:=aZ) (aX:=aX) (by omega) g1 D.1 hM hC (λh1 h2 h3 h4 h5=>hA h1 h2 h3 h4 h5) (C3 aA i s.frm).length 0 (s.aF,s.len,s.at_) mid (by omega) (by simp only;omega) O.1 (by simp only;omega) (G.at_ hb) g4;rw[f9]at this;exact this
  ·have V:s.bK=false:=by simpa using hb
   obtain⟨e1,e2,e3⟩:=hinv.empty V;obtain⟨l,hl⟩:=Z88 hv;have a0:bd 67108864 (AE (vE aA i).fr):=Bf (FW hv.2.1) (by decide);rw[ab hb,ab hb,V,e1];rw[Y V,hl]at D⊢;have h0:0<(AE (vE aA i).fr::l).length:=by simp
   have X:=Quq (MP:=T) (MG:=S) (MR:=P) h0 (by omega) hM hC (a1 (q:=AE (vE aA i).fr) (g:=⟨0,0,0⟩) (st:=s.aQ) (gl:=0) (aU:=i) (aZ:=aZ) (aX:=aX) (len:=s.len) (mid:=mid));rw[d8,BE X];have:=Qhg (MP:=T) (MG:=S) (MR:=P) (g:=⟨0,0,0⟩) (gl:=0) (aU:=i) (aZ:=aZ) (aX:=aX) (by omega) a0 D.1 hM hC (λh1 h2 h3 h4 h5=>hA h1 h2 h3 h4 h5) l.length 1 ([],s.len,AE (vE aA i).fr) (if smI (vE aA i)/\AE (vE aA i).fr=Bu (vE aA i)then s.len else mid) (by simp;omega) (by simp only[da];simp at D;omega) O.1 (by simp only;simp at D;omega) a0 rfl;rw[List.drop_succ_cons,f9]at this;rw[fh];have e4:EC (vE aA i) i aZ aX (([],s.len,AE (vE aA i).fr),mid) (AE (vE aA i).fr)=(([],s.len,AE (vE aA i).fr),if smI (vE aA i)/\AE (vE aA i).fr=Bu (vE aA i)then s.len else mid):=by
    unfold EC;rw[show Bc i aZ aX ([],s.len,AE (vE aA i).fr) (AE (vE aA i).fr)=([],s.len,AE (vE aA i).fr)from aa rfl]
   rw[e4];exact this
 have E:∀aX aZ:Int,((C3 aA i s.frm).foldl (EC (vE aA i) i aZ aX) ((s.aF,s.len,if s.bK=true then s.at_ else AE (vE aA i).fr),mid)).1.1.length<=1048576:=by
  intro aX aZ;rw[Qqk];have a3:bd 67108864 (if s.bK=true then s.at_ else AE (vE aA i).fr):=by
   split
   ·rename_i hb;exact G.at_ hb
   ·exact Bf (FW hv.2.1) (by decide)
  have:=(Uo (aU:=i) (aZ:=aZ) (aX:=aX) (C3 aA i s.frm) (s.aF,s.len,if s.bK=true then s.at_ else AE (vE aA i).fr) D.1 a3 O.1).1;simp only at this⊢;omega
 generalize Am (Nr M Z W T S P)=N at*;have J:=λaX aZ=>U aX aZ;simp only[Ah,ay,az]at hG hR J;rw[Yb0];simp only[go_sem,ac,aj,hr,aa a2,hG,hR,hP];have a4:((0:Nat):Int)=0:=rfl;simp only[a4]at J;unfold F8 Jl;by_cases hs:syI (vE aA i)
 ·have hf:=L hs;rw[aa hs];simp only[aa hs];rw[Ae];simp only[J,go_sem,ac];rw[al (show((_:Nat):Int)<=1048576 from by have:=E (mn ((vE aA i).aZ*16) 16777216) (HL (vE aA i) s.aS);omega)]
 ·rw[ab hs];simp only[ab hs];simp only[J,go_sem,ac];rw[al (show((_:Nat):Int)<=1048576 from by have:=E 0 (HL (vE aA i) s.aS);omega)]
end Go.Bm
