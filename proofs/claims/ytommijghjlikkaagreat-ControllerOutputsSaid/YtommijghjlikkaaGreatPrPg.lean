/- laid together -/
import Derived.Test.YtommijghjlikkaaGreatPrLc
import Derived.Test.YtommijghjlikkaaGreatMx3
import Derived.Test.YtommijghjlikkaaGreatPrTk
set_option linter.unusedVariables false
set_option linter.unusedSimpArgs false
set_option maxRecDepth 100000
noncomputable section
open Go.IntKind (wrap)
namespace Go.Bm
def Jk (j:Int) (l:Rw):Prop:=∀r∈l,-j<=gA r 0/\gA r 0<=j
theorem Jk.snoc {j:Int} {l:Rw} {r:List AC} (h:Jk j l) (E: -j<=gA r 0/\gA r 0<=j):Jk j (l++[r]):=λx D=>by
 rcases bn.1 D with D|D
 ·exact h x D
 ·rw[dg]at D;subst D;exact E
theorem Zr6 {j:Int} (E:0<=j/\j<=65536):Out (λo=>o.1=1/\(wA o.2 0).length<=65536/\Jk j (wA o.2 0)) (Al Q5 [.view Aa [],I j]):=by
 refine Cl (λs:Rw×Int=>[.view Aa s.1,I s.2]) (λs=>0<=s.2/\s.2<=j/\s.1.length+s.2<=65536/\Jk j s.1) (λs=>s.2.toNat) _ ?_ ([],j) ⟨E.1,cd _,by simp;omega,λr h=>by cases h⟩;rintro⟨v,k⟩ ⟨g1,g0,g2,D⟩;dsimp only at g0 g1 g2 D;rw[Ziv,bc g1,Ae (x:=k/2) (by omega)];refine .cond (λc=> ?_) (λc=> ?_)
 ·have c:=Bb c;refine .cond (λ_=> ?_) λc=>by rw[Cy (by simp;omega)]at c;cases c
  exact .some (.inl ⟨rfl,(v++[[I k]],k/2),rfl,⟨by dsimp only;omega,by dsimp only;omega,by simp;omega,D.snoc (by show-j<=k/\k<=j;omega)⟩,by dsimp only;omega⟩)
 ·exact .some (.inr ⟨by simp,rfl,by show v.length<=65536;omega,D⟩)
theorem Zc9 {j:Int} {N:Lp} {up out:Rw} (L:0<=j/\j<=65536) (M:up.length<=65536) (E:Jk j up) (O:out.length=up.length+1) (G:Jk j out):Out (λo=>o.1=1/\(wA o.2 0).length<=140000/\Jk j (wA o.2 0)) (Al (RZ N) [.view Aa up, .view Aa out,I ((up.length:Int)-1)]):=by
 refine Cl (λs:Rw×Int=>[.view Aa up, .view Aa s.1,I s.2]) (λs=> -1<=s.2/\s.2<up.length/\s.1.length+s.2<=2*up.length/\Jk j s.1) (λs=>(s.2+1).toNat) _ ?_ (out,(up.length:Int)-1) ⟨by simp only;omega,by simp only;omega,by simp only;omega,G⟩;rintro⟨v,k⟩ ⟨g1,g2,J,D⟩;dsimp only at g1 g2 J D;rw[Zz5,Ae (x:=k-1) (by omega)];refine .cond (λc=> ?_) (λc=> ?_)
 ·have c:=Bb c;refine .cond (λ_=> ?_) λc=>by simp at c;omega
  refine .cond (λ_=> ?_) λc=>by rw[Cy (by simp;omega)]at c;cases c
  have S: -j<=gA (nth [] up k.toNat) 0/\gA (nth [] up k.toNat) 0<=j:=by
   rw[Ht [] up k.toNat (by omega)];exact E _ (bm _)
  exact .some (.inl ⟨rfl,(_,k-1),rfl,⟨by dsimp only;omega,by dsimp only;omega,by simp;omega,D.snoc (by show-j<=wrap .i64 (0-gA (nth [] up k.toNat) 0)/\wrap .i64 (0-gA (nth [] up k.toNat) 0)<=j;rw[Ae (by omega)];omega)⟩,by dsimp only;omega⟩)
 ·have c:=Bs c;exact .some (.inr ⟨by simp,rfl,by show v.length<=140000;omega,D⟩)
theorem Qvb {j:Int} (D:0<=j/\j<=65536):Out (λo=>(wA o 0).length<=140000/\Jk j (wA o 0)) (PA [I j]):=by
 show Out _ (Zo (Al Q5) (Al (RZ (Al Q5))) [I j]);rw[Zqm];refine .bind (Zr6 D) λo g=> ?_;rw[g.1];obtain⟨-,g2,E⟩:=g;generalize wA o.2 0=up at*;refine .cond (λ_=> ?_) λc=>by simp at c
 refine .cond (λ_=> ?_) λc=>by rw[Cy (by simp;omega)]at c;cases c
 refine .cond (λ_=> ?_) λc=>by rw[Cy (by simp;omega)]at c;cases c
 rw[Ae (x:=(up.length:Int)-1) (by omega)];refine .bind (Zc9 D g2 E (by simp) (by rw[ay];exact E.snoc (by show-j<=0/\0<=j;omega))) λo g=> ?_;rw[g.1];exact .some g.2
def QG (m0 m1 m3 m4:Int) (Q R:Int->Prop) (o:List AC):Prop:=∃v:Int,o=Ea m0 m1 m3 m4 v/\(Q v\/∃r:Int,v=wrap .i64 (m1+r)/\R r)
theorem Qw9 {D E G J L M:Fn} {p:Pth} {x:Ax3} {t:Trk} {a b c o0 o1:Int} {N b1 b2:Bool} (hb:0<=b/\b<=65536) {m0 m1 m2 m3 m4 m5 l:Int} {Q R F:Int->Prop}
  (hB:Out (λo=>∃r:Int,o=[I r]/\R r) (D [I a,I b,I c,I m1,I m2]))
  (hS:∀v:Int,0<=v->F v->(∃k:Int,-b<=k/\k<=b/\v=wrap .i64 (m1+wrap .i64 (m2+k)))->Out (λo=>bA o 0=true->Q v) (E (pxt p x t [I a,I b,I c,I (wrap .i64 (m0+v)),I v,I (wrap .i64 (v-m1)),I m0,I m3,I m4,I l])))
  (hF:∀v:Int,Out (λo=>bA o 0=true->F v) (G (Fu p t [I a,I b,I c,I o0,I o1,B N,B b1,B b2,I (wrap .i64 (m0+v)),I v,I (wrap .i64 (v-m1)),I m0,I m3,I m4])))
  (S:∀m0 m1 m2 m3 m4 m5 v,J [I m0,I m1,I m2,I m3,I m4,I m5,I v]=some (Ea m0 m1 m3 m4 v))
  (hR:∀a b c v x,(L [I a,I b,I c,I v,I x]).isSome=true)
  (hC:∀j,0<=j/\j<=65536->Out (λo=>(wA o 0).length<=140000/\Jk j (wA o 0)) (M [I j])):
  Out (QG m0 m1 m3 m4 Q R) (Qlx D E G J L M (Al (Qm3 D E G J L M)) (pxt p x t [I a,I b,I c,I o0,I o1,B N,B b1,B b2,I m0,I m1,I m2,I m3,I m4,I m5,I l])):=by
 rw[Z25];refine .bind (hC b hb) λq T=> ?_;obtain⟨T,hJ⟩:=T;generalize wA q 0=ch at*;refine .bind (p:=λo=>o.1=1/\((∃v:Int,∃g0 g1 g2 U V X:Int,o.2=B true::I a::I b::I c::I m0::I m1::I m2::I m3::I m4::I m5::I g0::I g1::I g2::I U::I V::I X::Ea m0 m1 m3 m4 v/\Q v)\/∃l:List AC,o.2=B false::I a::I b::I c::I m0::I m1::I m2::I m3::I m4::I m5::l)) ?_ λo g=>by
  obtain⟨g,g2⟩:=g;rw[g];refine .cond (λ_=> ?_) λc=>by simp at c
  rcases g2 with⟨v,g0,g1,g2,U,V,X,e,O⟩|⟨l',e⟩
  ·rw[e];refine .cond (λ_=> .some ⟨v,rfl, .inl O⟩) λc=>by simp[gA,wA,bA,jA,nth,C_]at c
  ·rw[e];refine .cond (λc=>by simp[gA,wA,bA,jA,nth,C_]at c) λ_=> ?_;simp only[gA,wA,bA,jA,nth,Af];refine .bind hB λo g=> ?_;obtain⟨r,rfl,hr⟩:=g;simp only[gA,wA,bA,jA,nth,Af];rw[S];exact .some ⟨_,rfl, .inr ⟨r,rfl,hr⟩⟩
 refine Cl (λs:Nat×(Int×Int×Int×Int×Int×Int)=>I l::B false:: .view Aa ch::I (ch.length:Int)::I (s.1:Int)::pxt p x t [I a,I b,I c,I o0,I o1,B N,B b1,B b2,I m0,I m1,I m2,I m3,I m4,I m5,I 0,I 0,I 0,I 0,I 0,I 0,I s.2.1,I s.2.2.1,I s.2.2.2.1,I s.2.2.2.2.1,I s.2.2.2.2.2.1,I s.2.2.2.2.2.2])
  (λs=>s.1<=ch.length) (λs=>ch.length-s.1) _ ?_ (0,(0,0,0,0,0,0)) (by simp)
 rintro⟨i,Y,f1,f2,f3,f4,f5⟩ g;dsimp only at g;rw[Zs3];rw[Ae (x:=(i:Int)+1) (by omega)];refine .cond (λc=> ?_) (λc=> ?_)
 ·have c:=Bb c;refine .cond (λ_=> ?_) λc=>by simp at c;omega
  refine .cond (λ_=> ?_) λpos=> ?_
  ·exact .some (.inl ⟨rfl,(i+1,Y,f1,f2,f3,f4,f5),rfl,by dsimp only;omega,by dsimp only;omega⟩)
  ·have pos:=Bs pos;refine .ibind (hR _ _ _ _ _) λ_ _=> .cond (λ_=> ?_) λ_=> ?_
   ·exact .some (.inl ⟨rfl,(i+1,Y,f1,f2,f3,f4,f5),rfl,by dsimp only;omega,by dsimp only;omega⟩)
   ·have hk:∃k:Int,-b<=k/\k<=b/\wrap .i64 (m1+wrap .i64 (m2+gA (nth [] ch (i:Int).toNat) 0))=wrap .i64 (m1+wrap .i64 (m2+k)):=by
     have:=hJ _ (bm (show i<ch.length by omega));rw[aj,Ht [] ch i (by omega)];exact⟨_,this.1,this.2,rfl⟩
    generalize wrap .i64 (m1+wrap .i64 (m2+gA (nth [] ch (i:Int).toNat) 0))=v at*;rw[S];simp only[ag,gA,wA,bA,jA,nth,Af];refine .bind (hF v) λof fit=> .cond (λcf=> ?_) λ_=> ?_
    ·refine .bind (hS v (by omega) (fit cf) hk) λo O=> .cond (λc=> ?_) λ_=> ?_
     ·exact .some (.inr ⟨by simp,rfl, .inl ⟨v,0,0,0,0,0,0,rfl,O c⟩⟩)
     ·exact .some (.inl ⟨rfl,(i+1,_,_,_,_,_,_),rfl,by dsimp only;omega,by dsimp only;omega⟩)
    ·exact .some (.inl ⟨rfl,(i+1,_,_,_,_,_,_),rfl,by dsimp only;omega,by dsimp only;omega⟩)
 ·exact .some (.inr ⟨by simp,rfl, .inr ⟨_,rfl⟩⟩)
theorem Z5r {E G:Fn} {p:Pth} {x:Ax3} {t:Trk} {Q:Prop} (J:∀{way:Rw},way.length<=100000->(E (pxt p x t [.view Aa way])).isSome=true)
  {a b c m0 m1 m2 m3 m4 m5 l:Int} (L:Out (λo=>(wA o 0).length<=4096/\(bA o 1=true->Q)) (G [I a,I b,I c,I m0,I m1,I m2,I m3,I m4,I m5])):
  Out (λo=>bA o 0=true->Q) (SW E G (pxt p x t [I a,I b,I c,I m0,I m1,I m2,I m3,I m4,I m5,I l])):=by
 rw[Qtf];refine .bind L λo h=> ?_;obtain⟨N,D⟩:=h;generalize wA o 0=sp at*;refine .cond (λ_=> .some λh=>by simp[gA,wA,bA,jA,nth,C_]at h) λM=> ?_;have D:=D (by simpa using M);refine .cond (λc=> ?_) λc=> ?_
 ·have c:=Bb c;rw[Ae (x:=(sp.length:Int)-1) (by omega)];refine .cond (λ_=> ?_) λc=>by simp at c;omega
  generalize Af (nth .dead (nth [] sp ((sp.length:Int)-1).toNat) 0)=e;refine .cond (λ_=> .some λ_=>D) λ_=> ?_;refine .cond (λ_=> ?_) λc=>by rw[Cy (by simp;omega)]at c;cases c
  refine .cond (λ_=> ?_) λc=>by rw[Cy (by simp;omega)]at c;cases c
  exact .ibind (J (by simp;omega)) λ_ _=> .some λ_=>D
 ·refine .cond (λ_=> .some λ_=>D) λ_=> ?_;refine .cond (λ_=> ?_) λc=>by rw[Cy (by simp;omega)]at c;cases c
  refine .cond (λ_=> ?_) λc=>by rw[Cy (by simp;omega)]at c;cases c
  exact .ibind (J (by simp;omega)) λ_ _=> .some λ_=>D
theorem Zsw {a k c:Int} (D:Plan3 a k c) (u v x E G J:Int):Out (λo=>(wA o 0).length<=4096/\(bA o 1=true->(AK a k v x).2=true)) (Fk [I a,I k,I c,I u,I v,I x,I E,I G,I J]):=by
 have key:∀{M:Fn},M [I a,I k,I c,I v,I x]=some [.view Aa ((AK a k v x).1.map Ao),B (AK a k v x).2]->Out (λo=>(wA o 0).length<=4096/\(bA o 1=true->(AK a k v x).2=true)) (Po M (Al (H3 M)) [I a,I k,I c,I u,I v,I x,I E,I G,I J]):=by
  intro M L;have hb:=P3 D v x;rw[Tm];refine .bind (p:=λo=>o=_) ⟨_,L,rfl⟩ λo e=> ?_;subst e;refine .cond (λ_=> .some ⟨by simp[wA,nth,BZ],λh=>by simp[bA,nth,C_]at h⟩) λh=> ?_;have N:(AK a k v x).2=true:=by simpa [bA,nth,C_]using h
  have O:(wA [AC.view Aa ((AK a k v x).1.map Ao),B (AK a k v x).2] 0).length<=4096:=by
   show((AK a k v x).1.map Ao).length<=4096;rw[af];exact hb.1
  generalize wA [AC.view Aa ((AK a k v x).1.map Ao),B (AK a k v x).2] 0=sp at*;refine .cond (λ_=> ?_) λc=>by simp at c
  refine .cond (λ_=> ?_) λc=>by simp at c;omega
  refine .bind (Q4u (by simp) O) λo g=> ?_;rw[g.1];exact .some ⟨by show(wA o.2 0).length<=4096;omega,λ_=>N⟩
 exact key (Zby D v x)
theorem Wk {p:Pth} {x:Ax3} {t:Trk} (h:Fix p x t) {a b c:Int} (D:Plan3 a b c) (m0 m1 m2 m3 m4 m5 l:Int):Out (λo=>bA o 0=true->(AK a b m1 m2).2=true) (IT (pxt p x t [I a,I b,I c,I m0,I m1,I m2,I m3,I m4,I m5,I l])):=
 Z5r (Qw3 h) (Zsw D _ _ _ _ _ _)
theorem HF {a k v x:Int}:(AK a k v x).2=true↔CQ a k v x/\(BI a k 4096 v x).2=true:=by
 unfold AK;by_cases h:CQ a k v x/\(BI a k 4096 v x).2=true
 ·rw[aa h];exact⟨λ_=>h,λ_=>rfl⟩
 ·rw[ab h];exact⟨λq=>(by cases q),λq=>absurd q h⟩
theorem Tt {a k c v x:Int} (D:Plan3 a k c) (h:(AK a k v x).2=true):(AK a k (v+AG a k v x) (AG a k v x)).2=true/\
  (AK a k v x).1=if v<=0 then []else(v+AG a k v x)::(AK a k (v+AG a k v x) (AG a k v x)).1:=by
 obtain⟨E,G⟩:=HF.1 h;have M:=closed D E;have T:=FF D M.1;by_cases I:v<=0
 ·have N:v=0:=by have:=FF D E;omega
  have hb:AG a k v x=0:=by
   obtain⟨B,O⟩:∃B,B=bs k v 20 (-x-k) (min (k-x) a):=⟨_,rfl⟩;obtain⟨U,V,X,Y,J,q6⟩:=Qat D E O;have:=KB (k:=k) (b:=B) (by have:=D.b;omega);have hx:=E.2.2.2.2 N;have ha:=D.a;have e:AG a k v x= -B:=by unfold AG;rw[O]
   rw[e];rcases J with J|J
   ·omega
   ·by_cases L:B+1<=0
    ·rw[JC L]at J;omega
    ·omega
  have e0:BI a k 4096 0 0=([],true):=by unfold BI;rw[aa (by omega)]
  refine⟨?_,?_⟩
  ·rw[hb,N];refine HF.2 ⟨?_,by rw[show(0:Int)+0=0 from rfl,e0]⟩;have:=M.1;rw[hb,N]at this;exact this
  ·rw[aa I];unfold AK;rw[aa ⟨E,G⟩];unfold BI;rw[aa I]
 ·have e:BI a k 4096 v x=((v+AG a k v x)::(BI a k 4095 (v+AG a k v x) (AG a k v x)).1,(BI a k 4095 (v+AG a k v x) (AG a k v x)).2):=by
   show(if v<=0 then _ else _)=_;rw[ab I]
  rw[e]at G;have S:=Za8 a k 4095 _ _ G;have L:(AK a k (v+AG a k v x) (AG a k v x)).2=true:=HF.2 ⟨M.1,by rw[S];exact G⟩;refine⟨L,?_⟩;rw[ab I];have e2:(AK a k v x).1=(BI a k 4096 v x).1:=by unfold AK;rw[aa (HF.1 h)]
  have e3:(AK a k (v+AG a k v x) (AG a k v x)).1=(BI a k 4096 (v+AG a k v x) (AG a k v x)).1:=by unfold AK;rw[aa (HF.1 L)]
  rw[e2,e3,S,e]
structure KOK (K : Kf) : Prop where
 f:Fix K.p K.x K.t
 plan:Plan3 K.pa K.pb K.pc
 aE:∀g∈K.p.aE,0<=g.item/\g.item<K.items.length/\i64 g.lead
 aC:∀m∈K.p.aC,0<=m.item/\m.item<K.items.length/\i64 m.at_
 count:K.p.aC.length<=1000000
 speed:∀it∈K.items,it.kind=8->i64 it.speed
 len:i64 K.len
 set:i64 K.set
theorem Lu (K:Kf) (c:Cv):Dj (Ab K c)=some [I (wrap .i64 (c.m0.tdiv 256))]:=by
 show Qil (Ab K c)=_;rw[Zud]
abbrev AB (c:Cv):Int:=wrap .i64 (c.m0.tdiv 256)
theorem Z80 {D E:Fn} {K:Kf} {c:Cv} {s:Int} (G:E (Ab K c)=some [I (AB c)]) (J:D (A8 K.t++[I (AB c)])=some [I s]):Zm D E (Ab K c)=some [I s]:=by
 rw[Z1l,G];simp only[ag,gA,wA,bA,jA,Dc,D5];rw[J];rfl
abbrev AA (K:Kf) (c:Cv):Int:=AE K.t (AB c)
theorem M_ {K:Kf} (h:KOK K) (c:Cv):Dk (Ab K c)=some [I (AA K c)]:=Z80 (Lu K c) (RO h.f.t.q (AB c))
theorem Ztf (K:Kf) (c:Cv):OW (Ab K c)=some (I 3::Ab K {c with next:=wrap .i64 (c.idx+1),on:=false,idx:=0,aM:=false,cnt:=0}):=by
 show Qfh (Ab K c)=_;rw[Zua]
theorem Zt7 (K:Kf) (c:Cv):G_ (Ab K c)=some (Ab K (if c.g0=0 then{c with o2:=true,g0:=1,g1:=18,g2:= -1}else c)):=by
 show Qp4 (Ab K c)=_;rw[Zmm];cases h:(c.g0==0)
 ·rw[ab (by simpa using h)];rfl
 ·rw[aa (by simpa using h)];rfl
def nxL (K:Kf) (c:Cv) (l:Int):List AC:=pxt K.p K.x K.t [I K.pa,I K.pb,I K.pc,I c.o0,I c.o1,B c.o2,B c.o3,B c.o4,I c.m0,I c.m1,I c.m2,I c.m3,I c.m4,I c.m5,I l]
def nxV (K:Kf) (c:Cv) (l:Int):Int:=gA ((Fv (nxL K c l)).getD []) 1
def Mo (K:Kf) (c:Cv):Prop:=(AK K.pa K.pb c.m1 c.m2).2=true
theorem Mo.ready {K:Kf} {c:Cv} (h:Mo K c):CQ K.pa K.pb c.m1 c.m2:=(HF.1 h).1
theorem Z3p {K:Kf} {c:Cv} {l:Int} {Q R:Int->Prop} (h:Out (QG c.m0 c.m1 c.m3 c.m4 Q R) (Fv (nxL K c l))):Q (nxV K c l)\/∃r:Int,nxV K c l=wrap .i64 (c.m1+r)/\R r:=by
 obtain⟨o,D,v,rfl,E⟩:=h;have e:nxV K c l=v:=by unfold nxV;rw[D];rfl
 rw[e];exact E
theorem Qwf {K:Kf} {c:Cv} (D:Plan3 K.pa K.pb K.pc) (G:Mo K c) {v:Int} (E:v=wrap .i64 (c.m1+AG K.pa K.pb c.m1 c.m2)):v=c.m1+AG K.pa K.pb c.m1 c.m2/\wrap .i64 (v-c.m1)=AG K.pa K.pb c.m1 c.m2/\(AK K.pa K.pb v (wrap .i64 (v-c.m1))).2=true:=by
 have I:=FF D G.ready;have J:=FF D (closed D G.ready).1;rw[Ae (by omega)]at E;have e:wrap .i64 (v-c.m1)=AG K.pa K.pb c.m1 c.m2:=by rw[E,Ae (by omega)];omega
 refine⟨E,e,?_⟩;rw[e,E];exact(Tt D G).1
theorem Ud {K:Kf} {c:Cv} (D:Plan3 K.pa K.pb K.pc) (E:Mo K c):Out (λo=>∃r:Int,o=[I r]/\r=AG K.pa K.pb c.m1 c.m2) (FL [I K.pa,I K.pb,I K.pc,I c.m1,I c.m2]):=
 ⟨_,Qtc D E.ready,_,rfl,rfl⟩
theorem Q30 {p:Pth} {x:Ax3} {t:Trk} (h:Fix p x t) (a b c o0 o1:Int) (D b1 b2:Bool) (m0 m1 m2 m3 m4 m5:Int):Out (λo=>bA o 0=true->True) (Mv (Fu p t [I a,I b,I c,I o0,I o1,B D,B b1,B b2,I m0,I m1,I m2,I m3,I m4,I m5])):=
 (Out.of (Zu0 h a b c o0 o1 D b1 b2 m0 m1 m2 m3 m4 m5)).mono λ_ _ _=>trivial
theorem Q44 {K:Kf} (h:KOK K) {c:Cv} (D:Mo K c) (l:Int) (E:Bool):Out (QG c.m0 c.m1 c.m3 c.m4 (λv=>(AK K.pa K.pb v (wrap .i64 (v-c.m1))).2=true) λr=>r=AG K.pa K.pb c.m1 c.m2)
  (Fv (pxt K.p K.x K.t [I K.pa,I K.pb,I K.pc,I c.o0,I c.o1,B E,B c.o3,B c.o4,I c.m0,I c.m1,I c.m2,I c.m3,I c.m4,I c.m5,I l])):=
 Qw9 (F:=λ_=>True) (by have:=h.plan.b;omega) (Ud h.plan D) (λv _ _ _=>Wk h.f h.plan _ _ _ _ _ _ _) (λv=>Q30 h.f ..) TY Qoj (λ_ G=>Qvb G)
def P4 (m0 m1 m3 m4:Int) (Q R:Int->Prop) (o:List AC):Prop:=∃v s b z g e:Int,o=Ea m0 m1 m3 m4 v++[I s,I b,I z,I g,I e]/\(Q v\/∃r:Int,v=wrap .i64 (m1+r)/\R r)
theorem Qsg {E G M N J O S:Fn} {p:Pth} {x:Ax3} {t:Trk} {a b c:Int} {o0 o1:Int} {b0 b1 b2:Bool} {m0 m1 m2 m3 m4 m5 l lead g0 g1 g2 T U V:Int} {Q R:Int->Prop}
  (hN:Out (QG m0 m1 m3 m4 Q R) (E (pxt p x t [I a,I b,I c,I o0,I o1,B false,B b1,B b2,I m0,I m1,I m2,I m3,I m4,I m5,I l])))
  (hB:Out (λo=>∃r:Int,o=[I r]/\R r) (G [I a,I b,I c,I m1,I m2]))
  (X:∀a b c x3 x4 x5 x6 x7 x8,(M [I a,I b,I c,I x3,I x4,I x5,I x6,I x7,I x8]).isSome=true)
  (Y:∀v:Int,Out (λo=>bA o 0=true->Q v) (N (pxt p x t [I a,I b,I c,I (wrap .i64 (m0+v)),I v,I (wrap .i64 (v-m1)),I m0,I m3,I m4,I l])))
  (L:∀m0 m1 m2 m3 m4 m5 v,J [I m0,I m1,I m2,I m3,I m4,I m5,I v]=some (Ea m0 m1 m3 m4 v))
  (hF:∀v,i64 v->(O [I lead,I v]).isSome=true) (hD:∀a b,∃v,S [I a,I b]=some [I v]/\i64 v):
  Out (P4 m0 m1 m3 m4 Q R) (Qly E G M N J O S (pxt p x t [I a,I b,I c,I o0,I o1,B b0,B b1,B b2,I m0,I m1,I m2,I m3,I m4,I m5,I l,I lead,I g0,I g1,I g2,I T,I U,I V])):=by
 rw[Z0s];obtain⟨v1,e1,w1⟩:=hD V g2;obtain⟨v2,e2,w2⟩:=hD U g2;rw[e1,e2];simp only[ag,gA,wA,bA,jA,Dc,ES,D5];have next:∀s D z g e:Int,Out (P4 m0 m1 m3 m4 Q R) ((E (pxt p x t [I a,I b,I c,I o0,I o1,B false,B b1,B b2,I m0,I m1,I m2,I m3,I m4,I m5,I l])).bind λo=>some [I (gA o 0),I (gA o 1),I (gA o 2),I (gA o 3),I (gA o 4),I (gA o 5),I s,I D,I z,I g,I e]):=λs D z g e=>by
  refine .bind hN λo h=> ?_;obtain⟨v,rfl,h⟩:=h;exact .some ⟨v,s,D,z,g,e,rfl,h⟩
 refine .ibind (hF _ w1) λf1 _=> .cond (λ_=> ?_) λ_=> .cond (λ_=> ?_) λ_=>next _ _ _ _ _
 ·refine .ibind (hF _ w2) λf2 _=> ?_;rw[L];generalize wrap .i64 (Af (nth AC.dead f1 0)-Af (nth AC.dead f2 0))=v;simp only[ag,gA,wA,bA,jA,Dc,ES,D5];refine .cond (λ_=> ?_) λ_=>next _ _ _ _ _
  refine .bind (Y v) λo h=> .cond (λc=> ?_) λ_=>next _ _ _ _ _
  exact .some ⟨v,_,_,_,_,_,rfl, .inl (h c)⟩
 ·rw[L];generalize wrap .i64 (wrap .i64 (wrap .i64 (g1+Af (nth AC.dead f1 0))-T)-m0)=v;simp only[ag,gA,wA,bA,jA,Dc,ES,D5];have stop:∀s D z g e:Int,Out (P4 m0 m1 m3 m4 Q R) ((G [I a,I b,I c,I m1,I m2]).bind λo=>(J [I m0,I m1,I m2,I m3,I m4,I m5,I (wrap .i64 (m1+gA o 0))]).bind λq=>some [I (gA q 0),I (gA q 1),I (gA q 2),I (gA q 3),I (gA q 4),I (gA q 5),I s,I D,I z,I g,I e]):=λs D z g e=>by
   refine .bind hB λo h=> ?_;obtain⟨r,rfl,hr⟩:=h;rw[L];exact .some ⟨_,s,D,z,g,e,rfl, .inr ⟨r,rfl,hr⟩⟩
  refine .cond (λ_=> ?_) λ_=> ?_
  ·refine .bind (Y v) λo h=> .cond (λc=> ?_) λ_=> ?_
   ·exact .some ⟨v,_,_,_,_,_,rfl, .inl (h c)⟩
   ·refine .ibind (X _ _ _ _ _ _ _ _ _) λ_ _=> .cond (λ_=> .cond (λ_=>stop _ _ _ _ _) λ_=>stop _ _ _ _ _) λ_=>stop _ _ _ _ _
  ·refine .ibind (X _ _ _ _ _ _ _ _ _) λ_ _=> .cond (λ_=> .cond (λ_=>stop _ _ _ _ _) λ_=>stop _ _ _ _ _) λ_=>stop _ _ _ _ _
theorem Zwl {K:Kf} (h:KOK K) {c:Cv} (D:Mo K c) (l:Int) {lead:Int} (E:i64 lead):Out (P4 c.m0 c.m1 c.m3 c.m4 (λv=>(AK K.pa K.pb v (wrap .i64 (v-c.m1))).2=true) λr=>r=AG K.pa K.pb c.m1 c.m2)
  (Iu (pxt K.p K.x K.t [I K.pa,I K.pb,I K.pc,I c.o0,I c.o1,B c.o2,B c.o3,B c.o4,I c.m0,I c.m1,I c.m2,I c.m3,I c.m4,I c.m5,I l,I lead,I c.e0,I c.e1,I c.e2,I c.e3,I c.before,I c.s3])):=
 Qsg (Q44 h D l false) (Ud h.plan D) Qu0 (λv=>Wk h.f h.plan _ _ _ _ _ _ _) TY (λ_ G=>Za6 E G) Q58
theorem Qu7 {K:Kf} (h:KOK K) {c:Cv} (E:Mo K c) {v:Int} (G:(AK K.pa K.pb v (wrap .i64 (v-c.m1))).2=true\/∃r:Int,v=wrap .i64 (c.m1+r)/\r=AG K.pa K.pb c.m1 c.m2):(AK K.pa K.pb v (wrap .i64 (v-c.m1))).2=true:=by
 rcases G with D|⟨r,D,I⟩
 ·exact D
 ·subst I;exact(Qwf h.plan E D).2.2
theorem RF {a k c:Int} (D:Plan3 a k c):(AK a k 0 0).2=true:=by
 refine HF.2 ⟨?_,by unfold BI;rw[aa (by omega)]⟩;have E:=D.a;have hb:=D.b
 refine⟨by omega,by omega,?_,?_,λ_=>by omega⟩
 ·rw[JC (by omega)];omega
 ·rw[JC (by omega)];omega
theorem Qzh (K:Kf) {i:Nat} (h:i<K.items.length):nth [] (K.items.map Ag) i=Ag K.items[i]:=by
 rw[BW,List.getD,dk,ah h];rfl
theorem Z2y (K:Kf) {i:Nat} (h:i<K.p.aC.length):nth [] (K.p.aC.map At) i=At K.p.aC[i]:=by
 rw[BW,List.getD,dk,ah h];rfl
theorem Zqu {K:Kf} (h:KOK K) (i:Nat) (D:gA (nth [] (K.items.map Ag) i) 0=8):i64 (gA (nth [] (K.items.map Ag) i) 20):=by
 by_cases c:i<K.items.length
 ·rw[Qzh K c]at D⊢;exact h.speed _ (bm c) D
 ·have e:nth [] (K.items.map Ag) i=[]:=by
   rw[BW,List.getD,db (by rw[af];omega)];rfl
  rw[e];show i64 0;unfold i64;omega
structure Gd (K : Kf) (n : Int) (c : Cv) : Prop where
 way:c.way=0
 pass:0<=c.aJ/\c.aJ<=K.p.aC.length
 task:c.on=true->0<=c.idx/\c.idx<K.p.aC.length
 mo:Mo K c
 m0: -(16777216*n)<=c.m0/\c.m0<=16777216*n
theorem Gd.up {K:Kf} {n:Int} {c:Cv} (h:Gd K n c) (D:0<=n):Gd K (n+1) c:=
 ⟨h.way,h.pass,h.task,h.mo,by have:=h.m0;omega⟩
theorem Gd.move {K:Kf} (h:KOK K) {n:Int} {c:Cv} (g:Gd K n c) (G:0<=n/\n<=10000) {v:Int} (E:(AK K.pa K.pb v (wrap .i64 (v-c.m1))).2=true\/∃r:Int,v=wrap .i64 (c.m1+r)/\r=AG K.pa K.pb c.m1 c.m2):
  Gd K (n+1) {c with m0:=wrap .i64 (c.m0+v),m1:=v,m2:=wrap .i64 (v-c.m1),m3:=c.m0,m4:=c.m3,m5:=c.m4}:=by
 have I:=g.m0;have D:=Qu7 h g.mo E;have J:=FF h.plan (HF.1 D).1;refine⟨g.way,g.pass,g.task,D,?_⟩;show-(16777216*(n+1))<=wrap .i64 (c.m0+v)/\wrap .i64 (c.m0+v)<=16777216*(n+1);rw[Ae (by omega)];omega
theorem Gd.same {K:Kf} {n:Int} {c c':Cv} (g:Gd K n c) (D:c'.way=c.way) (E:c'.aJ=c.aJ) (G:c'.on=c.on) (I:c'.idx=c.idx) (J:c'.m0=c.m0) (L:c'.m1=c.m1) (M:c'.m2=c.m2):Gd K n c':=
 ⟨D▸g.way,E▸g.pass,by rw[G,I];exact g.task,by have:=g.mo;unfold Mo at*;rw[L,M];exact this,J▸g.m0⟩
theorem Q06 {K:Kf} {c:Cv} (h:c.way=0):Jc (Ab K c)=some (I 0::B false::Ab K c):=by
 have key:∀{A B':Fn},Sz A B' (Ab K c)=some (I 0::B false::Ab K c):=by
  intro A B';rw[Qyt,BO (by simp[h])]
 exact key
abbrev stand (c:Cv):Cv:={c with m0:=wrap .i64 (AB c*256),m1:=0,m2:=0,m3:=wrap .i64 (AB c*256),m4:=wrap .i64 (AB c*256),m5:=wrap .i64 (AB c*256)}
theorem Qb9 (u:Int):Hw [I u]=some [I (wrap .i64 (u*256)),I 0,I 0,I (wrap .i64 (u*256)),I (wrap .i64 (u*256)),I (wrap .i64 (u*256))]:=by
 show Qbo [I u]=_;rw[Z4j]
theorem Zjr {D E:Fn} {K:Kf} {c:Cv} (G:E (Ab K c)=some [I (AB c)]) (J:∀u:Int,D [I u]=some [I (wrap .i64 (u*256)),I 0,I 0,I (wrap .i64 (u*256)),I (wrap .i64 (u*256)),I (wrap .i64 (u*256))]):
  Qjv D E (Ab K c)=some (if c.g0=2 then I 6::B true::Ab K (stand c)else I 0::B false::Ab K c):=by
 rw[Zq8];by_cases h:c.g0=2
 ·rw[aa h,Bn (by simp[h]),G];simp only[ag,gA,wA,bA,jA,Dc,D5];rw[J];rfl
 ·rw[ab h,BO (by simpa using h)]
theorem Q07 (K:Kf) (c:Cv):LL (Ab K c)=some (if c.g0=2 then I 6::B true::Ab K (stand c)else I 0::B false::Ab K c):=Zjr (Lu K c) Qb9
theorem Qvi (K:Kf) (c:Cv):LN (Ab K c)=some (I c.aH::B (c.aH !=0)::Ab K c):=by
 show VA (Ab K c)=_;rw[Zey]
theorem Qze (K:Kf) (c:Cv):L3 (Ab K c)=some (if c.aG=true/\c.aL=true then I 8::B true::Ab K {c with aH:=8}else I 0::B false::Ab K c):=by
 show Qi6 (Ab K c)=_;rw[Zln];by_cases h:c.aG=true
 ·by_cases D:c.aL=true
  ·rw[aa ⟨h,D⟩,Bn (by simp[h]),Bn (by simp[D]),h,D]
  ·rw[ab (λe=>D e.2),Bn (by simp[h]),BO (by simpa using D)]
 ·rw[ab (λe=>h e.1),BO (by simpa using h)]
theorem Qu1 {a N:Int} (h: -N<=a/\a<=N): -N<=a.tdiv 256*256/\a.tdiv 256*256<=N:=by
 by_cases k:0<=a
 ·rw[bc k];omega
 ·obtain⟨b,rfl⟩:∃b,a= -b:=⟨-a,by omega⟩;rw[Int.neg_tdiv,bc (by omega)];omega
theorem Gd.stand {K:Kf} (h:KOK K) {n:Int} {c:Cv} (g:Gd K n c) (D:0<=n/\n<=10000):Gd K n (stand c)/\AB (stand c)=AB c:=by
 have E:=Qu1 g.m0;have e:AB c=c.m0.tdiv 256:=Ae (by omega);have e2:(Go.Bm.stand c).m0=c.m0.tdiv 256*256:=by
  show wrap .i64 (AB c*256)=_;rw[e,Ae (by omega)]
 refine⟨⟨g.way,g.pass,g.task,RF h.plan,?_⟩,?_⟩
 ·rw[e2];omega
 ·show wrap .i64 ((Go.Bm.stand c).m0.tdiv 256)=_;rw[e2,Int.mul_tdiv_cancel _ (by omega),e,Ae (by omega)]
theorem Out.eqv {α:Type} {p:α->Prop} {a b:Option α} (h:a=b) (g:Out p b):Out p a:=h▸g
abbrev HR (pul outs:Rw) (mode s:Int) (m:Pt) (sp fault:Int):List AC:=[.view kPt pul, .view Aa outs,I mode,I s,I m.x,I m.y,I m.z,I sp,I fault]
abbrev B9:List AC:=[.view kPt [], .view Aa [],I 0,I 0,I 0,I 0,I 0,I 0,I 0]
theorem Yf {K:Kf} {n:Int} {c:Cv} (g:Gd K n c) (E:0<=n/\n<=10010): -300000000000<=AB c/\AB c<=300000000000:=by
 have h:=g.m0;have D: -300000000000<=c.m0/\c.m0<=300000000000:=by omega
 have G:=Qu1 D;have e:AB c=c.m0.tdiv 256:=Ae (by omega);omega
theorem Zql (r k:Int):(AY r k=r/\AZ r k=0)\/(AY r k=0/\AZ r k=r)\/(AY r k= -r/\AZ r k=0)\/(AY r k=0/\AZ r k= -r):=by
 have D:k%4=0\/k%4=1\/k%4=2\/k%4=3:=by omega
 unfold AY AZ;rcases D with h|h|h|h<;>simp[h]
theorem Q65 (r k:Int):sq2 (AY r k) (AZ r k)=r*r:=by
 unfold sq2;rcases Zql r k with⟨D,E⟩|⟨D,E⟩|⟨D,E⟩|⟨D,E⟩<;>rw[D,E]<;>grind
theorem Zhp {p q k t:Int} (E:t=1\/t=2\/t=3) (G:0<p) (I:0<q):crs (AY p k) (AZ p k) (AY q (k+t)) (AZ q (k+t))≠0\/dt2 (AY p k) (AZ p k) (AY q (k+t)) (AZ q (k+t))<0:=by
 have J:k%4=0\/k%4=1\/k%4=2\/k%4=3:=by omega
 have L:0<p*q:=Int.mul_pos G I;have O: -p*q= -(p*q)/\p* -q= -(p*q)/\ -p* -q=p*q:=⟨Int.neg_mul ..,Int.mul_neg ..,Int.neg_mul_neg ..⟩;have e:∀j:Int,(k+t)%4=j->∀i:Int,k%4=i->crs (AY p k) (AZ p k) (AY q (k+t)) (AZ q (k+t))=(if i=0 then p else if i=2 then-p else 0)*(if j=1 then q else if j=3 then-q else 0)-(if i=1 then p else if i=3 then-p else 0)*(if j=0 then q else if j=2 then-q else 0)/\
   dt2 (AY p k) (AZ p k) (AY q (k+t)) (AZ q (k+t))=(if i=0 then p else if i=2 then-p else 0)*(if j=0 then q else if j=2 then-q else 0)+(if i=1 then p else if i=3 then-p else 0)*(if j=1 then q else if j=3 then-q else 0):=by
  intro j M i N;subst M N;exact⟨rfl,rfl⟩
 rcases E with rfl|rfl|rfl<;>rcases J with D|D|D|D
 ·obtain⟨e1,e2⟩:=e 1 (by omega) _ D;simp at e1 e2;omega
 ·obtain⟨e1,e2⟩:=e 2 (by omega) _ D;simp at e1 e2;omega
 ·obtain⟨e1,e2⟩:=e 3 (by omega) _ D;simp at e1 e2;omega
 ·obtain⟨e1,e2⟩:=e 0 (by omega) _ D;simp at e1 e2;omega
 ·obtain⟨e1,e2⟩:=e 2 (by omega) _ D;simp at e1 e2;omega
 ·obtain⟨e1,e2⟩:=e 3 (by omega) _ D;simp at e1 e2;omega
 ·obtain⟨e1,e2⟩:=e 0 (by omega) _ D;simp at e1 e2;omega
 ·obtain⟨e1,e2⟩:=e 1 (by omega) _ D;simp at e1 e2;omega
 ·obtain⟨e1,e2⟩:=e 3 (by omega) _ D;simp at e1 e2;omega
 ·obtain⟨e1,e2⟩:=e 0 (by omega) _ D;simp at e1 e2;omega
 ·obtain⟨e1,e2⟩:=e 1 (by omega) _ D;simp at e1 e2;omega
 ·obtain⟨e1,e2⟩:=e 2 (by omega) _ D;simp at e1 e2;omega
theorem Ztl {size:Int} {it:Itm} (h:ArcMade size it):Qh2 it:=by
 obtain⟨r,k,t,g,x,J,Y,h3,h4,h5,h6,L,O,h9,M,G,D,I⟩:=h.ends;have E:=h.aF;have a1:dU it it.fr=AY r k:=by unfold dU;rw[D,(Oi E).1];omega
 have a2:dW it it.fr=AZ r k:=by unfold dW;rw[D,(Oi E).2.1];omega
 have a3:dU it it.to=AY (r+g) (k+t):=by unfold dU;rw[D,I,(Oi E).1,(Oi E).1];omega
 have a4:dW it it.to=AZ (r+g) (k+t):=by unfold dW;rw[D,I,(Oi E).2.1,(Oi E).2.1];omega
 have T:qA it=r*r:=by unfold qA;rw[a1,a2,Q65]
 have U:qB it=(r+g)*(r+g):=by unfold qB;rw[a3,a4,Q65]
 have m1:64<=r*r:=by
  have:=dm J J (by omega) (by omega);omega
 have m2:64<=(r+g)*(r+g):=by
  have:=dm (show(8:Int)<=r+g by omega) (show(8:Int)<=r+g by omega) (by omega) (by omega);omega
 unfold Qh2;refine⟨by omega,by omega,?_,?_,?_⟩
 ·rw[T,U];unfold IE;right;have hg:g*g<=16:=by
   have:=dm O O L (by omega);omega
  have e1:r*r+(r+g)*(r+g)-16=2*(r*(r+g))+(g*g-16):=by grind
  have S:0<=r*(r+g):=Int.mul_nonneg (by omega) (by omega);have V:64<=r*(r+g):=by
   have:=dm J (show(8:Int)<=r+g by omega) (by omega) (by omega);omega
  have X:0<=g*g:=Int.mul_nonneg L L;have e2:4*(r*r)*((r+g)*(r+g))=(2*(r*(r+g)))*(2*(r*(r+g))):=by grind
  rw[e1,e2];generalize 2*(r*(r+g))=m at*;exact Int.mul_self_le_mul_self (by omega) (by omega)
 ·intro hf;rw[G]at hf;have N:=of_decide_eq_true hf;rw[a1,a2,a3,a4,N,M N,Int.add_zero,Int.add_zero];exact⟨rfl,rfl⟩
 ·intro hf;rw[G]at hf;have N:=of_decide_eq_false hf;unfold cAB dAB;rw[a1,a2,a3,a4];exact Zhp (by omega) (by omega) (by omega)
theorem Z4e {it:Itm} (h:Made it) (E:bd 1000000 it.fr) (G:bd 1000000 it.to):DZ it:=by
 refine⟨h.kind,A6 E (by omega),A6 G (by omega),λI=> ?_⟩;have D:=h.arc I;exact⟨D.aF,D.dir,A6 (Qj7 D (by omega) E).2 (by omega),Ztl D⟩
end Go.Bm
namespace Go.Bm
open Classical
structure Oth (it : Itm) : Prop where
 kind:7<=it.kind/\it.kind<=14
 spin:it.kind=8->3<=it.n/\it.n<=5/\0<=it.speed/\it.speed<=4000
 dwell:it.kind=7->0<=it.n/\it.n<=4
 out:it.kind=10->0<=it.n/\it.n<=15
def Jd:Pt->List Itm->Prop
 |_,[]=>True
 |p,it::l=>if AF it then it.fr=p/\Jd it.to l else Jd p l
def E9:Pt->List Itm->Pt
 |p,[]=>p
 |p,it::l=>if AF it then E9 it.to l else E9 p l
theorem WK {it:Itm}:∀{l:List Itm} {p:Pt},Jd p l->(AF it->it.fr=E9 p l)->Jd p (l++[it])
 |[],p,_,h=>by
  simp only[ay,Jd];split
  ·rename_i c;exact⟨h c,trivial⟩
  ·trivial
 |a::l,p,D,h=>by
  simp only[aq,Jd]at D⊢;unfold E9 at h;by_cases c:AF a
  ·rw[aa c]at D h⊢;exact⟨D.1,WK D.2 h⟩
  ·rw[ab c]at D h⊢;exact WK D h
theorem Jw {it:Itm}:∀{l:List Itm} {p:Pt},E9 p (l++[it])=if AF it then it.to else E9 p l
 |[],p=>by simp only[ay,E9]
 |a::l,p=>by
  simp only[aq,E9];by_cases c:AF a
  ·rw[aa c,aa c];exact Jw
  ·rw[ab c,ab c];exact Jw
structure Items (A : Nat) (p : Pt) (l : List Itm) : Prop where
 link:Jd p l
 made:∀it∈l,(AF it/\Made it/\Gl it/\bd A it.fr/\bd A it.to)\/Oth it
theorem NL {A:Nat} {p:Pt} {l:List Itm} {it:Itm} (h:Items A p l) (E:AF it->it.fr=E9 p l) (G:(AF it/\Made it/\Gl it/\bd A it.fr/\bd A it.to)\/Oth it):Items A p (l++[it]):=by
 refine⟨WK h.link E,λi D=> ?_⟩;simp only[bn,dg]at D;rcases D with D|rfl
 ·exact h.made i D
 ·exact G
theorem NU {it:Itm} (h:Oth it): ¬AF it:=λg=>by have:=h.kind;have:=g.2;omega
theorem Z2o {T:Fn} {l:Rw} (D:Hf l T) (k:Nat):
  ∃(it:Itm) (k':Nat),YU T [.view Aa l,I k]=some (Ag it++[.view Aa l,I k'])/\k<=k'/\Oth it/\it.kind≠14:=by
 rw[Zke];obtain⟨v0,k0,e0,a0,b0,J,-,-⟩:=D k (n:=8) (by omega);obtain⟨v1,V,e1,a1,b1,L,-,-⟩:=D k0 (n:=16) (by omega);obtain⟨v2,k2,e2,a2,b2,M,-,-⟩:=D V (n:=2) (by omega);obtain⟨v3,k3,e3,a3,b3,N,-,-⟩:=D k0 (n:=5) (by omega);obtain⟨X,Y,e4,a4,b4,O,-,-⟩:=D k0 (n:=3) (by omega);obtain⟨v5,k5,e5,a5,b5,S,-,-⟩:=D Y (n:=4000) (by omega);simp only[go_sem,e0,e1,e2,e3,e4,e5];rw[Ae (x:=3+X) (by omega)];have fin:∀(G n sp:Int) (on:Bool) (k':Nat),k<=k'->G≠14->Oth ⟨G,0,⟨0,0,0⟩,⟨0,0,0⟩,0,⟨0,0,0⟩,0,false,0,false,0,0,0,n,sp,on⟩->
   ∃(it:Itm) (E:Nat),some [I G,I 0,I 0,I 0,I 0,I 0,I 0,I 0,I 0,I 0,I 0,I 0,I 0,B false,I 0,B false,I 0,I 0,I 0,I n,I sp,B on, .view Aa l,I k']=some (Ag it++[.view Aa l,I E])/\k<=E/\Oth it/\it.kind≠14:=by
  intro G n sp on k' h1 h0 h2;exact⟨_,k',rfl,h1,h2,h0⟩
 by_cases J:v0=0
 ·rw[aa J];exact fin _ _ _ _ _ (by omega) (by omega) ⟨by simp only;omega,by simp,by simp,λ_=>by simp only;omega⟩
 rw[ab J];by_cases L:v0=1
 ·rw[aa L];exact fin _ _ _ _ _ (by omega) (by omega) ⟨by simp only;omega,by simp,by simp,λ_=>by simp only;omega⟩
 rw[ab L];by_cases M:v0=2
 ·rw[aa M];exact fin _ _ _ _ _ (by omega) (by omega) ⟨by simp only;omega,by simp,λ_=>by simp only;omega,by simp⟩
 rw[ab M];by_cases N:v0=3
 ·rw[aa N];exact fin _ _ _ _ _ (by omega) (by omega) ⟨by simp only;omega,λ_=>by simp only;omega,by simp,by simp⟩
 rw[ab N];by_cases O:v0=4
 ·rw[aa O];exact fin _ _ _ _ _ (by omega) (by omega) ⟨by simp only;omega,by simp,by simp,by simp⟩
 rw[ab O];by_cases S:v0=5
 ·rw[aa S];exact fin _ _ _ _ _ (by omega) (by omega) ⟨by simp only;omega,by simp,by simp,by simp⟩
 rw[ab S];by_cases U:v0=6
 ·rw[aa U];exact fin _ _ _ _ _ (by omega) (by omega) ⟨by simp only;omega,by simp,by simp,by simp⟩
 rw[ab U];exact fin _ _ _ _ _ (by omega) (by omega) ⟨by simp only;omega,by simp,by simp,by simp⟩
theorem Zhj {l:Rw} (D:Src l) (k:Nat):∃(it:Itm) (k':Nat),Mf [.view Aa l,I k]=some (Ag it++[.view Aa l,I k'])/\k<=k'/\Oth it/\it.kind≠14:=Z2o (HL D) k
theorem Zhl {v:Int} (h:0<=v/\v<8):∃x,Af (nth .dead (nth [] [[I 2],[I 2],[I 2],[I 3],[I 1],[I 6],[I 5],[I 4]] v.toNat) 0)=x/\1<=x/\x<=6:=by
 have D:v=0\/v=1\/v=2\/v=3\/v=4\/v=5\/v=6\/v=7:=by omega
 rcases D with rfl|rfl|rfl|rfl|rfl|rfl|rfl|rfl<;>exact⟨_,rfl,by decide⟩
theorem Tp {l:List Itm} {it:Itm} (h:∀x∈l,x.kind≠14) (E:it.kind≠14):∀x∈l++[it],x.kind≠14:=λx D=>by
 simp only[bn,dg]at D;rcases D with D|rfl
 ·exact h x D
 ·exact E
theorem Zt4 {MM MO ML MN MF:Fn} {l:Rw} (V:Hf l MN)
  (hM : ∀ {p : Pt}, bd 100000000 p -> ∀ {kind : Int}, (1 <= kind /\ kind <= 6) -> ∀ k : Nat,
   ∃(it:Itm) (k':Nat),MM [I p.x,I p.y,I p.z,I kind, .view Aa l,I k]=some (Ag it++[.view Aa l,I k'])/\k<=k'/\it.fr=p/\it.kind=kind/\Made it/\Gl it)
  (hO:∀k:Nat,∃(it:Itm) (k':Nat),MO [.view Aa l,I k]=some (Ag it++[.view Aa l,I k'])/\k<=k'/\Oth it/\it.kind≠14)
  (hL:∀k:Nat,ML [.view Aa l,I k]=some [B (decide (k<l.length)), .view Aa l,I k]) {D:Int} {fin:Bool} (hm:D<=100) {p:Pt}:
  ∀s:List Itm×Nat,(Items (4+40*102) p s.1/\bd (4+40*s.1.length) (E9 p s.1)/\(s.1=[]\/s.1.length<=D+1)/\∀it∈s.1,it.kind≠14)->
   ∃o,Al (Qqp MM MO ML MN MF) [.view Ai (s.1.map Ag),I D,B fin,I (E9 p s.1).x,I (E9 p s.1).y,I (E9 p s.1).z, .view Aa l,I s.2]=some o/\o.1≠0/\
    ∃items,o=(1,[.view Ai (items.map Ag),B fin])/\Items (4+40*102) p items/\(items=[]\/items.length<=D+1)/\∀it∈items,it.kind≠14:=by
 refine Qw5 (S:=List Itm×Nat) (λs=>[.view Ai (s.1.map Ag),I D,B fin,I (E9 p s.1).x,I (E9 p s.1).y,I (E9 p s.1).z, .view Aa l,I s.2]) _ (λs=>l.length-s.2) _ ?_;rintro⟨items,k⟩ ⟨M,O,X,N⟩;simp only at M O X N;simp only;rw[Z2l];simp only[go_sem,hL,af];by_cases c1:(items.length:Int)<D
 case neg=>
  rw[ab c1];exact .inr ⟨_,rfl,by simp,items,rfl,M,X,N⟩
 rw[aa c1];by_cases Y:k<l.length
 case neg=>
  rw[ab (by simpa using Y)];exact .inr ⟨_,rfl,by simp,items,rfl,M,X,N⟩
 rw[aa (by simpa using Y)];obtain⟨v,k1,e1,a1,b1,d1,d2,-⟩:=V k (n:=12) (by omega);have d3:=d2 Y;subst d3;simp only[go_sem,e1];have a0:items.length<100:=by omega
 by_cases c3:v<4
 ·rw[aa c3];obtain⟨it,U,e2,g1,g2,g0⟩:=hO (k+1);have E:=NU g2;simp only[go_sem,e2,Ag,aq,ay];rw[aa (by simp;omega)];left;refine⟨(items++[it],U),?_,⟨NL M (λh=>absurd h E) (.inr g2),?_, .inr ?_,Tp N g0⟩,?_⟩
  ·simp only[Jw,ab E,bz,bj,dh,Ag]
  ·simp only[Jw,ab E,ao,List.length_singleton];exact A6 O (by omega)
  ·simp only[ao,List.length_singleton];omega
  ·simp only;omega
 ·rw[ab c3,Ae (by omega)];obtain⟨x,hx,a5,a6⟩:=Zhl (v:=v-4) (by omega);have a2:bd 100000000 (E9 p items):=A6 O (by omega);obtain⟨it,U,e2,g1,g2,g3,g4,g5⟩:=hM a2 (kind:=x) (by omega) (k+1);have G:AF it:=by unfold AF;omega
  have L:=Quo g4 (by rw[g2];exact O);rw[aa (by simp;omega)];simp only[go_sem,hx,e2,Ag,aq,ay];have J:(AF it/\Made it/\Gl it/\bd (4+40*102) it.fr/\bd (4+40*102) it.to)\/Oth it:= .inl ⟨G,g4,g5,by rw[g2];exact A6 O (by omega),A6 L (by omega)⟩;by_cases c5:it.kind=5
  ·rw[aa c5];obtain⟨v3,k3,e3,a3,b3,d3,-,-⟩:=V U (n:=2) (by omega);obtain⟨v4,k4,e4,a4,b4,d4,-,-⟩:=V k3 (n:=3000) (by omega);simp only[go_sem,e3,e4];rw[Ae (x:=3+v3) (by omega),Ae (x:=200+v4) (by omega)];rw[aa (by simp;omega),aa (by simp;omega)];have T:Oth ⟨8,0,⟨0,0,0⟩,⟨0,0,0⟩,0,⟨0,0,0⟩,0,false,0,false,0,0,0,3+v3,200+v4,false⟩:=⟨by simp only;omega,λ_=>by simp only;omega,by simp,by simp⟩;have E:=NU T;have i1:=NL M (λh=>absurd h E) (.inr T);left;refine⟨(items++[⟨8,0,⟨0,0,0⟩,⟨0,0,0⟩,0,⟨0,0,0⟩,0,false,0,false,0,0,0,3+v3,200+v4,false⟩]++[it],k4),?_,⟨NL i1 (λ_=>by rw[Jw,ab E];exact g2) J,?_, .inr ?_,Tp (Tp N (by simp only;omega)) (by omega)⟩,?_⟩
   ·simp only[Jw,aa G,bz,bj,dh,Ag]
   ·simp only[Jw,aa G,ao,List.length_singleton];exact A6 L (by omega)
   ·simp only[ao,List.length_singleton];omega
   ·simp only;omega
  ·rw[ab c5,aa (by simp;omega)];left;refine⟨(items++[it],U),?_,⟨NL M (λ_=>g2) J,?_, .inr ?_,Tp N (by omega)⟩,?_⟩
   ·simp only[Jw,aa G,bz,bj,dh,Ag]
   ·simp only[Jw,aa G,ao,List.length_singleton];exact A6 L (by omega)
   ·simp only[ao,List.length_singleton];omega
   ·simp only;omega
def HY:Itm:=⟨14,0,⟨0,0,0⟩,⟨0,0,0⟩,0,⟨0,0,0⟩,0,false,0,false,0,0,0,0,0,false⟩
theorem XL:Oth HY:=⟨by simp[HY],by simp[HY],by simp[HY],by simp[HY]⟩
theorem Z4x {MM MO ML G O:Fn} {N:Lp} {l:Rw} (J:Hf l G) (V:O [.view Aa l]=some [.view Aa l,I 0]) {D:Int} {fin:Bool} (hm:D<=100)
  (X:∀(p:Pt) (k:Nat),bd 4 p->∃items,N [.view Ai [],I D,B fin,I p.x,I p.y,I p.z, .view Aa l,I k]=some (1,[.view Ai (items.map Ag),B fin])/\Items 4084 p items/\(items=[]\/items.length<=D+1)/\∀it∈items,it.kind≠14):
  ∃(p:Pt) (items:List Itm),Qq2 MM MO ML G O N [.view Aa l,I D,B fin]=some [.view Ai ((items++if fin=true then [HY]else []).map Ag)]/\Items 4084 p items/\(items=[]\/items.length<=D+1)/\∀it∈items,it.kind≠14:=by
 obtain⟨L,S,e1,a1,b1,c1,-,-⟩:=J 0 (n:=9) (by omega);obtain⟨T,Y,e2,a2,b2,c2,-,-⟩:=J S (n:=9) (by omega);obtain⟨U,k3,e3,a3,b3,c3,-,-⟩:=J Y (n:=9) (by omega);obtain⟨items,h1,h2,E,h0⟩:=X ⟨L-4,T-4,U-4⟩ k3 ⟨by simp only;omega,by simp only;omega,by simp only;omega⟩;rw[Zs6];have M:G [I 9, .view Aa l,I 0]=some [I L, .view Aa l,I S]:=e1;simp only[go_sem,V,M,e2,e3];rw[Ae (x:=L-4) (by omega),Ae (x:=T-4) (by omega),Ae (x:=U-4) (by omega)];simp only[h1,go_sem];refine⟨_,items,?_,h2,E,h0⟩;have hlen:items.length<=101:=by
  rcases E with E|E
  ·rw[E];simp
  ·omega
 cases fin
 ·simp
 ·rw[aa rfl,aa (by simp;omega),aa rfl,bz];rfl
theorem Qmo {A:Nat} {items:List Itm} (E:A<=1000000) (I:∀it∈items,(AF it/\Made it/\Gl it/\bd A it.fr/\bd A it.to)\/Oth it):∀(k i:Nat) (last:Int) (p:Pt),i+k=items.length->Jd p (items.drop i)->(0<=last->(itA items last.toNat).to=p)->G1 items k i last=0
 |0,_,_,_,_,_,_=>rfl
 |k+1,i,last,p,X,h,M=>by
  have D:i<items.length:=by omega
  have J:=I _ (Qrd D);rw[Qnd D]at h;unfold Jd at h;unfold G1;have N: ¬B5 (itA items i):=by
   rcases J with⟨O,G,Y,S,T⟩|L
   ·have U:=Z4e G (A6 S E) (A6 T E);have hf:=G.feed;have hb:=G.blend;have V:=G.kind;rintro(g|g|⟨-,g|g|g|g⟩|⟨g,-⟩)
    ·omega
    ·omega
    ·exact g U
    ·omega
    ·omega
    ·omega
    ·exact g O
   ·have V:=L.kind;rintro(g|g|⟨g,-⟩|⟨-,g1,g2⟩)
    ·omega
    ·omega
    ·exact NU L g
    ·have:=L.spin g1;omega
  rw[ab N];by_cases c:AF (itA items i)
  ·rw[aa c]at h⊢;rw[ab (λg=>g.2 (by rw[M g.1];exact h.1.symm))];exact Qmo E I k (i+1) i _ (by omega) h.2 (λ_=>by rw[aj])
  ·rw[ab c]at h⊢;exact Qmo E I k (i+1) last p (by omega) h M
theorem Q5q {A:Nat} {p:Pt} {items:List Itm} (D:A<=1000000) (h:Items A p items) (E:items.length<=20000):Dm items=0:=by
 unfold Dm;rw[ab (by omega)];exact Qmo D h.made items.length 0 (-1) p (by omega) (by rw[List.drop_zero];exact h.link) (λh=>by omega)
end Go.Bm
namespace Go.Bm
theorem Zis {M:Fn} (N:∀{hi lo y:Nat},hi<y->y<w64->lo<w64->M [U hi,U lo,U y]=some [U (((hi*w64+lo)/y:Nat):Int),U (((hi*w64+lo)%y:Nat):Int)])
  {hi lo y:Nat} (E:hi<w64) (G:lo<w64) (D:0<y) (O:y<w64):
  ∃I J:Nat,Qci M [U hi,U lo,U y]=some [U I,U J,B (decide (0<(hi*w64+lo)%y))]/\I<w64/\J<w64/\I*w64+J=(hi*w64+lo)/y:=by
 have S:=N (hi:=0) (lo:=hi) D O E;rw[Nat.zero_mul,Nat.zero_add,show((0:Nat):Int)=0 from rfl]at S;have T:=Nat.mod_lt hi D;have V:=N (hi:=hi%y) (lo:=lo) T O G;have e:=Nat.div_add_mod hi y;have e2:hi*w64+lo=hi%y*w64+lo+hi/y*w64*y:=by
  have:hi*w64=hi/y*w64*y+hi%y*w64:=by
   rw[<-e,Nat.mul_add_mod,Nat.mod_mod];rw[show(y*(hi/y)+hi%y)/y=hi/y from by rw[e]];rw[Nat.add_mul,Nat.mul_comm y,Nat.mul_assoc,Nat.mul_comm y,Nat.mul_assoc]
  omega
 have X:(hi*w64+lo)/y=(hi%y*w64+lo)/y+hi/y*w64:=by rw[e2,Nat.add_mul_div_right _ _ D]
 have Y:(hi*w64+lo)%y=(hi%y*w64+lo)%y:=by rw[e2,Nat.add_mul_mod_self_right]
 have L:(hi%y*w64+lo)/y<w64:=by
  rw[Nat.div_lt_iff_lt_mul D];have:hi%y*w64+w64<=y*w64:=by rw[<-Nat.succ_mul];exact bf _ T
  rw[Nat.mul_comm w64];omega
 refine⟨hi/y,(hi%y*w64+lo)/y,?_,Nat.lt_of_le_of_lt (Nat.div_le_self _ _) E,L,by rw[X];omega⟩;rw[Zmf];simp only[go_sem,S,V,Y];by_cases c:0<(hi%y*w64+lo)%y
 ·rw[al c,al (show(((hi%y*w64+lo)%y:Nat):Int)>0 by omega)]
 ·rw[am c,am (show¬(((hi%y*w64+lo)%y:Nat):Int)>0 by omega)]
theorem Zs1 {A n t:Nat} (D:0<n) (J:t*t<=2*A*(2*A)/n) (L:2*A*(2*A)/n<(t+1)*(t+1)) (down:Bool) {E:Prop} [Decidable E] (M:E↔(2*A*(2*A)%n=0/\t*t=2*A*(2*A)/n)):
  E5 A n down (if t%2=1/\(¬E\/down=false)then t/2+1 else t/2):=by
 have T:2*A*(2*A)=4*(A*A):=by grind
 have G:t*t*n<=2*A*(2*A):=(Nat.le_div_iff_mul_le D).1 J;have U:2*A*(2*A)<(t+1)*(t+1)*n:=(Nat.div_lt_iff_lt_mul D).1 L;have N:(2*A*(2*A)%n=0/\t*t=2*A*(2*A)/n)↔t*t*n=2*A*(2*A):=by
  have hd:=Nat.div_add_mod (2*A*(2*A)) n;constructor
  ·rintro⟨g1,g2⟩;rw[g2,Nat.mul_comm];omega
  ·intro g;rw[<-g];exact⟨Nat.mul_mod_left _ _,(Nat.mul_div_cancel _ D).symm⟩
 have I:=M.trans N;rw[T]at G U I;clear M N J L;generalize V:4*(A*A)=Q at*;unfold E5;rw[V];rcases Nat.mod_two_eq_zero_or_one t with O|O
 ·rw[ab (by omega)];obtain⟨m,rfl⟩:∃m,t=2*m:=⟨t/2,by omega⟩;rw[show 2*m/2=m by omega];have h5:(2*m+1)*(2*m+1)*n<=(2*m+1)*(2*m+1)*n:=co _;refine⟨?_,?_⟩
  ·rcases Nat.eq_zero_or_pos m with S|S
   ·exact .inl S
   ·right;have X:(2*m-1)*(2*m-1)*n<2*m*(2*m)*n:=Nat.mul_lt_mul_of_pos_right (Nat.mul_self_lt_mul_self (by omega)) D;split<;>omega
  ·split<;>omega
 ·obtain⟨m,rfl⟩:∃m,t=2*m+1:=⟨t/2,by omega⟩;rw[show(2*m+1)/2=m by omega];have X:(2*m+1+1)*(2*m+1+1)*n<=(2*(m+1)+1)*(2*(m+1)+1)*n:=Rg (by omega);have h7:(2*m-1)*(2*m-1)*n<(2*m+1)*(2*m+1)*n:=Nat.mul_lt_mul_of_pos_right (Nat.mul_self_lt_mul_self (by omega)) D;have Y:2*(m+1)-1=2*m+1:=by omega
  by_cases c: ¬E\/down=false
  ·rw[aa ⟨O,c⟩,Y];refine⟨.inr ?_,?_⟩
   ·cases down
    ·simp only[Bool.false_eq_true,if_false];exact G
    ·simp only[if_true];rcases c with c|c
     ·exact Nat.lt_of_le_of_ne G λh=>c (I.2 h)
     ·cases c
   ·split<;>omega
  ·have c1:(2*m+1)*(2*m+1)*n=Q:=by
    by_cases g:E
    ·exact I.1 g
    ·exact absurd (.inl g) c
   have c2:down=true:=by
    cases down
    ·exact absurd (.inr rfl) c
    ·rfl
   subst c2;rw[ab (λh=>c h.2)];simp only[if_true];exact⟨.inr (by omega),by omega⟩
theorem Zhk {x d:Int}:sgn x d<0↔x*d<0:=by
 rcases TK x d with⟨h,g⟩|⟨h,g⟩|⟨h,g⟩<;>omega
theorem Z2m {E MG MS MR MQ MP MK MZ:Fn} {x d:Int} {n X D N l1 qh T t M l2:Nat} (hX:X<=2147483648) (hD:D<=2147483648) (hn:0<n/\n<=4611686018427387904)
  (z1:MZ [I x]=some [U X]) (z2:MZ [I d]=some [U D]) (hk:MK [I 2]=some [B true]) (a2:MP [U ((2*(X*D):Nat):Int),U ((2*(X*D):Nat):Int)]=some [U N,U l1])
  (a3:MQ [U N,U l1,U n]=some [U qh,U T,B (decide (0<2*(X*D)*(2*(X*D))%n))]) (a4:qh*w64+T=2*(X*D)*(2*(X*D))/n) (a5:T<w64) (a6:MR [U qh,U T]=some [U t]) (a0:t<w64)
  (a7:MP [U t,U t]=some [U M,U l2]) (a8:M*w64+l2=t*t) (a9:l2<w64) (hs:MS [I x,I d]=some [I (sgn x d)])
  (hg:∀(more:Int) (some_ neg:Bool),MG [I 2,I more,B some_,B neg]=some [B (if more>0 then true else if more=0 then !neg else false)])
  (g1:∀{n:Nat},n<9223372036854775808->E [U n,B false]=some [I n,B true]) (g2:∀{n:Nat},n<=9223372036854775808->E [U n,B true]=some [I (-(n:Int)),B true]) {J:Nat}
  (O:t%2=1->(¬(2*(X*D)*(2*(X*D))%n=0/\t*t=2*(X*D)*(2*(X*D))/n)\/ ¬sgn x d<0)->J=t/2+1) (S: ¬(t%2=1/\(¬(2*(X*D)*(2*(X*D))%n=0/\t*t=2*(X*D)*(2*(X*D))/n)\/ ¬sgn x d<0))->J=t/2) (b2:t<=9223372036854775808):
  Xp E MG MS MR MQ MP MK MZ [I x,I d,I n,I 2]=some [I (if sgn x d<0 then-(J:Int)else J),B true]:=by
 have b3:X*D<=2147483648*2147483648:=dl hX hD;have w1:wrap .u64 (2*wrap .u64 ((X:Int)*(D:Int)))=((2*(X*D):Nat):Int):=by
  rw[<-Int.natCast_mul,wr (by omega),show(2:Int)*((X*D:Nat):Int)=((2*(X*D):Nat):Int) by omega,wr (by omega)]
 have w2:wrap .u64 (n:Int)=n:=wr (by omega);have w3:((t:Int)).tdiv 2=((t/2:Nat):Int):=Zk t 2;have w4:wrap .u64 ((t/2:Nat):Int)=((t/2:Nat):Int):=wr (by rw[BV]at a0;omega);have w5:wrap .u64 (((t/2:Nat):Int)+1)=((t/2+1:Nat):Int):=by rw[show((t/2:Nat):Int)+1=((t/2+1:Nat):Int) by omega,wr (by rw[BV]at a0;omega)]
 have w6:((t:Int).tmod 2=1)=(t%2=1):=by
  rw[Int.tmod_eq_emod_of_nonneg (by omega)];exact propext ⟨by omega,by omega⟩
 have b0:∀(neg:Bool) (k:Nat),k<9223372036854775808->E [U k,B neg]=some [I (if neg=true then-(k:Int)else k),B true]:=by
  intro neg k hk;cases neg
  ·exact g1 hk
  ·exact g2 (by omega)
 have key:∀(neg:Bool) (k:Nat),decide (sgn x d<0)=neg->J=k->k<9223372036854775808->E [U k,B neg]=some [I (if sgn x d<0 then-(J:Int)else J),B true]:=by
  intro neg k N M h3;rw[b0 neg k h3,M];congr 3;by_cases c:sgn x d<0
  ·rw[aa c,aa (by rw[<-N];exact al c)]
  ·rw[ab c,ab (by rw[<-N];simpa using c)]
 have b1:(M=qh/\l2=T)↔t*t=2*(X*D)*(2*(X*D))/n:=by
  rw[<-a8,<-a4];constructor
  ·rintro⟨rfl,rfl⟩;rfl
  ·intro h;have a1:∀p q u v:Nat,u<w64->v<w64->p*w64+u=q*w64+v->p=q/\u=v:=by
    intro p q u v hu hv h;rcases Nat.lt_trichotomy p q with c|c|c
    ·have:=bf w64 (show p+1<=q from c);rw[Nat.succ_mul]at this;omega
    ·subst c;exact⟨rfl,by omega⟩
    ·have:=bf w64 (show q+1<=p from c);rw[Nat.succ_mul]at this;omega
   exact a1 _ _ _ _ a9 a5 h
 rw[Zgs];simp only[go_sem,z1,z2,hk,w1,w2,a2,a3,a6,hs,a7,w3,w4,w5,hg];rw[ab (by omega),ab (by omega),ab (by omega),ab (by omega),ab (by simp)];have L:t/2+1<9223372036854775808:=by omega
 have V:∀k:Nat,J=k->k<9223372036854775808->((E [U (k:Int),B (decide (sgn x d<0))]).bind λo=>some [I (Af (nth .dead o 0)),B (C_ (nth .dead o 1))])=some [I (if sgn x d<0 then-(J:Int)else J),B true]:=by
  intro k N M;rw[key _ k rfl N M];rfl
 have e3:((M:Int)=qh/\(l2:Int)=T/\True)=(t*t=2*(X*D)*(2*(X*D))/n):=by
  rw[<-propext b1];exact propext ⟨λh=>⟨by omega,by omega⟩,λh=>⟨by omega,by omega,trivial⟩⟩
 simp only[e3,w6];have Y:((1:Int)>0)=True:=by simp
 have n2:((-1:Int)>0)=False:=by simp
 have n3:((-1:Int)=0)=False:=by simp
 have n4:((0:Int)>0)=False:=by simp
 by_cases cR:2*(X*D)*(2*(X*D))%n=0
 ·rw[ab (show¬0<2*(X*D)*(2*(X*D))%n by omega)];by_cases G:t%2=1
  ·by_cases cE:t*t=2*(X*D)*(2*(X*D))/n
   ·by_cases cn:sgn x d<0
    ·have:=S (λh=>h.2.elim (λg=>g ⟨cR,cE⟩) λg=>g cn);simp only[Y,n2,n3,n4,Bool.false_eq_true,G,cE,not_true_eq_false,if_true,if_false];rw[ab (by simp[cn])];exact V _ this (by omega)
    ·have:=O G (.inr cn);simp only[Y,n2,n3,n4,Bool.false_eq_true,G,cE,not_true_eq_false,if_true,if_false];rw[aa (by simp;omega)];exact V _ this L
   ·have:=O G (.inl λg=>cE g.2);simp only[Y,n2,n3,n4,Bool.false_eq_true,G,cE,not_true_eq_false,not_false_eq_true,if_true,if_false];exact V _ this L
  ·have:=S (λh=>G h.1);simp only[Y,n2,n3,n4,Bool.false_eq_true,G,if_false,ite_self];exact V _ this (by omega)
 ·rw[aa (show 0<2*(X*D)*(2*(X*D))%n by omega)];by_cases G:t%2=1
  ·have:=O G (.inl λg=>cR g.1);simp only[Y,n2,n3,n4,Bool.false_eq_true,G,not_false_eq_true,if_true];exact V _ this L
  ·have:=S (λh=>G h.1);simp only[Y,n2,n3,n4,Bool.false_eq_true,G,not_false_eq_true,if_true,if_false];exact V _ this (by omega)
theorem Zwz {x d:Int} {n:Nat} {J:Nat} (M:0<n) (N:0<=d) (E:E5 (x.natAbs*d.natAbs) n (decide (x*d<0)) J):(if x*d<0 then-(J:Int)else J)=Ci x d n:=by
 unfold Ci;rw[Int.natAbs_natCast];by_cases I:x<0
 ·rw[aa I];by_cases L:d=0
  ·subst L;rw[Int.mul_zero,ab (by omega)];rw[show x.natAbs*(0:Int).natAbs=0 from by simp]at E⊢;have e1:E5 0 n true 0:=⟨.inl rfl,by simp⟩;rw[R0 e1];obtain⟨G,-⟩:=E;rw[am (by simp)]at G;simp only[Bool.false_eq_true,if_false]at G;rcases G with G|G
   ·omega
   ·rcases Nat.eq_zero_or_pos J with O|O
    ·omega
    ·have S:=Nat.mul_pos (Nat.mul_pos (show 0<2*J-1 by omega) (show 0<2*J-1 by omega)) M;omega
  ·have D:x*d<0:=Int.mul_neg_of_neg_of_pos I (by omega);rw[al D]at E;rw[aa D,R0 E]
 ·rw[ab I];have D: ¬x*d<0:=by have:=Int.mul_nonneg (show 0<=x by omega) N;omega
  rw[am D]at E;rw[ab D,R0 E]
theorem Yg {x d n:Int} (hx:x.natAbs<=2147483648) (hd:0<=d/\d<=2147483648) (hn:0<n/\n<=4611686018427387904):IW [I x,I d,I n,I 2]=some [I (Ci x d n),B true]:=by
 obtain⟨N,rfl⟩:=bv (show 0<=n by omega);have hD:d.natAbs<=2147483648:=by omega
 have a1:x.natAbs*d.natAbs<=2147483648*2147483648:=dl hx hD;have L:0<N/\N<=4611686018427387904:=by omega
 have O:2*(x.natAbs*d.natAbs)<w64:=by rw[BV];omega
 obtain⟨G,l1,e1,e2,e3⟩:=Pd O O;have S:N<w64:=by rw[BV];omega
 have T:G<w64:=by
  have:=Nat.mul_lt_mul'' O O;rw[<-e2]at this;by_cases c:G<w64
  ·exact c
  ·have:=bf w64 (show w64<=G by omega);omega
 obtain⟨qh,ql,q1,q2,q3,U⟩:=Zis (M:=G9) Za2 T e3 L.1 S;rw[e2]at q1 U;obtain⟨t,r1,V,r3,Y⟩:=Zc0 q2 q3;rw[U]at V r3;obtain⟨h2,l2,p1,p2,p3⟩:=Pd Y Y;have ht:t<=9223372036854775808:=by
  have k1:t*t<=2*(x.natAbs*d.natAbs)*(2*(x.natAbs*d.natAbs)):=cg V (Nat.div_le_self _ _);have k2:=Nat.mul_self_le_mul_self_iff.1 k1;omega
 have hi:=Zs1 L.1 V r3 (decide (x*d<0)) (E:=2*(x.natAbs*d.natAbs)*(2*(x.natAbs*d.natAbs))%N=0/\t*t=2*(x.natAbs*d.natAbs)*(2*(x.natAbs*d.natAbs))/N) Iff.rfl;have J:=Zwz L.1 hd.1 hi;rw[<-J];have:= @Zhk x d;have a0:∀a:Int,(if x*d<0 then-a else a)=if sgn x d<0 then-a else a:=by
  intro a;by_cases c:x*d<0
  ·rw[aa c,aa (this.2 c)]
  ·rw[ab c,ab (λh=>c (this.1 h))]
 rw[a0];refine Z2m (X:=x.natAbs) (D:=d.natAbs) hx hD L (I4 (by unfold i64;omega)) (I4 (by unfold i64;omega)) (Qi9 (.inr (.inr rfl))) e1 q1 U q3 r1 Y p1 p2 p3 (Yn x d) Zba Qfr Qv1 (λG h2=> ?_) (λh=> ?_) ht
 ·rw[aa ⟨G,h2.imp id λh=>am λg=>h (this.2 g)⟩]
 ·rw[ab λg=>h ⟨g.1,g.2.imp id λk g2=>by rw[decide_eq_false_iff_not]at k;exact k (this.1 g2)⟩]
theorem Q8z {a b:Pt} (D:bd 67108864 a) (hb:bd 67108864 b):
    wrap .i64 (wrap .i64 (wrap .i64 (0+wrap .i64 (wrap .i64 (a.x-b.x)*wrap .i64 (a.x-b.x)))+wrap .i64 (wrap .i64 (a.y-b.y)*wrap .i64 (a.y-b.y)))+wrap .i64 (wrap .i64 (a.z-b.z)*wrap .i64 (a.z-b.z)))=sqD a b:=by
  have h:∀x y:Int,x.natAbs<=67108864->y.natAbs<=67108864->0<=(x-y)*(x-y)/\(x-y)*(x-y)<=18014398509481984:=by
    intro x y E G;exact D6 (x:=x-y) (A:=134217728) (by omega)
  have I:=h _ _ D.1 hb.1;have J:=h _ _ D.2.1 hb.2.1;have L:=h _ _ D.2.2 hb.2.2;obtain⟨a1,a2,a3⟩:=D;obtain⟨b1,b2,b3⟩:=hb;rw[Ae (x:=a.x-b.x) (by omega),Ae (x:=a.y-b.y) (by omega),Ae (x:=a.z-b.z) (by omega)];unfold sqD JN Hy;simp only;generalize(a.x-b.x)*(a.x-b.x)=u at*;generalize(a.y-b.y)*(a.y-b.y)=v at*;generalize(a.z-b.z)*(a.z-b.z)=w at*;rw[Ae (x:=u) (by omega),Ae (x:=0+u) (by omega),Ae (x:=v) (by omega),Ae (x:=0+u+v) (by omega),Ae (x:=w) (by omega),Ae (by omega),Int.zero_add]
theorem Zh2 {M:Fn} {a b:Pt} {n:Nat} (E:bd 67108864 a) (hb:bd 67108864 b) (D:sqD a b=n)
    (G:∃r:Nat,M [I n,I 1]=some [I ((if((1:Int)=1/\r*r<n)\/((1:Int)=2/\r*r+r<n)then r+1 else r:Nat):Int),B true]/\r*r<=n/\n<(r+1)*(r+1)):
    WF M [I a.x,I a.y,I a.z,I b.x,I b.y,I b.z]=some [I (AH a b)]:=by
  obtain⟨r,J,L,N⟩:=G;have O:=Q2f L N;rw[Zwx,Q8z E hb,D];simp only[go_sem,J];unfold AH;rw[D,Zcm O];congr 3;by_cases c:r*r<n
  · rw[aa (.inl ⟨trivial,c⟩),aa c]
  · rw[ab (by simp[c]),ab c]
theorem Qdf {a b:Pt} (D:bd 67108864 a) (hb:bd 67108864 b):Jy [I a.x,I a.y,I a.z,I b.x,I b.y,I b.z]=some [I (AH a b)]:=by
  have E:=Qf a b;have J:=P9 D hb (co _);obtain⟨n,G⟩:=bv E;exact Zh2 D hb G (Qwv (by omega) (.inl rfl))
theorem Z7b {MO:Fn} {a b:Spk} {u w:Int} (L:okS a) (hb:okS b) (M:u.natAbs<=100000000) (N:w.natAbs<=100000000)
    (O: ¬(u=0/\w=0)->MO [I u,I (hf a.r b.r),I (sq2 u w),I 2]=some [I (Ci u (hf a.r b.r) (sq2 u w)),B true]/\MO [I w,I (hf a.r b.r),I (sq2 u w),I 2]=some [I (Ci w (hf a.r b.r) (sq2 u w)),B true]):
    (bif u == 0 then
      bif w==0 then some [AC.int IntKind.i64 0,AC.int IntKind.i64 0,AC.int IntKind.i64 0,AC.int IntKind.i64 0,AC.bool false]
      else(MO [AC.int IntKind.i64 u,AC.int IntKind.i64 ((wrap .i64 (wrap .i64 (a.r+b.r)+1)).fdiv (2^min (Int.toNat 1) IntKind.i64.bits)),AC.int IntKind.i64 (wrap .i64 (wrap .i64 (u*u)+wrap .i64 (w*w))),AC.int IntKind.i64 2]).bind λD=>
       (MO [AC.int IntKind.i64 w,AC.int IntKind.i64 ((wrap .i64 (wrap .i64 (a.r+b.r)+1)).fdiv (2^min (Int.toNat 1) IntKind.i64.bits)),AC.int IntKind.i64 (wrap .i64 (wrap .i64 (u*u)+wrap .i64 (w*w))),AC.int IntKind.i64 2]).bind λE=>
       some [AC.int IntKind.i64 (Af (nth AC.dead D 0)),AC.int IntKind.i64 (Af (nth AC.dead E 0)),AC.int IntKind.i64 ((wrap .i64 (wrap .i64 (a.r+b.r)+1)).fdiv (2^min (Int.toNat 1) IntKind.i64.bits)),AC.int IntKind.i64 ((wrap .i64 (wrap .i64 (a.h+b.h)+1)).fdiv (2^min (Int.toNat 1) IntKind.i64.bits)),AC.bool true]
     else(MO [AC.int IntKind.i64 u,AC.int IntKind.i64 ((wrap .i64 (wrap .i64 (a.r+b.r)+1)).fdiv (2^min (Int.toNat 1) IntKind.i64.bits)),AC.int IntKind.i64 (wrap .i64 (wrap .i64 (u*u)+wrap .i64 (w*w))),AC.int IntKind.i64 2]).bind λD=>
       (MO [AC.int IntKind.i64 w,AC.int IntKind.i64 ((wrap .i64 (wrap .i64 (a.r+b.r)+1)).fdiv (2^min (Int.toNat 1) IntKind.i64.bits)),AC.int IntKind.i64 (wrap .i64 (wrap .i64 (u*u)+wrap .i64 (w*w))),AC.int IntKind.i64 2]).bind λE=>
       some [AC.int IntKind.i64 (Af (nth AC.dead D 0)),AC.int IntKind.i64 (Af (nth AC.dead E 0)),AC.int IntKind.i64 ((wrap .i64 (wrap .i64 (a.r+b.r)+1)).fdiv (2^min (Int.toNat 1) IntKind.i64.bits)),AC.int IntKind.i64 ((wrap .i64 (wrap .i64 (a.h+b.h)+1)).fdiv (2^min (Int.toNat 1) IntKind.i64.bits)),AC.bool true])=
    some (Dp (HX a b u w)++[B (decide (¬(u=0/\w=0)))]):=by
  have q1:=D6 M;have q2:=D6 N;have e:wrap .i64 (wrap .i64 (u*u)+wrap .i64 (w*w))=sq2 u w:=by
    unfold sq2;generalize u*u=x at*;generalize w*w=y at*;rw[Ae (x:=x) (by omega),Ae (x:=y) (by omega),Ae (by omega)]
  have S:(wrap .i64 (wrap .i64 (a.r+b.r)+1)).fdiv (2^min (Int.toNat 1) IntKind.i64.bits)=hf a.r b.r:=by
    have T:=L.2.2.1;have U:=hb.2.2.1;rw[Ae (x:=a.r+b.r) (by omega),Ae (x:=a.r+b.r+1) (by omega),show(2^min (Int.toNat 1) IntKind.i64.bits:Int)=2 from rfl,Int.fdiv_eq_ediv_of_nonneg _ (by omega)];rfl
  have V:(wrap .i64 (wrap .i64 (a.h+b.h)+1)).fdiv (2^min (Int.toNat 1) IntKind.i64.bits)=hf a.h b.h:=by
    have T:=L.2.2.2;have U:=hb.2.2.2;rw[Ae (x:=a.h+b.h) (by omega),Ae (x:=a.h+b.h+1) (by omega),show(2^min (Int.toNat 1) IntKind.i64.bits:Int)=2 from rfl,Int.fdiv_eq_ediv_of_nonneg _ (by omega)];rfl
  simp only[S,V,e];simp only[go_sem];unfold HX;by_cases h:u=0/\w=0
  · rw[aa h.1,aa h.2,aa h]
    simp[h]
  · obtain⟨X,Y⟩:=O h
    rw[ab h];simp only[X,Y,go_sem];have hd:decide (¬(u=0/\w=0))=true:=al h;rw[hd];by_cases G:u=0
    · rw[aa G,ab (λJ=>h ⟨G,J⟩)];try rfl
    · rw[ab G];try rfl
theorem Zjx {J S T:Fn} {a b:Spk} (M:okS a) (hb:okS b) {dir:Int} (E:dir=1\/dir= -1) (full:Bool)
    (hO:∀{u w:Int},u.natAbs<=100000000->w.natAbs<=100000000-> ¬(u=0/\w=0)->J [I u,I (hf a.r b.r),I (sq2 u w),I 2]=some [I (Ci u (hf a.r b.r) (sq2 u w)),B true]/\J [I w,I (hf a.r b.r),I (sq2 u w),I 2]=some [I (Ci w (hf a.r b.r) (sq2 u w)),B true])
    (hC:S [I a.u,I a.w,I a.r,I a.h,I b.u,I b.w,I b.r,I b.h]=some [I (crs a.u a.w b.u b.w)]) (hD:T [I a.u,I a.w,I a.r,I a.h,I b.u,I b.w,I b.r,I b.h]=some [I (dt2 a.u a.w b.u b.w)])
    (a0:(crs a.u a.w b.u b.w).natAbs<=5000000000000000):
    Qer J S T [I a.u,I a.w,I a.r,I a.h,I b.u,I b.w,I b.r,I b.h,I dir,B full]=some (Dp (Fd a b dir full)++[B (decide (¬((DR a b dir full).1=0/\(DR a b dir full).2=0)))]):=by
  have key:=fun{u w:Int} (U:u.natAbs<=100000000) (V:w.natAbs<=100000000)=>Z7b (MO:=J) (a:=a) (b:=b) M hb U V (hO U V);have G:=OK M hb E full;obtain⟨a1,a2,-⟩:=M;obtain⟨b1,b2,-⟩:=hb;have w1:wrap .i64 (0-a.u)= -a.u:=by rw[Ae (by omega)];omega
  have w2:wrap .i64 (0-a.w)= -a.w:=by rw[Ae (by omega)];omega
  have w3:wrap .i64 (a.u+b.u)=a.u+b.u:=Ae (by omega);have w4:wrap .i64 (a.w+b.w)=a.w+b.w:=Ae (by omega);have w5:wrap .i64 (0-(a.u+b.u))= -(a.u+b.u):=by rw[Ae (by omega)];omega
  have w6:wrap .i64 (0-(a.w+b.w))= -(a.w+b.w):=by rw[Ae (by omega)];omega
  have w7:wrap .i64 (b.w-a.w)=b.w-a.w:=Ae (by omega);have w8:wrap .i64 (a.u-b.u)=a.u-b.u:=Ae (by omega);have w9:wrap .i64 (dir*(b.w-a.w))=dir*(b.w-a.w):=by rcases E with rfl|rfl<;>exact Ae (by omega)
  have N:wrap .i64 (dir*(a.u-b.u))=dir*(a.u-b.u):=by rcases E with rfl|rfl<;>exact Ae (by omega)
  have O:wrap .i64 (crs a.u a.w b.u b.w*dir)=crs a.u a.w b.u b.w*dir:=by rcases E with rfl|rfl<;>exact Ae (by omega)
  rw[Zoe];try dsimp only[go_sem]
  unfold Fd;simp only[w1,w2,w3,w4,w5,w6,w7,w8,w9,N,hC,hD,ag,Ik,H5,gA,jA,wA,bA,O];have fin:∀{x:Option (List AC)},x=some (Dp (HX a b (DR a b dir full).1 (DR a b dir full).2)++[B (decide (¬((DR a b dir full).1=0/\(DR a b dir full).2=0)))])->
      (bif dir !=1 then bif dir != -1 then some [AC.int IntKind.i64 0,AC.int IntKind.i64 0,AC.int IntKind.i64 0,AC.int IntKind.i64 0,AC.bool false]else x else x)=some (Dp (HX a b (DR a b dir full).1 (DR a b dir full).2)++[B (decide (¬((DR a b dir full).1=0/\(DR a b dir full).2=0)))]):=by
    intro x X;rcases E with rfl|rfl
    · rw[Bn (by decide)];exact X
    · rw[BO (by decide),Bn (by decide)];exact X
  refine fin ?_;have D:=key G.1 G.2;unfold DR at*;cases full
  · simp only[an,Bool.false_eq_true,if_false]at D⊢
    by_cases L:0<dt2 a.u a.w b.u b.w
    · rw[A_ (show¬dt2 a.u a.w b.u b.w<=0 by omega)]
      by_cases Y:0<crs a.u a.w b.u b.w*dir
      · rw[A_ (show¬crs a.u a.w b.u b.w*dir<=0 by omega)]
        rw[aa ⟨L,Y⟩]at D⊢;exact D
      · rw[Ee (show crs a.u a.w b.u b.w*dir<=0 by omega)]
        rw[ab (λh=>Y h.2),aa L]at D⊢;exact D
    · rw[Ee (show dt2 a.u a.w b.u b.w<=0 by omega)]
      rw[ab (λh=>L h.1),ab L]at D⊢;exact D
  · simp only[ai,if_true]at D⊢
    exact D
theorem Z5p {u w r:Int} (D:u.natAbs<=100000000) (E:w.natAbs<=100000000) (G:0<=r/\r<=50000000) (h: ¬(u=0/\w=0)):
    IW [I u,I r,I (sq2 u w),I 2]=some [I (Ci u r (sq2 u w)),B true]/\IW [I w,I r,I (sq2 u w),I 2]=some [I (Ci w r (sq2 u w)),B true]:=by
  have J:=R5 h;have L:=D6 D;have M:=D6 E;have N:sq2 u w<=20000000000000000:=by unfold sq2;omega
  exact⟨Yg (by omega) (by omega) (by omega),Yg (by omega) (by omega) (by omega)⟩
theorem Zkw {a b:Spk} (D:okS a) (hb:okS b) {dir:Int} (E:dir=1\/dir= -1) (full:Bool):
    Ni [I a.u,I a.w,I a.r,I a.h,I b.u,I b.w,I b.r,I b.h,I dir,B full]=some (Dp (Fd a b dir full)++[B (decide (¬((DR a b dir full).1=0/\(DR a b dir full).2=0)))]):=by
  have G:=(Q22 D.1 D.2.1 hb.1 hb.2.1).2;exact Zjx D hb E full (λJ L h=>Z5p J L (Q4h D.2.2.1 hb.2.2.1) h)
    (Qmi (HH D.1) (HH D.2.1) (HH hb.1) (HH hb.2.1)) (Qjg (HH D.1) (HH D.2.1) (HH hb.1) (HH hb.2.1)) G
def okT (s:Spk):Prop:=okS s/\ ¬(s.u=0/\s.w=0)/\1<=s.r
theorem Qr7 {a b:Spk} (G: ¬(a.u=0/\a.w=0)) (hb: ¬(b.u=0/\b.w=0)) {dir:Int} (I:dir=1\/dir= -1) (full:Bool): ¬((DR a b dir full).1=0/\(DR a b dir full).2=0):=by
  have J:=R5 G;unfold sq2 at J;unfold DR;split
  · simp only;omega
  · rename_i hf
    have key:0<dt2 a.u a.w b.u b.w-> ¬(a.u+b.u=0/\a.w+b.w=0):=by
      intro E ⟨L,M⟩;have e1:b.u= -a.u:=by omega
      have e2:b.w= -a.w:=by omega
      unfold dt2 at E;rw[e1,e2,Int.mul_neg,Int.mul_neg]at E;omega
    split
    · rename_i c;exact key c.1
    · split
      · rename_i N D
        have:=key D;simp only;omega
      · rename_i N D
        simp only;rintro⟨L,M⟩;have e1:b.w=a.w/\a.u=b.u:=by rcases I with rfl|rfl<;>omega
        unfold dt2 at D;rw[e1.1,<-e1.2]at D;omega
theorem Z4q {u w r:Int} (E:u.natAbs<=100000000) (G:w.natAbs<=100000000) (O:1<=r/\r<=50000000) (h: ¬(u=0/\w=0)): ¬(Ci u r (sq2 u w)=0/\Ci w r (sq2 u w)=0):=by
  have S:=R5 h;have T:=D6 E;have U:=D6 G;have V:sq2 u w<=20000000000000000:=by unfold sq2;omega
  obtain⟨I,J⟩:=Q9b u w;have key:∀x:Int,x.natAbs<=100000000->x*x<=sq2 u w->Ci x r (sq2 u w)=0->4*(x*x)<=sq2 u w:=by
    intro x L M N;obtain⟨-,-,D⟩:=Tn (x:=x) (r:=r) (n:=sq2 u w) (cg L (by decide)) (by omega) (by omega) M;rw[N]at D;obtain⟨-,D⟩:=D;have X:4*(x.natAbs*r.natAbs*(x.natAbs*r.natAbs))<=(sq2 u w).natAbs:=by
      rw[show(0:Int).natAbs=0 from rfl]at D;split at D<;>omega
    have e1:x.natAbs*r.natAbs*(x.natAbs*r.natAbs)=x.natAbs*x.natAbs*(r.natAbs*r.natAbs):=by grind
    have Y:x.natAbs*x.natAbs*1<=x.natAbs*x.natAbs*(r.natAbs*r.natAbs):=Nat.mul_le_mul_left _ (dl (show 1<=r.natAbs by omega) (show 1<=r.natAbs by omega));have e2:((x.natAbs*x.natAbs:Nat):Int)=x*x:=Int.natAbs_mul_self;omega
  rintro⟨g1,g2⟩;have k1:=key u E I g1;have k2:=key w G J g2;unfold sq2 at*;omega
theorem Z12 {a b:Spk} (D:okT a) (hb:okT b) {dir:Int} (G:dir=1\/dir= -1) (full:Bool):okT (Fd a b dir full):=by
  have I:=Qr7 D.2.1 hb.2.1 G full;have E:=OK D.1 hb.1 G full;have L:=D.1.2.2.1;have M:=hb.1.2.2.1;have N:=D.2.2;have O:=hb.2.2;have J:1<=hf a.r b.r/\hf a.r b.r<=50000000:=by unfold hf;omega
  refine⟨Qyq D.1 hb.1 G full,?_,?_⟩
  · unfold Fd HX
    rw[ab I];exact Z4q E.1 E.2 J I
  · unfold Fd HX
    rw[ab I];exact J.1
theorem Zy3 {r n:Int} (D:0<=r/\r<=50000000):Oo [I r,I n]=some [B (decide (n<=32*r-64))]:=by
  unfold Oo;rw[Zyu,Ae (x:=8*r) (by omega),Ae (x:=8*r*4) (by omega),Ae (x:=8*r*4-64) (by omega),show 8*r*4-64=32*r-64 by omega]
theorem Zje {G J:Fn} {out:Rw} {a b:Spk} (L:okS a) (hb:okS b) {dir:Int} (O:dir=1\/dir= -1) (full:Bool)
    (S:∀{r n:Int},(0<=r/\r<=50000000)->G [I r,I n]=some [B (decide (n<=32*r-64))])
    (T:J [I a.u,I a.w,I a.r,I a.h,I b.u,I b.w,I b.r,I b.h]=some [I (crs a.u a.w b.u b.w)]) (U:(crs a.u a.w b.u b.w).natAbs<=5000000000000000):
    Qhu G J [.view ED out,I a.u,I a.w,I a.r,I a.h,I b.u,I b.w,I b.r,I b.h,B full,I dir]=some [.view ED out,B (decide (IM a b dir full)),I dir]:=by
  have V:0<=mn a.r b.r/\mn a.r b.r<=50000000:=by
    have X:=L.2.2.1;have Y:=hb.2.2.1;unfold mn;split<;>omega
  obtain⟨a1,a2,-⟩:=L;obtain⟨b1,b2,-⟩:=hb;have M:=IN a1 b1;have N:=IN a2 b2;have q1:=D6 M;have q2:=D6 N;have e:wrap .i64 (wrap .i64 ((a.u-b.u)*(a.u-b.u))+wrap .i64 ((a.w-b.w)*(a.w-b.w)))=sq2 (a.u-b.u) (a.w-b.w):=by
    unfold sq2;generalize(a.u-b.u)*(a.u-b.u)=x at*;generalize(a.w-b.w)*(a.w-b.w)=y at*;rw[Ae (x:=x) (by omega),Ae (x:=y) (by omega),Ae (by omega)]
  have E:wrap .i64 (crs a.u a.w b.u b.w*dir)=crs a.u a.w b.u b.w*dir:=by rcases O with rfl|rfl<;>exact Ae (by omega)
  rw[Zg8,I9 M (by decide),I9 N (by decide),e];cases full
  · simp only[Bool.not_false,ai,T,ag,Ik,H5,gA,jA,wA,bA,E,S V,Qol]
    by_cases c:0<crs a.u a.w b.u b.w*dir
    · rw[Ee (show crs a.u a.w b.u b.w*dir>0 from c)]
      by_cases D:sq2 (a.u-b.u) (a.w-b.w)<=32*mn a.r b.r-64
      · rw[al D,al (show IM a b dir false from⟨rfl,c,D⟩)]
      · rw[am D,am (λh:IM a b dir false=>D h.2.2)]
    · rw[A_ (show¬crs a.u a.w b.u b.w*dir>0 from c),am (λh:IM a b dir false=>c h.2.1)]
  · simp only[Bool.not_true,an]
    rw[am (λh:IM a b dir true=>by cases h.1)]
theorem Zfu {out:Rw} {a b:Spk} (D:okS a) (hb:okS b) {dir:Int} (E:dir=1\/dir= -1) (full:Bool):
    LS [.view ED out,I a.u,I a.w,I a.r,I a.h,I b.u,I b.w,I b.r,I b.h,B full,I dir]=some [.view ED out,B (decide (IM a b dir full)),I dir]:=
  Zje D hb E full Zy3 (Qmi (HH D.1) (HH D.2.1) (HH hb.1) (HH hb.2.1)) (Q22 D.1 D.2.1 hb.1 hb.2.1).2
theorem Qqo {dir:Int} (D:dir=1\/dir= -1):∀(n k:Nat) (full:Bool) (a b:Spk) (out:List Spk),k<=16->k<n->okT a->okT b->out.length+2^k<=1000000->
    OE n [.view ED (out.map Dp),I a.u,I a.w,I a.r,I a.h,I b.u,I b.w,I b.r,I b.h,B full,I (16-k:Int),I dir]=some [.view ED ((out++Ek dir k full a b).map Dp),I dir]
  |0,k,_,_,_,_,_,J,_,_,_=>by omega
  |n+1,0,full,a,b,out,_,_,E,hb,L=>by
    show UG _ _ _ _=_;rw[Qst,A_ (by omega),BO]
    · unfold Ek
      rw[bz];rfl
    · exact Nat.ble_eq_true_of_le (by simp only[ao,af,bh,cx];omega)
  |n+1,k+1,full,a,b,out,J,O,E,hb,L=>by
    have G:=Z12 E hb D full;have M:=Qr7 E.2.1 hb.2.1 D full;have e3:2^(k+1)=2^k+2^k:=by rw[Nat.pow_succ];omega
    have S:0<2^k:=Nat.two_pow_pos _;have T:=(U7 k false a (Fd a b dir full) (dir:=dir)).2;have i1:=Qqo D n k false a (Fd a b dir full) out (by omega) (by omega) E G (by omega);have N:=Qqo D n k false (Fd a b dir full) b (out++Ek dir k false a (Fd a b dir full)) (by omega) (by omega) G hb (by rw[ao];omega);have e1:=Zfu (out:=out.map Dp) E.1 hb.1 D full;have e2:=Zkw E.1 hb.1 D full;rw[al M]at e2;show UG (OE n) Ni LS _=_;generalize OE n=U at*;generalize Ni=V at*;generalize LS=X at*;rw[Qst,Ee (by omega),Ae (by omega),show(16-((k+1:Nat):Int)+1)=16-(k:Int) by omega];unfold Ek;generalize Fd a b dir full=m at*;generalize Ek dir k false a m=Y at*;generalize Ek dir k false m b=p2 at*;simp only[aq,ay,Dp]at e2;simp only[e1,e2,ag,Ik,Mx,L7,Rk,PT,H5,gA,jA,wA,bA,Qol,i1,N,Qoy];by_cases c:IM a b dir full
    · rw[aa c,Bn (by simp[c]),BO]
      · rw[bz];rfl
      · exact Nat.ble_eq_true_of_le (by simp only[ao,af,bh,cx];omega)
    · rw[ab c,BO (by simp[c]),ai,List.append_assoc]
theorem Q21 {it:Itm} {p:Pt} (D:bd 1048576 it.ce) (E:bd 1048576 p) (G:64<=sq2 (dU it p) (dW it p)):okT (E3 it p):=by
 obtain⟨O,S,I,J⟩:=QU D E;have e:sq2 (dU it p*16) (dW it p*16)=256*sq2 (dU it p) (dW it p):=by unfold sq2;grind
 refine⟨T9 D E,?_,?_⟩
 ·show¬(dU it p*16=0/\dW it p*16=0);rintro⟨g1,g2⟩;rw[show dU it p=0 by omega,show dW it p=0 by omega]at G;simp[sq2]at G
 ·show 1<=F_ _;obtain⟨n,L⟩:=bv I;rw[L]at J⊢;obtain⟨r,-,M,N,-⟩:=U2 (n:=n) (by omega);rw[SZ (Ty M N)];have:1<=r:=by
   rcases Nat.eq_zero_or_pos r with h|h
   ·subst h;omega
   ·exact h
  split<;>omega
theorem Zc7 {n:Nat} (J:n<=2251799813685248):Jb [I n,I 2]=some [I (F_ n),B true]:=by
 obtain⟨r,D,E,G⟩:=Qwv (n:=n) (mode:=2) (by omega) (.inr rfl);rw[D,SZ (Ty E G)];congr 3;by_cases c:r*r+r<n
 ·rw[aa (.inr ⟨rfl,c⟩),aa c]
 ·rw[ab (by simp;omega),ab c]
theorem Zz6 {G J L M N:Fn} {it:Itm} (T:∃v,N (Ag it)=some [B v]/\(v=true↔DZ it)) (h:DZ it)
  (U:it.kind=3->M (Ag it)=some [I (dU it it.fr*16),I (dW it it.fr*16),I 0,I (plH it.aF it.fr*16),I (dU it it.to*16),I (dW it it.to*16),I 0,I (plH it.aF it.to*16)])
  (O:∀p:Pt,it.kind=3->(p=it.fr\/p=it.to)->L [I (dU it p*16),I (dW it p*16),I 0,I (plH it.aF p*16),I (dU it p*16),I (dW it p*16),I 0,I (plH it.aF p*16)]=some [I (sq2 (dU it p*16) (dW it p*16))])
  (S:∀p:Pt,it.kind=3->(p=it.fr\/p=it.to)->J [I (sq2 (dU it p*16) (dW it p*16)),I 2]=some [I (F_ (sq2 (dU it p*16) (dW it p*16))),B true])
  (V:it.kind=3->G (.view ED [Dp (E3 it it.fr)]::Dp (E3 it it.fr)++Dp (E3 it it.to)++[B it.full,I 0,I it.dir])=some [.view ED ((Eh it).map Dp),I it.dir]):
  Qns G J L M N (Ag it)=if it.kind=3 then some [.view ED ((Eh it).map Dp),B true]else some [.view ED [],B false]:=by
 obtain⟨v,X,E⟩:=T;rw[Z0h];by_cases D:it.kind=3
 ·have e:=U D;have p:=V D;have Y:=O it.fr D (.inl rfl);have d2:=O it.to D (.inr rfl);have q1:=S it.fr D (.inl rfl);have q2:=S it.to D (.inr rfl);simp only[aq,ay,E3,Dp]at p;simp only[go_sem,X,e,Y,d2,q1,q2,p];rw[ab (by simp[D]),ab (by simp[E.2 h]),aa D]
 ·simp only[go_sem];rw[aa D,ab D]
theorem Zek {it:Itm} (h:DZ it):Pa (Ag it)=if it.kind=3 then some [.view ED ((Eh it).map Dp),B true]else some [.view ED [],B false]:=by
 have hb:it.kind=3->∀p:Pt,(p=it.fr\/p=it.to)->bd 1048576 it.ce/\bd 1048576 p:=by
  intro E p G;obtain⟨-,J,L,M⟩:=h;obtain⟨-,-,D,-⟩:=M E;rcases G with rfl|rfl
  ·exact⟨D,J⟩
  ·exact⟨D,L⟩
 refine Zz6 (Qoa it) h (λE=> ?_) (λp E G=> ?_) (λp E G=> ?_) λE=> ?_
 ·obtain⟨-,J,L,M⟩:=h;obtain⟨G,-,D,-⟩:=M E;exact Zbr G J L D
 ·obtain⟨D,I⟩:=hb E p G;obtain⟨g1,g2,-⟩:=QU D I;exact Qjg (cg g1 (by decide)) (cg g2 (by decide)) (cg g1 (by decide)) (cg g2 (by decide))
 ·obtain⟨D,I⟩:=hb E p G;obtain⟨-,-,N,O⟩:=QU D I;obtain⟨n,S⟩:=bv N;rw[S]at O⊢;exact Zc7 (by omega)
 ·obtain⟨-,J,L,M⟩:=h;obtain⟨G,T,D,U,V,-⟩:=M E;have:=Qqo T 20 16 it.full (E3 it it.fr) (E3 it it.to) [E3 it it.fr] (by omega) (by omega) (Q21 D J U) (Q21 D L V) (show 1+2^16<=1000000 by decide);exact this
theorem Zuk {u w h pl:Int} (E:Dy pl):Np [I u,I w,I h,I pl]=some (ptR (spP pl u w h)):=by
 show Qh4 F2 _=_;have D:=Qf0 pl;generalize F2=M at*;rw[Zvj];rcases E with rfl|rfl|rfl
 ·have e:axI 17=(0,1,2):=rfl;rw[e]at D;rw[D];rfl
 ·have e:axI 18=(2,0,1):=rfl;rw[e]at D;rw[D];rfl
 ·have e:axI 19=(1,2,0):=rfl;rw[e]at D;rw[D];rfl
theorem Zg7 {α:Type} (pre rest:List α) (x z:α):(pre++x::rest).set pre.length z=(pre++[z])++rest:=by
 rw[List.set_append_right _ _ (co _),Nat.sub_self];simp
def EP {α:Type} (f:Nat->α) (z:α) (n i:Nat):List α:=(List.range i).map f++List.replicate (n-i) z
theorem Q8n {α:Type} (f:Nat->α) (z:α) {n i:Nat} (h:i<=n):(EP f z n i).length=n:=by unfold EP;simp;omega
theorem Q3h {α:Type} (f:Nat->α) (z:α) {n i:Nat} (h:i<n):(EP f z n i).set i (f i)=EP f z n (i+1):=by
 unfold EP;have e:n-i=(n-(i+1))+1:=by omega
 rw[e,List.replicate_succ];have:=Zg7 ((List.range i).map f) (List.replicate (n-(i+1)) z) z (f i);rw[af,List.length_range]at this;rw[this,List.range_succ,bz];rfl
theorem Qvr {α:Type} (f:Nat->α) (z:α) (n:Nat):EP f z n n=(List.range n).map f:=by unfold EP;simp
theorem Zg4 {α:Type} (l:List α) (d:α):(List.range l.length).map (λi=>l.getD i d)=l:=by
 apply List.ext_getElem
 ·simp
 ·intro i E D;simp[D]
def Kb:Spk:=⟨0,0,0,0⟩
theorem Qvl {MS MP MF MK MV:Fn} {it:Itm} {l:List Spk} {cu cw:Int} (S:l.length<=65537) (L:cu.natAbs<=16777216) (M:cw.natAbs<=16777216) (G:∀s∈l,okS s)
  (O:∀{u w h:Int},MS [I u,I w,I h,I it.aF]=some (ptR (spP it.aF u w h))) {f:Nat->List AC} (hf:∀i,f i=ptR (spP it.aF (cu+(l.getD i Kb).u) (cw+(l.getD i Kb).w) (l.getD i Kb).h)):
  ∀(k i:Nat),i+k=l.length->Al (Oy MS MP MF MK MV) (.view kPt (EP f [I 0,I 0,I 0] l.length i)::I cu::I cw:: .view ED (l.map Dp)::I l.length::I i::Ag it)=
   some (1,[.view kPt ((List.range l.length).map f)])
 |0,i,T=>by
  refine A7 ?_ (by simp);rw[Q1y];simp only[go_sem];rw[ab (by omega),show i=l.length by omega,Qvr]
 |k+1,i,T=>by
  have D:i<l.length:=by omega
  have U:Oy MS MP MF MK MV (.view kPt (EP f [I 0,I 0,I 0] l.length i)::I cu::I cw:: .view ED (l.map Dp)::I l.length::I i::Ag it)=
    some (0, .view kPt (EP f [I 0,I 0,I 0] l.length (i+1))::I cu::I cw:: .view ED (l.map Dp)::I l.length::I (i+1:Nat)::Ag it):=by
   rw[Q1y];have V:nth [] (l.map Dp) i=Dp l[i]:=IH _ _ _ _ D;have X:=G _ (bm D);have N:=Q8n f [I 0,I 0,I 0] (show i<=l.length by omega);have J:=hf i;rw[show l.getD i Kb=l[i] by simp[D]]at J;have E:=Q3h f [I 0,I 0,I 0] D;rw[J]at E;generalize l[i]=s at*;obtain⟨s1,s2,-⟩:=X;simp only[go_sem,aj,af,V];rw[aa (by omega),aa (by omega),Ae (x:=cu+s.u) (by omega),Ae (x:=cw+s.w) (by omega),Ae (x:=(i:Int)+1) (by omega)];simp only[O,go_sem,N];rw[aa (by omega),E];rfl
  rw[Bv U];exact Qvl S L M G O hf k (i+1) (by omega)
theorem Zwr {MS E G J L:Fn} {N:Lp} {it:Itm} {S:List Spk} {C:Rw} {f:Pt} {u w h:Int} (M:L (Ag it)=some [B true])
  (O:J (Ag it)=some [.view ED (S.map Dp),B true]) (hf:G [I it.ce.x,I it.ce.y,I it.ce.z]=some (ptR f)) (D:E [I f.x,I f.y,I f.z,I it.aF]=some [I u,I w,I h]) (U:S.length<=65537)
  (T:N [.view kPt (List.replicate S.length [I 0,I 0,I 0]),I u,I w, .view ED (S.map Dp),I S.length,I 0,I it.kind,I it.block,I it.fr.x,I it.fr.y,I it.fr.z,I it.to.x,I it.to.y,I it.to.z,I it.aF,I it.ce.x,I it.ce.y,I it.ce.z,I it.dir,B it.full,I it.feed,B it.perRev,I it.side,I it.radius,I it.blend,I it.n,I it.speed,B it.on]=some (1,[.view kPt C])):
  Up MS E G J L N (Ag it)=some [.view kPt C,B true]:=by
 rw[VT];simp only[go_sem,M,O,hf,D,af,aj,T];rw[ab (by simp),ab (by simp),aa (by omega)]
theorem Z5b {D G J L M:Fn} {it:Itm} (hV:∃v,M (Ag it)=some [B v]/\(v=true↔DZ it)) (h:DZ it)
  (T:L (Ag it)=if it.kind=3 then some [.view ED ((Eh it).map Dp),B true]else some [.view ED [],B false])
  (U:∀{p:Pt},bd 100000000 p->J [I p.x,I p.y,I p.z]=some (ptR (Az p))) (hP:Dy it.aF->∀{p:Pt},G [I p.x,I p.y,I p.z,I it.aF]=some [I (plU it.aF p),I (plW it.aF p),I (plH it.aF p)])
  (hS:Dy it.aF->∀{u w h:Int},D [I u,I w,I h,I it.aF]=some (ptR (spP it.aF u w h))):
  Up D G J L M (Al (Oy D G J L M)) (Ag it)=some [.view kPt ((CK it).map ptR),B true]:=by
 obtain⟨v,hv,V⟩:=hV;rw[VT];have X:=V.2 h;subst X;obtain⟨-,h1,h2,ha⟩:=id h;by_cases E:it.kind=3
 ·obtain⟨hp,hd,hc,-⟩:=ha E;rw[aa E]at T;obtain⟨c1,c2,c3⟩:=Ia (pl:=it.aF) (FK hc);have O:=(Qxi it).2;have Y:=Qvl (MS:=D) (MP:=G) (MF:=J) (MK:=L) (MV:=M) (it:=it) (l:=Eh it) (cu:=plU it.aF (Az it.ce)) (cw:=plW it.aF (Az it.ce)) O c1 c2 (Q6w h E) (hS hp)
   (f:=λi=>ptR (JR it ((Eh it).getD i Kb))) (λ_=>rfl) (Eh it).length 0 (by omega)
  have S:(List.range (Eh it).length).map (λi=>ptR (JR it ((Eh it).getD i Kb)))=((Eh it).map (JR it)).map ptR:=by
   rw[List.map_map]
   conv=>rhs;rw[<-Zg4 (Eh it) Kb]
   rw[List.map_map];rfl
  rw[S]at Y;have a0:EP (λi=>ptR (JR it ((Eh it).getD i Kb))) [I 0,I 0,I 0] (Eh it).length 0=List.replicate (Eh it).length [I 0,I 0,I 0]:=by unfold EP;simp
  rw[a0]at Y;have hf:=U (A6 hc (by decide));have a1:= @hP hp (Az it.ce);have:=Zwr (MS:=D) (N:=Al (Oy D G J L M)) hv T hf a1 O Y;rw[VT]at this;unfold CK;rw[aa E];exact this
 ·rw[ab E]at T;have f1:=U (A6 h1 (by decide));have f2:=U (A6 h2 (by decide));unfold CK;rw[ab E];simp only[go_sem,hv,T,f1,f2];simp
theorem Z61 {it:Itm} (h:DZ it):P1 (Ag it)=some [.view kPt ((CK it).map ptR),B true]:=
 Z5b (Qoa it) h (Zek h) Q26 (λD=>Qwe D) (λD=>Zuk D)
theorem Z1b {L:Fn} {c a:Pt} {d:Int} (D:bd B24 c) (E:bd B24 a) (G:a≠c) (M:0<=d/\d<=33554432)
  (J:∀{x:Int},x.natAbs<=33554432*4->x*x<=sqD a c->L [I x,I d,I (sqD a c),I 2]=some [I (Ci x d (sqD a c)),B true]/\(Ci x d (sqD a c)).natAbs<=268435456):
  Qqn L [I c.x,I c.y,I c.z,I a.x,I a.y,I a.z,I d]=some (ptR (B4 c a d)++[B true]):=by
 obtain⟨T,U,V⟩:=Q83 a c;have N:=IN E.1 D.1;have O:=IN E.2.1 D.2.1;have S:=IN E.2.2 D.2.2;obtain⟨X,b1⟩:=J (x:=a.x-c.x) (cg N (by decide)) T;obtain⟨Y,b2⟩:=J (x:=a.y-c.y) (cg O (by decide)) U;obtain⟨n3,b3⟩:=J (x:=a.z-c.z) (cg S (by decide)) V;have h6: ¬d<0:=Int.not_lt.2 M.1;have h7: ¬d>33554432:=Int.not_lt.2 M.2;rw[Zgn,Q8z (A6 E (by decide)) (A6 D (by decide)),I9 N (by decide),I9 O (by decide),I9 S (by decide)];simp only[go_sem,X,Y,n3];rw[ab (λh=>G (DT.2 ⟨h.1,h.2.1,h.2.2.1⟩)),ab h6,ab h7];rw[I9 (TZ D.1 b1) (by decide),I9 (TZ D.2.1 b2) (by decide),I9 (TZ D.2.2 b3) (by decide)];rfl
theorem YP {c a:Pt} {d:Int} (E:bd B24 c) (G:bd B24 a) (D:a≠c) (L:0<=d/\d<=33554432):
  Hg [I c.x,I c.y,I c.z,I a.x,I a.y,I a.z,I d]=some (ptR (B4 c a d)++[B true]):=by
 have N:sqD a c≠0:=λh=>D (Qei.1 h);have O:=Qf a c;have S:=P9 (A6 G (by decide)) (A6 E (by decide)) (show 67108864<=67108864 by omega);refine Z1b E G D L fun{x} J M=> ?_;obtain⟨-,g2,-⟩:=Tn J (r:=d) (by omega) (n:=sqD a c) (by omega) M;exact⟨Yg (cg J (by decide)) (by omega) (by omega),g2⟩
theorem Qvd {p c q:Pt} (D:bd B24 p) (E:bd B24 c) (G:bd B24 q):Hn [I p.x,I p.y,I p.z,I c.x,I c.y,I c.z,I q.x,I q.y,I q.z]=some [I (HS p c q)]:=by
 have hb:=Zq3 D E G;have g1:=D6 hb.1;have g2:=D6 hb.2.1;have J:=D6 hb.2.2;unfold Hn;unfold bd B24 at D E G;have w:∀u v c:Int,u.natAbs<=16777216->v.natAbs<=16777216->c.natAbs<=16777216->wrap .i64 (wrap .i64 (u+v)-wrap .i64 (2*c))=u-c+(v-c):=by
  intro u v c L M N;rw[Ae (x:=u+v) (by omega),Ae (x:=2*c) (by omega),Ae (by omega)];omega
 rw[Zye,w _ _ _ D.1 G.1 E.1,w _ _ _ D.2.1 G.2.1 E.2.1,w _ _ _ D.2.2 G.2.2 E.2.2];have e1:p.x-c.x+(q.x-c.x)=(GM p c q).x:=rfl;have e2:p.y-c.y+(q.y-c.y)=(GM p c q).y:=rfl;have e3:p.z-c.z+(q.z-c.z)=(GM p c q).z:=rfl;rw[e1,e2,e3];unfold HS JN;generalize(GM p c q).x*(GM p c q).x=u at*;generalize(GM p c q).y*(GM p c q).y=v at*;generalize(GM p c q).z*(GM p c q).z=w at*;rw[Ae (x:=u) (by omega),Ae (x:=0+u) (by omega),Ae (x:=v) (by omega),Ae (x:=0+u+v) (by omega),Ae (x:=w) (by omega),Ae (by omega),Int.zero_add]
open Classical in
theorem Zs5 {O S ML:Fn} {a c b:Pt} {D d e bit:Int} (T:bd B24 a) (U:bd B24 c) (hb:bd B24 b) (E:a≠c) (G:b≠c) (M:0<=D/\D<=16000) (hd:0<=d/\d+e<=33554432) (he:0<e) (J:e.fdiv (2^min (Int.toNat 1) IntKind.i64.bits)=bit)
  (l3:0<=AH a c/\AH a c<=268435456) (l4:0<=AH c b/\AH c b<=268435456)
  (V:∀{a:Pt} {d:Int},bd B24 a->a≠c->0<=d/\d<=33554432->S [I c.x,I c.y,I c.z,I a.x,I a.y,I a.z,I d]=some (ptR (B4 c a d)++[B true]))
  (hB:∀{p q:Pt},bd B24 p->bd B24 q->O [I p.x,I p.y,I p.z,I c.x,I c.y,I c.z,I q.x,I q.y,I q.z]=some [I (HS p c q)]):
  N0 O S ML [I D,I (mn (AH a c) (AH c b)-2),I d,I e,I a.x,I a.y,I a.z,I c.x,I c.y,I c.z,I b.x,I b.y,I b.z]=
   some (0,[I D,I (mn (AH a c) (AH c b)-2),I (if Hz a c b D (d+e)then d+e else d),I bit,I a.x,I a.y,I a.z,I c.x,I c.y,I c.z,I b.x,I b.y,I b.z]):=by
 obtain⟨m1,m2⟩:=U8 (AH a c) (AH c b);have a0:0<=16*D*D/\16*D*D<=4096000000:=by
  have:=dm (show 16*D<=256000 by omega) M.2 M.1 (by omega);exact⟨Int.mul_nonneg (by omega) M.1,by omega⟩
 rw[Q5s,J,Ae (x:=d+e) (by omega),Ee he,Ae (x:=16*D) (by omega),Ae (x:=16*D*D) (by omega)];by_cases h:d+e>mn (AH a c) (AH c b)-2
 ·rw[Ee h,ab (λN:Hz a c b D (d+e)=>by have:=N.1;omega)]
 ·rw[A_ h];have k1:bd B24 (B4 c a (d+e)):=Lh U T E (by omega);have k2:bd B24 (B4 c b (d+e)):=Lh U hb G (by rw[Ta b c];omega);have X:=V (d:=d+e) T E (by omega);have Y:=V (d:=d+e) hb G (by omega);simp only[aq,ay,ptR]at X Y;simp only[X,Y,go_sem,hB k1 k2];by_cases L:HS (B4 c a (d+e)) c (B4 c b (d+e))<=16*D*D
  ·rw[aa L,aa (show Hz a c b D (d+e)from⟨by omega,L⟩)]
  ·rw[ab L,ab (λN:Hz a c b D (d+e)=>L N.2)]
open Classical in
theorem Qtv {J L M:Fn} {a c b:Pt} {D m:Int}
  (E : ∀ {d e bit : Int}, 0 <= d /\ d + e <= 33554432 -> 0 < e -> e.fdiv (2 ^ min (Int.toNat 1) IntKind.i64.bits) = bit -> N0 J L M [I D, I m, I d, I e, I a.x, I a.y, I a.z, I c.x, I c.y, I c.z, I b.x, I b.y, I b.z] =
   some (0,[I D,I m,I (if Hz a c b D (d+e)then d+e else d),I bit,I a.x,I a.y,I a.z,I c.x,I c.y,I c.z,I b.x,I b.y,I b.z])):
  ∀(k:Nat) (d:Int),0<=d/\d+((2^(k+1):Nat):Int)<=33554432->
  Al (N0 J L M) [I D,I m,I d,I ((2^k:Nat):Int),I a.x,I a.y,I a.z,I c.x,I c.y,I c.z,I b.x,I b.y,I b.z]=some (1,[I (Gj (Hz a c b D) k d)])
 |0,d,N=>by
  simp only[Nat.zero_add,Nat.pow_one]at N;have G:∀d:Int,Al (N0 J L M) [I D,I m,I d,I 0,I a.x,I a.y,I a.z,I c.x,I c.y,I c.z,I b.x,I b.y,I b.z]=some (1,[I d]):=by
   intro d;refine A7 ?_ (by simp);rw[Q5s];rw[A_ (by omega)]
  have O:=E (d:=d) (e:=1) (by omega) (by omega) Z5n;have e:((2^0:Nat):Int)=1:=rfl;rw[e,Bv O,G];rfl
 |k+1,d,N=>by
  have S:0<2^(k+1):=Nat.two_pow_pos _;have e3:2^(k+1+1)=2^(k+1)+2^(k+1):=by rw[Nat.pow_succ 2 (k+1)];omega
  rw[e3]at N;have O:=E (d:=d) (e:=((2^(k+1):Nat):Int)) (by omega) (by omega) (Zf5 k);rw[Bv O];unfold Gj;refine Qtv E k _ ?_;split<;>omega
theorem Zyl {L:Fn} {N:Lp} {O S:Fn} {a c b:Pt} {D:Int}
  (T:L [I a.x,I a.y,I a.z,I c.x,I c.y,I c.z]=some [I (AH a c)]) (U:L [I c.x,I c.y,I c.z,I b.x,I b.y,I b.z]=some [I (AH c b)])
  (X:0<=AH a c/\AH a c<=268435456) (Y:0<=AH c b/\AH c b<=268435456)
  (V:a≠c->b≠c->N [I D,I (mn (AH a c) (AH c b)-2),I 0,I 16777216,I a.x,I a.y,I a.z,I c.x,I c.y,I c.z,I b.x,I b.y,I b.z]=some (1,[I (Gj (Hz a c b D) 24 0)])):
  Qmv O S L N [I a.x,I a.y,I a.z,I c.x,I c.y,I c.z,I b.x,I b.y,I b.z,I D]=some [I (DL a c b D)]:=by
 rw[Zmd];have m3:0<=mn (AH a c) (AH c b)/\mn (AH a c) (AH c b)<=268435456:=by unfold mn;split<;>omega
 unfold DL;by_cases J:a=c
 ·rw[aa (.inl J)];have E:=DT.1 J;simp only[go_sem];rw[aa ⟨E.1,E.2.1,E.2.2,trivial⟩]
 ·by_cases E:b=c
  ·rw[aa (.inr E)];have G:=DT.1 E;simp only[go_sem];rw[ab (λh=>J (DT.2 ⟨h.1,h.2.1,h.2.2.1⟩)),aa ⟨G.1,G.2.1,G.2.2,trivial⟩]
  ·have M:=V J E;simp only[go_sem,T,U];rw[Ae (by omega)];simp only[M,go_sem];rw[ab (λh=>J (DT.2 ⟨h.1,h.2.1,h.2.2.1⟩)),ab (λh=>E (DT.2 ⟨h.1,h.2.1,h.2.2.1⟩)),ab (show¬(a=c\/b=c)from λh=>h.elim J E)];by_cases G:Gj (Hz a c b D) 24 0<16
   ·rw[aa G,aa G]
   ·rw[ab G,ab G]
theorem Z3h {a c b:Pt} {E:Int} (M:bd B24 a) (J:bd B24 c) (hb:bd B24 b) (N:0<=E/\E<=16000):
  L6 [I a.x,I a.y,I a.z,I c.x,I c.y,I c.z,I b.x,I b.y,I b.z,I E]=some [I (DL a c b E)]:=by
 have A:=A6 M (show B24<=67108864 by decide);have C:=A6 J (show B24<=67108864 by decide);have D:=A6 hb (show B24<=67108864 by decide);exact Zyl (Qdf A C) (Qdf C D) (IL A C) (IL C D)
  λO S=>Qtv (λL he G=>Zs5 M J hb O S N L he G (IL A C) (IL C D) (λhb T L=>YP J hb T L) λU V=>Qvd U J V) 24 0 (by decide)
theorem Zpu {M:Fn} {p c q:Pt} (S:M [I p.x,I p.y,I p.z,I c.x,I c.y,I c.z,I q.x,I q.y,I q.z]=some [I (HS p c q)]):
  ∀(k:Nat) (n:Int),Kz n->64<=n*2^k->Al (QW M) [I n,I p.x,I p.y,I p.z,I c.x,I c.y,I c.z,I q.x,I q.y,I q.z]=some (1,[I (Lx (HS p c q) k n)]):=by
 have G:∀n:Int,Kz n->QW M [I n,I p.x,I p.y,I p.z,I c.x,I c.y,I c.z,I q.x,I q.y,I q.z]=if n<64/\HS p c q>16*n*n*n*n*4*4 then some (0,[I (n*2),I p.x,I p.y,I p.z,I c.x,I c.y,I c.z,I q.x,I q.y,I q.z])else some (1,[I n]):=by
  intro n E;rw[Z3v];simp only[go_sem,S];have N:wrap .i64 (wrap .i64 (wrap .i64 (wrap .i64 (wrap .i64 (wrap .i64 (16*n)*n)*n)*n)*4)*4)=16*n*n*n*n*4*4/\wrap .i64 (n*2)=n*2:=by
   rcases E with rfl|rfl|rfl|rfl|rfl|rfl<;>decide
  rw[N.1,N.2];by_cases J:n<64
  ·rw[aa J];by_cases L:HS p c q>16*n*n*n*n*4*4
   ·rw[aa L,aa ⟨J,L⟩]
   ·rw[ab L,ab (λh=>L h.2)]
  ·rw[ab J,ab (λh=>J h.1)]
 intro k;induction k with
 |zero=>
  intro n E D;have:n=64:=by rcases E with rfl|rfl|rfl|rfl|rfl|rfl<;>simp at D⊢
  subst this;refine A7 ?_ (by simp);rw[G _ E,ab (by omega)];rfl
 |succ k T=>
  intro n E D;unfold Lx;by_cases h:n<64/\HS p c q>16*n*n*n*n*4*4
  ·rw[aa h];have O:=G n E;rw[aa h]at O;rw[Bv O];refine T (n*2) ?_ ?_
   ·rcases E with rfl|rfl|rfl|rfl|rfl|rfl<;>simp[Kz]at h⊢
   ·rw[Int.pow_succ]at D;rw[Int.mul_assoc,Int.mul_comm 2];exact D
  ·rw[ab h];refine A7 ?_ (by simp);rw[G _ E,ab h]
theorem Z53 {p c q:Pt} (D:bd B24 p) (E:bd B24 c) (G:bd B24 q):KY [I p.x,I p.y,I p.z,I c.x,I c.y,I c.z,I q.x,I q.y,I q.z]=some [I (LT p c q)]:=by
 have J:=Zpu (Qvd D E G) 5 2 (.inl rfl) (by decide);show Qae _ (Al (QW _)) _=_;generalize Hn=M at*;rw[Zk1];simp only[go_sem,J];rfl
theorem Zbh {α:Type} (d x:α):∀(l:List α) (i:Nat),i<l.length->nth d (l.set i x) i=x
 |a::l,0,_=>rfl
 |a::l,i+1,h=>by simp only[List.set_cons_succ,nth];exact Zbh d x l i (by simpa using h)
theorem Ztd {n i p c q:Int} (D:2<=n/\n<=64) (E:0<=i/\i<=n) (G:p.natAbs<=B24) (J:c.natAbs<=B24) (L:q.natAbs<=B24):
  BE [I (wrap .i64 (wrap .i64 (wrap .i64 (wrap .i64 (n-i)*wrap .i64 (n-i))*wrap .i64 (p-c))+wrap .i64 (wrap .i64 (i*i)*wrap .i64 (q-c)))),I 1,I (wrap .i64 (n*n)),I 2]=some [I (Bw ((n-i)*(n-i)*(p-c)+i*i*(q-c)) (n*n)),B true]:=by
 have M:0<n*n/\n*n<=4096:=⟨Int.mul_pos (by omega) (by omega),by have:=dm D.2 D.2 (by omega) (by omega);omega⟩;have N:0<=(n-i)*(n-i)/\(n-i)*(n-i)<=4096:=⟨F6 _,by have:=dm (show n-i<=64 by omega) (show n-i<=64 by omega) (by omega) (by omega);omega⟩;have O:0<=i*i/\i*i<=4096:=⟨F6 _,by have:=dm (show i<=64 by omega) (show i<=64 by omega) (by omega) (by omega);omega⟩;unfold B24 at*;rw[Ae (x:=n-i) (by omega),Ae (x:=(n-i)*(n-i)) (by omega),Ae (x:=p-c) (by omega),Ae (x:=i*i) (by omega),Ae (x:=q-c) (by omega),Ae (x:=n*n) (by omega)];have m1:=Im (x:=(n-i)*(n-i)) (y:=p-c) (A:=4096) (B:=33554432) (by omega) (by omega);have m2:=Im (x:=i*i) (y:=q-c) (A:=4096) (B:=33554432) (by omega) (by omega);generalize(n-i)*(n-i)*(p-c)=u at*;generalize i*i*(q-c)=v at*;rw[Ae (x:=u) (by omega),Ae (x:=v) (by omega),Ae (by omega)];have h:=Tw (a:=u+v) (b:=1) (c:=n*n) (by unfold i64;omega) (by unfold i64;omega) (by omega) (by rw[show(1:Int).natAbs=1 from rfl,Nat.mul_one];omega);rw[Int.mul_one]at h;exact h
theorem Q59 {MR MP MT MC:Fn} {p c q:Pt} {N:Nat} (S:2<=N/\N<=64) (E:bd B24 p) (G:bd B24 c) (J:bd B24 q)
  (M:∀{i p c q:Int},(0<=i/\i<=N)->p.natAbs<=B24->c.natAbs<=B24->q.natAbs<=B24->MR [I (wrap .i64 (wrap .i64 (wrap .i64 (wrap .i64 ((N:Int)-i)*wrap .i64 ((N:Int)-i))*wrap .i64 (p-c))+wrap .i64 (wrap .i64 (i*i)*wrap .i64 (q-c)))),I 1,I (wrap .i64 ((N:Int)*(N:Int))),I 2]=some [I (Bw (((N:Int)-i)*((N:Int)-i)*(p-c)+i*i*(q-c)) ((N:Int)*(N:Int))),B true])
  {f:Nat->List AC} (hf:∀i:Nat,f i=ptR (OB N i p c q)):
  ∀(k i:Nat),i+k=N+1->Al (O3 MR MP MT MC) [.view kPt (EP f [I 0,I 0,I 0] (N+1) i),I N,I (N+1:Nat),I i,I c.x,I c.y,I c.z,I p.x,I p.y,I p.z,I q.x,I q.y,I q.z]=
   some (1,[.view kPt ((List.range (N+1)).map f)])
 |0,i,T=>by
  obtain rfl:i=N+1:=by omega
  refine A7 ?_ (by simp);rw[Qse,Qvr,A_ (by omega)]
 |k+1,i,T=>by
  have b1:=NQ (n:=N) (i:=i) (A:=B24) (by omega) (by omega) E.1 G.1 J.1;have b2:=NQ (n:=N) (i:=i) (A:=B24) (by omega) (by omega) E.2.1 G.2.1 J.2.1;have b3:=NQ (n:=N) (i:=i) (A:=B24) (by omega) (by omega) E.2.2 G.2.2 J.2.2;have U:=M (i:=i) (by omega) E.1 G.1 J.1;have V:=M (i:=i) (by omega) E.2.1 G.2.1 J.2.1;have X:=M (i:=i) (by omega) E.2.2 G.2.2 J.2.2;have Y:O3 MR MP MT MC [.view kPt (EP f [I 0,I 0,I 0] (N+1) i),I N,I (N+1:Nat),I i,I c.x,I c.y,I c.z,I p.x,I p.y,I p.z,I q.x,I q.y,I q.z]=
    some (0,[.view kPt (EP f [I 0,I 0,I 0] (N+1) (i+1)),I N,I (N+1:Nat),I (i+1:Nat),I c.x,I c.y,I c.z,I p.x,I p.y,I p.z,I q.x,I q.y,I q.z]):=by
   have hlen:=Q8n f [I 0,I 0,I 0] (show i<=N+1 by omega);have D:=Q3h f [I 0,I 0,I 0] (show i<N+1 by omega);rw[hf i]at D;generalize EP f [I 0,I 0,I 0] (N+1) i=l at*;have L:∀x:List AC,nth [] (l.set i x) i=x:=λx=>Zbh _ _ _ _ (by omega);rw[Qse];have O:(0:Int)<=(i:Int)/\(i:Int)<((N+1:Nat):Int):=by omega
   simp only[go_sem,U,V,X,aj,hlen,aa O,List.set_set,L,List.length_set];rw[aa (by omega)];unfold OP B24 at b1 b2 b3;rw[Ae (x:=c.x+_) (by omega),Ae (x:=c.y+_) (by omega),Ae (x:=c.z+_) (by omega),Ae (x:=(i:Int)+1) (by omega)];rw[<-D];rfl
  rw[Bv Y];exact Q59 S E G J M hf k (i+1) (by omega)
theorem Zsg {a c b:Pt} {D:Int} (J:bd B24 a) (E:bd B24 c) (hb:bd B24 b) (ht:0<=D/\D<=16000):
  PI [I a.x,I a.y,I a.z,I c.x,I c.y,I c.z,I b.x,I b.y,I b.z,I D]=some [.view kPt ((GE a c b D).map ptR)]:=by
 show Qk7 _ _ _ _ (Al (O3 _ _ _ _)) _=_;have e1:=Z3h J E hb ht;have hR:= @Ztd;generalize L6=V at*;unfold GE;by_cases h:DL a c b D=0
 ·rw[aa h];rw[Q3j];simp only[go_sem,e1];rw[aa h];rfl
 ·rw[ab h];obtain⟨X,Y,h3,h4,h5,-⟩:=Qog h;obtain⟨m1,m2⟩:=U8 (AH a c) (AH c b);have h0: ¬DL a c b D=0:=h;generalize DL a c b D=d at*;have M:bd B24 (B4 c a d):=Lh E J X (by omega);have O:bd B24 (B4 c b d):=Lh E hb Y (by rw[Ta b c];omega);have t1:=YP E J X (d:=d) (by omega);have t2:=YP E hb Y (d:=d) (by omega);have p1:=Z53 M E O;have p2:=(Wg M E O).2;generalize LT (B4 c a d) c (B4 c b d)=n at*;obtain⟨N,rfl⟩:∃N:Nat,n=N:=⟨n.toNat,by rcases p2 with rfl|rfl|rfl|rfl|rfl|rfl<;>rfl⟩;have hN:2<=N/\N<=64:=by unfold Kz at p2;omega
  have S:=Q59 (MR:=BE) (MP:=KY) (MT:=Hg) (MC:=V) hN M E O (λhi hp E hq=>hR (by omega) hi hp E hq) (f:=λi=>ptR (OB N i (B4 c a d) c (B4 c b d))) (λ_=>rfl) (N+1) 0 (by omega);have T:∀f:Nat->List AC,EP f [I 0,I 0,I 0] (N+1) 0=List.replicate (N+1) [I 0,I 0,I 0]:=λf=>by unfold EP;rw[List.range_zero,dh,ay,Nat.sub_zero]
  rw[T]at S;generalize BE=MR at*;generalize KY=MP at*;generalize Hg=MT at*;generalize B4 c a d=p at*;generalize B4 c b d=q at*;rw[Q3j];simp only[aq,ay,ptR]at t1 t2;have G:(List.range (N+1)).map (fun(i:Nat)=>ptR (OB N i p c q))=((List.range ((N:Int).toNat+1)).map fun(i:Nat)=>OB N i p c q).map ptR:=by rw[List.map_map,aj];rfl
  rw[G]at S;generalize((List.range ((N:Int).toNat+1)).map fun(i:Nat)=>OB N i p c q).map ptR=C at*;generalize Al (O3 MR MP MT V)=L at*;have U:L [.view kPt (List.replicate (N+1) [I 0,I 0,I 0]),I N,I (N+1:Nat),I 0,I c.x,I c.y,I c.z,I p.x,I p.y,I p.z,I q.x,I q.y,I q.z]=some (1,[.view kPt C]):=S;have w1:wrap .i64 ((N:Int)+1)=((N+1:Nat):Int):=by rw[Ae (by omega)];rfl
  simp only[e1,t1,t2,p1,w1,ag,Ik,Mx,L7,H5,gA,jA,wA,bA,aj,List.length_replicate,Qoy];rw[Bn (by simpa using h0),Ee trivial,BO (by simp;omega),U];rfl
end Go.Bm
namespace Go.Bm
open Classical
theorem Rm (k:Int):D7 [I k]=some [B (decide (1<=k/\k<=6))]:=by
 unfold D7;rw[Z71];by_cases h:1<=k
 ·rw[Ee (show k>=1 from h)];by_cases D:k<=6
  ·rw[al D,al ⟨h,D⟩]
  ·rw[am D,am λE=>D E.2]
 ·rw[A_ (show¬k>=1 from h),am λE=>h E.1]
theorem Uu (it:Itm):Fm (Ag it)=some [B (decide (smI it))]:=by
 unfold Fm;rw[Z68];by_cases h:it.kind=2
 ·rw[BO (by simp[h])];congr 2;by_cases E:it.fr=it.to
  ·have D:=DT.1 E;rw[am (λG:smI it=>G.2 E)];simp[D.1,D.2.1,D.2.2]
  ·rw[al (show smI it from⟨h,E⟩)];have D: ¬(it.fr.x=it.to.x/\it.fr.y=it.to.y/\it.fr.z=it.to.z):=λD=>E (DT.2 D);simp only[B,AC.bool.injEq,Bool.not_eq_true',Bool.and_true];by_cases a:it.fr.x=it.to.x<;>by_cases b:it.fr.y=it.to.y<;>by_cases c:it.fr.z=it.to.z<;>simp[a,b,c]at D⊢
 ·rw[Bn (by simp[h]),am (λG:smI it=>h G.1)]
theorem Tb {it:Itm} (D:bd 1048576 it.fr) (E:bd 1048576 it.to):GF (Ag it)=some (ptR (Bl it)):=by
 obtain⟨a1,a2,a3⟩:=D;obtain⟨b1,b2,b3⟩:=E;unfold GF;rw[Zm5,Ae (x:=it.fr.x+it.to.x) (by omega),Ae (x:=(it.fr.x+it.to.x)*8) (by omega),Ae (x:=it.fr.y+it.to.y) (by omega),Ae (x:=(it.fr.y+it.to.y)*8) (by omega),Ae (x:=it.fr.z+it.to.z) (by omega),Ae (x:=(it.fr.z+it.to.z)*8) (by omega)];rfl
theorem Z7v {p:Pt} (h:bd 100000000 p):OF [I p.x,I p.y,I p.z]=some (ptR (Az p)):=by
 unfold OF;rw[Zmj];obtain⟨D,E,G⟩:=h;rw[Ae (by omega),Ae (by omega),Ae (by omega)];rfl
theorem Qv4 (it:Itm):H4 (Ag it)=some [B (decide (syI it))]:=by
 unfold H4;rw[Zsa];by_cases D:it.kind=5
 ·rw[BO (by simp[D]),al (show syI it from .inl D)]
 ·rw[Bn (by simp[D])];by_cases E:it.kind=6
  ·rw[al (show syI it from .inr E)];simp[E]
  ·rw[am (show¬syI it from λh=>h.elim D E)];simp[E]
theorem Zr9 {MV MM:Fn} {it:Itm} (hM:MM [I it.kind]=some [B (decide (1<=it.kind/\it.kind<=6))]) (hV:∃v,MV (Ag it)=some [B v]/\(v=true↔DZ it)):
  Qii MV MM (Ag it)=some [I (if B5 it then 1 else 0)]:=by
 obtain⟨v,hv,J⟩:=hV;have D:∀{x:Int},(B5 it->x=1)->(¬B5 it->x=0)->some [I x]=some [I (if B5 it then 1 else 0)]:=by
  intro x h1 h2;by_cases c:B5 it
  ·rw[aa c,h1 c]
  ·rw[ab c,h2 c]
 rw[Zo9];simp only[go_sem,hM,hv];unfold B5 AF at D⊢;have one:∀{P:Prop},P->(P->(1:Int)=1)/\(¬P->(1:Int)=0):=λh=>⟨λ_=>rfl,λg=>absurd h g⟩;have zero:∀{P:Prop},¬P->(P->(0:Int)=1)/\(¬P->(0:Int)=0):=λh=>⟨λg=>absurd g h,λ_=>rfl⟩;by_cases L:it.kind<1
 ·rw[aa L];exact D (λ_=>rfl) λg=>absurd (.inl L) g
 rw[ab L];by_cases M:it.kind>14
 ·rw[aa M];exact D (λ_=>rfl) λg=>absurd (.inr (.inl M)) g
 rw[ab M];by_cases E:1<=it.kind/\it.kind<=6
 ·simp only[aa E];have N:it.kind≠8:=by omega
  simp only[ab N];by_cases G:DZ it
  ·rw[ab (by simp[J.2 G])];by_cases O:it.blend<0
   ·rw[aa O];exact D (λ_=>rfl) λg=>absurd (.inr (.inr (.inl ⟨E, .inr (.inr (.inl O))⟩))) g
   rw[ab O];by_cases S:it.blend>1000
   ·rw[aa S];exact D (λ_=>rfl) λg=>absurd (.inr (.inr (.inl ⟨E, .inr (.inr (.inr S))⟩))) g
   rw[ab S];by_cases T:it.kind=1
   ·rw[ab (show¬it.kind≠1 by omega)];refine D (λg=> ?_) λ_=>rfl;rcases g with g|g|⟨-,g|g|g|g⟩|g
    ·omega
    ·omega
    ·exact absurd G g
    ·omega
    ·omega
    ·omega
    ·omega
   ·rw[aa T];by_cases U:it.feed<1
    ·rw[aa U];exact D (λ_=>rfl) λg=>absurd (.inr (.inr (.inl ⟨E, .inr (.inl ⟨T, .inl U⟩)⟩))) g
    rw[ab U];by_cases V:it.feed>60000000
    ·rw[aa V];exact D (λ_=>rfl) λg=>absurd (.inr (.inr (.inl ⟨E, .inr (.inl ⟨T, .inr V⟩)⟩))) g
    rw[ab V];refine D (λg=> ?_) λ_=>rfl;rcases g with g|g|⟨-,g|g|g|g⟩|g
    ·omega
    ·omega
    ·exact absurd G g
    ·omega
    ·omega
    ·omega
    ·omega
  ·rw[aa (λh=>G (J.1 h))];exact D (λ_=>rfl) λg=>absurd (.inr (.inr (.inl ⟨E, .inl G⟩))) g
 ·simp only[ab E];by_cases G:it.kind=8
  ·rw[aa G];by_cases X:it.n<3
   ·rw[aa X];exact D (λ_=>rfl) λg=>absurd (.inr (.inr (.inr ⟨E,G, .inl X⟩))) g
   rw[ab X];by_cases Y:it.n>5
   ·rw[aa Y];exact D (λ_=>rfl) λg=>absurd (.inr (.inr (.inr ⟨E,G, .inr (.inl Y)⟩))) g
   rw[ab Y];by_cases d3:it.speed<0
   ·rw[aa d3];exact D (λ_=>rfl) λg=>absurd (.inr (.inr (.inr ⟨E,G, .inr (.inr (.inl d3))⟩))) g
   rw[ab d3];by_cases d4:it.speed>30000
   ·rw[aa d4];exact D (λ_=>rfl) λg=>absurd (.inr (.inr (.inr ⟨E,G, .inr (.inr (.inr d4))⟩))) g
   rw[ab d4];refine D (λg=> ?_) λ_=>rfl;rcases g with g|g|⟨g,-⟩|⟨-,-,g⟩
   ·omega
   ·omega
   ·exact absurd g E
   ·omega
  ·rw[ab G];refine D (λg=> ?_) λ_=>rfl;rcases g with g|g|⟨g,-⟩|⟨-,g,-⟩
   ·omega
   ·omega
   ·exact absurd g E
   ·omega
theorem Z60 (it:Itm):JA (Ag it)=some [I (if B5 it then 1 else 0)]:=Zr9 (Rm _) (Qoa it)
def Dt:List Itm->Nat->Nat
 |[],k=>k
 |it::l,k=>if it.kind=10 then Dt l (k+1)else k
def Dx (items:List Itm) (i:Nat):Nat:=Dt (items.drop (i+1)) (i+1)
theorem Qnn:∀(l:List Itm) (k:Nat),k<=Dt l k/\Dt l k<=k+l.length
 |[],k=>by simp[Dt]
 |it::l,k=>by
  unfold Dt;split
  ·have:=Qnn l (k+1);simp;omega
  ·simp
theorem Q04:∀(l:List Itm) (k:Nat),GZ l k=if Dt l k-k<l.length/\smI (l.getD (Dt l k-k) it0)then(Dt l k:Int)else-1
 |[],k=>by simp[GZ]
 |it::l,k=>by
  have I:=Qnn l (k+1);by_cases D:it.kind=10
  ·have e1:GZ (it::l) k=GZ l (k+1):=by rw[GZ,aa D]
   have e2:Dt (it::l) k=Dt l (k+1):=by rw[Dt,aa D]
   rw[e1,e2,Q04 l (k+1)];have e3:Dt l (k+1)-k=(Dt l (k+1)-(k+1))+1:=by omega
   rw[e3,List.getD_cons_succ];by_cases c:Dt l (k+1)-(k+1)<l.length
   ·have G:Dt l (k+1)-(k+1)+1<(it::l).length:=by simp;omega
    by_cases E:smI (l.getD (Dt l (k+1)-(k+1)) it0)
    ·rw[aa ⟨c,E⟩,aa ⟨G,E⟩]
    ·rw[ab (λg=>E g.2),ab (λg=>E g.2)]
   ·rw[ab (λg=>c g.1),ab (λg=>c (by have:=g.1;simp at this;omega))]
  ·have e1:GZ (it::l) k=if smI it then(k:Int)else-1:=by rw[GZ,ab D]
   have e2:Dt (it::l) k=k:=by rw[Dt,ab D]
   rw[e1,e2,Nat.sub_self,List.getD_cons_zero];by_cases c:smI it
   ·rw[aa c,aa ⟨by simp,c⟩]
   ·rw[ab c,ab (λg=>c g.2)]
theorem Q16 {items:List Itm} (L:items.length<=1000000):∀(k i:Nat),i+k=items.length->
  Al P8 [.view Ai (items.map Ag),I i]=some (1,[I (Dt (items.drop i) i)])
 |0,i,M=>by
  refine A7 ?_ (by simp);rw[Q7o];simp only[go_sem,af];rw[ab (by omega),List.drop_of_length_le (by omega)];rfl
 |k+1,i,M=>by
  have E:i<items.length:=by omega
  have N:=FP E;rw[Qnd E];have D:P8 [.view Ai (items.map Ag),I i]=if(itA items i).kind=10 then some (0,[.view Ai (items.map Ag),I (i+1:Nat)])else some (1,[I i]):=by
   rw[Q7o];have J:(0:Int)<=(i:Int)/\(i:Int)<(items.length:Int):=by omega
   simp only[go_sem,af,aj,N,aa J];rw[aa (by omega),Ae (by omega)];rfl
  unfold Dt;by_cases G:(itA items i).kind=10
  ·rw[aa G]at D⊢;rw[Bv D];exact Q16 L k (i+1) (by omega)
  ·rw[ab G]at D⊢;exact A7 D (by simp)
theorem Qcq {items:List Itm} (D:items.length<=1000000) {i:Nat} (E:i<items.length):FQ [.view Ai (items.map Ag),I i]=some [I (Dx items i)]:=by
 show Qe2 (Al P8) _=_;have h:=Q16 D (items.length-(i+1)) (i+1) (by omega);rw[Zpn,Ae (by omega),show(i:Int)+1=((i+1:Nat):Int) by omega,h];rfl
theorem Q2y {items:List Itm} {i:Nat}:Cq items i=if smI (itA items i)/\(itA items i).blend≠0/\Dx items i<items.length/\smI (itA items (Dx items i))then(Dx items i:Int)else-1:=by
 unfold Cq;by_cases h:smI (itA items i)/\(itA items i).blend≠0
 ·rw[aa h,Q04];have D:=Qnn (items.drop (i+1)) (i+1);rw[bq]at D;have e:(items.drop (i+1)).getD (Dt (items.drop (i+1)) (i+1)-(i+1)) it0=itA items (Dx items i):=by
   unfold itA;rw[List.getD_eq_getElem?_getD,List.getElem?_drop,List.getD_eq_getElem?_getD];have:i+1+(Dt (items.drop (i+1)) (i+1)-(i+1))=Dx items i:=by unfold Dx;omega
   rw[this]
  rw[e,bq];have e2:Dt (items.drop (i+1)) (i+1)=Dx items i:=rfl;rw[e2]at D⊢;by_cases c:Dx items i<items.length/\smI (itA items (Dx items i))
  ·rw[aa ⟨by omega,c.2⟩,aa ⟨h.1,h.2,c⟩]
  ·rw[ab (λg=>c ⟨by have:=g.1;omega,g.2⟩),ab (λg=>c g.2.2)]
 ·rw[ab h,ab (λg=>h ⟨g.1,g.2.1⟩)]
theorem Zu4 {S T:Fn} {items:List Itm} (U:∀it,S (Ag it)=some [B (decide (smI it))]) {i:Nat} (X:i<items.length) (Y:T [.view Ai (items.map Ag),I i]=some [I (Dx items i)]):
  Xy S T [.view Ai (items.map Ag),I i]=some [B (decide (0<=Cq items i))]:=by
 have hr:=FP X;have V:=U (itA items i);rw[Zzg,Q2y];simp only[Ag]at V;have M:(0:Int)<=(i:Int)/\(i:Int)<(items.length:Int):=by omega
 simp only[go_sem,af,aj,hr,V,Y,aa M];by_cases G:smI (itA items i)
 case neg=>rw[ab G,ab (λg=>G g.1)];simp
 rw[aa G];by_cases J:(itA items i).blend=0
 ·rw[ab (by simp[J]),ab (λg=>g.2.1 J)];simp
 rw[aa J];by_cases N:Dx items i<items.length
 ·have O:=FP N;have D:=U (itA items (Dx items i));simp only[Ag]at D;have E:(0:Int)<=(Dx items i:Int)/\(Dx items i:Int)<(items.length:Int):=by omega
  rw[aa (by omega),aa E];simp only[go_sem,O,D];by_cases L:smI (itA items (Dx items i))
  ·rw[al L,aa ⟨G,J,N,L⟩,al (by omega)]
  ·rw[am L,ab (λg=>L g.2.2.2)];simp
 ·rw[ab (by omega),ab (λg=>N g.2.2.1)];simp
theorem Qsc {items:List Itm} (E:items.length<=1000000) {i:Nat} (D:i<items.length):HD [.view Ai (items.map Ag),I i]=some [B (decide (0<=Cq items i))]:=
 Zu4 Uu D (Qcq E D)
theorem TG {items:List Itm} {i:Nat} (h:0<=Cq items i):Cq items i=Dx items i:=by
 rw[Q2y]at h⊢;split at h
 ·rename_i c;rw[aa c]
 ·omega
theorem Zm1 {a c b:Pt} {D:Int} (G:bd B24 a) (E:bd B24 c) (hb:bd B24 b):(GE a c b D).length%2=1:=by
 unfold GE;by_cases h:DL a c b D=0
 ·rw[aa h];rfl
 ·rw[ab h];obtain⟨I,J,O,S,T,-⟩:=Qog h;obtain⟨m1,m2⟩:=U8 (AH a c) (AH c b);generalize DL a c b D=d at*;have L:bd B24 (B4 c a d):=Lh E G I (by omega);have M:bd B24 (B4 c b d):=Lh E hb J (by rw[Ta b c];omega);have N:=(Wg L E M).2;generalize LT (B4 c a d) c (B4 c b d)=n at*;rw[af,List.length_range];rcases N with rfl|rfl|rfl|rfl|rfl|rfl<;>rfl
theorem Zsx {E G D:Fn} {a b:Itm} {l:List Pt} (O:0<=a.blend/\a.blend<=1000) (T:1<=l.length/\l.length<=65) (J:l.length%2=1)
  (L:D (Ag a)=some (ptR (Bl a))) (M:D (Ag b)=some (ptR (Bl b))) (S:G [I a.to.x,I a.to.y,I a.to.z]=some (ptR (Az a.to)))
  (N:E (ptR (Bl a)++ptR (Az a.to)++ptR (Bl b)++[I (a.blend*16)])=some [.view kPt (l.map ptR)]):
  Qia E G D (Ag a++Ag b)=some [.view kPt ((l.take (l.length/2+1)).map ptR), .view kPt ((l.drop (l.length/2)).map ptR)]:=by
 simp only[Ag,aq,ay]at L M⊢;rw[Z7x];simp only[ptR,aq,ay]at N;simp only[go_sem,L,M,S];rw[Ae (by omega)];simp only[N,go_sem,af];have e:wrap .i64 ((wrap .i64 ((l.length:Int)-1)).tdiv 2)=((l.length/2:Nat):Int):=by
  rw[Ae (x:=(l.length:Int)-1) (by omega),bc (by omega),Ae (by omega)];omega
 have e2:wrap .i64 (((l.length/2:Nat):Int)+1)=((l.length/2+1:Nat):Int):=by rw[Ae (by omega)];omega
 simp only[e,e2,aj];rw[aa (by omega),aa (by omega),List.map_take,List.map_drop]
theorem Zlm {a b:Itm} (D:drawn a) (E:drawn b):
  Rn (Ag a++Ag b)=some [.view kPt (((GE (Bl a) (Az a.to) (Bl b) (a.blend*16)).take ((GE (Bl a) (Az a.to) (Bl b) (a.blend*16)).length/2+1)).map ptR), .view kPt (((GE (Bl a) (Az a.to) (Bl b) (a.blend*16)).drop ((GE (Bl a) (Az a.to) (Bl b) (a.blend*16)).length/2)).map ptR)]:=
 have G:=LK D.1.2.1 D.1.2.2.1;have I:=FK D.1.2.2.1;have J:=LK E.1.2.1 E.1.2.2.1
 Zsx D.2 (Q0l G I J).2 (Zm1 G I J) (Tb D.1.2.1 D.1.2.2.1) (Tb E.1.2.1 E.1.2.2.1) (Z7v (A6 D.1.2.2.1 (by decide))) (Zsg G I J (by have:=D.2;omega))
theorem Zxe {MM MN MS MC T MK:Fn} {items:List Itm} {i:Nat} {frm:Int} (hi:i<items.length) (S:drawn (itA items i)) (hf:Md items i frm) (L:∀k<items.length,AF (itA items k)->drawn (itA items k))
  (hK:MK (Ag (itA items i))=some [.view kPt ((CK (itA items i)).map ptR),B true]) (hM:T (Ag (itA items i))=some [B (decide (smI (itA items i)))])
  (hJ:∀{i k:Nat},i<items.length->k<items.length->drawn (itA items i)->drawn (itA items k)->MC (Ag (itA items i)++Ag (itA items k))=some [.view kPt (((H0 items i k).take ((H0 items i k).length/2+1)).map ptR), .view kPt (((H0 items i k).drop ((H0 items i k).length/2)).map ptR)])
  (hS:MS [.view Ai (items.map Ag),I i]=some [B (decide (0<=Cq items i))]) (hN:MN [.view Ai (items.map Ag),I i]=some [I (Dx items i)]) (hC:MM (Ag (itA items i))=some (ptR (Bl (itA items i)))):
  WG MM MN MS MC T MK [.view Ai (items.map Ag),I i,I frm]=some [.view kPt ((C4 items i frm).map ptR)]:=by
 have r1:=FP hi;obtain⟨a4,a5⟩:=Qyk (itA items i);rw[Zlx];simp only[Ag,aq,ay]at hK hM hC hJ;have a1:(0:Int)<=(i:Int)/\(i:Int)<(items.length:Int):=by omega
 simp only[go_sem,af,aj,r1,hK,hM,hC,hS,hN,ay,aa a1];unfold C4;by_cases U:smI (itA items i)
 case neg=>rw[aa (by simp[U]),ab U]
 rw[ab (by simp[U]),aa U];have a2:(itA items i).kind≠3:=by have:=U.1;omega
 have M:(CK (itA items i)).length=2:=by unfold CK;rw[ab a2];rfl
 have w1:wrap .i64 (((CK (itA items i)).length:Int)-1)=1:=by rw[M];rfl
 rw[w1,M,aa (by omega),aa (by omega)];unfold Na;rcases hf with rfl|⟨f,rfl,V,X⟩
 ·rw[ab (show¬(-1:Int)>=0 by omega)];unfold Jx;rw[ab (show¬(0:Int)<= -1 by omega)];by_cases D:0<=Cq items i
  ·obtain⟨k,Y,E,G⟩:=Vc L D;have N:=TG D;rw[Y]at N;have O:Dx items i=k:=by omega
   obtain⟨j1,j2,j3⟩:=LP (items:=items) (i:=i) (k:=k) S G;have hj:=hJ hi E S G;have r2:=FP E;have J:(0:Int)<=(k:Int)/\(k:Int)<(items.length:Int):=by omega
   rw[aa D,aa D,Y,O,aj,aa J];simp only[go_sem,aj,r2,hj];rw[aa (by simp[Sq];omega),aa (by simp;omega),aa (by simp;omega)];simp only[Sq,bz,bj,dh]
  ·rw[ab D,ab D,aa (by simp[Sq];omega),aa (by simp;omega),aa (by simp;omega)];simp only[Sq,Q4t,bz,bj,dh]
 ·have a3:=hJ V hi X S;obtain⟨f1,f2,f3⟩:=LP (items:=items) (i:=f) (k:=i) X S;have rf:=FP V;have a0:(0:Int)<=(f:Int)/\(f:Int)<(items.length:Int):=by omega
  rw[aa (show(f:Int)>=0 by omega),aa a0];unfold Jx;rw[aa (show(0:Int)<=(f:Int) by omega),aj];simp only[rf,go_sem,a3,aj];by_cases D:0<=Cq items i
  ·obtain⟨k,Y,E,G⟩:=Vc L D;have N:=TG D;rw[Y]at N;have O:Dx items i=k:=by omega
   obtain⟨j1,j2,j3⟩:=LP (items:=items) (i:=i) (k:=k) S G;have hj:=hJ hi E S G;have r2:=FP E;have J:(0:Int)<=(k:Int)/\(k:Int)<(items.length:Int):=by omega
   rw[aa D,aa D,Y,O,aj,aa J];simp only[go_sem,aj,r2,hj];rw[aa (by simp;omega),aa (by simp;omega),aa (by simp;omega)];simp only[bz,bj,dh]
  ·rw[ab D,ab D,aa (by simp;omega),aa (by simp;omega),aa (by simp;omega)];simp only[Q4t,bz,bj,dh]
theorem Ztn {items:List Itm} (J:items.length<=1000000) {i:Nat} {frm:Int} (G:i<items.length) (E:drawn (itA items i)) (hf:Md items i frm) (D:∀k<items.length,AF (itA items k)->drawn (itA items k)):
  Nu [.view Ai (items.map Ag),I i,I frm]=some [.view kPt ((C4 items i frm).map ptR)]:=
 Zxe G E hf D (Z61 E.1) (Uu _) (λN O L M=>Zlm L M) (Qsc J G) (Qcq J G) (Tb E.1.2.1 E.1.2.2.1)
theorem Qz7 {L M:Fn} {l:List Itm} (S:∀k:Int,L [I k]=some [B (decide (1<=k/\k<=6))]) (T:∀it,M (Ag it)=some [B (decide (syI it))]) (V:l.length<=1000000):∀(k i:Nat),i+k=l.length->
  (Al (Lw L M) [.view Ai (l.map Ag),I l.length,I i]=some (1,[B (decide (F9 (l.drop i)=1))]))\/(Al (Lw L M) [.view Ai (l.map Ag),I l.length,I i]=some (2,[])/\F9 (l.drop i)=2)
 |0,i,X=>by
  right;refine⟨A7 ?_ (by simp),by rw[List.drop_of_length_le (by omega)];rfl⟩;rw[Qyd];simp only[go_sem];rw[ab (by omega)]
 |k+1,i,X=>by
  have G:i<l.length:=by omega
  have Y:=FP G;rw[Qnd G];have U:=T (itA l i);have hm:=S (itA l i).kind;have D:Lw L M [.view Ai (l.map Ag),I l.length,I i]=if AF (itA l i)then some (1,[B (decide (syI (itA l i)))])else some (0,[.view Ai (l.map Ag),I l.length,I (i+1:Nat)]):=by
   rw[Qyd];simp only[Ag]at U;have O:(0:Int)<=(i:Int)/\(i:Int)<(l.length:Int):=by omega
   simp only[go_sem,af,aj,Y,U,hm,aa O];rw[aa (by omega),Ae (by omega)];by_cases N:AF (itA l i)
   ·rw[aa (show 1<=(itA l i).kind/\(itA l i).kind<=6 from N),aa N]
   ·rw[ab (show¬(1<=(itA l i).kind/\(itA l i).kind<=6)from N),ab N];rfl
  unfold F9;by_cases J:AF (itA l i)
  ·rw[aa J]at D⊢;left;rw[A7 D (by simp)];by_cases E:syI (itA l i)
   ·rw[aa E,al E];rfl
   ·rw[ab E,am E];rfl
  ·rw[ab J]at D⊢;rw[Bv D];exact Qz7 S T V k (i+1) (by omega)
def Jh (items:List Itm) (i:Nat):Prop:=(itA items i).blend=0\/syI (itA items i)\/F9 (items.drop (i+1))=1
theorem Z1h {M O:Fn} {items:List Itm} (Y:∀k:Int,M [I k]=some [B (decide (1<=k/\k<=6))]) (V:∀it,O (Ag it)=some [B (decide (syI it))]) (hl:items.length<=1000000) {i:Nat} (hi:i<items.length):
  Qpw M O (Al (Lw M O)) [.view Ai (items.map Ag),I i]=some [B (decide (Jh items i))]:=by
 have hr:=FP hi;have X:=V (itA items i);have E:=Qz7 Y V (l:=items.drop (i+1)) (by rw[bq];omega) (items.drop (i+1)).length 0 (by omega);rw[List.drop_zero]at E;rw[Zx0];simp only[Ag]at X;have hw:wrap .i64 ((i:Int)+1)=((i+1:Nat):Int):=by rw[Ae (by omega)];omega
 have T:(0:Int)<=(i:Int)/\(i:Int)<(items.length:Int):=by omega
 have G:(0:Int)<=((i+1:Nat):Int)/\((i+1:Nat):Int)<=(items.length:Int):=by omega
 have U:(List.drop (i+1) (items.map Ag)).length=(items.drop (i+1)).length:=by rw[bq,bq,af]
 generalize Al (Lw M O)=N at*;simp only[go_sem,af,aj,hr,X,hw,aa T,aa G,U];rw[<-List.map_drop];by_cases J:(itA items i).blend=0
 ·rw[aa J,al (show Jh items i from .inl J)]
 ·rw[ab J];by_cases L:syI (itA items i)
  ·rw[aa L,al (show Jh items i from .inr (.inl L))]
  ·rw[ab L];rcases E with E|⟨E,hn⟩
   ·have D:N [.view Ai ((items.drop (i+1)).map Ag),I (items.drop (i+1)).length,I 0]=some (1,[B (decide (F9 (items.drop (i+1))=1))]):=E;simp only[D,go_sem];by_cases S:F9 (items.drop (i+1))=1
    ·rw[al S,al (show Jh items i from .inr (.inr S))]
    ·rw[am S,am (show¬Jh items i from λh=>h.elim J λh=>h.elim L S)]
   ·have D:N [.view Ai ((items.drop (i+1)).map Ag),I (items.drop (i+1)).length,I 0]=some (2,[]):=E;simp only[D,go_sem];rw[am (show¬Jh items i from λh=>h.elim J λh=>h.elim L λh=>by rw[hn]at h;cases h)];simp
theorem Z7t {items:List Itm} (D:items.length<=1000000) {i:Nat} (E:i<items.length):RJ [.view Ai (items.map Ag),I i]=some [B (decide (Jh items i))]:=Z1h Rm Qv4 D E
def J4 (items:List Itm) (i:Nat):Int:=if AF (itA items i)then Ih items i else Jt (itA items i)
theorem Z84 {U V:Fn} {items:List Itm} {i:Nat} {aE:Rw} {aC:List Mrk} {D:Pt} {b:Bool} {len sp J:Int} (Y:i<items.length) (a0:aC.length<=1000000)
  (hM:V [I (itA items i).kind]=some [B (decide (AF (itA items i)))]) (hE:U [.view Ai (items.map Ag),I i]=some [B (decide (Jh items i))]):
  Qjf U V [.view Ah aE, .view AJ (aC.map At), .view Ai (items.map Ag),I i,I D.x,I D.y,I D.z,B b,I len,I sp,I J]=
   some [.view Ah aE, .view AJ ((aC++[(⟨len,J4 items i,i⟩:Mrk)]).map At),I D.x,I D.y,I D.z,B b,I len,I sp,I J]:=by
 have hr:=FP Y;have S:(0:Int)<=(i:Int)/\(i:Int)<(items.length:Int):=by omega
 have hb:(aC.length+1)*24<=140737488355328:=by omega
 have e:∀k:Int,aC.map At++[[I len,I k,I i]]=(aC++[(⟨len,k,i⟩:Mrk)]).map At:=λk=>by rw[bz];rfl
 rw[Z73];simp only[go_sem,af,aj,hr,aa S,hM,hE,ao,bh,cx,aa hb];have fin:∀{k:Int},k=J4 items i->some [AC.view Ah aE, .view AJ (aC.map At++[[I len,I k,I i]]),I D.x,I D.y,I D.z,B b,I len,I sp,I J]=some [.view Ah aE, .view AJ ((aC++[(⟨len,J4 items i,i⟩:Mrk)]).map At),I D.x,I D.y,I D.z,B b,I len,I sp,I J]:=by
  intro k hk;rw[e,hk]
 unfold J4 Ih Jt at fin⊢;by_cases N:(itA items i).kind=4
 ·rw[aa N];have E:AF (itA items i):=⟨by omega,by omega⟩;exact fin (by rw[aa E,aa N])
 ·rw[ab N];by_cases E:AF (itA items i)
  ·rw[aa E];by_cases M:Jh items i
   ·rw[aa M];refine fin ?_;rw[aa E,ab N];rcases M with h|h|h
    ·rw[aa h]
    ·by_cases O:(itA items i).blend=0
     ·rw[aa O]
     ·rw[ab O,aa h]
    ·by_cases O:(itA items i).blend=0
     ·rw[aa O]
     ·rw[ab O];by_cases X:syI (itA items i)
      ·rw[aa X]
      ·rw[ab X,h]
   ·rw[ab M,aa E];refine fin ?_;rw[aa E,ab N,ab (λh=>M (.inl h)),ab (λh=>M (.inr (.inl h)))];have T:∀l:List Itm,F9 l=1\/F9 l=2:=by
     intro l;induction l with
     |nil=>right;rfl
     |cons it l ih=>
      unfold F9;split
      ·split<;>simp
      ·exact ih
    rcases T (items.drop (i+1))with h|h
    ·exact absurd (.inr (.inr h)) M
    ·rw[h]
  ·rw[ab E,ab E];by_cases G:(itA items i).kind=10
   ·rw[aa G];exact fin (by rw[ab E,aa G])
   ·rw[ab G];by_cases L:(itA items i).kind=13
    ·rw[aa L];exact fin (by rw[ab E,ab G,aa L])
    ·rw[ab L];exact fin (by rw[ab E,ab G,ab L])
theorem Zsl {items:List Itm} (L:items.length<=1000000) {i:Nat} {aE:Rw} {aC:List Mrk} {D:Pt} {b:Bool} {len sp E:Int} (J:i<items.length) (G:aC.length<=1000000):
  Js [.view Ah aE, .view AJ (aC.map At), .view Ai (items.map Ag),I i,I D.x,I D.y,I D.z,B b,I len,I sp,I E]=
   some [.view Ah aE, .view AJ ((aC++[(⟨len,J4 items i,i⟩:Mrk)]).map At),I D.x,I D.y,I D.z,B b,I len,I sp,I E]:=
 Z84 J G (Rm _) (Z7t L J)
theorem Zo4 (a:Pt) (aE:List Sgm):aE=[]\/∃l g,aE=l++[g]/\FR a aE=g.to/\((aE.length:Int)>0)/\nth [] (aE.map Av) (aE.length-1)=Av g:=by
 rcases List.eq_nil_or_concat aE with h|⟨l,g,h⟩
 ·exact .inl h
 ·right;rw[List.concat_eq_append]at h;refine⟨l,g,h,?_,?_,?_⟩
  ·rw[h];exact SI g a l
  ·rw[h];simp
  ·have D:aE.length-1<aE.length:=by rw[h];simp
   rw[IH _ _ _ _ D];congr 1;subst h;simp
theorem Zq6 {G:Fn} {aC:Rw} {q g E:Pt} {J item feed lead len sp D:Int}:
  S0 G [.view Ah [], .view AJ aC,I q.x,I q.y,I q.z,I g.x,I g.y,I g.z,I J,I item,I feed,I lead,I E.x,I E.y,I E.z,B false,I len,I sp,I D]=
   some [.view Ah [], .view AJ aC,I q.x,I q.y,I q.z,B true,I len,I sp,I D]:=by
 rw[Q88];simp
theorem Zjc {T:Fn} {aE:List Sgm} {aC:Rw} {q g D at_:Pt} {U item feed lead len sp G:Int} (J:FR D aE=at_)
  (N:T [I at_.x,I at_.y,I at_.z,I q.x,I q.y,I q.z]=some [I (AH at_ q)]) (hl:0<=AH at_ q/\AH at_ q<=268435456) (hs:aE.length+1<=1048577) (hlen:0<=len/\len<=4000000000000000000):
  S0 T [.view Ah (aE.map Av), .view AJ aC,I q.x,I q.y,I q.z,I g.x,I g.y,I g.z,I U,I item,I feed,I lead,I D.x,I D.y,I D.z,B true,I len,I sp,I G]=
   some [.view Ah ((Bf item feed lead (aE,len,at_) q).1.map Av), .view AJ aC,I D.x,I D.y,I D.z,B true,I (Bf item feed lead (aE,len,at_) q).2.1,I sp,I G]:=by
 have L:(aE.map Av++[[I q.x,I q.y,I q.z,I (AH at_ q),I item,I feed,I lead]])=(aE++[(⟨q,AH at_ q,item,feed,lead⟩:Sgm)]).map Av:=by rw[bz];rfl
 rw[Q88];try dsimp only[go_sem]
 rcases Zo4 D aE with h|⟨l,s,V,O,X,Y⟩
 ·subst h;have M:D=at_:=J;subst M;simp only[dh,cx];rw[A_ (by decide),Bool.not_true,an];by_cases c:q=D
  ·have E:=DT.1 c;rw[BO (by simp[E.1,E.2.1,E.2.2]),show Bf item feed lead ([],len,D) q=([],len,D)from aa c];rfl
  ·rw[Bn,N]
   ·simp only[ag,Ik,H5,gA,jA,wA,bA,ay,bh,cx];rw[BO (by decide),show Bf item feed lead ([],len,D) q=([⟨q,AH D q,item,feed,lead⟩],len+AH D q,q)from ab c,Ae (by omega)];rfl
   ·have c2: ¬(q.x=D.x/\q.y=D.y/\q.z=D.z):=λg=>c (DT.2 g);simp only[Bool.and_true,Bool.and_eq_false_iff,beq_eq_false_iff_ne];omega
 ·rw[J]at O;have w1:wrap .i64 ((aE.length:Int)-1)=((aE.length-1:Nat):Int):=by rw[Ae (by omega)];omega
  have S:(0:Int)<=((aE.length-1:Nat):Int)/\((aE.length-1:Nat):Int)<(aE.length:Int):=by omega
  rw[O]at N L⊢;clear V;simp only[go_sem,af,w1,aj,Y,aa X,aa S,N,ao,bh,cx];rw[ab (by simp)];by_cases c:q=s.to
  ·have E:=DT.1 c;rw[aa ⟨E.1,E.2.1,E.2.2,trivial⟩,show Bf item feed lead (aE,len,s.to) q=(aE,len,s.to)from aa c]
  ·rw[ab (λg=>c (DT.2 ⟨g.1,g.2.1,g.2.2.1⟩)),aa (by omega),show Bf item feed lead (aE,len,s.to) q=(aE++[⟨q,AH s.to q,item,feed,lead⟩],len+AH s.to q,q)from ab c,Ae (by rw[<-O]at*;omega),L]
noncomputable def Es (it:Itm) (item feed lead:Int) (s:(List Sgm×Int×Pt)×Int) (q:Pt):(List Sgm×Int×Pt)×Int:=
 (Bf item feed lead s.1 q,if smI it/\q=Bl it then(Bf item feed lead s.1 q).2.1 else s.2)
theorem Qom {it:Itm} {item feed lead:Int}:∀(D:List Pt) (s:(List Sgm×Int×Pt)×Int),(D.foldl (Es it item feed lead) s).1=D.foldl (Bf item feed lead) s.1
 |[],_=>rfl
 |q::D,s=>by rw[List.foldl_cons,List.foldl_cons,Qom D];rfl
theorem Qsp {V N X MP MG MR:Fn} {it:Itm} {D:List Pt} {j:Nat} (hj:j<D.length) (a0:D.length<=1000000) {aE G:Rw} {aC:Rw} {g M E:Pt} {b b':Bool} {S item feed lead len J sp L:Int}
  (Y:N (Ag it)=some [B (decide (smI it))]) (hC:V (Ag it)=some (ptR (Bl it)))
  (hA:X [.view Ah aE, .view AJ aC,I D[j].x,I D[j].y,I D[j].z,I g.x,I g.y,I g.z,I S,I item,I feed,I lead,I M.x,I M.y,I M.z,B b,I len,I sp,I L]=some [.view Ah G, .view AJ aC,I E.x,I E.y,I E.z,B b',I J,I sp,I L]):
  Mr V N X MP MG MR (.view Ah aE:: .view AJ aC:: .view kPt (D.map ptR)::I D.length::I j::(Ag it++[I g.x,I g.y,I g.z,I S,I item,I feed,I lead,I M.x,I M.y,I M.z,B b,I len,I sp,I L]))=
   some (0, .view Ah G:: .view AJ aC:: .view kPt (D.map ptR)::I D.length::I (j+1:Nat)::(Ag it++[I g.x,I g.y,I g.z,I S,I item,I feed,I lead,I E.x,I E.y,I E.z,B b',I J,I sp,I (if smI it/\D[j]=Bl it then J else L)])):=by
 have hr:nth [] (D.map ptR) j=ptR D[j]:=IH _ _ _ _ hj;have T:(0:Int)<=(j:Int)/\(j:Int)<(D.length:Int):=by omega
 have hw:wrap .i64 ((j:Int)+1)=((j+1:Nat):Int):=by rw[Ae (by omega)];omega
 generalize D[j]=q at*;simp only[Ag]at Y hC;simp only[Ag,aq,ay];rw[Zcx];simp only[go_sem,af,aj,hr,aa T,hA,Y,hC,hw];rw[aa (by omega)];by_cases c:smI it
 ·rw[aa c];by_cases O:q=Bl it
  ·have U:=DT.1 O;rw[aa ⟨U.1,U.2.1,U.2.2,trivial⟩,aa ⟨c,O⟩]
  ·rw[ab (λh=>O (DT.2 ⟨h.1,h.2.1,h.2.2.1⟩)),ab (λh=>O h.2)]
 ·rw[ab c,ab (λh=>c h.1)]
theorem Qfk {X N Y MP MG MR:Fn} {it:Itm} {D:List Pt} (O:D.length<=1000000) {aC:Rw} {g E:Pt} {gl item feed lead sp:Int} (T:bd 67108864 E) (J:∀p∈D,bd 67108864 p)
  (hM:N (Ag it)=some [B (decide (smI it))]) (hC:X (Ag it)=some (ptR (Bl it)))
  (hA : ∀ {aE : List Sgm} {q at_ : Pt} {len mid : Int}, FR E aE = at_ -> bd 67108864 at_ -> bd 67108864 q -> aE.length + 1 <= 1048577 -> (0 <= len /\ len <= 4000000000000000000) ->
   Y [.view Ah (aE.map Av), .view AJ aC,I q.x,I q.y,I q.z,I g.x,I g.y,I g.z,I gl,I item,I feed,I lead,I E.x,I E.y,I E.z,B true,I len,I sp,I mid]=
   some [.view Ah ((Bf item feed lead (aE,len,at_) q).1.map Av), .view AJ aC,I E.x,I E.y,I E.z,B true,I (Bf item feed lead (aE,len,at_) q).2.1,I sp,I mid]):
  ∀(k j:Nat) (s:List Sgm×Int×Pt) (mid:Int),j+k=D.length->s.1.length+k<=1048576->0<=s.2.1->s.2.1+k*268435456<=4000000000000000000->bd 67108864 s.2.2->FR E s.1=s.2.2->
  Al (Mr X N Y MP MG MR) (.view Ah (s.1.map Av):: .view AJ aC:: .view kPt (D.map ptR)::I D.length::I j::(Ag it++[I g.x,I g.y,I g.z,I gl,I item,I feed,I lead,I E.x,I E.y,I E.z,B true,I s.2.1,I sp,I mid]))=
   some (1,[.view Ah (((D.drop j).foldl (Es it item feed lead) (s,mid)).1.1.map Av), .view AJ aC,I E.x,I E.y,I E.z,B true,I ((D.drop j).foldl (Es it item feed lead) (s,mid)).1.2.1,I sp,I ((D.drop j).foldl (Es it item feed lead) (s,mid)).2])
 |0,j,s,mid,hj,_,_,_,_,_=>by
  refine A7 ?_ (by simp);simp only[Ag,aq,ay];rw[Zcx,A_ (by omega),List.drop_of_length_le (by omega)];rfl
 |k+1,j,s,mid,hj,hs,S,U,G,he=>by
  have L:j<D.length:=by omega
  have V:=J _ (bm L);obtain⟨aE,len,at_⟩:=s;simp only at hs S U G he;have ha:=hA (q:=D[j]) (mid:=mid) he G V (by omega) (by constructor<;>omega);have M:=Qsp (MP:=MP) (MG:=MG) (MR:=MR) L O hM hC ha;have hinv:FR E (Bf item feed lead (aE,len,at_) D[j]).1=(Bf item feed lead (aE,len,at_) D[j]).2.2/\bd 67108864 (Bf item feed lead (aE,len,at_) D[j]).2.2/\
    (Bf item feed lead (aE,len,at_) D[j]).1.length<=aE.length+1/\0<=(Bf item feed lead (aE,len,at_) D[j]).2.1/\(Bf item feed lead (aE,len,at_) D[j]).2.1<=len+268435456:=by
   have hl:=IL G V;unfold Bf;split
   ·exact⟨he,G,by simp,S,by simp only;omega⟩
   ·refine⟨SI _ _ _,V,by simp,?_,?_⟩<;>simp only<;>omega
  rw[Bv M];obtain⟨i1,i2,i3,i4,i5⟩:=hinv;have:=Qfk (MP:=MP) (MG:=MG) (MR:=MR) O T J hM hC hA k (j+1) (Bf item feed lead (aE,len,at_) D[j]) (if smI it/\D[j]=Bl it then(Bf item feed lead (aE,len,at_) D[j]).2.1 else mid) (by omega) (by omega) i4 (by omega) i2 i1;rw[this,O1 D j L,List.foldl_cons];rfl
theorem Zmb {it:Itm} (h:DZ it):∃l,CK it=Az it.fr::l:=by
 unfold CK;by_cases E:it.kind=3
 ·rw[aa E];unfold Eh;rw[bj];refine⟨(Ek it.dir 16 it.full (E3 it it.fr) (E3 it it.to)).map (JR it),?_⟩;congr 1;obtain⟨D,-,J,-⟩:=h.2.2.2 E;obtain⟨G,I,L⟩:=T2 it.aF it.ce;unfold JR E3;simp only[G,I];unfold dU dW;have e1:plU it.aF it.ce*16+(plU it.aF it.fr-plU it.aF it.ce)*16=plU it.aF it.fr*16:=by omega
  have e2:plW it.aF it.ce*16+(plW it.aF it.fr-plW it.aF it.ce)*16=plW it.aF it.fr*16:=by omega
  rw[e1,e2];unfold spP plU plW plH Az;rcases D with D|D|D<;>rw[D]<;>rfl
 ·rw[ab E];exact⟨_,rfl⟩
theorem Z57 {items:List Itm} {i:Nat} (h:DZ (itA items i)):∃l,C4 items i (-1)=Az (itA items i).fr::l:=by
 obtain⟨l,D⟩:=Zmb h;unfold C4;split
 ·unfold Jx;rw[ab (by omega),D];exact⟨_,rfl⟩
 ·exact⟨l,D⟩
noncomputable def FW (items:List Itm) (i:Nat) (s:BSt) (D:Int):(List Sgm×Int×Pt)×Int:=
 (C4 items i s.frm).foldl (Es (itA items i) i (Id (itA items i) s.speed) (O5 (itA items i))) ((s.aE,s.len,if s.begun=true then s.at_ else Az (itA items i).fr),D)
theorem Zbu (items:List Itm) (i:Nat) (s:BSt) (D:Int):(FW items i s D).1=Gc items i s:=by
 unfold FW Gc;rw[Qom]
theorem Z7s {MM G MA M O S:Fn} {items:List Itm} {i:Nat} {s:BSt} {aC:Rw} {mid:Int} (hi:i<items.length) (hlen:items.length<=15) (hv:DZ (itA items i)) (J:BOK items i s) (hinv:BInv s)
  (D:(∀p∈C4 items i s.frm,bd 67108864 p)/\(C4 items i s.frm).length<=65537)
  (T:syI (itA items i)->0<=(itA items i).feed/\(itA items i).feed<=60000000) (a0:s.begun=false->s.frm= -1)
  (hM:G (Ag (itA items i))=some [B (decide (smI (itA items i)))]) (hC:MM (Ag (itA items i))=some (ptR (Bl (itA items i))))
  (hG:O (Ag (itA items i))=some [B (decide (syI (itA items i)))]) (hR:S (Ag (itA items i)++[I s.speed])=some [I (Id (itA items i) s.speed)])
  (hP:M [.view Ai (items.map Ag),I i,I s.frm]=some [.view kPt ((C4 items i s.frm).map ptR)])
  (hA : ∀ {aE : List Sgm} {q g st at_ : Pt} {gl item feed lead len mid : Int}, FR st aE = at_ -> bd 67108864 at_ -> bd 67108864 q -> aE.length + 1 <= 1048577 -> (0 <= len /\ len <= 4000000000000000000) ->
   MA [.view Ah (aE.map Av), .view AJ aC,I q.x,I q.y,I q.z,I g.x,I g.y,I g.z,I gl,I item,I feed,I lead,I st.x,I st.y,I st.z,B true,I len,I s.speed,I mid]=
   some [.view Ah ((Bf item feed lead (aE,len,at_) q).1.map Av), .view AJ aC,I st.x,I st.y,I st.z,B true,I (Bf item feed lead (aE,len,at_) q).2.1,I s.speed,I mid])
  (a2 : ∀ {q g st : Pt} {gl item feed lead len mid : Int}, MA [.view Ah [], .view AJ aC, I q.x, I q.y, I q.z, I g.x, I g.y, I g.z, I gl, I item, I feed, I lead, I st.x, I st.y, I st.z, B false, I len, I s.speed, I mid] =
   some [.view Ah [], .view AJ aC,I q.x,I q.y,I q.z,B true,I len,I s.speed,I mid]):
  Qlf MM G MA M O S (Al (Mr MM G MA M O S)) [.view Ah (s.aE.map Av), .view AJ aC, .view Ai (items.map Ag),I i,I s.frm,I s.start.x,I s.start.y,I s.start.z,B s.begun,I s.len,I s.speed,I mid]=
   some [.view Ah ((FW items i s mid).1.1.map Av), .view AJ aC,B true,I (if s.begun=true then s.start else Az (itA items i).fr).x,I (if s.begun=true then s.start else Az (itA items i).fr).y,I (if s.begun=true then s.start else Az (itA items i).fr).z,B true,I (FW items i s mid).1.2.1,I s.speed,I (FW items i s mid).2]:=by
 have hr:=FP hi;have a3:(0:Int)<=(i:Int)/\(i:Int)<(items.length:Int):=by omega
 have a6:=J.aE;have U:=J.len
 have V:∀lead feed:Int,Al (Mr MM G MA M O S) (.view Ah (s.aE.map Av):: .view AJ aC:: .view kPt ((C4 items i s.frm).map ptR)::I (C4 items i s.frm).length::I (0:Nat)::(Ag (itA items i)++[I (⟨0,0,0⟩:Pt).x,I (⟨0,0,0⟩:Pt).y,I (⟨0,0,0⟩:Pt).z,I 0,I i,I feed,I lead,I s.start.x,I s.start.y,I s.start.z,B s.begun,I s.len,I s.speed,I mid]))=
   some (1, [.view Ah (((C4 items i s.frm).foldl (Es (itA items i) i feed lead) ((s.aE, s.len, if s.begun = true then s.at_ else Az (itA items i).fr), mid)).1.1.map Av), .view AJ aC, I (if s.begun = true then s.start else Az (itA items i).fr).x, I (if s.begun = true then s.start else Az (itA items i).fr).y, I (if s.begun = true then s.start else Az (itA items i).fr).z, B true,
    I ((C4 items i s.frm).foldl (Es (itA items i) i feed lead) ((s.aE,s.len,if s.begun=true then s.at_ else Az (itA items i).fr),mid)).1.2.1,I s.speed,I ((C4 items i s.frm).foldl (Es (itA items i) i feed lead) ((s.aE,s.len,if s.begun=true then s.at_ else Az (itA items i).fr),mid)).2]):=by
  intro lead feed;by_cases hb:s.begun=true
  ·obtain⟨g1,g2⟩:=hinv.begun hb;obtain⟨g3,g4,g5⟩:=g2;rw[aa hb,aa hb,hb];have:=Qfk (MP:=M) (MG:=O) (MR:=S) (g:=⟨0,0,0⟩) (gl:=0) (item:=i) (feed:=feed) (lead:=lead) (by omega) g1 D.1 hM hC (λh1 h2 h3 h4 h5=>hA h1 h2 h3 h4 h5) (C4 items i s.frm).length 0 (s.aE,s.len,s.at_) mid (by omega) (by simp only;omega) U.1 (by simp only;omega) (J.at_ hb) g4;rw[List.drop_zero]at this;exact this
  ·have X:s.begun=false:=by simpa using hb
   obtain⟨e1,e2,e3⟩:=hinv.empty X;obtain⟨l,hl⟩:=Z57 hv;have a1:bd 67108864 (Az (itA items i).fr):=A6 (FK hv.2.1) (by decide);rw[ab hb,ab hb,X,e1];rw[a0 X,hl]at D⊢;have h0:0<(Az (itA items i).fr::l).length:=by simp
   have Y:=Qsp (MP:=M) (MG:=O) (MR:=S) h0 (by omega) hM hC (a2 (q:=Az (itA items i).fr) (g:=⟨0,0,0⟩) (st:=s.start) (gl:=0) (item:=i) (feed:=feed) (lead:=lead) (len:=s.len) (mid:=mid));rw[dh,Bv Y];have:=Qfk (MP:=M) (MG:=O) (MR:=S) (g:=⟨0,0,0⟩) (gl:=0) (item:=i) (feed:=feed) (lead:=lead) (by omega) a1 D.1 hM hC (λh1 h2 h3 h4 h5=>hA h1 h2 h3 h4 h5) l.length 1 ([],s.len,Az (itA items i).fr) (if smI (itA items i)/\Az (itA items i).fr=Bl (itA items i)then s.len else mid) (by simp;omega) (by simp only[cx];simp at D;omega) U.1 (by simp only;simp at D;omega) a1 rfl;rw[List.drop_succ_cons,List.drop_zero]at this;rw[List.foldl_cons];have e4:Es (itA items i) i feed lead (([],s.len,Az (itA items i).fr),mid) (Az (itA items i).fr)=(([],s.len,Az (itA items i).fr),if smI (itA items i)/\Az (itA items i).fr=Bl (itA items i)then s.len else mid):=by
    unfold Es;rw[show Bf i feed lead ([],s.len,Az (itA items i).fr) (Az (itA items i).fr)=([],s.len,Az (itA items i).fr)from aa rfl]
   rw[e4];exact this
 have E:∀lead feed:Int,((C4 items i s.frm).foldl (Es (itA items i) i feed lead) ((s.aE,s.len,if s.begun=true then s.at_ else Az (itA items i).fr),mid)).1.1.length<=1048576:=by
  intro lead feed;rw[Qom];have a4:bd 67108864 (if s.begun=true then s.at_ else Az (itA items i).fr):=by
   split
   ·rename_i hb;exact J.at_ hb
   ·exact A6 (FK hv.2.1) (by decide)
  have:=(To (item:=i) (feed:=feed) (lead:=lead) (C4 items i s.frm) (s.aE,s.len,if s.begun=true then s.at_ else Az (itA items i).fr) D.1 a4 U.1).1;simp only at this⊢;omega
 generalize Al (Mr MM G MA M O S)=N at*;have L:=λlead feed=>V lead feed;simp only[Ag,aq,ay]at hG hR L;rw[Z8y];simp only[go_sem,af,aj,hr,aa a3,hG,hR,hP];have a5:((0:Nat):Int)=0:=rfl;simp only[a5]at L;unfold FW O5;by_cases hs:syI (itA items i)
 ·have hf:=T hs;rw[aa hs];simp only[aa hs];rw[Ae (by omega)];simp only[L,go_sem,af];rw[al (show((_:Nat):Int)<=1048576 from by have:=E (mn ((itA items i).feed*16) 16777216) (Id (itA items i) s.speed);omega)]
 ·rw[ab hs];simp only[ab hs];simp only[L,go_sem,af];rw[al (show((_:Nat):Int)<=1048576 from by have:=E 0 (Id (itA items i) s.speed);omega)]
theorem Qc6 {S T U V N O:Fn} {items:List Itm} (X:∀k:Int,N [I k]=some [B (decide (1<=k/\k<=6))]) (Y:∀it,O (Ag it)=some [I (if B5 it then 1 else 0)]) (hl:items.length<=1000000):
  ∀(k i:Nat) (last:Int),i+k=items.length->(last= -1\/(0<=last/\last<i))->
  (Al (Qq S T U V N O) [.view Ah [], .view AJ [], .view Ai (items.map Ag),I last, .view Ai (items.map Ag),I items.length,I i,I 0,I 0,I 0,B false,I 0,I 0,I 0]=some (1,[.view Ah [], .view AJ [],I (G1 items k i last),I 0,I 0,I 0,B false,I 0,I 0,I 0])/\G1 items k i last≠0)\/
  (Al (Qq S T U V N O) [.view Ah [], .view AJ [], .view Ai (items.map Ag),I last, .view Ai (items.map Ag),I items.length,I i,I 0,I 0,I 0,B false,I 0,I 0,I 0]=some (2,[.view Ah [], .view AJ [], .view Ai (items.map Ag),I 0,I 0,I 0,B false,I 0,I 0,I 0])/\G1 items k i last=0)
 |0,i,last,hi,_=>by
  right;refine⟨A7 ?_ (by simp),rfl⟩;rw[Q5b,A_ (by omega)]
 |k+1,i,last,hi,a0=>by
  have a1:i<items.length:=by omega
  have hr:=FP a1;have hw:=Y (itA items i);have hm:=X (itA items i).kind;have a2:(0:Int)<=(i:Int)/\(i:Int)<(items.length:Int):=by omega
  have D:Qq S T U V N O [.view Ah [], .view AJ [], .view Ai (items.map Ag),I last, .view Ai (items.map Ag),I items.length,I i,I 0,I 0,I 0,B false,I 0,I 0,I 0]=
    if B5 (itA items i)then some (1,[.view Ah [], .view AJ [],I 1,I 0,I 0,I 0,B false,I 0,I 0,I 0])else if AF (itA items i)then(if 0<=last/\(itA items last.toNat).to≠(itA items i).fr then some (1,[.view Ah [], .view AJ [],I 13,I 0,I 0,I 0,B false,I 0,I 0,I 0])else some (0,[.view Ah [], .view AJ [], .view Ai (items.map Ag),I i, .view Ai (items.map Ag),I items.length,I (i+1:Nat),I 0,I 0,I 0,B false,I 0,I 0,I 0]))
    else some (0,[.view Ah [], .view AJ [], .view Ai (items.map Ag),I last, .view Ai (items.map Ag),I items.length,I (i+1:Nat),I 0,I 0,I 0,B false,I 0,I 0,I 0]):=by
   rw[Q5b];simp only[Ag]at hw;simp only[go_sem,af,aj,hr,hw,hm,aa a2];rw[aa (by omega),Ae (by omega)];by_cases J:B5 (itA items i)
   ·simp only[aa J];rw[aa (by omega)]
   simp only[ab J];rw[ab (by simp)];by_cases E:AF (itA items i)
   ·rw[ab (λh=>h E),aa E];rcases a0 with rfl|⟨h1,h2⟩
    ·rw[ab (show¬(-1:Int)>=0 by omega),ab (λh=>by omega)];rfl
    ·obtain⟨L,rfl⟩:=bv h1;have hL:L<items.length:=by omega
     have M:(0:Int)<=(L:Int)/\(L:Int)<(items.length:Int):=by omega
     have a3:=FP hL;simp only[aj,a3,go_sem,aa M];rw[aa (by omega)];by_cases G:(itA items L).to=(itA items i).fr
     ·have c4:=DT.1 G;rw[ab (λh=>h ⟨c4.1,c4.2.1,c4.2.2,trivial⟩),ab (λh=>h.2 G)];rfl
     ·rw[aa (λh=>G (DT.2 ⟨h.1,h.2.1,h.2.2.1⟩)),aa ⟨h1,G⟩]
   ·rw[aa (show¬(1<=(itA items i).kind/\(itA items i).kind<=6)from E),ab E];rfl
  unfold G1;by_cases J:B5 (itA items i)
  ·rw[aa J]at D⊢;exact .inl ⟨A7 D (by simp),by simp⟩
  ·rw[ab J]at D⊢;by_cases E:AF (itA items i)
   ·rw[aa E]at D⊢;by_cases G:0<=last/\(itA items last.toNat).to≠(itA items i).fr
    ·rw[aa G]at D⊢;exact .inl ⟨A7 D (by simp),by simp⟩
    ·rw[ab G]at D⊢;rw[Bv D];exact Qc6 X Y hl k (i+1) i (by omega) (.inr (by omega))
   ·rw[ab E]at D⊢;rw[Bv D];exact Qc6 X Y hl k (i+1) last (by omega) (by omega)
noncomputable def GL (items:List Itm):Nat->Int
 |0=> -1
 |i+1=>if AF (itA items i)then i else GL items i
theorem Qvg (items:List Itm):∀i,GL items i= -1\/∃L:Nat,GL items i=L/\L<i/\AF (itA items L)/\∀j,L<j->j<i-> ¬AF (itA items j)
 |0=> .inl rfl
 |i+1=>by
  unfold GL;by_cases c:AF (itA items i)
  ·rw[aa c];exact .inr ⟨i,rfl,by omega,c,λj D E=>by omega⟩
  ·rw[ab c];rcases Qvg items i with h|⟨L,D,E,G,I⟩
   ·exact .inl h
   ·refine .inr ⟨L,D,by omega,G,λj g1 g2=> ?_⟩;by_cases e:j=i
    ·rw[e];exact c
    ·exact I j g1 (by omega)
theorem Qu8 (items:List Itm):∀i,(Au items i).frm=if 0<=GL items i/\0<=Cq items (GL items i).toNat then GL items i else-1
 |0=>by rw[Au,GL,ab (by omega)]
 |i+1=>by
  rw[Au,GL];unfold Eg;by_cases c:AF (itA items i)
  ·rw[aa c,aa c];simp only[aj];by_cases D:0<=Cq items i
   ·rw[aa D,aa ⟨by omega,D⟩]
   ·rw[ab D,ab (λh=>D h.2)]
  ·rw[ab c,ab c];exact Qu8 items i
theorem Zoc {items:List Itm} {i L:Nat} (G:L<i) (S:i<items.length) (I:AF (itA items i)) (D:∀j,L<j->j<i-> ¬AF (itA items j)) (J:0<=Cq items L):Dx items L=i:=by
 have T:=TG J;rcases Zy items L with h|⟨-,-,k,U,M,V,E,N⟩
 ·omega
 ·have O:Dx items L=k:=by omega
  rw[O];rcases Nat.lt_trichotomy k i with h|h|h
  ·exact absurd ⟨by have:=E.1;omega,by have:=E.1;omega⟩ (D k M h)
  ·exact h
  ·have:=N i G h;have:=I.2;omega
noncomputable def Df (items:List Itm):Nat->Int
 |0=>0
 |i+1=>if AF (itA items i)then(FW items i (Au items i) (Df items i)).2 else Df items i
theorem Qtu (items:List Itm):∀i,(Au items i).begun=false->(Au items i).frm= -1
 |0,_=>by rw[Au]
 |i+1,h=>by
  rw[Au]at h⊢;unfold Eg at h⊢;by_cases c:AF (itA items i)
  ·rw[aa c]at h;cases h
  ·rw[ab c]at h⊢;exact Qtu items i h
noncomputable abbrev pbR (items:List Itm) (i:Nat):List AC:=
 [.view Ah ((Au items i).aE.map Av), .view AJ ((Au items i).aC.map At), .view Ai (items.map Ag),I (GL items i), .view Ai (items.map Ag),I items.length,I i,I (Au items i).start.x,I (Au items i).start.y,I (Au items i).start.z,B (Au items i).begun,I (Au items i).len,I (Au items i).speed,I (Df items i)]
theorem Ze1 {MK MV MN MS X MC:Fn} {N6:Lp} {items:List Itm} {i:Nat} (hi:i<items.length) (hlen:items.length<=15) (a1:(Au items i).aC.length=i)
  (hM:∀k:Int,X [I k]=some [B (decide (1<=k/\k<=6))]) (hS:∀L:Nat,L<items.length->MS [.view Ai (items.map Ag),I L]=some [B (decide (0<=Cq items L))]) (hN:∀L:Nat,L<items.length->MN [.view Ai (items.map Ag),I L]=some [I (Dx items L)])
  (Y : AF (itA items i) -> MV [.view Ah ((Au items i).aE.map Av), .view AJ ((Au items i).aC.map At), .view Ai (items.map Ag), I i, I (Au items i).frm, I (Au items i).start.x, I (Au items i).start.y, I (Au items i).start.z, B (Au items i).begun, I (Au items i).len, I (Au items i).speed, I (Df items i)] =
   some [.view Ah ((FW items i (Au items i) (Df items i)).1.1.map Av), .view AJ ((Au items i).aC.map At),B true,I (if(Au items i).begun=true then(Au items i).start else Az (itA items i).fr).x,I (if(Au items i).begun=true then(Au items i).start else Az (itA items i).fr).y,I (if(Au items i).begun=true then(Au items i).start else Az (itA items i).fr).z,B true,
    I (FW items i (Au items i) (Df items i)).1.2.1,I (Au items i).speed,I (FW items i (Au items i) (Df items i)).2])
  (hK : ∀ {aE : Rw} {O : Pt} {b : Bool} {len sp G : Int}, MK [.view Ah aE, .view AJ ((Au items i).aC.map At), .view Ai (items.map Ag), I i, I O.x, I O.y, I O.z, B b, I len, I sp, I G] =
   some [.view Ah aE, .view AJ (((Au items i).aC++[(⟨len,J4 items i,i⟩:Mrk)]).map At),I O.x,I O.y,I O.z,B b,I len,I sp,I G]):
  P0 MK MV MN MS X MC N6 (pbR items i)=some (0,pbR items (i+1)):=by
 have hr:=FP hi;have T:(0:Int)<=(i:Int)/\(i:Int)<(items.length:Int):=by omega
 have hw:wrap .i64 ((i:Int)+1)=((i+1:Nat):Int):=by rw[Ae (by omega)];omega
 have hf:=Qu8 items i;have M:=Qvg items i;have U:=Zbu items i (Au items i) (Df items i);have e1:GL items (i+1)=if AF (itA items i)then(i:Int)else GL items i:=rfl;have e2:Df items (i+1)=if AF (itA items i)then(FW items i (Au items i) (Df items i)).2 else Df items i:=rfl;have e3:Au items (i+1)=Eg items i (Au items i):=rfl;unfold pbR;rw[e1,e2,e3];generalize Au items i=s at*;generalize GL items i=last at*;generalize a2:Df items i=G at*;unfold Eg;rw[Q8p];by_cases E:AF (itA items i)
 ·have S: ¬(itA items i).kind=8:=λh=>by have:=E.2;omega
  have Y:=Y E;have D:J4 items i=Ih items i:=aa E;rw[aa E,aa E,aa E];rw[U]at Y;have N:X [I (itA items i).kind]=some [B true]:=by rw[hM,al (show 1<=(itA items i).kind/\(itA items i).kind<=6 from E)]
  simp only[go_sem,af,aj,hr,aa T,N];rw[aa (by omega),ab S];have J:∀{x:Option (Nat×List AC)} {frm:Int},s.frm=frm->(MV [.view Ah (s.aE.map Av), .view AJ (s.aC.map At), .view Ai (items.map Ag),I i,I frm,I s.start.x,I s.start.y,I s.start.z,B s.begun,I s.len,I s.speed,I G])=
    some [.view Ah ((Gc items i s).1.map Av), .view AJ (s.aC.map At),B true,I (if s.begun=true then s.start else Az (itA items i).fr).x,I (if s.begun=true then s.start else Az (itA items i).fr).y,I (if s.begun=true then s.start else Az (itA items i).fr).z,B true,I (Gc items i s).2.1,I s.speed,I (FW items i s G).2]:=by
   intro x frm h;rw[<-h];exact Y
  rcases M with M|⟨L,h1,h2,h3,h4⟩
  ·rw[M];rw[M,ab (by omega)]at hf;rw[ab (show¬(-1:Int)>=0 by omega)];have V:=J (x:=none) hf;simp only[V,go_sem,hK,hw,D];simp
  ·rw[h1]at hf⊢;rw[aj]at hf;have hs:=hS L (by omega);have hn:=hN L (by omega);rw[aa (show(L:Int)>=0 by omega)];by_cases c:0<=Cq items L
   ·have a0:=Zoc h2 hi E h4 c;rw[aa ⟨by omega,c⟩]at hf;rw[a0]at hn;rw[al c]at hs;have V:=J (x:=none) hf;simp only[hs,hn,go_sem];simp only[V,go_sem,hK,hw,D];simp
   ·rw[ab (λh=>c h.2)]at hf;rw[am c]at hs;have V:=J (x:=none) hf;simp only[hs,go_sem];simp only[V,go_sem,hK,hw,D];simp
 ·have D:J4 items i=Jt (itA items i):=ab E;rw[ab E,ab E,ab E];have N:X [I (itA items i).kind]=some [B false]:=by rw[hM,am (show¬(1<=(itA items i).kind/\(itA items i).kind<=6)from E)]
  unfold Ra;simp only[go_sem,af,aj,hr,aa T,N,hK,hw,D];rw[aa (by omega)];by_cases S:(itA items i).kind=8
  ·by_cases h3:(itA items i).n=3
   ·simp[S,h3]
   ·by_cases h4:(itA items i).n=4
    ·simp[S,h4]
    ·simp[S,h3,h4]
  ·simp[S]
end Go.Bm
