/- laid together -/
import Derived.Test.YtommijghjlikkaaGreatPrLc
import Derived.Test.YtommijghjlikkaaGreatMx3
import Derived.Test.YtommijghjlikkaaGreatPrTk
set_option linter.unusedVariables false
set_option linter.unusedSimpArgs false
set_option maxRecDepth 100000
noncomputable section
open Go.IntKind (wrap)
namespace Go.Bm
def Jk (j:Int) (l:Rw):Prop:=∀r∈l,-j<=gA r 0/\gA r 0<=j
theorem Jk.snoc {j:Int} {l:Rw} {r:List AC} (h:Jk j l) (hr: -j<=gA r 0/\gA r 0<=j):Jk j (l++[r]):=λx hx=>by
 rcases bj.1 hx with hx|hx
 ·exact h x hx
 ·rw[dg]at hx;subst hx;exact hr
theorem Zop {j:Int} (hj:0<=j/\j<=65536):Out (λo=>o.1=1/\(wA o.2 0).length<=65536/\Jk j (wA o.2 0)) (An QC [.view Aa [],I j]):=by
 refine Cb (λs:Rw×Int=>[.view Aa s.1,I s.2]) (λs=>0<=s.2/\s.2<=j/\s.1.length+s.2<=65536/\Jk j s.1) (λs=>s.2.toNat) _ ?_ ([],j) ⟨hj.1,df _,by simp;omega,λr h=>by cases h⟩;rintro⟨v,k⟩ ⟨g1,g0,g2,g3⟩;dsimp only at g0 g1 g2 g3;rw[Zym,bc g1,Ae (x:=k/2) (by omega)];refine .cond (λc=> ?_) (λc=> ?_)
 ·have c:=A6 c;refine .cond (λ_=> ?_) λc=>by rw[CK (by simp;omega)]at c;cases c
  exact .some (.inl ⟨rfl,(v++[[I k]],k/2),rfl,⟨by dsimp only;omega,by dsimp only;omega,by simp;omega,g3.snoc (by show-j<=k/\k<=j;omega)⟩,by dsimp only;omega⟩)
 ·exact .some (.inr ⟨by simp,rfl,by show v.length<=65536;omega,g3⟩)
theorem Zm5 {j:Int} {N:Lp} {up out:Rw} (hj:0<=j/\j<=65536) (h1:up.length<=65536) (hu:Jk j up) (h2:out.length=up.length+1) (ho:Jk j out):Out (λo=>o.1=1/\(wA o.2 0).length<=140000/\Jk j (wA o.2 0)) (An (SE N) [.view Aa up, .view Aa out,I ((up.length:Int)-1)]):=by
 refine Cb (λs:Rw×Int=>[.view Aa up, .view Aa s.1,I s.2]) (λs=> -1<=s.2/\s.2<up.length/\s.1.length+s.2<=2*up.length/\Jk j s.1) (λs=>(s.2+1).toNat) _ ?_ (out,(up.length:Int)-1) ⟨by simp only;omega,by simp only;omega,by simp only;omega,ho⟩;rintro⟨v,k⟩ ⟨g1,g2,g3,g4⟩;dsimp only at g1 g2 g3 g4;rw[Zs0,Ae (x:=k-1) (by omega)];refine .cond (λc=> ?_) (λc=> ?_)
 ·have c:=A6 c;refine .cond (λ_=> ?_) λc=>by simp at c;omega
  refine .cond (λ_=> ?_) λc=>by rw[CK (by simp;omega)]at c;cases c
  have hk: -j<=gA (nth [] up k.toNat) 0/\gA (nth [] up k.toNat) 0<=j:=by
   rw[GF [] up k.toNat (by omega)];exact hu _ (bq _)
  exact .some (.inl ⟨rfl,(_,k-1),rfl,⟨by dsimp only;omega,by dsimp only;omega,by simp;omega,g4.snoc (by show-j<=wrap .i64 (0-gA (nth [] up k.toNat) 0)/\wrap .i64 (0-gA (nth [] up k.toNat) 0)<=j;rw[Ae (by omega)];omega)⟩,by dsimp only;omega⟩)
 ·have c:=A2 c;exact .some (.inr ⟨by simp,rfl,by show v.length<=140000;omega,g4⟩)
theorem Zpc {j:Int} (hj:0<=j/\j<=65536):Out (λo=>(wA o 0).length<=140000/\Jk j (wA o 0)) (O9 [I j]):=by
 show Out _ (Qd8 (An QC) (An (SE (An QC))) [I j]);rw[Z3z];refine .bind (Zop hj) λo g=> ?_;rw[g.1];obtain⟨-,g2,g3⟩:=g;generalize wA o.2 0=up at*;refine .cond (λ_=> ?_) λc=>by simp at c
 refine .cond (λ_=> ?_) λc=>by rw[CK (by simp;omega)]at c;cases c
 refine .cond (λ_=> ?_) λc=>by rw[CK (by simp;omega)]at c;cases c
 rw[Ae (x:=(up.length:Int)-1) (by omega)];refine .bind (Zm5 hj g2 g3 (by simp) (by rw[av];exact g3.snoc (by show-j<=0/\0<=j;omega))) λo g=> ?_;rw[g.1];exact .some g.2
def Qki (m0 m1 m3 m4:Int) (Q R:Int->Prop) (o:List AC):Prop:=∃v:Int,o=Es m0 m1 m3 m4 v/\(Q v\/∃r:Int,v=wrap .i64 (m1+r)/\R r)
theorem Za4 {MB MS MF MM MR MC:Fn} {p:Pth} {x:Ax3} {t:Trk} {a b c o0 o1:Int} {b0 b1 b2:Bool} (hb:0<=b/\b<=65536) {m0 m1 m2 m3 m4 m5 l:Int} {Q R F:Int->Prop}
  (hB:Out (λo=>∃r:Int,o=[I r]/\R r) (MB [I a,I b,I c,I m1,I m2]))
  (hS:∀v:Int,0<=v->F v->(∃k:Int,-b<=k/\k<=b/\v=wrap .i64 (m1+wrap .i64 (m2+k)))->Out (λo=>bA o 0=true->Q v) (MS (pxt p x t [I a,I b,I c,I (wrap .i64 (m0+v)),I v,I (wrap .i64 (v-m1)),I m0,I m3,I m4,I l])))
  (hF:∀v:Int,Out (λo=>bA o 0=true->F v) (MF (EW p t [I a,I b,I c,I o0,I o1,B b0,B b1,B b2,I (wrap .i64 (m0+v)),I v,I (wrap .i64 (v-m1)),I m0,I m3,I m4])))
  (hM:∀m0 m1 m2 m3 m4 m5 v,MM [I m0,I m1,I m2,I m3,I m4,I m5,I v]=some (Es m0 m1 m3 m4 v))
  (hR:∀a b c v x,(MR [I a,I b,I c,I v,I x]).isSome=true)
  (hC:∀j,0<=j/\j<=65536->Out (λo=>(wA o 0).length<=140000/\Jk j (wA o 0)) (MC [I j])):
  Out (Qki m0 m1 m3 m4 Q R) (Qim MB MS MF MM MR MC (An (Qfh MB MS MF MM MR MC)) (pxt p x t [I a,I b,I c,I o0,I o1,B b0,B b1,B b2,I m0,I m1,I m2,I m3,I m4,I m5,I l])):=by
 rw[Z6o];refine .bind (hC b hb) λq h1=> ?_;obtain⟨h1,hJ⟩:=h1;generalize wA q 0=ch at*;refine .bind (p:=λo=>o.1=1/\((∃v:Int,∃g0 g1 g2 g3 g4 g5:Int,o.2=B true::I a::I b::I c::I m0::I m1::I m2::I m3::I m4::I m5::I g0::I g1::I g2::I g3::I g4::I g5::Es m0 m1 m3 m4 v/\Q v)\/∃l:List AC,o.2=B false::I a::I b::I c::I m0::I m1::I m2::I m3::I m4::I m5::l)) ?_ λo g=>by
  obtain⟨g,g2⟩:=g;rw[g];refine .cond (λ_=> ?_) λc=>by simp at c
  rcases g2 with⟨v,g0,g1,g2,g3,g4,g5,e,hs⟩|⟨l',e⟩
  ·rw[e];refine .cond (λ_=> .some ⟨v,rfl, .inl hs⟩) λc=>by simp[gA,wA,bA,jA,nth,Dl]at c
  ·rw[e];refine .cond (λc=>by simp[gA,wA,bA,jA,nth,Dl]at c) λ_=> ?_;simp only[gA,wA,bA,jA,nth,Af];refine .bind hB λo g=> ?_;obtain⟨r,rfl,hr⟩:=g;simp only[gA,wA,bA,jA,nth,Af];rw[hM];exact .some ⟨_,rfl, .inr ⟨r,rfl,hr⟩⟩
 refine Cb (λs:Nat×(Int×Int×Int×Int×Int×Int)=>I l::B false:: .view Aa ch::I (ch.length:Int)::I (s.1:Int)::pxt p x t [I a,I b,I c,I o0,I o1,B b0,B b1,B b2,I m0,I m1,I m2,I m3,I m4,I m5,I 0,I 0,I 0,I 0,I 0,I 0,I s.2.1,I s.2.2.1,I s.2.2.2.1,I s.2.2.2.2.1,I s.2.2.2.2.2.1,I s.2.2.2.2.2.2])
  (λs=>s.1<=ch.length) (λs=>ch.length-s.1) _ ?_ (0,(0,0,0,0,0,0)) (by simp)
 rintro⟨i,f0,f1,f2,f3,f4,f5⟩ g;dsimp only at g;rw[Zkb];rw[Ae (x:=(i:Int)+1) (by omega)];refine .cond (λc=> ?_) (λc=> ?_)
 ·have c:=A6 c;refine .cond (λ_=> ?_) λc=>by simp at c;omega
  refine .cond (λ_=> ?_) λpos=> ?_
  ·exact .some (.inl ⟨rfl,(i+1,f0,f1,f2,f3,f4,f5),rfl,by dsimp only;omega,by dsimp only;omega⟩)
  ·have pos:=A2 pos;refine .ibind (hR _ _ _ _ _) λ_ _=> .cond (λ_=> ?_) λ_=> ?_
   ·exact .some (.inl ⟨rfl,(i+1,f0,f1,f2,f3,f4,f5),rfl,by dsimp only;omega,by dsimp only;omega⟩)
   ·have hk:∃k:Int,-b<=k/\k<=b/\wrap .i64 (m1+wrap .i64 (m2+gA (nth [] ch (i:Int).toNat) 0))=wrap .i64 (m1+wrap .i64 (m2+k)):=by
     have:=hJ _ (bq (show i<ch.length by omega));rw[ak,GF [] ch i (by omega)];exact⟨_,this.1,this.2,rfl⟩
    generalize wrap .i64 (m1+wrap .i64 (m2+gA (nth [] ch (i:Int).toNat) 0))=v at*;rw[hM];simp only[af,gA,wA,bA,jA,nth,Af];refine .bind (hF v) λof fit=> .cond (λcf=> ?_) λ_=> ?_
    ·refine .bind (hS v (by omega) (fit cf) hk) λo hs=> .cond (λc=> ?_) λ_=> ?_
     ·exact .some (.inr ⟨by simp,rfl, .inl ⟨v,0,0,0,0,0,0,rfl,hs c⟩⟩)
     ·exact .some (.inl ⟨rfl,(i+1,_,_,_,_,_,_),rfl,by dsimp only;omega,by dsimp only;omega⟩)
    ·exact .some (.inl ⟨rfl,(i+1,_,_,_,_,_,_),rfl,by dsimp only;omega,by dsimp only;omega⟩)
 ·exact .some (.inr ⟨by simp,rfl, .inr ⟨_,rfl⟩⟩)
theorem Z0z {MS MF:Fn} {p:Pth} {x:Ax3} {t:Trk} {Q:Prop} (hS:∀{way:Rw},way.length<=100000->(MS (pxt p x t [.view Aa way])).isSome=true)
  {a b c m0 m1 m2 m3 m4 m5 l:Int} (hF:Out (λo=>(wA o 0).length<=4096/\(bA o 1=true->Q)) (MF [I a,I b,I c,I m0,I m1,I m2,I m3,I m4,I m5])):
  Out (λo=>bA o 0=true->Q) (Qm6 MS MF (pxt p x t [I a,I b,I c,I m0,I m1,I m2,I m3,I m4,I m5,I l])):=by
 rw[Zr4];refine .bind hF λo h=> ?_;obtain⟨h2,hs⟩:=h;generalize wA o 0=sp at*;refine .cond (λ_=> .some λh=>by simp[gA,wA,bA,jA,nth,Dl]at h) λc1=> ?_;have hs:=hs (by simpa using c1);refine .cond (λc=> ?_) λc=> ?_
 ·have c:=A6 c;rw[Ae (x:=(sp.length:Int)-1) (by omega)];refine .cond (λ_=> ?_) λc=>by simp at c;omega
  generalize Af (nth .dead (nth [] sp ((sp.length:Int)-1).toNat) 0)=e;refine .cond (λ_=> .some λ_=>hs) λ_=> ?_;refine .cond (λ_=> ?_) λc=>by rw[CK (by simp;omega)]at c;cases c
  refine .cond (λ_=> ?_) λc=>by rw[CK (by simp;omega)]at c;cases c
  exact .ibind (hS (by simp;omega)) λ_ _=> .some λ_=>hs
 ·refine .cond (λ_=> .some λ_=>hs) λ_=> ?_;refine .cond (λ_=> ?_) λc=>by rw[CK (by simp;omega)]at c;cases c
  refine .cond (λ_=> ?_) λc=>by rw[CK (by simp;omega)]at c;cases c
  exact .ibind (hS (by simp;omega)) λ_ _=> .some λ_=>hs
theorem Zi4 {a k c:Int} (hp:Plan3 a k c) (u v x x6 x7 x8:Int):Out (λo=>(wA o 0).length<=4096/\(bA o 1=true->(Bo a k v x).2=true)) (Fz [I a,I k,I c,I u,I v,I x,I x6,I x7,I x8]):=by
 have key:∀{M:Fn},M [I a,I k,I c,I v,I x]=some [.view Aa ((Bo a k v x).1.map As),B (Bo a k v x).2]->Out (λo=>(wA o 0).length<=4096/\(bA o 1=true->(Bo a k v x).2=true)) (Ry M (An (Lq M)) [I a,I k,I c,I u,I v,I x,I x6,I x7,I x8]):=by
  intro M hM;have hb:=Zga hp v x;rw[Qhx];refine .bind (p:=λo=>o=_) ⟨_,hM,rfl⟩ λo e=> ?_;subst e;refine .cond (λ_=> .some ⟨by simp[wA,nth,BS],λh=>by simp[bA,nth,Dl]at h⟩) λh=> ?_;have hz:(Bo a k v x).2=true:=by simpa [bA,nth,Dl]using h
  have hl:(wA [AC.view Aa ((Bo a k v x).1.map As),B (Bo a k v x).2] 0).length<=4096:=by
   show((Bo a k v x).1.map As).length<=4096;rw[ag];exact hb.1
  generalize wA [AC.view Aa ((Bo a k v x).1.map As),B (Bo a k v x).2] 0=sp at*;refine .cond (λ_=> ?_) λc=>by simp at c
  refine .cond (λ_=> ?_) λc=>by simp at c;omega
  refine .bind (Qx0 (by simp) hl) λo g=> ?_;rw[g.1];exact .some ⟨by show(wA o.2 0).length<=4096;omega,λ_=>hz⟩
 exact key (Zvo hp v x)
theorem Qqu {p:Pth} {x:Ax3} {t:Trk} (h:Fix p x t) {a b c:Int} (hp:Plan3 a b c) (m0 m1 m2 m3 m4 m5 l:Int):Out (λo=>bA o 0=true->(Bo a b m1 m2).2=true) (I8 (pxt p x t [I a,I b,I c,I m0,I m1,I m2,I m3,I m4,I m5,I l])):=
 Z0z (Z0e h) (Zi4 hp _ _ _ _ _ _)
theorem Jm {a k v x:Int}:(Bo a k v x).2=true↔CE a k v x/\(BF a k 4096 v x).2=true:=by
 unfold Bo;by_cases h:CE a k v x/\(BF a k 4096 v x).2=true
 ·rw[aa h];exact⟨λ_=>h,λ_=>rfl⟩
 ·rw[ab h];exact⟨λq=>(by cases q),λq=>absurd q h⟩
theorem Zlm {a k c v x:Int} (hp:Plan3 a k c) (h:(Bo a k v x).2=true):(Bo a k (v+AI a k v x) (AI a k v x)).2=true/\
  (Bo a k v x).1=if v<=0 then []else(v+AI a k v x)::(Bo a k (v+AI a k v x) (AI a k v x)).1:=by
 obtain⟨hr,hs⟩:=Jm.1 h;have hc:=closed hp hr;have hrg:=Ix hp hc.1;by_cases c0:v<=0
 ·have hv:v=0:=by have:=Ix hp hr;omega
  have hb:AI a k v x=0:=by
   obtain⟨B,hB⟩:∃B,B=bs k v 20 (-x-k) (min (k-x) a):=⟨_,rfl⟩;obtain⟨q1,q2,q3,q4,q5,q6⟩:=Q0f hp hr hB;have:=LV (k:=k) (b:=B) (by have:=hp.b;omega);have hx:=hr.2.2.2.2 hv;have ha:=hp.a;have e:AI a k v x= -B:=by unfold AI;rw[hB]
   rw[e];rcases q5 with q5|q5
   ·omega
   ·by_cases hn:B+1<=0
    ·rw[J4 hn]at q5;omega
    ·omega
  have e0:BF a k 4096 0 0=([],true):=by unfold BF;rw[aa (by omega)]
  refine⟨?_,?_⟩
  ·rw[hb,hv];refine Jm.2 ⟨?_,by rw[show(0:Int)+0=0 from rfl,e0]⟩;have:=hc.1;rw[hb,hv]at this;exact this
  ·rw[aa c0];unfold Bo;rw[aa ⟨hr,hs⟩];unfold BF;rw[aa c0]
 ·have e:BF a k 4096 v x=((v+AI a k v x)::(BF a k 4095 (v+AI a k v x) (AI a k v x)).1,(BF a k 4095 (v+AI a k v x) (AI a k v x)).2):=by
   show(if v<=0 then _ else _)=_;rw[ab c0]
  rw[e]at hs;have hm:=Qz8 a k 4095 _ _ hs;have hn:(Bo a k (v+AI a k v x) (AI a k v x)).2=true:=Jm.2 ⟨hc.1,by rw[hm];exact hs⟩;refine⟨hn,?_⟩;rw[ab c0];have e2:(Bo a k v x).1=(BF a k 4096 v x).1:=by unfold Bo;rw[aa (Jm.1 h)]
  have e3:(Bo a k (v+AI a k v x) (AI a k v x)).1=(BF a k 4096 (v+AI a k v x) (AI a k v x)).1:=by unfold Bo;rw[aa (Jm.1 hn)]
  rw[e2,e3,hm,e]
structure KOK (K : Kf) : Prop where
 f:Fix K.p K.x K.t
 plan:Plan3 K.pa K.pb K.pc
 aF:∀g∈K.p.aF,0<=g.item/\g.item<K.aA.length/\i64 g.lead
 aD:∀m∈K.p.aD,0<=m.item/\m.item<K.aA.length/\i64 m.at_
 count:K.p.aD.length<=1000000
 speed:∀it∈K.aA,it.kind=8->i64 it.speed
 len:i64 K.len
 set:i64 K.set
theorem Mm (K:Kf) (c:Cv):C0 (Ab K c)=some [I (wrap .i64 (c.m0.tdiv 256))]:=by
 show Qae (Ab K c)=_;rw[Zus]
abbrev Aw (c:Cv):Int:=wrap .i64 (c.m0.tdiv 256)
theorem Zk4 {MP MU:Fn} {K:Kf} {c:Cv} {s:Int} (hU:MU (Ab K c)=some [I (Aw c)]) (hP:MP (AW K.t++[I (Aw c)])=some [I s]):VP MP MU (Ab K c)=some [I s]:=by
 rw[Zhd,hU];simp only[af,gA,wA,bA,jA,CZ,Dw];rw[hP];rfl
abbrev AG (K:Kf) (c:Cv):Int:=A_ K.t (Aw c)
theorem LH {K:Kf} (h:KOK K) (c:Cv):C5 (Ab K c)=some [I (AG K c)]:=Zk4 (Mm K c) (Rx h.f.t.q (Aw c))
theorem Zo4 (K:Kf) (c:Cv):Nz (Ab K c)=some (I 3::Ab K {c with next:=wrap .i64 (c.idx+1),on:=false,idx:=0,aN:=false,cnt:=0}):=by
 show Xl (Ab K c)=_;rw[Zom]
theorem Z1w (K:Kf) (c:Cv):GZ (Ab K c)=some (Ab K (if c.g0=0 then{c with o2:=true,g0:=1,g1:=18,g2:= -1}else c)):=by
 show Zu (Ab K c)=_;rw[Zgg];cases h:(c.g0==0)
 ·rw[ab (by simpa using h)];rfl
 ·rw[aa (by simpa using h)];rfl
def nxL (K:Kf) (c:Cv) (l:Int):List AC:=pxt K.p K.x K.t [I K.pa,I K.pb,I K.pc,I c.o0,I c.o1,B c.o2,B c.o3,B c.o4,I c.m0,I c.m1,I c.m2,I c.m3,I c.m4,I c.m5,I l]
def nxV (K:Kf) (c:Cv) (l:Int):Int:=gA ((FK (nxL K c l)).getD []) 1
def Mo (K:Kf) (c:Cv):Prop:=(Bo K.pa K.pb c.m1 c.m2).2=true
theorem Mo.ready {K:Kf} {c:Cv} (h:Mo K c):CE K.pa K.pb c.m1 c.m2:=(Jm.1 h).1
theorem Z2p {K:Kf} {c:Cv} (hp:Plan3 K.pa K.pb K.pc) (hz:Mo K c) {v:Int} (hv:v=wrap .i64 (c.m1+AI K.pa K.pb c.m1 c.m2)):v=c.m1+AI K.pa K.pb c.m1 c.m2/\wrap .i64 (v-c.m1)=AI K.pa K.pb c.m1 c.m2/\(Bo K.pa K.pb v (wrap .i64 (v-c.m1))).2=true:=by
 have r1:=Ix hp hz.ready;have r2:=Ix hp (closed hp hz.ready).1;rw[Ae (by omega)]at hv;have e:wrap .i64 (v-c.m1)=AI K.pa K.pb c.m1 c.m2:=by rw[hv,Ae (by omega)];omega
 refine⟨hv,e,?_⟩;rw[e,hv];exact(Zlm hp hz).1
theorem Q1j {K:Kf} {c:Cv} (hp:Plan3 K.pa K.pb K.pc) (hz:Mo K c):Out (λo=>∃r:Int,o=[I r]/\r=AI K.pa K.pb c.m1 c.m2) (Fw [I K.pa,I K.pb,I K.pc,I c.m1,I c.m2]):=
 ⟨_,Q02 hp hz.ready,_,rfl,rfl⟩
theorem Zo8 {p:Pth} {x:Ax3} {t:Trk} (h:Fix p x t) (a b c o0 o1:Int) (b0 b1 b2:Bool) (m0 m1 m2 m3 m4 m5:Int):Out (λo=>bA o 0=true->True) (Me (EW p t [I a,I b,I c,I o0,I o1,B b0,B b1,B b2,I m0,I m1,I m2,I m3,I m4,I m5])):=
 (Out.of (Zw7 h a b c o0 o1 b0 b1 b2 m0 m1 m2 m3 m4 m5)).mono λ_ _ _=>trivial
theorem Qzv {K:Kf} (h:KOK K) {c:Cv} (hz:Mo K c) (l:Int) (b0:Bool):Out (Qki c.m0 c.m1 c.m3 c.m4 (λv=>(Bo K.pa K.pb v (wrap .i64 (v-c.m1))).2=true) λr=>r=AI K.pa K.pb c.m1 c.m2)
  (FK (pxt K.p K.x K.t [I K.pa,I K.pb,I K.pc,I c.o0,I c.o1,B b0,B c.o3,B c.o4,I c.m0,I c.m1,I c.m2,I c.m3,I c.m4,I c.m5,I l])):=
 Za4 (F:=λ_=>True) (by have:=h.plan.b;omega) (Q1j h.plan hz) (λv _ _ _=>Qqu h.f h.plan _ _ _ _ _ _ _) (λv=>Zo8 h.f ..) Q0s Qs7 (λ_ hj=>Zpc hj)
def R4 (m0 m1 m3 m4:Int) (Q R:Int->Prop) (o:List AC):Prop:=∃v s b z g e:Int,o=Es m0 m1 m3 m4 v++[I s,I b,I z,I g,I e]/\(Q v\/∃r:Int,v=wrap .i64 (m1+r)/\R r)
theorem Zh1 {MN MB MR MS MM MF MD:Fn} {p:Pth} {x:Ax3} {t:Trk} {a b c:Int} {o0 o1:Int} {b0 b1 b2:Bool} {m0 m1 m2 m3 m4 m5 l lead g0 g1 g2 g3 z0 z1:Int} {Q R:Int->Prop}
  (hN:Out (Qki m0 m1 m3 m4 Q R) (MN (pxt p x t [I a,I b,I c,I o0,I o1,B false,B b1,B b2,I m0,I m1,I m2,I m3,I m4,I m5,I l])))
  (hB:Out (λo=>∃r:Int,o=[I r]/\R r) (MB [I a,I b,I c,I m1,I m2]))
  (hR:∀a b c x3 x4 x5 x6 x7 x8,(MR [I a,I b,I c,I x3,I x4,I x5,I x6,I x7,I x8]).isSome=true)
  (hS:∀v:Int,Out (λo=>bA o 0=true->Q v) (MS (pxt p x t [I a,I b,I c,I (wrap .i64 (m0+v)),I v,I (wrap .i64 (v-m1)),I m0,I m3,I m4,I l])))
  (hM:∀m0 m1 m2 m3 m4 m5 v,MM [I m0,I m1,I m2,I m3,I m4,I m5,I v]=some (Es m0 m1 m3 m4 v))
  (hF:∀v,i64 v->(MF [I lead,I v]).isSome=true) (hD:∀a b,∃v,MD [I a,I b]=some [I v]/\i64 v):
  Out (R4 m0 m1 m3 m4 Q R) (Qdw MN MB MR MS MM MF MD (pxt p x t [I a,I b,I c,I o0,I o1,B b0,B b1,B b2,I m0,I m1,I m2,I m3,I m4,I m5,I l,I lead,I g0,I g1,I g2,I g3,I z0,I z1])):=by
 rw[Zhs];obtain⟨v1,e1,w1⟩:=hD z1 g2;obtain⟨v2,e2,w2⟩:=hD z0 g2;rw[e1,e2];simp only[af,gA,wA,bA,jA,CZ,Em,Dw];have next:∀s bb z g e:Int,Out (R4 m0 m1 m3 m4 Q R) ((MN (pxt p x t [I a,I b,I c,I o0,I o1,B false,B b1,B b2,I m0,I m1,I m2,I m3,I m4,I m5,I l])).bind λo=>some [I (gA o 0),I (gA o 1),I (gA o 2),I (gA o 3),I (gA o 4),I (gA o 5),I s,I bb,I z,I g,I e]):=λs bb z g e=>by
  refine .bind hN λo h=> ?_;obtain⟨v,rfl,h⟩:=h;exact .some ⟨v,s,bb,z,g,e,rfl,h⟩
 refine .ibind (hF _ w1) λf1 _=> .cond (λ_=> ?_) λ_=> .cond (λ_=> ?_) λ_=>next _ _ _ _ _
 ·refine .ibind (hF _ w2) λf2 _=> ?_;rw[hM];generalize wrap .i64 (Af (nth AC.dead f1 0)-Af (nth AC.dead f2 0))=v;simp only[af,gA,wA,bA,jA,CZ,Em,Dw];refine .cond (λ_=> ?_) λ_=>next _ _ _ _ _
  refine .bind (hS v) λo h=> .cond (λc=> ?_) λ_=>next _ _ _ _ _
  exact .some ⟨v,_,_,_,_,_,rfl, .inl (h c)⟩
 ·rw[hM];generalize wrap .i64 (wrap .i64 (wrap .i64 (g1+Af (nth AC.dead f1 0))-g3)-m0)=v;simp only[af,gA,wA,bA,jA,CZ,Em,Dw];have stop:∀s bb z g e:Int,Out (R4 m0 m1 m3 m4 Q R) ((MB [I a,I b,I c,I m1,I m2]).bind λo=>(MM [I m0,I m1,I m2,I m3,I m4,I m5,I (wrap .i64 (m1+gA o 0))]).bind λq=>some [I (gA q 0),I (gA q 1),I (gA q 2),I (gA q 3),I (gA q 4),I (gA q 5),I s,I bb,I z,I g,I e]):=λs bb z g e=>by
   refine .bind hB λo h=> ?_;obtain⟨r,rfl,hr⟩:=h;rw[hM];exact .some ⟨_,s,bb,z,g,e,rfl, .inr ⟨r,rfl,hr⟩⟩
  refine .cond (λ_=> ?_) λ_=> ?_
  ·refine .bind (hS v) λo h=> .cond (λc=> ?_) λ_=> ?_
   ·exact .some ⟨v,_,_,_,_,_,rfl, .inl (h c)⟩
   ·refine .ibind (hR _ _ _ _ _ _ _ _ _) λ_ _=> .cond (λ_=> .cond (λ_=>stop _ _ _ _ _) λ_=>stop _ _ _ _ _) λ_=>stop _ _ _ _ _
  ·refine .ibind (hR _ _ _ _ _ _ _ _ _) λ_ _=> .cond (λ_=> .cond (λ_=>stop _ _ _ _ _) λ_=>stop _ _ _ _ _) λ_=>stop _ _ _ _ _
theorem Zm2 {K:Kf} (h:KOK K) {c:Cv} (hz:Mo K c) (l:Int) {lead:Int} (hl:i64 lead):Out (R4 c.m0 c.m1 c.m3 c.m4 (λv=>(Bo K.pa K.pb v (wrap .i64 (v-c.m1))).2=true) λr=>r=AI K.pa K.pb c.m1 c.m2)
  (KD (pxt K.p K.x K.t [I K.pa,I K.pb,I K.pc,I c.o0,I c.o1,B c.o2,B c.o3,B c.o4,I c.m0,I c.m1,I c.m2,I c.m3,I c.m4,I c.m5,I l,I lead,I c.e0,I c.e1,I c.e2,I c.e3,I c.before,I c.s3])):=
 Zh1 (Qzv h hz l false) (Q1j h.plan hz) Zq8 (λv=>Qqu h.f h.plan _ _ _ _ _ _ _) Q0s (λ_ hv=>Zj5 hl hv) Zcy
theorem Qyg {K:Kf} (h:KOK K) {c:Cv} (hz:Mo K c) {v:Int} (hv:(Bo K.pa K.pb v (wrap .i64 (v-c.m1))).2=true\/∃r:Int,v=wrap .i64 (c.m1+r)/\r=AI K.pa K.pb c.m1 c.m2):(Bo K.pa K.pb v (wrap .i64 (v-c.m1))).2=true:=by
 rcases hv with h1|⟨r,h1,h2⟩
 ·exact h1
 ·subst h2;exact(Z2p h.plan hz h1).2.2
theorem Si {a k c:Int} (hp:Plan3 a k c):(Bo a k 0 0).2=true:=by
 refine Jm.2 ⟨?_,by unfold BF;rw[aa (by omega)]⟩;have ha:=hp.a;have hb:=hp.b
 refine⟨by omega,by omega,?_,?_,λ_=>by omega⟩
 ·rw[J4 (by omega)];omega
 ·rw[J4 (by omega)];omega
theorem Qr4 (K:Kf) {i:Nat} (h:i<K.aA.length):nth [] (K.aA.map Ah) i=Ah K.aA[i]:=by
 rw[B3,List.getD,List.getElem?_map,ai h];rfl
theorem Zqy (K:Kf) {i:Nat} (h:i<K.p.aD.length):nth [] (K.p.aD.map At) i=At K.p.aD[i]:=by
 rw[B3,List.getD,List.getElem?_map,ai h];rfl
theorem Ztc {K:Kf} (h:KOK K) (i:Nat) (hk:gA (nth [] (K.aA.map Ah) i) 0=8):i64 (gA (nth [] (K.aA.map Ah) i) 20):=by
 by_cases c:i<K.aA.length
 ·rw[Qr4 K c]at hk⊢;exact h.speed _ (bq c) hk
 ·have e:nth [] (K.aA.map Ah) i=[]:=by
   rw[B3,List.getD,cv (by rw[ag];omega)];rfl
  rw[e];show i64 0;unfold i64;omega
structure Gd (K : Kf) (n : Int) (c : Cv) : Prop where
 way:c.way=0
 pass:0<=c.aK/\c.aK<=K.p.aD.length
 task:c.on=true->0<=c.idx/\c.idx<K.p.aD.length
 mo:Mo K c
 m0: -(16777216*n)<=c.m0/\c.m0<=16777216*n
theorem Gd.up {K:Kf} {n:Int} {c:Cv} (h:Gd K n c) (hn:0<=n):Gd K (n+1) c:=
 ⟨h.way,h.pass,h.task,h.mo,by have:=h.m0;omega⟩
theorem Gd.move {K:Kf} (h:KOK K) {n:Int} {c:Cv} (g:Gd K n c) (hn:0<=n/\n<=10000) {v:Int} (hv:(Bo K.pa K.pb v (wrap .i64 (v-c.m1))).2=true\/∃r:Int,v=wrap .i64 (c.m1+r)/\r=AI K.pa K.pb c.m1 c.m2):
  Gd K (n+1) {c with m0:=wrap .i64 (c.m0+v),m1:=v,m2:=wrap .i64 (v-c.m1),m3:=c.m0,m4:=c.m3,m5:=c.m4}:=by
 have h0:=g.m0;have hq:=Qyg h g.mo hv;have hr:=Ix h.plan (Jm.1 hq).1;refine⟨g.way,g.pass,g.task,hq,?_⟩;show-(16777216*(n+1))<=wrap .i64 (c.m0+v)/\wrap .i64 (c.m0+v)<=16777216*(n+1);rw[Ae (by omega)];omega
theorem Gd.same {K:Kf} {n:Int} {c c':Cv} (g:Gd K n c) (h1:c'.way=c.way) (h2:c'.aK=c.aK) (h3:c'.on=c.on) (h4:c'.idx=c.idx) (h5:c'.m0=c.m0) (h6:c'.m1=c.m1) (h7:c'.m2=c.m2):Gd K n c':=
 ⟨h1▸g.way,h2▸g.pass,by rw[h3,h4];exact g.task,by have:=g.mo;unfold Mo at*;rw[h6,h7];exact this,h5▸g.m0⟩
theorem Q5q {K:Kf} {c:Cv} (h:c.way=0):IV (Ab K c)=some (I 0::B false::Ab K c):=by
 have key:∀{A B':Fn},RG A B' (Ab K c)=some (I 0::B false::Ab K c):=by
  intro A B';rw[Q8l,BH (by simp[h])]
 exact key
abbrev stand (c:Cv):Cv:={c with m0:=wrap .i64 (Aw c*256),m1:=0,m2:=0,m3:=wrap .i64 (Aw c*256),m4:=wrap .i64 (Aw c*256),m5:=wrap .i64 (Aw c*256)}
theorem Qon (u:Int):G7 [I u]=some [I (wrap .i64 (u*256)),I 0,I 0,I (wrap .i64 (u*256)),I (wrap .i64 (u*256)),I (wrap .i64 (u*256))]:=by
 show Qjv [I u]=_;rw[Z0v]
theorem Zth {MS MU:Fn} {K:Kf} {c:Cv} (hU:MU (Ab K c)=some [I (Aw c)]) (hS:∀u:Int,MS [I u]=some [I (wrap .i64 (u*256)),I 0,I 0,I (wrap .i64 (u*256)),I (wrap .i64 (u*256)),I (wrap .i64 (u*256))]):
  Qj9 MS MU (Ab K c)=some (if c.g0=2 then I 6::B true::Ab K (stand c)else I 0::B false::Ab K c):=by
 rw[Zgd];by_cases h:c.g0=2
 ·rw[aa h,Bw (by simp[h]),hU];simp only[af,gA,wA,bA,jA,CZ,Dw];rw[hS];rfl
 ·rw[ab h,BH (by simpa using h)]
theorem Q23 (K:Kf) (c:Cv):Lv (Ab K c)=some (if c.g0=2 then I 6::B true::Ab K (stand c)else I 0::B false::Ab K c):=Zth (Mm K c) Qon
theorem Q9r (K:Kf) (c:Cv):La (Ab K c)=some (I c.aI::B (c.aI !=0)::Ab K c):=by
 show Qnq (Ab K c)=_;rw[Zgb]
theorem Q8t (K:Kf) (c:Cv):Lr (Ab K c)=some (if c.aH=true/\c.aM=true then I 8::B true::Ab K {c with aI:=8}else I 0::B false::Ab K c):=by
 show Qif (Ab K c)=_;rw[Zow];by_cases h:c.aH=true
 ·by_cases h2:c.aM=true
  ·rw[aa ⟨h,h2⟩,Bw (by simp[h]),Bw (by simp[h2]),h,h2]
  ·rw[ab (λe=>h2 e.2),Bw (by simp[h]),BH (by simpa using h2)]
 ·rw[ab (λe=>h e.1),BH (by simpa using h)]
theorem Qsa {a N:Int} (h: -N<=a/\a<=N): -N<=a.tdiv 256*256/\a.tdiv 256*256<=N:=by
 by_cases k:0<=a
 ·rw[bc k];omega
 ·obtain⟨b,rfl⟩:∃b,a= -b:=⟨-a,by omega⟩;rw[Int.neg_tdiv,bc (by omega)];omega
theorem Gd.stand {K:Kf} (h:KOK K) {n:Int} {c:Cv} (g:Gd K n c) (hn:0<=n/\n<=10000):Gd K n (stand c)/\Aw (stand c)=Aw c:=by
 have h0:=Qsa g.m0;have e:Aw c=c.m0.tdiv 256:=Ae (by omega);have e2:(Go.Bm.stand c).m0=c.m0.tdiv 256*256:=by
  show wrap .i64 (Aw c*256)=_;rw[e,Ae (by omega)]
 refine⟨⟨g.way,g.pass,g.task,Si h.plan,?_⟩,?_⟩
 ·rw[e2];omega
 ·show wrap .i64 ((Go.Bm.stand c).m0.tdiv 256)=_;rw[e2,Int.mul_tdiv_cancel _ (by omega),e,Ae (by omega)]
theorem Out.eqv {α:Type} {p:α->Prop} {a b:Option α} (h:a=b) (g:Out p b):Out p a:=h▸g
abbrev HX (pul outs:Rw) (mode s:Int) (m:Pt) (sp fault:Int):List AC:=[.view kPt pul, .view Aa outs,I mode,I s,I m.x,I m.y,I m.z,I sp,I fault]
abbrev BX:List AC:=[.view kPt [], .view Aa [],I 0,I 0,I 0,I 0,I 0,I 0,I 0]
theorem Qjm {K:Kf} {n:Int} {c:Cv} (g:Gd K n c) (hn:0<=n/\n<=10010): -300000000000<=Aw c/\Aw c<=300000000000:=by
 have h:=g.m0;have h1: -300000000000<=c.m0/\c.m0<=300000000000:=by omega
 have h2:=Qsa h1;have e:Aw c=c.m0.tdiv 256:=Ae (by omega);omega
theorem Zrx (r k:Int):(AT r k=r/\AU r k=0)\/(AT r k=0/\AU r k=r)\/(AT r k= -r/\AU r k=0)\/(AT r k=0/\AU r k= -r):=by
 have hc:k%4=0\/k%4=1\/k%4=2\/k%4=3:=by omega
 unfold AT AU;rcases hc with h|h|h|h<;>simp[h]
theorem Qs0 (r k:Int):sq2 (AT r k) (AU r k)=r*r:=by
 unfold sq2;rcases Zrx r k with⟨h1,h2⟩|⟨h1,h2⟩|⟨h1,h2⟩|⟨h1,h2⟩<;>rw[h1,h2]<;>grind
theorem Z0f {p q k t:Int} (ht:t=1\/t=2\/t=3) (hp:0<p) (hq:0<q):crs (AT p k) (AU p k) (AT q (k+t)) (AU q (k+t))≠0\/dt2 (AT p k) (AU p k) (AT q (k+t)) (AU q (k+t))<0:=by
 have hc:k%4=0\/k%4=1\/k%4=2\/k%4=3:=by omega
 have hpq:0<p*q:=Int.mul_pos hp hq;have hm: -p*q= -(p*q)/\p* -q= -(p*q)/\ -p* -q=p*q:=⟨Int.neg_mul ..,Int.mul_neg ..,Int.neg_mul_neg ..⟩;have e:∀j:Int,(k+t)%4=j->∀i:Int,k%4=i->crs (AT p k) (AU p k) (AT q (k+t)) (AU q (k+t))=(if i=0 then p else if i=2 then-p else 0)*(if j=1 then q else if j=3 then-q else 0)-(if i=1 then p else if i=3 then-p else 0)*(if j=0 then q else if j=2 then-q else 0)/\
   dt2 (AT p k) (AU p k) (AT q (k+t)) (AU q (k+t))=(if i=0 then p else if i=2 then-p else 0)*(if j=0 then q else if j=2 then-q else 0)+(if i=1 then p else if i=3 then-p else 0)*(if j=1 then q else if j=3 then-q else 0):=by
  intro j hj i hi;subst hj hi;exact⟨rfl,rfl⟩
 rcases ht with rfl|rfl|rfl<;>rcases hc with h1|h1|h1|h1
 ·obtain⟨e1,e2⟩:=e 1 (by omega) _ h1;simp at e1 e2;omega
 ·obtain⟨e1,e2⟩:=e 2 (by omega) _ h1;simp at e1 e2;omega
 ·obtain⟨e1,e2⟩:=e 3 (by omega) _ h1;simp at e1 e2;omega
 ·obtain⟨e1,e2⟩:=e 0 (by omega) _ h1;simp at e1 e2;omega
 ·obtain⟨e1,e2⟩:=e 2 (by omega) _ h1;simp at e1 e2;omega
 ·obtain⟨e1,e2⟩:=e 3 (by omega) _ h1;simp at e1 e2;omega
 ·obtain⟨e1,e2⟩:=e 0 (by omega) _ h1;simp at e1 e2;omega
 ·obtain⟨e1,e2⟩:=e 1 (by omega) _ h1;simp at e1 e2;omega
 ·obtain⟨e1,e2⟩:=e 3 (by omega) _ h1;simp at e1 e2;omega
 ·obtain⟨e1,e2⟩:=e 0 (by omega) _ h1;simp at e1 e2;omega
 ·obtain⟨e1,e2⟩:=e 1 (by omega) _ h1;simp at e1 e2;omega
 ·obtain⟨e1,e2⟩:=e 2 (by omega) _ h1;simp at e1 e2;omega
theorem Zr1 {size:Int} {it:Itm} (h:ArcMade size it):U2 it:=by
 obtain⟨r,k,t,g,x,h1,h2,h3,h4,h5,h6,h7,h8,h9,h10,h11,h12,h13⟩:=h.ends;have hp:=h.aG;have a1:dU it it.fr=AT r k:=by unfold dU;rw[h12,(OC hp).1];omega
 have a2:dW it it.fr=AU r k:=by unfold dW;rw[h12,(OC hp).2.1];omega
 have a3:dU it it.to=AT (r+g) (k+t):=by unfold dU;rw[h12,h13,(OC hp).1,(OC hp).1];omega
 have a4:dW it it.to=AU (r+g) (k+t):=by unfold dW;rw[h12,h13,(OC hp).2.1,(OC hp).2.1];omega
 have q1:qA it=r*r:=by unfold qA;rw[a1,a2,Qs0]
 have q2:qB it=(r+g)*(r+g):=by unfold qB;rw[a3,a4,Qs0]
 have m1:64<=r*r:=by
  have:=dm h1 h1 (by omega) (by omega);omega
 have m2:64<=(r+g)*(r+g):=by
  have:=dm (show(8:Int)<=r+g by omega) (show(8:Int)<=r+g by omega) (by omega) (by omega);omega
 unfold U2;refine⟨by omega,by omega,?_,?_,?_⟩
 ·rw[q1,q2];unfold Ij;right;have hg:g*g<=16:=by
   have:=dm h8 h8 h7 (by omega);omega
  have e1:r*r+(r+g)*(r+g)-16=2*(r*(r+g))+(g*g-16):=by grind
  have hpos:0<=r*(r+g):=Int.mul_nonneg (by omega) (by omega);have hge:64<=r*(r+g):=by
   have:=dm h1 (show(8:Int)<=r+g by omega) (by omega) (by omega);omega
  have hgg:0<=g*g:=Int.mul_nonneg h7 h7;have e2:4*(r*r)*((r+g)*(r+g))=(2*(r*(r+g)))*(2*(r*(r+g))):=by grind
  rw[e1,e2];generalize 2*(r*(r+g))=m at*;exact Int.mul_self_le_mul_self (by omega) (by omega)
 ·intro hf;rw[h11]at hf;have ht:=of_decide_eq_true hf;rw[a1,a2,a3,a4,ht,h10 ht,dc,dc];exact⟨rfl,rfl⟩
 ·intro hf;rw[h11]at hf;have ht:=of_decide_eq_false hf;unfold cAB dAB;rw[a1,a2,a3,a4];exact Z0f (by omega) (by omega) (by omega)
theorem Zjs {it:Itm} (h:Made it) (h1:bd 1000000 it.fr) (h2:bd 1000000 it.to):DB it:=by
 refine⟨h.kind,A0 h1 (by omega),A0 h2 (by omega),λh3=> ?_⟩;have ha:=h.arc h3;exact⟨ha.aG,ha.dir,A0 (Wg ha (by omega) h1).2 (by omega),Zr1 ha⟩
end Go.Bm
namespace Go.Bm
open Classical
structure Oth (it : Itm) : Prop where
 kind:7<=it.kind/\it.kind<=14
 spin:it.kind=8->3<=it.n/\it.n<=5/\0<=it.speed/\it.speed<=4000
 dwell:it.kind=7->0<=it.n/\it.n<=4
 out:it.kind=10->0<=it.n/\it.n<=15
def I1:Pt->List Itm->Prop
 |_,[]=>True
 |p,it::l=>if AF it then it.fr=p/\I1 it.to l else I1 p l
def EQ:Pt->List Itm->Pt
 |p,[]=>p
 |p,it::l=>if AF it then EQ it.to l else EQ p l
theorem Y6 {it:Itm}:∀{l:List Itm} {p:Pt},I1 p l->(AF it->it.fr=EQ p l)->I1 p (l++[it])
 |[],p,_,h=>by
  simp only[av,I1];split
  ·rename_i c;exact⟨h c,trivial⟩
  ·trivial
 |a::l,p,h1,h=>by
  simp only[ay,I1]at h1⊢;unfold EQ at h;by_cases c:AF a
  ·rw[aa c]at h1 h⊢;exact⟨h1.1,Y6 h1.2 h⟩
  ·rw[ab c]at h1 h⊢;exact Y6 h1 h
theorem Jv {it:Itm}:∀{l:List Itm} {p:Pt},EQ p (l++[it])=if AF it then it.to else EQ p l
 |[],p=>by simp only[av,EQ]
 |a::l,p=>by
  simp only[ay,EQ];by_cases c:AF a
  ·rw[aa c,aa c];exact Jv
  ·rw[ab c,ab c];exact Jv
structure Items (A : Nat) (p : Pt) (l : List Itm) : Prop where
 link:I1 p l
 made:∀it∈l,(AF it/\Made it/\FF it/\bd A it.fr/\bd A it.to)\/Oth it
theorem Oq {A:Nat} {p:Pt} {l:List Itm} {it:Itm} (h:Items A p l) (h1:AF it->it.fr=EQ p l) (h2:(AF it/\Made it/\FF it/\bd A it.fr/\bd A it.to)\/Oth it):Items A p (l++[it]):=by
 refine⟨Y6 h.link h1,λi hi=> ?_⟩;simp only[bj,dg]at hi;rcases hi with hi|rfl
 ·exact h.made i hi
 ·exact h2
theorem QX {it:Itm} (h:Oth it): ¬AF it:=λg=>by have:=h.kind;have:=g.2;omega
theorem Zka {MN:Fn} {l:Rw} (hN:GI l MN) (k:Nat):
  ∃(it:Itm) (k':Nat),Wy MN [.view Aa l,I k]=some (Ah it++[.view Aa l,I k'])/\k<=k'/\Oth it/\it.kind≠14:=by
 rw[Zbr];obtain⟨v0,k0,e0,a0,b0,c0,-,-⟩:=hN k (n:=8) (by omega);obtain⟨v1,k1,e1,a1,b1,c1,-,-⟩:=hN k0 (n:=16) (by omega);obtain⟨v2,k2,e2,a2,b2,c2,-,-⟩:=hN k1 (n:=2) (by omega);obtain⟨v3,k3,e3,a3,b3,c3,-,-⟩:=hN k0 (n:=5) (by omega);obtain⟨v4,k4,e4,a4,b4,c4,-,-⟩:=hN k0 (n:=3) (by omega);obtain⟨v5,k5,e5,a5,b5,c5,-,-⟩:=hN k4 (n:=4000) (by omega);simp only[go_sem,e0,e1,e2,e3,e4,e5];rw[Ae (x:=3+v4) (by omega)];have fin:∀(kd n sp:Int) (on:Bool) (k':Nat),k<=k'->kd≠14->Oth ⟨kd,0,⟨0,0,0⟩,⟨0,0,0⟩,0,⟨0,0,0⟩,0,false,0,false,0,0,0,n,sp,on⟩->
   ∃(it:Itm) (k'':Nat),some [I kd,I 0,I 0,I 0,I 0,I 0,I 0,I 0,I 0,I 0,I 0,I 0,I 0,B false,I 0,B false,I 0,I 0,I 0,I n,I sp,B on, .view Aa l,I k']=some (Ah it++[.view Aa l,I k''])/\k<=k''/\Oth it/\it.kind≠14:=by
  intro kd n sp on k' h1 h0 h2;exact⟨_,k',rfl,h1,h2,h0⟩
 by_cases c0:v0=0
 ·rw[aa c0];exact fin _ _ _ _ _ (by omega) (by omega) ⟨by simp only;omega,by simp,by simp,λ_=>by simp only;omega⟩
 rw[ab c0];by_cases c1:v0=1
 ·rw[aa c1];exact fin _ _ _ _ _ (by omega) (by omega) ⟨by simp only;omega,by simp,by simp,λ_=>by simp only;omega⟩
 rw[ab c1];by_cases c2:v0=2
 ·rw[aa c2];exact fin _ _ _ _ _ (by omega) (by omega) ⟨by simp only;omega,by simp,λ_=>by simp only;omega,by simp⟩
 rw[ab c2];by_cases c3:v0=3
 ·rw[aa c3];exact fin _ _ _ _ _ (by omega) (by omega) ⟨by simp only;omega,λ_=>by simp only;omega,by simp,by simp⟩
 rw[ab c3];by_cases c4:v0=4
 ·rw[aa c4];exact fin _ _ _ _ _ (by omega) (by omega) ⟨by simp only;omega,by simp,by simp,by simp⟩
 rw[ab c4];by_cases c5:v0=5
 ·rw[aa c5];exact fin _ _ _ _ _ (by omega) (by omega) ⟨by simp only;omega,by simp,by simp,by simp⟩
 rw[ab c5];by_cases c6:v0=6
 ·rw[aa c6];exact fin _ _ _ _ _ (by omega) (by omega) ⟨by simp only;omega,by simp,by simp,by simp⟩
 rw[ab c6];exact fin _ _ _ _ _ (by omega) (by omega) ⟨by simp only;omega,by simp,by simp,by simp⟩
theorem Z05 {l:Rw} (hl:Src l) (k:Nat):∃(it:Itm) (k':Nat),LB [.view Aa l,I k]=some (Ah it++[.view Aa l,I k'])/\k<=k'/\Oth it/\it.kind≠14:=Zka (HB hl) k
theorem Zgy {v:Int} (h:0<=v/\v<8):∃x,Af (nth .dead (nth [] [[I 2],[I 2],[I 2],[I 3],[I 1],[I 6],[I 5],[I 4]] v.toNat) 0)=x/\1<=x/\x<=6:=by
 have hc:v=0\/v=1\/v=2\/v=3\/v=4\/v=5\/v=6\/v=7:=by omega
 rcases hc with rfl|rfl|rfl|rfl|rfl|rfl|rfl|rfl<;>exact⟨_,rfl,by decide⟩
theorem SR {l:List Itm} {it:Itm} (h:∀x∈l,x.kind≠14) (hi:it.kind≠14):∀x∈l++[it],x.kind≠14:=λx hx=>by
 simp only[bj,dg]at hx;rcases hx with hx|rfl
 ·exact h x hx
 ·exact hi
theorem Zyw {MM MO ML MN MF:Fn} {l:Rw} (hN:GI l MN)
  (hM : ∀ {p : Pt}, bd 100000000 p -> ∀ {kind : Int}, (1 <= kind /\ kind <= 6) -> ∀ k : Nat,
   ∃(it:Itm) (k':Nat),MM [I p.x,I p.y,I p.z,I kind, .view Aa l,I k]=some (Ah it++[.view Aa l,I k'])/\k<=k'/\it.fr=p/\it.kind=kind/\Made it/\FF it)
  (hO:∀k:Nat,∃(it:Itm) (k':Nat),MO [.view Aa l,I k]=some (Ah it++[.view Aa l,I k'])/\k<=k'/\Oth it/\it.kind≠14)
  (hL:∀k:Nat,ML [.view Aa l,I k]=some [B (decide (k<l.length)), .view Aa l,I k]) {most:Int} {fin:Bool} (hm:most<=100) {p:Pt}:
  ∀s:List Itm×Nat,(Items (4+40*102) p s.1/\bd (4+40*s.1.length) (EQ p s.1)/\(s.1=[]\/s.1.length<=most+1)/\∀it∈s.1,it.kind≠14)->
   ∃o,An (VE MM MO ML MN MF) [.view Aj (s.1.map Ah),I most,B fin,I (EQ p s.1).x,I (EQ p s.1).y,I (EQ p s.1).z, .view Aa l,I s.2]=some o/\o.1≠0/\
    ∃aA,o=(1,[.view Aj (aA.map Ah),B fin])/\Items (4+40*102) p aA/\(aA=[]\/aA.length<=most+1)/\∀it∈aA,it.kind≠14:=by
 refine Qvb (S:=List Itm×Nat) (λs=>[.view Aj (s.1.map Ah),I most,B fin,I (EQ p s.1).x,I (EQ p s.1).y,I (EQ p s.1).z, .view Aa l,I s.2]) _ (λs=>l.length-s.2) _ ?_;rintro⟨aA,k⟩ ⟨h1,h2,h3,h0⟩;simp only at h1 h2 h3 h0;simp only;rw[Z22];simp only[go_sem,hL,ag];by_cases c1:(aA.length:Int)<most
 case neg=>
  rw[ab c1];exact .inr ⟨_,rfl,by simp,aA,rfl,h1,h3,h0⟩
 rw[aa c1];by_cases c2:k<l.length
 case neg=>
  rw[ab (by simpa using c2)];exact .inr ⟨_,rfl,by simp,aA,rfl,h1,h3,h0⟩
 rw[aa (by simpa using c2)];obtain⟨v,k1,e1,a1,b1,d1,d2,-⟩:=hN k (n:=12) (by omega);have d3:=d2 c2;subst d3;simp only[go_sem,e1];have hmost:aA.length<100:=by omega
 by_cases c3:v<4
 ·rw[aa c3];obtain⟨it,k2,e2,g1,g2,g0⟩:=hO (k+1);have hnm:=QX g2;simp only[go_sem,e2,Ah,ay,av];rw[aa (by simp;omega)];left;refine⟨(aA++[it],k2),?_,⟨Oq h1 (λh=>absurd h hnm) (.inr g2),?_, .inr ?_,SR h0 g0⟩,?_⟩
  ·simp only[Jv,ab hnm,bt,bf,dh,Ah]
  ·simp only[Jv,ab hnm,ao,List.length_singleton];exact A0 h2 (by omega)
  ·simp only[ao,List.length_singleton];omega
  ·simp only;omega
 ·rw[ab c3,Ae (by omega)];obtain⟨x,hx,hx1,hx2⟩:=Zgy (v:=v-4) (by omega);have hpb:bd 100000000 (EQ p aA):=A0 h2 (by omega);obtain⟨it,k2,e2,g1,g2,g3,g4,g5⟩:=hM hpb (kind:=x) (by omega) (k+1);have hmo:AF it:=by unfold AF;omega
  have hb2:=Q54 g4 (by rw[g2];exact h2);rw[aa (by simp;omega)];simp only[go_sem,hx,e2,Ah,ay,av];have hmade:(AF it/\Made it/\FF it/\bd (4+40*102) it.fr/\bd (4+40*102) it.to)\/Oth it:= .inl ⟨hmo,g4,g5,by rw[g2];exact A0 h2 (by omega),A0 hb2 (by omega)⟩;by_cases c5:it.kind=5
  ·rw[aa c5];obtain⟨v3,k3,e3,a3,b3,d3,-,-⟩:=hN k2 (n:=2) (by omega);obtain⟨v4,k4,e4,a4,b4,d4,-,-⟩:=hN k3 (n:=3000) (by omega);simp only[go_sem,e3,e4];rw[Ae (x:=3+v3) (by omega),Ae (x:=200+v4) (by omega)];rw[aa (by simp;omega),aa (by simp;omega)];have hsp:Oth ⟨8,0,⟨0,0,0⟩,⟨0,0,0⟩,0,⟨0,0,0⟩,0,false,0,false,0,0,0,3+v3,200+v4,false⟩:=⟨by simp only;omega,λ_=>by simp only;omega,by simp,by simp⟩;have hnm:=QX hsp;have i1:=Oq h1 (λh=>absurd h hnm) (.inr hsp);left;refine⟨(aA++[⟨8,0,⟨0,0,0⟩,⟨0,0,0⟩,0,⟨0,0,0⟩,0,false,0,false,0,0,0,3+v3,200+v4,false⟩]++[it],k4),?_,⟨Oq i1 (λ_=>by rw[Jv,ab hnm];exact g2) hmade,?_, .inr ?_,SR (SR h0 (by simp only;omega)) (by omega)⟩,?_⟩
   ·simp only[Jv,aa hmo,bt,bf,dh,Ah]
   ·simp only[Jv,aa hmo,ao,List.length_singleton];exact A0 hb2 (by omega)
   ·simp only[ao,List.length_singleton];omega
   ·simp only;omega
  ·rw[ab c5,aa (by simp;omega)];left;refine⟨(aA++[it],k2),?_,⟨Oq h1 (λ_=>g2) hmade,?_, .inr ?_,SR h0 (by omega)⟩,?_⟩
   ·simp only[Jv,aa hmo,bt,bf,dh,Ah]
   ·simp only[Jv,aa hmo,ao,List.length_singleton];exact A0 hb2 (by omega)
   ·simp only[ao,List.length_singleton];omega
   ·simp only;omega
def Kr:Itm:=⟨14,0,⟨0,0,0⟩,⟨0,0,0⟩,0,⟨0,0,0⟩,0,false,0,false,0,0,0,0,0,false⟩
theorem Qx9:Oth Kr:=⟨by simp[Kr],by simp[Kr],by simp[Kr],by simp[Kr]⟩
theorem Zki {MM MO ML MN MF:Fn} {N:Lp} {l:Rw} (hN:GI l MN) (hF:MF [.view Aa l]=some [.view Aa l,I 0]) {most:Int} {fin:Bool} (hm:most<=100)
  (hL:∀(p:Pt) (k:Nat),bd 4 p->∃aA,N [.view Aj [],I most,B fin,I p.x,I p.y,I p.z, .view Aa l,I k]=some (1,[.view Aj (aA.map Ah),B fin])/\Items 4084 p aA/\(aA=[]\/aA.length<=most+1)/\∀it∈aA,it.kind≠14):
  ∃(p:Pt) (aA:List Itm),Vj MM MO ML MN MF N [.view Aa l,I most,B fin]=some [.view Aj ((aA++if fin=true then [Kr]else []).map Ah)]/\Items 4084 p aA/\(aA=[]\/aA.length<=most+1)/\∀it∈aA,it.kind≠14:=by
 obtain⟨v1,k1,e1,a1,b1,c1,-,-⟩:=hN 0 (n:=9) (by omega);obtain⟨v2,k2,e2,a2,b2,c2,-,-⟩:=hN k1 (n:=9) (by omega);obtain⟨v3,k3,e3,a3,b3,c3,-,-⟩:=hN k2 (n:=9) (by omega);obtain⟨aA,h1,h2,h3,h0⟩:=hL ⟨v1-4,v2-4,v3-4⟩ k3 ⟨by simp only;omega,by simp only;omega,by simp only;omega⟩;rw[Zfq];have e1':MN [I 9, .view Aa l,I 0]=some [I v1, .view Aa l,I k1]:=e1;simp only[go_sem,hF,e1',e2,e3];rw[Ae (x:=v1-4) (by omega),Ae (x:=v2-4) (by omega),Ae (x:=v3-4) (by omega)];simp only[h1,go_sem];refine⟨_,aA,?_,h2,h3,h0⟩;have hlen:aA.length<=101:=by
  rcases h3 with h3|h3
  ·rw[h3];simp
  ·omega
 cases fin
 ·simp
 ·rw[aa rfl,aa (by simp;omega),aa rfl,bt];rfl
theorem Z4k {l:Rw} (hl:Src l) {most:Int} (hm:most<=100) (fin:Bool):
  ∃(p:Pt) (aA:List Itm),KN [.view Aa l,I most,B fin]=some [.view Aj (aA.map Ah)]/\Items 4084 p aA/\(aA.length:Int)<=max most (-1)+2/\(fin=true->∃l,aA=l++[Kr]/\(l.length:Int)<=max most (-1)+1)/\(fin=false->(aA.length:Int)<=max most (-1)+1/\∀it∈aA,it.kind≠14):=by
 obtain⟨p,aA,h1,h2,h3,h0⟩:=Zki (MM:=K_) (MO:=LB) (ML:=F5) (N:=Qng) (fin:=fin) (HB hl) (Ri l) hm λp k hp=>by
  obtain⟨o,h1,-,aA,rfl,h3,h4,h5⟩:=Zyw (MF:=CG) (fin:=fin) (HB hl) (λhp _ hk k=>Zvq hl hp hk k) (λk=>Z05 hl k) (Q9h l) hm (p:=p) ([],k) ⟨⟨trivial,by simp⟩,hp, .inl rfl,by simp⟩;exact⟨aA,h1,h3,h4,h5⟩
 have hle:(aA.length:Int)<=max most (-1)+1:=by
  rcases h3 with h3|h3
  ·rw[h3];simp;omega
  ·omega
 refine⟨p,_,h1,?_,?_,λhf=> ?_,λhf=> ?_⟩
 ·cases fin
  ·simpa using h2
  ·simp only[if_true];exact Oq h2 (λh=>absurd h (QX Qx9)) (.inr Qx9)
 ·cases fin
  ·simp;omega
  ·simp;omega
 ·subst hf;exact⟨aA,by simp,hle⟩
 ·subst hf;exact⟨by simpa using hle,by simpa using h0⟩
theorem Zj7 {l:Rw} (hl:Src l) {most:Int} (hm:most<=100) (fin:Bool):
  ∃(p:Pt) (aA:List Itm),KN [.view Aa l,I most,B fin]=some [.view Aj (aA.map Ah)]/\Items 4084 p aA/\(aA.length:Int)<=max most (-1)+2/\(fin=true->∃l,aA=l++[Kr]/\(l.length:Int)<=max most (-1)+1)/\(fin=false->(aA.length:Int)<=max most (-1)+1):=by
 obtain⟨p,aA,h1,h2,h3,h4,h5⟩:=Z4k hl hm fin;exact⟨p,aA,h1,h2,h3,h4,λh=>(h5 h).1⟩
theorem Qhs {A:Nat} {aA:List Itm} (hA:A<=1000000) (hm:∀it∈aA,(AF it/\Made it/\FF it/\bd A it.fr/\bd A it.to)\/Oth it):∀(k i:Nat) (last:Int) (p:Pt),i+k=aA.length->I1 p (aA.drop i)->(0<=last->(itA aA last.toNat).to=p)->Hk aA k i last=0
 |0,_,_,_,_,_,_=>rfl
 |k+1,i,last,p,hi,h,hp=>by
  have hlt:i<aA.length:=by omega
  have hit:=hm _ (Qwx hlt);rw[XG hlt]at h;unfold I1 at h;unfold Hk;have hw: ¬Ch (itA aA i):=by
   rcases hit with⟨h1,h2,h3,h4,h5⟩|ho
   ·have hv:=Zjs h2 (A0 h4 hA) (A0 h5 hA);have hf:=h2.feed;have hb:=h2.blend;have hk:=h2.kind;rintro(g|g|⟨-,g|g|g|g⟩|⟨g,-⟩)
    ·omega
    ·omega
    ·exact g hv
    ·omega
    ·omega
    ·omega
    ·exact g h1
   ·have hk:=ho.kind;rintro(g|g|⟨g,-⟩|⟨-,g1,g2⟩)
    ·omega
    ·omega
    ·exact QX ho g
    ·have:=ho.spin g1;omega
  rw[ab hw];by_cases c:AF (itA aA i)
  ·rw[aa c]at h⊢;rw[ab (λg=>g.2 (by rw[hp g.1];exact h.1.symm))];exact Qhs hA hm k (i+1) i _ (by omega) h.2 (λ_=>by rw[ak])
  ·rw[ab c]at h⊢;exact Qhs hA hm k (i+1) last p (by omega) h hp
theorem Z1s {A:Nat} {p:Pt} {aA:List Itm} (hA:A<=1000000) (h:Items A p aA) (hl:aA.length<=20000):C2 aA=0:=by
 unfold C2;rw[ab (by omega)];exact Qhs hA h.made aA.length 0 (-1) p (by omega) (by rw[List.drop_zero];exact h.link) (λh=>by omega)
end Go.Bm
namespace Go.Bm
theorem Zb9 {M:Fn} (hM:∀{hi lo y:Nat},hi<y->y<w64->lo<w64->M [U hi,U lo,U y]=some [U (((hi*w64+lo)/y:Nat):Int),U (((hi*w64+lo)%y:Nat):Int)])
  {hi lo y:Nat} (hhi:hi<w64) (hlo:lo<w64) (hy0:0<y) (hy:y<w64):
  ∃qh ql:Nat,XS M [U hi,U lo,U y]=some [U qh,U ql,B (decide (0<(hi*w64+lo)%y))]/\qh<w64/\ql<w64/\qh*w64+ql=(hi*w64+lo)/y:=by
 have h1:=hM (hi:=0) (lo:=hi) hy0 hy hhi;rw[Nat.zero_mul,Nat.zero_add,show((0:Nat):Int)=0 from rfl]at h1;have hm:=Nat.mod_lt hi hy0;have h2:=hM (hi:=hi%y) (lo:=lo) hm hy hlo;have e:=Nat.div_add_mod hi y;have e2:hi*w64+lo=hi%y*w64+lo+hi/y*w64*y:=by
  have:hi*w64=hi/y*w64*y+hi%y*w64:=by
   rw[<-e,Nat.mul_add_mod,Nat.mod_mod];rw[show(y*(hi/y)+hi%y)/y=hi/y from by rw[e]];rw[Nat.add_mul,Nat.mul_comm y,Nat.mul_assoc,Nat.mul_comm y,Nat.mul_assoc]
  omega
 have hq:(hi*w64+lo)/y=(hi%y*w64+lo)/y+hi/y*w64:=by rw[e2,Nat.add_mul_div_right _ _ hy0]
 have hr:(hi*w64+lo)%y=(hi%y*w64+lo)%y:=by rw[e2,Nat.add_mul_mod_self_right]
 have hlt:(hi%y*w64+lo)/y<w64:=by
  rw[Nat.div_lt_iff_lt_mul hy0];have:hi%y*w64+w64<=y*w64:=by rw[<-Nat.succ_mul];exact be _ hm
  rw[Nat.mul_comm w64];omega
 refine⟨hi/y,(hi%y*w64+lo)/y,?_,Nat.lt_of_le_of_lt (Nat.div_le_self _ _) hhi,hlt,by rw[hq];omega⟩;rw[Z0l];simp only[go_sem,h1,h2,hr];by_cases c:0<(hi%y*w64+lo)%y
 ·rw[al c,al (show(((hi%y*w64+lo)%y:Nat):Int)>0 by omega)]
 ·rw[am c,am (show¬(((hi%y*w64+lo)%y:Nat):Int)>0 by omega)]
theorem Z2x {A n t:Nat} (hn:0<n) (h1:t*t<=2*A*(2*A)/n) (h2:2*A*(2*A)/n<(t+1)*(t+1)) (down:Bool) {E:Prop} [Decidable E] (hE:E↔(2*A*(2*A)%n=0/\t*t=2*A*(2*A)/n)):
  EI A n down (if t%2=1/\(¬E\/down=false)then t/2+1 else t/2):=by
 have e4:2*A*(2*A)=4*(A*A):=by grind
 have k1:t*t*n<=2*A*(2*A):=(Nat.le_div_iff_mul_le hn).1 h1;have k2:2*A*(2*A)<(t+1)*(t+1)*n:=(Nat.div_lt_iff_lt_mul hn).1 h2;have k3:(2*A*(2*A)%n=0/\t*t=2*A*(2*A)/n)↔t*t*n=2*A*(2*A):=by
  have hd:=Nat.div_add_mod (2*A*(2*A)) n;constructor
  ·rintro⟨g1,g2⟩;rw[g2,Nat.mul_comm];omega
  ·intro g;rw[<-g];exact⟨Nat.mul_mod_left _ _,(Nat.mul_div_cancel _ hn).symm⟩
 have k4:=hE.trans k3;rw[e4]at k1 k2 k4;clear hE k3 h1 h2;generalize hQ:4*(A*A)=Q at*;unfold EI;rw[hQ];rcases Nat.mod_two_eq_zero_or_one t with ht|ht
 ·rw[ab (by omega)];obtain⟨m,rfl⟩:∃m,t=2*m:=⟨t/2,by omega⟩;rw[show 2*m/2=m by omega];have h5:(2*m+1)*(2*m+1)*n<=(2*m+1)*(2*m+1)*n:=co _;refine⟨?_,?_⟩
  ·rcases Nat.eq_zero_or_pos m with hm|hm
   ·exact .inl hm
   ·right;have h6:(2*m-1)*(2*m-1)*n<2*m*(2*m)*n:=Nat.mul_lt_mul_of_pos_right (Nat.mul_self_lt_mul_self (by omega)) hn;split<;>omega
  ·split<;>omega
 ·obtain⟨m,rfl⟩:∃m,t=2*m+1:=⟨t/2,by omega⟩;rw[show(2*m+1)/2=m by omega];have h6:(2*m+1+1)*(2*m+1+1)*n<=(2*(m+1)+1)*(2*(m+1)+1)*n:=Qi (by omega);have h7:(2*m-1)*(2*m-1)*n<(2*m+1)*(2*m+1)*n:=Nat.mul_lt_mul_of_pos_right (Nat.mul_self_lt_mul_self (by omega)) hn;have h8:2*(m+1)-1=2*m+1:=by omega
  by_cases c: ¬E\/down=false
  ·rw[aa ⟨ht,c⟩,h8];refine⟨.inr ?_,?_⟩
   ·cases down
    ·simp only[Bool.false_eq_true,if_false];exact k1
    ·simp only[if_true];rcases c with c|c
     ·exact Nat.lt_of_le_of_ne k1 λh=>c (k4.2 h)
     ·cases c
   ·split<;>omega
  ·have c1:(2*m+1)*(2*m+1)*n=Q:=by
    by_cases g:E
    ·exact k4.1 g
    ·exact absurd (.inl g) c
   have c2:down=true:=by
    cases down
    ·exact absurd (.inr rfl) c
    ·rfl
   subst c2;rw[ab (λh=>c h.2)];simp only[if_true];exact⟨.inr (by omega),by omega⟩
theorem Zuw {x d:Int}:sgn x d<0↔x*d<0:=by
 rcases RJ x d with⟨h,g⟩|⟨h,g⟩|⟨h,g⟩<;>omega
theorem Zbk {MSg MG MS MR MQ MP MK MZ:Fn} {x d:Int} {n X D h1 l1 qh ql t h2 l2:Nat} (hX:X<=2147483648) (hD:D<=2147483648) (hn:0<n/\n<=4611686018427387904)
  (z1:MZ [I x]=some [U X]) (z2:MZ [I d]=some [U D]) (hk:MK [I 2]=some [B true]) (hp1:MP [U ((2*(X*D):Nat):Int),U ((2*(X*D):Nat):Int)]=some [U h1,U l1])
  (hq1:MQ [U h1,U l1,U n]=some [U qh,U ql,B (decide (0<2*(X*D)*(2*(X*D))%n))]) (hq2:qh*w64+ql=2*(X*D)*(2*(X*D))/n) (hql:ql<w64) (hr1:MR [U qh,U ql]=some [U t]) (ht2:t<w64)
  (hp2:MP [U t,U t]=some [U h2,U l2]) (hp3:h2*w64+l2=t*t) (hl2:l2<w64) (hs:MS [I x,I d]=some [I (sgn x d)])
  (hg:∀(more:Int) (some_ neg:Bool),MG [I 2,I more,B some_,B neg]=some [B (if more>0 then true else if more=0 then !neg else false)])
  (g1:∀{n:Nat},n<9223372036854775808->MSg [U n,B false]=some [I n,B true]) (g2:∀{n:Nat},n<=9223372036854775808->MSg [U n,B true]=some [I (-(n:Int)),B true]) {J:Nat}
  (hJ1:t%2=1->(¬(2*(X*D)*(2*(X*D))%n=0/\t*t=2*(X*D)*(2*(X*D))/n)\/ ¬sgn x d<0)->J=t/2+1) (hJ3: ¬(t%2=1/\(¬(2*(X*D)*(2*(X*D))%n=0/\t*t=2*(X*D)*(2*(X*D))/n)\/ ¬sgn x d<0))->J=t/2) (hJ2:t<=9223372036854775808):
  ZQ MSg MG MS MR MQ MP MK MZ [I x,I d,I n,I 2]=some [I (if sgn x d<0 then-(J:Int)else J),B true]:=by
 have hXD:X*D<=2147483648*2147483648:=dl hX hD;have w1:wrap .u64 (2*wrap .u64 ((X:Int)*(D:Int)))=((2*(X*D):Nat):Int):=by
  rw[<-Int.natCast_mul,wr (by omega),show(2:Int)*((X*D:Nat):Int)=((2*(X*D):Nat):Int) by omega,wr (by omega)]
 have w2:wrap .u64 (n:Int)=n:=wr (by omega);have w3:((t:Int)).tdiv 2=((t/2:Nat):Int):=Qat t 2;have w4:wrap .u64 ((t/2:Nat):Int)=((t/2:Nat):Int):=wr (by rw[BN]at ht2;omega);have w5:wrap .u64 (((t/2:Nat):Int)+1)=((t/2+1:Nat):Int):=by rw[show((t/2:Nat):Int)+1=((t/2+1:Nat):Int) by omega,wr (by rw[BN]at ht2;omega)]
 have w6:((t:Int).tmod 2=1)=(t%2=1):=by
  rw[Int.tmod_eq_emod_of_nonneg (by omega)];exact propext ⟨by omega,by omega⟩
 have hgt:∀(neg:Bool) (k:Nat),k<9223372036854775808->MSg [U k,B neg]=some [I (if neg=true then-(k:Int)else k),B true]:=by
  intro neg k hk;cases neg
  ·exact g1 hk
  ·exact g2 (by omega)
 have key:∀(neg:Bool) (k:Nat),decide (sgn x d<0)=neg->J=k->k<9223372036854775808->MSg [U k,B neg]=some [I (if sgn x d<0 then-(J:Int)else J),B true]:=by
  intro neg k h1 h2 h3;rw[hgt neg k h3,h2];congr 3;by_cases c:sgn x d<0
  ·rw[aa c,aa (by rw[<-h1];exact al c)]
  ·rw[ab c,ab (by rw[<-h1];simpa using c)]
 have eqq:(h2=qh/\l2=ql)↔t*t=2*(X*D)*(2*(X*D))/n:=by
  rw[<-hp3,<-hq2];constructor
  ·rintro⟨rfl,rfl⟩;rfl
  ·intro h;have a1:∀p q u v:Nat,u<w64->v<w64->p*w64+u=q*w64+v->p=q/\u=v:=by
    intro p q u v hu hv h;rcases Nat.lt_trichotomy p q with c|c|c
    ·have:=be w64 (show p+1<=q from c);rw[Nat.succ_mul]at this;omega
    ·subst c;exact⟨rfl,by omega⟩
    ·have:=be w64 (show q+1<=p from c);rw[Nat.succ_mul]at this;omega
   exact a1 _ _ _ _ hl2 hql h
 rw[Z52];simp only[go_sem,z1,z2,hk,w1,w2,hp1,hq1,hr1,hs,hp2,w3,w4,w5,hg];rw[ab (by omega),ab (by omega),ab (by omega),ab (by omega),ab (by simp)];have ht63:t/2+1<9223372036854775808:=by omega
 have hT:∀k:Nat,J=k->k<9223372036854775808->((MSg [U (k:Int),B (decide (sgn x d<0))]).bind λo=>some [I (Af (nth .dead o 0)),B (Dl (nth .dead o 1))])=some [I (if sgn x d<0 then-(J:Int)else J),B true]:=by
  intro k h1 h2;rw[key _ k rfl h1 h2];rfl
 have e3:((h2:Int)=qh/\(l2:Int)=ql/\True)=(t*t=2*(X*D)*(2*(X*D))/n):=by
  rw[<-propext eqq];exact propext ⟨λh=>⟨by omega,by omega⟩,λh=>⟨by omega,by omega,trivial⟩⟩
 simp only[e3,w6];have n1:((1:Int)>0)=True:=by simp
 have n2:((-1:Int)>0)=False:=by simp
 have n3:((-1:Int)=0)=False:=by simp
 have n4:((0:Int)>0)=False:=by simp
 by_cases cR:2*(X*D)*(2*(X*D))%n=0
 ·rw[ab (show¬0<2*(X*D)*(2*(X*D))%n by omega)];by_cases ct:t%2=1
  ·by_cases cE:t*t=2*(X*D)*(2*(X*D))/n
   ·by_cases cn:sgn x d<0
    ·have:=hJ3 (λh=>h.2.elim (λg=>g ⟨cR,cE⟩) λg=>g cn);simp only[n1,n2,n3,n4,Bool.false_eq_true,ct,cE,not_true_eq_false,if_true,if_false];rw[ab (by simp[cn])];exact hT _ this (by omega)
    ·have:=hJ1 ct (.inr cn);simp only[n1,n2,n3,n4,Bool.false_eq_true,ct,cE,not_true_eq_false,if_true,if_false];rw[aa (by simp;omega)];exact hT _ this ht63
   ·have:=hJ1 ct (.inl λg=>cE g.2);simp only[n1,n2,n3,n4,Bool.false_eq_true,ct,cE,not_true_eq_false,not_false_eq_true,if_true,if_false];exact hT _ this ht63
  ·have:=hJ3 (λh=>ct h.1);simp only[n1,n2,n3,n4,Bool.false_eq_true,ct,if_false,ite_self];exact hT _ this (by omega)
 ·rw[aa (show 0<2*(X*D)*(2*(X*D))%n by omega)];by_cases ct:t%2=1
  ·have:=hJ1 ct (.inl λg=>cR g.1);simp only[n1,n2,n3,n4,Bool.false_eq_true,ct,not_false_eq_true,if_true];exact hT _ this ht63
  ·have:=hJ3 (λh=>ct h.1);simp only[n1,n2,n3,n4,Bool.false_eq_true,ct,not_false_eq_true,if_true,if_false];exact hT _ this (by omega)
theorem Zrg {x d:Int} {n:Nat} {J:Nat} (hn:0<n) (hd:0<=d) (hi:EI (x.natAbs*d.natAbs) n (decide (x*d<0)) J):(if x*d<0 then-(J:Int)else J)=B7 x d n:=by
 unfold B7;rw[Int.natAbs_natCast];by_cases hx:x<0
 ·rw[aa hx];by_cases hd0:d=0
  ·subst hd0;rw[Int.mul_zero,ab (by omega)];rw[show x.natAbs*(0:Int).natAbs=0 from by simp]at hi⊢;have e1:EI 0 n true 0:=⟨.inl rfl,by simp⟩;rw[S9 e1];obtain⟨h1,-⟩:=hi;rw[am (by simp)]at h1;simp only[Bool.false_eq_true,if_false]at h1;rcases h1 with h1|h1
   ·omega
   ·rcases Nat.eq_zero_or_pos J with hJ|hJ
    ·omega
    ·have h2:=Nat.mul_pos (Nat.mul_pos (show 0<2*J-1 by omega) (show 0<2*J-1 by omega)) hn;omega
  ·have hxd:x*d<0:=Int.mul_neg_of_neg_of_pos hx (by omega);rw[al hxd]at hi;rw[aa hxd,S9 hi]
 ·rw[ab hx];have hxd: ¬x*d<0:=by have:=Int.mul_nonneg (show 0<=x by omega) hd;omega
  rw[am hxd]at hi;rw[ab hxd,S9 hi]
theorem Qfx {x d n:Int} (hx:x.natAbs<=2147483648) (hd:0<=d/\d<=2147483648) (hn:0<n/\n<=4611686018427387904):If [I x,I d,I n,I 2]=some [I (B7 x d n),B true]:=by
 obtain⟨N,rfl⟩:=bp (show 0<=n by omega);have hD:d.natAbs<=2147483648:=by omega
 have hXD:x.natAbs*d.natAbs<=2147483648*2147483648:=dl hx hD;have hN:0<N/\N<=4611686018427387904:=by omega
 have hp:2*(x.natAbs*d.natAbs)<w64:=by rw[BN];omega
 obtain⟨h1,l1,e1,e2,e3⟩:=Pd hp hp;have hNw:N<w64:=by rw[BN];omega
 have hh1:h1<w64:=by
  have:=Nat.mul_lt_mul'' hp hp;rw[<-e2]at this;by_cases c:h1<w64
  ·exact c
  ·have:=be w64 (show w64<=h1 by omega);omega
 obtain⟨qh,ql,q1,q2,q3,q4⟩:=Zb9 (M:=GE) Q1o hh1 e3 hN.1 hNw;rw[e2]at q1 q4;obtain⟨t,r1,r2,r3,r4⟩:=Qwf q2 q3;rw[q4]at r2 r3;obtain⟨h2,l2,p1,p2,p3⟩:=Pd r4 r4;have ht:t<=9223372036854775808:=by
  have k1:t*t<=2*(x.natAbs*d.natAbs)*(2*(x.natAbs*d.natAbs)):=bv r2 (Nat.div_le_self _ _);have k2:=Nat.mul_self_le_mul_self_iff.1 k1;omega
 have hi:=Z2x hN.1 r2 r3 (decide (x*d<0)) (E:=2*(x.natAbs*d.natAbs)*(2*(x.natAbs*d.natAbs))%N=0/\t*t=2*(x.natAbs*d.natAbs)*(2*(x.natAbs*d.natAbs))/N) Iff.rfl;have hres:=Zrg hN.1 hd.1 hi;rw[<-hres];have:= @Zuw x d;have hif:∀a:Int,(if x*d<0 then-a else a)=if sgn x d<0 then-a else a:=by
  intro a;by_cases c:x*d<0
  ·rw[aa c,aa (this.2 c)]
  ·rw[ab c,ab (λh=>c (this.1 h))]
 rw[hif];refine Zbk (X:=x.natAbs) (D:=d.natAbs) hx hD hN (Iu (by unfold i64;omega)) (Iu (by unfold i64;omega)) (Qob (.inr (.inr rfl))) e1 q1 q4 q3 r1 r4 p1 p2 p3 (Qe9 x d) Q6d Qe0 Q0w (λh1 h2=> ?_) (λh=> ?_) ht
 ·rw[aa ⟨h1,h2.imp id λh=>am λg=>h (this.2 g)⟩]
 ·rw[ab λg=>h ⟨g.1,g.2.imp id λk g2=>by rw[decide_eq_false_iff_not]at k;exact k (this.1 g2)⟩]
theorem Q1f {a b:Pt} (ha:bd 67108864 a) (hb:bd 67108864 b):
    wrap .i64 (wrap .i64 (wrap .i64 (0+wrap .i64 (wrap .i64 (a.x-b.x)*wrap .i64 (a.x-b.x)))+wrap .i64 (wrap .i64 (a.y-b.y)*wrap .i64 (a.y-b.y)))+wrap .i64 (wrap .i64 (a.z-b.z)*wrap .i64 (a.z-b.z)))=sqD a b:=by
  have h:∀x y:Int,x.natAbs<=67108864->y.natAbs<=67108864->0<=(x-y)*(x-y)/\(x-y)*(x-y)<=18014398509481984:=by
    intro x y hx hy;exact DY (x:=x-y) (A:=134217728) (by omega)
  have h1:=h _ _ ha.1 hb.1;have h2:=h _ _ ha.2.1 hb.2.1;have h3:=h _ _ ha.2.2 hb.2.2;obtain⟨a1,a2,a3⟩:=ha;obtain⟨b1,b2,b3⟩:=hb;rw[Ae (x:=a.x-b.x) (by omega),Ae (x:=a.y-b.y) (by omega),Ae (x:=a.z-b.z) (by omega)];unfold sqD Jr GQ;simp only;generalize(a.x-b.x)*(a.x-b.x)=u at*;generalize(a.y-b.y)*(a.y-b.y)=v at*;generalize(a.z-b.z)*(a.z-b.z)=w at*;rw[Ae (x:=u) (by omega),Ae (x:=0+u) (by omega),Ae (x:=v) (by omega),Ae (x:=0+u+v) (by omega),Ae (x:=w) (by omega),Ae (by omega),Int.zero_add]
theorem Zqa {M:Fn} {a b:Pt} {n:Nat} (ha:bd 67108864 a) (hb:bd 67108864 b) (hn:sqD a b=n)
    (hM:∃r:Nat,M [I n,I 1]=some [I ((if((1:Int)=1/\r*r<n)\/((1:Int)=2/\r*r+r<n)then r+1 else r:Nat):Int),B true]/\r*r<=n/\n<(r+1)*(r+1)):
    Qlg M [I a.x,I a.y,I a.z,I b.x,I b.y,I b.z]=some [I (AD a b)]:=by
  obtain⟨r,h1,h2,h3⟩:=hM;have hu:=Q0t h2 h3;rw[Zet,Q1f ha hb,hn];simp only[go_sem,h1];unfold AD;rw[hn,Qzi hu];congr 3;by_cases c:r*r<n
  · rw[aa (.inl ⟨trivial,c⟩),aa c]
  · rw[ab (by simp[c]),ab c]
theorem Qgj {a b:Pt} (ha:bd 67108864 a) (hb:bd 67108864 b):I9 [I a.x,I a.y,I a.z,I b.x,I b.y,I b.z]=some [I (AD a b)]:=by
  have h0:=Q7 a b;have h1:=PY ha hb (co _);obtain⟨n,hn⟩:=bp h0;exact Zqa ha hb hn (Qs1 (by omega) (.inl rfl))
theorem Zsb {MO:Fn} {a b:Spk} {u w:Int} (ha:okS a) (hb:okS b) (hu:u.natAbs<=100000000) (hw:w.natAbs<=100000000)
    (hO: ¬(u=0/\w=0)->MO [I u,I (hf a.r b.r),I (sq2 u w),I 2]=some [I (B7 u (hf a.r b.r) (sq2 u w)),B true]/\MO [I w,I (hf a.r b.r),I (sq2 u w),I 2]=some [I (B7 w (hf a.r b.r) (sq2 u w)),B true]):
    (bif u == 0 then
      bif w==0 then some [AC.int IntKind.i64 0,AC.int IntKind.i64 0,AC.int IntKind.i64 0,AC.int IntKind.i64 0,AC.bool false]
      else(MO [AC.int IntKind.i64 u,AC.int IntKind.i64 ((wrap .i64 (wrap .i64 (a.r+b.r)+1)).fdiv (2^min (Int.toNat 1) IntKind.i64.bits)),AC.int IntKind.i64 (wrap .i64 (wrap .i64 (u*u)+wrap .i64 (w*w))),AC.int IntKind.i64 2]).bind λo36=>
       (MO [AC.int IntKind.i64 w,AC.int IntKind.i64 ((wrap .i64 (wrap .i64 (a.r+b.r)+1)).fdiv (2^min (Int.toNat 1) IntKind.i64.bits)),AC.int IntKind.i64 (wrap .i64 (wrap .i64 (u*u)+wrap .i64 (w*w))),AC.int IntKind.i64 2]).bind λo37=>
       some [AC.int IntKind.i64 (Af (nth AC.dead o36 0)),AC.int IntKind.i64 (Af (nth AC.dead o37 0)),AC.int IntKind.i64 ((wrap .i64 (wrap .i64 (a.r+b.r)+1)).fdiv (2^min (Int.toNat 1) IntKind.i64.bits)),AC.int IntKind.i64 ((wrap .i64 (wrap .i64 (a.h+b.h)+1)).fdiv (2^min (Int.toNat 1) IntKind.i64.bits)),AC.bool true]
     else(MO [AC.int IntKind.i64 u,AC.int IntKind.i64 ((wrap .i64 (wrap .i64 (a.r+b.r)+1)).fdiv (2^min (Int.toNat 1) IntKind.i64.bits)),AC.int IntKind.i64 (wrap .i64 (wrap .i64 (u*u)+wrap .i64 (w*w))),AC.int IntKind.i64 2]).bind λo36=>
       (MO [AC.int IntKind.i64 w,AC.int IntKind.i64 ((wrap .i64 (wrap .i64 (a.r+b.r)+1)).fdiv (2^min (Int.toNat 1) IntKind.i64.bits)),AC.int IntKind.i64 (wrap .i64 (wrap .i64 (u*u)+wrap .i64 (w*w))),AC.int IntKind.i64 2]).bind λo37=>
       some [AC.int IntKind.i64 (Af (nth AC.dead o36 0)),AC.int IntKind.i64 (Af (nth AC.dead o37 0)),AC.int IntKind.i64 ((wrap .i64 (wrap .i64 (a.r+b.r)+1)).fdiv (2^min (Int.toNat 1) IntKind.i64.bits)),AC.int IntKind.i64 ((wrap .i64 (wrap .i64 (a.h+b.h)+1)).fdiv (2^min (Int.toNat 1) IntKind.i64.bits)),AC.bool true])=
    some (C4 (H0 a b u w)++[B (decide (¬(u=0/\w=0)))]):=by
  have q1:=DY hu;have q2:=DY hw;have e:wrap .i64 (wrap .i64 (u*u)+wrap .i64 (w*w))=sq2 u w:=by
    unfold sq2;generalize u*u=x at*;generalize w*w=y at*;rw[Ae (x:=x) (by omega),Ae (x:=y) (by omega),Ae (by omega)]
  have er:(wrap .i64 (wrap .i64 (a.r+b.r)+1)).fdiv (2^min (Int.toNat 1) IntKind.i64.bits)=hf a.r b.r:=by
    have h1:=ha.2.2.1;have h2:=hb.2.2.1;rw[Ae (x:=a.r+b.r) (by omega),Ae (x:=a.r+b.r+1) (by omega),show(2^min (Int.toNat 1) IntKind.i64.bits:Int)=2 from rfl,Int.fdiv_eq_ediv_of_nonneg _ (by omega)];rfl
  have eh:(wrap .i64 (wrap .i64 (a.h+b.h)+1)).fdiv (2^min (Int.toNat 1) IntKind.i64.bits)=hf a.h b.h:=by
    have h1:=ha.2.2.2;have h2:=hb.2.2.2;rw[Ae (x:=a.h+b.h) (by omega),Ae (x:=a.h+b.h+1) (by omega),show(2^min (Int.toNat 1) IntKind.i64.bits:Int)=2 from rfl,Int.fdiv_eq_ediv_of_nonneg _ (by omega)];rfl
  simp only[er,eh,e];simp only[go_sem];unfold H0;by_cases h:u=0/\w=0
  · rw[aa h.1,aa h.2,aa h]
    simp[h]
  · obtain⟨n1,n2⟩:=hO h
    rw[ab h];simp only[n1,n2,go_sem];have hd:decide (¬(u=0/\w=0))=true:=al h;rw[hd];by_cases hu0:u=0
    · rw[aa hu0,ab (λhw0=>h ⟨hu0,hw0⟩)];try rfl
    · rw[ab hu0];try rfl
theorem Zg3 {MO MC MD:Fn} {a b:Spk} (ha:okS a) (hb:okS b) {dir:Int} (hd:dir=1\/dir= -1) (full:Bool)
    (hO:∀{u w:Int},u.natAbs<=100000000->w.natAbs<=100000000-> ¬(u=0/\w=0)->MO [I u,I (hf a.r b.r),I (sq2 u w),I 2]=some [I (B7 u (hf a.r b.r) (sq2 u w)),B true]/\MO [I w,I (hf a.r b.r),I (sq2 u w),I 2]=some [I (B7 w (hf a.r b.r) (sq2 u w)),B true])
    (hC:MC [I a.u,I a.w,I a.r,I a.h,I b.u,I b.w,I b.r,I b.h]=some [I (crs a.u a.w b.u b.w)]) (hD:MD [I a.u,I a.w,I a.r,I a.h,I b.u,I b.w,I b.r,I b.h]=some [I (dt2 a.u a.w b.u b.w)])
    (hcb:(crs a.u a.w b.u b.w).natAbs<=5000000000000000):
    X5 MO MC MD [I a.u,I a.w,I a.r,I a.h,I b.u,I b.w,I b.r,I b.h,I dir,B full]=some (C4 (EN a b dir full)++[B (decide (¬((Dy a b dir full).1=0/\(Dy a b dir full).2=0)))]):=by
  have key:=fun{u w:Int} (hu:u.natAbs<=100000000) (hw:w.natAbs<=100000000)=>Zsb (MO:=MO) (a:=a) (b:=b) ha hb hu hw (hO hu hw);have hbd:=Nj ha hb hd full;obtain⟨a1,a2,-⟩:=ha;obtain⟨b1,b2,-⟩:=hb;have w1:wrap .i64 (0-a.u)= -a.u:=by rw[Ae (by omega)];omega
  have w2:wrap .i64 (0-a.w)= -a.w:=by rw[Ae (by omega)];omega
  have w3:wrap .i64 (a.u+b.u)=a.u+b.u:=Ae (by omega);have w4:wrap .i64 (a.w+b.w)=a.w+b.w:=Ae (by omega);have w5:wrap .i64 (0-(a.u+b.u))= -(a.u+b.u):=by rw[Ae (by omega)];omega
  have w6:wrap .i64 (0-(a.w+b.w))= -(a.w+b.w):=by rw[Ae (by omega)];omega
  have w7:wrap .i64 (b.w-a.w)=b.w-a.w:=Ae (by omega);have w8:wrap .i64 (a.u-b.u)=a.u-b.u:=Ae (by omega);have w9:wrap .i64 (dir*(b.w-a.w))=dir*(b.w-a.w):=by rcases hd with rfl|rfl<;>exact Ae (by omega)
  have w10:wrap .i64 (dir*(a.u-b.u))=dir*(a.u-b.u):=by rcases hd with rfl|rfl<;>exact Ae (by omega)
  have w11:wrap .i64 (crs a.u a.w b.u b.w*dir)=crs a.u a.w b.u b.w*dir:=by rcases hd with rfl|rfl<;>exact Ae (by omega)
  rw[Zrj];try dsimp only[go_sem]
  unfold EN;simp only[w1,w2,w3,w4,w5,w6,w7,w8,w9,w10,hC,hD,af,H3,HA,gA,jA,wA,bA,w11];have fin:∀{x:Option (List AC)},x=some (C4 (H0 a b (Dy a b dir full).1 (Dy a b dir full).2)++[B (decide (¬((Dy a b dir full).1=0/\(Dy a b dir full).2=0)))])->
      (bif dir !=1 then bif dir != -1 then some [AC.int IntKind.i64 0,AC.int IntKind.i64 0,AC.int IntKind.i64 0,AC.int IntKind.i64 0,AC.bool false]else x else x)=some (C4 (H0 a b (Dy a b dir full).1 (Dy a b dir full).2)++[B (decide (¬((Dy a b dir full).1=0/\(Dy a b dir full).2=0)))]):=by
    intro x hx;rcases hd with rfl|rfl
    · rw[Bw (by decide)];exact hx
    · rw[BH (by decide),Bw (by decide)];exact hx
  refine fin ?_;have hk:=key hbd.1 hbd.2;unfold Dy at*;cases full
  · simp only[an,Bool.false_eq_true,if_false]at hk⊢
    by_cases c1:0<dt2 a.u a.w b.u b.w
    · rw[A7 (show¬dt2 a.u a.w b.u b.w<=0 by omega)]
      by_cases c2:0<crs a.u a.w b.u b.w*dir
      · rw[A7 (show¬crs a.u a.w b.u b.w*dir<=0 by omega)]
        rw[aa ⟨c1,c2⟩]at hk⊢;exact hk
      · rw[DV (show crs a.u a.w b.u b.w*dir<=0 by omega)]
        rw[ab (λh=>c2 h.2),aa c1]at hk⊢;exact hk
    · rw[DV (show dt2 a.u a.w b.u b.w<=0 by omega)]
      rw[ab (λh=>c1 h.1),ab c1]at hk⊢;exact hk
  · simp only[ah,if_true]at hk⊢
    exact hk
theorem Zwi {u w r:Int} (hu:u.natAbs<=100000000) (hw:w.natAbs<=100000000) (hr:0<=r/\r<=50000000) (h: ¬(u=0/\w=0)):
    If [I u,I r,I (sq2 u w),I 2]=some [I (B7 u r (sq2 u w)),B true]/\If [I w,I r,I (sq2 u w),I 2]=some [I (B7 w r (sq2 u w)),B true]:=by
  have hp:=Se h;have h1:=DY hu;have h2:=DY hw;have h3:sq2 u w<=20000000000000000:=by unfold sq2;omega
  exact⟨Qfx (by omega) (by omega) (by omega),Qfx (by omega) (by omega) (by omega)⟩
theorem Zqv {a b:Spk} (ha:okS a) (hb:okS b) {dir:Int} (hd:dir=1\/dir= -1) (full:Bool):
    LC [I a.u,I a.w,I a.r,I a.h,I b.u,I b.w,I b.r,I b.h,I dir,B full]=some (C4 (EN a b dir full)++[B (decide (¬((Dy a b dir full).1=0/\(Dy a b dir full).2=0)))]):=by
  have hc:=(Qs8 ha.1 ha.2.1 hb.1 hb.2.1).2;exact Zg3 ha hb hd full (λhu hw h=>Zwi hu hw (Qzh ha.2.2.1 hb.2.2.1) h)
    (Qa0 (Gu ha.1) (Gu ha.2.1) (Gu hb.1) (Gu hb.2.1)) (Qbq (Gu ha.1) (Gu ha.2.1) (Gu hb.1) (Gu hb.2.1)) hc
def okT (s:Spk):Prop:=okS s/\ ¬(s.u=0/\s.w=0)/\1<=s.r
theorem Qz3 {a b:Spk} (ha: ¬(a.u=0/\a.w=0)) (hb: ¬(b.u=0/\b.w=0)) {dir:Int} (hd:dir=1\/dir= -1) (full:Bool): ¬((Dy a b dir full).1=0/\(Dy a b dir full).2=0):=by
  have hp:=Se ha;unfold sq2 at hp;unfold Dy;split
  · simp only;omega
  · rename_i hf
    have key:0<dt2 a.u a.w b.u b.w-> ¬(a.u+b.u=0/\a.w+b.w=0):=by
      intro h1 ⟨h2,h3⟩;have e1:b.u= -a.u:=by omega
      have e2:b.w= -a.w:=by omega
      unfold dt2 at h1;rw[e1,e2,Int.mul_neg,Int.mul_neg]at h1;omega
    split
    · rename_i c;exact key c.1
    · split
      · rename_i c1 c2
        have:=key c2;simp only;omega
      · rename_i c1 c2
        simp only;rintro⟨h2,h3⟩;have e1:b.w=a.w/\a.u=b.u:=by rcases hd with rfl|rfl<;>omega
        unfold dt2 at c2;rw[e1.1,<-e1.2]at c2;omega
theorem Zky {u w r:Int} (hu:u.natAbs<=100000000) (hw:w.natAbs<=100000000) (hr:1<=r/\r<=50000000) (h: ¬(u=0/\w=0)): ¬(B7 u r (sq2 u w)=0/\B7 w r (sq2 u w)=0):=by
  have hp:=Se h;have h1:=DY hu;have h2:=DY hw;have h3:sq2 u w<=20000000000000000:=by unfold sq2;omega
  obtain⟨q1,q2⟩:=Q8b u w;have key:∀x:Int,x.natAbs<=100000000->x*x<=sq2 u w->B7 x r (sq2 u w)=0->4*(x*x)<=sq2 u w:=by
    intro x hx hq h0;obtain⟨-,-,g3⟩:=Sj (x:=x) (r:=r) (n:=sq2 u w) (bv hx (by decide)) (by omega) (by omega) hq;rw[h0]at g3;obtain⟨-,g3⟩:=g3;have g4:4*(x.natAbs*r.natAbs*(x.natAbs*r.natAbs))<=(sq2 u w).natAbs:=by
      rw[show(0:Int).natAbs=0 from rfl]at g3;split at g3<;>omega
    have e1:x.natAbs*r.natAbs*(x.natAbs*r.natAbs)=x.natAbs*x.natAbs*(r.natAbs*r.natAbs):=by grind
    have g5:x.natAbs*x.natAbs*1<=x.natAbs*x.natAbs*(r.natAbs*r.natAbs):=Nat.mul_le_mul_left _ (dl (show 1<=r.natAbs by omega) (show 1<=r.natAbs by omega));have e2:((x.natAbs*x.natAbs:Nat):Int)=x*x:=Int.natAbs_mul_self;omega
  rintro⟨g1,g2⟩;have k1:=key u hu q1 g1;have k2:=key w hw q2 g2;unfold sq2 at*;omega
theorem Zw8 {a b:Spk} (ha:okT a) (hb:okT b) {dir:Int} (hd:dir=1\/dir= -1) (full:Bool):okT (EN a b dir full):=by
  have hn:=Qz3 ha.2.1 hb.2.1 hd full;have hbd:=Nj ha.1 hb.1 hd full;have h1:=ha.1.2.2.1;have h2:=hb.1.2.2.1;have h3:=ha.2.2;have h4:=hb.2.2;have hh:1<=hf a.r b.r/\hf a.r b.r<=50000000:=by unfold hf;omega
  refine⟨Qtf ha.1 hb.1 hd full,?_,?_⟩
  · unfold EN H0
    rw[ab hn];exact Zky hbd.1 hbd.2 hh hn
  · unfold EN H0
    rw[ab hn];exact hh.1
theorem Z1y {r n:Int} (hr:0<=r/\r<=50000000):OH [I r,I n]=some [B (decide (n<=32*r-64))]:=by
  unfold OH;rw[Zcu,Ae (x:=8*r) (by omega),Ae (x:=8*r*4) (by omega),Ae (x:=8*r*4-64) (by omega),show 8*r*4-64=32*r-64 by omega]
theorem Zs2 {MF MC:Fn} {out:Rw} {a b:Spk} (ha:okS a) (hb:okS b) {dir:Int} (hd:dir=1\/dir= -1) (full:Bool)
    (hF:∀{r n:Int},(0<=r/\r<=50000000)->MF [I r,I n]=some [B (decide (n<=32*r-64))])
    (hC:MC [I a.u,I a.w,I a.r,I a.h,I b.u,I b.w,I b.r,I b.h]=some [I (crs a.u a.w b.u b.w)]) (hcb:(crs a.u a.w b.u b.w).natAbs<=5000000000000000):
    Qbj MF MC [.view Ee out,I a.u,I a.w,I a.r,I a.h,I b.u,I b.w,I b.r,I b.h,B full,I dir]=some [.view Ee out,B (decide (IJ a b dir full)),I dir]:=by
  have hr:0<=mn a.r b.r/\mn a.r b.r<=50000000:=by
    have h1:=ha.2.2.1;have h2:=hb.2.2.1;unfold mn;split<;>omega
  obtain⟨a1,a2,-⟩:=ha;obtain⟨b1,b2,-⟩:=hb;have x1:=IB a1 b1;have x2:=IB a2 b2;have q1:=DY x1;have q2:=DY x2;have e:wrap .i64 (wrap .i64 ((a.u-b.u)*(a.u-b.u))+wrap .i64 ((a.w-b.w)*(a.w-b.w)))=sq2 (a.u-b.u) (a.w-b.w):=by
    unfold sq2;generalize(a.u-b.u)*(a.u-b.u)=x at*;generalize(a.w-b.w)*(a.w-b.w)=y at*;rw[Ae (x:=x) (by omega),Ae (x:=y) (by omega),Ae (by omega)]
  have w11:wrap .i64 (crs a.u a.w b.u b.w*dir)=crs a.u a.w b.u b.w*dir:=by rcases hd with rfl|rfl<;>exact Ae (by omega)
  rw[Zdw,In x1 (by decide),In x2 (by decide),e];cases full
  · simp only[Bool.not_false,ah,hC,af,H3,HA,gA,jA,wA,bA,w11,hF hr,YS]
    by_cases c:0<crs a.u a.w b.u b.w*dir
    · rw[DV (show crs a.u a.w b.u b.w*dir>0 from c)]
      by_cases c2:sq2 (a.u-b.u) (a.w-b.w)<=32*mn a.r b.r-64
      · rw[al c2,al (show IJ a b dir false from⟨rfl,c,c2⟩)]
      · rw[am c2,am (λh:IJ a b dir false=>c2 h.2.2)]
    · rw[A7 (show¬crs a.u a.w b.u b.w*dir>0 from c),am (λh:IJ a b dir false=>c h.2.1)]
  · simp only[Bool.not_true,an]
    rw[am (λh:IJ a b dir true=>by cases h.1)]
theorem Z37 {out:Rw} {a b:Spk} (ha:okS a) (hb:okS b) {dir:Int} (hd:dir=1\/dir= -1) (full:Bool):
    Mf [.view Ee out,I a.u,I a.w,I a.r,I a.h,I b.u,I b.w,I b.r,I b.h,B full,I dir]=some [.view Ee out,B (decide (IJ a b dir full)),I dir]:=
  Zs2 ha hb hd full Z1y (Qa0 (Gu ha.1) (Gu ha.2.1) (Gu hb.1) (Gu hb.2.1)) (Qs8 ha.1 ha.2.1 hb.1 hb.2.1).2
theorem Wh {dir:Int} (hd:dir=1\/dir= -1):∀(n k:Nat) (full:Bool) (a b:Spk) (out:List Spk),k<=16->k<n->okT a->okT b->out.length+2^k<=1000000->
    Pc n [.view Ee (out.map C4),I a.u,I a.w,I a.r,I a.h,I b.u,I b.w,I b.r,I b.h,B full,I (16-k:Int),I dir]=some [.view Ee ((out++DM dir k full a b).map C4),I dir]
  |0,k,_,_,_,_,_,hk,_,_,_=>by omega
  |n+1,0,full,a,b,out,_,_,ha,hb,ho=>by
    show Uq _ _ _ _=_;rw[Qx4,A7 (by omega),BH]
    · unfold DM
      rw[bt];rfl
    · exact Nat.ble_eq_true_of_le (by simp only[ao,ag,bh,cd];omega)
  |n+1,k+1,full,a,b,out,hk,hn,ha,hb,ho=>by
    have hm:=Zw8 ha hb hd full;have hz:=Qz3 ha.2.1 hb.2.1 hd full;have e3:2^(k+1)=2^k+2^k:=by rw[Nat.pow_succ];omega
    have hp:0<2^k:=Nat.two_pow_pos _;have l1:=(RE k false a (EN a b dir full) (dir:=dir)).2;have i1:=Wh hd n k false a (EN a b dir full) out (by omega) (by omega) ha hm (by omega);have i2:=Wh hd n k false (EN a b dir full) b (out++DM dir k false a (EN a b dir full)) (by omega) (by omega) hm hb (by rw[ao];omega);have e1:=Z37 (out:=out.map C4) ha.1 hb.1 hd full;have e2:=Zqv ha.1 hb.1 hd full;rw[al hz]at e2;show Uq (Pc n) LC Mf _=_;generalize Pc n=MP at*;generalize LC=MM at*;generalize Mf=MS at*;rw[Qx4,DV (by omega),Ae (by omega),show(16-((k+1:Nat):Int)+1)=16-(k:Int) by omega];unfold DM;generalize EN a b dir full=m at*;generalize DM dir k false a m=p1 at*;generalize DM dir k false m b=p2 at*;simp only[ay,av,C4]at e2;simp only[e1,e2,af,H3,K1,L_,PC,PV,HA,gA,jA,wA,bA,YS,i1,i2,Qfa];by_cases c:IJ a b dir full
    · rw[aa c,Bw (by simp[c]),BH]
      · rw[bt];rfl
      · exact Nat.ble_eq_true_of_le (by simp only[ao,ag,bh,cd];omega)
    · rw[ab c,BH (by simp[c]),ah,List.append_assoc]
theorem Qr1 {it:Itm} {p:Pt} (hc:bd 1048576 it.ce) (hp:bd 1048576 p) (hq:64<=sq2 (dU it p) (dW it p)):okT (ED it p):=by
 obtain⟨h1,h2,h3,h4⟩:=Rd hc hp;have e:sq2 (dU it p*16) (dW it p*16)=256*sq2 (dU it p) (dW it p):=by unfold sq2;grind
 refine⟨SC hc hp,?_,?_⟩
 ·show¬(dU it p*16=0/\dW it p*16=0);rintro⟨g1,g2⟩;rw[show dU it p=0 by omega,show dW it p=0 by omega]at hq;simp[sq2]at hq
 ·show 1<=FU _;obtain⟨n,hn⟩:=bp h3;rw[hn]at h4⊢;obtain⟨r,-,r2,r3,-⟩:=Ta (n:=n) (by omega);rw[RY (Sd r2 r3)];have:1<=r:=by
   rcases Nat.eq_zero_or_pos r with h|h
   ·subst h;omega
   ·exact h
  split<;>omega
theorem Zij {n:Nat} (hn:n<=2251799813685248):IY [I n,I 2]=some [I (FU n),B true]:=by
 obtain⟨r,h1,h2,h3⟩:=Qs1 (n:=n) (mode:=2) (by omega) (.inr rfl);rw[h1,RY (Sd h2 h3)];congr 3;by_cases c:r*r+r<n
 ·rw[aa (.inr ⟨rfl,c⟩),aa c]
 ·rw[ab (by simp;omega),ab c]
theorem Zn3 {MP MQ MD ME MV:Fn} {it:Itm} (hV:∃v,MV (Ah it)=some [B v]/\(v=true↔DB it)) (h:DB it)
  (hE:it.kind=3->ME (Ah it)=some [I (dU it it.fr*16),I (dW it it.fr*16),I 0,I (plH it.aG it.fr*16),I (dU it it.to*16),I (dW it it.to*16),I 0,I (plH it.aG it.to*16)])
  (hD:∀p:Pt,it.kind=3->(p=it.fr\/p=it.to)->MD [I (dU it p*16),I (dW it p*16),I 0,I (plH it.aG p*16),I (dU it p*16),I (dW it p*16),I 0,I (plH it.aG p*16)]=some [I (sq2 (dU it p*16) (dW it p*16))])
  (hQ:∀p:Pt,it.kind=3->(p=it.fr\/p=it.to)->MQ [I (sq2 (dU it p*16) (dW it p*16)),I 2]=some [I (FU (sq2 (dU it p*16) (dW it p*16))),B true])
  (hP:it.kind=3->MP (.view Ee [C4 (ED it it.fr)]::C4 (ED it it.fr)++C4 (ED it it.to)++[B it.full,I 0,I it.dir])=some [.view Ee ((D8 it).map C4),I it.dir]):
  YO MP MQ MD ME MV (Ah it)=if it.kind=3 then some [.view Ee ((D8 it).map C4),B true]else some [.view Ee [],B false]:=by
 obtain⟨v,hv,hvv⟩:=hV;rw[Ziy];by_cases h3:it.kind=3
 ·have e:=hE h3;have p:=hP h3;have d1:=hD it.fr h3 (.inl rfl);have d2:=hD it.to h3 (.inr rfl);have q1:=hQ it.fr h3 (.inl rfl);have q2:=hQ it.to h3 (.inr rfl);simp only[ay,av,ED,C4]at p;simp only[go_sem,hv,e,d1,d2,q1,q2,p];rw[ab (by simp[h3]),ab (by simp[hvv.2 h]),aa h3]
 ·simp only[go_sem];rw[aa h3,ab h3]
theorem Zbf {it:Itm} (h:DB it):OS (Ah it)=if it.kind=3 then some [.view Ee ((D8 it).map C4),B true]else some [.view Ee [],B false]:=by
 have hb:it.kind=3->∀p:Pt,(p=it.fr\/p=it.to)->bd 1048576 it.ce/\bd 1048576 p:=by
  intro h3 p hp;obtain⟨-,h1,h2,ha⟩:=h;obtain⟨-,-,hc,-⟩:=ha h3;rcases hp with rfl|rfl
  ·exact⟨hc,h1⟩
  ·exact⟨hc,h2⟩
 refine Zn3 (XP it) h (λh3=> ?_) (λp h3 hp=> ?_) (λp h3 hp=> ?_) λh3=> ?_
 ·obtain⟨-,h1,h2,ha⟩:=h;obtain⟨hp,-,hc,-⟩:=ha h3;exact Qxv hp h1 h2 hc
 ·obtain⟨hc,hp2⟩:=hb h3 p hp;obtain⟨g1,g2,-⟩:=Rd hc hp2;exact Qbq (bv g1 (by decide)) (bv g2 (by decide)) (bv g1 (by decide)) (bv g2 (by decide))
 ·obtain⟨hc,hp2⟩:=hb h3 p hp;obtain⟨-,-,g3,g4⟩:=Rd hc hp2;obtain⟨n,hn⟩:=bp g3;rw[hn]at g4⊢;exact Zij (by omega)
 ·obtain⟨-,h1,h2,ha⟩:=h;obtain⟨hp,hd,hc,t1,t2,-⟩:=ha h3;have:=Wh hd 20 16 it.full (ED it it.fr) (ED it it.to) [ED it it.fr] (by omega) (by omega) (Qr1 hc h1 t1) (Qr1 hc h2 t2) (show 1+2^16<=1000000 by decide);exact this
theorem Zg0 {u w h pl:Int} (hp:Db pl):Oe [I u,I w,I h,I pl]=some (ptR (spP pl u w h)):=by
 show Qch FL _=_;have h1:=Qla pl;generalize FL=M at*;rw[Z3o];rcases hp with rfl|rfl|rfl
 ·have e:axI 17=(0,1,2):=rfl;rw[e]at h1;rw[h1];rfl
 ·have e:axI 18=(2,0,1):=rfl;rw[e]at h1;rw[h1];rfl
 ·have e:axI 19=(1,2,0):=rfl;rw[e]at h1;rw[h1];rfl
theorem Zlu {α:Type} (pre rest:List α) (x z:α):(pre++x::rest).set pre.length z=(pre++[z])++rest:=by
 rw[List.set_append_right _ _ (co _),Nat.sub_self];simp
def En {α:Type} (f:Nat->α) (z:α) (n i:Nat):List α:=(List.range i).map f++List.replicate (n-i) z
theorem Q9j {α:Type} (f:Nat->α) (z:α) {n i:Nat} (h:i<=n):(En f z n i).length=n:=by unfold En;simp;omega
theorem Qu3 {α:Type} (f:Nat->α) (z:α) {n i:Nat} (h:i<n):(En f z n i).set i (f i)=En f z n (i+1):=by
 unfold En;have e:n-i=(n-(i+1))+1:=by omega
 rw[e,List.replicate_succ];have:=Zlu ((List.range i).map f) (List.replicate (n-(i+1)) z) z (f i);rw[ag,List.length_range]at this;rw[this,List.range_succ,bt];rfl
theorem Qx6 {α:Type} (f:Nat->α) (z:α) (n:Nat):En f z n n=(List.range n).map f:=by unfold En;simp
theorem Zw9 {α:Type} (l:List α) (d:α):(List.range l.length).map (λi=>l.getD i d)=l:=by
 apply List.ext_getElem
 ·simp
 ·intro i h1 h2;simp[h2]
def Kq:Spk:=⟨0,0,0,0⟩
theorem Qq5 {MS MP MF MK MV:Fn} {it:Itm} {l:List Spk} {cu cw:Int} (hl:l.length<=65537) (hcu:cu.natAbs<=16777216) (hcw:cw.natAbs<=16777216) (hok:∀s∈l,okS s)
  (hS:∀{u w h:Int},MS [I u,I w,I h,I it.aG]=some (ptR (spP it.aG u w h))) {f:Nat->List AC} (hf:∀i,f i=ptR (spP it.aG (cu+(l.getD i Kq).u) (cw+(l.getD i Kq).w) (l.getD i Kq).h)):
  ∀(k i:Nat),i+k=l.length->An (Ph MS MP MF MK MV) (.view kPt (En f [I 0,I 0,I 0] l.length i)::I cu::I cw:: .view Ee (l.map C4)::I l.length::I i::Ah it)=
   some (1,[.view kPt ((List.range l.length).map f)])
 |0,i,hi=>by
  refine A5 ?_ (by simp);rw[Zai];simp only[go_sem];rw[ab (by omega),show i=l.length by omega,Qx6]
 |k+1,i,hi=>by
  have hlt:i<l.length:=by omega
  have hs:Ph MS MP MF MK MV (.view kPt (En f [I 0,I 0,I 0] l.length i)::I cu::I cw:: .view Ee (l.map C4)::I l.length::I i::Ah it)=
    some (0, .view kPt (En f [I 0,I 0,I 0] l.length (i+1))::I cu::I cw:: .view Ee (l.map C4)::I l.length::I (i+1:Nat)::Ah it):=by
   rw[Zai];have hr:nth [] (l.map C4) i=C4 l[i]:=IU _ _ _ _ hlt;have ho:=hok _ (bq hlt);have hfl:=Q9j f [I 0,I 0,I 0] (show i<=l.length by omega);have hfi:=hf i;rw[show l.getD i Kq=l[i] by simp[hlt]]at hfi;have hset:=Qu3 f [I 0,I 0,I 0] hlt;rw[hfi]at hset;generalize l[i]=s at*;obtain⟨s1,s2,-⟩:=ho;simp only[go_sem,ak,ag,hr];rw[aa (by omega),aa (by omega),Ae (x:=cu+s.u) (by omega),Ae (x:=cw+s.w) (by omega),Ae (x:=(i:Int)+1) (by omega)];simp only[hS,go_sem,hfl];rw[aa (by omega),hset];rfl
  rw[Bn hs];exact Qq5 hl hcu hcw hok hS hf k (i+1) (by omega)
theorem Z19 {MS MP MF MK MV:Fn} {N:Lp} {it:Itm} {S:List Spk} {C:Rw} {f:Pt} {u w h:Int} (hv:MV (Ah it)=some [B true])
  (hK:MK (Ah it)=some [.view Ee (S.map C4),B true]) (hf:MF [I it.ce.x,I it.ce.y,I it.ce.z]=some (ptR f)) (hpp:MP [I f.x,I f.y,I f.z,I it.aG]=some [I u,I w,I h]) (hS:S.length<=65537)
  (hN:N [.view kPt (List.replicate S.length [I 0,I 0,I 0]),I u,I w, .view Ee (S.map C4),I S.length,I 0,I it.kind,I it.block,I it.fr.x,I it.fr.y,I it.fr.z,I it.to.x,I it.to.y,I it.to.z,I it.aG,I it.ce.x,I it.ce.y,I it.ce.z,I it.dir,B it.full,I it.feed,B it.perRev,I it.side,I it.radius,I it.blend,I it.n,I it.speed,B it.on]=some (1,[.view kPt C])):
  Tv MS MP MF MK MV N (Ah it)=some [.view kPt C,B true]:=by
 rw[Qi0];simp only[go_sem,hv,hK,hf,hpp,ag,ak,hN];rw[ab (by simp),ab (by simp),aa (by omega)]
theorem Ztd {MS MP MF MK MV:Fn} {it:Itm} (hV:∃v,MV (Ah it)=some [B v]/\(v=true↔DB it)) (h:DB it)
  (hK:MK (Ah it)=if it.kind=3 then some [.view Ee ((D8 it).map C4),B true]else some [.view Ee [],B false])
  (hF:∀{p:Pt},bd 100000000 p->MF [I p.x,I p.y,I p.z]=some (ptR (Az p))) (hP:Db it.aG->∀{p:Pt},MP [I p.x,I p.y,I p.z,I it.aG]=some [I (plU it.aG p),I (plW it.aG p),I (plH it.aG p)])
  (hS:Db it.aG->∀{u w h:Int},MS [I u,I w,I h,I it.aG]=some (ptR (spP it.aG u w h))):
  Tv MS MP MF MK MV (An (Ph MS MP MF MK MV)) (Ah it)=some [.view kPt ((Cu it).map ptR),B true]:=by
 obtain⟨v,hv,hvv⟩:=hV;rw[Qi0];have hv1:=hvv.2 h;subst hv1;obtain⟨-,h1,h2,ha⟩:=id h;by_cases h3:it.kind=3
 ·obtain⟨hp,hd,hc,-⟩:=ha h3;rw[aa h3]at hK;obtain⟨c1,c2,c3⟩:=HK (pl:=it.aG) (FA hc);have hsl:=(Qug it).2;have hl:=Qq5 (MS:=MS) (MP:=MP) (MF:=MF) (MK:=MK) (MV:=MV) (it:=it) (l:=D8 it) (cu:=plU it.aG (Az it.ce)) (cw:=plW it.aG (Az it.ce)) hsl c1 c2 (Qsi h h3) (hS hp)
   (f:=λi=>ptR (IW it ((D8 it).getD i Kq))) (λ_=>rfl) (D8 it).length 0 (by omega)
  have hres:(List.range (D8 it).length).map (λi=>ptR (IW it ((D8 it).getD i Kq)))=((D8 it).map (IW it)).map ptR:=by
   rw[List.map_map]
   conv=>rhs;rw[<-Zw9 (D8 it) Kq]
   rw[List.map_map];rfl
  rw[hres]at hl;have hf0:En (λi=>ptR (IW it ((D8 it).getD i Kq))) [I 0,I 0,I 0] (D8 it).length 0=List.replicate (D8 it).length [I 0,I 0,I 0]:=by unfold En;simp
  rw[hf0]at hl;have hf:=hF (A0 hc (by decide));have hpp:= @hP hp (Az it.ce);have:=Z19 (MS:=MS) (N:=An (Ph MS MP MF MK MV)) hv hK hf hpp hsl hl;rw[Qi0]at this;unfold Cu;rw[aa h3];exact this
 ·rw[ab h3]at hK;have f1:=hF (A0 h1 (by decide));have f2:=hF (A0 h2 (by decide));unfold Cu;rw[ab h3];simp only[go_sem,hv,hK,f1,f2];simp
theorem Zk2 {it:Itm} (h:DB it):Qq (Ah it)=some [.view kPt ((Cu it).map ptR),B true]:=
 Ztd (XP it) h (Zbf h) Qtc (λhp=>Qx5 hp) (λhp=>Zg0 hp)
theorem Zft {MO:Fn} {c a:Pt} {d:Int} (hc:bd B24 c) (ha:bd B24 a) (hne:a≠c) (hd:0<=d/\d<=33554432)
  (hN:∀{x:Int},x.natAbs<=33554432*4->x*x<=sqD a c->MO [I x,I d,I (sqD a c),I 2]=some [I (B7 x d (sqD a c)),B true]/\(B7 x d (sqD a c)).natAbs<=268435456):
  Qok MO [I c.x,I c.y,I c.z,I a.x,I a.y,I a.z,I d]=some (ptR (BR c a d)++[B true]):=by
 obtain⟨q1,q2,q3⟩:=Qtr a c;have x1:=IB ha.1 hc.1;have x2:=IB ha.2.1 hc.2.1;have x3:=IB ha.2.2 hc.2.2;obtain⟨n1,b1⟩:=hN (x:=a.x-c.x) (bv x1 (by decide)) q1;obtain⟨n2,b2⟩:=hN (x:=a.y-c.y) (bv x2 (by decide)) q2;obtain⟨n3,b3⟩:=hN (x:=a.z-c.z) (bv x3 (by decide)) q3;have h6: ¬d<0:=Int.not_lt.2 hd.1;have h7: ¬d>33554432:=Int.not_lt.2 hd.2;rw[Zur,Q1f (A0 ha (by decide)) (A0 hc (by decide)),In x1 (by decide),In x2 (by decide),In x3 (by decide)];simp only[go_sem,n1,n2,n3];rw[ab (λh=>hne (Dt.2 ⟨h.1,h.2.1,h.2.2.1⟩)),ab h6,ab h7];rw[In (RX hc.1 b1) (by decide),In (RX hc.2.1 b2) (by decide),In (RX hc.2.2 b3) (by decide)];rfl
theorem Qc7 {c a:Pt} {d:Int} (hc:bd B24 c) (ha:bd B24 a) (hne:a≠c) (hd:0<=d/\d<=33554432):
  Hp [I c.x,I c.y,I c.z,I a.x,I a.y,I a.z,I d]=some (ptR (BR c a d)++[B true]):=by
 have h0:sqD a c≠0:=λh=>hne (V1.1 h);have h1:=Q7 a c;have h2:=PY (A0 ha (by decide)) (A0 hc (by decide)) (show 67108864<=67108864 by omega);refine Zft hc ha hne hd fun{x} hx hq=> ?_;obtain⟨-,g2,-⟩:=Sj hx (r:=d) (by omega) (n:=sqD a c) (by omega) hq;exact⟨Qfx (bv hx (by decide)) (by omega) (by omega),g2⟩
theorem Q3r {p c q:Pt} (hp:bd B24 p) (hc:bd B24 c) (hq:bd B24 q):GS [I p.x,I p.y,I p.z,I c.x,I c.y,I c.z,I q.x,I q.y,I q.z]=some [I (H7 p c q)]:=by
 have hb:=Zla hp hc hq;have g1:=DY hb.1;have g2:=DY hb.2.1;have g3:=DY hb.2.2;unfold GS;unfold bd B24 at hp hc hq;have w:∀u v c:Int,u.natAbs<=16777216->v.natAbs<=16777216->c.natAbs<=16777216->wrap .i64 (wrap .i64 (u+v)-wrap .i64 (2*c))=u-c+(v-c):=by
  intro u v c h1 h2 h3;rw[Ae (x:=u+v) (by omega),Ae (x:=2*c) (by omega),Ae (by omega)];omega
 rw[Zll,w _ _ _ hp.1 hq.1 hc.1,w _ _ _ hp.2.1 hq.2.1 hc.2.1,w _ _ _ hp.2.2 hq.2.2 hc.2.2];have e1:p.x-c.x+(q.x-c.x)=(Gh p c q).x:=rfl;have e2:p.y-c.y+(q.y-c.y)=(Gh p c q).y:=rfl;have e3:p.z-c.z+(q.z-c.z)=(Gh p c q).z:=rfl;rw[e1,e2,e3];unfold H7 Jr;generalize(Gh p c q).x*(Gh p c q).x=u at*;generalize(Gh p c q).y*(Gh p c q).y=v at*;generalize(Gh p c q).z*(Gh p c q).z=w at*;rw[Ae (x:=u) (by omega),Ae (x:=0+u) (by omega),Ae (x:=v) (by omega),Ae (x:=0+u+v) (by omega),Ae (x:=w) (by omega),Ae (by omega),Int.zero_add]
open Classical in
theorem Zjg {MB MT ML:Fn} {a c b:Pt} {tol d e bit:Int} (ha:bd B24 a) (hc:bd B24 c) (hb:bd B24 b) (hac:a≠c) (hbc:b≠c) (ht:0<=tol/\tol<=16000) (hd:0<=d/\d+e<=33554432) (he:0<e) (hbit:e.fdiv (2^min (Int.toNat 1) IntKind.i64.bits)=bit)
  (l3:0<=AD a c/\AD a c<=268435456) (l4:0<=AD c b/\AD c b<=268435456)
  (hT:∀{a:Pt} {d:Int},bd B24 a->a≠c->0<=d/\d<=33554432->MT [I c.x,I c.y,I c.z,I a.x,I a.y,I a.z,I d]=some (ptR (BR c a d)++[B true]))
  (hB:∀{p q:Pt},bd B24 p->bd B24 q->MB [I p.x,I p.y,I p.z,I c.x,I c.y,I c.z,I q.x,I q.y,I q.z]=some [I (H7 p c q)]):
  Nr MB MT ML [I tol,I (mn (AD a c) (AD c b)-2),I d,I e,I a.x,I a.y,I a.z,I c.x,I c.y,I c.z,I b.x,I b.y,I b.z]=
   some (0,[I tol,I (mn (AD a c) (AD c b)-2),I (if Gt a c b tol (d+e)then d+e else d),I bit,I a.x,I a.y,I a.z,I c.x,I c.y,I c.z,I b.x,I b.y,I b.z]):=by
 obtain⟨m1,m2⟩:=Ti (AD a c) (AD c b);have ht2:0<=16*tol*tol/\16*tol*tol<=4096000000:=by
  have:=dm (show 16*tol<=256000 by omega) ht.2 ht.1 (by omega);exact⟨Int.mul_nonneg (by omega) ht.1,by omega⟩
 rw[Qtl,hbit,Ae (x:=d+e) (by omega),DV he,Ae (x:=16*tol) (by omega),Ae (x:=16*tol*tol) (by omega)];by_cases h:d+e>mn (AD a c) (AD c b)-2
 ·rw[DV h,ab (λh3:Gt a c b tol (d+e)=>by have:=h3.1;omega)]
 ·rw[A7 h];have k1:bd B24 (BR c a (d+e)):=KA hc ha hac (by omega);have k2:bd B24 (BR c b (d+e)):=KA hc hb hbc (by rw[Uv b c];omega);have t1:=hT (d:=d+e) ha hac (by omega);have t2:=hT (d:=d+e) hb hbc (by omega);simp only[ay,av,ptR]at t1 t2;simp only[t1,t2,go_sem,hB k1 k2];by_cases h2:H7 (BR c a (d+e)) c (BR c b (d+e))<=16*tol*tol
  ·rw[aa h2,aa (show Gt a c b tol (d+e)from⟨by omega,h2⟩)]
  ·rw[ab h2,ab (λh3:Gt a c b tol (d+e)=>h2 h3.2)]
open Classical in
theorem Q2p {MB MT ML:Fn} {a c b:Pt} {tol m:Int}
  (hst : ∀ {d e bit : Int}, 0 <= d /\ d + e <= 33554432 -> 0 < e -> e.fdiv (2 ^ min (Int.toNat 1) IntKind.i64.bits) = bit -> Nr MB MT ML [I tol, I m, I d, I e, I a.x, I a.y, I a.z, I c.x, I c.y, I c.z, I b.x, I b.y, I b.z] =
   some (0,[I tol,I m,I (if Gt a c b tol (d+e)then d+e else d),I bit,I a.x,I a.y,I a.z,I c.x,I c.y,I c.z,I b.x,I b.y,I b.z])):
  ∀(k:Nat) (d:Int),0<=d/\d+((2^(k+1):Nat):Int)<=33554432->
  An (Nr MB MT ML) [I tol,I m,I d,I ((2^k:Nat):Int),I a.x,I a.y,I a.z,I c.x,I c.y,I c.z,I b.x,I b.y,I b.z]=some (1,[I (FH (Gt a c b tol) k d)])
 |0,d,hd=>by
  simp only[Nat.zero_add,Nat.pow_one]at hd;have hend:∀d:Int,An (Nr MB MT ML) [I tol,I m,I d,I 0,I a.x,I a.y,I a.z,I c.x,I c.y,I c.z,I b.x,I b.y,I b.z]=some (1,[I d]):=by
   intro d;refine A5 ?_ (by simp);rw[Qtl];rw[A7 (by omega)]
  have hs:=hst (d:=d) (e:=1) (by omega) (by omega) Zyb;have e:((2^0:Nat):Int)=1:=rfl;rw[e,Bn hs,hend];rfl
 |k+1,d,hd=>by
  have hp:0<2^(k+1):=Nat.two_pow_pos _;have e3:2^(k+1+1)=2^(k+1)+2^(k+1):=by rw[Nat.pow_succ 2 (k+1)];omega
  rw[e3]at hd;have hs:=hst (d:=d) (e:=((2^(k+1):Nat):Int)) (by omega) (by omega) (Zsg k);rw[Bn hs];unfold FH;refine Q2p hst k _ ?_;split<;>omega
theorem Zil {ML:Fn} {N:Lp} {MB MT:Fn} {a c b:Pt} {tol:Int}
  (l1:ML [I a.x,I a.y,I a.z,I c.x,I c.y,I c.z]=some [I (AD a c)]) (l2:ML [I c.x,I c.y,I c.z,I b.x,I b.y,I b.z]=some [I (AD c b)])
  (l3:0<=AD a c/\AD a c<=268435456) (l4:0<=AD c b/\AD c b<=268435456)
  (hN:a≠c->b≠c->N [I tol,I (mn (AD a c) (AD c b)-2),I 0,I 16777216,I a.x,I a.y,I a.z,I c.x,I c.y,I c.z,I b.x,I b.y,I b.z]=some (1,[I (FH (Gt a c b tol) 24 0)])):
  Xh MB MT ML N [I a.x,I a.y,I a.z,I c.x,I c.y,I c.z,I b.x,I b.y,I b.z,I tol]=some [I (Dn a c b tol)]:=by
 rw[Zo5];have m3:0<=mn (AD a c) (AD c b)/\mn (AD a c) (AD c b)<=268435456:=by unfold mn;split<;>omega
 unfold Dn;by_cases h1:a=c
 ·rw[aa (.inl h1)];have h2:=Dt.1 h1;simp only[go_sem];rw[aa ⟨h2.1,h2.2.1,h2.2.2,trivial⟩]
 ·by_cases h2:b=c
  ·rw[aa (.inr h2)];have h3:=Dt.1 h2;simp only[go_sem];rw[ab (λh=>h1 (Dt.2 ⟨h.1,h.2.1,h.2.2.1⟩)),aa ⟨h3.1,h3.2.1,h3.2.2,trivial⟩]
  ·have hl':=hN h1 h2;simp only[go_sem,l1,l2];rw[Ae (by omega)];simp only[hl',go_sem];rw[ab (λh=>h1 (Dt.2 ⟨h.1,h.2.1,h.2.2.1⟩)),ab (λh=>h2 (Dt.2 ⟨h.1,h.2.1,h.2.2.1⟩)),ab (show¬(a=c\/b=c)from λh=>h.elim h1 h2)];by_cases h3:FH (Gt a c b tol) 24 0<16
   ·rw[aa h3,aa h3]
   ·rw[ab h3,ab h3]
theorem Z4h {a c b:Pt} {tol:Int} (ha:bd B24 a) (hc:bd B24 c) (hb:bd B24 b) (ht:0<=tol/\tol<=16000):
  LD [I a.x,I a.y,I a.z,I c.x,I c.y,I c.z,I b.x,I b.y,I b.z,I tol]=some [I (Dn a c b tol)]:=by
 have A:=A0 ha (show B24<=67108864 by decide);have C:=A0 hc (show B24<=67108864 by decide);have D:=A0 hb (show B24<=67108864 by decide);exact Zil (Qgj A C) (Qgj C D) (IH A C) (IH C D)
  λh1 h2=>Q2p (λhd he hbit=>Zjg ha hc hb h1 h2 ht hd he hbit (IH A C) (IH C D) (λhb hn hd=>Qc7 hc hb hn hd) λhp hq=>Q3r hp hc hq) 24 0 (by decide)
theorem Z2a {M:Fn} {p c q:Pt} (hM:M [I p.x,I p.y,I p.z,I c.x,I c.y,I c.z,I q.x,I q.y,I q.z]=some [I (H7 p c q)]):
  ∀(k:Nat) (n:Int),KC n->64<=n*2^k->An (Qm M) [I n,I p.x,I p.y,I p.z,I c.x,I c.y,I c.z,I q.x,I q.y,I q.z]=some (1,[I (Mq (H7 p c q) k n)]):=by
 have hst:∀n:Int,KC n->Qm M [I n,I p.x,I p.y,I p.z,I c.x,I c.y,I c.z,I q.x,I q.y,I q.z]=if n<64/\H7 p c q>16*n*n*n*n*4*4 then some (0,[I (n*2),I p.x,I p.y,I p.z,I c.x,I c.y,I c.z,I q.x,I q.y,I q.z])else some (1,[I n]):=by
  intro n hn;rw[Z64];simp only[go_sem,hM];have hw:wrap .i64 (wrap .i64 (wrap .i64 (wrap .i64 (wrap .i64 (wrap .i64 (16*n)*n)*n)*n)*4)*4)=16*n*n*n*n*4*4/\wrap .i64 (n*2)=n*2:=by
   rcases hn with rfl|rfl|rfl|rfl|rfl|rfl<;>decide
  rw[hw.1,hw.2];by_cases h1:n<64
  ·rw[aa h1];by_cases h2:H7 p c q>16*n*n*n*n*4*4
   ·rw[aa h2,aa ⟨h1,h2⟩]
   ·rw[ab h2,ab (λh=>h2 h.2)]
  ·rw[ab h1,ab (λh=>h1 h.1)]
 intro k;induction k with
 |zero=>
  intro n hn h64;have:n=64:=by rcases hn with rfl|rfl|rfl|rfl|rfl|rfl<;>simp at h64⊢
  subst this;refine A5 ?_ (by simp);rw[hst _ hn,ab (by omega)];rfl
 |succ k ih=>
  intro n hn h64;unfold Mq;by_cases h:n<64/\H7 p c q>16*n*n*n*n*4*4
  ·rw[aa h];have hs:=hst n hn;rw[aa h]at hs;rw[Bn hs];refine ih (n*2) ?_ ?_
   ·rcases hn with rfl|rfl|rfl|rfl|rfl|rfl<;>simp[KC]at h⊢
   ·rw[Int.pow_succ]at h64;rw[Int.mul_assoc,Int.mul_comm 2];exact h64
  ·rw[ab h];refine A5 ?_ (by simp);rw[hst _ hn,ab h]
theorem Zjj {p c q:Pt} (hp:bd B24 p) (hc:bd B24 c) (hq:bd B24 q):JV [I p.x,I p.y,I p.z,I c.x,I c.y,I c.z,I q.x,I q.y,I q.z]=some [I (LW p c q)]:=by
 have h1:=Z2a (Q3r hp hc hq) 5 2 (.inl rfl) (by decide);show Qj4 _ (An (Qm _)) _=_;generalize GS=M at*;rw[Zie];simp only[go_sem,h1];rfl
theorem Qwj {α:Type} (d x:α):∀(l:List α) (i:Nat),i<l.length->nth d (l.set i x) i=x
 |a::l,0,_=>rfl
 |a::l,i+1,h=>by simp only[List.set_cons_succ,nth];exact Qwj d x l i (by simpa using h)
theorem Zun {n i p c q:Int} (hn:2<=n/\n<=64) (hi:0<=i/\i<=n) (hp:p.natAbs<=B24) (hc:c.natAbs<=B24) (hq:q.natAbs<=B24):
  Bz [I (wrap .i64 (wrap .i64 (wrap .i64 (wrap .i64 (n-i)*wrap .i64 (n-i))*wrap .i64 (p-c))+wrap .i64 (wrap .i64 (i*i)*wrap .i64 (q-c)))),I 1,I (wrap .i64 (n*n)),I 2]=some [I (Br ((n-i)*(n-i)*(p-c)+i*i*(q-c)) (n*n)),B true]:=by
 have n1:0<n*n/\n*n<=4096:=⟨Int.mul_pos (by omega) (by omega),by have:=dm hn.2 hn.2 (by omega) (by omega);omega⟩;have n2:0<=(n-i)*(n-i)/\(n-i)*(n-i)<=4096:=⟨FJ _,by have:=dm (show n-i<=64 by omega) (show n-i<=64 by omega) (by omega) (by omega);omega⟩;have n3:0<=i*i/\i*i<=4096:=⟨FJ _,by have:=dm (show i<=64 by omega) (show i<=64 by omega) (by omega) (by omega);omega⟩;unfold B24 at*;rw[Ae (x:=n-i) (by omega),Ae (x:=(n-i)*(n-i)) (by omega),Ae (x:=p-c) (by omega),Ae (x:=i*i) (by omega),Ae (x:=q-c) (by omega),Ae (x:=n*n) (by omega)];have m1:=Hv (x:=(n-i)*(n-i)) (y:=p-c) (A:=4096) (B:=33554432) (by omega) (by omega);have m2:=Hv (x:=i*i) (y:=q-c) (A:=4096) (B:=33554432) (by omega) (by omega);generalize(n-i)*(n-i)*(p-c)=u at*;generalize i*i*(q-c)=v at*;rw[Ae (x:=u) (by omega),Ae (x:=v) (by omega),Ae (by omega)];have h:=Sr (a:=u+v) (b:=1) (c:=n*n) (by unfold i64;omega) (by unfold i64;omega) (by omega) (by rw[show(1:Int).natAbs=1 from rfl,Nat.mul_one];omega);rw[Int.mul_one]at h;exact h
theorem Qrk {MR MP MT MC:Fn} {p c q:Pt} {N:Nat} (hN:2<=N/\N<=64) (hp:bd B24 p) (hc:bd B24 c) (hq:bd B24 q)
  (hR:∀{i p c q:Int},(0<=i/\i<=N)->p.natAbs<=B24->c.natAbs<=B24->q.natAbs<=B24->MR [I (wrap .i64 (wrap .i64 (wrap .i64 (wrap .i64 ((N:Int)-i)*wrap .i64 ((N:Int)-i))*wrap .i64 (p-c))+wrap .i64 (wrap .i64 (i*i)*wrap .i64 (q-c)))),I 1,I (wrap .i64 ((N:Int)*(N:Int))),I 2]=some [I (Br (((N:Int)-i)*((N:Int)-i)*(p-c)+i*i*(q-c)) ((N:Int)*(N:Int))),B true])
  {f:Nat->List AC} (hf:∀i:Nat,f i=ptR (Nh N i p c q)):
  ∀(k i:Nat),i+k=N+1->An (Nu MR MP MT MC) [.view kPt (En f [I 0,I 0,I 0] (N+1) i),I N,I (N+1:Nat),I i,I c.x,I c.y,I c.z,I p.x,I p.y,I p.z,I q.x,I q.y,I q.z]=
   some (1,[.view kPt ((List.range (N+1)).map f)])
 |0,i,hi=>by
  obtain rfl:i=N+1:=by omega
  refine A5 ?_ (by simp);rw[Q35,Qx6,A7 (by omega)]
 |k+1,i,hi=>by
  have b1:=Ne (n:=N) (i:=i) (A:=B24) (by omega) (by omega) hp.1 hc.1 hq.1;have b2:=Ne (n:=N) (i:=i) (A:=B24) (by omega) (by omega) hp.2.1 hc.2.1 hq.2.1;have b3:=Ne (n:=N) (i:=i) (A:=B24) (by omega) (by omega) hp.2.2 hc.2.2 hq.2.2;have r1:=hR (i:=i) (by omega) hp.1 hc.1 hq.1;have r2:=hR (i:=i) (by omega) hp.2.1 hc.2.1 hq.2.1;have r3:=hR (i:=i) (by omega) hp.2.2 hc.2.2 hq.2.2;have hs:Nu MR MP MT MC [.view kPt (En f [I 0,I 0,I 0] (N+1) i),I N,I (N+1:Nat),I i,I c.x,I c.y,I c.z,I p.x,I p.y,I p.z,I q.x,I q.y,I q.z]=
    some (0,[.view kPt (En f [I 0,I 0,I 0] (N+1) (i+1)),I N,I (N+1:Nat),I (i+1:Nat),I c.x,I c.y,I c.z,I p.x,I p.y,I p.z,I q.x,I q.y,I q.z]):=by
   have hlen:=Q9j f [I 0,I 0,I 0] (show i<=N+1 by omega);have hset:=Qu3 f [I 0,I 0,I 0] (show i<N+1 by omega);rw[hf i]at hset;generalize En f [I 0,I 0,I 0] (N+1) i=l at*;have hself:∀x:List AC,nth [] (l.set i x) i=x:=λx=>Qwj _ _ _ _ (by omega);rw[Q35];have hin:(0:Int)<=(i:Int)/\(i:Int)<((N+1:Nat):Int):=by omega
   simp only[go_sem,r1,r2,r3,ak,hlen,aa hin,List.set_set,hself,List.length_set];rw[aa (by omega)];unfold Ou B24 at b1 b2 b3;rw[Ae (x:=c.x+_) (by omega),Ae (x:=c.y+_) (by omega),Ae (x:=c.z+_) (by omega),Ae (x:=(i:Int)+1) (by omega)];rw[<-hset];rfl
  rw[Bn hs];exact Qrk hN hp hc hq hR hf k (i+1) (by omega)
theorem Zsd {a c b:Pt} {tol:Int} (ha:bd B24 a) (hc:bd B24 c) (hb:bd B24 b) (ht:0<=tol/\tol<=16000):
  Q2 [I a.x,I a.y,I a.z,I c.x,I c.y,I c.z,I b.x,I b.y,I b.z,I tol]=some [.view kPt ((F0 a c b tol).map ptR)]:=by
 show Qi5 _ _ _ _ (An (Nu _ _ _ _)) _=_;have e1:=Z4h ha hc hb ht;have hR:= @Zun;generalize LD=MC at*;unfold F0;by_cases h:Dn a c b tol=0
 ·rw[aa h];rw[Qwy];simp only[go_sem,e1];rw[aa h];rfl
 ·rw[ab h];obtain⟨h1,h2,h3,h4,h5,-⟩:=YB h;obtain⟨m1,m2⟩:=Ti (AD a c) (AD c b);have h0: ¬Dn a c b tol=0:=h;generalize Dn a c b tol=d at*;have k1:bd B24 (BR c a d):=KA hc ha h1 (by omega);have k2:bd B24 (BR c b d):=KA hc hb h2 (by rw[Uv b c];omega);have t1:=Qc7 hc ha h1 (d:=d) (by omega);have t2:=Qc7 hc hb h2 (d:=d) (by omega);have p1:=Zjj k1 hc k2;have p2:=(Qc2 k1 hc k2).2;generalize LW (BR c a d) c (BR c b d)=n at*;obtain⟨N,rfl⟩:∃N:Nat,n=N:=⟨n.toNat,by rcases p2 with rfl|rfl|rfl|rfl|rfl|rfl<;>rfl⟩;have hN:2<=N/\N<=64:=by unfold KC at p2;omega
  have hl:=Qrk (MR:=Bz) (MP:=JV) (MT:=Hp) (MC:=MC) hN k1 hc k2 (λhi hp hc hq=>hR (by omega) hi hp hc hq) (f:=λi=>ptR (Nh N i (BR c a d) c (BR c b d))) (λ_=>rfl) (N+1) 0 (by omega);have hf0:∀f:Nat->List AC,En f [I 0,I 0,I 0] (N+1) 0=List.replicate (N+1) [I 0,I 0,I 0]:=λf=>by unfold En;rw[List.range_zero,dh,av,Nat.sub_zero]
  rw[hf0]at hl;generalize Bz=MR at*;generalize JV=MP at*;generalize Hp=MT at*;generalize BR c a d=p at*;generalize BR c b d=q at*;rw[Qwy];simp only[ay,av,ptR]at t1 t2;have hres:(List.range (N+1)).map (fun(i:Nat)=>ptR (Nh N i p c q))=((List.range ((N:Int).toNat+1)).map fun(i:Nat)=>Nh N i p c q).map ptR:=by rw[List.map_map,ak];rfl
  rw[hres]at hl;generalize((List.range ((N:Int).toNat+1)).map fun(i:Nat)=>Nh N i p c q).map ptR=C at*;generalize An (Nu MR MP MT MC)=L at*;have hl':L [.view kPt (List.replicate (N+1) [I 0,I 0,I 0]),I N,I (N+1:Nat),I 0,I c.x,I c.y,I c.z,I p.x,I p.y,I p.z,I q.x,I q.y,I q.z]=some (1,[.view kPt C]):=hl;have w1:wrap .i64 ((N:Int)+1)=((N+1:Nat):Int):=by rw[Ae (by omega)];rfl
  simp only[e1,t1,t2,p1,w1,af,H3,K1,L_,HA,gA,jA,wA,bA,ak,List.length_replicate,Qfa];rw[Bw (by simpa using h0),DV trivial,BH (by simp;omega),hl'];rfl
end Go.Bm
namespace Go.Bm
open Classical
theorem Ro (k:Int):DQ [I k]=some [B (decide (1<=k/\k<=6))]:=by
 unfold DQ;rw[Zv1];by_cases h:1<=k
 ·rw[DV (show k>=1 from h)];by_cases h2:k<=6
  ·rw[al h2,al ⟨h,h2⟩]
  ·rw[am h2,am λh3=>h2 h3.2]
 ·rw[A7 (show¬k>=1 from h),am λh3=>h h3.1]
theorem To (it:Itm):EM (Ah it)=some [B (decide (smI it))]:=by
 unfold EM;rw[Z3e];by_cases h:it.kind=2
 ·rw[BH (by simp[h])];congr 2;by_cases h2:it.fr=it.to
  ·have h3:=Dt.1 h2;rw[am (λhs:smI it=>hs.2 h2)];simp[h3.1,h3.2.1,h3.2.2]
  ·rw[al (show smI it from⟨h,h2⟩)];have h3: ¬(it.fr.x=it.to.x/\it.fr.y=it.to.y/\it.fr.z=it.to.z):=λh3=>h2 (Dt.2 h3);simp only[B,AC.bool.injEq,Bool.not_eq_true',Bool.and_true];by_cases a:it.fr.x=it.to.x<;>by_cases b:it.fr.y=it.to.y<;>by_cases c:it.fr.z=it.to.z<;>simp[a,b,c]at h3⊢
 ·rw[Bw (by simp[h]),am (λhs:smI it=>h hs.1)]
theorem Tq {it:Itm} (h1:bd 1048576 it.fr) (h2:bd 1048576 it.to):Gi (Ah it)=some (ptR (Bh it)):=by
 obtain⟨a1,a2,a3⟩:=h1;obtain⟨b1,b2,b3⟩:=h2;unfold Gi;rw[Zlb,Ae (x:=it.fr.x+it.to.x) (by omega),Ae (x:=(it.fr.x+it.to.x)*8) (by omega),Ae (x:=it.fr.y+it.to.y) (by omega),Ae (x:=(it.fr.y+it.to.y)*8) (by omega),Ae (x:=it.fr.z+it.to.z) (by omega),Ae (x:=(it.fr.z+it.to.z)*8) (by omega)];rfl
theorem Zwv {p:Pt} (h:bd 100000000 p):On [I p.x,I p.y,I p.z]=some (ptR (Az p)):=by
 unfold On;rw[Z54];obtain⟨h1,h2,h3⟩:=h;rw[Ae (by omega),Ae (by omega),Ae (by omega)];rfl
theorem Q8s (it:Itm):HT (Ah it)=some [B (decide (syI it))]:=by
 unfold HT;rw[Zzm];by_cases h5:it.kind=5
 ·rw[BH (by simp[h5]),al (show syI it from .inl h5)]
 ·rw[Bw (by simp[h5])];by_cases h6:it.kind=6
  ·rw[al (show syI it from .inr h6)];simp[h6]
  ·rw[am (show¬syI it from λh=>h.elim h5 h6)];simp[h6]
theorem Zrs {MV MM:Fn} {it:Itm} (hM:MM [I it.kind]=some [B (decide (1<=it.kind/\it.kind<=6))]) (hV:∃v,MV (Ah it)=some [B v]/\(v=true↔DB it)):
  Qpx MV MM (Ah it)=some [I (if Ch it then 1 else 0)]:=by
 obtain⟨v,hv,hvv⟩:=hV;have hr:∀{x:Int},(Ch it->x=1)->(¬Ch it->x=0)->some [I x]=some [I (if Ch it then 1 else 0)]:=by
  intro x h1 h2;by_cases c:Ch it
  ·rw[aa c,h1 c]
  ·rw[ab c,h2 c]
 rw[Z36];simp only[go_sem,hM,hv];unfold Ch AF at hr⊢;have one:∀{P:Prop},P->(P->(1:Int)=1)/\(¬P->(1:Int)=0):=λh=>⟨λ_=>rfl,λg=>absurd h g⟩;have zero:∀{P:Prop},¬P->(P->(0:Int)=1)/\(¬P->(0:Int)=0):=λh=>⟨λg=>absurd g h,λ_=>rfl⟩;by_cases c1:it.kind<1
 ·rw[aa c1];exact hr (λ_=>rfl) λg=>absurd (.inl c1) g
 rw[ab c1];by_cases c2:it.kind>14
 ·rw[aa c2];exact hr (λ_=>rfl) λg=>absurd (.inr (.inl c2)) g
 rw[ab c2];by_cases c3:1<=it.kind/\it.kind<=6
 ·simp only[aa c3];have hk8:it.kind≠8:=by omega
  simp only[ab hk8];by_cases c4:DB it
  ·rw[ab (by simp[hvv.2 c4])];by_cases c5:it.blend<0
   ·rw[aa c5];exact hr (λ_=>rfl) λg=>absurd (.inr (.inr (.inl ⟨c3, .inr (.inr (.inl c5))⟩))) g
   rw[ab c5];by_cases c6:it.blend>1000
   ·rw[aa c6];exact hr (λ_=>rfl) λg=>absurd (.inr (.inr (.inl ⟨c3, .inr (.inr (.inr c6))⟩))) g
   rw[ab c6];by_cases c7:it.kind=1
   ·rw[ab (show¬it.kind≠1 by omega)];refine hr (λg=> ?_) λ_=>rfl;rcases g with g|g|⟨-,g|g|g|g⟩|g
    ·omega
    ·omega
    ·exact absurd c4 g
    ·omega
    ·omega
    ·omega
    ·omega
   ·rw[aa c7];by_cases c8:it.feed<1
    ·rw[aa c8];exact hr (λ_=>rfl) λg=>absurd (.inr (.inr (.inl ⟨c3, .inr (.inl ⟨c7, .inl c8⟩)⟩))) g
    rw[ab c8];by_cases c9:it.feed>60000000
    ·rw[aa c9];exact hr (λ_=>rfl) λg=>absurd (.inr (.inr (.inl ⟨c3, .inr (.inl ⟨c7, .inr c9⟩)⟩))) g
    rw[ab c9];refine hr (λg=> ?_) λ_=>rfl;rcases g with g|g|⟨-,g|g|g|g⟩|g
    ·omega
    ·omega
    ·exact absurd c4 g
    ·omega
    ·omega
    ·omega
    ·omega
  ·rw[aa (λh=>c4 (hvv.1 h))];exact hr (λ_=>rfl) λg=>absurd (.inr (.inr (.inl ⟨c3, .inl c4⟩))) g
 ·simp only[ab c3];by_cases c4:it.kind=8
  ·rw[aa c4];by_cases d1:it.n<3
   ·rw[aa d1];exact hr (λ_=>rfl) λg=>absurd (.inr (.inr (.inr ⟨c3,c4, .inl d1⟩))) g
   rw[ab d1];by_cases d2:it.n>5
   ·rw[aa d2];exact hr (λ_=>rfl) λg=>absurd (.inr (.inr (.inr ⟨c3,c4, .inr (.inl d2)⟩))) g
   rw[ab d2];by_cases d3:it.speed<0
   ·rw[aa d3];exact hr (λ_=>rfl) λg=>absurd (.inr (.inr (.inr ⟨c3,c4, .inr (.inr (.inl d3))⟩))) g
   rw[ab d3];by_cases d4:it.speed>30000
   ·rw[aa d4];exact hr (λ_=>rfl) λg=>absurd (.inr (.inr (.inr ⟨c3,c4, .inr (.inr (.inr d4))⟩))) g
   rw[ab d4];refine hr (λg=> ?_) λ_=>rfl;rcases g with g|g|⟨g,-⟩|⟨-,-,g⟩
   ·omega
   ·omega
   ·exact absurd g c3
   ·omega
  ·rw[ab c4];refine hr (λg=> ?_) λ_=>rfl;rcases g with g|g|⟨g,-⟩|⟨-,g,-⟩
   ·omega
   ·omega
   ·exact absurd g c3
   ·omega
theorem Z6v (it:Itm):I2 (Ah it)=some [I (if Ch it then 1 else 0)]:=Zrs (Ro _) (XP it)
def C3:List Itm->Nat->Nat
 |[],k=>k
 |it::l,k=>if it.kind=10 then C3 l (k+1)else k
def De (aA:List Itm) (i:Nat):Nat:=C3 (aA.drop (i+1)) (i+1)
theorem Qo9:∀(l:List Itm) (k:Nat),k<=C3 l k/\C3 l k<=k+l.length
 |[],k=>by simp[C3]
 |it::l,k=>by
  unfold C3;split
  ·have:=Qo9 l (k+1);simp;omega
  ·simp
theorem Q3x:∀(l:List Itm) (k:Nat),Gx l k=if C3 l k-k<l.length/\smI (l.getD (C3 l k-k) it0)then(C3 l k:Int)else-1
 |[],k=>by simp[Gx]
 |it::l,k=>by
  have hs:=Qo9 l (k+1);by_cases h10:it.kind=10
  ·have e1:Gx (it::l) k=Gx l (k+1):=by rw[Gx,aa h10]
   have e2:C3 (it::l) k=C3 l (k+1):=by rw[C3,aa h10]
   rw[e1,e2,Q3x l (k+1)];have e3:C3 l (k+1)-k=(C3 l (k+1)-(k+1))+1:=by omega
   rw[e3,List.getD_cons_succ];by_cases c:C3 l (k+1)-(k+1)<l.length
   ·have c2:C3 l (k+1)-(k+1)+1<(it::l).length:=by simp;omega
    by_cases c3:smI (l.getD (C3 l (k+1)-(k+1)) it0)
    ·rw[aa ⟨c,c3⟩,aa ⟨c2,c3⟩]
    ·rw[ab (λg=>c3 g.2),ab (λg=>c3 g.2)]
   ·rw[ab (λg=>c g.1),ab (λg=>c (by have:=g.1;simp at this;omega))]
  ·have e1:Gx (it::l) k=if smI it then(k:Int)else-1:=by rw[Gx,ab h10]
   have e2:C3 (it::l) k=k:=by rw[C3,ab h10]
   rw[e1,e2,Nat.sub_self,List.getD_cons_zero];by_cases c:smI it
   ·rw[aa c,aa ⟨by simp,c⟩]
   ·rw[ab c,ab (λg=>c g.2)]
theorem Qwi {aA:List Itm} (hl:aA.length<=1000000):∀(k i:Nat),i+k=aA.length->
  An Qb [.view Aj (aA.map Ah),I i]=some (1,[I (C3 (aA.drop i) i)])
 |0,i,hi=>by
  refine A5 ?_ (by simp);rw[Qu7];simp only[go_sem,ag];rw[ab (by omega),List.drop_of_length_le (by omega)];rfl
 |k+1,i,hi=>by
  have hlt:i<aA.length:=by omega
  have hr:=Fu hlt;rw[XG hlt];have hst:Qb [.view Aj (aA.map Ah),I i]=if(itA aA i).kind=10 then some (0,[.view Aj (aA.map Ah),I (i+1:Nat)])else some (1,[I i]):=by
   rw[Qu7];have hin:(0:Int)<=(i:Int)/\(i:Int)<(aA.length:Int):=by omega
   simp only[go_sem,ag,ak,hr,aa hin];rw[aa (by omega),Ae (by omega)];rfl
  unfold C3;by_cases h10:(itA aA i).kind=10
  ·rw[aa h10]at hst⊢;rw[Bn hst];exact Qwi hl k (i+1) (by omega)
  ·rw[ab h10]at hst⊢;exact A5 hst (by simp)
theorem Qp8 {aA:List Itm} (hl:aA.length<=1000000) {i:Nat} (hi:i<aA.length):Ff [.view Aj (aA.map Ah),I i]=some [I (De aA i)]:=by
 show WC (An Qb) _=_;have h:=Qwi hl (aA.length-(i+1)) (i+1) (by omega);rw[Z6m,Ae (by omega),show(i:Int)+1=((i+1:Nat):Int) by omega,h];rfl
theorem Q6k {aA:List Itm} {i:Nat}:Cf aA i=if smI (itA aA i)/\(itA aA i).blend≠0/\De aA i<aA.length/\smI (itA aA (De aA i))then(De aA i:Int)else-1:=by
 unfold Cf;by_cases h:smI (itA aA i)/\(itA aA i).blend≠0
 ·rw[aa h,Q3x];have hs:=Qo9 (aA.drop (i+1)) (i+1);rw[da]at hs;have e:(aA.drop (i+1)).getD (C3 (aA.drop (i+1)) (i+1)-(i+1)) it0=itA aA (De aA i):=by
   unfold itA;rw[List.getD_eq_getElem?_getD,List.getElem?_drop,List.getD_eq_getElem?_getD];have:i+1+(C3 (aA.drop (i+1)) (i+1)-(i+1))=De aA i:=by unfold De;omega
   rw[this]
  rw[e,da];have e2:C3 (aA.drop (i+1)) (i+1)=De aA i:=rfl;rw[e2]at hs⊢;by_cases c:De aA i<aA.length/\smI (itA aA (De aA i))
  ·rw[aa ⟨by omega,c.2⟩,aa ⟨h.1,h.2,c⟩]
  ·rw[ab (λg=>c ⟨by have:=g.1;omega,g.2⟩),ab (λg=>c g.2.2)]
 ·rw[ab h,ab (λg=>h ⟨g.1,g.2.1⟩)]
theorem Zwz {MS MN:Fn} {aA:List Itm} (hS:∀it,MS (Ah it)=some [B (decide (smI it))]) {i:Nat} (hi:i<aA.length) (hN:MN [.view Aj (aA.map Ah),I i]=some [I (De aA i)]):
  Qb8 MS MN [.view Aj (aA.map Ah),I i]=some [B (decide (0<=Cf aA i))]:=by
 have hr:=Fu hi;have hs:=hS (itA aA i);rw[Z6w,Q6k];simp only[Ah]at hs;have hin:(0:Int)<=(i:Int)/\(i:Int)<(aA.length:Int):=by omega
 simp only[go_sem,ag,ak,hr,hs,hN,aa hin];by_cases h1:smI (itA aA i)
 case neg=>rw[ab h1,ab (λg=>h1 g.1)];simp
 rw[aa h1];by_cases h2:(itA aA i).blend=0
 ·rw[ab (by simp[h2]),ab (λg=>g.2.1 h2)];simp
 rw[aa h2];by_cases h3:De aA i<aA.length
 ·have hr2:=Fu h3;have hs2:=hS (itA aA (De aA i));simp only[Ah]at hs2;have hin2:(0:Int)<=(De aA i:Int)/\(De aA i:Int)<(aA.length:Int):=by omega
  rw[aa (by omega),aa hin2];simp only[go_sem,hr2,hs2];by_cases h4:smI (itA aA (De aA i))
  ·rw[al h4,aa ⟨h1,h2,h3,h4⟩,al (by omega)]
  ·rw[am h4,ab (λg=>h4 g.2.2.2)];simp
 ·rw[ab (by omega),ab (λg=>h3 g.2.2.1)];simp
theorem Q3v {aA:List Itm} (hl:aA.length<=1000000) {i:Nat} (hi:i<aA.length):GU [.view Aj (aA.map Ah),I i]=some [B (decide (0<=Cf aA i))]:=
 Zwz To hi (Qp8 hl hi)
theorem Tb {aA:List Itm} {i:Nat} (h:0<=Cf aA i):Cf aA i=De aA i:=by
 rw[Q6k]at h⊢;split at h
 ·rename_i c;rw[aa c]
 ·omega
theorem Zh4 {a c b:Pt} {tol:Int} (ha:bd B24 a) (hc:bd B24 c) (hb:bd B24 b):(F0 a c b tol).length%2=1:=by
 unfold F0;by_cases h:Dn a c b tol=0
 ·rw[aa h];rfl
 ·rw[ab h];obtain⟨h1,h2,h3,h4,h5,-⟩:=YB h;obtain⟨m1,m2⟩:=Ti (AD a c) (AD c b);generalize Dn a c b tol=d at*;have k1:bd B24 (BR c a d):=KA hc ha h1 (by omega);have k2:bd B24 (BR c b d):=KA hc hb h2 (by rw[Uv b c];omega);have k3:=(Qc2 k1 hc k2).2;generalize LW (BR c a d) c (BR c b d)=n at*;rw[ag,List.length_range];rcases k3 with rfl|rfl|rfl|rfl|rfl|rfl<;>rfl
theorem Zeq {MC MF MM:Fn} {a b:Itm} {l:List Pt} (hbl:0<=a.blend/\a.blend<=1000) (hl:1<=l.length/\l.length<=65) (hodd:l.length%2=1)
  (c1:MM (Ah a)=some (ptR (Bh a))) (c2:MM (Ah b)=some (ptR (Bh b))) (f1:MF [I a.to.x,I a.to.y,I a.to.z]=some (ptR (Az a.to)))
  (hC:MC (ptR (Bh a)++ptR (Az a.to)++ptR (Bh b)++[I (a.blend*16)])=some [.view kPt (l.map ptR)]):
  Qem MC MF MM (Ah a++Ah b)=some [.view kPt ((l.take (l.length/2+1)).map ptR), .view kPt ((l.drop (l.length/2)).map ptR)]:=by
 simp only[Ah,ay,av]at c1 c2⊢;rw[Zpw];simp only[ptR,ay,av]at hC;simp only[go_sem,c1,c2,f1];rw[Ae (by omega)];simp only[hC,go_sem,ag];have e:wrap .i64 ((wrap .i64 ((l.length:Int)-1)).tdiv 2)=((l.length/2:Nat):Int):=by
  rw[Ae (x:=(l.length:Int)-1) (by omega),bc (by omega),Ae (by omega)];omega
 have e2:wrap .i64 (((l.length/2:Nat):Int)+1)=((l.length/2+1:Nat):Int):=by rw[Ae (by omega)];omega
 simp only[e,e2,ak];rw[aa (by omega),aa (by omega),List.map_take,List.map_drop]
theorem Zvi {a b:Itm} (h1:drawn a) (h2:drawn b):
  Rp (Ah a++Ah b)=some [.view kPt (((F0 (Bh a) (Az a.to) (Bh b) (a.blend*16)).take ((F0 (Bh a) (Az a.to) (Bh b) (a.blend*16)).length/2+1)).map ptR), .view kPt (((F0 (Bh a) (Az a.to) (Bh b) (a.blend*16)).drop ((F0 (Bh a) (Az a.to) (Bh b) (a.blend*16)).length/2)).map ptR)]:=
 have k1:=Lm h1.1.2.1 h1.1.2.2.1;have k2:=FA h1.1.2.2.1;have k3:=Lm h2.1.2.1 h2.1.2.2.1
 Zeq h1.2 (Q4u k1 k2 k3).2 (Zh4 k1 k2 k3) (Tq h1.1.2.1 h1.1.2.2.1) (Tq h2.1.2.1 h2.1.2.2.1) (Zwv (A0 h1.1.2.2.1 (by decide))) (Zsd k1 k2 k3 (by have:=h1.2;omega))
theorem Zxl {MM MN MS MC MSm MK:Fn} {aA:List Itm} {i:Nat} {frm:Int} (hi:i<aA.length) (hd:drawn (itA aA i)) (hf:Md aA i frm) (hall:∀k<aA.length,AF (itA aA k)->drawn (itA aA k))
  (hK:MK (Ah (itA aA i))=some [.view kPt ((Cu (itA aA i)).map ptR),B true]) (hM:MSm (Ah (itA aA i))=some [B (decide (smI (itA aA i)))])
  (hJ:∀{i k:Nat},i<aA.length->k<aA.length->drawn (itA aA i)->drawn (itA aA k)->MC (Ah (itA aA i)++Ah (itA aA k))=some [.view kPt (((HF aA i k).take ((HF aA i k).length/2+1)).map ptR), .view kPt (((HF aA i k).drop ((HF aA i k).length/2)).map ptR)])
  (hS:MS [.view Aj (aA.map Ah),I i]=some [B (decide (0<=Cf aA i))]) (hN:MN [.view Aj (aA.map Ah),I i]=some [I (De aA i)]) (hC:MM (Ah (itA aA i))=some (ptR (Bh (itA aA i)))):
  Qjt MM MN MS MC MSm MK [.view Aj (aA.map Ah),I i,I frm]=some [.view kPt ((CD aA i frm).map ptR)]:=by
 have r1:=Fu hi;obtain⟨hcl1,hcl2⟩:=Q5d (itA aA i);rw[Zl5];simp only[Ah,ay,av]at hK hM hC hJ;have hin:(0:Int)<=(i:Int)/\(i:Int)<(aA.length:Int):=by omega
 simp only[go_sem,ag,ak,r1,hK,hM,hC,hS,hN,av,aa hin];unfold CD;by_cases hs:smI (itA aA i)
 case neg=>rw[aa (by simp[hs]),ab hs]
 rw[ab (by simp[hs]),aa hs];have hk3:(itA aA i).kind≠3:=by have:=hs.1;omega
 have hcl3:(Cu (itA aA i)).length=2:=by unfold Cu;rw[ab hk3];rfl
 have w1:wrap .i64 (((Cu (itA aA i)).length:Int)-1)=1:=by rw[hcl3];rfl
 rw[w1,hcl3,aa (by omega),aa (by omega)];unfold Lt;rcases hf with rfl|⟨f,rfl,hf1,hf2⟩
 ·rw[ab (show¬(-1:Int)>=0 by omega)];unfold Jt;rw[ab (show¬(0:Int)<= -1 by omega)];by_cases hpos:0<=Cf aA i
  ·obtain⟨k,hk,hk1,hk2⟩:=Td hall hpos;have hnx:=Tb hpos;rw[hk]at hnx;have hnk:De aA i=k:=by omega
   obtain⟨j1,j2,j3⟩:=L2 (aA:=aA) (i:=i) (k:=k) hd hk2;have hj:=hJ hi hk1 hd hk2;have r2:=Fu hk1;have hin2:(0:Int)<=(k:Int)/\(k:Int)<(aA.length:Int):=by omega
   rw[aa hpos,aa hpos,hk,hnk,ak,aa hin2];simp only[go_sem,ak,r2,hj];rw[aa (by simp[TM];omega),aa (by simp;omega),aa (by simp;omega)];simp only[TM,bt,bf,dh]
  ·rw[ab hpos,ab hpos,aa (by simp[TM];omega),aa (by simp;omega),aa (by simp;omega)];simp only[TM,Q7j,bt,bf,dh]
 ·have hjf:=hJ hf1 hi hf2 hd;obtain⟨f1,f2,f3⟩:=L2 (aA:=aA) (i:=f) (k:=i) hf2 hd;have rf:=Fu hf1;have hinf:(0:Int)<=(f:Int)/\(f:Int)<(aA.length:Int):=by omega
  rw[aa (show(f:Int)>=0 by omega),aa hinf];unfold Jt;rw[aa (show(0:Int)<=(f:Int) by omega),ak];simp only[rf,go_sem,hjf,ak];by_cases hpos:0<=Cf aA i
  ·obtain⟨k,hk,hk1,hk2⟩:=Td hall hpos;have hnx:=Tb hpos;rw[hk]at hnx;have hnk:De aA i=k:=by omega
   obtain⟨j1,j2,j3⟩:=L2 (aA:=aA) (i:=i) (k:=k) hd hk2;have hj:=hJ hi hk1 hd hk2;have r2:=Fu hk1;have hin2:(0:Int)<=(k:Int)/\(k:Int)<(aA.length:Int):=by omega
   rw[aa hpos,aa hpos,hk,hnk,ak,aa hin2];simp only[go_sem,ak,r2,hj];rw[aa (by simp;omega),aa (by simp;omega),aa (by simp;omega)];simp only[bt,bf,dh]
  ·rw[ab hpos,ab hpos,aa (by simp;omega),aa (by simp;omega),aa (by simp;omega)];simp only[Q7j,bt,bf,dh]
theorem Zt6 {aA:List Itm} (hl:aA.length<=1000000) {i:Nat} {frm:Int} (hi:i<aA.length) (hd:drawn (itA aA i)) (hf:Md aA i frm) (hall:∀k<aA.length,AF (itA aA k)->drawn (itA aA k)):
  OE [.view Aj (aA.map Ah),I i,I frm]=some [.view kPt ((CD aA i frm).map ptR)]:=
 Zxl hi hd hf hall (Zk2 hd.1) (To _) (λh1 h2 h3 h4=>Zvi h3 h4) (Q3v hl hi) (Qp8 hl hi) (Tq hd.1.2.1 hd.1.2.2.1)
theorem Qt2 {MM MS:Fn} {l:List Itm} (hM:∀k:Int,MM [I k]=some [B (decide (1<=k/\k<=6))]) (hS:∀it,MS (Ah it)=some [B (decide (syI it))]) (hl:l.length<=1000000):∀(k i:Nat),i+k=l.length->
  (An (LQ MM MS) [.view Aj (l.map Ah),I l.length,I i]=some (1,[B (decide (HE (l.drop i)=1))]))\/(An (LQ MM MS) [.view Aj (l.map Ah),I l.length,I i]=some (2,[])/\HE (l.drop i)=2)
 |0,i,hi=>by
  right;refine⟨A5 ?_ (by simp),by rw[List.drop_of_length_le (by omega)];rfl⟩;rw[Q74];simp only[go_sem];rw[ab (by omega)]
 |k+1,i,hi=>by
  have hlt:i<l.length:=by omega
  have hr:=Fu hlt;rw[XG hlt];have hs:=hS (itA l i);have hm:=hM (itA l i).kind;have hst:LQ MM MS [.view Aj (l.map Ah),I l.length,I i]=if AF (itA l i)then some (1,[B (decide (syI (itA l i)))])else some (0,[.view Aj (l.map Ah),I l.length,I (i+1:Nat)]):=by
   rw[Q74];simp only[Ah]at hs;have hin:(0:Int)<=(i:Int)/\(i:Int)<(l.length:Int):=by omega
   simp only[go_sem,ag,ak,hr,hs,hm,aa hin];rw[aa (by omega),Ae (by omega)];by_cases h1:AF (itA l i)
   ·rw[aa (show 1<=(itA l i).kind/\(itA l i).kind<=6 from h1),aa h1]
   ·rw[ab (show¬(1<=(itA l i).kind/\(itA l i).kind<=6)from h1),ab h1];rfl
  unfold HE;by_cases h10:AF (itA l i)
  ·rw[aa h10]at hst⊢;left;rw[A5 hst (by simp)];by_cases hsm:syI (itA l i)
   ·rw[aa hsm,al hsm];rfl
   ·rw[ab hsm,am hsm];rfl
  ·rw[ab h10]at hst⊢;rw[Bn hst];exact Qt2 hM hS hl k (i+1) (by omega)
def Jx (aA:List Itm) (i:Nat):Prop:=(itA aA i).blend=0\/syI (itA aA i)\/HE (aA.drop (i+1))=1
theorem Z1f {MM MS:Fn} {aA:List Itm} (hM:∀k:Int,MM [I k]=some [B (decide (1<=k/\k<=6))]) (hS:∀it,MS (Ah it)=some [B (decide (syI it))]) (hl:aA.length<=1000000) {i:Nat} (hi:i<aA.length):
  XX MM MS (An (LQ MM MS)) [.view Aj (aA.map Ah),I i]=some [B (decide (Jx aA i))]:=by
 have hr:=Fu hi;have hs:=hS (itA aA i);have hL:=Qt2 hM hS (l:=aA.drop (i+1)) (by rw[da];omega) (aA.drop (i+1)).length 0 (by omega);rw[List.drop_zero]at hL;rw[Zv7];simp only[Ah]at hs;have hw:wrap .i64 ((i:Int)+1)=((i+1:Nat):Int):=by rw[Ae (by omega)];omega
 have hin:(0:Int)<=(i:Int)/\(i:Int)<(aA.length:Int):=by omega
 have hin3:(0:Int)<=((i+1:Nat):Int)/\((i+1:Nat):Int)<=(aA.length:Int):=by omega
 have hdl:(List.drop (i+1) (aA.map Ah)).length=(aA.drop (i+1)).length:=by rw[da,da,ag]
 generalize An (LQ MM MS)=N at*;simp only[go_sem,ag,ak,hr,hs,hw,aa hin,aa hin3,hdl];rw[<-List.map_drop];by_cases h2:(itA aA i).blend=0
 ·rw[aa h2,al (show Jx aA i from .inl h2)]
 ·rw[ab h2];by_cases h3:syI (itA aA i)
  ·rw[aa h3,al (show Jx aA i from .inr (.inl h3))]
  ·rw[ab h3];rcases hL with hL|⟨hL,hn⟩
   ·have hL':N [.view Aj ((aA.drop (i+1)).map Ah),I (aA.drop (i+1)).length,I 0]=some (1,[B (decide (HE (aA.drop (i+1))=1))]):=hL;simp only[hL',go_sem];by_cases h4:HE (aA.drop (i+1))=1
    ·rw[al h4,al (show Jx aA i from .inr (.inr h4))]
    ·rw[am h4,am (show¬Jx aA i from λh=>h.elim h2 λh=>h.elim h3 h4)]
   ·have hL':N [.view Aj ((aA.drop (i+1)).map Ah),I (aA.drop (i+1)).length,I 0]=some (2,[]):=hL;simp only[hL',go_sem];rw[am (show¬Jx aA i from λh=>h.elim h2 λh=>h.elim h3 λh=>by rw[hn]at h;cases h)];simp
theorem Zze {aA:List Itm} (hl:aA.length<=1000000) {i:Nat} (hi:i<aA.length):PT [.view Aj (aA.map Ah),I i]=some [B (decide (Jx aA i))]:=Z1f Ro Q8s hl hi
def KY (aA:List Itm) (i:Nat):Int:=if AF (itA aA i)then Sf aA i else Sl (itA aA i)
theorem Zu0 {ME MM:Fn} {aA:List Itm} {i:Nat} {aF:Rw} {aD:List Mrk} {st:Pt} {b:Bool} {len sp mid:Int} (hi:i<aA.length) (hml:aD.length<=1000000)
  (hM:MM [I (itA aA i).kind]=some [B (decide (AF (itA aA i)))]) (hE:ME [.view Aj (aA.map Ah),I i]=some [B (decide (Jx aA i))]):
  Qeo ME MM [.view Ag aF, .view AE (aD.map At), .view Aj (aA.map Ah),I i,I st.x,I st.y,I st.z,B b,I len,I sp,I mid]=
   some [.view Ag aF, .view AE ((aD++[(⟨len,KY aA i,i⟩:Mrk)]).map At),I st.x,I st.y,I st.z,B b,I len,I sp,I mid]:=by
 have hr:=Fu hi;have hin:(0:Int)<=(i:Int)/\(i:Int)<(aA.length:Int):=by omega
 have hb:(aD.length+1)*24<=140737488355328:=by omega
 have e:∀k:Int,aD.map At++[[I len,I k,I i]]=(aD++[(⟨len,k,i⟩:Mrk)]).map At:=λk=>by rw[bt];rfl
 rw[Z4p];simp only[go_sem,ag,ak,hr,aa hin,hM,hE,ao,bh,cd,aa hb];have fin:∀{k:Int},k=KY aA i->some [AC.view Ag aF, .view AE (aD.map At++[[I len,I k,I i]]),I st.x,I st.y,I st.z,B b,I len,I sp,I mid]=some [.view Ag aF, .view AE ((aD++[(⟨len,KY aA i,i⟩:Mrk)]).map At),I st.x,I st.y,I st.z,B b,I len,I sp,I mid]:=by
  intro k hk;rw[e,hk]
 unfold KY Sf Sl at fin⊢;by_cases c4:(itA aA i).kind=4
 ·rw[aa c4];have hm:AF (itA aA i):=⟨by omega,by omega⟩;exact fin (by rw[aa hm,aa c4])
 ·rw[ab c4];by_cases hm:AF (itA aA i)
  ·rw[aa hm];by_cases hx:Jx aA i
   ·rw[aa hx];refine fin ?_;rw[aa hm,ab c4];rcases hx with h|h|h
    ·rw[aa h]
    ·by_cases h2:(itA aA i).blend=0
     ·rw[aa h2]
     ·rw[ab h2,aa h]
    ·by_cases h2:(itA aA i).blend=0
     ·rw[aa h2]
     ·rw[ab h2];by_cases h3:syI (itA aA i)
      ·rw[aa h3]
      ·rw[ab h3,h]
   ·rw[ab hx,aa hm];refine fin ?_;rw[aa hm,ab c4,ab (λh=>hx (.inl h)),ab (λh=>hx (.inr (.inl h)))];have hns:∀l:List Itm,HE l=1\/HE l=2:=by
     intro l;induction l with
     |nil=>right;rfl
     |cons it l ih=>
      unfold HE;split
      ·split<;>simp
      ·exact ih
    rcases hns (aA.drop (i+1))with h|h
    ·exact absurd (.inr (.inr h)) hx
    ·rw[h]
  ·rw[ab hm,ab hm];by_cases c10:(itA aA i).kind=10
   ·rw[aa c10];exact fin (by rw[ab hm,aa c10])
   ·rw[ab c10];by_cases c13:(itA aA i).kind=13
    ·rw[aa c13];exact fin (by rw[ab hm,ab c10,aa c13])
    ·rw[ab c13];exact fin (by rw[ab hm,ab c10,ab c13])
theorem Z2o {aA:List Itm} (hl:aA.length<=1000000) {i:Nat} {aF:Rw} {aD:List Mrk} {st:Pt} {b:Bool} {len sp mid:Int} (hi:i<aA.length) (hml:aD.length<=1000000):
  Jc [.view Ag aF, .view AE (aD.map At), .view Aj (aA.map Ah),I i,I st.x,I st.y,I st.z,B b,I len,I sp,I mid]=
   some [.view Ag aF, .view AE ((aD++[(⟨len,KY aA i,i⟩:Mrk)]).map At),I st.x,I st.y,I st.z,B b,I len,I sp,I mid]:=
 Zu0 hi hml (Ro _) (Zze hl hi)
theorem Zcr (a:Pt) (aF:List Sgm):aF=[]\/∃l g,aF=l++[g]/\Ft a aF=g.to/\((aF.length:Int)>0)/\nth [] (aF.map Au) (aF.length-1)=Au g:=by
 rcases List.eq_nil_or_concat aF with h|⟨l,g,h⟩
 ·exact .inl h
 ·right;rw[List.concat_eq_append]at h;refine⟨l,g,h,?_,?_,?_⟩
  ·rw[h];exact Uk g a l
  ·rw[h];simp
  ·have hl:aF.length-1<aF.length:=by rw[h];simp
   rw[IU _ _ _ _ hl];congr 1;subst h;simp
theorem Ztl {ML:Fn} {aD:Rw} {q g st:Pt} {gl item feed lead len sp mid:Int}:
  S4 ML [.view Ag [], .view AE aD,I q.x,I q.y,I q.z,I g.x,I g.y,I g.z,I gl,I item,I feed,I lead,I st.x,I st.y,I st.z,B false,I len,I sp,I mid]=
   some [.view Ag [], .view AE aD,I q.x,I q.y,I q.z,B true,I len,I sp,I mid]:=by
 rw[Q7l];simp
theorem Zr6 {ML:Fn} {aF:List Sgm} {aD:Rw} {q g st at_:Pt} {gl item feed lead len sp mid:Int} (hat:Ft st aF=at_)
  (hL:ML [I at_.x,I at_.y,I at_.z,I q.x,I q.y,I q.z]=some [I (AD at_ q)]) (hl:0<=AD at_ q/\AD at_ q<=268435456) (hs:aF.length+1<=1048577) (hlen:0<=len/\len<=4000000000000000000):
  S4 ML [.view Ag (aF.map Au), .view AE aD,I q.x,I q.y,I q.z,I g.x,I g.y,I g.z,I gl,I item,I feed,I lead,I st.x,I st.y,I st.z,B true,I len,I sp,I mid]=
   some [.view Ag ((Bi item feed lead (aF,len,at_) q).1.map Au), .view AE aD,I st.x,I st.y,I st.z,B true,I (Bi item feed lead (aF,len,at_) q).2.1,I sp,I mid]:=by
 have hap:(aF.map Au++[[I q.x,I q.y,I q.z,I (AD at_ q),I item,I feed,I lead]])=(aF++[(⟨q,AD at_ q,item,feed,lead⟩:Sgm)]).map Au:=by rw[bt];rfl
 rw[Q7l];try dsimp only[go_sem]
 rcases Zcr st aF with h|⟨l,s,h1,h2,h3,h4⟩
 ·subst h;have hat':st=at_:=hat;subst hat';simp only[dh,cd];rw[A7 (by decide),Bool.not_true,an];by_cases c:q=st
  ·have c4:=Dt.1 c;rw[BH (by simp[c4.1,c4.2.1,c4.2.2]),show Bi item feed lead ([],len,st) q=([],len,st)from aa c];rfl
  ·rw[Bw,hL]
   ·simp only[af,H3,HA,gA,jA,wA,bA,av,bh,cd];rw[BH (by decide),show Bi item feed lead ([],len,st) q=([⟨q,AD st q,item,feed,lead⟩],len+AD st q,q)from ab c,Ae (by omega)];rfl
   ·have c2: ¬(q.x=st.x/\q.y=st.y/\q.z=st.z):=λg=>c (Dt.2 g);simp only[Bool.and_true,Bool.and_eq_false_iff,beq_eq_false_iff_ne];omega
 ·rw[hat]at h2;have w1:wrap .i64 ((aF.length:Int)-1)=((aF.length-1:Nat):Int):=by rw[Ae (by omega)];omega
  have hin:(0:Int)<=((aF.length-1:Nat):Int)/\((aF.length-1:Nat):Int)<(aF.length:Int):=by omega
  rw[h2]at hL hap⊢;clear h1;simp only[go_sem,ag,w1,ak,h4,aa h3,aa hin,hL,ao,bh,cd];rw[ab (by simp)];by_cases c:q=s.to
  ·have c4:=Dt.1 c;rw[aa ⟨c4.1,c4.2.1,c4.2.2,trivial⟩,show Bi item feed lead (aF,len,s.to) q=(aF,len,s.to)from aa c]
  ·rw[ab (λg=>c (Dt.2 ⟨g.1,g.2.1,g.2.2.1⟩)),aa (by omega),show Bi item feed lead (aF,len,s.to) q=(aF++[⟨q,AD s.to q,item,feed,lead⟩],len+AD s.to q,q)from ab c,Ae (by rw[<-h2]at*;omega),hap]
noncomputable def DW (it:Itm) (item feed lead:Int) (s:(List Sgm×Int×Pt)×Int) (q:Pt):(List Sgm×Int×Pt)×Int:=
 (Bi item feed lead s.1 q,if smI it/\q=Bh it then(Bi item feed lead s.1 q).2.1 else s.2)
theorem Yr {it:Itm} {item feed lead:Int}:∀(pts:List Pt) (s:(List Sgm×Int×Pt)×Int),(pts.foldl (DW it item feed lead) s).1=pts.foldl (Bi item feed lead) s.1
 |[],_=>rfl
 |q::pts,s=>by rw[List.foldl_cons,List.foldl_cons,Yr pts];rfl
theorem Q7d {MM MSm MA MP MG MR:Fn} {it:Itm} {pts:List Pt} {j:Nat} (hj:j<pts.length) (hpl:pts.length<=1000000) {aF segs':Rw} {aD:Rw} {g st st':Pt} {b b':Bool} {gl item feed lead len len' sp mid:Int}
  (hM:MSm (Ah it)=some [B (decide (smI it))]) (hC:MM (Ah it)=some (ptR (Bh it)))
  (hA:MA [.view Ag aF, .view AE aD,I pts[j].x,I pts[j].y,I pts[j].z,I g.x,I g.y,I g.z,I gl,I item,I feed,I lead,I st.x,I st.y,I st.z,B b,I len,I sp,I mid]=some [.view Ag segs', .view AE aD,I st'.x,I st'.y,I st'.z,B b',I len',I sp,I mid]):
  LY MM MSm MA MP MG MR (.view Ag aF:: .view AE aD:: .view kPt (pts.map ptR)::I pts.length::I j::(Ah it++[I g.x,I g.y,I g.z,I gl,I item,I feed,I lead,I st.x,I st.y,I st.z,B b,I len,I sp,I mid]))=
   some (0, .view Ag segs':: .view AE aD:: .view kPt (pts.map ptR)::I pts.length::I (j+1:Nat)::(Ah it++[I g.x,I g.y,I g.z,I gl,I item,I feed,I lead,I st'.x,I st'.y,I st'.z,B b',I len',I sp,I (if smI it/\pts[j]=Bh it then len' else mid)])):=by
 have hr:nth [] (pts.map ptR) j=ptR pts[j]:=IU _ _ _ _ hj;have hin:(0:Int)<=(j:Int)/\(j:Int)<(pts.length:Int):=by omega
 have hw:wrap .i64 ((j:Int)+1)=((j+1:Nat):Int):=by rw[Ae (by omega)];omega
 generalize pts[j]=q at*;simp only[Ah]at hM hC;simp only[Ah,ay,av];rw[Qt5];simp only[go_sem,ag,ak,hr,aa hin,hA,hM,hC,hw];rw[aa (by omega)];by_cases c:smI it
 ·rw[aa c];by_cases c2:q=Bh it
  ·have c3:=Dt.1 c2;rw[aa ⟨c3.1,c3.2.1,c3.2.2,trivial⟩,aa ⟨c,c2⟩]
  ·rw[ab (λh=>c2 (Dt.2 ⟨h.1,h.2.1,h.2.2.1⟩)),ab (λh=>c2 h.2)]
 ·rw[ab c,ab (λh=>c h.1)]
theorem Qd4 {MM MSm MA MP MG MR:Fn} {it:Itm} {pts:List Pt} (hpl:pts.length<=1000000) {aD:Rw} {g st:Pt} {gl item feed lead sp:Int} (hst:bd 67108864 st) (hpts:∀p∈pts,bd 67108864 p)
  (hM:MSm (Ah it)=some [B (decide (smI it))]) (hC:MM (Ah it)=some (ptR (Bh it)))
  (hA : ∀ {aF : List Sgm} {q at_ : Pt} {len mid : Int}, Ft st aF = at_ -> bd 67108864 at_ -> bd 67108864 q -> aF.length + 1 <= 1048577 -> (0 <= len /\ len <= 4000000000000000000) ->
   MA [.view Ag (aF.map Au), .view AE aD,I q.x,I q.y,I q.z,I g.x,I g.y,I g.z,I gl,I item,I feed,I lead,I st.x,I st.y,I st.z,B true,I len,I sp,I mid]=
   some [.view Ag ((Bi item feed lead (aF,len,at_) q).1.map Au), .view AE aD,I st.x,I st.y,I st.z,B true,I (Bi item feed lead (aF,len,at_) q).2.1,I sp,I mid]):
  ∀(k j:Nat) (s:List Sgm×Int×Pt) (mid:Int),j+k=pts.length->s.1.length+k<=1048576->0<=s.2.1->s.2.1+k*268435456<=4000000000000000000->bd 67108864 s.2.2->Ft st s.1=s.2.2->
  An (LY MM MSm MA MP MG MR) (.view Ag (s.1.map Au):: .view AE aD:: .view kPt (pts.map ptR)::I pts.length::I j::(Ah it++[I g.x,I g.y,I g.z,I gl,I item,I feed,I lead,I st.x,I st.y,I st.z,B true,I s.2.1,I sp,I mid]))=
   some (1,[.view Ag (((pts.drop j).foldl (DW it item feed lead) (s,mid)).1.1.map Au), .view AE aD,I st.x,I st.y,I st.z,B true,I ((pts.drop j).foldl (DW it item feed lead) (s,mid)).1.2.1,I sp,I ((pts.drop j).foldl (DW it item feed lead) (s,mid)).2])
 |0,j,s,mid,hj,_,_,_,_,_=>by
  refine A5 ?_ (by simp);simp only[Ah,ay,av];rw[Qt5,A7 (by omega),List.drop_of_length_le (by omega)];rfl
 |k+1,j,s,mid,hj,hs,hl0,hl1,hat,he=>by
  have hlt:j<pts.length:=by omega
  have hq:=hpts _ (bq hlt);obtain⟨aF,len,at_⟩:=s;simp only at hs hl0 hl1 hat he;have ha:=hA (q:=pts[j]) (mid:=mid) he hat hq (by omega) (by constructor<;>omega);have hstep:=Q7d (MP:=MP) (MG:=MG) (MR:=MR) hlt hpl hM hC ha;have hinv:Ft st (Bi item feed lead (aF,len,at_) pts[j]).1=(Bi item feed lead (aF,len,at_) pts[j]).2.2/\bd 67108864 (Bi item feed lead (aF,len,at_) pts[j]).2.2/\
    (Bi item feed lead (aF,len,at_) pts[j]).1.length<=aF.length+1/\0<=(Bi item feed lead (aF,len,at_) pts[j]).2.1/\(Bi item feed lead (aF,len,at_) pts[j]).2.1<=len+268435456:=by
   have hl:=IH hat hq;unfold Bi;split
   ·exact⟨he,hat,by simp,hl0,by simp only;omega⟩
   ·refine⟨Uk _ _ _,hq,by simp,?_,?_⟩<;>simp only<;>omega
  rw[Bn hstep];obtain⟨i1,i2,i3,i4,i5⟩:=hinv;have:=Qd4 (MP:=MP) (MG:=MG) (MR:=MR) hpl hst hpts hM hC hA k (j+1) (Bi item feed lead (aF,len,at_) pts[j]) (if smI it/\pts[j]=Bh it then(Bi item feed lead (aF,len,at_) pts[j]).2.1 else mid) (by omega) (by omega) i4 (by omega) i2 i1;rw[this,Mw pts j hlt,List.foldl_cons];rfl
theorem Zr8 {it:Itm} (h:DB it):∃l,Cu it=Az it.fr::l:=by
 unfold Cu;by_cases h3:it.kind=3
 ·rw[aa h3];unfold D8;rw[bf];refine⟨(DM it.dir 16 it.full (ED it it.fr) (ED it it.to)).map (IW it),?_⟩;congr 1;obtain⟨hp,-,hc,-⟩:=h.2.2.2 h3;obtain⟨f1,f2,f3⟩:=RR it.aG it.ce;unfold IW ED;simp only[f1,f2];unfold dU dW;have e1:plU it.aG it.ce*16+(plU it.aG it.fr-plU it.aG it.ce)*16=plU it.aG it.fr*16:=by omega
  have e2:plW it.aG it.ce*16+(plW it.aG it.fr-plW it.aG it.ce)*16=plW it.aG it.fr*16:=by omega
  rw[e1,e2];unfold spP plU plW plH Az;rcases hp with hp|hp|hp<;>rw[hp]<;>rfl
 ·rw[ab h3];exact⟨_,rfl⟩
theorem Zz4 {aA:List Itm} {i:Nat} (h:DB (itA aA i)):∃l,CD aA i (-1)=Az (itA aA i).fr::l:=by
 obtain⟨l,hl⟩:=Zr8 h;unfold CD;split
 ·unfold Jt;rw[ab (by omega),hl];exact⟨_,rfl⟩
 ·exact⟨l,hl⟩
noncomputable def Fl (aA:List Itm) (i:Nat) (s:BSt) (mid:Int):(List Sgm×Int×Pt)×Int:=
 (CD aA i s.frm).foldl (DW (itA aA i) i (HV (itA aA i) s.speed) (O7 (itA aA i))) ((s.aF,s.len,if s.begun=true then s.at_ else Az (itA aA i).fr),mid)
theorem Qv4 (aA:List Itm) (i:Nat) (s:BSt) (mid:Int):(Fl aA i s mid).1=FW aA i s:=by
 unfold Fl FW;rw[Yr]
theorem Zyg {MM MSm MA MP MG MR:Fn} {aA:List Itm} {i:Nat} {s:BSt} {aD:Rw} {mid:Int} (hi:i<aA.length) (hlen:aA.length<=15) (hv:DB (itA aA i)) (hok:BOK aA i s) (hinv:BInv s)
  (hpts:(∀p∈CD aA i s.frm,bd 67108864 p)/\(CD aA i s.frm).length<=65537)
  (hfeed:syI (itA aA i)->0<=(itA aA i).feed/\(itA aA i).feed<=60000000) (hfrm:s.begun=false->s.frm= -1)
  (hM:MSm (Ah (itA aA i))=some [B (decide (smI (itA aA i)))]) (hC:MM (Ah (itA aA i))=some (ptR (Bh (itA aA i))))
  (hG:MG (Ah (itA aA i))=some [B (decide (syI (itA aA i)))]) (hR:MR (Ah (itA aA i)++[I s.speed])=some [I (HV (itA aA i) s.speed)])
  (hP:MP [.view Aj (aA.map Ah),I i,I s.frm]=some [.view kPt ((CD aA i s.frm).map ptR)])
  (hA : ∀ {aF : List Sgm} {q g st at_ : Pt} {gl item feed lead len mid : Int}, Ft st aF = at_ -> bd 67108864 at_ -> bd 67108864 q -> aF.length + 1 <= 1048577 -> (0 <= len /\ len <= 4000000000000000000) ->
   MA [.view Ag (aF.map Au), .view AE aD,I q.x,I q.y,I q.z,I g.x,I g.y,I g.z,I gl,I item,I feed,I lead,I st.x,I st.y,I st.z,B true,I len,I s.speed,I mid]=
   some [.view Ag ((Bi item feed lead (aF,len,at_) q).1.map Au), .view AE aD,I st.x,I st.y,I st.z,B true,I (Bi item feed lead (aF,len,at_) q).2.1,I s.speed,I mid])
  (hA0 : ∀ {q g st : Pt} {gl item feed lead len mid : Int}, MA [.view Ag [], .view AE aD, I q.x, I q.y, I q.z, I g.x, I g.y, I g.z, I gl, I item, I feed, I lead, I st.x, I st.y, I st.z, B false, I len, I s.speed, I mid] =
   some [.view Ag [], .view AE aD,I q.x,I q.y,I q.z,B true,I len,I s.speed,I mid]):
  Qdu MM MSm MA MP MG MR (An (LY MM MSm MA MP MG MR)) [.view Ag (s.aF.map Au), .view AE aD, .view Aj (aA.map Ah),I i,I s.frm,I s.start.x,I s.start.y,I s.start.z,B s.begun,I s.len,I s.speed,I mid]=
   some [.view Ag ((Fl aA i s mid).1.1.map Au), .view AE aD,B true,I (if s.begun=true then s.start else Az (itA aA i).fr).x,I (if s.begun=true then s.start else Az (itA aA i).fr).y,I (if s.begun=true then s.start else Az (itA aA i).fr).z,B true,I (Fl aA i s mid).1.2.1,I s.speed,I (Fl aA i s mid).2]:=by
 have hr:=Fu hi;have hin:(0:Int)<=(i:Int)/\(i:Int)<(aA.length:Int):=by omega
 have hsg:=hok.aF;have hln:=hok.len
 have hloop:∀lead feed:Int,An (LY MM MSm MA MP MG MR) (.view Ag (s.aF.map Au):: .view AE aD:: .view kPt ((CD aA i s.frm).map ptR)::I (CD aA i s.frm).length::I (0:Nat)::(Ah (itA aA i)++[I (⟨0,0,0⟩:Pt).x,I (⟨0,0,0⟩:Pt).y,I (⟨0,0,0⟩:Pt).z,I 0,I i,I feed,I lead,I s.start.x,I s.start.y,I s.start.z,B s.begun,I s.len,I s.speed,I mid]))=
   some (1, [.view Ag (((CD aA i s.frm).foldl (DW (itA aA i) i feed lead) ((s.aF, s.len, if s.begun = true then s.at_ else Az (itA aA i).fr), mid)).1.1.map Au), .view AE aD, I (if s.begun = true then s.start else Az (itA aA i).fr).x, I (if s.begun = true then s.start else Az (itA aA i).fr).y, I (if s.begun = true then s.start else Az (itA aA i).fr).z, B true,
    I ((CD aA i s.frm).foldl (DW (itA aA i) i feed lead) ((s.aF,s.len,if s.begun=true then s.at_ else Az (itA aA i).fr),mid)).1.2.1,I s.speed,I ((CD aA i s.frm).foldl (DW (itA aA i) i feed lead) ((s.aF,s.len,if s.begun=true then s.at_ else Az (itA aA i).fr),mid)).2]):=by
  intro lead feed;by_cases hb:s.begun=true
  ·obtain⟨g1,g2⟩:=hinv.begun hb;obtain⟨g3,g4,g5⟩:=g2;rw[aa hb,aa hb,hb];have:=Qd4 (MP:=MP) (MG:=MG) (MR:=MR) (g:=⟨0,0,0⟩) (gl:=0) (item:=i) (feed:=feed) (lead:=lead) (by omega) g1 hpts.1 hM hC (λh1 h2 h3 h4 h5=>hA h1 h2 h3 h4 h5) (CD aA i s.frm).length 0 (s.aF,s.len,s.at_) mid (by omega) (by simp only;omega) hln.1 (by simp only;omega) (hok.at_ hb) g4;rw[List.drop_zero]at this;exact this
  ·have hb2:s.begun=false:=by simpa using hb
   obtain⟨e1,e2,e3⟩:=hinv.empty hb2;obtain⟨l,hl⟩:=Zz4 hv;have hfr:bd 67108864 (Az (itA aA i).fr):=A0 (FA hv.2.1) (by decide);rw[ab hb,ab hb,hb2,e1];rw[hfrm hb2,hl]at hpts⊢;have h0:0<(Az (itA aA i).fr::l).length:=by simp
   have hstep:=Q7d (MP:=MP) (MG:=MG) (MR:=MR) h0 (by omega) hM hC (hA0 (q:=Az (itA aA i).fr) (g:=⟨0,0,0⟩) (st:=s.start) (gl:=0) (item:=i) (feed:=feed) (lead:=lead) (len:=s.len) (mid:=mid));rw[dh,Bn hstep];have:=Qd4 (MP:=MP) (MG:=MG) (MR:=MR) (g:=⟨0,0,0⟩) (gl:=0) (item:=i) (feed:=feed) (lead:=lead) (by omega) hfr hpts.1 hM hC (λh1 h2 h3 h4 h5=>hA h1 h2 h3 h4 h5) l.length 1 ([],s.len,Az (itA aA i).fr) (if smI (itA aA i)/\Az (itA aA i).fr=Bh (itA aA i)then s.len else mid) (by simp;omega) (by simp only[cd];simp at hpts;omega) hln.1 (by simp only;simp at hpts;omega) hfr rfl;rw[List.drop_succ_cons,List.drop_zero]at this;rw[List.foldl_cons];have e4:DW (itA aA i) i feed lead (([],s.len,Az (itA aA i).fr),mid) (Az (itA aA i).fr)=(([],s.len,Az (itA aA i).fr),if smI (itA aA i)/\Az (itA aA i).fr=Bh (itA aA i)then s.len else mid):=by
    unfold DW;rw[show Bi i feed lead ([],s.len,Az (itA aA i).fr) (Az (itA aA i).fr)=([],s.len,Az (itA aA i).fr)from aa rfl]
   rw[e4];exact this
 have hcount:∀lead feed:Int,((CD aA i s.frm).foldl (DW (itA aA i) i feed lead) ((s.aF,s.len,if s.begun=true then s.at_ else Az (itA aA i).fr),mid)).1.1.length<=1048576:=by
  intro lead feed;rw[Yr];have hat:bd 67108864 (if s.begun=true then s.at_ else Az (itA aA i).fr):=by
   split
   ·rename_i hb;exact hok.at_ hb
   ·exact A0 (FA hv.2.1) (by decide)
  have:=(Tu (item:=i) (feed:=feed) (lead:=lead) (CD aA i s.frm) (s.aF,s.len,if s.begun=true then s.at_ else Az (itA aA i).fr) hpts.1 hat hln.1).1;simp only at this⊢;omega
 generalize An (LY MM MSm MA MP MG MR)=N at*;have hlp:=λlead feed=>hloop lead feed;simp only[Ah,ay,av]at hG hR hlp;rw[Zkc];simp only[go_sem,ag,ak,hr,aa hin,hG,hR,hP];have h00:((0:Nat):Int)=0:=rfl;simp only[h00]at hlp;unfold Fl O7;by_cases hs:syI (itA aA i)
 ·have hf:=hfeed hs;rw[aa hs];simp only[aa hs];rw[Ae (by omega)];simp only[hlp,go_sem,ag];rw[al (show((_:Nat):Int)<=1048576 from by have:=hcount (mn ((itA aA i).feed*16) 16777216) (HV (itA aA i) s.speed);omega)]
 ·rw[ab hs];simp only[ab hs];simp only[hlp,go_sem,ag];rw[al (show((_:Nat):Int)<=1048576 from by have:=hcount 0 (HV (itA aA i) s.speed);omega)]
theorem Qkt {MK MV MN MS MM MC:Fn} {aA:List Itm} (hM:∀k:Int,MM [I k]=some [B (decide (1<=k/\k<=6))]) (hW:∀it,MC (Ah it)=some [I (if Ch it then 1 else 0)]) (hl:aA.length<=1000000):
  ∀(k i:Nat) (last:Int),i+k=aA.length->(last= -1\/(0<=last/\last<i))->
  (An (Rg MK MV MN MS MM MC) [.view Ag [], .view AE [], .view Aj (aA.map Ah),I last, .view Aj (aA.map Ah),I aA.length,I i,I 0,I 0,I 0,B false,I 0,I 0,I 0]=some (1,[.view Ag [], .view AE [],I (Hk aA k i last),I 0,I 0,I 0,B false,I 0,I 0,I 0])/\Hk aA k i last≠0)\/
  (An (Rg MK MV MN MS MM MC) [.view Ag [], .view AE [], .view Aj (aA.map Ah),I last, .view Aj (aA.map Ah),I aA.length,I i,I 0,I 0,I 0,B false,I 0,I 0,I 0]=some (2,[.view Ag [], .view AE [], .view Aj (aA.map Ah),I 0,I 0,I 0,B false,I 0,I 0,I 0])/\Hk aA k i last=0)
 |0,i,last,hi,_=>by
  right;refine⟨A5 ?_ (by simp),rfl⟩;rw[Q62,A7 (by omega)]
 |k+1,i,last,hi,hla=>by
  have hlt:i<aA.length:=by omega
  have hr:=Fu hlt;have hw:=hW (itA aA i);have hm:=hM (itA aA i).kind;have hin:(0:Int)<=(i:Int)/\(i:Int)<(aA.length:Int):=by omega
  have hst:Rg MK MV MN MS MM MC [.view Ag [], .view AE [], .view Aj (aA.map Ah),I last, .view Aj (aA.map Ah),I aA.length,I i,I 0,I 0,I 0,B false,I 0,I 0,I 0]=
    if Ch (itA aA i)then some (1,[.view Ag [], .view AE [],I 1,I 0,I 0,I 0,B false,I 0,I 0,I 0])else if AF (itA aA i)then(if 0<=last/\(itA aA last.toNat).to≠(itA aA i).fr then some (1,[.view Ag [], .view AE [],I 13,I 0,I 0,I 0,B false,I 0,I 0,I 0])else some (0,[.view Ag [], .view AE [], .view Aj (aA.map Ah),I i, .view Aj (aA.map Ah),I aA.length,I (i+1:Nat),I 0,I 0,I 0,B false,I 0,I 0,I 0]))
    else some (0,[.view Ag [], .view AE [], .view Aj (aA.map Ah),I last, .view Aj (aA.map Ah),I aA.length,I (i+1:Nat),I 0,I 0,I 0,B false,I 0,I 0,I 0]):=by
   rw[Q62];simp only[Ah]at hw;simp only[go_sem,ag,ak,hr,hw,hm,aa hin];rw[aa (by omega),Ae (by omega)];by_cases c1:Ch (itA aA i)
   ·simp only[aa c1];rw[aa (by omega)]
   simp only[ab c1];rw[ab (by simp)];by_cases c2:AF (itA aA i)
   ·rw[ab (λh=>h c2),aa c2];rcases hla with rfl|⟨h1,h2⟩
    ·rw[ab (show¬(-1:Int)>=0 by omega),ab (λh=>by omega)];rfl
    ·obtain⟨L,rfl⟩:=bp h1;have hL:L<aA.length:=by omega
     have hin2:(0:Int)<=(L:Int)/\(L:Int)<(aA.length:Int):=by omega
     have hr2:=Fu hL;simp only[ak,hr2,go_sem,aa hin2];rw[aa (by omega)];by_cases c3:(itA aA L).to=(itA aA i).fr
     ·have c4:=Dt.1 c3;rw[ab (λh=>h ⟨c4.1,c4.2.1,c4.2.2,trivial⟩),ab (λh=>h.2 c3)];rfl
     ·rw[aa (λh=>c3 (Dt.2 ⟨h.1,h.2.1,h.2.2.1⟩)),aa ⟨h1,c3⟩]
   ·rw[aa (show¬(1<=(itA aA i).kind/\(itA aA i).kind<=6)from c2),ab c2];rfl
  unfold Hk;by_cases c1:Ch (itA aA i)
  ·rw[aa c1]at hst⊢;exact .inl ⟨A5 hst (by simp),by simp⟩
  ·rw[ab c1]at hst⊢;by_cases c2:AF (itA aA i)
   ·rw[aa c2]at hst⊢;by_cases c3:0<=last/\(itA aA last.toNat).to≠(itA aA i).fr
    ·rw[aa c3]at hst⊢;exact .inl ⟨A5 hst (by simp),by simp⟩
    ·rw[ab c3]at hst⊢;rw[Bn hst];exact Qkt hM hW hl k (i+1) i (by omega) (.inr (by omega))
   ·rw[ab c2]at hst⊢;rw[Bn hst];exact Qkt hM hW hl k (i+1) last (by omega) (by omega)
noncomputable def Ge (aA:List Itm):Nat->Int
 |0=> -1
 |i+1=>if AF (itA aA i)then i else Ge aA i
theorem Q5o (aA:List Itm):∀i,Ge aA i= -1\/∃L:Nat,Ge aA i=L/\L<i/\AF (itA aA L)/\∀j,L<j->j<i-> ¬AF (itA aA j)
 |0=> .inl rfl
 |i+1=>by
  unfold Ge;by_cases c:AF (itA aA i)
  ·rw[aa c];exact .inr ⟨i,rfl,by omega,c,λj h1 h2=>by omega⟩
  ·rw[ab c];rcases Q5o aA i with h|⟨L,h1,h2,h3,h4⟩
   ·exact .inl h
   ·refine .inr ⟨L,h1,by omega,h3,λj g1 g2=> ?_⟩;by_cases e:j=i
    ·rw[e];exact c
    ·exact h4 j g1 (by omega)
theorem Q7v (aA:List Itm):∀i,(Ay aA i).frm=if 0<=Ge aA i/\0<=Cf aA (Ge aA i).toNat then Ge aA i else-1
 |0=>by rw[Ay,Ge,ab (by omega)]
 |i+1=>by
  rw[Ay,Ge];unfold FV;by_cases c:AF (itA aA i)
  ·rw[aa c,aa c];simp only[ak];by_cases c2:0<=Cf aA i
   ·rw[aa c2,aa ⟨by omega,c2⟩]
   ·rw[ab c2,ab (λh=>c2 h.2)]
  ·rw[ab c,ab c];exact Q7v aA i
theorem Zv0 {aA:List Itm} {i L:Nat} (hL:L<i) (hi:i<aA.length) (hm:AF (itA aA i)) (hno:∀j,L<j->j<i-> ¬AF (itA aA j)) (hs:0<=Cf aA L):De aA L=i:=by
 have h1:=Tb hs;rcases Yq aA L with h|⟨-,-,k,k1,k2,k3,k4,k5⟩
 ·omega
 ·have hk:De aA L=k:=by omega
  rw[hk];rcases Nat.lt_trichotomy k i with h|h|h
  ·exact absurd ⟨by have:=k4.1;omega,by have:=k4.1;omega⟩ (hno k k2 h)
  ·exact h
  ·have:=k5 i hL h;have:=hm.2;omega
noncomputable def CX (aA:List Itm):Nat->Int
 |0=>0
 |i+1=>if AF (itA aA i)then(Fl aA i (Ay aA i) (CX aA i)).2 else CX aA i
theorem Q6q (aA:List Itm):∀i,(Ay aA i).begun=false->(Ay aA i).frm= -1
 |0,_=>by rw[Ay]
 |i+1,h=>by
  rw[Ay]at h⊢;unfold FV at h⊢;by_cases c:AF (itA aA i)
  ·rw[aa c]at h;cases h
  ·rw[ab c]at h⊢;exact Q6q aA i h
noncomputable abbrev pbR (aA:List Itm) (i:Nat):List AC:=
 [.view Ag ((Ay aA i).aF.map Au), .view AE ((Ay aA i).aD.map At), .view Aj (aA.map Ah),I (Ge aA i), .view Aj (aA.map Ah),I aA.length,I i,I (Ay aA i).start.x,I (Ay aA i).start.y,I (Ay aA i).start.z,B (Ay aA i).begun,I (Ay aA i).len,I (Ay aA i).speed,I (CX aA i)]
theorem Zce {MK MV MN MS MM MC:Fn} {N6:Lp} {aA:List Itm} {i:Nat} (hi:i<aA.length) (hlen:aA.length<=15) (hmk:(Ay aA i).aD.length=i)
  (hM:∀k:Int,MM [I k]=some [B (decide (1<=k/\k<=6))]) (hS:∀L:Nat,L<aA.length->MS [.view Aj (aA.map Ah),I L]=some [B (decide (0<=Cf aA L))]) (hN:∀L:Nat,L<aA.length->MN [.view Aj (aA.map Ah),I L]=some [I (De aA L)])
  (hV : AF (itA aA i) -> MV [.view Ag ((Ay aA i).aF.map Au), .view AE ((Ay aA i).aD.map At), .view Aj (aA.map Ah), I i, I (Ay aA i).frm, I (Ay aA i).start.x, I (Ay aA i).start.y, I (Ay aA i).start.z, B (Ay aA i).begun, I (Ay aA i).len, I (Ay aA i).speed, I (CX aA i)] =
   some [.view Ag ((Fl aA i (Ay aA i) (CX aA i)).1.1.map Au), .view AE ((Ay aA i).aD.map At),B true,I (if(Ay aA i).begun=true then(Ay aA i).start else Az (itA aA i).fr).x,I (if(Ay aA i).begun=true then(Ay aA i).start else Az (itA aA i).fr).y,I (if(Ay aA i).begun=true then(Ay aA i).start else Az (itA aA i).fr).z,B true,
    I (Fl aA i (Ay aA i) (CX aA i)).1.2.1,I (Ay aA i).speed,I (Fl aA i (Ay aA i) (CX aA i)).2])
  (hK : ∀ {aF : Rw} {st : Pt} {b : Bool} {len sp mid : Int}, MK [.view Ag aF, .view AE ((Ay aA i).aD.map At), .view Aj (aA.map Ah), I i, I st.x, I st.y, I st.z, B b, I len, I sp, I mid] =
   some [.view Ag aF, .view AE (((Ay aA i).aD++[(⟨len,KY aA i,i⟩:Mrk)]).map At),I st.x,I st.y,I st.z,B b,I len,I sp,I mid]):
  Qw MK MV MN MS MM MC N6 (pbR aA i)=some (0,pbR aA (i+1)):=by
 have hr:=Fu hi;have hin:(0:Int)<=(i:Int)/\(i:Int)<(aA.length:Int):=by omega
 have hw:wrap .i64 ((i:Int)+1)=((i+1:Nat):Int):=by rw[Ae (by omega)];omega
 have hf:=Q7v aA i;have hls:=Q5o aA i;have hfst:=Qv4 aA i (Ay aA i) (CX aA i);have e1:Ge aA (i+1)=if AF (itA aA i)then(i:Int)else Ge aA i:=rfl;have e2:CX aA (i+1)=if AF (itA aA i)then(Fl aA i (Ay aA i) (CX aA i)).2 else CX aA i:=rfl;have e3:Ay aA (i+1)=FV aA i (Ay aA i):=rfl;unfold pbR;rw[e1,e2,e3];generalize Ay aA i=s at*;generalize Ge aA i=last at*;generalize hmi:CX aA i=mid at*;unfold FV;rw[Qr8];by_cases hm:AF (itA aA i)
 ·have h8: ¬(itA aA i).kind=8:=λh=>by have:=hm.2;omega
  have hV:=hV hm;have hmk2:KY aA i=Sf aA i:=aa hm;rw[aa hm,aa hm,aa hm];rw[hfst]at hV;have hM2:MM [I (itA aA i).kind]=some [B true]:=by rw[hM,al (show 1<=(itA aA i).kind/\(itA aA i).kind<=6 from hm)]
  simp only[go_sem,ag,ak,hr,aa hin,hM2];rw[aa (by omega),ab h8];have hbef:∀{x:Option (Nat×List AC)} {frm:Int},s.frm=frm->(MV [.view Ag (s.aF.map Au), .view AE (s.aD.map At), .view Aj (aA.map Ah),I i,I frm,I s.start.x,I s.start.y,I s.start.z,B s.begun,I s.len,I s.speed,I mid])=
    some [.view Ag ((FW aA i s).1.map Au), .view AE (s.aD.map At),B true,I (if s.begun=true then s.start else Az (itA aA i).fr).x,I (if s.begun=true then s.start else Az (itA aA i).fr).y,I (if s.begun=true then s.start else Az (itA aA i).fr).z,B true,I (FW aA i s).2.1,I s.speed,I (Fl aA i s mid).2]:=by
   intro x frm h;rw[<-h];exact hV
  rcases hls with hls|⟨L,h1,h2,h3,h4⟩
  ·rw[hls];rw[hls,ab (by omega)]at hf;rw[ab (show¬(-1:Int)>=0 by omega)];have hv:=hbef (x:=none) hf;simp only[hv,go_sem,hK,hw,hmk2];simp
  ·rw[h1]at hf⊢;rw[ak]at hf;have hs:=hS L (by omega);have hn:=hN L (by omega);rw[aa (show(L:Int)>=0 by omega)];by_cases c:0<=Cf aA L
   ·have hnx:=Zv0 h2 hi hm h4 c;rw[aa ⟨by omega,c⟩]at hf;rw[hnx]at hn;rw[al c]at hs;have hv:=hbef (x:=none) hf;simp only[hs,hn,go_sem];simp only[hv,go_sem,hK,hw,hmk2];simp
   ·rw[ab (λh=>c h.2)]at hf;rw[am c]at hs;have hv:=hbef (x:=none) hf;simp only[hs,go_sem];simp only[hv,go_sem,hK,hw,hmk2];simp
 ·have hmk2:KY aA i=Sl (itA aA i):=ab hm;rw[ab hm,ab hm,ab hm];have hM2:MM [I (itA aA i).kind]=some [B false]:=by rw[hM,am (show¬(1<=(itA aA i).kind/\(itA aA i).kind<=6)from hm)]
  unfold PJ;simp only[go_sem,ag,ak,hr,aa hin,hM2,hK,hw,hmk2];rw[aa (by omega)];by_cases h8:(itA aA i).kind=8
  ·by_cases h3:(itA aA i).n=3
   ·simp[h8,h3]
   ·by_cases h4:(itA aA i).n=4
    ·simp[h8,h4]
    ·simp[h8,h3,h4]
  ·simp[h8]
end Go.Bm
