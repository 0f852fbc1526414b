/- laid together -/
import Derived.Test.YtommijghjlikkaaGreatPrJe
import Derived.Test.YtommijghjlikkaaGreatMy1
import Derived.Test.YtommijghjlikkaaGreatMx3
import Derived.Test.YtommijghjlikkaaGreatPrKe
import Derived.Test.YtommijghjlikkaaGreatPrCw
import Derived.Test.YtommijghjlikkaaGreatPrTc
set_option linter.unusedVariables false
set_option linter.unusedSimpArgs false
set_option maxRecDepth 100000
noncomputable section
open Go.IntKind (wrap)
namespace Go.Bm
def C2 (K:Kf) (c:Cv):Int×Cv:=
 if c.g0=2 then(6,stand c)else if c.aH≠0 then(c.aH,c)
 else if c.aG=true/\c.aL=true then(8,{c with aH:=8})else if c.on=true then Cc K c else(0,c)
theorem Qet (K:Kf) (c:Cv):(Il K c).1≠0:=by
 unfold Il
 (repeat' split)<;>simp
theorem Zqf (K:Kf) (c:Cv):(Cc K c).1≠0:=Qet K (C8 c)
abbrev Ga (K:Kf) (frm i:Int) (c:Cv):List AC:=I frm::I 5::I i::(EX++(EX++Ac K c))
abbrev Qoo (K:Kf) (frm mode:Int) (c:Cv):List AC:=I frm::(EX++([.view kPt [], .view Aa [],I mode,I 0,I 0,I 0,I 0,I 0,I 0]++Ac K c))
theorem Z21 {N3:Lp} {ME MR MG' MB MP MO MU MS MN MX MT MV:Fn} {K:Kf} {c:Cv} (frm:Int)
  (hU:MU (Ac K c)=some (if c.g0=2 then I 6::B true::Ac K (stand c)else I 0::B false::Ac K c))
  (hO:MO (Ac K c)=some (I c.aH::B (c.aH !=0)::Ac K c))
  (hP:MP (Ac K c)=some (if c.aG=true/\c.aL=true then I 8::B true::Ac K {c with aH:=8}else I 0::B false::Ac K c))
  (hB:MB (Ac K c)=some (if c.on=true then I (Cc K c).1::B true::Ac K (Cc K c).2 else I 0::B false::Ac K c))
  (hG:MG' (Ac K c)=some (I 0::B false::Ac K c)):
  Am (I4 ME MR MG' MB MP MO MU MS MN MX MT MV N3) (Ga K frm 0 c)=some (1,Qoo K frm (C2 K c).1 (C2 K c).2):=by
 have w:∀i:Int,0<=i->i<5->wrap .i64 (i+1)=i+1:=λi _ _=>Ae (by omega);have e:=λi=>Za3 ME MR MG' MB MP MO MU MS MN MX MT MV N3 frm 5 i [] [] 0 0 0 0 0 0 0 [] [] 0 0 0 0 0 0 0 K c;have s0:c.g0≠2->I4 ME MR MG' MB MP MO MU MS MN MX MT MV N3 (Ga K frm 0 c)=some (0,Ga K frm 1 c):=λh=>by
  refine Eq.trans (e 0) (eT rfl (eT rfl (eB hU ?_)));rw[ab h];rfl
 have s1:c.aH=0->I4 ME MR MG' MB MP MO MU MS MN MX MT MV N3 (Ga K frm 1 c)=some (0,Ga K frm 2 c):=λh=>by
  refine Eq.trans (e 1) (eT rfl (eF rfl (eT rfl (eB hO ?_))));rw[h];rfl
 have s2: ¬(c.aG=true/\c.aL=true)->I4 ME MR MG' MB MP MO MU MS MN MX MT MV N3 (Ga K frm 2 c)=some (0,Ga K frm 3 c):=λh=>by
  refine Eq.trans (e 2) (eT rfl (eF rfl (eF rfl (eT rfl (eB hP ?_)))));rw[ab h];rfl
 have s3:c.on=false->I4 ME MR MG' MB MP MO MU MS MN MX MT MV N3 (Ga K frm 3 c)=some (0,Ga K frm 4 c):=λh=>by
  refine Eq.trans (e 3) (eT rfl (eF rfl (eF rfl (eF rfl (eT rfl (eB hB ?_))))));rw[ab (by rw[h];simp)];rfl
 have s4:I4 ME MR MG' MB MP MO MU MS MN MX MT MV N3 (Ga K frm 4 c)=some (0,Ga K frm 5 c):=by
  refine Eq.trans (e 4) (eT rfl (eF rfl (eF rfl (eF rfl (eF rfl (eT rfl (eB hG ?_)))))));rfl
 have s5:I4 ME MR MG' MB MP MO MU MS MN MX MT MV N3 (Ga K frm 5 c)=some (1,Qoo K frm 0 c):=by
  exact Eq.trans (e 5) (eF rfl rfl)
 unfold C2;by_cases h:c.g0=2
 ·rw[aa h];refine Bf (Eq.trans (e 0) (eT rfl (eT rfl (eB hU ?_)))) (by simp);rw[aa h];rfl
 rw[ab h,BC (s0 h)];by_cases h:c.aH=0
 ·rw[ab (by simpa using h),BC (s1 h)];by_cases h:c.aG=true/\c.aL=true
  ·rw[aa h];refine Bf (Eq.trans (e 2) (eT rfl (eF rfl (eF rfl (eT rfl (eB hP ?_)))))) (by simp);rw[aa h];rfl
  ·rw[ab h,BC (s2 h)];cases h:c.on
   ·rw[ab (by simp),BC (s3 h),BC s4];exact Bf s5 (by simp)
   ·rw[aa rfl];refine Bf (Eq.trans (e 3) (eT rfl (eF rfl (eF rfl (eF rfl (eT rfl (eB hB ?_))))))) (by simp);rw[aa h];generalize Cc K c=wk;rfl
 ·rw[aa h];refine Bf (Eq.trans (e 1) (eT rfl (eF rfl (eT rfl (eB hO ?_))))) (by simp);rw[bnT h];rfl
theorem Zke {K:Kf} {c:Cv} {n:Int} (h:KOK K) (g:Gd K n c):Ln (Ac K c)=some (if c.on=true then I (Cc K c).1::B true::Ac K (Cc K c).2 else I 0::B false::Ac K c):=by
 have key:∀{M:Fn},(c.on=true->M (Ac K c)=some (I (Cc K c).1::Ac K (Cc K c).2))->Qj3 M (Ac K c)=some (if c.on=true then I (Cc K c).1::B true::Ac K (Cc K c).2 else I 0::B false::Ac K c):=by
  intro M hM;rw[Z1z];cases e:c.on
  ·rw[ab (by simp)];rfl
  ·rw[aa rfl];have hM:=hM e;generalize Cc K c=wk at*;exact eB hM rfl
 exact key λe=>Qyf h (g.task e).1 (g.task e).2
abbrev Jd (c:Cv):Cv:={c with aI:=false,aK:=false}
def BZ (c:Cv) (E:List Evn):Cv:=E.foldl (λc e=>evC c e.kind e.n) (Jd c)
def K_ (E:List Evn):Prop:=E.length<=1000000/\∀e∈E,e.kind≠7/\e.kind≠12/\e.kind≠13
theorem Zu5 {ME MR MG' MB MP MO MU MS MN MX MT MV:Fn} {K:Kf} {c:Cv} {E:List Evn} (hE:K_ E)
  (hV:∀(c:Cv) (x:Int) {k:Int} (n:Int),k≠7/\k≠12/\k≠13->MV (I x::I k::I n::Ac K c)=some (Ac K (evC c k n))):
  Am (RN ME MR MG' MB MP MO MU MS MN MX MT MV) (.view kPt (E.map evR)::I (E.map evR).length::I 0::(EX++Ac K (Jd c)))=some (1,EX++Ac K (BZ c E)):=by
 have key:Out (λo=>o=(1,EX++Ac K (BZ c E))) (Am (RN ME MR MG' MB MP MO MU MS MN MX MT MV) (.view kPt (E.map evR)::I (E.map evR).length::I ((0:Nat):Int)::(EX++Ac K (BZ c (E.take 0))))):=by
  refine CX (λi:Nat=> .view kPt (E.map evR)::I (E.map evR).length::I (i:Int)::(EX++Ac K (BZ c (E.take i)))) (λi=>i<=E.length) (λi=>E.length-i) _ ?_ 0 (by simp);intro i hi;have hl:=hE.1;refine Out.eqv (Zy3 ME MR MG' MB MP MO MU MS MN MX MT MV (E.map evR) (E.map evR).length i [] [] 0 0 0 0 0 0 0 K (BZ c (E.take i))) ?_;refine .cond (λk=> ?_) λk=> ?_
  ·have k:(i:Int)<((E.map evR).length:Int):=Bt k;have hi:i<E.length:=by rw[ag]at k;omega
   refine .cond (λ_=> ?_) λe=>(inB (by omega) k e).elim;rw[Qc9 E hi];refine .bind (p:=λo=>o=_) ⟨_,hV (BZ c (E.take i)) E[i].cycle E[i].n (hE.2 _ (bn hi)),rfl⟩ λo e=> ?_;subst e;have e1:BZ c (E.take (i+1))=evC (BZ c (E.take i)) E[i].kind E[i].n:=by
    unfold BZ;rw[List.take_add_one,ai hi,List.foldl_append];rfl
   rw[Ae (x:=(i:Int)+1) (by omega)];refine .some (.inl ⟨rfl,i+1,?_,by omega,by omega⟩);rw[e1];have st:∀d:Cv,EX++cR 0 (Ac K d)=EX++Ac K d:=λ_=>rfl;exact congrArg (λz=>AC.view kPt (E.map evR)::I (E.map evR).length::I ((i:Int)+1)::z) (st (evC (BZ c (E.take i)) E[i].kind E[i].n))
  ·have k: ¬(i:Int)<((E.map evR).length:Int):=Bq k;rw[ag]at k;rw[List.take_of_length_le (by omega)];generalize BZ c E=d;exact .some (.inr ⟨by simp,rfl⟩)
 obtain⟨o,h1,rfl⟩:=key;exact h1
def P1 (K:Kf) (frm u:Int):Rw:=wA ((Lf (pxt K.p K.x K.t [I frm,I u])).getD []) 0
theorem Za5 {K:Kf} (h:KOK K) (frm u:Int) (hd:u-frm<=1000000000000):Out (λo=>wA o 0=P1 K frm u) (Lf (pxt K.p K.x K.t [I frm,I u])):=
 ⟨_,Qkk (Zpu h.f frm u hd),rfl⟩
abbrev Nf (K:Kf) (c:Cv):Pt:=JE K.p K.x K.t (Bv c)
theorem Zgs {MM MP MB MO MU:Fn} {K:Kf} {c:Cv} (hw:c.way=0) (hc:c.aK=false) {frm mode:Int}
  (hU:MU (Ac K c)=some [I (Bv c)]) (hO:MO (Ac K c)=some [I (Bp K c)]) (hB:Out (λo=>wA o 0=P1 K frm (Bv c)) (MB (pxt K.p K.x K.t [I frm,I (Bv c)])))
  (hP:∀s,MP (I s::Ac K c)=some (.view Aa ((Ce K c s).1.map Aq)::Ac K (Ce K c s).2)) (hQ:∀s,∃n q:Int,(Ce K c s).2={c with aJ:=n,outs:=q}) (hM:∀u,MM (pxt K.p K.x K.t [I u])=some (ptR (JE K.p K.x K.t u))):
  Qaz MM MP MB MO MU (I frm::(Ac K c++[.view kPt [], .view Aa [],I mode,I 0,I 0,I 0,I 0,I 0,I 0]))=
   some (Ac K (Ce K c (Bp K c)).2++OB (P1 K frm (Bv c)) ((Ce K c (Bp K c)).1.map Aq) mode (Bp K c) (Nf K c) c.s3 c.g1):=by
 refine Eq.trans (Zfv MM MP MB MO MU frm [] [] mode 0 0 0 0 0 0 K c) ?_;obtain⟨o,hB,ho⟩:=hB;rw[<-ho];refine eB hU (eB hO (eT (show(!c.aK)=true by rw[hc];rfl) (eB hB (eT (show(c.way==0)=true from beT hw) ?_))));have hP:=hP (Bp K c);obtain⟨n,q,hq⟩:=hQ (Bp K c);generalize Ce K c (Bp K c)=ps at*;refine eB hP ?_;rw[hq];refine eB (hM (Bv c)) ?_;rw[show Nf K c=JE K.p K.x K.t (Bv c)from rfl];generalize JE K.p K.x K.t (Bv c)=mt;rfl
theorem Qht (K:Kf) (s:Int):∀(l:List Mrk) (c:Cv),∃n q:Int,(EE K s l c).2={c with aJ:=n,outs:=q}
 |[],c=>⟨c.aJ,c.outs,rfl⟩
 |m::l,c=>by
  unfold EE;split
  ·exact⟨c.aJ,c.outs,rfl⟩
  ·split
   ·obtain⟨n,q,h⟩:=Qht K s l {c with outs:=swI c.outs (itK K m.item),aJ:=c.aJ+1};exact⟨n,q,h⟩
   ·obtain⟨n,q,h⟩:=Qht K s l {c with aJ:=c.aJ+1};exact⟨n,q,h⟩
theorem NO (K:Kf) (c:Cv) (s:Int):∃n q:Int,(Ce K c s).2={c with aJ:=n,outs:=q}:=Qht K s _ c
theorem Zwx {K:Kf} {c:Cv} {n:Int} (h:KOK K) (g:Gd K n c) (hn:0<=n/\n<=10010) (hc:c.aK=false) {frm mode:Int} (hf: -300000000000<=frm/\frm<=300000000000):
  LB (I frm::(Ac K c++[.view kPt [], .view Aa [],I mode,I 0,I 0,I 0,I 0,I 0,I 0]))=
   some (Ac K (Ce K c (Bp K c)).2++OB (P1 K frm (Bv c)) ((Ce K c (Bp K c)).1.map Aq) mode (Bp K c) (Nf K c) c.s3 c.g1):=
 Zgs g.way hc (T8 K c) (Te h c) (Za5 h frm (Bv c) (by have:=Qw1 g hn;omega)) (λs=>Zeu h g.pass s) (NO K c) (W3 h.f)
def Eb (c:Cv):Cv:=if c.aG=true\/c.g0≠0 then{c with o2:=true}else c
def Cq (c:Cv):Cv:={c with before:=c.s3}
def ED (K:Kf) (c:Cv):Cv:=if Jl K c=true then c else spS c K.ramp
def JG (c:Cv):Cv:={c with aL:=FZ c}
def B1 (K:Kf) (c:Cv) (E:List Evn):Cv:=JG (ED K (Cq (Eb (BZ c E))))
def stC (K:Kf) (c:Cv) (E:List Evn):Int×Cv:=if(C2 K (B1 K c E)).1=0 then Do K (C2 K (B1 K c E)).2 else C2 K (B1 K c E)
def C3 (K:Kf) (c:Cv) (E:List Evn):Cv:=(Ce K (stC K c E).2 (Bp K (stC K c E).2)).2
def Zt1 (K:Kf) (c:Cv) (E:List Evn):List Int:=(Ce K (stC K c E).2 (Bp K (stC K c E).2)).1
def tkC (K:Kf) (c:Cv) (E:List Evn):List AC:=
 OB (P1 K (Bv (BZ c E)) (Bv (stC K c E).2)) ((Zt1 K c E).map Aq) (stC K c E).1 (Bp K (stC K c E).2) (Nf K (stC K c E).2) (stC K c E).2.s3 (stC K c E).2.g1
theorem Zy6 {N16:Lp} {MR ME:Fn} {K:Kf} {d:Cv} {frm:Int} {o:Nat×List AC} (ho:∃e,o.2=EX++Ac K e)
  (h16:N16 (Ga K frm 0 d)=some (1,Qoo K frm (C2 K d).1 (C2 K d).2))
  (hR:(C2 K d).1=0->MR (Ac K (C2 K d).2)=some (I (Do K (C2 K d).2).1::Ac K (Do K (C2 K d).2).2))
  {s:Int×Cv} (hs:s=if(C2 K d).1=0 then Do K (C2 K d).2 else C2 K d)
  {pul outs:Rw} {pos sp ft:Int} {mt:Pt} {q:Cv}
  (hE:ME (I frm::(Ac K s.2++[.view kPt [], .view Aa [],I s.1,I 0,I 0,I 0,I 0,I 0,I 0]))=some (Ac K q++OB pul outs s.1 pos mt sp ft)):
  Js N16 o MR ME (I frm) (Ac K d)=some (OB pul outs s.1 pos mt sp ft++Ac K q):=by
 obtain⟨o1,o2⟩:=o;obtain⟨e,ho⟩:=ho;dsimp only at ho;subst ho;refine eB h16 (eT rfl ?_);generalize C2 K d=r at*;generalize Do K r.2=w at*;by_cases h:r.1=0
 ·rw[aa h]at hs;subst hs;refine eT (show(r.1==0)=true from beT h) (eB (hR h) (eB hE rfl))
 ·rw[ab h]at hs;subst hs;exact eF (show(s.1==0)=false from beF h) (eB hE rfl)
theorem Z0f {ME MR MG' MB MP MO MU MS MN MX MT MV:Fn} {N3 N16:Lp} {K:Kf} {c:Cv} {E:List Evn}
  (h3:N3 (.view kPt (E.map evR)::I (E.map evR).length::I 0::(EX++Ac K (Jd c)))=some (1,EX++Ac K (BZ c E)))
  (hT:∀c,MT (Ac K c)=some [B (Jl K c)]) (hX:∀(c:Cv) (ramp:Int),MX [I c.s0,I c.s1,I c.s2,I c.s3,I ramp]=some [I (spS c ramp).s0,I (spS c ramp).s1,I (spS c ramp).s2,I (spS c ramp).s3])
  (hN:∀c,MN (Ac K c)=some [I (Bv c)]) (hS:∀c:Cv,MS [I c.m0,I c.m1,I c.m2,I c.m3,I c.m4,I c.m5]=some [B (FZ c)])
  (h1:∀o:Nat×List AC,(∃e,o.2=EX++Ac K e)->Js N16 o MR ME (I (Bv (BZ c E))) (Ac K (B1 K c E))=some (tkC K c E++Ac K (C3 K c E))):
  Vt ME MR MG' MB MP MO MU MS MN MX MT MV N3 N16 (.view kPt (E.map evR)::Ac K c)=some (tkC K c E++Ac K (C3 K c E)):=by
 refine Eq.trans (Zm2 ME MR MG' MB MP MO MU MS MN MX MT MV N3 N16 (E.map evR) K c) ?_;refine eB h3 (eT rfl ?_);unfold B1 at h1;generalize tkC K c E=tk at*;generalize C3 K c E=sc at*;generalize BZ c E=d at*
 have rest:∀b:Cv,Eb d=b->Bv b=Bv d->FZ b=FZ d->
   ((MT (Ac K (Cq b))).bind λo => bif !bA o 0 then (MX [I b.s0, I b.s1, I b.s2, I b.s3, I K.ramp]).bind λo2 => (MN (Ac K { Cq b with s0 := gA o2 0, s1 := gA o2 1, s2 := gA o2 2, s3 := gA o2 3 })).bind λo3 => (MS [I d.m0, I d.m1, I d.m2, I d.m3, I d.m4, I d.m5]).bind λo4 => Js N16 (1, EX ++ Ac K d) MR ME (jA o3 0) (Ac K { Cq b with s0 := gA o2 0, s1 := gA o2 1, s2 := gA o2 2, s3 := gA o2 3, aL := bA o4 0 })
    else(MN (Ac K (Cq b))).bind λo3=>(MS [I d.m0,I d.m1,I d.m2,I d.m3,I d.m4,I d.m5]).bind λo4=>Js N16 (1,EX++Ac K d) MR ME (jA o3 0) (Ac K {Cq b with aL:=bA o4 0}))=some (tk++Ac K sc):=λb hb hu hs=>by
  have h1:=h1 (1,EX++Ac K d) ⟨d,rfl⟩;rw[hb]at h1;refine eB (hT (Cq b)) ?_;cases ht:Jl K (Cq b)
  ·have e1:ED K (Cq b)=spS (Cq b) K.ramp:=by unfold ED;rw[ab (by rw[ht];simp)]
   rw[e1]at h1;refine eT rfl (eB (hX b K.ramp) ?_);refine Eq.trans (congrArg (λz=>Option.bind z _) (hN (spS (Cq b) K.ramp))) (eB rfl (eB (hS d) ?_));have e2:Bv (spS (Cq b) K.ramp)=Bv d:=hu;have e3:({spS (Cq b) K.ramp with aL:=FZ d}:Cv)=JG (spS (Cq b) K.ramp):=by
    unfold JG;rw[show FZ (spS (Cq b) K.ramp)=FZ b from rfl,hs]
   rw[<-e3,<-e2]at h1;exact h1
  ·have e1:ED K (Cq b)=Cq b:=by unfold ED;rw[aa ht]
   rw[e1]at h1;refine eF rfl ?_;refine Eq.trans (congrArg (λz=>Option.bind z _) (hN (Cq b))) (eB rfl (eB (hS d) ?_));have e2:Bv (Cq b)=Bv d:=hu;have e3:({Cq b with aL:=FZ d}:Cv)=JG (Cq b):=by
    unfold JG;rw[show FZ (Cq b)=FZ b from rfl,hs]
   rw[<-e3,<-e2]at h1;exact h1
 refine eC (λt=> ?_) λt=>eC (λq=> ?_) λq=> ?_
 ·have t:d.aG=true:=t;exact rest {d with o2:=true} (by unfold Eb;rw[aa (.inl t)]) rfl rfl
 ·have q:d.g0≠0:=λe=>by
   have:(d.g0 !=0)=true:=q;rw[bnF e]at this;cases this
  exact rest {d with o2:=true} (by unfold Eb;rw[aa (.inr q)]) rfl rfl
 ·have t:d.aG=false:=t;have q:d.g0=0:=Decidable.byContradiction λe=>by
   have:(d.g0 !=0)=false:=q;rw[bnT e]at this;cases this
  exact rest d (by unfold Eb;rw[ab (λw=>by rcases w with w|w;rw[t]at w;cases w;exact w q)]) rfl rfl
structure Kp (c d : Cv) : Prop where
 way:d.way=c.way
 aK:d.aK=c.aK
 aJ:d.aJ=c.aJ
 outs:d.outs=c.outs
theorem Kp.rfl {c:Cv}:Kp c c:=⟨Eq.refl _,Eq.refl _,Eq.refl _,Eq.refl _⟩
theorem Kp.trans {a b c:Cv} (h:Kp a b) (g:Kp b c):Kp a c:=⟨g.way.trans h.way,g.aK.trans h.aK,g.aJ.trans h.aJ,g.outs.trans h.outs⟩
structure Sm (c d : Cv) : Prop where
 kp:Kp c d
 m0:d.m0=c.m0
 m1:d.m1=c.m1
 m2:d.m2=c.m2
 m3:d.m3=c.m3
 m4:d.m4=c.m4
 on:d.on=c.on
 idx:d.idx=c.idx
 aH:d.aH=c.aH
 aG:d.aG=c.aG
 next:d.next=c.next
theorem Sm.trans {a b c:Cv} (h:Sm a b) (g:Sm b c):Sm a c:=
 ⟨h.kp.trans g.kp,g.m0.trans h.m0,g.m1.trans h.m1,g.m2.trans h.m2,g.m3.trans h.m3,g.m4.trans h.m4,g.on.trans h.on,g.idx.trans h.idx,g.aH.trans h.aH,g.aG.trans h.aG,g.next.trans h.next⟩
theorem Sm.rfl {c:Cv}:Sm c c:=⟨Kp.rfl,Eq.refl _,Eq.refl _,Eq.refl _,Eq.refl _,Eq.refl _,Eq.refl _,Eq.refl _,Eq.refl _,Eq.refl _,Eq.refl _⟩
theorem Gd.sm {K:Kf} {n:Int} {c d:Cv} (g:Gd K n c) (h:Sm c d):Gd K n d:=g.same h.kp.way h.kp.aJ h.on h.idx h.m0 h.m1 h.m2
theorem Znp (c:Cv) (k n:Int):Sm c (evC c k n):=⟨⟨Eq.refl _,Eq.refl _,Eq.refl _,Eq.refl _⟩,Eq.refl _,Eq.refl _,Eq.refl _,Eq.refl _,Eq.refl _,Eq.refl _,Eq.refl _,Eq.refl _,Eq.refl _,Eq.refl _⟩
theorem Q0h:∀(E:List Evn) (c:Cv),Sm c (E.foldl (λc e=>evC c e.kind e.n) c)
 |[],_=>Sm.rfl
 |e::E,c=>(Znp c e.kind e.n).trans (Q0h E _)
theorem Q7o (c:Cv) (E:List Evn):Sm (Jd c) (BZ c E):=Q0h E _
theorem Zpn (c:Cv):Sm c (Eb c):=by
 unfold Eb;split
 ·exact⟨⟨rfl,rfl,rfl,rfl⟩,rfl,rfl,rfl,rfl,rfl,rfl,rfl,rfl,rfl,rfl⟩
 ·exact Sm.rfl
theorem Z5u (K:Kf) (c:Cv):Sm c (ED K c):=by
 unfold ED;split
 ·exact Sm.rfl
 ·exact⟨⟨rfl,rfl,rfl,rfl⟩,rfl,rfl,rfl,rfl,rfl,rfl,rfl,rfl,rfl,rfl⟩
theorem Uk (K:Kf) (c:Cv) (E:List Evn):Sm (Jd c) (B1 K c E):=
 (Q7o c E).trans ((Zpn _).trans (Sm.trans (b:=Cq (Eb (BZ c E))) ⟨⟨rfl,rfl,rfl,rfl⟩,rfl,rfl,rfl,rfl,rfl,rfl,rfl,rfl,rfl,rfl⟩ ((Z5u K _).trans ⟨⟨rfl,rfl,rfl,rfl⟩,rfl,rfl,rfl,rfl,rfl,rfl,rfl,rfl,rfl,rfl⟩)))
theorem Gd.clear {K:Kf} {n:Int} {c:Cv} (g:Gd K n c):Gd K n (Jd c):=⟨g.way,g.pass,g.task,g.mo,g.m0⟩
theorem Ua {K:Kf} {n:Int} {c:Cv} (g:Gd K n c) (E:List Evn):Gd K n (B1 K c E):=g.clear.sm (Uk K c E)
theorem Zqi {K:Kf} {n:Int} {c:Cv} (g:Gd K n c):Gd K n (Il K c).2/\Kp c (Il K c).2:=by
 have done:∀d:Cv,Gd K n d->Kp c d->Gd K n (H5 d)/\Kp c (H5 d):=λd g k=>⟨⟨g.way,g.pass,λh=>(by cases h),g.mo,g.m0⟩,k.trans ⟨rfl,rfl,rfl,rfl⟩⟩;have cmd:∀n' sp:Int,Gd K n (Ka c n' sp)/\Kp c (Ka c n' sp):=λn' sp=>⟨⟨g.way,g.pass,g.task,g.mo,g.m0⟩,⟨rfl,rfl,rfl,rfl⟩⟩;unfold Il;split
 ·split
  ·exact done c g Kp.rfl
  ·exact⟨g,Kp.rfl⟩
 ·split
  ·exact done c g Kp.rfl
  ·split
   ·split
    ·exact⟨g,Kp.rfl⟩
    ·exact done c g Kp.rfl
   ·split
    ·split
     ·exact done _ (cmd _ _).1 (cmd _ _).2
     ·exact cmd _ _
    ·split
     ·exact⟨⟨g.way,g.pass,g.task,g.mo,g.m0⟩,⟨rfl,rfl,rfl,rfl⟩⟩
     ·exact done c g Kp.rfl
theorem Qzi {K:Kf} {n:Int} {c:Cv} (g:Gd K n c):Gd K n (Cc K c).2/\Kp c (Cc K c).2:=by
 have h:=Zqi (K:=K) (c:=C8 c) ⟨g.way,g.pass,g.task,g.mo,g.m0⟩;exact⟨h.1,h.2.way,h.2.aK,h.2.aJ,h.2.outs⟩
theorem Z4y {K:Kf} {n:Int} {c:Cv} (g:Gd K n c) {i:Int} (h0:0<=i) (h1:i<K.p.aC.length):Gd K n (Dc K c i).2/\Kp c (Dc K c i).2:=by
 have h:=Qzi (K:=K) (c:={c with on:=true,idx:=i,aM:=FI K c i,cnt:=0}) ⟨g.way,g.pass,λ_=>⟨h0,h1⟩,g.mo,g.m0⟩;exact⟨h.1,⟨h.2.way,h.2.aK,h.2.aJ,h.2.outs⟩⟩
theorem Og {K:Kf} {n:Int} {c:Cv} (g:Gd K n c):Gd K n (Cp c)/\Kp c (Cp c):=by
 unfold Cp;split
 ·exact⟨⟨g.way,g.pass,g.task,g.mo,g.m0⟩,⟨rfl,rfl,rfl,rfl⟩⟩
 ·exact⟨g,Kp.rfl⟩
theorem Ze9 (K:Kf) (c:Cv) (l:Int):Kp c (ET K c l):=⟨rfl,rfl,rfl,rfl⟩
theorem Gd.e0 {K:Kf} {n:Int} {c:Cv} (g:Gd K n c) (x:Int):Gd K n {c with e0:=x}:=⟨g.way,g.pass,g.task,g.mo,g.m0⟩
theorem Gd.s3 {K:Kf} {n:Int} {c:Cv} (g:Gd K n c) (x:Int):Gd K n {c with s3:=x}:=⟨g.way,g.pass,g.task,g.mo,g.m0⟩
theorem Qq1 {K:Kf} {n:Int} {c:Cv} (h:KOK K) (g:Gd K n c) (hn:0<=n/\n<=10000) (l:Int) {s:Sgm} (hs:i64 s.lead):Gd K (n+1) (Ft K c l s)/\Kp c (Ft K c l s):=by
 have gp:=Q7r h g hn l;unfold Ft;split
 ·exact⟨gp.s3 _,⟨rfl,rfl,rfl,rfl⟩⟩
 ·obtain⟨-,v,s',b,z,y,e,h2,h3⟩:=Y1 h g l hs;have gm:Gd K (n+1) (Iq c (thO K c l s.lead)):=by
   have e1:gA (thO K c l s.lead) 1=v:=by rw[h2];rfl
   have:=g.move h hn h3;unfold Iq SS;rw[e1];generalize thO K c l s.lead=o;exact this.same rfl rfl rfl rfl rfl rfl rfl
  unfold II;split
  ·exact⟨gp.e0 3,⟨rfl,rfl,rfl,rfl⟩⟩
  ·split
   ·exact⟨(Og gm).1,Kp.trans (b:=Iq c (thO K c l s.lead)) ⟨rfl,rfl,rfl,rfl⟩ (Og gm).2⟩
   ·exact⟨gm,⟨rfl,rfl,rfl,rfl⟩⟩
theorem Zyc {K:Kf} {n:Int} {c:Cv} (h:KOK K) (g:Gd K n c) (hn:0<=n/\n<=10000) (l:Int):Gd K (n+1) (E6 K c l)/\Kp c (E6 K c l):=by
 unfold E6;split
 ·exact⟨Q7r h g hn l,Ze9 K c l⟩
 ·rename_i hx;have hl:(sgK K c).lead≠0:=λe=>hx (.inl e);split
  ·exact Qq1 h g hn l (Gt h hl).2.2
  ·split
   ·have:=Qq1 h (g.go (sgK K c)) hn l (Gt h hl).2.2;exact⟨this.1,Kp.trans (b:=goC K c (sgK K c)) ⟨rfl,rfl,rfl,rfl⟩ this.2⟩
   ·split
    ·exact⟨(Og (g.up hn.1)).1,(Og g).2⟩
    ·exact⟨g.up hn.1,Kp.rfl⟩
theorem Zdp {K:Kf} {n:Int} {c:Cv} (h:KOK K) (g:Gd K n c) (hn:0<=n/\n<=10000):Gd K (n+1) (Do K c).2/\Kp c (Do K c).2:=by
 have hi:=Qm3 K c;unfold Do;split
 ·split
  ·rename_i k;have k2:(AR K c).2<K.p.aC.length:=by
    rcases hi with hi|hi
    ·omega
    ·exact hi.2.2
   have gb:=Z4y (g.up hn.1) k k2;split
   ·exact⟨(Og gb.1).1,gb.2.trans (Og gb.1).2⟩
   ·exact gb
  ·split
   ·exact⟨⟨g.way,g.pass,g.task,(g.up hn.1).mo,(g.up hn.1).m0⟩,⟨rfl,rfl,rfl,rfl⟩⟩
   ·exact⟨g.up hn.1,Kp.rfl⟩
 ·exact Zyc h g hn _
theorem Qt2 {K:Kf} {n:Int} {c:Cv} (h:KOK K) (g:Gd K n c) (hn:0<=n/\n<=10000):Gd K n (C2 K c).2/\Kp c (C2 K c).2:=by
 unfold C2;split
 ·exact⟨(g.stand h hn).1,⟨rfl,rfl,rfl,rfl⟩⟩
 ·split
  ·exact⟨g,Kp.rfl⟩
  ·split
   ·exact⟨⟨g.way,g.pass,g.task,g.mo,g.m0⟩,⟨rfl,rfl,rfl,rfl⟩⟩
   ·split
    ·exact Qzi g
    ·exact⟨g,Kp.rfl⟩
theorem Qwj {K:Kf} {n:Int} {c:Cv} (h:KOK K) (g:Gd K n c) (hn:0<=n/\n<=10000) (E:List Evn):Gd K (n+1) (stC K c E).2/\Kp (Jd c) (stC K c E).2:=by
 have gr:=Qt2 h (Ua g E) hn;have kp:=(Uk K c E).kp.trans gr.2;unfold stC;split
 ·have:=Zdp h gr.1 hn;exact⟨this.1,kp.trans this.2⟩
 ·exact⟨gr.1.up hn.1,kp⟩
theorem Qmw (K:Kf) (s:Int):∀(l:List Mrk) (c:Cv),c.aJ<=(EE K s l c).2.aJ/\(EE K s l c).2.aJ<=c.aJ+l.length
 |[],c=>by simp[EE]
 |m::l,c=>by
  unfold EE;split
  ·simp only[bf];omega
  ·split
   ·have:=Qmw K s l {c with outs:=swI c.outs (itK K m.item),aJ:=c.aJ+1};simp only[bf]at this⊢;omega
   ·have:=Qmw K s l {c with aJ:=c.aJ+1};simp only[bf]at this⊢;omega
theorem Qxu {K:Kf} {n:Int} {c:Cv} (h:KOK K) (g:Gd K n c) (hn:0<=n/\n<=10000) (E:List Evn):Gd K (n+1) (C3 K c E):=by
 have gs:=(Qwj h g hn E).1;unfold C3;generalize(stC K c E).2=d at*;obtain⟨n',q,e⟩:=NO K d (Bp K d);have hb:=Qmw K (Bp K d) (K.p.aC.drop d.aJ.toNat) d;rw[cy]at hb;have hb:d.aJ<=(Ce K d (Bp K d)).2.aJ/\(Ce K d (Bp K d)).2.aJ<=d.aJ+((K.p.aC.length-d.aJ.toNat:Nat):Int):=hb;rw[e]at hb⊢;have hp:=gs.pass;exact⟨gs.way,by dsimp only at hb⊢;omega,gs.task,gs.mo,gs.m0⟩
theorem Qw {K:Kf} {c:Cv} {n:Int} (h:KOK K) (g:Gd K n c) (hn:0<=n/\n<=10000) {E:List Evn} (hE:K_ E):
  Hq (.view kPt (E.map evR)::Ac K c)=some (tkC K c E++Ac K (C3 K c E)):=by
 have gp:=Ua g E;have gr:=Qt2 h gp hn;have gs:=Qwj h g hn E;have hf: -300000000000<=Bv (BZ c E)/\Bv (BZ c E)<=300000000000:=Qw1 (g.clear.sm (Q7o c E)) (by omega);refine Z0f (Zu5 hE Zu3) (Zh2 h) Zm8 (T8 K) Zrv λo ho=> ?_;refine Zy6 (s:=stC K c E) ho (Z21 _ (Z1k K _) (Zp2 K _) (Zq9 K _) (Zke h gp) (Z37 gp.way)) (λ_=>Z3b h gr.1 hn) rfl ?_;exact Zwx h gs.1 (by omega) gs.2.aK hf
theorem Znc (a b c:Int) {d:Int} (h:d<=0):Hl [I a,I b,I c,I d]=some [I 0]:=by
 show Sc _=_;rw[Zn,Bx (an h)]
theorem Z2x {a b c:Int} (h:Plan3 a b c):He [I a,I b,I c,I 0,I 0]=some [B true]:=by
 have key:∀{M:Fn},(∀d:Int,d<=0->M [I a,I b,I c,I d]=some [I 0])->Py M [I a,I b,I c,I 0,I 0]=some [B true]:=by
  intro M hM;have ha:=h.a;have hb:=h.b
  rw[Qjn,Ae (x:=0-a) (by omega)];refine eF (ap (by omega)) (eF (ap (by omega)) (eT rfl (eF (ap (by omega)) ?_)));refine eB (hM _ (by decide)) (eT rfl (eB (hM 0 (by omega)) ?_));rfl
 exact key λd hd=>Znc a b c hd
theorem Ze2 {a b c:Int} (h:Plan3 a b c):J6 [I a,I b,I c,I 0,I 0]=some [.view Aa [],B true]:=by
 have key:∀{MB MR MV:Fn},MV [I a,I b,I c]=some [B true]->MR [I a,I b,I c,I 0,I 0]=some [B true]->Q1 MB MR MV (Am (It MB MR MV)) [I a,I b,I c,I 0,I 0]=some [.view Aa [],B true]:=by
  intro MB MR MV h1 h2;rw[YL];refine eB h1 (eF rfl (eB h2 (eF rfl ?_)));have hs:It MB MR MV [.view Aa [],I 0,I 0,I a,I b,I c]=some (2,[.view Aa []]):=by
   rw[PU];rfl
  exact eB (Bf hs (by simp)) rfl
 refine key ?_ (Z2x h);rw[Q3,an];exact⟨h.a.1,h.a.2,h.b.1,h.b.2,h.c.1,h.c.2⟩
theorem Zgd {a b c:Int} (h:Plan3 a b c) (x3 x6 x7 x8:Int):EW [I a,I b,I c,I x3,I 0,I 0,I x6,I x7,I x8]=some [.view Aa [],B true]:=by
 have key:∀{M:Fn},M [I a,I b,I c,I 0,I 0]=some [.view Aa [],B true]->MY M (Am (Hp M)) [I a,I b,I c,I x3,I 0,I 0,I x6,I x7,I x8]=some [.view Aa [],B true]:=by
  intro M h1;rw[SG];have hs:Hp M [.view Aa [],I x3, .view Aa [],I 0,I 0]=some (1,[.view Aa []]):=by
   rw[Qn7];rfl
  exact eB h1 (eF rfl (eT rfl (eT rfl (eB (Bf hs (by simp)) rfl))))
 exact key (Ze2 h)
theorem Zw0 {K:Kf} (h:Plan3 K.pa K.pb K.pc) {c:Cv} (h1:c.m1=0) (h2:c.m2=0):Lm K c=c.m0:=by
 have key:∀{M:Fn},M [I K.pa,I K.pb,I K.pc,I c.m0,I 0,I 0,I c.m3,I c.m4,I c.m5]=some [.view Aa [],B true]->Lw M [I K.pa,I K.pb,I K.pc,I c.m0,I 0,I 0,I c.m3,I c.m4,I c.m5]=some [I c.m0,B true]:=by
  intro M hM;rw[TO];exact eB hM (eF rfl (eT rfl rfl))
 have e:DY [I K.pa,I K.pb,I K.pc,I c.m0,I 0,I 0,I c.m3,I c.m4,I c.m5]=some [I c.m0,B true]:=key (Zgd h _ _ _ _);unfold Lm one;rw[h1,h2,e];rfl
abbrev Sb:Axs:=⟨8,10,10,10,-16777216,16777216,0,0,0,[]⟩
theorem Qf2:AxOK Sb:=⟨by decide,by decide,by decide,λh=>absurd rfl h,⟨λx h=>(by cases h),λi h=>(by simp at h)⟩,by decide,by decide⟩
abbrev JD:Ax3:=⟨Sb,Sb,Sb⟩
theorem machX:MachOK JD 9 3 100 1 0:=⟨⟨Qf2,Qf2,Qf2⟩,⟨by decide,by decide,by decide⟩,by decide,by decide⟩
abbrev B8:Itm:=⟨12,0,⟨0,0,0⟩,⟨0,0,0⟩,0,⟨0,0,0⟩,0,false,0,false,0,0,0,0,0,false⟩
theorem Q4c:Items 4084 ⟨0,0,0⟩ []:=⟨trivial,λit h=>by cases h⟩
theorem Zdb:Items 4084 ⟨0,0,0⟩ [B8]:=by
 have h:=Ob Q4c (it:=B8) (λh=>by unfold AD at h;simp at h) (.inr ⟨by decide,λh=>by simp at h,λh=>by simp at h,λh=>by simp at h⟩);exact h
abbrev kX (l:List Itm):Kf:=kfP JD 9 3 100 1 0 l true
theorem Qmv {l:List Itm} (h:(Az l).aE=[]) (c:Cv):Jl (kX l) c=false:=by
 unfold Jl FV;rw[h];rfl
theorem gd0 (l:List Itm):Gd (kX l) 0 Ch:=⟨rfl,⟨by decide,by simp⟩,λh=>(by cases h),SB machX.plan,by decide⟩
theorem Qop:Az []=⟨⟨0,0,0⟩,[],[]⟩:=rfl
theorem Un:Az [B8]=⟨⟨0,0,0⟩,[],[⟨0,3,0⟩]⟩:=by
 have e:Ao [B8] 1=⟨[],[⟨0,3,0⟩],0,0,-1,false,⟨0,0,0⟩,⟨0,0,0⟩⟩:=by
  rw[Ao,Ao];unfold BR;rw[ab (by decide)];rfl
 show Pth.mk (Ao [B8] 1).start (Ao [B8] 1).aE (Ao [B8] 1).aC=_;rw[e]
theorem Qyl {p:Pth} (h:p.aE=[]):Bb p JD ⟨1,1,1⟩ 0 (Aw p.aE)=⟨[],0,0,⟨1,1,1⟩⟩:=by
 unfold Bb;rw[h];rfl
theorem kX0:kX []=⟨JD,9,3,100,1,0,[],true,⟨⟨0,0,0⟩,[],[]⟩,0,BE [],⟨[],0,0,⟨1,1,1⟩⟩⟩:=by
 show Kf.mk _ _ _ _ _ _ _ _ _ _ _ _=_;rw[Qyl (p:=Az []) (by rw[Qop]),Qop];rfl
theorem kX1:kX [B8]=⟨JD,9,3,100,1,0,[B8],true,⟨⟨0,0,0⟩,[],[⟨0,3,0⟩]⟩,0,BE [B8],⟨[],0,0,⟨1,1,1⟩⟩⟩:=by
 show Kf.mk _ _ _ _ _ _ _ _ _ _ _ _=_;rw[Qyl (p:=Az [B8]) (by rw[Un]),Un];rfl
abbrev IS:Cv:={Ch with aL:=true}
theorem Q3h {K:Kf} (ht:∀c,Jl K c=false) (hr:K.ramp=1):B1 K Ch []=IS:=by
 show JG (ED K (Cq (Eb Ch)))=_;unfold ED;rw[ab (by rw[ht];simp),hr];rfl
theorem Z4c:(stC (kX []) Ch []).1=7:=by
 have e:=Q3h (Qmv (l:=[]) (by rw[Qop])) rfl;have er:C2 (kX []) IS=(0,IS):=rfl;unfold stC;rw[e,er,aa rfl];have el:AR (kX []) IS=(0,-1):=by
  rw[kX0];unfold AR BH;rfl
 unfold Do;rw[el];rfl
abbrev JX:Cv:={IS with on:=true,idx:=0,aM:=true,cnt:=1}
theorem st1:stC (kX [B8]) Ch []=(2,JX):=by
 have e:=Q3h (Qmv (l:=[B8]) (by rw[Un])) rfl;have er:C2 (kX [B8]) IS=(0,IS):=rfl;unfold stC;rw[e,er,aa rfl];have el:AR (kX [B8]) IS=(0,0):=by
  have e2:=Zw0 (K:=kX [B8]) machX.plan (c:=IS) rfl rfl;unfold AR;rw[e2,kX1];rfl
 unfold Do;rw[el,kX1];rfl
theorem Qwg:C3 (kX [B8]) Ch []=JX:=by
 unfold C3;rw[st1,kX1];rfl
theorem Zkz:(stC (kX [B8]) JX [⟨0,4,0⟩]).1=3:=by
 have ht:=Qmv (l:=[B8]) (by rw[Un]);have e:B1 (kX [B8]) JX [⟨0,4,0⟩]=JG (spS (Cq (Eb (BZ JX [⟨0,4,0⟩]))) 1):=by
  unfold B1 ED;rw[ab (by rw[ht];simp)]
 unfold stC;rw[e,kX1];rfl
theorem Qyr (K:Kf) (c:Cv) (E:List Evn) (l:List AC):gA (tkC K c E++l) 2=(stC K c E).1:=rfl
theorem Q6o:K_ []:=⟨by simp,λe h=>by cases h⟩
theorem Z40 {MS MN:Fn}
  (h0:MN (AI JD++[I 9,I 3,I 100,I 1,I 0]++[.view Ah (([]:List Itm).map Af),B true])=some (I 0::Ac (kX []) Ch))
  (h1:MN (AI JD++[I 9,I 3,I 100,I 1,I 0]++[.view Ah ([B8].map Af),B true])=some (I 0::Ac (kX [B8]) Ch))
  (hs0:∃l,MS (.view kPt (([]:List Evn).map evR)::Ac (kX []) Ch)=some l/\gA l 2=7)
  (hs1:∃l,MS (.view kPt (([]:List Evn).map evR)::Ac (kX [B8]) Ch)=some (l++Ac (kX [B8]) JX)/\l.length=9/\gA l 2=2)
  (hs2:∃l,MS (.view kPt ([(⟨0,4,0⟩:Evn)].map evR)::Ac (kX [B8]) JX)=some l/\gA l 2=3):
  VZ MS MN []=some [B true]:=by
 rw[Zfi];obtain⟨l0,s0,m0⟩:=hs0;obtain⟨l1,s1,n1,m1⟩:=hs1;obtain⟨l2,s2,m2⟩:=hs2
 match l1,n1 with
 |[a0,a1,a2,a3,a4,a5,a6,a7,a8],_=>
  refine eB h0 (eB h1 (eF rfl (eF rfl (eB s0 (eT (beT m0) (eB s1 (eT (beT m1) (eB s2 ?_))))))));rw[m2];rfl
theorem Qrs:LZ []=some [B true]:=by
 have n0:=Qww machX (items:=[]) (by simp) Q4c true;have n1:=Qww machX (items:=[B8]) (by simp) Zdb true;have z0:=Qw n0.2 (gd0 []) (by omega) Q6o;have z1:=Qw n1.2 (gd0 [B8]) (by omega) Q6o;have g1:Gd (kX [B8]) 1 JX:=by
  have:=Qxu n1.2 (gd0 [B8]) (by omega) [];rw[Qwg]at this;exact this
 have z2:=Qw n1.2 g1 (by omega) (E:=[⟨0,4,0⟩]) ⟨by simp,λe h=>by simp at h;subst h;simp⟩;rw[Qwg]at z1;exact Z40 n0.1 n1.1 ⟨_,z0,(Qyr _ _ _ _).trans Z4c⟩ ⟨_,z1,rfl,by show(stC (kX [B8]) Ch []).1=2;rw[st1]⟩ ⟨_,z2,(Qyr _ _ _ _).trans Zkz⟩
theorem Zx5 (K:Kf) (c:Cv) (E:List Evn):Bp K (C3 K c E)=Bp K (stC K c E).2/\Nf K (C3 K c E)=Nf K (stC K c E).2/\(C3 K c E).g0=(stC K c E).2.g0/\(C3 K c E).g1=(stC K c E).2.g1/\(C3 K c E).m0=(stC K c E).2.m0:=by
 unfold C3;obtain⟨n,q,e⟩:=NO K (stC K c E).2 (Bp K (stC K c E).2);rw[e];exact⟨rfl,rfl,rfl,rfl,rfl⟩
abbrev atE (E:List Evn) (k:Int):List Evn:=E.filter λe=>e.cycle==k
theorem Zrh {E:List Evn} {k:Int} {e:Evn} (h:e∈atE E k):e∈E:=(List.mem_filter.1 h).1
theorem Zeq (E:List Evn) (k:Int):(atE E k).length<=E.length:=List.length_filter_le _ _
structure Tk (K : Kf) (o : List AC) (c : Cv) (s : Int) (m : Pt) : Prop where
 ex:∃(pul outs:Rw) (mode sp ft:Int),o=OB pul outs mode s m sp ft++Ac K c
theorem gdK {K:Kf} (h:KOK K):Gd K 0 Ch:=⟨rfl,⟨by decide,by simp⟩,λh=>(by cases h),SB h.plan,by decide⟩
structure Cm (c : Cv) : Prop where
 on:c.on=true->c.m1=0
 aH:c.aH≠0->c.m1=0
 aG:c.aG=false
structure Mt (c d : Cv) : Prop where
 m0:d.m0=c.m0
 m1:d.m1=c.m1
 m2:d.m2=c.m2
 aG:d.aG=c.aG
 g0:d.g0=c.g0
 g1:d.g1=c.g1
 g2:d.g2=c.g2
 o2:d.o2=c.o2
theorem Mt.rfl {c:Cv}:Mt c c:=⟨Eq.refl _,Eq.refl _,Eq.refl _,Eq.refl _,Eq.refl _,Eq.refl _,Eq.refl _,Eq.refl _⟩
theorem Mt.trans {a b c:Cv} (h:Mt a b) (g:Mt b c):Mt a c:=
 ⟨g.m0.trans h.m0,g.m1.trans h.m1,g.m2.trans h.m2,g.aG.trans h.aG,g.g0.trans h.g0,g.g1.trans h.g1,g.g2.trans h.g2,g.o2.trans h.o2⟩
theorem Mt.cm {c d:Cv} (h:Mt c d) (h1:c.m1=0) (ht:c.aG=false):Cm d:=
 ⟨λ_=>h.m1.trans h1,λ_=>h.m1.trans h1,h.aG.trans ht⟩
theorem Zi4 (K:Kf) (c:Cv):Mt c (Il K c).2:=by
 have done:∀d:Cv,Mt c d->Mt c (H5 d):=λd k=>k.trans ⟨rfl,rfl,rfl,rfl,rfl,rfl,rfl,rfl⟩;have cmd:∀n' sp:Int,Mt c (Ka c n' sp):=λn' sp=>⟨rfl,rfl,rfl,rfl,rfl,rfl,rfl,rfl⟩;unfold Il;split
 ·split
  ·exact done c Mt.rfl
  ·exact Mt.rfl
 ·split
  ·exact done c Mt.rfl
  ·split
   ·split
    ·exact Mt.rfl
    ·exact done c Mt.rfl
   ·split
    ·split
     ·exact done _ (cmd _ _)
     ·exact cmd _ _
    ·split
     ·exact⟨rfl,rfl,rfl,rfl,rfl,rfl,rfl,rfl⟩
     ·exact done c Mt.rfl
theorem O6 (K:Kf) (c:Cv):Mt c (Cc K c).2:=Mt.trans (b:=C8 c) ⟨rfl,rfl,rfl,rfl,rfl,rfl,rfl,rfl⟩ (Zi4 K _)
theorem Si (K:Kf) (c:Cv) (i:Int):Mt c (Dc K c i).2:=Mt.trans (b:={c with on:=true,idx:=i,aM:=FI K c i,cnt:=0}) ⟨rfl,rfl,rfl,rfl,rfl,rfl,rfl,rfl⟩ (O6 K _)
structure Os (c d : Cv) : Prop where
 on:d.on=c.on
 aH:d.aH=c.aH
 aG:d.aG=c.aG
 gu:(d.g0=c.g0/\d.g1=c.g1/\d.g2=c.g2)\/(c.g0=0/\d.g0=1/\d.g1=18)
theorem Os.trans {a b c:Cv} (h:Os a b) (g:Os b c):Os a c:=by
 refine⟨g.on.trans h.on,g.aH.trans h.aH,g.aG.trans h.aG,?_⟩;rcases h.gu with⟨h0,h1,h2⟩|⟨h0,h1,h2⟩<;>rcases g.gu with⟨k0,k1,k2⟩|⟨k0,k1,k2⟩
 ·exact .inl ⟨k0.trans h0,k1.trans h1,k2.trans h2⟩
 ·exact .inr ⟨h0.symm.trans k0,k1,k2⟩
 ·exact .inr ⟨h0,k0.trans h1,k1.trans h2⟩
 ·omega
theorem Qny (c:Cv):Os c (Cp c):=by
 unfold Cp;split
 ·rename_i h;exact⟨rfl,rfl,rfl, .inr ⟨h,rfl,rfl⟩⟩
 ·exact⟨rfl,rfl,rfl, .inl ⟨rfl,rfl,rfl⟩⟩
theorem Qpv (K:Kf) (c:Cv) (l:Int):Os c (ET K c l):=⟨rfl,rfl,rfl, .inl ⟨rfl,rfl,rfl⟩⟩
theorem Q4n (c:Cv) (o:List AC):Os c (Iq c o):=⟨rfl,rfl,rfl, .inl ⟨rfl,rfl,rfl⟩⟩
theorem Q7w (K:Kf) (c:Cv) (l:Int) (s:Sgm):Os c (Ft K c l s):=by
 unfold Ft;split
 ·exact(Qpv K c l).trans ⟨rfl,rfl,rfl, .inl ⟨rfl,rfl,rfl⟩⟩
 ·unfold II;split
  ·exact(Qpv K c l).trans ⟨rfl,rfl,rfl, .inl ⟨rfl,rfl,rfl⟩⟩
  ·split
   ·exact(Q4n c _).trans (Qny _)
   ·exact Q4n c _
theorem Qyu (K:Kf) (c:Cv) (l:Int):Os c (E6 K c l):=by
 unfold E6;split
 ·exact Qpv K c l
 ·split
  ·exact Q7w K c l _
  ·split
   ·exact Os.trans (b:=goC K c (sgK K c)) ⟨rfl,rfl,rfl, .inl ⟨rfl,rfl,rfl⟩⟩ (Q7w K _ l _)
   ·split
    ·exact Qny c
    ·exact⟨rfl,rfl,rfl, .inl ⟨rfl,rfl,rfl⟩⟩
def Gg (c:Cv):Prop:=(c.g0=0/\c.g1=0/\c.g2= -1)\/(c.g0=1/\c.g1=18)
theorem Os.gg {c d:Cv} (h:Os c d) (g:Gg c):Gg d:=by
 rcases h.gu with⟨h0,h1,h2⟩|⟨h0,h1,h2⟩
 ·unfold Gg;rw[h0,h1,h2];exact g
 ·exact .inr ⟨h1,h2⟩
theorem Mt.gg {c d:Cv} (h:Mt c d) (g:Gg c):Gg d:=by unfold Gg;rw[h.g0,h.g1,h.g2];exact g
theorem Os.cm {c d:Cv} (h:Os c d) (h1:c.on=false) (h2:c.aH=0) (ht:c.aG=false):Cm d:=
 ⟨λe=>(by rw[h.on,h1]at e;cases e),λe=>absurd (h.aH.trans h2) e,h.aG.trans ht⟩
theorem Z5t (K:Kf) {c:Cv} (hs:c.aL=true->c.m1=0) (h1:c.on=false) (h2:c.aH=0) (ht:c.aG=false):Cm (Do K c).2/\(Gg c->Gg (Do K c).2):=by
 unfold Do;split
 ·rename_i h;have m:=hs h.1;split
  ·split
   ·have b:=Si K c (AR K c).2;have f:=Qny (Dc K c (AR K c).2).2;refine⟨?_,λg=>f.gg (b.gg g)⟩;have e:(Cp (Dc K c (AR K c).2).2).m1=0:=by
     unfold Cp;split
     ·exact b.m1.trans m
     ·exact b.m1.trans m
    exact⟨λ_=>e,λ_=>e,f.aG.trans (b.aG.trans ht)⟩
   ·have b:=Si K c (AR K c).2;exact⟨b.cm m ht,b.gg⟩
  ·split
   ·exact⟨⟨λ_=>m,λ_=>m,ht⟩,id⟩
   ·exact⟨⟨λ_=>m,λ_=>m,ht⟩,id⟩
 ·have o:=Qyu K c (AR K c).1;exact⟨o.cm h1 h2 ht,o.gg⟩
theorem Zra (K:Kf) (c:Cv) (E:List Evn):(B1 K c E).aL=true->(B1 K c E).m1=0:=by
 unfold B1 JG;generalize ED K (Cq (Eb (BZ c E)))=d;intro h;have h:FZ d=true:=h;unfold FZ at h;rw[ak]at h;exact eq_of_beq h.1
theorem Zpt {K:Kf} {c:Cv} (h:Cm c) (E:List Evn):Cm (B1 K c E):=by
 have s:=Uk K c E;exact⟨λe=>s.m1.trans (h.on (s.on.symm.trans e)),λe=>s.m1.trans (h.aH λq=>e (s.aH.trans q)),s.aG.trans h.aG⟩
theorem Zll {K:Kf} {c:Cv} (h:Cm c) (E:List Evn):Cm (stC K c E).2/\(Gg (B1 K c E)->Gg (stC K c E).2):=by
 have hp:=Zpt (K:=K) h E;have hs:=Zra K c E;unfold stC;generalize B1 K c E=d at*;unfold C2;by_cases c1:d.g0=2
 ·rw[aa c1,ab (by simp)];exact⟨⟨λ_=>rfl,λ_=>rfl,hp.aG⟩,id⟩
 ·rw[ab c1];by_cases c2:d.aH≠0
  ·rw[aa c2,ab c2];exact⟨hp,id⟩
  ·rw[ab c2,ab (show¬(d.aG=true/\d.aL=true)from λw=>by have:=w.1;rw[hp.aG]at this;cases this)];by_cases c3:d.on=true
   ·rw[aa c3,ab (show¬(Cc K d).1=0 from Qet K _)];exact⟨(O6 K d).cm (hp.on c3) hp.aG,(O6 K d).gg⟩
   ·rw[ab c3,aa rfl];exact Z5t K hs (by simpa using c3) (Decidable.not_not.1 c2) hp.aG
theorem Z25 {K:Kf} {c:Cv} (h:Cm c) (E:List Evn):Cm (C3 K c E)/\(Gg (B1 K c E)->Gg (C3 K c E)):=by
 have hs:=Zll (K:=K) h E;unfold C3;generalize(stC K c E).2=d at*;obtain⟨n,q,e⟩:=NO K d (Bp K d);rw[e];exact⟨⟨hs.1.on,hs.1.aH,hs.1.aG⟩,hs.2⟩
theorem Znw {c:Cv} {k n:Int} (hk:k<=6):(evC c k n).g0=c.g0/\(evC c k n).g1=c.g1/\(evC c k n).g2=c.g2:=by
 have hs:HL k n=false:=by
  unfold HL;rw[beF (show k≠9 by omega),beF (show k≠8 by omega)];rfl
 refine⟨?_,?_,?_⟩
 ·show(if k=10 then 2 else if k=11 then 0 else if HL k n=true then(if c.g0=2 then 2 else 1)else c.g0)=_;rw[ab (by omega),ab (by omega),ab (by rw[hs];simp)]
 ·show(if k=10 then 22 else if k=11 then 0 else if HL k n=true/\c.g0≠2/\c.g1=0 then(if k=9 then 21 else 20)else c.g1)=_;rw[ab (by omega),ab (by omega),ab (by rw[hs];simp)]
 ·show(if k=10 then-1 else if k=11 then-1 else if HL k n=true/\c.g0≠2/\c.g1=0 then(if k=9 then-1 else n)else c.g2)=_;rw[ab (by omega),ab (by omega),ab (by rw[hs];simp)]
theorem Qq3:∀(E:List Evn) (c:Cv),(∀e∈E,e.kind<=6)->(E.foldl (λc e=>evC c e.kind e.n) c).g0=c.g0/\(E.foldl (λc e=>evC c e.kind e.n) c).g1=c.g1/\(E.foldl (λc e=>evC c e.kind e.n) c).g2=c.g2
 |[],c,_=>⟨rfl,rfl,rfl⟩
 |e::E,c,hk=>by
  have h:=Qq3 E (evC c e.kind e.n) λx hx=>hk x (by simp[hx]);have g:=Znw (c:=c) (k:=e.kind) (n:=e.n) (hk e (by simp));exact⟨h.1.trans g.1,h.2.1.trans g.2.1,h.2.2.trans g.2.2⟩
theorem Zov (K:Kf) (c:Cv) (E:List Evn):(B1 K c E).g0=(BZ c E).g0/\(B1 K c E).g1=(BZ c E).g1/\(B1 K c E).g2=(BZ c E).g2/\((BZ c E).g0≠0->(B1 K c E).o2=true):=by
 unfold B1;generalize BZ c E=d;have h1:(Eb d).g0=d.g0/\(Eb d).g1=d.g1/\(Eb d).g2=d.g2/\(d.g0≠0->(Eb d).o2=true):=by
  unfold Eb;split
  ·exact⟨rfl,rfl,rfl,λ_=>rfl⟩
  ·rename_i h;exact⟨rfl,rfl,rfl,λe=>absurd (.inr e) h⟩
 have h2:∀d:Cv,(ED K d).g0=d.g0/\(ED K d).g1=d.g1/\(ED K d).g2=d.g2/\(ED K d).o2=d.o2:=λd=>by
  unfold ED;split
  ·exact⟨rfl,rfl,rfl,rfl⟩
  ·exact⟨rfl,rfl,rfl,rfl⟩
 have h3:=h2 (Cq (Eb d));exact⟨h3.1.trans h1.1,h3.2.1.trans h1.2.1,h3.2.2.1.trans h1.2.2.1,λe=>h3.2.2.2.trans (h1.2.2.2 e)⟩
theorem Zoq {K:Kf} {c:Cv} {E:List Evn} (hk:∀e∈E,e.kind<=6) (h:Gg c):Gg (B1 K c E):=by
 have g:=Zov K c E;have f:=Qq3 E (Jd c) hk;unfold Gg;rw[g.1,g.2.1,g.2.2.1];unfold BZ;rw[f.1,f.2.1,f.2.2];exact h
def Sp (c:Cv):Prop:=c.g0=1/\c.g1=21/\c.g2= -1/\c.o2=true
theorem cm0:Cm Ch:=⟨λh=>(by cases h),λ_=>rfl,rfl⟩
theorem Q83 (K:Kf) (c:Cv):LC (Ac K c)=some (I c.m0::I c.m1::I c.m2::I c.m3::I c.m4::I c.m5::Ac K c):=Zrb K c
theorem Z3o {a k c v x:Int} (hp:Plan3 a k c) (hr:Cx a k v x) (c0:v<=0):AF a k v x=0:=by
 have hc:=closed hp hr;have hrg:=Fd hp hc.1;have hv:v=0:=by have:=Fd hp hr;omega
 obtain⟨B,hB⟩:∃B,B=bs k v 20 (-x-k) (min (k-x) a):=⟨_,rfl⟩;obtain⟨q1,q2,q3,q4,q5,q6⟩:=XM hp hr hB;have:=JY (k:=k) (b:=B) (by have:=hp.b;omega);have hx:=hr.2.2.2.2 hv;have ha:=hp.a;have e:AF a k v x= -B:=by unfold AF;rw[hB]
 rw[e];rcases q5 with q5|q5
 ·omega
 ·by_cases hn:B+1<=0
  ·rw[I3 hn]at q5;omega
  ·omega
def stL (K:Kf) (c:Cv):List Int:=(AG K.pa K.pb c.m1 c.m2).1
theorem Qyz {K:Kf} (h:Plan3 K.pa K.pb K.pc) {c:Cv} (hz:Mo K c) (h1:c.m1<=0):stL K c=[]:=by
 unfold stL;rw[(Tj h hz).2,aa h1]
theorem LR {K:Kf} {c d:Cv} (h1:d.m1=c.m1) (h2:d.m2=c.m2):stL K d=stL K c:=by unfold stL;rw[h1,h2]
def Nx (K:Kf) (c e:Cv):Prop:=(stL K c=[]/\stL K e=[]/\e.m0=c.m0)\/(stL K c=e.m1::stL K e/\e.m0=c.m0+e.m1)
theorem Nx.still {K:Kf} (hp:Plan3 K.pa K.pb K.pc) {c e:Cv} (hz:Mo K c) (h:c.m1=0) (m:Mt c e):Nx K c e:=by
 have h0:=Qyz hp hz (by omega);exact .inl ⟨h0,(LR m.m1 m.m2).trans h0,m.m0⟩
theorem Sp.mt {c d:Cv} (h:Sp c) (m:Mt c d):Sp d:=⟨m.g0.trans h.1,m.g1.trans h.2.1,m.g2.trans h.2.2.1,m.o2.trans h.2.2.2⟩
theorem Q78 {a k c:Int} (hp:Plan3 a k c) {u:Int} (hu: -1000000000000000<=u/\u<=1000000000000000) {v x:Int} (hz:(AG a k v x).2=true) (x6 x7 x8:Int):
  DY [I a,I k,I c,I u,I v,I x,I x6,I x7,I x8]=some [I (BU u (AG a k v x).1),B true]:=by
 have key:∀{M:Fn},M [I a,I k,I c,I u,I v,I x,I x6,I x7,I x8]=some [.view Aa ((BG u (AG a k v x).1).map Aq),B (AG a k v x).2]->Lw M [I a,I k,I c,I u,I v,I x,I x6,I x7,I x8]=some [I (BU u (AG a k v x).1),B true]:=by
  intro M hM;have hb:=QF hp v x;rw[hz]at hM;rw[TO];generalize(AG a k v x).1=l at*;refine eB hM (eF rfl ?_);show cond ((((BG u l).map Aq).length:Int)==0) _ (cond (decide (0<=wrap .i64 ((((BG u l).map Aq).length:Int)-1))&&decide (wrap .i64 ((((BG u l).map Aq).length:Int)-1)<(((BG u l).map Aq).length:Int))) (some [I (Ag (nth .dead (nth [] ((BG u l).map Aq) (wrap .i64 ((((BG u l).map Aq).length:Int)-1)).toNat) 0)),B true]) none)=_;have el:((BG u l).map Aq).length=l.length:=by rw[ag,JI]
  rw[el];refine eC (λe=> ?_) λe=> ?_
  ·have e:(l.length:Int)=0:=eq_of_beq e;have:l=[]:=List.length_eq_zero_iff.1 (by omega);subst this;rfl
  ·have e:(l.length:Int)≠0:=by simpa using e
   rw[Ae (x:=(l.length:Int)-1) (by omega)];refine eT (by simp;omega) ?_;have hl:=Qlq u l (by intro q;rw[q]at e;simp at e);rw[JI]at hl;have en:((l.length:Int)-1).toNat=l.length-1:=by omega
   have er:nth [] ((BG u l).map Aq) (l.length-1)=Aq (BU u l):=by
    rw[BP,List.getD,dl,hl];rfl
   rw[en,er];rfl
 exact key (Q8r hp hu v x x6 x7 x8)
theorem Zhp {MS MF:Fn} {p:Pth} {x:Ax3} {t:Trk} (hS:∀{way:Rw},way.length<=100000->(MS (pxt p x t [.view Aa way])).isSome=true)
  {a b c m0 m1 m2 m3 m4 m5 l:Int} {L:List Int} (hL:L.length<=4096) (hF:MF [I a,I b,I c,I m0,I m1,I m2,I m3,I m4,I m5]=some [.view Aa ((BG m0 L).map Aq),B true]):
  Out (λo=>bA o 0=true->BU m0 L<=wrap .i64 (l*256)) (TK MS MF (pxt p x t [I a,I b,I c,I m0,I m1,I m2,I m3,I m4,I m5,I l])):=by
 rw[Q7d];refine .bind (p:=λo=>o=_) ⟨_,hF,rfl⟩ λo e=> ?_;subst e;have no:∀{X:List AC},X=[B false]->bA X 0=true->BU m0 L<=wrap .i64 (l*256):=λe h=>by subst e;simp[bA,nth,C7]at h
 have ew:wA [AC.view Aa ((BG m0 L).map Aq),B true] 0=(BG m0 L).map Aq:=rfl;rw[ew];have el:((BG m0 L).map Aq).length=L.length:=by rw[ag,JI]
 have ee:0<L.length->Ag (nth .dead (nth [] ((BG m0 L).map Aq) ((((BG m0 L).map Aq).length:Int)-1).toNat) 0)=BU m0 L:=λhp=>by
  rw[el];have hl:=Qlq m0 L (by intro q;rw[q]at hp;simp at hp);rw[JI]at hl;have en:((L.length:Int)-1).toNat=L.length-1:=by omega
  have er:nth [] ((BG m0 L).map Aq) (L.length-1)=Aq (BU m0 L):=by
   rw[BP,List.getD,dl,hl];rfl
  rw[en,er];rfl
 have e0:L.length=0->BU m0 L=m0:=λh=>by rw[List.length_eq_zero_iff.1 h];rfl
 generalize(BG m0 L).map Aq=sp at*;refine .cond (λ_=> .some (no rfl)) λ_=> ?_;refine .cond (λc=> ?_) λc=> ?_
 ·have c:=Bt c;rw[Ae (x:=(sp.length:Int)-1) (by omega)];refine .cond (λ_=> ?_) λc=>by simp at c;omega
  rw[ee (by omega)];refine .cond (λ_=> .some (no rfl)) λc2=> ?_;have c2:=Bq c2;refine .cond (λ_=> ?_) λc=>by rw[B_ (by simp;omega)]at c;cases c
  refine .cond (λ_=> ?_) λc=>by rw[B_ (by simp;omega)]at c;cases c
  exact .ibind (hS (by simp;omega)) λ_ _=> .some λ_=>by omega
 ·have c:=Bq c;have e1:=e0 (by omega);refine .cond (λ_=> .some (no rfl)) λc2=> ?_;have c2:=Bq c2;refine .cond (λ_=> ?_) λc=>by rw[B_ (by simp;omega)]at c;cases c
  refine .cond (λ_=> ?_) λc=>by rw[B_ (by simp;omega)]at c;cases c
  exact .ibind (hS (by simp;omega)) λ_ _=> .some λ_=>by omega
def RE (pa pb m0 v x l:Int):Prop:=(AG pa pb v x).2=true/\BU m0 (AG pa pb v x).1<=wrap .i64 (l*256)
theorem Q9a {p:Pth} {x:Ax3} {t:Trk} (h:Fix p x t) {a b c:Int} (hp:Plan3 a b c) {m0:Int} (v z m3 m4 m5 l:Int) (hm:(AG a b v z).2=true-> -1000000000000000<=m0/\m0<=1000000000000000):
  Out (λo=>bA o 0=true->RE a b m0 v z l) (ID (pxt p x t [I a,I b,I c,I m0,I v,I z,I m3,I m4,I m5,I l])):=by
 by_cases hz:(AG a b v z).2=true
 ·have hF:=Q8r hp (hm hz) v z m3 m4 m5;rw[hz]at hF;have:=Zhp (MS:=NV) (MF:=EW) (l:=l) (Qqu h) (QF hp v z).1 hF;exact this.mono λo ho hb=>⟨hz,ho hb⟩
 ·exact(Z0 h hp m0 v z m3 m4 m5 l).mono λo ho hb=>absurd (ho hb) hz
theorem Q2u {K:Kf} (h:KOK K) {c:Cv} (hz:Mo K c) (hm: -300000000000<=c.m0/\c.m0<=300000000000) (l:Int) (b0:Bool):Out (Pe c.m0 c.m1 c.m3 c.m4 (λv=>RE K.pa K.pb (wrap .i64 (c.m0+v)) v (wrap .i64 (v-c.m1)) l) λr=>r=AF K.pa K.pb c.m1 c.m2)
  (E8 (pxt K.p K.x K.t [I K.pa,I K.pb,I K.pc,I c.o0,I c.o1,B b0,B c.o3,B c.o4,I c.m0,I c.m1,I c.m2,I c.m3,I c.m4,I c.m5,I l])):=
 Qu3 (F := λ_ => True) (by have := h.plan.b; omega) (Ty h.plan hz) (λv _ _ _ => Q9a h.f h.plan _ _ _ _ _ _ λhs => by
  have:=Fd h.plan (GG.1 hs).1;rw[Ae (by omega)];omega) (λv=>Q61 h.f ..) RW Qay (λ_ hj=>Qsk hj)
theorem Zu8 {K:Kf} (h:KOK K) {c:Cv} (hz:Mo K c) (hm: -300000000000<=c.m0/\c.m0<=300000000000) (l:Int) {lead:Int} (hl:i64 lead):Out (Qq c.m0 c.m1 c.m3 c.m4 (λv=>RE K.pa K.pb (wrap .i64 (c.m0+v)) v (wrap .i64 (v-c.m1)) l) λr=>r=AF K.pa K.pb c.m1 c.m2)
  (IA (pxt K.p K.x K.t [I K.pa,I K.pb,I K.pc,I c.o0,I c.o1,B c.o2,B c.o3,B c.o4,I c.m0,I c.m1,I c.m2,I c.m3,I c.m4,I c.m5,I l,I lead,I c.e0,I c.e1,I c.e2,I c.e3,I c.before,I c.s3])):=
 Q1e (Q2u h hz hm l false) (Ty h.plan hz) Qsf (λv => Q9a h.f h.plan _ _ _ _ _ _ λhs => by
  have:=Fd h.plan (GG.1 hs).1;rw[Ae (by omega)];omega) RW (λ_ hv=>Qtc hl hv) Qq5
def endC (K:Kf) (c:Cv):Int:=BU c.m0 (stL K c)
theorem Mt.endC {K:Kf} {c d:Cv} (h:Mt c d):endC K d=endC K c:=by
 unfold Go.Bm.endC;rw[LR h.m1 h.m2,h.m0]
theorem Zlk {K:Kf} (h:KOK K) {n:Int} {c e:Cv} (g:Gd K n c) (hn:0<=n/\n<=10000) {v:Int} (hv:v=wrap .i64 (c.m1+AF K.pa K.pb c.m1 c.m2)) (e0:e.m0=wrap .i64 (c.m0+v)) (e1:e.m1=v) (e2:e.m2=wrap .i64 (v-c.m1)):endC K e=endC K c:=by
 obtain⟨b1,b2,b3⟩:=Q9j h.plan g.mo hv;have hr:=Fd h.plan (GG.1 b3).1;have h0:=g.m0;rw[Ae (by omega)]at e0;obtain⟨-,s2⟩:=Tj h.plan g.mo;unfold endC stL;rw[e0,e1,e2,b2,s2,<-b1];by_cases c0:c.m1<=0
 ·rw[aa c0];have hb:=Z3o h.plan g.mo.ready c0;have hr2:=Fd h.plan g.mo.ready;have v0:v=0:=by omega
  have hq:(AG K.pa K.pb v (AF K.pa K.pb c.m1 c.m2)).1=[]:=by
   have hz:(AG K.pa K.pb v (AF K.pa K.pb c.m1 c.m2)).2=true:=by rw[<-b2];exact b3
   rw[(Tj h.plan hz).2,aa (by omega)]
  rw[hq,v0];show c.m0+0=c.m0;omega
 ·rw[ab c0];show _=BU (c.m0+v) _;rfl
def EndQ (K:Kf) (c d:Cv) (l:Int):Prop:=endC K d<=wrap .i64 (l*256)\/endC K d=endC K c
theorem EndQ.of {K:Kf} (h:KOK K) {n:Int} {c e:Cv} (g:Gd K n c) (hn:0<=n/\n<=10000) {v l:Int} (hv:RE K.pa K.pb (wrap .i64 (c.m0+v)) v (wrap .i64 (v-c.m1)) l\/∃r:Int,v=wrap .i64 (c.m1+r)/\r=AF K.pa K.pb c.m1 c.m2)
  (e0:e.m0=wrap .i64 (c.m0+v)) (e1:e.m1=v) (e2:e.m2=wrap .i64 (v-c.m1)):EndQ K c e l:=by
 rcases hv with hv|⟨r,hv,rfl⟩
 ·refine .inl ?_;unfold endC stL;rw[e0,e1,e2];exact hv.2
 ·exact .inr (Zlk h g hn hv e0 e1 e2)
theorem Wh {K:Kf} {n:Int} {c:Cv} (g:Gd K n c) (hn:0<=n/\n<=10000): -300000000000<=c.m0/\c.m0<=300000000000:=by have:=g.m0;omega
theorem SV {K:Kf} (h:KOK K) {n:Int} {c:Cv} (g:Gd K n c) (hn:0<=n/\n<=10000) (l:Int):EndQ K c (ET K c l) l:=
 EndQ.of h g hn (v:=nxV K c l) (Zqw (Q2u h g.mo (Wh g hn) l c.o2)) rfl rfl rfl
theorem EndQ.same {K:Kf} {c d e:Cv} {l:Int} (h:EndQ K c d l) (e0:e.m0=d.m0) (e1:e.m1=d.m1) (e2:e.m2=d.m2):EndQ K c e l:=by
 unfold EndQ at*;have:endC K e=endC K d:=by unfold endC;rw[LR e1 e2,e0]
 rw[this];exact h
theorem Qk9 (c:Cv):(Cp c).m0=c.m0/\(Cp c).m1=c.m1/\(Cp c).m2=c.m2:=by unfold Cp;split<;>exact⟨rfl,rfl,rfl⟩
theorem Zr5 {K:Kf} (h:KOK K) {n:Int} {c:Cv} (g:Gd K n c) (hn:0<=n/\n<=10000) (l:Int) {lead:Int} (hl:i64 lead):EndQ K c (II K c l lead) l:=by
 unfold II;split
 ·exact(SV h g hn l).same rfl rfl rfl
 ·have key:EndQ K c (Iq c (thO K c l lead)) l:=by
   obtain⟨o,h1,v,s,b,z,y,e,rfl,h2⟩:=Zu8 h g.mo (Wh g hn) l hl;have h1:IA (thL K c l lead)=some (Eh c.m0 c.m1 c.m3 c.m4 v++[I s,I b,I z,I y,I e]):=h1;have e2:thO K c l lead=Eh c.m0 c.m1 c.m3 c.m4 v++[I s,I b,I z,I y,I e]:=by unfold thO;rw[h1];rfl
   rw[e2];exact EndQ.of h g hn h2 rfl rfl rfl
  split
  ·have:=Qk9 (Iq c (thO K c l lead));exact key.same this.1 this.2.1 this.2.2
  ·exact key
theorem Q6f {K:Kf} (h:KOK K) {n:Int} {c:Cv} (g:Gd K n c) (hn:0<=n/\n<=10000) (l:Int) {s:Sgm} (hs:i64 s.lead):EndQ K c (Ft K c l s) l:=by
 unfold Ft;split
 ·exact(SV h g hn l).same rfl rfl rfl
 ·exact Zr5 h g hn l hs
theorem Zsk {K:Kf} (h:KOK K) {n:Int} {c:Cv} (g:Gd K n c) (hn:0<=n/\n<=10000) (l:Int):EndQ K c (E6 K c l) l:=by
 unfold E6;by_cases e:(sgK K c).lead=0
 ·rw[aa (.inl e)];exact SV h g hn l
 ·have hs:=(Gt h e).2.2;split
  ·exact SV h g hn l
  ·split
   ·exact Q6f h g hn l hs
   ·split
    ·exact Q6f h (g.go (sgK K c)) hn l hs
    ·split
     ·have:=Qk9 c;refine .inr ?_;unfold endC;rw[LR this.2.1 this.2.2,this.1]
     ·exact .inr rfl
structure MarksOK (K : Kf) : Prop where
 fw:Fw K.t K.len
 closed:K.closed=true
 at_:∀i:Int,0<=i->i<K.p.aC.length->0<=(mkK K i).at_/\(mkK K i).at_<=K.len
 mono:∀i j:Int,0<=i->i<=j->j<K.p.aC.length->(mkK K i).at_<=(mkK K j).at_
theorem Qt7 {A:Int->Bool} {c:Cv} {known frm:Int} (hA:∀k,A k=true->Ec k c=true):∀(l:List Mrk) (i:Nat),(∀m∈l,A m.kind=true->frm<=m.at_/\m.at_<=known)->
  (En c known frm l i=(known,-1)/\∀m∈l,A m.kind=false)\/∃j,∃hj:j<l.length,En c known frm l i=(l[j].at_,((i+j:Nat):Int))/\Ec l[j].kind c=true/\∀k,∀hk:k<j,A (l[k]'(by omega)).kind=false
 |[],_,_=> .inl ⟨rfl,λm hm=>by cases hm⟩
 |m::l,i,h=>by
  unfold En;by_cases hc:Ec m.kind c=true/\frm<=m.at_/\m.at_<=known
  ·rw[aa hc];exact .inr ⟨0,by simp,rfl,hc.1,λk hk=>by omega⟩
  ·rw[ab hc];have ha:A m.kind=false:=by
    cases e:A m.kind
    ·rfl
    ·exact absurd ⟨hA _ e,h m (by simp) e⟩ hc
   rcases Qt7 hA l (i+1) λq hq=>h q (by simp[hq])with⟨h1,h2⟩|⟨j,hj,h1,h2,h3⟩
   ·refine .inl ⟨h1,λq hq=> ?_⟩;rcases ay.1 hq with rfl|hq
    ·exact ha
    ·exact h2 q hq
   ·refine .inr ⟨j+1,by simpa using hj,?_,by simpa using h2,λk hk=> ?_⟩
    ·rw[h1];have:i+1+j=i+(j+1):=by omega
     rw[this];rfl
    ·cases k with
     |zero=>exact ha
     |succ k=>exact h3 k (by omega)
theorem Zb4 {A:Int->Bool} {K:Kf} {c:Cv} {known frm:Int} (hA:∀k,A k=true->Ec k c=true) (hn:0<=c.next) (hm:∀i:Int,c.next<=i->i<K.p.aC.length->A (mkK K i).kind=true->frm<=(mkK K i).at_/\(mkK K i).at_<=known):
  (BH K c known frm=(known,-1)/\∀i:Int,c.next<=i->i<K.p.aC.length->A (mkK K i).kind=false)\/
  ∃j:Int,BH K c known frm=((mkK K j).at_,j)/\c.next<=j/\j<K.p.aC.length/\Ec (mkK K j).kind c=true/\∀i:Int,c.next<=i->i<j->A (mkK K i).kind=false:=by
 have hmx:(max c.next 0).toNat=c.next.toNat:=by rw[Int.max_eq_left hn]
 have ek:∀(k:Nat) (hk:k<(K.p.aC.drop c.next.toNat).length),(K.p.aC.drop c.next.toNat)[k]=mkK K ((c.next.toNat+k:Nat):Int):=λk hk=>by
  rw[List.getElem_drop];unfold mkK;rw[aj,List.getD,ai (by rw[cy]at hk;omega)];rfl
 have em:∀{i:Int},c.next<=i->i<K.p.aC.length->∃k,∃hk:k<(K.p.aC.drop c.next.toNat).length,mkK K i=(K.p.aC.drop c.next.toNat)[k]/\(k:Int)=i-c.next:=fun{i} h1 h2=>by
  refine⟨(i-c.next).toNat,by rw[cy];omega,?_,by omega⟩;rw[ek];have:((c.next.toNat+(i-c.next).toNat:Nat):Int)=i:=by omega
  rw[this]
 have hall:∀m∈K.p.aC.drop c.next.toNat,A m.kind=true->frm<=m.at_/\m.at_<=known:=λm hm' ha=>by
  obtain⟨k,hk,rfl⟩:=List.mem_iff_getElem.1 hm';rw[ek k hk]at ha⊢;rw[cy]at hk;exact hm _ (by omega) (by omega) ha
 unfold BH;rw[hmx];rcases Qt7 hA _ c.next.toNat hall with⟨h1,h2⟩|⟨j,hj,h1,h2,h3⟩
 ·refine .inl ⟨h1,λi i1 i2=> ?_⟩;obtain⟨k,hk,e,-⟩:=em i1 i2;rw[e];exact h2 _ (bn hk)
 ·rw[ek j hj]at h1 h2;have hj2:=hj;rw[cy]at hj2;refine .inr ⟨_,h1,by omega,by omega,h2,λi i1 i2=> ?_⟩;obtain⟨k,hk,e,e2⟩:=em (i:=i) i1 (by omega);rw[e];exact h3 k (by omega)
theorem Q56 {K:Kf} (h:KOK K) (c:Cv):c.m0<=endC K c:=(Qf7 c.m0 (stL K c) (QF h.plan c.m1 c.m2).2).1
theorem Zlw {K:Kf} (h:KOK K) {n:Int} {c:Cv} (g:Gd K n c) (hn:0<=n/\n<=10000):Lm K c=endC K c:=by
 have:=Wh g hn;unfold Lm one;rw[Q78 h.plan (by omega) g.mo];rfl
def Jm (A:Int->Bool) (K:Kf) (c:Cv):Prop:=∀i:Int,c.next<=i->i<K.p.aC.length->A (mkK K i).kind=true->endC K c<=256*A9 K.t (mkK K i).at_
theorem Zzj {K:Kf} (h:KOK K) (mk:MarksOK K) {r z:Int} (h0:0<=r) (z0:0<=z) (z1:z<=K.len) (hr:r<=256*A9 K.t z):HJ K r<=z:=by
 have hw:=mk.fw.wh z z0 z1;have hl:=mk.fw.len;have hi:i64 K.len:=h.len;unfold i64 at hi;have hu:C_ r=(r+255)/256:=by
  unfold C_;rw[Ae (x:=r+256) (by omega),Ae (x:=r+256-1) (by omega),bj (by omega)];rw[Ae (by omega)];omega
 have u0:0<=C_ r:=by omega
 have u1:C_ r<=A9 K.t z:=by omega
 have hp:=mk.fw.le z0 z1 u1;unfold HJ;split
 ·next hne=>
  have hlt:AK K.t (C_ r)<z:=by
   apply Decidable.byContradiction;intro q;have e:AK K.t (C_ r)=z:=by omega
   have:=mk.fw.ge z0 z1 u0 (by omega);rw[e]at hne;omega
  rw[Ae (by have:=(mk.fw.rg (C_ r)).1;omega)];omega
 ·exact hp
theorem Zpo {A:Int->Bool} {K:Kf} (h:KOK K) (mk:MarksOK K) {n:Int} {c:Cv} (g:Gd K n c) (hn:0<=n/\n<=10000) (hA:∀k,A k=true->Ec k c=true) (h0:0<=c.m0) (hx:0<=c.next) (hj:Jm A K c):
  (AR K c=(A9 K.t K.len,-1)/\∀i:Int,c.next<=i->i<K.p.aC.length->A (mkK K i).kind=false)\/
  ∃j:Int,AR K c=(A9 K.t (mkK K j).at_,j)/\c.next<=j/\j<K.p.aC.length/\Ec (mkK K j).kind c=true/\∀i:Int,c.next<=i->i<j->A (mkK K i).kind=false:=by
 have hk:EF K=K.len:=by unfold EF;rw[aa mk.closed]
 have he:=Q56 h c;unfold AR;rw[Zlw h g hn,hk];have hw:=Zb4 (K:=K) (known:=K.len) (frm:=HJ K (endC K c)) hA hx λi i1 i2 ha=>by
  have hm:=mk.at_ i (by omega) i2;exact⟨Zzj h mk (by omega) hm.1 hm.2 (hj i i1 i2 ha),hm.2⟩
 rcases hw with⟨h1,h2⟩|⟨j,h1,h2⟩
 ·rw[h1];exact .inl ⟨rfl,h2⟩
 ·rw[h1];exact .inr ⟨j,rfl,h2⟩
theorem Jm.move {A:Int->Bool} {K:Kf} (h:KOK K) (mk:MarksOK K) {n:Int} {c e:Cv} (g:Gd K n c) (hn:0<=n/\n<=10000) (hA:∀k,A k=true->Ec k c=true) (h0:0<=c.m0) (hx:0<=c.next) (hj:Jm A K c)
  (he:EndQ K c e (AR K c).1) (hne:e.next=c.next):Jm A K e:=by
 intro i i1 i2 ha;rw[hne]at i1;rcases he with he|he
 ·rcases Zpo h mk g hn hA h0 hx hj with⟨h1,h2⟩|⟨j,h1,h2,h3,h4,h5⟩
  ·rw[h2 i i1 i2]at ha;cases ha
  ·rw[h1]at he;dsimp only at he;have hji:j<=i:=by
    apply Decidable.byContradiction;intro q;rw[h5 i i1 (by omega)]at ha;cases ha
   have hmj:=mk.at_ j (by omega) h3;have hmi:=mk.at_ i (by omega) i2;have hw:=mk.fw.wh _ hmj.1 hmj.2;have hl:=mk.fw.len;have:=mk.fw.wmono hmj.1 (mk.mono j i (by omega) hji i2) hmi.2;rw[Ae (by omega)]at he;omega
 ·rw[he];exact hj i i1 i2 ha
theorem Q4y {K:Kf} (h:KOK K) {n:Int} {c:Cv} (g:Gd K n c) (hn:0<=n/\n<=10000) {v:Int} (hv:(AG K.pa K.pb v (wrap .i64 (v-c.m1))).2=true\/∃r:Int,v=wrap .i64 (c.m1+r)/\r=AF K.pa K.pb c.m1 c.m2):c.m0<=wrap .i64 (c.m0+v):=by
 have h0:=g.m0;have hr:=Fd h.plan (GG.1 (Q7u h g.mo hv)).1;rw[Ae (by omega)];omega
theorem Qt6 {K:Kf} (h:KOK K) {n:Int} {c:Cv} (g:Gd K n c) (hn:0<=n/\n<=10000) (l:Int):c.m0<=(ET K c l).m0:=Q4y h g hn (Qiz h g l).2
theorem Qae (c:Cv):(Cp c).m0=c.m0:=by unfold Cp;split<;>rfl
theorem Q58 {K:Kf} (h:KOK K) {n:Int} {c:Cv} (g:Gd K n c) (hn:0<=n/\n<=10000) (l:Int) {s:Sgm} (hs:i64 s.lead):c.m0<=(Ft K c l s).m0:=by
 have gp:=Qt6 h g hn l;unfold Ft;split
 ·exact gp
 ·unfold II;split
  ·exact gp
  ·obtain⟨-,v,s',b,z,y,e,h2,h3⟩:=Y1 h g l hs;have e1:gA (thO K c l s.lead) 1=v:=by rw[h2];rfl
   have up:=Q4y h g hn h3;have e2:(Iq c (thO K c l s.lead)).m0=wrap .i64 (c.m0+v):=by
    show wrap .i64 (c.m0+gA (thO K c l s.lead) 1)=_;rw[e1]
   split
   ·rw[Qae,e2];exact up
   ·rw[e2];exact up
theorem Zgw {K:Kf} (h:KOK K) {n:Int} {c:Cv} (g:Gd K n c) (hn:0<=n/\n<=10000) (l:Int):c.m0<=(E6 K c l).m0:=by
 unfold E6;split
 ·exact Qt6 h g hn l
 ·rename_i hx;have hl:(sgK K c).lead≠0:=λe=>hx (.inl e);split
  ·exact Q58 h g hn l (Gt h hl).2.2
  ·split
   ·exact Q58 h (g.go (sgK K c)) hn l (Gt h hl).2.2
   ·split
    ·rw[Qae];exact cg _
    ·exact cg _
theorem Zap {K:Kf} (h:KOK K) {n:Int} {c:Cv} (g:Gd K n c) (hn:0<=n/\n<=10000):c.m0<=(Do K c).2.m0:=by
 unfold Do;split
 ·have b:=Si K c (AR K c).2;split
  ·split
   ·rw[Qae,b.m0];exact cg _
   ·rw[b.m0];exact cg _
  ·split
   ·exact cg _
   ·exact cg _
 ·exact Zgw h g hn _
theorem Zcm {K:Kf} (h:KOK K) {n:Int} {c:Cv} (g:Gd K n c) (hn:0<=n/\n<=10000) (E:List Evn) (hg:(B1 K c E).g0≠2):c.m0<=(stC K c E).2.m0:=by
 have gd:=Ua g E;have e0:(B1 K c E).m0=c.m0:=(Uk K c E).m0;rw[<-e0];unfold stC;generalize B1 K c E=d at*;unfold C2;rw[ab hg];by_cases c2:d.aH≠0
 ·rw[aa c2,ab c2];exact cg _
 ·rw[ab c2];by_cases c4:d.aG=true/\d.aL=true
  ·rw[aa c4,ab (by simp)];exact cg _
  ·rw[ab c4];by_cases c3:d.on=true
   ·rw[aa c3,ab (show¬(Cc K d).1=0 from Qet K _),(O6 K d).m0];exact cg _
   ·rw[ab c3,aa rfl];exact Zap h gd hn
theorem Gg.ne2 {c:Cv} (h:Gg c):c.g0≠2:=by rcases h with h|h<;>omega
structure Ky (c d : Cv) : Prop where
 m0:d.m0=c.m0
 m1:d.m1=c.m1
 m2:d.m2=c.m2
 next:d.next=c.next
 on:d.on=c.on
 idx:d.idx=c.idx
 aM:d.aM=c.aM
 aH:d.aH=c.aH
 aG:d.aG=c.aG
 y0:d.y0=c.y0
 y1:d.y1=c.y1
 y2:d.y2=c.y2
theorem Ky.rfl {c:Cv}:Ky c c:=⟨Eq.refl _,Eq.refl _,Eq.refl _,Eq.refl _,Eq.refl _,Eq.refl _,Eq.refl _,Eq.refl _,Eq.refl _,Eq.refl _,Eq.refl _,Eq.refl _⟩
theorem Ky.trans {a b c:Cv} (h:Ky a b) (g:Ky b c):Ky a c:=
 ⟨g.m0.trans h.m0,g.m1.trans h.m1,g.m2.trans h.m2,g.next.trans h.next,g.on.trans h.on,g.idx.trans h.idx,g.aM.trans h.aM,g.aH.trans h.aH,g.aG.trans h.aG,g.y0.trans h.y0,g.y1.trans h.y1,g.y2.trans h.y2⟩
theorem Q4u:∀(E:List Evn) (c:Cv),Ky c (E.foldl (λc e=>evC c e.kind e.n) c)
 |[],_=>Ky.rfl
 |e::E,c=>Ky.trans (b:=evC c e.kind e.n) ⟨rfl,rfl,rfl,rfl,rfl,rfl,rfl,rfl,rfl,rfl,rfl,rfl⟩ (Q4u E _)
theorem Zim (K:Kf) (c:Cv) (E:List Evn):Ky c (B1 K c E):=by
 have h1:Ky c (BZ c E):=Ky.trans (b:=Jd c) ⟨rfl,rfl,rfl,rfl,rfl,rfl,rfl,rfl,rfl,rfl,rfl,rfl⟩ (Q4u E _);have h2:Ky (BZ c E) (Eb (BZ c E)):=by
  unfold Eb;split<;>exact⟨rfl,rfl,rfl,rfl,rfl,rfl,rfl,rfl,rfl,rfl,rfl,rfl⟩
 have h3:∀d,Ky d (ED K (Cq d)):=λd=>by
  unfold ED;split<;>exact⟨rfl,rfl,rfl,rfl,rfl,rfl,rfl,rfl,rfl,rfl,rfl,rfl⟩
 exact(h1.trans h2).trans ((h3 _).trans ⟨rfl,rfl,rfl,rfl,rfl,rfl,rfl,rfl,rfl,rfl,rfl,rfl⟩)
structure Mk (c d : Cv) : Prop where
 next:d.next=c.next
 on:d.on=c.on
 idx:d.idx=c.idx
 aM:d.aM=c.aM
structure Ix (A : Int -> Bool) (K : Kf) (c : Cv) : Prop where
 m0:0<=c.m0
 next:0<=c.next
 j:Jm A K c
 task:c.on=true->c.next<=c.idx/\c.idx<K.p.aC.length/\∀i:Int,c.next<=i->i<c.idx->A (mkK K i).kind=false
theorem Jm.sub {A:Int->Bool} {K:Kf} {c d:Cv} (h:Jm A K c) (he:endC K d=endC K c) (hn:c.next<=d.next):Jm A K d:=λi i1 i2 ha=>by
 rw[he];exact h i (by omega) i2 ha
theorem Ix.ky {A:Int->Bool} {K:Kf} {c d:Cv} (ix:Ix A K c) (k:Ky c d):Ix A K d:=by
 refine⟨by rw[k.m0];exact ix.m0,by rw[k.next];exact ix.next,ix.j.sub ?_ (by rw[k.next];omega),λho=> ?_⟩
 ·unfold endC;rw[LR k.m1 k.m2,k.m0]
 ·rw[k.on]at ho;rw[k.next,k.idx];exact ix.task ho
theorem Zng {K:Kf} {items:List Itm} (hp:K.p=Az items) {i:Int} (h0:0<=i) (h1:i<items.length):mkK K i=mkA items i.toNat:=by
 have hi:i.toNat<items.length:=by omega
 have hl:i.toNat<(Ao items items.length).aC.length:=by rw[Ta];simpa using hi
 unfold mkK;rw[hp,Qft];simp only;rw[List.getD,ai hl];simp only[Ta,List.getElem_map,List.getElem_range];rfl
theorem Qpg (items:List Itm):(Az items).aC.length=items.length:=by rw[Qft];simp[Ta]
def A1 (k:Int):Bool:=k==1||(k==2||(k==3||(k==4||k==6)))
def A2 (k:Int):Bool:=k==1||(k==2||k==6)
def Ws (K:Kf) (c:Cv):Prop:=c.on=true->A2 (mkK K c.idx).kind=true->c.aM=true
def Q1k (K:Kf):Nat->Nat
 |0=>0
 |i+1=>Q1k K i+if A2 (mkK K i).kind=true then 1 else 0
structure Sg (K : Kf) (c : Cv) (s : Nat) : Prop where
 ix:Ix A1 K c
 w:Ws K c
 n:Q1k K c.next.toNat<=s
 cm:Cm c
 gg:Gg c
theorem Q5j {p:Pth} {x:Ax3} {d:Pt} {m n u:Int} (hp:GoodPath p) (hx:Ax3OK x) (hm:0<=m/\m<=n) (hn:n<=Aw p.aE) (h0:0<=u) (hu:u<=(Bb p x d 0 m).length):
  u<=(Bb p x d 0 n).length/\AK (Bb p x d 0 m) u=AK (Bb p x d 0 n) u:=by
 obtain⟨d1,hc1,hs1,hdd1⟩:=NI (d:=d) (a:=0) (b:=m) (Q:=λ_ _=>True) hx hp (λ_ _ _ _ _ _ _ _=>trivial);obtain⟨d2,hc2,hs2,hdd2⟩:=NI (d:=d) (a:=0) (b:=n) (Q:=λ_ _=>True) hx hp (λ_ _ _ _ _ _ _ _=>trivial);have ht1:=RT d 0 m hx hp;have ht2:=RT d 0 n hx hp;have f1:=Rd (d:=d) (m:=m) hx hp ⟨hm.1,by omega⟩;have f2:=Rd (d:=d) (m:=n) hx hp ⟨by omega,hn⟩;have k1:=hc1.ch;have k2:=hc2.ch;have l1:=hc1.len;have l2:=hc2.len;by_cases hne:(Bb p x d 0 m).aD=[]
 ·have hz:u=0:=by
   rw[hne]at l1;simp only[BO]at l1;omega
  rw[hz,f1.zero,f2.zero];exact⟨f2.len.1,rfl⟩
 ·have hpf:PF (Bb p x d 0 m).aD (Bb p x d 0 n).aD:=Z3f hp ⟨cg _,by omega⟩ ⟨by omega,hn⟩ (.inl ⟨hm.1,hm.2⟩);have hlen:(Bb p x d 0 m).length<=(Bb p x d 0 n).length:=by rw[<-l1,<-l2];exact Q9u k1 k2 hpf
  have hne2:(Bb p x d 0 n).aD≠[]:=by
   intro e;rw[e]at hpf;cases hh:(Bb p x d 0 m).aD with
   |nil=>exact hne hh
   |cons _ _=>rw[hh]at hpf;exact absurd hpf (by simp[PF])
  have hcl:∀(t:Trk) v,0<=v->v<=t.length->clT t v=v:=by intro t v g1 g2;unfold clT A5;omega
  refine⟨by omega,?_⟩;rw[I6 ht1 _ hne,I6 ht2 _ hne2,hcl _ u h0 hu,hcl _ u h0 (by omega)];exact(Q7g x.a (λs=>s) Pt.x k1 hpf hne (by rw[l1];exact hu)).1
theorem Zao {J R:List Itm} (hright:∀j<(J++R).length,¬Bu (itA (J++R) j)) (hgJ:GoodPath (Az J)) (hg:GoodPath (Az (J++R))) {x:Ax3} {d:Pt} (hx:Ax3OK x):
  A9 (Bb (Az J) x d 0 (Aw (Az J).aE)) (BE J)<=A9 (Bb (Az (J++R)) x d 0 (Aw (Az (J++R)).aE)) (BE (J++R)):=by
 have f1:=Qol (d:=d) hx hgJ;have f2:=Qol (d:=d) hx hg;have s1:=Qcb hright;have s2:=Qcb (I:=J++R) (R:=[]) (by rw[List.append_nil];exact hright);have w2:=f2.wh (BE (J++R)) s2.1 s2.2.1;by_cases hne:(Az J).aE=[]
 ·have h0:BE J=0:=by
   have:=s1.2.1;rw[hne]at this;have e:Aw ([]:List Sgm)=0:=rfl;omega
  have:=f1.ge (z:=BE J) (u:=0) s1.1 s1.2.1 (cg _) (by rw[f1.zero,h0];exact cg _);omega
 ·obtain⟨⟨l,hl⟩,hst⟩:=Q3j hright;obtain⟨l2,hl2⟩:=TI J;obtain⟨l3,hl3⟩:=TI (J++R);have hrJ:=RP hright;have hs:=Qpm hrJ;rw[hl,dh]at hl3;have hle2:Bb (Az J) x d 0 (BE J)=Bb (Az (J++R)) x d 0 (BE J):=
   Zzg hl2 hl3 (hst hne) (P9 hrJ) (P9 hright) x d s1.1 (by rw[<-hs];exact cg _)
  have f0:=Rd (d:=d) (m:=BE J) hx hgJ ⟨s1.1,s1.2.1⟩;have w0:=f0.wh (BE J) s1.1 (cg _);have a1:A9 (Bb (Az J) x d 0 (Aw (Az J).aE)) (BE J)<=A9 (Bb (Az J) x d 0 (BE J)) (BE J):=by
   refine f1.ge s1.1 s1.2.1 w0.1 ?_;rw[<-(Q5j hgJ hx ⟨s1.1,s1.2.1⟩ (cg _) w0.1 w0.2.1).2,w0.2.2.1];exact cg _
  have a2:A9 (Bb (Az J) x d 0 (BE J)) (BE J)<=A9 (Bb (Az (J++R)) x d 0 (Aw (Az (J++R)).aE)) (BE (J++R)):=by
   apply Decidable.byContradiction;intro q;have q1:=w0.2.2.2 _ w2.1 (by omega);rw[hle2]at q1;rw[(Q5j hg hx ⟨s1.1,by omega⟩ (cg _) w2.1 (by rw[<-hle2];omega)).2,w2.2.2.1]at q1;omega
  omega
theorem Zn8 {ML MT:Fn} {K:Kf} {c:Cv} {items R:List Itm} {p:Pth} {len set:Int} {t:Trk} (hc:K.closed=false) (he:c.aH=0) (hw:c.way=0) (hl:(K.items++R).length<=15) (hi:items=K.items++R) (hd:K.t.dirs=⟨1,1,1⟩) (hs:K.t.start=0)
  (hL:ML (.view Ah (items.map Af)::B false::Ac K c)=some (I 0::Ac ⟨K.x,K.pa,K.pb,K.pc,K.ramp,K.lag,items,false,p,len,set,K.t⟩ c))
  (hT:MT (Bn p++AI K.x++[I 1,I 1,I 1,I 0,I len])=some (A_ t)):
  Qph MT ML (.view Ah (R.map Af)::B false::Ac K c)=some (I 0::Ac ⟨K.x,K.pa,K.pb,K.pc,K.ramp,K.lag,items,false,p,len,set,t⟩ c):=by
 rw[Zfp];have e:K.items.map Af++R.map Af=items.map Af:=by rw[hi,bt]
 rw[e,hc,he];have hll:items.length<=15:=by rw[hi];exact hl
 rw[ao]at hl;refine eF rfl (eF rfl (eT (B_ (by rw[ag];omega)) (eT (B_ (by rw[ag];omega)) ?_)));refine eB hL (eF rfl ?_);refine eT (show(c.way==0)=true from beT hw) ?_;have hT2:MT (Bn p++AI K.x++[I K.t.dirs.x,I K.t.dirs.y,I K.t.dirs.z,I K.t.start,I len])=some (A_ t):=by rw[hd,hs];exact hT
 refine eB hT2 ?_;rfl
theorem Zuj {x:Ax3} {pa pb pc ramp lag:Int} (hm:MachOK x pa pb pc ramp lag) {J R:List Itm} (hl:(J++R).length<=15) (hc:CF (J++R)=0) (hch:∀j<(J++R).length,AD (itA (J++R) j)->∀p∈Cd (itA (J++R) j),bd B24 p) (hJ:GoodPath (Az J))
  {c:Cv} (he:c.aH=0) (hw:c.way=0):
  J3 (.view Ah (R.map Af)::B false::Ac (kfP x pa pb pc ramp lag J false) c)=some (I 0::Ac (kfP x pa pb pc ramp lag (J++R) false) c):=by
 have hg:=SF hl hc;obtain⟨i1,i2,i3,i4⟩:=Qrj hl hc hch;have hB:Lu [.view Ah ((J++R).map Af)]=some (Bn (Az (J++R))++[I 0]):=by rw[Quy hl,aa hc]
 have hS:G6 [.view Ah ((J++R).map Af)]=some [I (BE (J++R))]:=by rw[Qld hl,aa hc]
 have hR:=Q1y hm.x i1 (λg h=>(i2 g h).1) (by have:=hg.count;omega);have hT:=Qve (d:=⟨1,1,1⟩) (from_:=0) (to:=Aw (Az (J++R)).aE) hg hm.x.ok;have hload:=Q81 (K:=kfP x pa pb pc ramp lag (J++R) false) hl J false (Az J) (Aw (Az J).aE) (BE J) (Bb (Az J) x ⟨1,1,1⟩ 0 (Aw (Az J).aE)) c hB hR (Qcq hg.ok) hS;have hr:=RP (R:=R) (KI hc).2;have hn:=Jp (P9 hr);have hgJ:GoodPath (Az J):=hJ;obtain⟨d',-,hs1,hd1⟩:=NI (d:=⟨1,1,1⟩) (a:=0) (b:=Aw (Az J).aE) (Q:=λ_ _=>True) hm.x.ok hgJ (λ_ _ _ _ _ _ _ _=>trivial);exact Zn8 (K:=kfP x pa pb pc ramp lag J false) rfl he hw hl rfl hd1 (hs1.trans (by unfold A5;omega)) hload hT
structure KnK (K : Kf) : Prop where
 fw:Fw K.t K.len
 opn:K.closed=false
 set:0<=K.set/\K.set<=K.len
 at0:∀m∈K.p.aC,0<=m.at_
 noend:∀it∈K.items,it.kind≠14
structure Kn (K : Kf) (c : Cv) : Prop where
 w:endC K c<=256*A9 K.t K.set
 m0:0<=c.m0
 aH:c.aH=0
 cm:Cm c
 gg:Gg c
theorem Qp8 {c:Cv} {known frm:Int}:∀{l:List Mrk} {i:Nat},(En c known frm l i).1=known\/∃m∈l,(En c known frm l i).1=m.at_/\m.at_<=known
 |[],_=> .inl rfl
 |m::l,i=>by
  unfold En;split
  ·next h=>exact .inr ⟨m,by simp,rfl,h.2.2⟩
  ·rcases Qp8 (l:=l) (i:=i+1) (c:=c) (known:=known) (frm:=frm)with h|⟨q,h1,h2⟩
   ·exact .inl h
   ·exact .inr ⟨q,by simp[h1],h2⟩
theorem Ztu {K:Kf} (k:KnK K) (c:Cv):0<=(AR K c).1/\(AR K c).1<=A9 K.t K.set:=by
 have hk:EF K=K.set:=by unfold EF;rw[ab (by rw[k.opn];simp)]
 unfold AR BH;rw[hk];have key:∀z,0<=z->z<=K.set->0<=A9 K.t z/\A9 K.t z<=A9 K.t K.set:=λz h0 h1=>
  ⟨(k.fw.wh z h0 (by have:=k.set.2;omega)).1,k.fw.wmono h0 h1 k.set.2⟩
 rcases Qp8 (c:=c) (known:=K.set) (frm:=HJ K (Lm K c)) (l:=K.p.aC.drop (max c.next 0).toNat) (i:=(max c.next 0).toNat)with h|⟨m,hm,h,hle⟩
 ·rw[h];exact key _ k.set.1 (cg _)
 ·rw[h];exact key _ (k.at0 m (df hm)) hle
theorem Q50 {K:Kf} (h:KOK K) (k:KnK K) {c:Cv} (h0:0<=c.idx) (h1:c.idx<K.p.aC.length) (he:c.aH=0):(Cc K c).2.aH=0:=by
 have hm:=PY h h0 h1;have hk:(itK K (mkK K c.idx).item).kind≠14:=by
  refine k.noend _ ?_;unfold itK;rw[List.getD,ai (show(mkK K c.idx).item.toNat<K.items.length by omega)];exact bn _
 unfold Cc Il;split
 ·split<;>exact he
 ·split
  ·exact he
  ·split
   ·split<;>exact he
   ·split
    ·split<;>exact he
    ·split
     ·next q=>exact absurd q hk
     ·exact he
theorem Z2f (c:Cv):(Cp c).aH=c.aH:=by unfold Cp;split<;>rfl
theorem Z41 {K:Kf} (h:KOK K) (k:KnK K) {n:Int} {c:Cv} (g:Gd K n c) (hn:0<=n/\n<=10000) (hw:endC K c<=256*A9 K.t K.set) (he:c.aH=0):endC K (Do K c).2<=256*A9 K.t K.set/\(Do K c).2.aH=0:=by
 unfold Do;split
 ·split
  ·next hi=>
   have hlim:(AR K c).2<K.p.aC.length:=by
    rcases Qm3 K c with e|e
    ·omega
    ·exact e.2.2
   generalize(AR K c).2=j at*;have key:endC K (Dc K c j).2<=256*A9 K.t K.set/\(Dc K c j).2.aH=0:=by
    refine⟨by rw[(Si K c j).endC];exact hw,?_⟩;exact Q50 h k (c:={c with on:=true,idx:=j,aM:=FI K c j,cnt:=0}) hi hlim he
   split
   ·have m:=Qk9 (Dc K c j).2;refine⟨?_,(Z2f _).trans key.2⟩;have e:endC K (Cp (Dc K c j).2)=endC K (Dc K c j).2:=by unfold endC;rw[LR m.2.1 m.2.2,m.1]
    show endC K (Cp (Dc K c j).2)<=_;rw[e];exact key.1
   ·exact key
  ·rw[ab (by rw[k.opn];simp)];exact⟨hw,he⟩
 ·have os:=Qyu K c (AR K c).1;refine⟨?_,os.aH.trans he⟩;have hl:=Ztu k c;have hw2:=k.fw.wh K.set k.set.1 k.set.2;have hlen:=k.fw.len;show endC K (E6 K c (AR K c).1)<=_;rcases Zsk h g hn (AR K c).1 with q|q
  ·rw[Ae (by omega)]at q;omega
  ·rw[q];exact hw
theorem Zaw {K:Kf} (h:KOK K) (k:KnK K) {n:Int} {c:Cv} (g:Gd K n c) (hn:0<=n/\n<=10000) {E:List Evn} (hk:∀e∈E,e.kind<=6) (p:Kn K c):Kn K (C3 K c E):=by
 have gg:=Zoq (K:=K) hk p.gg;have ky:=Zim K c E;have ht:=ky.aG.trans p.cm.aG;have up:=Zcm h g hn E gg.ne2;have cx:=Z25 (K:=K) p.cm E;have gp:Gd K n (B1 K c E):=Ua g E;have he:=ky.aH.trans p.aH;have hw:endC K (B1 K c E)<=256*A9 K.t K.set:=by
  have e:endC K (B1 K c E)=endC K c:=by unfold endC;rw[LR ky.m1 ky.m2,ky.m0]
  rw[e];exact p.w
 have key:endC K (stC K c E).2<=256*A9 K.t K.set/\(stC K c E).2.aH=0:=by
  unfold stC;have g2:=gg.ne2;generalize B1 K c E=d at*;have hr:C2 K d=if d.on=true then Cc K d else(0,d):=by
   unfold C2;rw[ab g2,ab (by rw[he];simp),ht,ab (by simp)]
  rw[hr];by_cases c2:d.on=true
  ·rw[aa c2,ab (Zqf K d)];have tk:=gp.task c2;exact⟨by rw[(O6 K d).endC];exact hw,Q50 h k tk.1 tk.2 he⟩
  ·rw[ab c2,aa rfl];exact Z41 h k gp hn hw he
 refine⟨?_,?_,?_,cx.1,cx.2 gg⟩
 ·unfold C3;generalize(stC K c E).2=d at*;obtain⟨m,q,e⟩:=NO K d (Bp K d);rw[e];exact key.1
 ·have:=(Zx5 K c E).2.2.2.2;rw[this];have:=p.m0;omega
 ·unfold C3;generalize(stC K c E).2=d at*;obtain⟨m,q,e⟩:=NO K d (Bp K d);rw[e];exact key.2
theorem Zmq {K:Kf} (k:KnK K) {c:Cv} (hg:c.m0<=endC K c) (p:Kn K c):AK K.t (C_ (endC K c))<=K.set:=by
 have hw:=k.fw.wh K.set k.set.1 k.set.2;have hl:=k.fw.len;have h0:=p.m0;have h1:=p.w;refine k.fw.le k.set.1 k.set.2 ?_;unfold C_;rw[Ae (x:=endC K c+256) (by omega),Ae (x:=endC K c+256-1) (by omega),bj (by omega)];rw[Ae (by omega)];omega
structure Fam (x : Ax3) (pa pb pc ramp lag : Int) (items : List Itm) : Prop where
 hm:MachOK x pa pb pc ramp lag
 len:items.length<=15
 chk:∀n:Nat,CF (items.take n)=0
 ch:∀n:Nat,∀j<(items.take n).length,AD (itA (items.take n) j)->∀p∈Cd (itA (items.take n) j),bd B24 p
 sp:∀it∈items,it.kind=8->i64 it.speed
 no:∀it∈items,it.kind≠14
abbrev kN (x:Ax3) (pa pb pc ramp lag:Int) (items:List Itm) (n:Nat):Kf:=kfP x pa pb pc ramp lag (items.take n) false
theorem Zjm {x:Ax3} {pa pb pc ramp lag:Int} (hm:MachOK x pa pb pc ramp lag) {items:List Itm} (hl:items.length<=15) {p0:Pt} (hi:Items 4084 p0 items) (no:∀it∈items,it.kind≠14):Fam x pa pb pc ramp lag items:=by
 have ht:∀n,Items 4084 p0 (items.take n):=λn=>Z00 (R:=items.drop n) (by rw[List.take_append_drop];exact hi);have hln:∀n,(items.take n).length<=15:=λn=>by rw[du];omega
 refine⟨hm,hl,λn=>Qqh (by omega) (ht n) (by have:=hln n;omega),λn j hj hmo=> ?_,λit hit h8=> ?_,no⟩
 ·rcases(ht n).made _ (X9 hj)with⟨-,g2,-,g4,-⟩|g
  ·exact Q27 g2 g4
  ·exact absurd hmo (Nj g)
 ·rcases hi.made it hit with⟨-,-,g,-⟩|g
  ·rw[g.2.2.2.1];unfold i64;omega
  ·have:=g.spin h8;unfold i64;omega
section
variable {x:Ax3} {pa pb pc ramp lag:Int} {items:List Itm}
theorem Fam.tlen (f:Fam x pa pb pc ramp lag items) (n:Nat):(items.take n).length<=15:=by have:=f.len;rw[du];omega
theorem Fam.good (f:Fam x pa pb pc ramp lag items) (n:Nat):GoodPath (Az (items.take n)):=SF (f.tlen n) (f.chk n)
theorem Fam.new (f:Fam x pa pb pc ramp lag items) (n:Nat) (closed:Bool):
  GO (AI x++[I pa,I pb,I pc,I ramp,I lag]++[.view Ah ((items.take n).map Af),B closed])=some (I 0::Ac (kfP x pa pb pc ramp lag (items.take n) closed) Ch)/\KOK (kfP x pa pb pc ramp lag (items.take n) closed):=
 Qvn f.hm (f.tlen n) (f.chk n) (f.ch n) (λit hit h8=>f.sp it (de hit) h8) closed
theorem Fam.kn (f:Fam x pa pb pc ramp lag items) (n:Nat):KnK (kN x pa pb pc ramp lag items n):=by
 have hr:=(KI (f.chk n)).2;have hs:=Qcb (I:=items.take n) (R:=[]) (by rw[List.append_nil];exact hr);refine⟨Qol f.hm.x.ok (f.good n),rfl,⟨hs.1,hs.2.1⟩,λm hm=> ?_,λit hit=>f.no it (de hit)⟩;obtain⟨i,hi,rfl⟩:=List.mem_iff_getElem.1 hm;have hi2:i<(Az (items.take n)).aC.length:=hi;rw[Qpg]at hi2;have e:=Zng (K:=kN x pa pb pc ramp lag items n) (items:=items.take n) rfl (i:=(i:Int)) (by omega) (by omega);unfold mkK at e;rw[aj,List.getD,ai hi]at e;have e:(kN x pa pb pc ramp lag items n).p.aC[i]=mkA (items.take n) i:=e;rw[e];exact(Zq4 hr hi2).1
theorem Fam.grow (f:Fam x pa pb pc ramp lag items) {n m:Nat} (h:n<=m):A9 (kN x pa pb pc ramp lag items n).t (kN x pa pb pc ramp lag items n).set<=A9 (kN x pa pb pc ramp lag items m).t (kN x pa pb pc ramp lag items m).set:=by
 have e:items.take m=items.take n++(items.take m).drop n:=by
  have:=(List.take_append_drop n (items.take m)).symm
  rwa [List.take_take,Nat.min_eq_left h]at this
 have hr:=(KI (f.chk m)).2;have g:=f.good m;show A9 (Bb (Az (items.take n)) x ⟨1,1,1⟩ 0 _) (BE (items.take n))<=A9 (Bb (Az (items.take m)) x ⟨1,1,1⟩ 0 (Aw (Az (items.take m)).aE)) (BE (items.take m));rw[e]at hr g⊢;exact Zao hr (f.good n) g f.hm.x.ok
theorem Fam.ext (f:Fam x pa pb pc ramp lag items) {n m:Nat} (h:n<=m) {c:Cv} (he:c.aH=0) (hw:c.way=0):
  J3 (.view Ah (((items.map Af).take m).drop n)::B false::Ac (kN x pa pb pc ramp lag items n) c)=some (I 0::Ac (kN x pa pb pc ramp lag items m) c):=by
 have e:items.take m=items.take n++(items.take m).drop n:=by
  have:=(List.take_append_drop n (items.take m)).symm
  rwa [List.take_take,Nat.min_eq_left h]at this
 have e2:((items.map Af).take m).drop n=((items.take m).drop n).map Af:=by rw[List.map_drop,List.map_take]
 have hl:=f.tlen m;have hc:=f.chk m;have hch:=f.ch m;unfold kN;rw[e2];rw[e]at hl hc hch;have key:=Zuj f.hm hl hc hch (f.good n) he hw;rw[<-e]at key;exact key
theorem Fam.gd (f:Fam x pa pb pc ramp lag items) {n m:Nat} (h:n<=m) {k:Int} {c:Cv} (g:Gd (kN x pa pb pc ramp lag items n) k c):Gd (kN x pa pb pc ramp lag items m) k c:=by
 have e1:(kN x pa pb pc ramp lag items n).p.aC.length=(items.take n).length:=Qpg _;have e2:(kN x pa pb pc ramp lag items m).p.aC.length=(items.take m).length:=Qpg _;have e3:(items.take n).length<=(items.take m).length:=by rw[du,du];omega
 refine⟨g.way,?_,λho=> ?_,g.mo,g.m0⟩
 ·have:=g.pass;omega
 ·have:=g.task ho;omega
theorem Fam.kn2 (f:Fam x pa pb pc ramp lag items) {n m:Nat} (h:n<=m) {c:Cv} (p:Kn (kN x pa pb pc ramp lag items n) c):Kn (kN x pa pb pc ramp lag items m) c:=by
 have hg:=f.grow h;have e:endC (kN x pa pb pc ramp lag items m) c=endC (kN x pa pb pc ramp lag items n) c:=rfl;have:=p.w;exact⟨by rw[e];omega,p.m0,p.aH,p.cm,p.gg⟩
theorem Fam.kn0 (f:Fam x pa pb pc ramp lag items):Kn (kN x pa pb pc ramp lag items 0) Ch:=by
 have k:=f.kn 0;have hw:=k.fw.wh _ k.set.1 k.set.2;refine⟨?_,cg _,rfl,cm0, .inl ⟨rfl,rfl,rfl⟩⟩;have e:endC (kN x pa pb pc ramp lag items 0) Ch=0:=by
  unfold endC;rw[Qyz f.hm.plan (c:=Ch) (SB f.hm.plan) (cg _)];rfl
 rw[e];omega
end
theorem Zad {K:Kf} (h:KOK K) (c:Cv):KP (Ac K c)=some (A_ K.t++Ac K c):=by
 have h1:=h.f.t.q.count;refine(Zf9 K c).trans ?_;exact eT (B_ (by rw[ag];omega)) rfl
theorem Zqb {M0 MP MT MR MM MS MA M7 M8 M9 M10 M11 M12 M13 M14 M15:Fn} {K:Kf} (h:KOK K) (kn:KnK K) {V:Rw} {E:List Evn} (hE:E.length<=60) (hk:∀e∈E,e.kind<=6) {n:Nat} {N:Int} (hN:0<=N/\N<=9000)
  (hA:∀k,MA [.view kPt (E.map evR),I k]=some [.view kPt ((atE E k).map evR)])
  (hS:∀(c:Cv) (n:Int) (E:List Evn),Gd K n c->0<=n/\n<=10000->K_ E->MS (.view kPt (E.map evR)::Ac K c)=some (tkC K c E++Ac K (C3 K c E)))
  (hM:∀c:Cv,MM (Ac K c)=some (I c.m0::I c.m1::I c.m2::I c.m3::I c.m4::I c.m5::Ac K c))
  (hR:∀{u:Int},-1000000000000000<=u/\u<=1000000000000000->∀{v x:Int},(AG K.pa K.pb v x).2=true->∀x6 x7 x8:Int,MR [I K.pa,I K.pb,I K.pc,I u,I v,I x,I x6,I x7,I x8]=some [I (BU u (AG K.pa K.pb v x).1),B true])
  (hT:∀c:Cv,MT (Ac K c)=some (A_ K.t++Ac K c)) (hP:∀u,MP (A_ K.t++[I u])=some [I (AK K.t u)]) (hn:n<=V.length) (hV:M0 [.view Ah (List.take (n:Int).toNat V)]=some [I K.set])
  {x4:Rw} {len ki q:Int} {c0:Cv} (g0:Gd K N c0) (p0:Kn K c0):
  Out (λo=>∃c:Cv,o=(2, .view Ah V:: .view kPt (E.map evR)::I n:: .view Aa x4::I len::I q::(AI K.x++([I K.pa,I K.pb,I K.pc,I K.ramp,I K.lag]++Ac K c)))/\Gd K (N+12) c/\Kn K c)
   (Am (Ox M0 MP MT MR MM MS MA M7 M8 M9 M10 M11 M12 M13 M14 M15) (.view Ah V:: .view kPt (E.map evR)::I n::I ki::I ((0:Nat):Int):: .view Aa x4::I len::I q::(AI K.x++([I K.pa,I K.pb,I K.pc,I K.ramp,I K.lag]++Ac K c0)))):=by
 refine CX (λs:Nat×Cv=> .view Ah V:: .view kPt (E.map evR)::I n::I ki::I (s.1:Int):: .view Aa x4::I len::I q::(AI K.x++([I K.pa,I K.pb,I K.pc,I K.ramp,I K.lag]++Ac K s.2)))
  (λs=>s.1<=12/\Gd K (N+s.1) s.2/\Kn K s.2) (λs=>12-s.1) _ ?_ (0,c0) ⟨Nat.zero_le _,by simpa using g0,p0⟩
 rintro⟨j,c⟩ ⟨h2,g,p⟩;dsimp only at h2 g p;refine Out.eqv (Zn7 M0 MP MT MR MM MS MA M7 M8 M9 M10 M11 M12 M13 M14 M15 V (E.map evR) n ki j x4 len q _ _ _ _ _ _ _ _ _ _ _ _ _ _ _ _ _ _ _ _ _ _ _ _ _ _ _ _ _ _ _ _ _ _ _ K c) ?_;refine .cond (λc1=> ?_) λc1=> ?_
 ·have c1:(j:Int)<12:=Bt c1;refine .bind (p:=λo=>o=_) ⟨_,hA (wrap .i64 (wrap .i64 (12*ki)+(j:Int))),rfl⟩ λo e=> ?_;subst e;have am:∀e∈atE E (wrap .i64 (wrap .i64 (12*ki)+(j:Int))),e.kind<=6:=λe he=>hk e (Zrh he);have al:=Zeq E (wrap .i64 (wrap .i64 (12*ki)+(j:Int)));generalize atE E (wrap .i64 (wrap .i64 (12*ki)+(j:Int)))=F at*;have calm:K_ F:=⟨by omega,λe he=>by have:=am e he;omega⟩;have gs:=Qxu h g (by omega) F;have ps:=Zaw h kn g (by omega) am p;refine .bind (p:=λo=>o=_) ⟨_,hS c (N+j) F g (by omega) calm,rfl⟩ λo e=> ?_;subst e;have ht:∃a b m s x y z sp f,tkC K c F=[AC.view kPt a, .view Aa b,I m,I s,I x,I y,I z,I sp,I f]:=⟨_,_,_,_,_,_,_,_,_,rfl⟩;obtain⟨a,b,m,s,x,y,z,sp,f,et⟩:=ht;rw[et];generalize C3 K c F=d at*;have hb:=gs.m0;refine .bind (p:=λo=>o=_) ⟨_,hM d,rfl⟩ λo e=> ?_;subst e;refine .bind (p:=λo=>o=[I (endC K d),B true]) ⟨_,hR (u:=d.m0) (by omega) (v:=d.m1) (x:=d.m2) gs.mo d.m3 d.m4 d.m5,rfl⟩ λo e=> ?_;subst e;refine .cond (λe=>by cases e) λ_=> ?_;refine .bind (p:=λo=>o=_) ⟨_,hT d,rfl⟩ λo e=> ?_;subst e;refine .bind (p:=λo=>o=_) ⟨_,hP (C_ (endC K d)),rfl⟩ λo e=> ?_;subst e;refine .cond (λ_=> ?_) λe=>by
   rw[an (show(0:Int)<=(n:Int) by omega),an (show(n:Int)<=(V.length:Int) by omega)]at e;cases e
  refine .bind (p:=λo=>o=_) ⟨_,hV,rfl⟩ λo e=> ?_;subst e;have hpl:=Zmq kn (Q56 h d) ps;refine .cond (λe=> ?_) λ_=> ?_
  ·have e:AK K.t (C_ (endC K d))>K.set:=Bt e;omega
  ·have e1:wrap .i64 ((j:Int)+1)=((j+1:Nat):Int):=by rw[Ae (by omega)];omega
   rw[e1];refine .some (.inl ⟨rfl,(j+1,d),rfl,⟨by dsimp only;omega,?_,ps⟩,by dsimp only;omega⟩);have:N+(j:Int)+1=N+((j+1:Nat):Int):=by omega
   rw[<-this];exact gs
 ·have c1: ¬(j:Int)<12:=Bq c1;have e:j=12:=by omega
  subst e;exact .some (.inr ⟨by simp,c,rfl,g,p⟩)
theorem Zzq {M0 MP MT MR MM MS MA MX MD M9 M10 M11 M12 M13 M14 M15:Fn} {x:Ax3} {pa pb pc ramp lag:Int} {items:List Itm} (f:Fam x pa pb pc ramp lag items) {E:List Evn} (hE:E.length<=60) (hk:∀e∈E,e.kind<=6) {x4:Rw} (h4:Src x4) (hl4:x4.length<=20)
  (hA:∀k,MA [.view kPt (E.map evR),I k]=some [.view kPt ((atE E k).map evR)])
  (hS:∀(K:Kf) (_:KOK K) (c:Cv) (n:Int) (E:List Evn),Gd K n c->0<=n/\n<=10000->K_ E->MS (.view kPt (E.map evR)::Ac K c)=some (tkC K c E++Ac K (C3 K c E)))
  (hM:∀(K:Kf) (c:Cv),MM (Ac K c)=some (I c.m0::I c.m1::I c.m2::I c.m3::I c.m4::I c.m5::Ac K c))
  (hR:∀{u:Int},-1000000000000000<=u/\u<=1000000000000000->∀{v x:Int},(AG pa pb v x).2=true->∀x6 x7 x8:Int,MR [I pa,I pb,I pc,I u,I v,I x,I x6,I x7,I x8]=some [I (BU u (AG pa pb v x).1),B true])
  (hT:∀(K:Kf) (_:KOK K) (c:Cv),MT (Ac K c)=some (A_ K.t++Ac K c)) (hP:∀(t:Trk) (_:TQ t) (u:Int),MP (A_ t++[I u])=some [I (AK t u)]) (hV:∀n:Nat,M0 [.view Ah ((items.take n).map Af)]=some [I (BE (items.take n))])
  (hX:∀{n m:Nat},n<=m->∀{c:Cv},c.aH=0->c.way=0->MX (.view Ah (((items.map Af).take m).drop n)::B false::Ac (kN x pa pb pc ramp lag items n) c)=some (I 0::Ac (kN x pa pb pc ramp lag items m) c))
  (hD:∀{v n:Int},i64 v->0<n/\n<=4611686018427387904->MD [I v,I n]=some [I (v%n)]):
  Out (λo => ∃ l, o = (2, l)) (Am (S5 M0 MP MT MR MM MS MA MX MD M9 M10 M11 M12 M13 M14 M15 (Am (Ox M0 MP MT MR MM MS MA MX MD M9 M10 M11 M12 M13 M14 M15)))
   (.view Ah (items.map Af):: .view kPt (E.map evR)::I ((0:Nat):Int):: .view Aa x4::I (x4.length:Int)::I ((0:Nat):Int)::(AI x++([I pa,I pb,I pc,I ramp,I lag]++Ac (kN x pa pb pc ramp lag items 0) Ch)))):=by
 refine CX (λs:Nat×Nat×Cv=> .view Ah (items.map Af):: .view kPt (E.map evR)::I (s.1:Int):: .view Aa x4::I (x4.length:Int)::I (s.2.1:Int)::(AI x++([I pa,I pb,I pc,I ramp,I lag]++Ac (kN x pa pb pc ramp lag items s.1) s.2.2)))
  (λs=>s.1<=items.length/\s.2.1<=x4.length/\Gd (kN x pa pb pc ramp lag items s.1) (12*s.2.1) s.2.2/\Kn (kN x pa pb pc ramp lag items s.1) s.2.2) (λs=>x4.length-s.2.1) _ ?_ (0,0,Ch) ⟨Nat.zero_le _,Nat.zero_le _,gdK (f.new 0 false).2,f.kn0⟩
 rintro⟨n,k,c⟩ ⟨h1,h2,g,p⟩;dsimp only at h1 h2 g p;refine Out.eqv (Zop M0 MP MT MR MM MS MA MX MD M9 M10 M11 M12 M13 M14 M15 _ (items.map Af) (E.map evR) n x4 (x4.length:Int) k _ _ _ _ _ _ _ _ _ _ _ _ _ _ _ _ _ _ _ _ _ _ _ _ _ _ _ _ _ _ _ _ _ _ _ (kN x pa pb pc ramp lag items n) c) ?_;have hlen:=f.len;have el:((items.map Af).length:Int)=items.length:=by rw[ag]
 refine .cond (λc1=> ?_) λ_=> .some (.inr ⟨by simp,[],rfl⟩);have c1:(k:Int)<(x4.length:Int):=Bt c1;refine .cond (λ_=> ?_) λe=>(inB (by omega) c1 e).elim;have hv:i64 (gA (nth [] x4 (k:Int).toNat) 0):=by
  rw[aj];exact h4.2 _ (Qsr (by omega))
 have w1:wrap .i64 (wrap .i64 (((items.map Af).length:Int)-(n:Int))+1)=(items.length:Int)-n+1:=by
  rw[el,Ae (x:=(items.length:Int)-n) (by omega),Ae (by omega)]
 rw[w1];refine .bind (p:=λo=>o=_) ⟨_,hD hv (by omega),rfl⟩ λo e=> ?_;subst e;have hm0:0<=gA (nth [] x4 (k:Int).toNat) 0%((items.length:Int)-n+1):=Int.emod_nonneg _ (by omega);have hm1:gA (nth [] x4 (k:Int).toNat) 0%((items.length:Int)-n+1)<(items.length:Int)-n+1:=Int.emod_lt_of_pos _ (by omega);have eg:∀z:Int,gA [I z] 0=z:=λz=>rfl;rw[eg];generalize gA (nth [] x4 (k:Int).toNat) 0%((items.length:Int)-n+1)=r at*;obtain⟨m,hm⟩:∃m:Nat,wrap .i64 ((n:Int)+r)=m:=⟨(n+r).toNat,by rw[Ae (by omega)];omega⟩;have hm2:(m:Int)=n+r:=by rw[<-hm,Ae (by omega)]
 rw[hm];refine .cond (λ_=> ?_) λe=>by
  rw[an (show(0:Int)<=(n:Int) by omega),an (show(n:Int)<=(m:Int) by omega),an (show(m:Int)<=((items.map Af).length:Int) by omega)]at e;cases e
 have hnm:n<=m:=by omega
 have hx:=hX hnm p.aH g.way;refine .bind (p:=λo=>o=I 0::Ac (kN x pa pb pc ramp lag items m) c) ⟨_,by simpa using hx,rfl⟩ λo e=> ?_;subst e;refine .cond (λe=>by cases e) λ_=> ?_;have hset:M0 [.view Ah (List.take (m:Int).toNat (items.map Af))]=some [I (kN x pa pb pc ramp lag items m).set]:=by
  rw[aj,<-List.map_take];exact hV m
 have hK:=(f.new m false).2;have hl18:=Zqb (M0:=M0) (MP:=MP) (MT:=MT) (MR:=MR) (MM:=MM) (MS:=MS) (MA:=MA) (M7:=MX) (M8:=MD) (M9:=M9) (M10:=M10) (M11:=M11) (M12:=M12) (M13:=M13) (M14:=M14) (M15:=M15) (K:=kN x pa pb pc ramp lag items m) hK (f.kn m) (V:=items.map Af) (E:=E) hE hk (n:=m) (N:=12*k) (by omega) hA (hS _ hK) (hM _) hR (hT _ hK) (hP _ hK.f.t.q) (by rw[ag];omega) hset (x4:=x4) (len:=(x4.length:Int)) (ki:=k) (q:=k) (f.gd hnm g) (f.kn2 hnm p);refine .bind (p:=λo=>∃c:Cv,o=(2, .view Ah (items.map Af):: .view kPt (E.map evR)::I m:: .view Aa x4::I (x4.length:Int)::I k::(AI x++([I pa,I pb,I pc,I ramp,I lag]++Ac (kN x pa pb pc ramp lag items m) c)))/\Gd (kN x pa pb pc ramp lag items m) (12*k+12) c/\Kn (kN x pa pb pc ramp lag items m) c) hl18 λo e=> ?_;obtain⟨d,rfl,gd,pd⟩:=e;refine .cond (λe=>by cases e) λ_=> .cond (λ_=> ?_) λe=>by cases e
 have e1:wrap .i64 ((k:Int)+1)=((k+1:Nat):Int):=by rw[Ae (by omega)];omega
 refine .some (.inl ⟨rfl,(m,k+1,d),?_,⟨by dsimp only;omega,by dsimp only;omega,?_,pd⟩,by dsimp only;omega⟩)
 ·show _= .view Ah (items.map Af):: .view kPt (E.map evR)::I (m:Int):: .view Aa x4::I (x4.length:Int)::I ((k+1:Nat):Int)::(AI x++([I pa,I pb,I pc,I ramp,I lag]++Ac (kN x pa pb pc ramp lag items m) d));rw[<-e1];rfl
 ·have:12*(k:Int)+12=12*((k+1:Nat):Int):=by omega
  rw[<-this];exact gd
theorem Q5q {M0 MP MT MR MM MS MA MX MD MN MC ME MI MQ MF MV:Fn} {x:Ax3} {pa pb pc ramp lag:Int} {items:List Itm} {E:List Evn} {x0 x1 x2 x3 x4:Rw} (h4:Src x4) (hE:E.length<=60)
  (hV:MV []=some [B true]) {q:Bool} (hF:MF [.view Aa x0, .view Aa x1, .view Aa x2, .view Aa x3]=some [B q])
  (hyp : q = true -> Fam x pa pb pc ramp lag items /\ MQ [.view Aa x1, .view Aa x2] = some (AI x ++ [I pa, I pb, I pc, I ramp, I lag]) /\ MI [.view Aa x0, I 7, B false] = some [.view Ah (items.map Af)] /\
   ME [.view Aa x3]=some [.view kPt (E.map evR)]/\MC [.view kPt (E.map evR)]=some [.view kPt ((E.filter λe=>decide (e.kind<=6)).map evR)]/\
   MN (AI x++[I pa,I pb,I pc,I ramp,I lag]++[.view Ah [],B false])=some (I 0::Ac (kN x pa pb pc ramp lag items 0) Ch))
  (hA:∀(E:List Evn) (k:Int),E.length<=60->MA [.view kPt (E.map evR),I k]=some [.view kPt ((atE E k).map evR)])
  (hS:∀(K:Kf) (_:KOK K) (c:Cv) (n:Int) (E:List Evn),Gd K n c->0<=n/\n<=10000->K_ E->MS (.view kPt (E.map evR)::Ac K c)=some (tkC K c E++Ac K (C3 K c E)))
  (hM:∀(K:Kf) (c:Cv),MM (Ac K c)=some (I c.m0::I c.m1::I c.m2::I c.m3::I c.m4::I c.m5::Ac K c))
  (hR:q=true->∀{u:Int},-1000000000000000<=u/\u<=1000000000000000->∀{v x:Int},(AG pa pb v x).2=true->∀x6 x7 x8:Int,MR [I pa,I pb,I pc,I u,I v,I x,I x6,I x7,I x8]=some [I (BU u (AG pa pb v x).1),B true])
  (hT:∀(K:Kf) (_:KOK K) (c:Cv),MT (Ac K c)=some (A_ K.t++Ac K c)) (hP:∀(t:Trk) (_:TQ t) (u:Int),MP (A_ t++[I u])=some [I (AK t u)]) (hSe:q=true->∀n:Nat,M0 [.view Ah ((items.take n).map Af)]=some [I (BE (items.take n))])
  (hX:q=true->∀{n m:Nat},n<=m->∀{c:Cv},c.aH=0->c.way=0->MX (.view Ah (((items.map Af).take m).drop n)::B false::Ac (kN x pa pb pc ramp lag items n) c)=some (I 0::Ac (kN x pa pb pc ramp lag items m) c))
  (hD:∀{v n:Int},i64 v->0<n/\n<=4611686018427387904->MD [I v,I n]=some [I (v%n)]):
  Wk M0 MP MT MR MM MS MA MX MD MN MC ME MI MQ MF MV (Am (Ox M0 MP MT MR MM MS MA MX MD MN MC ME MI MQ MF MV)) (Am (S5 M0 MP MT MR MM MS MA MX MD MN MC ME MI MQ MF MV (Am (Ox M0 MP MT MR MM MS MA MX MD MN MC ME MI MQ MF MV)))) [.view Aa x0, .view Aa x1, .view Aa x2, .view Aa x3, .view Aa x4]=some [B true]:=by
 rw[Zml];refine eB hV (eF rfl (eB hF ?_));cases q
 ·rfl
 obtain⟨f,hQ,hI,hE',hC,hN⟩:=hyp rfl;refine eF rfl (eC (λ_=>rfl) λh20=> ?_);have h20:=Bq h20;refine eB hQ (eB hI (eB hE' (eB hC ?_)));generalize hcalm:(E.filter λe=>decide (e.kind<=6))=F at*;have hlen:F.length<=60:=by rw[<-hcalm];exact cd (List.length_filter_le _ _) hE
 have hk:∀e∈F,e.kind<=6:=λe he=>by rw[<-hcalm]at he;exact of_decide_eq_true (List.mem_filter.1 he).2
 refine eB hN (eF rfl ?_);obtain⟨o,hl,l,rfl⟩:=Zzq (M0:=M0) (MP:=MP) (MT:=MT) (MR:=MR) (MM:=MM) (MS:=MS) (MA:=MA) (MX:=MX) (MD:=MD) (M9:=MN) (M10:=MC) (M11:=ME) (M12:=MI) (M13:=MQ) (M14:=MF) (M15:=MV) f hlen hk h4 (by omega) (λk=>hA F k hlen) hS hM (hR rfl) hT hP (hSe rfl) (hX rfl) hD;exact eB hl (eF rfl (eT rfl rfl))
theorem Zc8 {x0 x1 x2 x3 x4:Rw} (h0:Src x0) (h1:Src x1) (h2:Src x2) (h3:Src x3) (h4:Src x4):
  Q2l [.view Aa x0, .view Aa x1, .view Aa x2, .view Aa x3, .view Aa x4]=some [B true]:=by
 obtain⟨q,hF,hq⟩:=Z45 x0 x1 x2 x3;cases q
 ·exact Q5q (x:=JD) (pa:=9) (pb:=3) (pc:=100) (ramp:=1) (lag:=0) (items:=[]) (E:=[]) (MS:=Hq) (MA:=J0) h4 (by simp) Qrs hF (λh=>by cases h) (λE k hE=>Q84 (by omega) k) (λK h c n E g hn hE=>Qw h g hn hE) Q83 (λh=>by cases h) (λK h c=>Zad h c) (λt h u=>OH h u) (λh=>by cases h) (λh=>by cases h) (λhv hn=>Za hv hn)
 ·obtain⟨l0,l1,l2,l3⟩:=hq rfl;obtain⟨x,a,b,c,ramp,lag,hQ,hM⟩:=Zsw h1 h2 (by omega);obtain⟨p,items,hI,hit,hlen,-,hno⟩:=Zmj h0 (most:=7) (by omega) false;obtain⟨E,hV,hE,-⟩:=Zmc h3 l3;have f:=Zjm hM (items:=items) (by omega) hit (hno rfl).2;exact Q5q (E:=E) h4 hE Qrs hF (λ_=>⟨f,hQ,hI,hV,Zi2 (by omega),(f.new 0 false).1⟩) (λE k hE=>Q84 (by omega) k) (λK h c n E g hn hE=>Qw h g hn hE) Q83 (λ_=>Q78 hM.plan) (λK h c=>Zad h c) (λt h u=>OH h u) (λ_ n=>by rw[Qld (f.tlen n),aa (f.chk n)]) (λ_=>f.ext) (λhv hn=>Za hv hn)
theorem Zri {r:List AC} (h:okR Aa r):i64 (Ag (nth .dead r 0)):=by
 match r,h with
 |[],h=>exact h.elim
 |a::_,h=>exact Ztr h.1
theorem Pc {r:List AC} (h:okR [Kd.sl Aa] r):Src (BV (nth .dead r 0)):=by
 match r,h with
 |[],h=>exact h.elim
 |a::_,h=>
  have h1:=h.1;unfold okC at h1;refine⟨?_,λc hc=>Zri (h1.2 c hc).1⟩;have h2:=h1.1;simp only[maxLen]at h2;show(BV a).length<=_;omega
end Go.Bm
