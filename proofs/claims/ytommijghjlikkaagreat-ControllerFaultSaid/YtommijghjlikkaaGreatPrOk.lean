/- laid together -/
import Derived.Test.YtommijghjlikkaaGreatPrJe
import Derived.Test.YtommijghjlikkaaGreatMy1
import Derived.Test.YtommijghjlikkaaGreatPrI
set_option linter.unusedVariables false
set_option linter.unusedSimpArgs false
set_option maxRecDepth 100000
noncomputable section
open Go.IntKind (wrap)
namespace Go.Bm
def C1 (K:Kf) (c:Cv):Int×Cv:=
 if c.g0=2 then(6,stand c)else if c.ended≠0 then(c.ended,c)
 else if c.touched=true/\c.stood=true then(8,{c with ended:=8})else if c.on=true then Cq K c else(0,c)
theorem Q3h (K:Kf) (c:Cv):(Iz K c).1≠0:=by
 unfold Iz
 (repeat' split)<;>simp
abbrev F8 (K:Kf) (frm i:Int) (c:Cv):List AC:=I frm::I 5::I i::(EB++(EB++Ad K c))
abbrev Qk0 (K:Kf) (frm mode:Int) (c:Cv):List AC:=I frm::(EB++([.view kPt [], .view Aa [],I mode,I 0,I 0,I 0,I 0,I 0,I 0]++Ad K c))
theorem Zu8 {N3:Lp} {ME MR MG' MB MP MO MU MS MN MX MT MV:Fn} {K:Kf} {c:Cv} (frm:Int)
  (hU:MU (Ad K c)=some (if c.g0=2 then I 6::B true::Ad K (stand c)else I 0::B false::Ad K c))
  (hO:MO (Ad K c)=some (I c.ended::B (c.ended !=0)::Ad K c))
  (hP:MP (Ad K c)=some (if c.touched=true/\c.stood=true then I 8::B true::Ad K {c with ended:=8}else I 0::B false::Ad K c))
  (hB:MB (Ad K c)=some (if c.on=true then I (Cq K c).1::B true::Ad K (Cq K c).2 else I 0::B false::Ad K c))
  (hG:MG' (Ad K c)=some (I 0::B false::Ad K c)):
  An (IY ME MR MG' MB MP MO MU MS MN MX MT MV N3) (F8 K frm 0 c)=some (1,Qk0 K frm (C1 K c).1 (C1 K c).2):=by
 have w:∀i:Int,0<=i->i<5->wrap .i64 (i+1)=i+1:=fun i _ _=>Ae (by omega);have e:=fun i=>Zex ME MR MG' MB MP MO MU MS MN MX MT MV N3 frm 5 i [] [] 0 0 0 0 0 0 0 [] [] 0 0 0 0 0 0 0 K c;have s0:c.g0≠2->IY ME MR MG' MB MP MO MU MS MN MX MT MV N3 (F8 K frm 0 c)=some (0,F8 K frm 1 c):=fun h=>by
  refine Eq.trans (e 0) (eT rfl (eT rfl (eB hU ?_)));rw[if_neg h];rfl
 have s1:c.ended=0->IY ME MR MG' MB MP MO MU MS MN MX MT MV N3 (F8 K frm 1 c)=some (0,F8 K frm 2 c):=fun h=>by
  refine Eq.trans (e 1) (eT rfl (eF rfl (eT rfl (eB hO ?_))));rw[h];rfl
 have s2: ¬(c.touched=true/\c.stood=true)->IY ME MR MG' MB MP MO MU MS MN MX MT MV N3 (F8 K frm 2 c)=some (0,F8 K frm 3 c):=fun h=>by
  refine Eq.trans (e 2) (eT rfl (eF rfl (eF rfl (eT rfl (eB hP ?_)))));rw[if_neg h];rfl
 have s3:c.on=false->IY ME MR MG' MB MP MO MU MS MN MX MT MV N3 (F8 K frm 3 c)=some (0,F8 K frm 4 c):=fun h=>by
  refine Eq.trans (e 3) (eT rfl (eF rfl (eF rfl (eF rfl (eT rfl (eB hB ?_))))));rw[if_neg (by rw[h];simp)];rfl
 have s4:IY ME MR MG' MB MP MO MU MS MN MX MT MV N3 (F8 K frm 4 c)=some (0,F8 K frm 5 c):=by
  refine Eq.trans (e 4) (eT rfl (eF rfl (eF rfl (eF rfl (eF rfl (eT rfl (eB hG ?_)))))));rfl
 have s5:IY ME MR MG' MB MP MO MU MS MN MX MT MV N3 (F8 K frm 5 c)=some (1,Qk0 K frm 0 c):=by
  exact Eq.trans (e 5) (eF rfl rfl)
 unfold C1;by_cases h:c.g0=2
 ·rw[if_pos h];refine A5 (Eq.trans (e 0) (eT rfl (eT rfl (eB hU ?_)))) (by simp);rw[if_pos h];rfl
 rw[if_neg h,Bv (s0 h)];by_cases h:c.ended=0
 ·rw[if_neg (by simpa using h),Bv (s1 h)];by_cases h:c.touched=true/\c.stood=true
  ·rw[if_pos h];refine A5 (Eq.trans (e 2) (eT rfl (eF rfl (eF rfl (eT rfl (eB hP ?_)))))) (by simp);rw[if_pos h];rfl
  ·rw[if_neg h,Bv (s2 h)];cases h:c.on
   ·rw[if_neg (by simp),Bv (s3 h),Bv s4];exact A5 s5 (by simp)
   ·rw[if_pos rfl];refine A5 (Eq.trans (e 3) (eT rfl (eF rfl (eF rfl (eF rfl (eT rfl (eB hB ?_))))))) (by simp);rw[if_pos h];generalize Cq K c=wk;rfl
 ·rw[if_pos h];refine A5 (Eq.trans (e 1) (eT rfl (eF rfl (eT rfl (eB hO ?_))))) (by simp);rw[bnT h];rfl
theorem Zyp {K:Kf} {c:Cv} {n:Int} (h:KOK K) (g:Gd K n c):La (Ad K c)=some (if c.on=true then I (Cq K c).1::B true::Ad K (Cq K c).2 else I 0::B false::Ad K c):=by
 have key:∀{M:Fn},(c.on=true->M (Ad K c)=some (I (Cq K c).1::Ad K (Cq K c).2))->Qj1 M (Ad K c)=some (if c.on=true then I (Cq K c).1::B true::Ad K (Cq K c).2 else I 0::B false::Ad K c):=by
  intro M hM;rw[Zpq];cases e:c.on
  ·rw[if_neg (by simp)];rfl
  ·rw[if_pos rfl];have hM:=hM e;generalize Cq K c=wk at*;exact eB hM rfl
 exact key fun e=>Qq0 h (g.task e).1 (g.task e).2
abbrev FY (c:Cv):Cv:={c with resumed:=false,changed:=false}
def BZ (c:Cv) (E:List Evn):Cv:=E.foldl (fun c e=>evC c e.kind e.n) (FY c)
def JX (E:List Evn):Prop:=E.length<=1000000/\∀e∈E,e.kind≠7/\e.kind≠12/\e.kind≠13
theorem Zeq {ME MR MG' MB MP MO MU MS MN MX MT MV:Fn} {K:Kf} {c:Cv} {E:List Evn} (hE:JX E)
  (hV:∀(c:Cv) (x:Int) {k:Int} (n:Int),k≠7/\k≠12/\k≠13->MV (I x::I k::I n::Ad K c)=some (Ad K (evC c k n))):
  An (QD ME MR MG' MB MP MO MU MS MN MX MT MV) (.view kPt (E.map evR)::I (E.map evR).length::I 0::(EB++Ad K (FY c)))=some (1,EB++Ad K (BZ c E)):=by
 have key:Out (fun o=>o=(1,EB++Ad K (BZ c E))) (An (QD ME MR MG' MB MP MO MU MS MN MX MT MV) (.view kPt (E.map evR)::I (E.map evR).length::I ((0:Nat):Int)::(EB++Ad K (BZ c (E.take 0))))):=by
  refine Cr (fun i:Nat=> .view kPt (E.map evR)::I (E.map evR).length::I (i:Int)::(EB++Ad K (BZ c (E.take i)))) (fun i=>i<=E.length) (fun i=>E.length-i) _ ?_ 0 (by simp);intro i hi;have hl:=hE.1;refine Out.eqv (Zcc ME MR MG' MB MP MO MU MS MN MX MT MV (E.map evR) (E.map evR).length i [] [] 0 0 0 0 0 0 0 K (BZ c (E.take i))) ?_;refine .cond (fun k=> ?_) fun k=> ?_
  ·have k:(i:Int)<((E.map evR).length:Int):=Bg k;have hi:i<E.length:=by rw[List.length_map]at k;omega
   refine .cond (fun _=> ?_) fun e=>(inB (by omega) k e).elim;rw[W0 E hi];refine .bind (p:=fun o=>o=_) ⟨_,hV (BZ c (E.take i)) E[i].cycle E[i].n (hE.2 _ (List.getElem_mem hi)),rfl⟩ fun o e=> ?_;subst e;have e1:BZ c (E.take (i+1))=evC (BZ c (E.take i)) E[i].kind E[i].n:=by
    unfold BZ;rw[List.take_add_one,List.getElem?_eq_getElem hi,List.foldl_append];rfl
   rw[Ae (x:=(i:Int)+1) (by omega)];refine .some (.inl ⟨rfl,i+1,?_,by omega,by omega⟩);rw[e1];have st:∀d:Cv,EB++cR 0 (Ad K d)=EB++Ad K d:=fun _=>rfl;exact congrArg (fun z=>AC.view kPt (E.map evR)::I (E.map evR).length::I ((i:Int)+1)::z) (st (evC (BZ c (E.take i)) E[i].kind E[i].n))
  ·have k: ¬(i:Int)<((E.map evR).length:Int):=Bf k;rw[List.length_map]at k;rw[List.take_of_length_le (by omega)];generalize BZ c E=d;exact .some (.inr ⟨by simp,rfl⟩)
 obtain⟨o,h1,rfl⟩:=key;exact h1
def P9 (K:Kf) (frm u:Int):Rw:=wA ((K8 (pxt K.p K.x K.t [I frm,I u])).getD []) 0
theorem Zif {K:Kf} (h:KOK K) (frm u:Int) (hd:u-frm<=1000000000000):Out (fun o=>wA o 0=P9 K frm u) (K8 (pxt K.p K.x K.t [I frm,I u])):=
 ⟨_,Qkb (Z1m h.f frm u hd),rfl⟩
abbrev ST (K:Kf) (c:Cv):Pt:=Jl K.p K.x K.t (Bo c)
theorem Z1z {MM MP MB MO MU:Fn} {K:Kf} {c:Cv} (hw:c.way=0) (hc:c.changed=false) {frm mode:Int}
  (hU:MU (Ad K c)=some [I (Bo c)]) (hO:MO (Ad K c)=some [I (Bu K c)]) (hB:Out (fun o=>wA o 0=P9 K frm (Bo c)) (MB (pxt K.p K.x K.t [I frm,I (Bo c)])))
  (hP:∀s,MP (I s::Ad K c)=some (.view Aa ((B3 K c s).1.map Ap)::Ad K (B3 K c s).2)) (hQ:∀s,∃n q:Int,(B3 K c s).2={c with passed:=n,outs:=q}) (hM:∀u,MM (pxt K.p K.x K.t [I u])=some (ptR (Jl K.p K.x K.t u))):
  Vq MM MP MB MO MU (I frm::(Ad K c++[.view kPt [], .view Aa [],I mode,I 0,I 0,I 0,I 0,I 0,I 0]))=
   some (Ad K (B3 K c (Bu K c)).2++L3 (P9 K frm (Bo c)) ((B3 K c (Bu K c)).1.map Ap) mode (Bu K c) (ST K c) c.s3 c.g1):=by
 refine Eq.trans (Zfs MM MP MB MO MU frm [] [] mode 0 0 0 0 0 0 K c) ?_;obtain⟨o,hB,ho⟩:=hB;rw[<-ho];refine eB hU (eB hO (eT (show(!c.changed)=true by rw[hc];rfl) (eB hB (eT (show(c.way==0)=true from beT hw) ?_))));have hP:=hP (Bu K c);obtain⟨n,q,hq⟩:=hQ (Bu K c);generalize B3 K c (Bu K c)=ps at*;refine eB hP ?_;rw[hq];refine eB (hM (Bo c)) ?_;rw[show ST K c=Jl K.p K.x K.t (Bo c)from rfl];generalize Jl K.p K.x K.t (Bo c)=mt;rfl
theorem Qbp (K:Kf) (s:Int):∀(l:List Mrk) (c:Cv),∃n q:Int,(Eg K s l c).2={c with passed:=n,outs:=q}
 |[],c=>⟨c.passed,c.outs,rfl⟩
 |m::l,c=>by
  unfold Eg;split
  ·exact⟨c.passed,c.outs,rfl⟩
  ·split
   ·obtain⟨n,q,h⟩:=Qbp K s l {c with outs:=swI c.outs (itK K m.item),passed:=c.passed+1};exact⟨n,q,h⟩
   ·obtain⟨n,q,h⟩:=Qbp K s l {c with passed:=c.passed+1};exact⟨n,q,h⟩
theorem QU (K:Kf) (c:Cv) (s:Int):∃n q:Int,(B3 K c s).2={c with passed:=n,outs:=q}:=Qbp K s _ c
theorem Zld {K:Kf} {c:Cv} {n:Int} (h:KOK K) (g:Gd K n c) (hn:0<=n/\n<=10010) (hc:c.changed=false) {frm mode:Int} (hf: -300000000000<=frm/\frm<=300000000000):
  LK (I frm::(Ad K c++[.view kPt [], .view Aa [],I mode,I 0,I 0,I 0,I 0,I 0,I 0]))=
   some (Ad K (B3 K c (Bu K c)).2++L3 (P9 K frm (Bo c)) ((B3 K c (Bu K c)).1.map Ap) mode (Bu K c) (ST K c) c.s3 c.g1):=
 Z1z g.way hc (Sw K c) (Sz h c) (Zif h frm (Bo c) (by have:=Q06 g hn;omega)) (fun s=>Zja h g.pass s) (QU K c) (Xc h.f)
def EG (c:Cv):Cv:=if c.touched=true\/c.g0≠0 then{c with o2:=true}else c
def Cf (c:Cv):Cv:={c with before:=c.s3}
def EP (K:Kf) (c:Cv):Cv:=if IF K c=true then c else spS c K.ramp
def Kn (c:Cv):Cv:={c with stood:=FA c}
def BP (K:Kf) (c:Cv) (E:List Evn):Cv:=Kn (EP K (Cf (EG (BZ c E))))
def stC (K:Kf) (c:Cv) (E:List Evn):Int×Cv:=if(C1 K (BP K c E)).1=0 then Dm K (C1 K (BP K c E)).2 else C1 K (BP K c E)
def Dw (K:Kf) (c:Cv) (E:List Evn):Cv:=(B3 K (stC K c E).2 (Bu K (stC K c E).2)).2
def Zpx (K:Kf) (c:Cv) (E:List Evn):List Int:=(B3 K (stC K c E).2 (Bu K (stC K c E).2)).1
def tkC (K:Kf) (c:Cv) (E:List Evn):List AC:=
 L3 (P9 K (Bo (BZ c E)) (Bo (stC K c E).2)) ((Zpx K c E).map Ap) (stC K c E).1 (Bu K (stC K c E).2) (ST K (stC K c E).2) (stC K c E).2.s3 (stC K c E).2.g1
theorem Zcg {N16:Lp} {MR ME:Fn} {K:Kf} {d:Cv} {frm:Int} {o:Nat×List AC} (ho:∃e,o.2=EB++Ad K e)
  (h16:N16 (F8 K frm 0 d)=some (1,Qk0 K frm (C1 K d).1 (C1 K d).2))
  (hR:(C1 K d).1=0->MR (Ad K (C1 K d).2)=some (I (Dm K (C1 K d).2).1::Ad K (Dm K (C1 K d).2).2))
  {s:Int×Cv} (hs:s=if(C1 K d).1=0 then Dm K (C1 K d).2 else C1 K d)
  {pul outs:Rw} {pos sp ft:Int} {mt:Pt} {q:Cv}
  (hE:ME (I frm::(Ad K s.2++[.view kPt [], .view Aa [],I s.1,I 0,I 0,I 0,I 0,I 0,I 0]))=some (Ad K q++L3 pul outs s.1 pos mt sp ft)):
  I5 N16 o MR ME (I frm) (Ad K d)=some (L3 pul outs s.1 pos mt sp ft++Ad K q):=by
 obtain⟨o1,o2⟩:=o;obtain⟨e,ho⟩:=ho;dsimp only at ho;subst ho;refine eB h16 (eT rfl ?_);generalize C1 K d=r at*;generalize Dm K r.2=w at*;by_cases h:r.1=0
 ·rw[if_pos h]at hs;subst hs;refine eT (show(r.1==0)=true from beT h) (eB (hR h) (eB hE rfl))
 ·rw[if_neg h]at hs;subst hs;exact eF (show(s.1==0)=false from beF h) (eB hE rfl)
end Go.Bm
noncomputable section
namespace Go.Bm
theorem Zxo {ME MR MG' MB MP MO MU MS MN MX MT MV:Fn} {N3 N16:Lp} {K:Kf} {c:Cv} {E:List Evn}
  (h3:N3 (.view kPt (E.map evR)::I (E.map evR).length::I 0::(EB++Ad K (FY c)))=some (1,EB++Ad K (BZ c E)))
  (hT:∀c,MT (Ad K c)=some [B (IF K c)]) (hX:∀(c:Cv) (ramp:Int),MX [I c.s0,I c.s1,I c.s2,I c.s3,I ramp]=some [I (spS c ramp).s0,I (spS c ramp).s1,I (spS c ramp).s2,I (spS c ramp).s3])
  (hN:∀c,MN (Ad K c)=some [I (Bo c)]) (hS:∀c:Cv,MS [I c.m0,I c.m1,I c.m2,I c.m3,I c.m4,I c.m5]=some [B (FA c)])
  (h1:∀o:Nat×List AC,(∃e,o.2=EB++Ad K e)->I5 N16 o MR ME (I (Bo (BZ c E))) (Ad K (BP K c E))=some (tkC K c E++Ad K (Dw K c E))):
  Qb4 ME MR MG' MB MP MO MU MS MN MX MT MV N3 N16 (.view kPt (E.map evR)::Ad K c)=some (tkC K c E++Ad K (Dw K c E)):=by
 refine Eq.trans (Zqh ME MR MG' MB MP MO MU MS MN MX MT MV N3 N16 (E.map evR) K c) ?_;refine eB h3 (eT rfl ?_);unfold BP at h1;generalize tkC K c E=tk at*;generalize Dw K c E=sc at*;generalize BZ c E=d at*
 have rest:∀b:Cv,EG d=b->Bo b=Bo d->FA b=FA d->
   ((MT (Ad K (Cf b))).bind fun o => bif !bA o 0 then (MX [I b.s0, I b.s1, I b.s2, I b.s3, I K.ramp]).bind fun o2 => (MN (Ad K { Cf b with s0 := gA o2 0, s1 := gA o2 1, s2 := gA o2 2, s3 := gA o2 3 })).bind fun o3 => (MS [I d.m0, I d.m1, I d.m2, I d.m3, I d.m4, I d.m5]).bind fun o4 => I5 N16 (1, EB ++ Ad K d) MR ME (jA o3 0) (Ad K { Cf b with s0 := gA o2 0, s1 := gA o2 1, s2 := gA o2 2, s3 := gA o2 3, stood := bA o4 0 })
    else(MN (Ad K (Cf b))).bind fun o3=>(MS [I d.m0,I d.m1,I d.m2,I d.m3,I d.m4,I d.m5]).bind fun o4=>I5 N16 (1,EB++Ad K d) MR ME (jA o3 0) (Ad K {Cf b with stood:=bA o4 0}))=some (tk++Ad K sc):=fun b hb hu hs=>by
  have h1:=h1 (1,EB++Ad K d) ⟨d,rfl⟩;rw[hb]at h1;refine eB (hT (Cf b)) ?_;cases ht:IF K (Cf b)
  ·have e1:EP K (Cf b)=spS (Cf b) K.ramp:=by unfold EP;rw[if_neg (by rw[ht];simp)]
   rw[e1]at h1;refine eT rfl (eB (hX b K.ramp) ?_);refine Eq.trans (congrArg (fun z=>Option.bind z _) (hN (spS (Cf b) K.ramp))) (eB rfl (eB (hS d) ?_));have e2:Bo (spS (Cf b) K.ramp)=Bo d:=hu;have e3:({spS (Cf b) K.ramp with stood:=FA d}:Cv)=Kn (spS (Cf b) K.ramp):=by
    unfold Kn;rw[show FA (spS (Cf b) K.ramp)=FA b from rfl,hs]
   rw[<-e3,<-e2]at h1;exact h1
  ·have e1:EP K (Cf b)=Cf b:=by unfold EP;rw[if_pos ht]
   rw[e1]at h1;refine eF rfl ?_;refine Eq.trans (congrArg (fun z=>Option.bind z _) (hN (Cf b))) (eB rfl (eB (hS d) ?_));have e2:Bo (Cf b)=Bo d:=hu;have e3:({Cf b with stood:=FA d}:Cv)=Kn (Cf b):=by
    unfold Kn;rw[show FA (Cf b)=FA b from rfl,hs]
   rw[<-e3,<-e2]at h1;exact h1
 refine eC (fun t=> ?_) fun t=>eC (fun q=> ?_) fun q=> ?_
 ·have t:d.touched=true:=t;exact rest {d with o2:=true} (by unfold EG;rw[if_pos (.inl t)]) rfl rfl
 ·have q:d.g0≠0:=fun e=>by
   have:(d.g0 !=0)=true:=q;rw[bnF e]at this;cases this
  exact rest {d with o2:=true} (by unfold EG;rw[if_pos (.inr q)]) rfl rfl
 ·have t:d.touched=false:=t;have q:d.g0=0:=Decidable.byContradiction fun e=>by
   have:(d.g0 !=0)=false:=q;rw[bnT e]at this;cases this
  exact rest d (by unfold EG;rw[if_neg (fun w=>by rcases w with w|w;rw[t]at w;cases w;exact w q)]) rfl rfl
structure Kp (c d : Cv) : Prop where
 way:d.way=c.way
 changed:d.changed=c.changed
 passed:d.passed=c.passed
 outs:d.outs=c.outs
theorem Kp.rfl {c:Cv}:Kp c c:=⟨Eq.refl _,Eq.refl _,Eq.refl _,Eq.refl _⟩
theorem Kp.trans {a b c:Cv} (h:Kp a b) (g:Kp b c):Kp a c:=⟨g.way.trans h.way,g.changed.trans h.changed,g.passed.trans h.passed,g.outs.trans h.outs⟩
structure Sm (c d : Cv) : Prop where
 kp:Kp c d
 m0:d.m0=c.m0
 m1:d.m1=c.m1
 m2:d.m2=c.m2
 m3:d.m3=c.m3
 m4:d.m4=c.m4
 on:d.on=c.on
 idx:d.idx=c.idx
 ended:d.ended=c.ended
 touched:d.touched=c.touched
 next:d.next=c.next
theorem Sm.trans {a b c:Cv} (h:Sm a b) (g:Sm b c):Sm a c:=
 ⟨h.kp.trans g.kp,g.m0.trans h.m0,g.m1.trans h.m1,g.m2.trans h.m2,g.m3.trans h.m3,g.m4.trans h.m4,g.on.trans h.on,g.idx.trans h.idx,g.ended.trans h.ended,g.touched.trans h.touched,g.next.trans h.next⟩
theorem Sm.rfl {c:Cv}:Sm c c:=⟨Kp.rfl,Eq.refl _,Eq.refl _,Eq.refl _,Eq.refl _,Eq.refl _,Eq.refl _,Eq.refl _,Eq.refl _,Eq.refl _,Eq.refl _⟩
theorem Gd.sm {K:Kf} {n:Int} {c d:Cv} (g:Gd K n c) (h:Sm c d):Gd K n d:=g.same h.kp.way h.kp.passed h.on h.idx h.m0 h.m1 h.m2
theorem Zeu (c:Cv) (k n:Int):Sm c (evC c k n):=⟨⟨Eq.refl _,Eq.refl _,Eq.refl _,Eq.refl _⟩,Eq.refl _,Eq.refl _,Eq.refl _,Eq.refl _,Eq.refl _,Eq.refl _,Eq.refl _,Eq.refl _,Eq.refl _,Eq.refl _⟩
theorem Quq:∀(E:List Evn) (c:Cv),Sm c (E.foldl (fun c e=>evC c e.kind e.n) c)
 |[],_=>Sm.rfl
 |e::E,c=>(Zeu c e.kind e.n).trans (Quq E _)
theorem Q7a (c:Cv) (E:List Evn):Sm (FY c) (BZ c E):=Quq E _
theorem Zei (c:Cv):Sm c (EG c):=by
 unfold EG;split
 ·exact⟨⟨rfl,rfl,rfl,rfl⟩,rfl,rfl,rfl,rfl,rfl,rfl,rfl,rfl,rfl,rfl⟩
 ·exact Sm.rfl
theorem Zqd (K:Kf) (c:Cv):Sm c (EP K c):=by
 unfold EP;split
 ·exact Sm.rfl
 ·exact⟨⟨rfl,rfl,rfl,rfl⟩,rfl,rfl,rfl,rfl,rfl,rfl,rfl,rfl,rfl,rfl⟩
theorem QX (K:Kf) (c:Cv) (E:List Evn):Sm (FY c) (BP K c E):=
 (Q7a c E).trans ((Zei _).trans (Sm.trans (b:=Cf (EG (BZ c E))) ⟨⟨rfl,rfl,rfl,rfl⟩,rfl,rfl,rfl,rfl,rfl,rfl,rfl,rfl,rfl,rfl⟩ ((Zqd K _).trans ⟨⟨rfl,rfl,rfl,rfl⟩,rfl,rfl,rfl,rfl,rfl,rfl,rfl,rfl,rfl,rfl⟩)))
theorem Gd.clear {K:Kf} {n:Int} {c:Cv} (g:Gd K n c):Gd K n (FY c):=⟨g.way,g.pass,g.task,g.mo,g.m0⟩
theorem Qgx {K:Kf} {n:Int} {c:Cv} (g:Gd K n c) (E:List Evn):Gd K n (BP K c E):=g.clear.sm (QX K c E)
theorem Zc3 {K:Kf} {n:Int} {c:Cv} (g:Gd K n c):Gd K n (Iz K c).2/\Kp c (Iz K c).2:=by
 have done:∀d:Cv,Gd K n d->Kp c d->Gd K n (HJ d)/\Kp c (HJ d):=fun d g k=>⟨⟨g.way,g.pass,fun h=>(by cases h),g.mo,g.m0⟩,k.trans ⟨rfl,rfl,rfl,rfl⟩⟩;have cmd:∀n' sp:Int,Gd K n (JZ c n' sp)/\Kp c (JZ c n' sp):=fun n' sp=>⟨⟨g.way,g.pass,g.task,g.mo,g.m0⟩,⟨rfl,rfl,rfl,rfl⟩⟩;unfold Iz;split
 ·split
  ·exact done c g Kp.rfl
  ·exact⟨g,Kp.rfl⟩
 ·split
  ·exact done c g Kp.rfl
  ·split
   ·split
    ·exact⟨g,Kp.rfl⟩
    ·exact done c g Kp.rfl
   ·split
    ·split
     ·exact done _ (cmd _ _).1 (cmd _ _).2
     ·exact cmd _ _
    ·split
     ·exact⟨⟨g.way,g.pass,g.task,g.mo,g.m0⟩,⟨rfl,rfl,rfl,rfl⟩⟩
     ·exact done c g Kp.rfl
theorem Qy3 {K:Kf} {n:Int} {c:Cv} (g:Gd K n c):Gd K n (Cq K c).2/\Kp c (Cq K c).2:=by
 have h:=Zc3 (K:=K) (c:=C3 c) ⟨g.way,g.pass,g.task,g.mo,g.m0⟩;exact⟨h.1,h.2.way,h.2.changed,h.2.passed,h.2.outs⟩
theorem Zea {K:Kf} {n:Int} {c:Cv} (g:Gd K n c) {i:Int} (h0:0<=i) (h1:i<K.p.marks.length):Gd K n (DT K c i).2/\Kp c (DT K c i).2:=by
 have h:=Qy3 (K:=K) (c:={c with on:=true,idx:=i,waits:=FO K c i,cnt:=0}) ⟨g.way,g.pass,fun _=>⟨h0,h1⟩,g.mo,g.m0⟩;exact⟨h.1,⟨h.2.way,h.2.changed,h.2.passed,h.2.outs⟩⟩
theorem L4 {K:Kf} {n:Int} {c:Cv} (g:Gd K n c):Gd K n (DJ c)/\Kp c (DJ c):=by
 unfold DJ;split
 ·exact⟨⟨g.way,g.pass,g.task,g.mo,g.m0⟩,⟨rfl,rfl,rfl,rfl⟩⟩
 ·exact⟨g,Kp.rfl⟩
theorem Zc5 (K:Kf) (c:Cv) (l:Int):Kp c (Eh K c l):=⟨rfl,rfl,rfl,rfl⟩
theorem Gd.e0 {K:Kf} {n:Int} {c:Cv} (g:Gd K n c) (x:Int):Gd K n {c with e0:=x}:=⟨g.way,g.pass,g.task,g.mo,g.m0⟩
theorem Gd.s3 {K:Kf} {n:Int} {c:Cv} (g:Gd K n c) (x:Int):Gd K n {c with s3:=x}:=⟨g.way,g.pass,g.task,g.mo,g.m0⟩
theorem Q1d {K:Kf} {n:Int} {c:Cv} (h:KOK K) (g:Gd K n c) (hn:0<=n/\n<=10000) (l:Int) {s:Sgm} (hs:i64 s.lead):Gd K (n+1) (Gw K c l s)/\Kp c (Gw K c l s):=by
 have gp:=Quj h g hn l;unfold Gw;split
 ·exact⟨gp.s3 _,⟨rfl,rfl,rfl,rfl⟩⟩
 ·obtain⟨-,v,s',b,z,y,e,h2,h3⟩:=Qx8 h g l hs;have gm:Gd K (n+1) (KE c (thO K c l s.lead)):=by
   have e1:gA (thO K c l s.lead) 1=v:=by rw[h2];rfl
   have:=g.move h hn h3;unfold KE TF;rw[e1];generalize thO K c l s.lead=o;exact this.same rfl rfl rfl rfl rfl rfl rfl
  unfold J7;split
  ·exact⟨gp.e0 3,⟨rfl,rfl,rfl,rfl⟩⟩
  ·split
   ·exact⟨(L4 gm).1,Kp.trans (b:=KE c (thO K c l s.lead)) ⟨rfl,rfl,rfl,rfl⟩ (L4 gm).2⟩
   ·exact⟨gm,⟨rfl,rfl,rfl,rfl⟩⟩
theorem Zwn {K:Kf} {n:Int} {c:Cv} (h:KOK K) (g:Gd K n c) (hn:0<=n/\n<=10000) (l:Int):Gd K (n+1) (Dx K c l)/\Kp c (Dx K c l):=by
 unfold Dx;split
 ·exact⟨Quj h g hn l,Zc5 K c l⟩
 ·rename_i hx;have hl:(sgK K c).lead≠0:=fun e=>hx (.inl e);split
  ·exact Q1d h g hn l (HK h hl).2.2
  ·split
   ·have:=Q1d h (g.go (sgK K c)) hn l (HK h hl).2.2;exact⟨this.1,Kp.trans (b:=goC K c (sgK K c)) ⟨rfl,rfl,rfl,rfl⟩ this.2⟩
   ·split
    ·exact⟨(L4 (g.up hn.1)).1,(L4 g).2⟩
    ·exact⟨g.up hn.1,Kp.rfl⟩
theorem Q9n {K:Kf} {n:Int} {c:Cv} (h:KOK K) (g:Gd K n c) (hn:0<=n/\n<=10000):Gd K (n+1) (Dm K c).2/\Kp c (Dm K c).2:=by
 have hi:=Qqx K c;unfold Dm;split
 ·split
  ·rename_i k;have k2:(A1 K c).2<K.p.marks.length:=by
    rcases hi with hi|hi
    ·omega
    ·exact hi.2.2
   have gb:=Zea (g.up hn.1) k k2;split
   ·exact⟨(L4 gb.1).1,gb.2.trans (L4 gb.1).2⟩
   ·exact gb
  ·split
   ·exact⟨⟨g.way,g.pass,g.task,(g.up hn.1).mo,(g.up hn.1).m0⟩,⟨rfl,rfl,rfl,rfl⟩⟩
   ·exact⟨g.up hn.1,Kp.rfl⟩
 ·exact Zwn h g hn _
theorem Q1q {K:Kf} {n:Int} {c:Cv} (h:KOK K) (g:Gd K n c) (hn:0<=n/\n<=10000):Gd K n (C1 K c).2/\Kp c (C1 K c).2:=by
 unfold C1;split
 ·exact⟨(g.stand h hn).1,⟨rfl,rfl,rfl,rfl⟩⟩
 ·split
  ·exact⟨g,Kp.rfl⟩
  ·split
   ·exact⟨⟨g.way,g.pass,g.task,g.mo,g.m0⟩,⟨rfl,rfl,rfl,rfl⟩⟩
   ·split
    ·exact Qy3 g
    ·exact⟨g,Kp.rfl⟩
theorem Qv9 {K:Kf} {n:Int} {c:Cv} (h:KOK K) (g:Gd K n c) (hn:0<=n/\n<=10000) (E:List Evn):Gd K (n+1) (stC K c E).2/\Kp (FY c) (stC K c E).2:=by
 have gr:=Q1q h (Qgx g E) hn;have kp:=(QX K c E).kp.trans gr.2;unfold stC;split
 ·have:=Q9n h gr.1 hn;exact⟨this.1,kp.trans this.2⟩
 ·exact⟨gr.1.up hn.1,kp⟩
theorem Zp (K:Kf) (s:Int):∀(l:List Mrk) (c:Cv),c.passed<=(Eg K s l c).2.passed/\(Eg K s l c).2.passed<=c.passed+l.length
 |[],c=>by simp[Eg]
 |m::l,c=>by
  unfold Eg;split
  ·simp only[List.length_cons];omega
  ·split
   ·have:=Zp K s l {c with outs:=swI c.outs (itK K m.item),passed:=c.passed+1};simp only[List.length_cons]at this⊢;omega
   ·have:=Zp K s l {c with passed:=c.passed+1};simp only[List.length_cons]at this⊢;omega
theorem Qn6 {K:Kf} {n:Int} {c:Cv} (h:KOK K) (g:Gd K n c) (hn:0<=n/\n<=10000) (E:List Evn):Gd K (n+1) (Dw K c E):=by
 have gs:=(Qv9 h g hn E).1;unfold Dw;generalize(stC K c E).2=d at*;obtain⟨n',q,e⟩:=QU K d (Bu K d);have hb:=Zp K (Bu K d) (K.p.marks.drop d.passed.toNat) d;rw[List.length_drop]at hb;have hb:d.passed<=(B3 K d (Bu K d)).2.passed/\(B3 K d (Bu K d)).2.passed<=d.passed+((K.p.marks.length-d.passed.toNat:Nat):Int):=hb;rw[e]at hb⊢;have hp:=gs.pass;exact⟨gs.way,by dsimp only at hb⊢;omega,gs.task,gs.mo,gs.m0⟩
theorem Qn {K:Kf} {c:Cv} {n:Int} (h:KOK K) (g:Gd K n c) (hn:0<=n/\n<=10000) {E:List Evn} (hE:JX E):
  Hg (.view kPt (E.map evR)::Ad K c)=some (tkC K c E++Ad K (Dw K c E)):=by
 have gp:=Qgx g E;have gr:=Q1q h gp hn;have gs:=Qv9 h g hn E;have hf: -300000000000<=Bo (BZ c E)/\Bo (BZ c E)<=300000000000:=Q06 (g.clear.sm (Q7a c E)) (by omega);refine Zxo (Zeq hE Zqr) (Zbj h) Zd3 (Sw K) Zn6 fun o ho=> ?_;refine Zcg (s:=stC K c E) ho (Zu8 _ (Zyf K _) (Q9l K _) (Zs2 K _) (Zyp h gp) (Zzv gp.way)) (fun _=>Zos h gr.1 hn) rfl ?_;exact Zld h gs.1 (by omega) gs.2.changed hf
end Go.Bm
noncomputable section
namespace Go.Bm
theorem Zow (a b c:Int) {d:Int} (h:d<=0):G3 [I a,I b,I c,I d]=some [I 0]:=by
 show Sy _=_;rw[Ua,Br (decide_eq_true h)]
theorem Zas {a b c:Int} (h:Plan3 a b c):GJ [I a,I b,I c,I 0,I 0]=some [B true]:=by
 have key:∀{M:Fn},(∀d:Int,d<=0->M [I a,I b,I c,I d]=some [I 0])->Ph M [I a,I b,I c,I 0,I 0]=some [B true]:=by
  intro M hM;have ha:=h.a;have hb:=h.b
  rw[Ze,Ae (x:=0-a) (by omega)];refine eF (decide_eq_false (by omega)) (eF (decide_eq_false (by omega)) (eT rfl (eF (decide_eq_false (by omega)) ?_)));refine eB (hM _ (by decide)) (eT rfl (eB (hM 0 (by omega)) ?_));rfl
 exact key fun d hd=>Zow a b c hd
theorem Zww {a b c:Int} (h:Plan3 a b c):J8 [I a,I b,I c,I 0,I 0]=some [.view Aa [],B true]:=by
 have key:∀{MB MR MV:Fn},MV [I a,I b,I c]=some [B true]->MR [I a,I b,I c,I 0,I 0]=some [B true]->Qh MB MR MV (An (HM MB MR MV)) [I a,I b,I c,I 0,I 0]=some [.view Aa [],B true]:=by
  intro MB MR MV h1 h2;rw[Qn9];refine eB h1 (eF rfl (eB h2 (eF rfl ?_)));have hs:HM MB MR MV [.view Aa [],I 0,I 0,I a,I b,I c]=some (2,[.view Aa []]):=by
   rw[P7];rfl
  exact eB (A5 hs (by simp)) rfl
 refine key ?_ (Zas h);rw[PC,decide_eq_true];exact⟨h.a.1,h.a.2,h.b.1,h.b.2,h.c.1,h.c.2⟩
theorem Zd9 {a b c:Int} (h:Plan3 a b c) (x3 x6 x7 x8:Int):Do [I a,I b,I c,I x3,I 0,I 0,I x6,I x7,I x8]=some [.view Aa [],B true]:=by
 have key:∀{M:Fn},M [I a,I b,I c,I 0,I 0]=some [.view Aa [],B true]->L2 M (An (Ht M)) [I a,I b,I c,I x3,I 0,I 0,I x6,I x7,I x8]=some [.view Aa [],B true]:=by
  intro M h1;rw[R8];have hs:Ht M [.view Aa [],I x3, .view Aa [],I 0,I 0]=some (1,[.view Aa []]):=by
   rw[Qc0];rfl
  exact eB h1 (eF rfl (eT rfl (eT rfl (eB (A5 hs (by simp)) rfl))))
 exact key (Zww h)
theorem Zj3 {K:Kf} (h:Plan3 K.pa K.pb K.pc) {c:Cv} (h1:c.m1=0) (h2:c.m2=0):R9 K c=c.m0:=by
 have key:∀{M:Fn},M [I K.pa,I K.pb,I K.pc,I c.m0,I 0,I 0,I c.m3,I c.m4,I c.m5]=some [.view Aa [],B true]->LJ M [I K.pa,I K.pb,I K.pc,I c.m0,I 0,I 0,I c.m3,I c.m4,I c.m5]=some [I c.m0,B true]:=by
  intro M hM;rw[Sl];exact eB hM (eF rfl (eT rfl rfl))
 have e:DY [I K.pa,I K.pb,I K.pc,I c.m0,I 0,I 0,I c.m3,I c.m4,I c.m5]=some [I c.m0,B true]:=key (Zd9 h _ _ _ _);unfold R9 one;rw[h1,h2,e];rfl
abbrev QR:Axs:=⟨8,10,10,10,-16777216,16777216,0,0,0,[]⟩
theorem Qcu:AxOK QR:=⟨by decide,by decide,by decide,fun h=>absurd rfl h,⟨fun x h=>(by cases h),fun i h=>(by simp at h)⟩,by decide,by decide⟩
abbrev KS:Ax3:=⟨QR,QR,QR⟩
theorem machX:MachOK KS 9 3 100 1 0:=⟨⟨Qcu,Qcu,Qcu⟩,⟨by decide,by decide,by decide⟩,by decide,by decide⟩
abbrev BX:Itm:=⟨12,0,⟨0,0,0⟩,⟨0,0,0⟩,0,⟨0,0,0⟩,0,false,0,false,0,0,0,0,0,false⟩
theorem Q0p:Items 4084 ⟨0,0,0⟩ []:=⟨trivial,fun it h=>by cases h⟩
theorem Zq1:Items 4084 ⟨0,0,0⟩ [BX]:=by
 have h:=L9 Q0p (it:=BX) (fun h=>by unfold AF at h;simp at h) (.inr ⟨by decide,fun h=>by simp at h,fun h=>by simp at h,fun h=>by simp at h⟩);exact h
abbrev kX (l:List Itm):Kf:=kfP KS 9 3 100 1 0 l true
theorem Vm {l:List Itm} (h:(A3 l).segs=[]) (c:Cv):IF (kX l) c=false:=by
 unfold IF Fw;rw[h];rfl
theorem gd0 (l:List Itm):Gd (kX l) 0 CT:=⟨rfl,⟨by decide,by simp⟩,fun h=>(by cases h),Qla machX.plan,by decide⟩
theorem Zx:A3 []=⟨⟨0,0,0⟩,[],[]⟩:=rfl
theorem SM:A3 [BX]=⟨⟨0,0,0⟩,[],[⟨0,3,0⟩]⟩:=by
 have e:Aw [BX] 1=⟨[],[⟨0,3,0⟩],0,0,-1,false,⟨0,0,0⟩,⟨0,0,0⟩⟩:=by
  rw[Aw,Aw];unfold FG;rw[if_neg (by decide)];rfl
 show Pth.mk (Aw [BX] 1).start (Aw [BX] 1).segs (Aw [BX] 1).marks=_;rw[e]
theorem Q4g {p:Pth} (h:p.segs=[]):EZ p KS ⟨1,1,1⟩ 0 (AT p.segs)=⟨[],0,0,⟨1,1,1⟩⟩:=by
 unfold EZ;rw[h];rfl
theorem kX0:kX []=⟨KS,9,3,100,1,0,[],true,⟨⟨0,0,0⟩,[],[]⟩,0,I3 [],⟨[],0,0,⟨1,1,1⟩⟩⟩:=by
 show Kf.mk _ _ _ _ _ _ _ _ _ _ _ _=_;rw[Q4g (p:=A3 []) (by rw[Zx]),Zx];rfl
theorem kX1:kX [BX]=⟨KS,9,3,100,1,0,[BX],true,⟨⟨0,0,0⟩,[],[⟨0,3,0⟩]⟩,0,I3 [BX],⟨[],0,0,⟨1,1,1⟩⟩⟩:=by
 show Kf.mk _ _ _ _ _ _ _ _ _ _ _ _=_;rw[Q4g (p:=A3 [BX]) (by rw[SM]),SM];rfl
abbrev Je:Cv:={CT with stood:=true}
theorem Q8h {K:Kf} (ht:∀c,IF K c=false) (hr:K.ramp=1):BP K CT []=Je:=by
 show Kn (EP K (Cf (EG CT)))=_;unfold EP;rw[if_neg (by rw[ht];simp),hr];rfl
theorem Q9c:(stC (kX []) CT []).1=7:=by
 have e:=Q8h (Vm (l:=[]) (by rw[Zx])) rfl;have er:C1 (kX []) Je=(0,Je):=rfl;unfold stC;rw[e,er,if_pos rfl];have el:A1 (kX []) Je=(0,-1):=by
  rw[kX0];unfold A1 BU;rfl
 unfold Dm;rw[el];rfl
abbrev JS:Cv:={Je with on:=true,idx:=0,waits:=true,cnt:=1}
theorem st1:stC (kX [BX]) CT []=(2,JS):=by
 have e:=Q8h (Vm (l:=[BX]) (by rw[SM])) rfl;have er:C1 (kX [BX]) Je=(0,Je):=rfl;unfold stC;rw[e,er,if_pos rfl];have el:A1 (kX [BX]) Je=(0,0):=by
  have e2:=Zj3 (K:=kX [BX]) machX.plan (c:=Je) rfl rfl;unfold A1;rw[e2,kX1];rfl
 unfold Dm;rw[el,kX1];rfl
theorem Qrr:Dw (kX [BX]) CT []=JS:=by
 unfold Dw;rw[st1,kX1];rfl
theorem Zmn:(stC (kX [BX]) JS [⟨0,4,0⟩]).1=3:=by
 have ht:=Vm (l:=[BX]) (by rw[SM]);have e:BP (kX [BX]) JS [⟨0,4,0⟩]=Kn (spS (Cf (EG (BZ JS [⟨0,4,0⟩]))) 1):=by
  unfold BP EP;rw[if_neg (by rw[ht];simp)]
 unfold stC;rw[e,kX1];rfl
theorem Qzr (K:Kf) (c:Cv) (E:List Evn) (l:List AC):gA (tkC K c E++l) 2=(stC K c E).1:=rfl
theorem Qpu:JX []:=⟨by simp,fun e h=>by cases h⟩
theorem Zt8 {MS MN:Fn}
  (h0:MN (AI KS++[I 9,I 3,I 100,I 1,I 0]++[.view Ak (([]:List Itm).map Ag),B true])=some (I 0::Ad (kX []) CT))
  (h1:MN (AI KS++[I 9,I 3,I 100,I 1,I 0]++[.view Ak ([BX].map Ag),B true])=some (I 0::Ad (kX [BX]) CT))
  (hs0:∃l,MS (.view kPt (([]:List Evn).map evR)::Ad (kX []) CT)=some l/\gA l 2=7)
  (hs1:∃l,MS (.view kPt (([]:List Evn).map evR)::Ad (kX [BX]) CT)=some (l++Ad (kX [BX]) JS)/\l.length=9/\gA l 2=2)
  (hs2:∃l,MS (.view kPt ([(⟨0,4,0⟩:Evn)].map evR)::Ad (kX [BX]) JS)=some l/\gA l 2=3):
  Qbg MS MN []=some [B true]:=by
 rw[Z0v];obtain⟨l0,s0,m0⟩:=hs0;obtain⟨l1,s1,n1,m1⟩:=hs1;obtain⟨l2,s2,m2⟩:=hs2
 match l1,n1 with
 |[a0,a1,a2,a3,a4,a5,a6,a7,a8],_=>
  refine eB h0 (eB h1 (eF rfl (eF rfl (eB s0 (eT (beT m0) (eB s1 (eT (beT m1) (eB s2 ?_))))))));rw[m2];rfl
theorem Q2o:K2 []=some [B true]:=by
 have n0:=Un machX (items:=[]) (by simp) Q0p true;have n1:=Un machX (items:=[BX]) (by simp) Zq1 true;have z0:=Qn n0.2 (gd0 []) (by omega) Qpu;have z1:=Qn n1.2 (gd0 [BX]) (by omega) Qpu;have g1:Gd (kX [BX]) 1 JS:=by
  have:=Qn6 n1.2 (gd0 [BX]) (by omega) [];rw[Qrr]at this;exact this
 have z2:=Qn n1.2 g1 (by omega) (E:=[⟨0,4,0⟩]) ⟨by simp,fun e h=>by simp at h;subst h;simp⟩;rw[Qrr]at z1;exact Zt8 n0.1 n1.1 ⟨_,z0,(Qzr _ _ _ _).trans Q9c⟩ ⟨_,z1,rfl,by show(stC (kX [BX]) CT []).1=2;rw[st1]⟩ ⟨_,z2,(Qzr _ _ _ _).trans Zmn⟩
end Go.Bm
noncomputable section
namespace Go.Bm
abbrev atE (E:List Evn) (k:Int):List Evn:=E.filter fun e=>e.cycle==k
theorem Qd6 {E:List Evn} {k:Int} {e:Evn} (h:e∈atE E k):e∈E:=(List.mem_filter.1 h).1
theorem Qp6 (E:List Evn) (k:Int):(atE E k).length<=E.length:=List.length_filter_le _ _
structure Tk (K : Kf) (o : List AC) (c : Cv) (s : Int) (m : Pt) : Prop where
 ex:∃(pul outs:Rw) (mode sp ft:Int),o=L3 pul outs mode s m sp ft++Ad K c
def H7 (K:Kf) (E:List Evn):Nat->Cv
 |0=>CT
 |k+1=>Dw K (H7 K E k) (atE E k)
theorem gdK {K:Kf} (h:KOK K):Gd K 0 CT:=⟨rfl,⟨by decide,by simp⟩,fun h=>(by cases h),Qla h.plan,by decide⟩
theorem Qi3 {K:Kf} (h:KOK K) (E:List Evn):∀k:Nat,k<=10000->Gd K k (H7 K E k)
 |0,_=>gdK h
 |k+1,hk=>Qn6 h (Qi3 h E k (by omega)) (by omega) _
end Go.Bm
noncomputable section
namespace Go.Bm
structure Cm (c : Cv) : Prop where
 on:c.on=true->c.m1=0
 ended:c.ended≠0->c.m1=0
 touched:c.touched=false
structure Mt (c d : Cv) : Prop where
 m0:d.m0=c.m0
 m1:d.m1=c.m1
 m2:d.m2=c.m2
 touched:d.touched=c.touched
 g0:d.g0=c.g0
 g1:d.g1=c.g1
 g2:d.g2=c.g2
 o2:d.o2=c.o2
theorem Mt.rfl {c:Cv}:Mt c c:=⟨Eq.refl _,Eq.refl _,Eq.refl _,Eq.refl _,Eq.refl _,Eq.refl _,Eq.refl _,Eq.refl _⟩
theorem Mt.trans {a b c:Cv} (h:Mt a b) (g:Mt b c):Mt a c:=
 ⟨g.m0.trans h.m0,g.m1.trans h.m1,g.m2.trans h.m2,g.touched.trans h.touched,g.g0.trans h.g0,g.g1.trans h.g1,g.g2.trans h.g2,g.o2.trans h.o2⟩
theorem Mt.cm {c d:Cv} (h:Mt c d) (h1:c.m1=0) (ht:c.touched=false):Cm d:=
 ⟨fun _=>h.m1.trans h1,fun _=>h.m1.trans h1,h.touched.trans ht⟩
theorem Ztn (K:Kf) (c:Cv):Mt c (Iz K c).2:=by
 have done:∀d:Cv,Mt c d->Mt c (HJ d):=fun d k=>k.trans ⟨rfl,rfl,rfl,rfl,rfl,rfl,rfl,rfl⟩;have cmd:∀n' sp:Int,Mt c (JZ c n' sp):=fun n' sp=>⟨rfl,rfl,rfl,rfl,rfl,rfl,rfl,rfl⟩;unfold Iz;split
 ·split
  ·exact done c Mt.rfl
  ·exact Mt.rfl
 ·split
  ·exact done c Mt.rfl
  ·split
   ·split
    ·exact Mt.rfl
    ·exact done c Mt.rfl
   ·split
    ·split
     ·exact done _ (cmd _ _)
     ·exact cmd _ _
    ·split
     ·exact⟨rfl,rfl,rfl,rfl,rfl,rfl,rfl,rfl⟩
     ·exact done c Mt.rfl
theorem PO (K:Kf) (c:Cv):Mt c (Cq K c).2:=Mt.trans (b:=C3 c) ⟨rfl,rfl,rfl,rfl,rfl,rfl,rfl,rfl⟩ (Ztn K _)
theorem Qdg (K:Kf) (c:Cv) (i:Int):Mt c (DT K c i).2:=Mt.trans (b:={c with on:=true,idx:=i,waits:=FO K c i,cnt:=0}) ⟨rfl,rfl,rfl,rfl,rfl,rfl,rfl,rfl⟩ (PO K _)
structure Os (c d : Cv) : Prop where
 on:d.on=c.on
 ended:d.ended=c.ended
 touched:d.touched=c.touched
 gu:(d.g0=c.g0/\d.g1=c.g1/\d.g2=c.g2)\/(c.g0=0/\d.g0=1/\d.g1=18)
theorem Os.trans {a b c:Cv} (h:Os a b) (g:Os b c):Os a c:=by
 refine⟨g.on.trans h.on,g.ended.trans h.ended,g.touched.trans h.touched,?_⟩;rcases h.gu with⟨h0,h1,h2⟩|⟨h0,h1,h2⟩<;>rcases g.gu with⟨k0,k1,k2⟩|⟨k0,k1,k2⟩
 ·exact .inl ⟨k0.trans h0,k1.trans h1,k2.trans h2⟩
 ·exact .inr ⟨h0.symm.trans k0,k1,k2⟩
 ·exact .inr ⟨h0,k0.trans h1,k1.trans h2⟩
 ·omega
theorem TT (c:Cv):Os c (DJ c):=by
 unfold DJ;split
 ·rename_i h;exact⟨rfl,rfl,rfl, .inr ⟨h,rfl,rfl⟩⟩
 ·exact⟨rfl,rfl,rfl, .inl ⟨rfl,rfl,rfl⟩⟩
theorem Zxb {c:Cv} (h:c.g0≠0):DJ c=c:=by unfold DJ;rw[if_neg h]
theorem Qki (K:Kf) (c:Cv) (l:Int):Os c (Eh K c l):=⟨rfl,rfl,rfl, .inl ⟨rfl,rfl,rfl⟩⟩
theorem Qul (c:Cv) (o:List AC):Os c (KE c o):=⟨rfl,rfl,rfl, .inl ⟨rfl,rfl,rfl⟩⟩
theorem Q4q (K:Kf) (c:Cv) (l:Int) (s:Sgm):Os c (Gw K c l s):=by
 unfold Gw;split
 ·exact(Qki K c l).trans ⟨rfl,rfl,rfl, .inl ⟨rfl,rfl,rfl⟩⟩
 ·unfold J7;split
  ·exact(Qki K c l).trans ⟨rfl,rfl,rfl, .inl ⟨rfl,rfl,rfl⟩⟩
  ·split
   ·exact(Qul c _).trans (TT _)
   ·exact Qul c _
theorem Z1u (K:Kf) (c:Cv) (l:Int):Os c (Dx K c l):=by
 unfold Dx;split
 ·exact Qki K c l
 ·split
  ·exact Q4q K c l _
  ·split
   ·exact Os.trans (b:=goC K c (sgK K c)) ⟨rfl,rfl,rfl, .inl ⟨rfl,rfl,rfl⟩⟩ (Q4q K _ l _)
   ·split
    ·exact TT c
    ·exact⟨rfl,rfl,rfl, .inl ⟨rfl,rfl,rfl⟩⟩
def Gg (c:Cv):Prop:=(c.g0=0/\c.g1=0/\c.g2= -1)\/(c.g0=1/\c.g1=18)
theorem Os.gg {c d:Cv} (h:Os c d) (g:Gg c):Gg d:=by
 rcases h.gu with⟨h0,h1,h2⟩|⟨h0,h1,h2⟩
 ·unfold Gg;rw[h0,h1,h2];exact g
 ·exact .inr ⟨h1,h2⟩
theorem Mt.gg {c d:Cv} (h:Mt c d) (g:Gg c):Gg d:=by unfold Gg;rw[h.g0,h.g1,h.g2];exact g
theorem Os.cm {c d:Cv} (h:Os c d) (h1:c.on=false) (h2:c.ended=0) (ht:c.touched=false):Cm d:=
 ⟨fun e=>(by rw[h.on,h1]at e;cases e),fun e=>absurd (h.ended.trans h2) e,h.touched.trans ht⟩
theorem Z0a (K:Kf) {c:Cv} (hs:c.stood=true->c.m1=0) (h1:c.on=false) (h2:c.ended=0) (ht:c.touched=false):Cm (Dm K c).2/\(Gg c->Gg (Dm K c).2):=by
 unfold Dm;split
 ·rename_i h;have m:=hs h.1;split
  ·split
   ·have b:=Qdg K c (A1 K c).2;have f:=TT (DT K c (A1 K c).2).2;refine⟨?_,fun g=>f.gg (b.gg g)⟩;have e:(DJ (DT K c (A1 K c).2).2).m1=0:=by
     unfold DJ;split
     ·exact b.m1.trans m
     ·exact b.m1.trans m
    exact⟨fun _=>e,fun _=>e,f.touched.trans (b.touched.trans ht)⟩
   ·have b:=Qdg K c (A1 K c).2;exact⟨b.cm m ht,b.gg⟩
  ·split
   ·exact⟨⟨fun _=>m,fun _=>m,ht⟩,id⟩
   ·exact⟨⟨fun _=>m,fun _=>m,ht⟩,id⟩
 ·have o:=Z1u K c (A1 K c).1;exact⟨o.cm h1 h2 ht,o.gg⟩
theorem Q58 (K:Kf) (c:Cv) (E:List Evn):(BP K c E).stood=true->(BP K c E).m1=0:=by
 unfold BP Kn;generalize EP K (Cf (EG (BZ c E)))=d;intro h;have h:FA d=true:=h;unfold FA at h;rw[Bool.and_eq_true]at h;exact eq_of_beq h.1
theorem Q4v {K:Kf} {c:Cv} (h:Cm c) (E:List Evn):Cm (BP K c E):=by
 have s:=QX K c E;exact⟨fun e=>s.m1.trans (h.on (s.on.symm.trans e)),fun e=>s.m1.trans (h.ended fun q=>e (s.ended.trans q)),s.touched.trans h.touched⟩
theorem Zom {K:Kf} {c:Cv} (h:Cm c) (E:List Evn):Cm (stC K c E).2/\(Gg (BP K c E)->Gg (stC K c E).2):=by
 have hp:=Q4v (K:=K) h E;have hs:=Q58 K c E;unfold stC;generalize BP K c E=d at*;unfold C1;by_cases c1:d.g0=2
 ·rw[if_pos c1,if_neg (by simp)];exact⟨⟨fun _=>rfl,fun _=>rfl,hp.touched⟩,id⟩
 ·rw[if_neg c1];by_cases c2:d.ended≠0
  ·rw[if_pos c2,if_neg c2];exact⟨hp,id⟩
  ·rw[if_neg c2,if_neg (show¬(d.touched=true/\d.stood=true)from fun w=>by have:=w.1;rw[hp.touched]at this;cases this)];by_cases c3:d.on=true
   ·rw[if_pos c3,if_neg (show¬(Cq K d).1=0 from Q3h K _)];exact⟨(PO K d).cm (hp.on c3) hp.touched,(PO K d).gg⟩
   ·rw[if_neg c3,if_pos rfl];exact Z0a K hs (by simpa using c3) (Decidable.not_not.1 c2) hp.touched
theorem Quu {K:Kf} {c:Cv} (h:Cm c) (E:List Evn):Cm (Dw K c E)/\(Gg (BP K c E)->Gg (Dw K c E)):=by
 have hs:=Zom (K:=K) h E;unfold Dw;generalize(stC K c E).2=d at*;obtain⟨n,q,e⟩:=QU K d (Bu K d);rw[e];exact⟨⟨hs.1.on,hs.1.ended,hs.1.touched⟩,hs.2⟩
theorem Zkx {c:Cv} {k n:Int} (hk:k<=6):(evC c k n).g0=c.g0/\(evC c k n).g1=c.g1/\(evC c k n).g2=c.g2:=by
 have hs:Fh k n=false:=by
  unfold Fh;rw[beF (show k≠9 by omega),beF (show k≠8 by omega)];rfl
 refine⟨?_,?_,?_⟩
 ·show(if k=10 then 2 else if k=11 then 0 else if Fh k n=true then(if c.g0=2 then 2 else 1)else c.g0)=_;rw[if_neg (by omega),if_neg (by omega),if_neg (by rw[hs];simp)]
 ·show(if k=10 then 22 else if k=11 then 0 else if Fh k n=true/\c.g0≠2/\c.g1=0 then(if k=9 then 21 else 20)else c.g1)=_;rw[if_neg (by omega),if_neg (by omega),if_neg (by rw[hs];simp)]
 ·show(if k=10 then-1 else if k=11 then-1 else if Fh k n=true/\c.g0≠2/\c.g1=0 then(if k=9 then-1 else n)else c.g2)=_;rw[if_neg (by omega),if_neg (by omega),if_neg (by rw[hs];simp)]
theorem SZ:∀(E:List Evn) (c:Cv),(∀e∈E,e.kind<=6)->(E.foldl (fun c e=>evC c e.kind e.n) c).g0=c.g0/\(E.foldl (fun c e=>evC c e.kind e.n) c).g1=c.g1/\(E.foldl (fun c e=>evC c e.kind e.n) c).g2=c.g2
 |[],c,_=>⟨rfl,rfl,rfl⟩
 |e::E,c,hk=>by
  have h:=SZ E (evC c e.kind e.n) fun x hx=>hk x (by simp[hx]);have g:=Zkx (c:=c) (k:=e.kind) (n:=e.n) (hk e (by simp));exact⟨h.1.trans g.1,h.2.1.trans g.2.1,h.2.2.trans g.2.2⟩
theorem Ql0 (K:Kf) (c:Cv) (E:List Evn):(BP K c E).g0=(BZ c E).g0/\(BP K c E).g1=(BZ c E).g1/\(BP K c E).g2=(BZ c E).g2/\((BZ c E).g0≠0->(BP K c E).o2=true):=by
 unfold BP;generalize BZ c E=d;have h1:(EG d).g0=d.g0/\(EG d).g1=d.g1/\(EG d).g2=d.g2/\(d.g0≠0->(EG d).o2=true):=by
  unfold EG;split
  ·exact⟨rfl,rfl,rfl,fun _=>rfl⟩
  ·rename_i h;exact⟨rfl,rfl,rfl,fun e=>absurd (.inr e) h⟩
 have h2:∀d:Cv,(EP K d).g0=d.g0/\(EP K d).g1=d.g1/\(EP K d).g2=d.g2/\(EP K d).o2=d.o2:=fun d=>by
  unfold EP;split
  ·exact⟨rfl,rfl,rfl,rfl⟩
  ·exact⟨rfl,rfl,rfl,rfl⟩
 have h3:=h2 (Cf (EG d));exact⟨h3.1.trans h1.1,h3.2.1.trans h1.2.1,h3.2.2.1.trans h1.2.2.1,fun e=>h3.2.2.2.trans (h1.2.2.2 e)⟩
theorem Zwa {K:Kf} {c:Cv} {E:List Evn} (hk:∀e∈E,e.kind<=6) (h:Gg c):Gg (BP K c E):=by
 have g:=Ql0 K c E;have f:=SZ E (FY c) hk;unfold Gg;rw[g.1,g.2.1,g.2.2.1];unfold BZ;rw[f.1,f.2.1,f.2.2];exact h
def Sp (c:Cv):Prop:=c.g0=1/\c.g1=21/\c.g2= -1/\c.o2=true
theorem Zuq {K:Kf} {c:Cv} {E:List Evn} (hk:∀e∈E,e.kind<=6) (h:Sp c):Sp (BP K c E):=by
 have g:=Ql0 K c E;have f:=SZ E (FY c) hk;have e0:(BZ c E).g0=1:=f.1.trans h.1;exact⟨g.1.trans e0,g.2.1.trans (f.2.1.trans h.2.1),g.2.2.1.trans (f.2.2.trans h.2.2.1),g.2.2.2 (by omega)⟩
theorem Z2y {K:Kf} {c:Cv} {E:List Evn} (hk:∀e∈E,e.kind<=6) (h:c.g0=0/\c.g1=0/\c.g2= -1):Sp (BP K c (⟨0,9,0⟩::E)):=by
 have g:=Ql0 K c (⟨0,9,0⟩::E);have f:=SZ E (evC (FY c) 9 0) hk;have hs:Fh 9 0=true:=rfl;have h0:(evC (FY c) 9 0).g0=1:=by
  show(if(9:Int)=10 then 2 else if(9:Int)=11 then 0 else if Fh 9 0=true then(if c.g0=2 then 2 else 1)else c.g0)=(1:Int);rw[if_neg (by omega),if_neg (by omega),if_pos hs,if_neg (by omega)]
 have h1:(evC (FY c) 9 0).g1=21:=by
  show(if(9:Int)=10 then 22 else if(9:Int)=11 then 0 else if Fh 9 0=true/\c.g0≠2/\c.g1=0 then(if(9:Int)=9 then 21 else 20)else c.g1)=(21:Int);rw[if_neg (by omega),if_neg (by omega),if_pos ⟨hs,by omega,h.2.1⟩,if_pos rfl]
 have h2:(evC (FY c) 9 0).g2= -1:=by
  show(if(9:Int)=10 then-1 else if(9:Int)=11 then-1 else if Fh 9 0=true/\c.g0≠2/\c.g1=0 then(if(9:Int)=9 then-1 else 0)else c.g2)=(-1:Int);rw[if_neg (by omega),if_neg (by omega),if_pos ⟨hs,by omega,h.2.1⟩,if_pos rfl]
 have e0:(BZ c (⟨0,9,0⟩::E)).g0=1:=f.1.trans h0;exact⟨g.1.trans e0,g.2.1.trans (f.2.1.trans h1),g.2.2.1.trans (f.2.2.trans h2),g.2.2.2 (by omega)⟩
end Go.Bm
noncomputable section
namespace Go.Bm
theorem Zok {a k c v x:Int} (hp:Plan3 a k c) (hr:Cj a k v x) (c0:v<=0):AA a k v x=0:=by
 have hc:=closed hp hr;have hrg:=FD hp hc.1;have hv:v=0:=by have:=FD hp hr;omega
 obtain⟨B,hB⟩:∃B,B=bs k v 20 (-x-k) (min (k-x) a):=⟨_,rfl⟩;obtain⟨q1,q2,q3,q4,q5,q6⟩:=R7 hp hr hB;have:=Hp (k:=k) (b:=B) (by have:=hp.b;omega);have hx:=hr.2.2.2.2 hv;have ha:=hp.a;have e:AA a k v x= -B:=by unfold AA;rw[hB]
 rw[e];rcases q5 with q5|q5
 ·omega
 ·by_cases hn:B+1<=0
  ·rw[Ik hn]at q5;omega
  ·omega
def stL (K:Kf) (c:Cv):List Int:=(AE K.pa K.pb c.m1 c.m2).1
theorem VC {K:Kf} (h:Plan3 K.pa K.pb K.pc) {c:Cv} (hz:Mo K c) (h1:c.m1<=0):stL K c=[]:=by
 unfold stL;rw[(Qfr h hz).2,if_pos h1]
theorem Q6r {K:Kf} {c d:Cv} (h1:d.m1=c.m1) (h2:d.m2=c.m2):stL K d=stL K c:=by unfold stL;rw[h1,h2]
theorem Zgn {K:Kf} {c:Cv} (l:Int) (ho:c.o2=true) (hg:c.g0≠0):(Dx K c l).m0=(Eh K c l).m0/\(Dx K c l).m1=(Eh K c l).m1/\(Dx K c l).m2=(Eh K c l).m2/\
  (Dx K c l).g0=c.g0/\(Dx K c l).g1=c.g1/\(Dx K c l).g2=c.g2/\(Dx K c l).o2=c.o2:=by
 unfold Dx;split
 ·exact⟨rfl,rfl,rfl,rfl,rfl,rfl,rfl⟩
 ·rename_i hx;split
  ·unfold Gw;split
   ·exact⟨rfl,rfl,rfl,rfl,rfl,rfl,rfl⟩
   ·unfold J7;rw[if_pos hg];exact⟨rfl,rfl,rfl,rfl,rfl,rfl,rfl⟩
  ·rename_i hy;exact absurd (.inr ⟨ho,hy⟩) hx
def Nx (K:Kf) (c e:Cv):Prop:=(stL K c=[]/\stL K e=[]/\e.m0=c.m0)\/(stL K c=e.m1::stL K e/\e.m0=c.m0+e.m1)
theorem Nx.still {K:Kf} (hp:Plan3 K.pa K.pb K.pc) {c e:Cv} (hz:Mo K c) (h:c.m1=0) (m:Mt c e):Nx K c e:=by
 have h0:=VC hp hz (by omega);exact .inl ⟨h0,(Q6r m.m1 m.m2).trans h0,m.m0⟩
theorem Sp.mt {c d:Cv} (h:Sp c) (m:Mt c d):Sp d:=⟨m.g0.trans h.1,m.g1.trans h.2.1,m.g2.trans h.2.2.1,m.o2.trans h.2.2.2⟩
theorem Zqo {K:Kf} (h:KOK K) {n:Int} {c:Cv} (g:Gd K n c) (hn:0<=n/\n<=10000) (hd:Sp c) (hs:c.stood=true->c.m1=0):Sp (Dm K c).2/\Nx K c (Dm K c).2:=by
 have g0:c.g0≠0:=by have:=hd.1;omega
 unfold Dm;split
 ·rename_i hh;have m:=hs hh.1;split
  ·have b:=Qdg K c (A1 K c).2;rw[Zxb (c:=(DT K c (A1 K c).2).2) (by rw[b.g0];exact g0)];split
   ·exact⟨hd.mt b, .still h.plan g.mo m b⟩
   ·exact⟨hd.mt b, .still h.plan g.mo m b⟩
  ·split
   ·exact⟨hd, .still h.plan g.mo m ⟨rfl,rfl,rfl,rfl,rfl,rfl,rfl,rfl⟩⟩
   ·exact⟨hd, .still h.plan g.mo m Mt.rfl⟩
 ·obtain⟨p0,p1,p2,q0,q1,q2,q3⟩:=Zgn (K:=K) (A1 K c).1 hd.2.2.2 g0;generalize Dx K c (A1 K c).1=e at*;show Sp e/\Nx K c e;refine⟨⟨q0.trans hd.1,q1.trans hd.2.1,q2.trans hd.2.2.1,q3.trans hd.2.2.2⟩,?_⟩;have hv:=Zgp h g.mo hd.2.2.2 (A1 K c).1;have r1:=FD h.plan g.mo.ready;have r2:=FD h.plan (closed h.plan g.mo.ready).1;have m0:=g.m0;have e1:e.m1=c.m1+AA K.pa K.pb c.m1 c.m2:=p1.trans hv;have e0:e.m0=c.m0+(c.m1+AA K.pa K.pb c.m1 c.m2):=by
   rw[p0];show wrap .i64 (c.m0+nxV K c (A1 K c).1)=_;rw[hv,Ae (by omega)]
  have e2:e.m2=AA K.pa K.pb c.m1 c.m2:=by
   rw[p2];show wrap .i64 (nxV K c (A1 K c).1-c.m1)=_;rw[hv,Ae (by omega)];omega
  have st:=Qfr h.plan g.mo;by_cases h1:c.m1<=0
  ·have hb:=Zok h.plan g.mo.ready h1;have z:=VC h.plan g.mo h1;have hz:Mo K e:=by unfold Mo;rw[e1,e2];exact st.1
   refine .inl ⟨z,VC h.plan hz (by omega),by omega⟩
  ·refine .inr ⟨?_,by omega⟩;unfold stL;rw[st.2,if_neg h1,<-e2,<-(show e.m1=c.m1+e.m2 by omega)]
theorem Zi3 {K:Kf} (h:KOK K) {n:Int} {c:Cv} {E:List Evn} (g:Gd K n c) (hn:0<=n/\n<=10000) (cm:Cm c) (hd:Sp (BP K c E)):Sp (stC K c E).2/\Nx K c (stC K c E).2:=by
 have sm:=QX K c E;have gd:=Qgx g E;have hp:=Q4v (K:=K) cm E;have hs:=Q58 K c E;have key:Sp (stC K c E).2/\Nx K (BP K c E) (stC K c E).2:=by
  unfold stC;generalize BP K c E=d at*;unfold C1;rw[if_neg (show¬d.g0=2 by have:=hd.1;omega)];by_cases c2:d.ended≠0
  ·rw[if_pos c2,if_neg c2];exact⟨hd, .still h.plan gd.mo (hp.ended c2) Mt.rfl⟩
  ·rw[if_neg c2,if_neg (show¬(d.touched=true/\d.stood=true)from fun w=>by have:=w.1;rw[hp.touched]at this;cases this)];by_cases c3:d.on=true
   ·rw[if_pos c3,if_neg (show¬(Cq K d).1=0 from Q3h K _)];exact⟨hd.mt (PO K d), .still h.plan gd.mo (hp.on c3) (PO K d)⟩
   ·rw[if_neg c3,if_pos rfl];exact Zqo h gd hn hd hs
 refine⟨key.1,?_⟩;have e1:stL K (BP K c E)=stL K c:=Q6r sm.m1 sm.m2;have e0:(BP K c E).m0=c.m0:=sm.m0;have k:=key.2;unfold Nx at k⊢;rw[e1,e0]at k;exact k
theorem Zvd {K:Kf} (h:KOK K) {n:Int} {c:Cv} {E:List Evn} (g:Gd K n c) (hn:0<=n/\n<=10000) (cm:Cm c) (hd:Sp (BP K c E)):Sp (Dw K c E)/\Nx K c (Dw K c E)/\(stC K c E).2.g1=21:=by
 have hs:=Zi3 h g hn cm hd;unfold Dw;generalize(stC K c E).2=d at*;obtain⟨m,q,e⟩:=QU K d (Bu K d);rw[e];exact⟨hs.1,hs.2,hs.1.2.1⟩
theorem Q8p:∀(u:Int) (l:List Int) (j:Nat),j<l.length->(Bk u l)[j]? =some (Bt u (l.take (j+1)))
 |_,[],j,h=>by simp at h
 |u,v::l,0,_=>by simp[Bk,Bt]
 |u,v::l,j+1,h=>by
  have:=Q8p (u+v) l j (by simpa using h);simpa [Bk,Bt]using this
theorem Q99 {K:Kf} {c e:Cv} {u:Int} {l:List Int} {j:Nat} (hn:Nx K c e) (hl:stL K c=l.drop j) (hm:c.m0=Bt u (l.take j)):stL K e=l.drop (j+1)/\e.m0=Bt u (l.take (j+1)):=by
 rcases hn with⟨h1,h2,h3⟩|⟨h1,h2⟩
 ·rw[h1]at hl;have hj:l.length<=j:=List.drop_eq_nil_iff.1 hl.symm;rw[List.take_of_length_le hj]at hm;rw[List.take_of_length_le (by omega),List.drop_of_length_le (by omega)];exact⟨h2,h3.trans hm⟩
 ·have hj:j<l.length:=by
   apply Decidable.byContradiction;intro hc;rw[List.drop_of_length_le (by omega),h1]at hl;cases hl
  rw[List.drop_eq_getElem_cons hj,h1]at hl;injection hl with a b;refine⟨b,?_⟩;rw[List.take_add_one,List.getElem?_eq_getElem hj];show e.m0=Bt u (l.take j++[l[j]]);rw[Qaq,<-hm,<-a];exact h2
theorem Qzl {a k c:Int} (hp:Plan3 a k c) {u:Int} (hu: -1000000000000000<=u/\u<=1000000000000000) {v x:Int} (hz:(AE a k v x).2=true) (x6 x7 x8:Int):
  DY [I a,I k,I c,I u,I v,I x,I x6,I x7,I x8]=some [I (Bt u (AE a k v x).1),B true]:=by
 have key:∀{M:Fn},M [I a,I k,I c,I u,I v,I x,I x6,I x7,I x8]=some [.view Aa ((Bk u (AE a k v x).1).map Ap),B (AE a k v x).2]->LJ M [I a,I k,I c,I u,I v,I x,I x6,I x7,I x8]=some [I (Bt u (AE a k v x).1),B true]:=by
  intro M hM;have hb:=QB hp v x;rw[hz]at hM;rw[Sl];generalize(AE a k v x).1=l at*;refine eB hM (eF rfl ?_);show cond ((((Bk u l).map Ap).length:Int)==0) _ (cond (decide (0<=wrap .i64 ((((Bk u l).map Ap).length:Int)-1))&&decide (wrap .i64 ((((Bk u l).map Ap).length:Int)-1)<(((Bk u l).map Ap).length:Int))) (some [I (Af (nth .dead (nth [] ((Bk u l).map Ap) (wrap .i64 ((((Bk u l).map Ap).length:Int)-1)).toNat) 0)),B true]) none)=_;have el:((Bk u l).map Ap).length=l.length:=by rw[List.length_map,Lq]
  rw[el];refine eC (fun e=> ?_) fun e=> ?_
  ·have e:(l.length:Int)=0:=eq_of_beq e;have:l=[]:=List.length_eq_zero_iff.1 (by omega);subst this;rfl
  ·have e:(l.length:Int)≠0:=by simpa using e
   rw[Ae (x:=(l.length:Int)-1) (by omega)];refine eT (by simp;omega) ?_;have hl:=Qq4 u l (by intro q;rw[q]at e;simp at e);rw[Lq]at hl;have en:((l.length:Int)-1).toNat=l.length-1:=by omega
   have er:nth [] ((Bk u l).map Ap) (l.length-1)=Ap (Bt u l):=by
    rw[BK,List.getD,List.getElem?_map,hl];rfl
   rw[en,er];rfl
 exact key (Qd0 hp hu v x x6 x7 x8)
end Go.Bm
noncomputable section
namespace Go.Bm
theorem Q9q {x0 x1 x2:Rw} (h0:Src x0) (h1:Src x1) (h2:Src x2) (hl:x2.length<=100000) {most:Int} (hm:most<=12) (fin:Bool) (closed:Bool):
  ∃K:Kf,KOK K/\Kg [.view Aa x1, .view Aa x2]=some (AI K.x++[I K.pa,I K.pb,I K.pc,I K.ramp,I K.lag])/\JV [.view Aa x0,I most,B fin]=some [.view Ak (K.items.map Ag)]/\
   HF (AI K.x++[I K.pa,I K.pb,I K.pc,I K.ramp,I K.lag]++[.view Ak (K.items.map Ag),B closed])=some (I 0::Ad K CT):=by
 obtain⟨x,a,b,c,ramp,lag,hQ,hM⟩:=Zou h1 h2 hl;obtain⟨p,items,hI,hit,hlen,-⟩:=Zz6 h0 (most:=most) (by omega) fin;have hn:=Un hM (items:=items) (by omega) hit closed;exact⟨kfP x a b c ramp lag items closed,hn.2,hQ,hI,hn.1⟩
end Go.Bm
noncomputable section
namespace Go.Bm
theorem cm0:Cm CT:=⟨fun h=>(by cases h),fun _=>rfl,rfl⟩
theorem Qpp {K:Kf} {E:List Evn} (hk:∀e∈E,e.kind<=6):∀k:Nat,Cm (H7 K E k)/\Gg (H7 K E k)
 |0=>⟨cm0, .inl ⟨rfl,rfl,rfl⟩⟩
 |k+1=>by
  have h:=Qpp (K:=K) hk k;have s:=Quu (K:=K) h.1 (atE E k);exact⟨s.1,s.2 (Zwa (fun e he=>hk e (Qd6 he)) h.2)⟩
theorem Zun {MP MR MF MM MG' MS MA MD MN MC ME MI MQ MW MV:Fn} {K:Kf} {E:List Evn} (h:KOK K) (hE:E.length<=60) (hk:∀e∈E,e.kind<=6)
  (hA:∀k,MA [.view kPt (E.map evR),I k]=some [.view kPt ((atE E k).map evR)])
  (hS:∀(c:Cv) (n:Int) (E:List Evn),Gd K n c->0<=n/\n<=10000->JX E->MS (.view kPt (E.map evR)::Ad K c)=some (tkC K c E++Ad K (Dw K c E))) {n:Nat} (hn:n<=80):
  Out (fun o=>o=(1, .view kPt (E.map evR)::I n::(AI K.x++([I K.pa,I K.pb,I K.pc,I K.ramp,I K.lag]++Ad K (H7 K E n)))))
   (An (Mg MP MR MF MM MG' MS MA MD MN MC ME MI MQ MW MV) (.view kPt (E.map evR)::I n::I ((0:Nat):Int)::(AI K.x++([I K.pa,I K.pb,I K.pc,I K.ramp,I K.lag]++Ad K (H7 K E 0))))):=by
 refine Cr (fun k:Nat=> .view kPt (E.map evR)::I n::I (k:Int)::(AI K.x++([I K.pa,I K.pb,I K.pc,I K.ramp,I K.lag]++Ad K (H7 K E k)))) (fun k=>k<=n) (fun k=>n-k) _ ?_ 0 (by omega);intro k hk1;refine Out.eqv (Zjb MP MR MF MM MG' MS MA MD MN MC ME MI MQ MW MV (E.map evR) n k _ _ _ _ _ _ _ _ _ _ _ _ _ _ _ _ _ _ _ _ _ _ _ _ _ _ _ _ _ _ _ _ _ _ _ K (H7 K E k)) ?_;refine .cond (fun c=> ?_) fun c=> ?_
 ·have c:(k:Int)<(n:Int):=Bg c;have calm:JX (atE E k):=⟨by have:=Qp6 E k;omega,fun e he=>by have:=hk e (Qd6 he);omega⟩;refine .bind (p:=fun o=>o=_) ⟨_,hA k,rfl⟩ fun o e=> ?_;subst e;refine .bind (p:=fun o=>o=_) ⟨_,hS (H7 K E k) k (atE E k) (Qi3 h E k (by omega)) (by omega) calm,rfl⟩ fun o e=> ?_;subst e;rw[Ae (x:=(k:Int)+1) (by omega)];exact .some (.inl ⟨rfl,k+1,rfl,by omega,by omega⟩)
 ·have c: ¬(k:Int)<(n:Int):=Bf c;have e:k=n:=by omega
  subst e;exact .some (.inr ⟨by simp,rfl⟩)
theorem Zuk {MP MR MF MM MG' MS MA MD MN MC ME MI MQ MW MV:Fn} {N11:Lp} {K:Kf} {E:List Evn} (h:KOK K) (hE:E.length<=60) (hk:∀e∈E,e.kind<=6)
  (hA:∀k,MA [.view kPt (E.map evR),I k]=some [.view kPt ((atE E k).map evR)]) (hM:∀c:Cv,MM (Ad K c)=some (I c.m0::I c.m1::I c.m2::I c.m3::I c.m4::I c.m5::Ad K c))
  (hS:∀(c:Cv) (n:Int) (E:List Evn),Gd K n c->0<=n/\n<=10000->JX E->MS (.view kPt (E.map evR)::Ad K c)=some (tkC K c E++Ad K (Dw K c E))) {n:Nat} (hn:n<=80)
  {c0:Cv} (g0:Gd K n c0) (cm0:Cm c0) (gu:c0.g0=0/\c0.g1=0/\c0.g2= -1) {l:List Int} (hl:stL K c0=l) (hlen:l.length<=4096):
  Out (fun o=>∃c:Cv,o=(2,Ad K c)/\Sp c)
   (An (Ri MP MR MF MM MG' MS MA MD MN MC ME MI MQ MW MV N11) (.view kPt (([⟨0,9,0⟩]:List Evn).map evR):: .view kPt (E.map evR)::I n:: .view Aa ((Bk c0.m0 l).map Ap)::I (Bt c0.m0 l)::I ((0:Nat):Int)::Ad K c0)):=by
 refine Cr (fun s:List Evn×Nat×Cv=> .view kPt (s.1.map evR):: .view kPt (E.map evR)::I n:: .view Aa ((Bk c0.m0 l).map Ap)::I (Bt c0.m0 l)::I (s.2.1:Int)::Ad K s.2.2)
  (fun s => s.2.1 <= l.length + 20 /\ Gd K (n + s.2.1) s.2.2 /\ Cm s.2.2 /\ stL K s.2.2 = l.drop s.2.1 /\ s.2.2.m0 = Bt c0.m0 (l.take s.2.1) /\
   ((s.2.1=0/\s.1=[⟨0,9,0⟩]/\s.2.2.g0=0/\s.2.2.g1=0/\s.2.2.g2= -1)\/(0<s.2.1/\s.1=[]/\Sp s.2.2))) (fun s=>l.length+20-s.2.1) _ ?_ ([⟨0,9,0⟩],0,c0) ⟨by simp,by simpa using g0,cm0,by simpa using hl,rfl, .inl ⟨rfl,rfl,gu⟩⟩
 rintro⟨A,j,c⟩ ⟨hj,g,cm,hd,hm,hst⟩;dsimp only at hj g cm hd hm hst;have el:((Bk c0.m0 l).map Ap).length=l.length:=by rw[List.length_map,Lq]
 refine Out.eqv (Zrq MP MR MF MM MG' MS MA MD MN MC ME MI MQ MW MV N11 (A.map evR) (E.map evR) n ((Bk c0.m0 l).map Ap) (Bt c0.m0 l) j K c) ?_;rw[el,Ae (x:=(l.length:Int)+20) (by omega)];refine .cond (fun cc=> ?_) fun cc=> ?_
 ·have cc:(j:Int)<(l.length:Int)+20:=Bg cc;refine .bind (p:=fun o=>o=_) ⟨_,hA (wrap .i64 ((n:Int)+(j:Int))),rfl⟩ fun o e=> ?_;subst e;have al:=Qp6 E (wrap .i64 ((n:Int)+(j:Int)));have am:∀e∈atE E (wrap .i64 ((n:Int)+(j:Int))),e.kind<=6:=fun e he=>hk e (Qd6 he);generalize atE E (wrap .i64 ((n:Int)+(j:Int)))=G at*;have hA1:A.length<=1/\(∀e∈A,e.kind=9):=by
   rcases hst with⟨-,h1,-⟩|⟨-,h1,-⟩
   ·rw[h1];exact⟨by simp,fun e he=>by rw[List.mem_singleton]at he;rw[he]⟩
   ·rw[h1];exact⟨by simp,fun e he=>by cases he⟩
  have hpre:Sp (BP K c (A++G)):=by
   rcases hst with⟨-,h1,h2⟩|⟨-,h1,h2⟩
   ·rw[h1];exact Z2y am h2
   ·rw[h1];exact Zuq am h2
  have calm:JX (A++G):=⟨by rw[List.length_append];omega,fun e he=>by
   rcases List.mem_append.1 he with he|he
   ·have:=hA1.2 e he;omega
   ·have:=am e he;omega⟩
  refine .cond (fun _=> ?_) fun e=>by rw[CY (by show(A.map evR++G.map evR).length*24<=140737488355328;simp only[List.length_append,List.length_map];omega)]at e;cases e
  have e1:A.map evR++wA [AC.view kPt (G.map evR)] 0=(A++G).map evR:=by rw[List.map_append];rfl
  rw[e1];have gs:=Qn6 h g (by omega) (A++G);have cs:=Quu (K:=K) cm (A++G);have ss:=Zvd h g (by omega) cm hpre;have nt:=Q99 ss.2.1 hd hm;refine .bind (p:=fun o=>o=_) ⟨_,hS c (n+j) (A++G) g (by omega) calm,rfl⟩ fun o e=> ?_;subst e;have hg:=ss.2.2;have hsp:=ss.1;have gs:Gd K (n+((j+1:Nat):Int)) (Dw K c (A++G)):=by
   have e:(n:Int)+((j+1:Nat):Int)=n+j+1:=by omega
   rw[e];exact gs
  have cs:=cs.1;rw[Ae (x:=(j:Int)+1) (by omega)];have ht:∃t:List AC,t.length=9/\tkC K c (A++G)=t/\gA t 8=(stC K c (A++G)).2.g1:=⟨tkC K c (A++G),rfl,rfl,rfl⟩;rw[hg]at ht;generalize Dw K c (A++G)=d at*;obtain⟨t,t9,et,tg⟩:=ht;rw[et]
  match t,t9 with
  |[a0,a1,a2,a3,a4,a5,a6,a7,a8],_=>
   have fin : ∀ {x : List AC}, x = .view kPt [] :: .view kPt (E.map evR) :: I n :: .view Aa ((Bk c0.m0 l).map Ap) :: I (Bt c0.m0 l) :: I ((j : Int) + 1) :: Ad K d -> Out (fun o : Nat × List AC => (o.1 = 0 /\ ∃ s' : List Evn × Nat × Cv, o.2 = .view kPt (s'.1.map evR) :: .view kPt (E.map evR) :: I n :: .view Aa ((Bk c0.m0 l).map Ap) :: I (Bt c0.m0 l) :: I (s'.2.1 : Int) :: Ad K s'.2.2 /\
     (s'.2.1<=l.length+20/\Gd K (n+s'.2.1) s'.2.2/\Cm s'.2.2/\stL K s'.2.2=l.drop s'.2.1/\s'.2.2.m0=Bt c0.m0 (l.take s'.2.1)/\((s'.2.1=0/\s'.1=[⟨0,9,0⟩]/\s'.2.2.g0=0/\s'.2.2.g1=0/\s'.2.2.g2= -1)\/(0<s'.2.1/\s'.1=[]/\Sp s'.2.2)))/\l.length+20-s'.2.1<l.length+20-j)\/(o.1≠0/\∃c:Cv,o=(2,Ad K c)/\Sp c)) (some (0,x)):=fun hx=>by
    subst hx;exact .some (.inl ⟨rfl,([],j+1,d),rfl,⟨by dsimp only;omega,gs,cs,nt.1,nt.2, .inr ⟨by dsimp only;omega,rfl,hsp⟩⟩,by dsimp only;omega⟩)
   refine .cond (fun e=> ?_) fun _=> ?_
   ·have:(gA [a0,a1,a2,a3,a4,a5,a6,a7,a8] 8 !=21)=true:=e;rw[bnF tg]at this;cases this
   refine .cond (fun c1=> ?_) fun c1=> ?_
   ·have c1:(j:Int)<(l.length:Int):=Bg c1;refine .bind (p:=fun o=>o=_) ⟨_,hM d,rfl⟩ fun o e=> ?_;subst e;refine .cond (fun _=> ?_) fun e=>(inB (by omega) c1 e).elim;have ef:gA (nth [] ((Bk c0.m0 l).map Ap) (j:Int).toNat) 0=d.m0:=by
     rw[Int.toNat_natCast,BK,List.getD,List.getElem?_map,Q8p c0.m0 l j (by omega),nt.2];rfl
    rw[ef];refine .cond (fun e=> ?_) fun _=> ?_
    ·have:(d.m0 !=d.m0)=true:=e;rw[bnF rfl]at this;cases this
    refine .cond (fun e=>absurd (Bg e) (by omega)) fun _=>fin rfl
   ·have c1: ¬(j:Int)<(l.length:Int):=Bf c1;refine .cond (fun _=> ?_) fun e=>absurd (Bf e) (by omega);refine .bind (p:=fun o=>o=_) ⟨_,hM d,rfl⟩ fun o e=> ?_;subst e;have ef:d.m0=Bt c0.m0 l:=by rw[nt.2,List.take_of_length_le (by omega)]
    refine .cond (fun e=> ?_) fun _=>fin rfl;have:(d.m0 !=Bt c0.m0 l)=true:=e;rw[bnF ef]at this;cases this
 ·have cc: ¬(j:Int)<(l.length:Int)+20:=Bf cc;refine .some (.inr ⟨by simp,c,rfl,?_⟩);rcases hst with⟨h1,-⟩|⟨-,-,h2⟩
  ·omega
  ·exact h2
theorem Qrl {MP MR MF MM MG' MS MA MD MN MC ME MI MQ MW MV:Fn} {K:Kf} {E:List Evn} {x0 x1 x2 x3:Rw} {x4:Int} (hE:E.length<=60)
  (hV:MV []=some [B true]) {q:Bool} (hW:MW [.view Aa x0, .view Aa x1, .view Aa x2, .view Aa x3]=some [B q])
  (hyp : q = true -> KOK K /\ MQ [.view Aa x1, .view Aa x2] = some (AI K.x ++ [I K.pa, I K.pb, I K.pc, I K.ramp, I K.lag]) /\ MI [.view Aa x0, I 6, B true] = some [.view Ak (K.items.map Ag)] /\
   ME [.view Aa x3]=some [.view kPt (E.map evR)]/\MC [.view kPt (E.map evR)]=some [.view kPt ((E.filter fun e=>decide (e.kind<=6)).map evR)]/\
   MN (AI K.x++[I K.pa,I K.pb,I K.pc,I K.ramp,I K.lag]++[.view Ak (K.items.map Ag),B true])=some (I 0::Ad K CT)/\MD [I x4,I 80]=some [I (x4%80)])
  (hA:∀(E:List Evn) (k:Int),E.length<=60->MA [.view kPt (E.map evR),I k]=some [.view kPt ((atE E k).map evR)])
  (hG:∀c:Cv,MG' (Ad K c)=some (I c.g0::I c.g1::I c.g2::Ad K c)) (hM:∀c:Cv,MM (Ad K c)=some (I c.m0::I c.m1::I c.m2::I c.m3::I c.m4::I c.m5::Ad K c))
  (hP:∀c:Cv,MP (Ad K c)=some (I c.o0::I c.o1::B c.o2::B c.o3::B c.o4::Ad K c))
  (hF:KOK K->∀{u:Int},-1000000000000000<=u/\u<=1000000000000000->∀v x x6 x7 x8:Int,MF [I K.pa,I K.pb,I K.pc,I u,I v,I x,I x6,I x7,I x8]=some [.view Aa ((Bk u (AE K.pa K.pb v x).1).map Ap),B (AE K.pa K.pb v x).2])
  (hR:KOK K->∀{u:Int},-1000000000000000<=u/\u<=1000000000000000->∀{v x:Int},(AE K.pa K.pb v x).2=true->∀x6 x7 x8:Int,MR [I K.pa,I K.pb,I K.pc,I u,I v,I x,I x6,I x7,I x8]=some [I (Bt u (AE K.pa K.pb v x).1),B true])
  (hS:KOK K->∀(c:Cv) (n:Int) (E:List Evn),Gd K n c->0<=n/\n<=10000->JX E->MS (.view kPt (E.map evR)::Ad K c)=some (tkC K c E++Ad K (Dw K c E))):
  VD MP MR MF MM MG' MS MA MD MN MC ME MI MQ MW MV (An (Mg MP MR MF MM MG' MS MA MD MN MC ME MI MQ MW MV)) (An (Ri MP MR MF MM MG' MS MA MD MN MC ME MI MQ MW MV (An (Mg MP MR MF MM MG' MS MA MD MN MC ME MI MQ MW MV)))) [.view Aa x0, .view Aa x1, .view Aa x2, .view Aa x3,I x4]=some [B true]:=by
 rw[Zti];refine eB hV (eF rfl (eB hW ?_));cases q
 ·rfl
 obtain⟨h,hQ,hI,hE',hC,hN,hD⟩:=hyp rfl;have hS:=hS h;refine eF rfl (eB hQ (eB hI (eB hE' (eB hC ?_))));generalize hcalm:(E.filter fun e=>decide (e.kind<=6))=F at*;have hlen:F.length<=60:=by rw[<-hcalm];exact Nat.le_trans (List.length_filter_le _ _) hE
 have hk:∀e∈F,e.kind<=6:=fun e he=>by rw[<-hcalm]at he;exact of_decide_eq_true (List.mem_filter.1 he).2
 refine eB hN (eF rfl (eB hD ?_));have hm:0<=x4%80/\x4%80<80:=⟨Int.emod_nonneg _ (by decide),Int.emod_lt_of_pos _ (by decide)⟩;obtain⟨n,hn⟩:∃n:Nat,x4%80=n:=⟨(x4%80).toNat,by omega⟩;rw[hn];obtain⟨o,hl,rfl⟩:=Zun (MP:=MP) (MR:=MR) (MF:=MF) (MM:=MM) (MG':=MG') (MD:=MD) (MN:=MN) (MC:=MC) (ME:=ME) (MI:=MI) (MQ:=MQ) (MW:=MW) (MV:=MV) h hlen hk (fun k=>hA F k hlen) hS (n:=n) (by omega);refine eB hl (eT rfl ?_);have g:=Qi3 h F n (by omega);have cg:=Qpp (K:=K) hk n;generalize H7 K F n=c at*;refine eB (hG c) ?_;rcases cg.2 with gu|gu
 ·refine eF (show(c.g0 !=0)=false from bnF gu.1) (eB (hM c) ?_);have hb: -1000000000000000<=c.m0/\c.m0<=1000000000000000:=by have:=g.m0;omega
  have hz:(AE K.pa K.pb c.m1 c.m2).2=true:=g.mo;have hF:=hF h hb c.m1 c.m2 c.m3 c.m4 c.m5;rw[hz]at hF;refine eB hF (eB (hM c) (eB (hR h hb hz c.m3 c.m4 c.m5) (eF rfl ?_)));obtain⟨o,hl2,c2,rfl,sp⟩:=Zuk (MP:=MP) (MR:=MR) (MF:=MF) (MG':=MG') (MD:=MD) (MN:=MN) (MC:=MC) (ME:=ME) (MI:=MI) (MQ:=MQ) (MW:=MW) (MV:=MV) (N11:=An (Mg MP MR MF MM MG' MS MA MD MN MC ME MI MQ MW MV)) h hlen hk (fun k=>hA F k hlen) hM hS (n:=n) (by omega) g cg.1 gu (l:=(AE K.pa K.pb c.m1 c.m2).1) rfl (QB h.plan _ _).1;refine eB hl2 (eF rfl (eT rfl (eB (hG c2) ?_)));refine eT ?_ (eB (hP c2) ?_)
  ·show(c2.g0==1&&(c2.g1==21&&(c2.g2== -1&&true)))=true;rw[sp.1,sp.2.1,sp.2.2.1];rfl
  ·show some [B c2.o2]=_;rw[sp.2.2.2]
 ·refine eT (show(c.g0 !=0)=true from bnT (by omega)) (eB (hG c) ?_);show some [B (c.g1==18)]=_;rw[beT gu.2]
theorem Q4h (K:Kf) (c:Cv):LV (Ad K c)=some (I c.g0::I c.g1::I c.g2::Ad K c):=Zcm K c
theorem Q5h (K:Kf) (c:Cv):Kw (Ad K c)=some (I c.m0::I c.m1::I c.m2::I c.m3::I c.m4::I c.m5::Ad K c):=Zyb K c
theorem Qxr (K:Kf) (c:Cv):KJ (Ad K c)=some (I c.o0::I c.o1::B c.o2::B c.o3::B c.o4::Ad K c):=Zqk K c
theorem Zri {x0 x1 x2 x3:Rw} {x4:Int} (h0:Src x0) (h1:Src x1) (h2:Src x2) (h3:Src x3) (h4:i64 x4):
  Q0b [.view Aa x0, .view Aa x1, .view Aa x2, .view Aa x3,I x4]=some [B true]:=by
 obtain⟨q,hF,hq⟩:=Zgq x0 x1 x2 x3;cases q
 ·exact Qrl (K:=kX []) (E:=[]) (MS:=Hg) (MA:=Jj) (by simp) Q2o hF (fun h=>by cases h) (fun E k hE=>Qsv (by omega) k) (Q4h _) (Q5h _) (Qxr _) (fun h=>Qd0 h.plan) (fun h=>Qzl h.plan) (fun h c n E g hn hE=>Qn h g hn hE)
 ·obtain⟨l0,l1,l2,l3⟩:=hq rfl;obtain⟨K,hK,hQ,hI,hN⟩:=Q9q h0 h1 h2 (by omega) (most:=6) (by omega) true true;obtain⟨E,hV,hE,-⟩:=Q9s h3 l3;exact Qrl (K:=K) (E:=E) hE Q2o hF (fun _=>⟨hK,hQ,hI,hV,Zw1 (by omega),hN,Qxd h4 (by omega)⟩) (fun E k hE=>Qsv (by omega) k) (Q4h _) (Q5h _) (Qxr _) (fun h=>Qd0 h.plan) (fun h=>Qzl h.plan) (fun h c n E g hn hE=>Qn h g hn hE)
end Go.Bm
namespace Go.Bm
theorem Qvc {r:List AC} (h:okR Aa r):i64 (Af (nth .dead r 0)):=by
 match r,h with
 |[],h=>exact h.elim
 |a::_,h=>exact Q89 h.1
theorem Sc {r:List AC} (h:okR [Kd.sl Aa] r):Src (BL (nth .dead r 0)):=by
 match r,h with
 |[],h=>exact h.elim
 |a::_,h=>
  have h1:=h.1;unfold okC at h1;refine⟨?_,fun c hc=>Qvc (h1.2 c hc).1⟩;have h2:=h1.1;simp only[maxLen]at h2;show(BL a).length<=_;omega
end Go.Bm
