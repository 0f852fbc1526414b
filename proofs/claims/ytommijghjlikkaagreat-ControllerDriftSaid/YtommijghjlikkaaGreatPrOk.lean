/- laid together -/
import Derived.Test.YtommijghjlikkaaGreatPrWb
import Derived.Test.YtommijghjlikkaaGreatPrLc
import Derived.Test.YtommijghjlikkaaGreatMy1
import Derived.Test.YtommijghjlikkaaGreatMx3
import Derived.Test.YtommijghjlikkaaGreatPrTk
set_option linter.unusedVariables false
set_option linter.unusedSimpArgs false
set_option maxRecDepth 100000
noncomputable section
open Go.IntKind (wrap)
namespace Go.Bm
open Classical
structure Ga (K : Kf) (n : Int) (c : Cv) : Prop where
 way:c.way=0\/c.way=1\/c.way=2
 pass:0<=c.aK/\c.aK<=K.p.aD.length
 task:c.on=true->0<=c.idx/\c.idx<K.p.aD.length
 mo:Mo K c
 m0: -(16777216*n)<=c.m0/\c.m0<=16777216*n
theorem Ga.gd {K:Kf} {n:Int} {c:Cv} (g:Ga K n c) (h:c.way=0):Gd K n c:=⟨h,g.pass,g.task,g.mo,g.m0⟩
theorem Gd.ga {K:Kf} {n:Int} {c:Cv} (g:Gd K n c):Ga K n c:=⟨.inl g.way,g.pass,g.task,g.mo,g.m0⟩
def w0 (c:Cv):Cv:={c with way:=0}
theorem Ga.w0 {K:Kf} {n:Int} {c:Cv} (g:Ga K n c):Gd K n (Go.Bm.w0 c):=⟨rfl,g.pass,g.task,g.mo,g.m0⟩
theorem Ga.up {K:Kf} {n:Int} {c:Cv} (g:Ga K n c) (hn:0<=n):Ga K (n+1) c:=⟨g.way,g.pass,g.task,g.mo,by have:=g.m0;omega⟩
def Bt (K:Kf) (c:Cv) (E:List Evn):Kf×Cv:=E.foldl (λs e=>evA s e.kind e.n) (K,F_ c)
def EvE (E:List Evn):Prop:=E.length<=1000000/\∀e∈E,e.n<=4194304
theorem Zgk {K:Kf} (h:KOK K) (c:Cv) (n:Int):KOK (Ec K c n).1:=by
 unfold Ec;split
 ·exact h.sT (Q6h h c _)
 ·exact h
theorem WI {s:Kf×Cv} (h:KOK s.1) (k n:Int):KOK (evA s k n).1:=by
 unfold evA;split
 ·exact h
 ·split
  ·exact h
  ·split
   ·exact Zgk h _ _
   ·exact h
theorem Qzu:∀(E:List Evn) {s:Kf×Cv},KOK s.1->KOK (E.foldl (λs e=>evA s e.kind e.n) s).1
 |[],_,h=>h
 |e::E,_,h=>Qzu E (WI h e.kind e.n)
theorem OR {K:Kf} (h:KOK K) (c:Cv) (E:List Evn):KOK (Bt K c E).1:=Qzu E h
theorem Z2r {ME MR MG' MB MP MO MU MS MN MX MT MV:Fn} {K:Kf} {c:Cv} {E:List Evn} (hE:EvE E) (h:KOK K)
  (hV:∀{K:Kf} (_:KOK K) (c:Cv) (x k:Int) {n:Int},n<=4194304->MV (I x::I k::I n::Ab K c)=some (Ab (evA (K,c) k n).1 (evA (K,c) k n).2)):
  An (O8 ME MR MG' MB MP MO MU MS MN MX MT MV) (.view kPt (E.map evR)::I (E.map evR).length::I 0::(BX++Ab K (F_ c)))=some (1,BX++Ab (Bt K c E).1 (Bt K c E).2):=by
 have key:Out (λo=>o=(1,BX++Ab (Bt K c E).1 (Bt K c E).2)) (An (O8 ME MR MG' MB MP MO MU MS MN MX MT MV) (.view kPt (E.map evR)::I (E.map evR).length::I ((0:Nat):Int)::(BX++Ab (Bt K c (E.take 0)).1 (Bt K c (E.take 0)).2))):=by
  refine Cb (λi:Nat=> .view kPt (E.map evR)::I (E.map evR).length::I (i:Int)::(BX++Ab (Bt K c (E.take i)).1 (Bt K c (E.take i)).2)) (λi=>i<=E.length) (λi=>E.length-i) _ ?_ 0 (by simp);intro i hi;have hl:=hE.1;refine Out.eqv (Q0v ME MR MG' MB MP MO MU MS MN MX MT MV (E.map evR) (E.map evR).length i [] [] 0 0 0 0 0 0 0 (Bt K c (E.take i)).1 (Bt K c (E.take i)).2) ?_;refine .cond (λk=> ?_) λk=> ?_
  ·have k:(i:Int)<((E.map evR).length:Int):=A6 k;have hi:i<E.length:=by rw[ag]at k;omega
   refine .cond (λ_=> ?_) λe=>(inB (by omega) k e).elim;rw[Qfb E hi];refine .bind (p:=λo=>o=_) ⟨_,hV (OR h c (E.take i)) (Bt K c (E.take i)).2 E[i].cycle E[i].kind (hE.2 _ (bq hi)),rfl⟩ λo e=> ?_;subst e;have e1:Bt K c (E.take (i+1))=evA (Bt K c (E.take i)) E[i].kind E[i].n:=by
    unfold Bt;rw[List.take_add_one,ai hi,List.foldl_append];rfl
   rw[Ae (x:=(i:Int)+1) (by omega)];refine .some (.inl ⟨rfl,i+1,?_,by omega,by omega⟩);rw[e1];have st:∀(K:Kf) (d:Cv),BX++cR 0 (Ab K d)=BX++Ab K d:=λ_ _=>rfl;exact congrArg (λz=>AC.view kPt (E.map evR)::I (E.map evR).length::I ((i:Int)+1)::z) (st (evA (Bt K c (E.take i)) E[i].kind E[i].n).1 (evA (Bt K c (E.take i)) E[i].kind E[i].n).2)
  ·have k: ¬(i:Int)<((E.map evR).length:Int):=A2 k;rw[ag]at k;rw[List.take_of_length_le (by omega)];generalize Bt K c E=d;exact .some (.inr ⟨by simp,rfl⟩)
 obtain⟨o,h1,rfl⟩:=key;exact h1
def tdC (c:Cv):Cv:={zM c with aL:=true,way:=if c.way=1 then 2 else 0,o2:=if c.way=1 then c.o2 else true}
def toC (K:Kf) (c:Cv):Int:=if c.way=2 then K.len else c.home
def DD (K:Kf) (c:Cv):Kf×Cv:=
 if c.aM=true/\c.m0=wrap .i64 (K.t.length*256)then(if Er K c=true then(sT K (Do K c (toC K c)),tdC c)else(K,c))else(K,Df K c K.t.length)
def Iw (c:Cv):Int:=if c.way=2 then 5 else 4
theorem Z0y {MT:Fn} {K:Kf} {c:Cv} {to:Int} {m:AC} (hT:MT (pxt K.p K.x K.t [I c.m0,I c.m1,I c.m2,I c.m3,I c.m4,I c.m5,I to])=some (J1 K c to)):
  Q4 MT K c m (I to)=some (if Er K c=true then m::B true::Ab (sT K (Do K c to)) (tdC c)else m::B true::Ab K c):=by
 unfold J1 at hT;cases hb:Er K c
 ·rw[hb,ab (by simp)]at hT;rw[ab (by simp)];exact eB hT (eT rfl rfl)
 ·rw[hb,aa rfl]at hT;rw[aa rfl];generalize Do K c to=t at*;refine eB hT (eF rfl ?_);unfold tdC;refine eC (λe=> ?_) λe=> ?_
  ·have e:c.way=1:=eq_of_beq e;rw[aa e,aa e];exact(show _=_ from by kernel_rfl)
  ·have e:c.way≠1:=by simpa using e
   rw[ab e,ab e];exact(show _=_ from by kernel_rfl)
theorem Zjv {MT MN:Fn} {K:Kf} {c:Cv} (hw:c.way≠0) (hN:MN (nxL K c K.t.length)=some (Es c.m0 c.m1 c.m3 c.m4 (nxV K c K.t.length)))
  (hT:∀to,MT (pxt K.p K.x K.t [I c.m0,I c.m1,I c.m2,I c.m3,I c.m4,I c.m5,I to])=some (J1 K c to)):
  RG MT MN (Ab K c)=some (I (Iw c)::B true::Ab (DD K c).1 (DD K c).2):=by
 rw[Q8l];refine eF (beF hw) ?_;have key:∀m:AC,Ur c MN K MT m=some (m::B true::Ab (DD K c).1 (DD K c).2):=by
  intro m;unfold DD;have plan: ¬(c.aM=true/\c.m0=wrap .i64 (K.t.length*256))->((MN (nxL K c K.t.length)).bind λo8=>some (m::B true::Ab K {c with m0:=gA o8 0,m1:=gA o8 1,m2:=gA o8 2,m3:=gA o8 3,m4:=gA o8 4,m5:=gA o8 5}))=some (m::B true::Ab (if c.aM=true/\c.m0=wrap .i64 (K.t.length*256)then(if Er K c=true then(sT K (Do K c (toC K c)),tdC c)else(K,c))else(K,Df K c K.t.length)).1 (if c.aM=true/\c.m0=wrap .i64 (K.t.length*256)then(if Er K c=true then(sT K (Do K c (toC K c)),tdC c)else(K,c))else(K,Df K c K.t.length)).2):=λhn=>by
   rw[ab hn];unfold Df;generalize nxV K c K.t.length=v at*;exact eB hN rfl
  have turn:(c.aM=true/\c.m0=wrap .i64 (K.t.length*256))->∀to,to=toC K c->Q4 MT K c m (I to)=some (m::B true::Ab (if c.aM=true/\c.m0=wrap .i64 (K.t.length*256)then(if Er K c=true then(sT K (Do K c (toC K c)),tdC c)else(K,c))else(K,Df K c K.t.length)).1 (if c.aM=true/\c.m0=wrap .i64 (K.t.length*256)then(if Er K c=true then(sT K (Do K c (toC K c)),tdC c)else(K,c))else(K,Df K c K.t.length)).2):=λhp to ht=>by
   rw[aa hp,<-ht,Z0y (hT to)];split<;>rfl
  refine eC (λe=> ?_) λe=>eC (λe2=> ?_) λe2=>eC (λe3=> ?_) λe3=> ?_
  ·have e:c.aM=false:=by simpa using e
   exact plan λq=>by rw[e]at q;cases q.1
  ·have e2:c.m0≠wrap .i64 (K.t.length*256):=λq=>by rw[bnF q]at e2;cases e2
   exact plan λq=>e2 q.2
  ·have e:c.aM=true:=by simpa using e
   have e2:c.m0=wrap .i64 (K.t.length*256):=Decidable.byContradiction λq=>by rw[bnT q]at e2;cases e2
   exact turn ⟨e,e2⟩ K.len (by unfold toC;rw[aa (show c.way=2 from eq_of_beq e3)])
  ·have e:c.aM=true:=by simpa using e
   have e2:c.m0=wrap .i64 (K.t.length*256):=Decidable.byContradiction λq=>by rw[bnT q]at e2;cases e2
   exact turn ⟨e,e2⟩ c.home (by unfold toC;rw[ab (show¬c.way=2 by simpa using e3)])
 unfold Iw;refine eC (λe=> ?_) λe=> ?_
 ·rw[aa (show c.way=2 from eq_of_beq e)];exact key _
 ·rw[ab (show¬c.way=2 by simpa using e)];exact key _
theorem Zwj {K:Kf} (h:KOK K) {n:Int} {c:Cv} (g:Ga K n c) (hw:c.way≠0):IV (Ab K c)=some (I (Iw c)::B true::Ab (DD K c).1 (DD K c).2):=
 Zjv hw (Tx h g.w0 K.t.length).1 (Qxd h c)
def Cd (K:Kf) (c:Cv):Int×Kf×Cv:=if(Bu K c).1≠0 then((Bu K c).1,K,(Bu K c).2)else if c.way≠0 then(Iw c,DD K c)else(0,K,c)
theorem Zp6 {N3:Lp} {ME MR MG' MB MP MO MU MS MN MX MT MV:Fn} {K:Kf} {c:Cv} (frm:Int)
  (hU:MU (Ab K c)=some (if c.g0=2 then I 6::B true::Ab K (stand c)else I 0::B false::Ab K c))
  (hO:MO (Ab K c)=some (I c.aI::B (c.aI !=0)::Ab K c))
  (hP:MP (Ab K c)=some (if c.aH=true/\c.aM=true then I 8::B true::Ab K {c with aI:=8}else I 0::B false::Ab K c))
  (hB:MB (Ab K c)=some (if c.on=true then I (Bx K c).1::B true::Ab K (Bx K c).2 else I 0::B false::Ab K c))
  (hG:MG' (Ab K c)=some (if c.way≠0 then I (Iw c)::B true::Ab (DD K c).1 (DD K c).2 else I 0::B false::Ab K c)):
  An (EO ME MR MG' MB MP MO MU MS MN MX MT MV N3) (Cp K frm 0 c)=some (1,LF (Cd K c).2.1 frm (Cd K c).1 (Cd K c).2.2):=by
 have w:∀i:Int,0<=i->i<5->wrap .i64 (i+1)=i+1:=λi _ _=>Ae (by omega);have e:=λi=>Qtu ME MR MG' MB MP MO MU MS MN MX MT MV N3 frm 5 i [] [] 0 0 0 0 0 0 0 [] [] 0 0 0 0 0 0 0 K c;have s0:c.g0≠2->EO ME MR MG' MB MP MO MU MS MN MX MT MV N3 (Cp K frm 0 c)=some (0,Cp K frm 1 c):=λh=>by
  refine Eq.trans (e 0) (eT rfl (eT rfl (eB hU ?_)));rw[ab h];rfl
 have s1:c.aI=0->EO ME MR MG' MB MP MO MU MS MN MX MT MV N3 (Cp K frm 1 c)=some (0,Cp K frm 2 c):=λh=>by
  refine Eq.trans (e 1) (eT rfl (eF rfl (eT rfl (eB hO ?_))));rw[h];rfl
 have s2: ¬(c.aH=true/\c.aM=true)->EO ME MR MG' MB MP MO MU MS MN MX MT MV N3 (Cp K frm 2 c)=some (0,Cp K frm 3 c):=λh=>by
  refine Eq.trans (e 2) (eT rfl (eF rfl (eF rfl (eT rfl (eB hP ?_)))));rw[ab h];rfl
 have s3:c.on=false->EO ME MR MG' MB MP MO MU MS MN MX MT MV N3 (Cp K frm 3 c)=some (0,Cp K frm 4 c):=λh=>by
  refine Eq.trans (e 3) (eT rfl (eF rfl (eF rfl (eF rfl (eT rfl (eB hB ?_))))));rw[ab (by rw[h];simp)];rfl
 have s4: ¬c.way≠0->EO ME MR MG' MB MP MO MU MS MN MX MT MV N3 (Cp K frm 4 c)=some (0,Cp K frm 5 c):=λh=>by
  refine Eq.trans (e 4) (eT rfl (eF rfl (eF rfl (eF rfl (eF rfl (eT rfl (eB hG ?_)))))));rw[ab h];rfl
 have s4b:c.way≠0->EO ME MR MG' MB MP MO MU MS MN MX MT MV N3 (Cp K frm 4 c)=some (1,LF (DD K c).1 frm (Iw c) (DD K c).2):=λh=>by
  refine Eq.trans (e 4) (eT rfl (eF rfl (eF rfl (eF rfl (eF rfl (eT rfl (eB hG ?_)))))));rw[aa h];generalize DD K c=z;generalize Iw c=mm;rfl
 have s5:EO ME MR MG' MB MP MO MU MS MN MX MT MV N3 (Cp K frm 5 c)=some (1,LF K frm 0 c):=by
  exact Eq.trans (e 5) (eF rfl rfl)
 have nb:∀x:Int×Cv,x.1≠0->Bu K c=x->Cd K c=(x.1,K,x.2):=λx hx e=>by unfold Cd;rw[e,aa hx]
 by_cases h:c.g0=2
 ·have er:Bu K c=(6,stand c):=by unfold Bu;rw[aa h]
  rw[nb _ (show(6:Int)≠0 by decide) er];refine A5 (Eq.trans (e 0) (eT rfl (eT rfl (eB hU ?_)))) (by simp);rw[aa h];rfl
 rw[Bn (s0 h)];by_cases h2:c.aI=0
 ·rw[Bn (s1 h2)];by_cases h3:c.aH=true/\c.aM=true
  ·have er:Bu K c=(8,{c with aI:=8}):=by unfold Bu;rw[ab h,ab (by simpa using h2),aa h3]
   rw[nb _ (show(8:Int)≠0 by decide) er];refine A5 (Eq.trans (e 2) (eT rfl (eF rfl (eF rfl (eT rfl (eB hP ?_)))))) (by simp);rw[aa h3];rfl
  ·rw[Bn (s2 h3)];cases h4:c.on
   ·have er:Bu K c=(0,c):=by unfold Bu;rw[ab h,ab (by simpa using h2),ab h3,ab (by rw[h4];simp)]
    rw[Bn (s3 h4)];unfold Cd;rw[er,ab (by simp)];by_cases hw:c.way≠0
    ·rw[aa hw];exact A5 (s4b hw) (by simp)
    ·rw[ab hw,Bn (s4 hw)];exact A5 s5 (by simp)
   ·have er:Bu K c=Bx K c:=by unfold Bu;rw[ab h,ab (by simpa using h2),ab h3,aa h4]
    rw[nb _ (Za3 K c) er];refine A5 (Eq.trans (e 3) (eT rfl (eF rfl (eF rfl (eF rfl (eT rfl (eB hB ?_))))))) (by simp);rw[aa h4];generalize Bx K c=wk;rfl
 ·have er:Bu K c=(c.aI,c):=by unfold Bu;rw[ab h,aa h2]
  rw[nb _ h2 er];refine A5 (Eq.trans (e 1) (eT rfl (eF rfl (eT rfl (eB hO ?_))))) (by simp);rw[bnT h2];rfl
def G8 (K:Kf) (c:Cv) (s:Int):List Int×Cv:=if c.way=0 then BE K c s else([],c)
def IG (K:Kf) (c:Cv) (frm:Int):Rw:=if c.aL=true then []else Ju K frm (Aw c)
theorem Zec {MM MP MB MO MU:Fn} {K:Kf} {c:Cv} {frm mode:Int}
  (hU:MU (Ab K c)=some [I (Aw c)]) (hO:MO (Ab K c)=some [I (AG K c)]) (hB:Out (λo=>wA o 0=Ju K frm (Aw c)) (MB (pxt K.p K.x K.t [I frm,I (Aw c)])))
  (hP:∀s,MP (I s::Ab K c)=some (.view Aa ((BE K c s).1.map As)::Ab K (BE K c s).2)) (hQ:∀s,∃n q:Int,(BE K c s).2={c with aK:=n,outs:=q}) (hM:∀u,MM (pxt K.p K.x K.t [I u])=some (ptR (Bg K.p K.x K.t u))):
  Up MM MP MB MO MU (I frm::(Ab K c++[.view kPt [], .view Aa [],I mode,I 0,I 0,I 0,I 0,I 0,I 0]))=
   some (Ab K (G8 K c (AG K c)).2++HX (IG K c frm) ((G8 K c (AG K c)).1.map As) mode (AG K c) (AM K c) c.s3 c.g1):=by
 refine Eq.trans (Q14 MM MP MB MO MU frm [] [] mode 0 0 0 0 0 0 K c) ?_;refine eB hU (eB hO ?_);have key:∀(l:Rw) (o9 o10:List AC),gA o9 0=Aw c->gA o10 0=AG K c->QE c MP o10 K MM o9 mode [] (.view kPt l)=some (Ab K (G8 K c (AG K c)).2++HX l ((G8 K c (AG K c)).1.map As) mode (AG K c) (AM K c) c.s3 c.g1):=by
  intro l o9 o10 h9 h10;unfold QE G8;simp only[jA,h9,h10];have hP:=hP (AG K c);obtain⟨n,q,hq⟩:=hQ (AG K c);have hM:=hM (Aw c);rw[show AM K c=Bg K.p K.x K.t (Aw c)from rfl];generalize Bg K.p K.x K.t (Aw c)=mt at*;generalize AG K c=s at*;refine eC (λe=> ?_) λe=> ?_
  ·rw[aa (show c.way=0 from eq_of_beq e)];generalize BE K c s=ps at*;refine eB hP ?_;rw[hq];exact eB hM rfl
  ·rw[ab (show¬c.way=0 by simpa using e)];exact eB hM rfl
 unfold IG;refine eC (λe=> ?_) λe=> ?_
 ·have e:c.aL=false:=by simpa using e
  rw[ab (by rw[e];simp)];obtain⟨o,hB,ho⟩:=hB;rw[<-ho];exact eB hB (key _ _ _ rfl rfl)
 ·have e:c.aL=true:=by simpa using e
  rw[aa e];exact key _ _ _ rfl rfl
def A9 (K:Kf) (c:Cv) (E:List Evn):Kf×Cv:=((Bt K c E).1,FR (EU (Bt K c E).1 (A8 (Ew (Bt K c E).2))))
def stA (K:Kf) (c:Cv) (E:List Evn):Int×Kf×Cv:=
 if(Cd (A9 K c E).1 (A9 K c E).2).1=0 then((DR (A9 K c E).1 (Cd (A9 K c E).1 (A9 K c E).2).2.2).1,(A9 K c E).1,(DR (A9 K c E).1 (Cd (A9 K c E).1 (A9 K c E).2).2.2).2)else Cd (A9 K c E).1 (A9 K c E).2
def Fa (K:Kf) (c:Cv) (E:List Evn):Kf×Cv:=((stA K c E).2.1,(G8 (stA K c E).2.1 (stA K c E).2.2 (AG (stA K c E).2.1 (stA K c E).2.2)).2)
def tkA (K:Kf) (c:Cv) (E:List Evn):List AC:=
 HX (IG (stA K c E).2.1 (stA K c E).2.2 (Aw (Bt K c E).2)) ((G8 (stA K c E).2.1 (stA K c E).2.2 (AG (stA K c E).2.1 (stA K c E).2.2)).1.map As) (stA K c E).1 (AG (stA K c E).2.1 (stA K c E).2.2) (AM (stA K c E).2.1 (stA K c E).2.2) (stA K c E).2.2.s3 (stA K c E).2.2.g1
theorem Zzq {N16:Lp} {MR ME:Fn} {K:Kf} {d:Cv} {frm:Int} {o:Nat×List AC} (ho:∃e,o.2=BX++Ab K e) {m:Int} {K2:Kf} {d2:Cv}
  (h16:N16 (Cp K frm 0 d)=some (1,LF K2 frm m d2)) {w s:Int×Cv} (hR:m=0->MR (Ab K2 d2)=some (I w.1::Ab K2 w.2)) (hs:s=if m=0 then w else(m,d2))
  {pul outs:Rw} {pos sp ft:Int} {mt:Pt} {q:Cv}
  (hE:ME (I frm::(Ab K2 s.2++[.view kPt [], .view Aa [],I s.1,I 0,I 0,I 0,I 0,I 0,I 0]))=some (Ab K2 q++HX pul outs s.1 pos mt sp ft)):
  Gl N16 o MR ME (I frm) (Ab K d)=some (HX pul outs s.1 pos mt sp ft++Ab K2 q):=by
 obtain⟨o1,o2⟩:=o;obtain⟨e,ho⟩:=ho;dsimp only at ho;subst ho;refine eB h16 (eT rfl ?_);by_cases h:m=0
 ·rw[aa h]at hs;subst hs;exact eT (show(m==0)=true from beT h) (eB (hR h) (eB hE rfl))
 ·rw[ab h]at hs;subst hs;exact eF (show(m==0)=false from beF h) (eB hE rfl)
theorem Zpm {ME MR MG' MB MP MO MU MS MN MX MT MV:Fn} {N3 N16:Lp} {K K2:Kf} {c d:Cv} {E:List Evn} {T:List AC}
  (h3:N3 (.view kPt (E.map evR)::I (E.map evR).length::I 0::(BX++Ab K (F_ c)))=some (1,BX++Ab K2 d))
  (hT:∀c,MT (Ab K2 c)=some [B (HY K2 c)]) (hX:∀(c:Cv) (ramp:Int),MX [I c.s0,I c.s1,I c.s2,I c.s3,I ramp]=some [I (spS c ramp).s0,I (spS c ramp).s1,I (spS c ramp).s2,I (spS c ramp).s3])
  (hN:∀c,MN (Ab K2 c)=some [I (Aw c)]) (hS:∀c:Cv,MS [I c.m0,I c.m1,I c.m2,I c.m3,I c.m4,I c.m5]=some [B (C7 c)])
  (h1:∀o:Nat×List AC,(∃e,o.2=BX++Ab K2 e)->Gl N16 o MR ME (I (Aw d)) (Ab K2 (FR (EU K2 (A8 (Ew d)))))=some T):
  RI ME MR MG' MB MP MO MU MS MN MX MT MV N3 N16 (.view kPt (E.map evR)::Ab K c)=some T:=by
 refine Eq.trans (Q75 ME MR MG' MB MP MO MU MS MN MX MT MV N3 N16 (E.map evR) K c) ?_;refine eB h3 (eT rfl ?_)
 have rest:∀b:Cv,Ew d=b->Aw b=Aw d->C7 b=C7 d->
   ((MT (Ab K2 (A8 b))).bind λo => bif !bA o 0 then (MX [I b.s0, I b.s1, I b.s2, I b.s3, I K2.ramp]).bind λo2 => (MN (Ab K2 { A8 b with s0 := gA o2 0, s1 := gA o2 1, s2 := gA o2 2, s3 := gA o2 3 })).bind λo3 => (MS [I d.m0, I d.m1, I d.m2, I d.m3, I d.m4, I d.m5]).bind λo4 => Gl N16 (1, BX ++ Ab K2 d) MR ME (jA o3 0) (Ab K2 { A8 b with s0 := gA o2 0, s1 := gA o2 1, s2 := gA o2 2, s3 := gA o2 3, aM := bA o4 0 })
    else(MN (Ab K2 (A8 b))).bind λo3=>(MS [I d.m0,I d.m1,I d.m2,I d.m3,I d.m4,I d.m5]).bind λo4=>Gl N16 (1,BX++Ab K2 d) MR ME (jA o3 0) (Ab K2 {A8 b with aM:=bA o4 0}))=some T:=λb hb hu hs=>by
  have h1:=h1 (1,BX++Ab K2 d) ⟨d,rfl⟩;rw[hb]at h1;refine eB (hT (A8 b)) ?_;cases ht:HY K2 (A8 b)
  ·have e1:EU K2 (A8 b)=spS (A8 b) K2.ramp:=by unfold EU;rw[ab (by rw[ht];simp)]
   rw[e1]at h1;refine eT rfl (eB (hX b K2.ramp) ?_);refine Eq.trans (congrArg (λz=>Option.bind z _) (hN (spS (A8 b) K2.ramp))) (eB rfl (eB (hS d) ?_));have e2:Aw (spS (A8 b) K2.ramp)=Aw d:=hu;have e3:({spS (A8 b) K2.ramp with aM:=C7 d}:Cv)=FR (spS (A8 b) K2.ramp):=by
    unfold FR;rw[show C7 (spS (A8 b) K2.ramp)=C7 b from rfl,hs]
   rw[<-e3,<-e2]at h1;exact h1
  ·have e1:EU K2 (A8 b)=A8 b:=by unfold EU;rw[aa ht]
   rw[e1]at h1;refine eF rfl ?_;refine Eq.trans (congrArg (λz=>Option.bind z _) (hN (A8 b))) (eB rfl (eB (hS d) ?_));have e2:Aw (A8 b)=Aw d:=hu;have e3:({A8 b with aM:=C7 d}:Cv)=FR (A8 b):=by
    unfold FR;rw[show C7 (A8 b)=C7 b from rfl,hs]
   rw[<-e3,<-e2]at h1;exact h1
 refine eC (λt=> ?_) λt=>eC (λq=> ?_) λq=> ?_
 ·have t:d.aH=true:=t;exact rest {d with o2:=true} (by unfold Ew;rw[aa (.inl t)]) rfl rfl
 ·have q:d.g0≠0:=λe=>by
   have:(d.g0 !=0)=true:=q;rw[bnF e]at this;cases this
  exact rest {d with o2:=true} (by unfold Ew;rw[aa (.inr q)]) rfl rfl
 ·have t:d.aH=false:=t;have q:d.g0=0:=Decidable.byContradiction λe=>by
   have:(d.g0 !=0)=false:=q;rw[bnT e]at this;cases this
  exact rest d (by unfold Ew;rw[ab (λw=>by rcases w with w|w;rw[t]at w;cases w;exact w q)]) rfl rfl
theorem Ga.sm {K:Kf} {n:Int} {c d:Cv} (g:Ga K n c) (h:Sm c d):Ga K n d:=by
 refine⟨by rw[h.kp.way];exact g.way,by rw[h.kp.aK];exact g.pass,by rw[h.on,h.idx];exact g.task,?_,by rw[h.m0];exact g.m0⟩;have:=g.mo;unfold Mo at*;rw[h.m1,h.m2];exact this
theorem Ga.turn {K:Kf} (h:KOK K) {n:Int} {c d:Cv} (g:Ga K n c) (hn:0<=n) (hw:d.way=0\/d.way=1\/d.way=2) (hp:d.aK=c.aK) (ho:d.on=c.on) (hi:d.idx=c.idx) (h0:d.m0=0) (h1:d.m1=0) (h2:d.m2=0) (t:Trk):Ga (sT K t) n d:=by
 refine⟨hw,by rw[hp];exact g.pass,by rw[ho,hi];exact g.task,?_,by rw[h0];omega⟩;unfold Mo;rw[h1,h2];exact Si h.plan
theorem Zey {K:Kf} {n:Int} {c d:Cv} (g:Ga K n c) (h:E8 c d):Ga K n d:=by
 rcases h with rfl|⟨a,-,rfl⟩
 ·exact g
 ·exact⟨g.way,g.pass,g.task,g.mo,g.m0⟩
theorem Zo9 {K:Kf} (h:KOK K) {n:Int} (hn:0<=n) {c:Cv} (g:Ga K n c) (m:Int):Ga (Ec K c m).1 n (Ec K c m).2:=by
 unfold Ec;by_cases hb:Fj K c m=true
 ·rw[aa hb];generalize Do K c (PB K c m)=t;generalize AG K c=z;exact g.turn (d:={zM c with o2:=false,way:=1,home:=z}) h hn (.inr (.inl rfl)) rfl rfl rfl rfl rfl rfl t
 ·rw[ab hb];exact g
theorem Zlo {K:Kf} {n:Int} {c:Cv} (g:Ga K n c):Ga K n (KR K c):=by
 have key:∀b:Bool,Ga K n {c with aH:=b}:=λb=>⟨g.way,g.pass,g.task,g.mo,g.m0⟩;exact key _
theorem Zsc {s:Kf×Cv} (h:KOK s.1) {n:Int} (hn:0<=n) (g:Ga s.1 n s.2) (k m:Int) (hm:m<=4194304):Ga (evA s k m).1 n (evA s k m).2:=by
 have g1:=g.sm (Qip s.2 k m);unfold evA;generalize evC s.2 k m=d at*;by_cases h1:k=13
 ·rw[aa h1];exact Zey g1 (Qca h d hm).2
 ·rw[ab h1];by_cases h2:k=12
  ·rw[aa h2];exact Zlo g1
  ·rw[ab h2];by_cases h3:k=7
   ·rw[aa h3];exact Zo9 h hn g1 m
   ·rw[ab h3];exact g1
theorem Zak {n:Int} (hn:0<=n):∀(E:List Evn) {s:Kf×Cv},(∀e∈E,e.n<=4194304)->KOK s.1->Ga s.1 n s.2->Ga (E.foldl (λs e=>evA s e.kind e.n) s).1 n (E.foldl (λs e=>evA s e.kind e.n) s).2
 |[],_,_,_,g=>g
 |e::E,_,hE,h,g=>Zak hn E (λx hx=>hE x (by simp[hx])) (WI h e.kind e.n) (Zsc h hn g e.kind e.n (hE e (by simp)))
theorem Qxo {K:Kf} (h:KOK K) {n:Int} (hn:0<=n) {c:Cv} (g:Ga K n c) {E:List Evn} (hE:EvE E):Ga (Bt K c E).1 n (Bt K c E).2:=
 Zak hn E hE.2 (s:=(K,F_ c)) h ⟨g.way,g.pass,g.task,g.mo,g.m0⟩
theorem Q0n (K:Kf) (d:Cv):Sm d (FR (EU K (A8 (Ew d)))):=
 (Q6m d).trans (Sm.trans (b:=A8 (Ew d)) ⟨⟨rfl,rfl,rfl,rfl⟩,rfl,rfl,rfl,rfl,rfl,rfl,rfl,rfl,rfl,rfl⟩ ((Q1q K _).trans ⟨⟨rfl,rfl,rfl,rfl⟩,rfl,rfl,rfl,rfl,rfl,rfl,rfl,rfl,rfl,rfl⟩))
theorem Xu {K:Kf} (h:KOK K) {n:Int} (hn:0<=n) {c:Cv} (g:Ga K n c) {E:List Evn} (hE:EvE E):Ga (A9 K c E).1 n (A9 K c E).2:=(Qxo h hn g hE).sm (Q0n _ _)
end Go.Bm
namespace Go.Bm
theorem Znu {K:Kf} {n:Int} {c:Cv} (g:Ga K n c):Ga K n (GL K c).2:=by
 have done:∀d:Cv,Ga K n d->Ga K n (HN d):=λd g=>⟨g.way,g.pass,λh=>(by cases h),g.mo,g.m0⟩;have cmd:∀n' sp:Int,Ga K n (I_ c n' sp):=λn' sp=>⟨g.way,g.pass,g.task,g.mo,g.m0⟩;unfold GL;split
 ·split
  ·exact done c g
  ·exact g
 ·split
  ·exact done c g
  ·split
   ·split
    ·exact g
    ·exact done c g
   ·split
    ·split
     ·exact done _ (cmd _ _)
     ·exact cmd _ _
    ·split
     ·exact⟨g.way,g.pass,g.task,g.mo,g.m0⟩
     ·exact done c g
theorem Ztt {K:Kf} {n:Int} {c:Cv} (g:Ga K n c):Ga K n (Bx K c).2:=Znu (K:=K) (c:=CT c) ⟨g.way,g.pass,g.task,g.mo,g.m0⟩
theorem Z0m {K:Kf} {n:Int} {c:Cv} (h:KOK K) (g:Ga K n c) (hn:0<=n/\n<=10000):Ga K n (Bu K c).2:=by
 unfold Bu;split
 ·have gs:=(g.w0.stand h hn).1;exact⟨g.way,g.pass,g.task,gs.mo,gs.m0⟩
 ·split
  ·exact g
  ·split
   ·exact⟨g.way,g.pass,g.task,g.mo,g.m0⟩
   ·split
    ·exact Ztt g
    ·exact g
theorem Qwg {K:Kf} {n:Int} {c:Cv} (h:KOK K) (g:Ga K n c) (hn:0<=n/\n<=10000) (l:Int):Ga K (n+1) (Df K c l):=by
 have gp:=Qmg h g.w0 hn l;exact⟨g.way,g.pass,g.task,gp.mo,gp.m0⟩
theorem Zul {K:Kf} {n:Int} {c:Cv} (h:KOK K) (g:Ga K n c) (hn:0<=n/\n<=10000):Ga (DD K c).1 (n+1) (DD K c).2:=by
 unfold DD;by_cases h1:c.aM=true/\c.m0=wrap .i64 (K.t.length*256)
 ·rw[aa h1];by_cases h2:Er K c=true
  ·rw[aa h2];generalize Do K c (toC K c)=t;have hw:(tdC c).way=0\/(tdC c).way=1\/(tdC c).way=2:=by
    show(if c.way=1 then(2:Int)else 0)=0\/_=1\/(if c.way=1 then(2:Int)else 0)=2;by_cases h3:c.way=1
    ·rw[aa h3];exact .inr (.inr rfl)
    ·rw[ab h3];exact .inl rfl
   exact(g.up hn.1).turn (d:=tdC c) h (by omega) hw rfl rfl rfl rfl rfl rfl t
  ·rw[ab h2];exact g.up hn.1
 ·rw[ab h1];exact Qwg h g hn _
theorem Zgh {K:Kf} (h:KOK K) (c:Cv):KOK (DD K c).1:=by
 unfold DD;split
 ·split
  ·exact h.sT (Q6h h c _)
  ·exact h
 ·exact h
theorem Zc9 {K:Kf} (h:KOK K) (c:Cv):KOK (Cd K c).2.1:=by
 unfold Cd;split
 ·exact h
 ·split
  ·exact Zgh h c
  ·exact h
theorem Zou {K:Kf} {n:Int} {c:Cv} (h:KOK K) (g:Ga K n c) (hn:0<=n/\n<=10000):Ga (Cd K c).2.1 (n+1) (Cd K c).2.2:=by
 unfold Cd;split
 ·exact(Z0m h g hn).up hn.1
 ·split
  ·exact Zul h g hn
  ·exact g.up hn.1
theorem Pv {K:Kf} {c:Cv} (h:(Cd K c).1=0):c.way=0/\Cd K c=(0,K,c):=by
 unfold Cd at h⊢;by_cases h1:(Bu K c).1≠0
 ·rw[aa h1]at h;exact absurd h h1
 ·rw[ab h1]at h⊢;by_cases h2:c.way≠0
  ·rw[aa h2]at h;have h:Iw c=0:=h;unfold Iw at h;split at h<;>cases h
  ·rw[ab h2];exact⟨by simpa using h2,rfl⟩
theorem Zn5 {K:Kf} {c:Cv} {n:Int} (h:KOK K) (g:Ga K n c):Kn (Ab K c)=some (if c.on=true then I (Bx K c).1::B true::Ab K (Bx K c).2 else I 0::B false::Ab K c):=by
 have key:∀{M:Fn},(c.on=true->M (Ab K c)=some (I (Bx K c).1::Ab K (Bx K c).2))->T6 M (Ab K c)=some (if c.on=true then I (Bx K c).1::B true::Ab K (Bx K c).2 else I 0::B false::Ab K c):=by
  intro M hM;rw[Qui];cases e:c.on
  ·rw[ab (by simp)];rfl
  ·rw[aa rfl];have hM:=hM e;generalize Bx K c=wk at*;exact eB hM rfl
 exact key λe=>Qbm h (g.task e).1 (g.task e).2
theorem R7 {K:Kf} {n:Int} {c:Cv} (g:Ga K n c) (hn:0<=n/\n<=10010): -300000000000<=Aw c/\Aw c<=300000000000:=Qjm (c:=w0 c) g.w0 hn
theorem Tz {K:Kf} (h:KOK K) (c:Cv) (E:List Evn):KOK (stA K c E).2.1:=by
 have hp:KOK (A9 K c E).1:=OR h c E;unfold stA;split
 ·exact hp
 ·exact Zc9 hp _
theorem Qk8 {K:Kf} {n:Int} {c:Cv} (h:KOK K) (g:Ga K n c) (hn:0<=n/\n<=10000) {E:List Evn} (hE:EvE E):Ga (stA K c E).2.1 (n+1) (stA K c E).2.2:=by
 have hp:KOK (A9 K c E).1:=OR h c E;have gp:=Xu h hn.1 g hE;unfold stA;by_cases hm:(Cd (A9 K c E).1 (A9 K c E).2).1=0
 ·rw[aa hm];obtain⟨hw,e⟩:=Pv hm;rw[e];exact(Qnr hp (gp.gd hw) hn).1.ga
 ·rw[ab hm];exact Zou hp gp hn
theorem Zpa {K:Kf} {n:Int} {c:Cv} (g:Ga K n c) (hn:0<=n) (s:Int):Ga K n (G8 K c s).2:=by
 unfold G8;by_cases hw:c.way=0
 ·rw[aa hw];have hb:=Uw K s (K.p.aD.drop c.aK.toNat) c;rw[da]at hb;have hb:c.aK<=(BE K c s).2.aK/\(BE K c s).2.aK<=c.aK+((K.p.aD.length-c.aK.toNat:Nat):Int):=hb;obtain⟨m,q,e⟩:=Rj K c s;rw[e]at hb⊢;have hp:=g.pass;exact⟨g.way,by dsimp only at hb⊢;omega,g.task,g.mo,g.m0⟩
 ·rw[ab hw];exact g
theorem Zpo {K:Kf} {n:Int} {c:Cv} (h:KOK K) (g:Ga K n c) (hn:0<=n/\n<=10000) {E:List Evn} (hE:EvE E):Ga (Fa K c E).1 (n+1) (Fa K c E).2:=Zpa (Qk8 h g hn hE) (by omega) _
theorem Zq0 {K:Kf} (h:KOK K) (c:Cv) (E:List Evn):KOK (Fa K c E).1:=Tz h c E
theorem Zqn {K:Kf} (h:KOK K) {n:Int} {c:Cv} (g:Ga K n c):IV (Ab K c)=some (if c.way≠0 then I (Iw c)::B true::Ab (DD K c).1 (DD K c).2 else I 0::B false::Ab K c):=by
 by_cases hw:c.way≠0
 ·rw[aa hw];exact Zwj h g hw
 ·rw[ab hw];exact Q5q (by simpa using hw)
theorem Q7s {K:Kf} {c:Cv} {n:Int} (h:KOK K) (g:Ga K n c) (hn:0<=n/\n<=10000) {E:List Evn} (hE:EvE E):
  HR (.view kPt (E.map evR)::Ab K c)=some (tkA K c E++Ab (Fa K c E).1 (Fa K c E).2):=by
 have hp:KOK (A9 K c E).1:=OR h c E;have gp:=Xu h hn.1 g hE;have ge:=Qxo h hn.1 g hE;have gs:=Qk8 h g hn hE;have hs:=Tz h c E;have hf:=R7 ge (by omega);have hu:=R7 gs (by omega);refine Zpm (K2:=(Bt K c E).1) (d:=(Bt K c E).2) (Z2r hE h (fun{K} hK c x k {n} hn=>Zcn hK c x k hn)) (Zav (OR h c E)) Q29 (Mm _) Qbd λo ho=> ?_;have hr:=Zp6 (ME:=KL) (MR:=JT) (MS:=Ht) (MN:=C0) (MX:=JW) (MT:=Kx) (MV:=JL) (N3:=RK) (K:=(A9 K c E).1) (c:=(A9 K c E).2) (Aw (Bt K c E).2) (Q23 _ _) (Q9r _ _) (Q8t _ _) (Zn5 hp gp) (Zqn hp gp);have he:=Zec (MM:=C8) (MP:=OV) (MB:=IZ) (MO:=C5) (MU:=C0) (K:=(stA K c E).2.1) (c:=(stA K c E).2.2) (frm:=Aw (Bt K c E).2) (mode:=(stA K c E).1) (Mm _ _) (LH hs _) (Q1u hs _ _ (by omega)) (λs=>Qq9 hs gs.pass s) (Rj _ _) (Ki hs.f);have hK:(Cd (A9 K c E).1 (A9 K c E).2).2.1=(stA K c E).2.1:=by
  unfold stA;by_cases hm:(Cd (A9 K c E).1 (A9 K c E).2).1=0
  ·rw[aa hm,(Pv hm).2]
  ·rw[ab hm]
 refine Zzq (w:=DR (A9 K c E).1 (Cd (A9 K c E).1 (A9 K c E).2).2.2) (s:=((stA K c E).1,(stA K c E).2.2)) (K2:=(stA K c E).2.1) (d2:=(Cd (A9 K c E).1 (A9 K c E).2).2.2) (m:=(Cd (A9 K c E).1 (A9 K c E).2).1) ho ?_ ?_ ?_ he
 ·rw[<-hK];exact hr
 ·intro hm;rw[<-hK,(Pv hm).2];exact Qrd hp (gp.gd (Pv hm).1) hn
 ·unfold stA;by_cases hm:(Cd (A9 K c E).1 (A9 K c E).2).1=0
  ·rw[aa hm,aa hm]
  ·rw[ab hm,ab hm]
end Go.Bm
namespace Go.Bm
open Classical
def okD (d:Pt):Prop:=(d.x=1\/d.x= -1)/\(d.y=1\/d.y= -1)/\(d.z=1\/d.z= -1)
theorem Zgp {d a b:Pt} {mv:Int} (hv:mv=1\/mv= -1) (h:okD d):okD (DF d a b mv):=by
 obtain⟨h1,h2,h3⟩:=h;unfold okD DF PP;simp only;refine⟨?_,?_,?_⟩<;>(repeat' split)<;>omega
theorem Qzx {t:Trk} {c:Pce} (h:∀k∈t.aE,okD k.dirs) (hc:okD c.dirs):∀k∈(E4 t c).aE,okD k.dirs:=by
 unfold E4;by_cases g:t.aE≠[]/\c.move≠0/\(Bb t.aE).move=c.move/\(Bb t.aE).dirs=c.dirs
 ·rw[aa g];intro k hk;rcases List.mem_or_eq_of_mem_set hk with hk|rfl
  ·exact h k hk
  ·have:=h (Bb t.aE) (Qfj g.1);exact this
 ·rw[ab g];intro k hk;rcases bj.1 hk with hk|hk
  ·exact h k hk
  ·rw[dg]at hk;subst hk;exact hc
theorem Qs2 {p:Pth} {x:Ax3} {mv lo hi f:Int} {d:Pt} (hv:mv=1\/mv= -1) (hd:okD d):∀j,(∀k∈(B9 p x mv lo hi (⟨[],0,f,d⟩,d) j).1.aE,okD k.dirs)/\okD (B9 p x mv lo hi (⟨[],0,f,d⟩,d) j).2
 |0=>⟨by simp[B9],hd⟩
 |j+1=>by
  obtain⟨h1,h2⟩:=Qs2 (p:=p) (x:=x) (lo:=lo) (hi:=hi) (f:=f) hv hd j;rw[B9];unfold HC;split
  ·unfold Cy;simp only;have ht:=Zgp (a:=EV p.start p.aF (Ei p.aF.length mv j)) (b:=(sgA p.aF (Ei p.aF.length mv j)).to) hv h2;refine⟨Qzx ?_ ht,ht⟩;split
   ·exact Qzx h1 ht
   ·exact h1
  ·exact⟨h1,h2⟩
theorem Qy3 {p:Pth} {x:Ax3} {d:Pt} {a b:Int} (hd:okD d):∀k∈(A1 p x d a b).aE,okD k.dirs:=by
 unfold A1;exact(Qs2 (by split<;>simp) hd _).1
def PW (a:Axs) (g:Int->Int) (f:Pt->Int) (c:Pce) (u:Int):Int:=DG a (g (c.s+c.move*(u-c.at_)))+Dv a c.move c.at_ (f c.was) (f c.dirs) u
def Ja (a:Axs) (g:Int->Int) (f:Pt->Int):List Pce->Int->Int
 |[],_=>0
 |c::l,u=>if u<=c.at_+c.units then PW a g f c u else Ja a g f l u
def JR (x:Ax3) (a:Axs) (f:Pt->Int):Prop:=(0<=a.back/\a.back<=1000)/\(∀d,okD d->f d=1\/f d= -1)/\(∀w d,f w≠f d->a.back<=Cn x w d)
theorem Qin {x:Ax3} (h:Ax3OK x):JR x x.a Pt.x:=⟨h.a,λd hd=>hd.1,λw d hn=>by have h1:=h.a;unfold Cn slk;rw[ab hn];(repeat' split)<;>omega⟩
theorem Q9i {x:Ax3} (h:Ax3OK x):JR x x.b Pt.y:=⟨h.b,λd hd=>hd.2.1,λw d hn=>by have h1:=h.a;have h2:=h.b;unfold Cn slk;rw[ab hn];(repeat' split)<;>omega⟩
theorem Qy1 {x:Ax3} (h:Ax3OK x):JR x x.c Pt.z:=⟨h.c,λd hd=>hd.2.2,λw d hn=>by have h1:=h.a;have h2:=h.b;unfold Cn slk;rw[ab hn];omega⟩
theorem Q2b {x:Ax3} {a:Axs} {f:Pt->Int} {g:Int->Int} {mv:Int} {Q:Int->Pt->Prop} {at_ s:Int} {d:Pt} {c:Pce} {l:List Pce} (hA:JR x a f) (h:DN x mv Q at_ s d (c::l)) (hv:mv=1\/mv= -1) (hd:okD d) (hc:okD c.dirs):
  PW a g f c at_=DG a (g s)+B5 a (f d)/\PW a g f c (at_+c.units)=DG a (g (s+c.move*c.units))+B5 a (f c.dirs):=by
 obtain⟨hb,hf,hs⟩:=hA;obtain⟨h1,h2,h3,h4,-⟩:=h;have f1:=hf d hd;have f2:=hf c.dirs hc;unfold PW;rw[h1,h2,show at_-at_=0 by omega,show at_+c.units-at_=c.units by omega,Int.mul_zero,dc];rcases h4 with⟨k1,k2,k3,-⟩|⟨k1,k2,k3⟩
 ·have hm:c.move≠0:=by rcases hv with rfl|rfl<;>omega
  unfold Dv;rw[aa (.inl hm),aa (.inl hm)];refine⟨?_,rfl⟩;by_cases e:f d=f c.dirs
  ·rw[e]
  ·have:=hs d c.dirs e;rw[k3]at this;unfold B5
   (repeat' split)<;>omega
 ·rw[k1,k2,Int.zero_mul,dc];by_cases e:f d=f c.dirs
  ·unfold Dv;have hP:(0:Int)≠0\/f d=f c.dirs:= .inr e;rw[aa hP,aa hP,e];exact⟨rfl,rfl⟩
  ·have:=hs d c.dirs e;rw[<-k3]at this;have hN: ¬((0:Int)≠0\/f d=f c.dirs):=λg=>g.elim (λg=>g rfl) e;unfold Dv B5;rw[ab hN,ab hN];generalize DG a (g s)=M;constructor
   ·rcases f2 with f2|f2<;>rcases f1 with f1|f1<;>rw[f2,f1]<;>simp<;>omega
   ·rcases f2 with f2|f2<;>rw[f2]<;>simp<;>omega
theorem Qw2 {a:Axs} {g:Int->Int} {f:Pt->Int}:∀{l:List Pce} {u:Int},fI l u<l.length->Ja a g f l u=PW a g f (pcA l (fI l u)) u
 |[],_,h=>by simp at h
 |c::l,u,h=>by
  unfold fI at h⊢;unfold Ja;by_cases c0:u<=c.at_+c.units
  ·rw[aa c0,aa c0,Is]
  ·rw[ab c0]at h⊢;rw[ab c0,Fe];exact Qw2 (by simpa using h)
theorem V0 {p:Pth} {x:Ax3} {t:Trk} (hp:GoodPath p) (hx:Ax3M x) (ht:TH t) (u:Int):(Bg p x t u).x.natAbs<=3000000000/\(Bg p x t u).y.natAbs<=3000000000/\(Bg p x t u).z.natAbs<=3000000000:=by
 obtain⟨o1,o2,o3⟩:=Q98 hp (A_ t u);have b1:=ON hx.a o1;have b2:=ON hx.b o2;have b3:=ON hx.c o3;have s1:=MJ hx.ok.a ht u Pt.x;have s2:=MJ hx.ok.b ht u Pt.y;have s3:=MJ hx.ok.c ht u Pt.z;unfold Bg Fy;simp only;omega
theorem Quw:∀{d:Pt} {l:List Pce},l≠[]->E3 d l=(Bb l).dirs
 |_,[],h=>absurd rfl h
 |d,[c],_=>rfl
 |d,c::e::l,_=>by
  have ih:=Quw (d:=c.dirs) (l:=e::l) (by simp);show E3 c.dirs (e::l)=_;rw[ih];unfold Bb;simp
theorem Znx (t:Trk):Ob t=E3 t.dirs t.aE:=by
 unfold Ob;by_cases c:t.aE=[]
 ·rw[aa c,c];rfl
 ·rw[ab c,Quw c]
theorem Quo {x:Ax3} {a:Axs} {f:Pt->Int} {g:Int->Int} {mv:Int} {Q:Int->Pt->Prop} (hA:JR x a f) (hv:mv=1\/mv= -1):∀{at_ s:Int} {d:Pt} {l:List Pce},DN x mv Q at_ s d l->okD d->(∀k∈l,okD k.dirs)->l≠[]->Ja a g f l (Co at_ l)=DG a (g (C1 s l))+B5 a (f (E3 d l))
 |at_,s,d,[c],h,hd,hk,_=>by
  have hj:=(Q2b (g:=g) hA h hv hd (hk c (by simp))).2;have h1:=h.1;show Ja a g f [c] (at_+c.units)=_;unfold Ja;rw[aa (by omega),hj];rfl
 |at_,s,d,c::e::l,h,hd,hk,_=>by
  have h5:=h.2.2.2.2;have h1:=h.1;have ih:=Quo (g:=g) hA hv h5 (hk c (by simp)) (λk hk'=>hk k (by simp at hk'⊢;exact .inr hk')) (by simp);have hp:at_+c.units<Co (at_+c.units) (e::l):=by
   obtain⟨-,-,g3,-,g5⟩:=h5;have:=Qln g5;simp only[Co];omega
  show Ja a g f (c::e::l) (Co (at_+c.units) (e::l))=DG a (g (C1 (s+c.move*c.units) (e::l)))+B5 a (f (E3 c.dirs (e::l)));rw[<-ih];generalize Co (at_+c.units) (e::l)=A at*;show(if _ then _ else _)=_;rw[ab (by omega)]
theorem Qoe {x:Ax3} {a:Axs} {f:Pt->Int} (g:Int->Int) {mv e:Int} {Q:Int->Pt->Prop} {t:Trk} {d:Pt} (hA:JR x a f) (hv:mv=1\/mv= -1) (h:TC x mv Q t e d) (ht:TQ t) (hd:okD t.dirs) (hk:∀k∈t.aE,okD k.dirs):
  DG a (g (A_ t 0))+shT a t 0 f=DG a (g t.start)+B5 a (f t.dirs)/\DG a (g (A_ t t.length))+shT a t t.length f=DG a (g e)+B5 a (f (Ob t)):=by
 obtain⟨h1,h2,h3,-⟩:=h;have hl:=ht.len;rw[Znx];by_cases c:t.aE=[]
 ·unfold A_ shT;rw[aa c,aa c,aa c];rw[c]at h3⊢;simp only[C1]at h3;simp only[E3];rw[h3];simp
 ·have hcl:∀v,0<=v->v<=t.length->clT t v=v:=by intro v g1 g2;unfold clT Bq;omega
  have hm:∀v:Int,0<=v->v<=t.length->DG a (g (A_ t v))+shT a t v f=Ja a g f t.aE v:=by
   intro v g1 g2;have hi:=JA ht v c;have ei:iT t v=fI t.aE v:=by unfold iT;rw[hcl v g1 g2]
   unfold A_ shT;rw[ab c,ab c,ei,hcl v g1 g2];rw[ei]at hi;exact(Qw2 hi).symm
  rw[hm 0 (by omega) (by omega),hm t.length (by omega) (by omega)];constructor
  ·cases hh:t.aE with
   |nil=>exact absurd hh c
   |cons k l=>
    rw[hh]at h1 hk;have hj:=(Q2b (g:=g) hA h1 hv hd (hk k (by simp))).1;have g1:=h1.1;have g3:=h1.2.2.1;unfold Ja;rw[aa (by omega),hj]
  ·have:=Quo (g:=g) hA hv h1 hd hk c;rw[h2,h3]at this;exact this
theorem Z40 {p:Pth} {x:Ax3} {t:Trk} {mv e:Int} {Q:Int->Pt->Prop} {d:Pt} (hx:Ax3M x) (hv:mv=1\/mv= -1) (h:TC x mv Q t e d) (ht:TQ t) (hd:okD t.dirs) (hk:∀k∈t.aE,okD k.dirs):
  Bg p x t 0=⟨(Fy p x t.start).x+B5 x.a t.dirs.x,(Fy p x t.start).y+B5 x.b t.dirs.y,(Fy p x t.start).z+B5 x.c t.dirs.z⟩/\
  Bg p x t t.length=⟨(Fy p x e).x+B5 x.a (Ob t).x,(Fy p x e).y+B5 x.b (Ob t).y,(Fy p x e).z+B5 x.c (Ob t).z⟩:=by
 have k1:=Qoe (λs=>(atP p s).x) (Qin hx.ok) hv h ht hd hk;have k2:=Qoe (λs=>(atP p s).y) (Q9i hx.ok) hv h ht hd hk;have k3:=Qoe (λs=>(atP p s).z) (Qy1 hx.ok) hv h ht hd hk;unfold Bg Fy;rw[Dt,Dt];exact⟨⟨k1.1,k2.1,k3.1⟩,⟨k1.2,k2.2,k3.2⟩⟩
def FM (K:Kf):Prop:=∃(d:Pt) (a b:Int),okD d/\K.t=A1 K.p K.x d a b
theorem Q1g {x:Ax3} {a:Axs} {f:Pt->Int} (hA:JR x a f) {mv:Int} {Q:Int->Pt->Prop} (hv:mv=1\/mv= -1):∀{at_ s:Int} {d:Pt} {l:List Pce},DN x mv Q at_ s d l->okD d->(∀k∈l,okD k.dirs)->∀(u:Int) (d0:Pt),at_<=u->u<=Co at_ l->l≠[]->
  ¬((pcA l (fI l u)).move=0/\(pcA l (fI l u)).at_<u/\u<eI l (fI l u))->
  Dv a (pcA l (fI l u)).move (pcA l (fI l u)).at_ (f (pcA l (fI l u)).was) (f (pcA l (fI l u)).dirs) u=B5 a (f (JI l u d0))/\okD (JI l u d0)
 |_,_,_,[],_,_,_,_,_,_,_,h,_=>absurd rfl h
 |at_,s,d,c::l,h,hd,hk,u,d0,h0,h1,_,hn=>by
  obtain⟨g1,g2,g3,g4,g5⟩:=h;have hkc:=hk c (by simp);by_cases hu:u<=c.at_+c.units
  ·have e:fI (c::l) u=0:=by unfold fI;rw[aa hu]
   rw[e]at hn⊢;have ep:pcA (c::l) 0=c:=Is c l;have ee:eI (c::l) 0=c.at_+c.units:=by unfold eI;rw[ep]
   rw[ep,ee]at hn;rw[ep];have ef:JI (c::l) u d0=if c.move≠0\/u=c.at_+c.units then c.dirs else c.was:=by
    show(if u>c.at_+c.units then _ else _)=_;rw[ab (by omega)]
   rw[ef];obtain⟨hb,hf,hs⟩:=hA;rcases g4 with⟨m1,m2,-⟩|⟨m1,m2,m3⟩
   ·have hm:c.move≠0:=by rw[m1];rcases hv with h|h<;>omega
    rw[aa (.inl hm)];unfold Dv;rw[aa (.inl hm)];exact⟨rfl,hkc⟩
   ·have f1:=hf _ hkc;have f2:=hf _ hd;have hsl:=hs d c.dirs;by_cases hend:u=c.at_+c.units
    ·rw[aa (.inr hend)];refine⟨?_,hkc⟩;unfold Dv;by_cases hs2:f c.was=f c.dirs
     ·rw[aa (.inr hs2)]
     ·rw[ab (λq=>by rcases q with q|q;exact q m1;exact hs2 q)];rw[m2]at hs2;have:=hsl hs2;have hmin:min (u-c.at_) a.back=a.back:=by omega
      rw[hmin];unfold B5;rcases f1 with f1|f1
      ·rw[f1,ab (by decide),ab (by decide)];omega
      ·rw[f1,aa rfl,aa rfl]
    ·rw[ab (λq=>by rcases q with q|q;exact q m1;exact hend q)];have hua:u=c.at_:=by omega
     refine⟨?_,by rw[m2];exact hd⟩;unfold Dv;by_cases hs2:f c.was=f c.dirs
     ·rw[aa (.inr hs2),hs2]
     ·rw[ab (λq=>by rcases q with q|q;exact q m1;exact hs2 q)];rw[m2]at hs2⊢;have hmin:min (u-c.at_) a.back=0:=by omega
      rw[hmin];unfold B5;rcases f1 with f1|f1
      ·have f3:f d= -1:=by rcases f2 with f2|f2;exact absurd (f2.trans f1.symm) hs2;exact f2
       rw[f1,f3,ab (by decide),aa rfl];omega
      ·have f3:f d=1:=by rcases f2 with f2|f2;exact f2;exact absurd (f2.trans f1.symm) hs2
       rw[f1,f3,aa rfl,ab (by decide)];omega
  ·have e:fI (c::l) u=fI l u+1:=by
    show(if u<=c.at_+c.units then 0 else fI l u+1)=_;rw[ab hu]
   have ef:JI (c::l) u d0=JI l u d0:=by
    show(if u>c.at_+c.units then _ else _)=_;rw[aa (by omega)]
   have hne:l≠[]:=by
    intro q;subst q;simp only[Co]at h1;omega
   rw[e]at hn⊢;have ee:eI (c::l) (fI l u+1)=eI l (fI l u):=by unfold eI;rw[Fe]
   rw[Fe,ee]at hn;rw[Fe,ef];exact Q1g hA hv g5 hkc (λk q=>hk k (by simp[q])) u d0 (by omega) (by simpa only[Co]using h1) hne hn
theorem Qwz {x:Ax3} {mv:Int} {Q:Int->Pt->Prop} (hv:mv=1\/mv= -1):∀{a s:Int} {d:Pt} {l:List Pce},DN x mv Q a s d l->l≠[]->∀u:Int,a<=u->u<=Co a l->0<=mv*(plL l u-s)/\0<=mv*(C1 s l-plL l u)
 |_,_,_,[],_,h,_,_,_=>absurd rfl h
 |a,s,d,c::l,h,_,u,h0,h1=>by
  obtain⟨g1,g2,g3,g4,g5⟩:=h;have hm:c.move=mv\/c.move=0:=by rcases g4 with g4|g4<;>simp[g4.1]
  have he:=Q2h hv g5;unfold plL;by_cases hu:u<=c.at_+c.units
  ·rw[aa hu,g1,g2];unfold C1;rw[g1]at hu;generalize C1 (s+c.move*c.units) l=E at*;rcases hm with hm|hm<;>rcases hv with hv|hv<;>rw[hm]at he⊢<;>subst hv<;>omega
  ·rw[ab hu];have hne:l≠[]:=by
    intro q;subst q;simp only[Co]at h1;omega
   have ih:=Qwz hv g5 hne u (by omega) (by simpa only[Co]using h1);unfold C1;generalize C1 (s+c.move*c.units) l=E at*;rcases hm with hm|hm<;>rcases hv with hv|hv<;>rw[hm]at ih<;>subst hv<;>omega
theorem Zq2 {p:Pth} {x:Ax3} {d:Pt} {a b:Int} (hx:Ax3OK x) (hp:GoodPath p) (u:Int):0<=A_ (A1 p x d a b) u/\A_ (A1 p x d a b) u<=AJ p.aF:=by
 have hn:=Qfs hp;obtain⟨d',h1,h2,-⟩:=Qv (d:=d) (a:=a) (b:=b) (Q:=λ_ _=>True) hx hp (λ_ _ _ _ _ _ _ _=>trivial);have ht:=RT d a b hx hp;have hv:=Ty p a b;have ca:0<=Bq a (AJ p.aF)/\Bq a (AJ p.aF)<=AJ p.aF:=by unfold Bq;omega
 have cb:0<=Bq b (AJ p.aF)/\Bq b (AJ p.aF)<=AJ p.aF:=by unfold Bq;omega
 by_cases hne:(A1 p x d a b).aE=[]
 ·unfold A_;rw[aa hne,h2];exact ca
 ·have hc:=KZ ht u;have hb:=Qwz hv h1.ch hne (clT (A1 p x d a b) u) hc.1 (by rw[h1.len];exact hc.2);rw[h1.s,h2]at hb;rw[Zno ht u hne];generalize plL (A1 p x d a b).aE (clT (A1 p x d a b) u)=z at*;rcases hv with hv|hv<;>rw[hv]at hb<;>omega
theorem Zt4 {p:Pth} {x:Ax3} {d:Pt} {a b:Int} (hx:Ax3M x) (hp:GoodPath p) (hd:okD d) {u:Int} (hl: ¬Hu (A1 p x d a b) u):
  Bg p x (A1 p x d a b) u=⟨(Fy p x (A_ (A1 p x d a b) u)).x+B5 x.a (Fq (A1 p x d a b) u).x,(Fy p x (A_ (A1 p x d a b) u)).y+B5 x.b (Fq (A1 p x d a b) u).y,(Fy p x (A_ (A1 p x d a b) u)).z+B5 x.c (Fq (A1 p x d a b) u).z⟩/\okD (Fq (A1 p x d a b) u):=by
 obtain⟨d',h1,h2,h3⟩:=Qv (d:=d) (a:=a) (b:=b) (Q:=λ_ _=>True) hx.ok hp (λ_ _ _ _ _ _ _ _=>trivial);have ht:=RT d a b hx.ok hp;have hv:=Ty p a b;have hk:=Qy3 (p:=p) (x:=x) (a:=a) (b:=b) hd;by_cases hne:(A1 p x d a b).aE=[]
 ·have hf:Fq (A1 p x d a b) u=d:=by unfold Fq;rw[hne,h3];rfl
  rw[hf];refine⟨?_,hd⟩;unfold Bg shT;rw[aa hne,aa hne,aa hne,h3]
 ·have hc:=KZ ht u;have hdd:okD (A1 p x d a b).dirs:=by rw[h3];exact hd
  have hl2: ¬((pcA (A1 p x d a b).aE (fI (A1 p x d a b).aE (clT (A1 p x d a b) u))).move=0/\(pcA (A1 p x d a b).aE (fI (A1 p x d a b).aE (clT (A1 p x d a b) u))).at_<clT (A1 p x d a b) u/\clT (A1 p x d a b) u<eI (A1 p x d a b).aE (fI (A1 p x d a b).aE (clT (A1 p x d a b) u))):=λq=>hl ⟨hne,q⟩;have key:=fun(ax:Axs) (f:Pt->Int) (hA:JR x ax f)=>Q1g hA hv h1.ch hdd hk (clT (A1 p x d a b) u) (A1 p x d a b).dirs hc.1 (by rw[h1.len];exact hc.2) hne hl2;refine⟨?_,(key x.a Pt.x (Qin hx.ok)).2⟩;unfold Bg shT iT;rw[ab hne,ab hne,ab hne];have k1:=(key x.a Pt.x (Qin hx.ok)).1;have k2:=(key x.b Pt.y (Q9i hx.ok)).1;have k3:=(key x.c Pt.z (Qy1 hx.ok)).1;rw[k1,k2,k3];rfl
theorem Zcq {K:Kf} (h:KOK K) (hl:FM K) {c:Cv} (hb:Er K c=true) (to:Int):Bg K.p K.x (Do K c to) 0=AM K c/\FM (sT K (Do K c to)):=by
 obtain⟨d,a,b,hd,ht⟩:=hl;have hlo: ¬Hu K.t (Aw c):=by
  unfold Er at hb;rw[aj,Bool.not_eq_true']at hb;exact of_decide_eq_false hb.2
 have hlo':=hlo;rw[ht]at hlo';obtain⟨m1,m2⟩:=Zt4 h.f.x h.f.p hd hlo';have pl:=Zq2 (d:=d) (a:=a) (b:=b) h.f.x.ok h.f.p (Aw c);rw[<-ht]at m1 m2 pl;unfold Do;refine⟨?_,⟨_,_,_,m2,rfl⟩⟩;obtain⟨d',h1,h2,h3⟩:=Qv (d:=Fq K.t (Aw c)) (a:=AG K c) (b:=to) (Q:=λ_ _=>True) h.f.x.ok h.f.p (λ_ _ _ _ _ _ _ _=>trivial);have hT:=RT (Fq K.t (Aw c)) (AG K c) to h.f.x.ok h.f.p;have e:=(Z40 (p:=K.p) h.f.x (Ty K.p (AG K c) to) h1 hT (by rw[h3];exact m2) (Qy3 m2)).1;have hs:Bq (AG K c) (AJ K.p.aF)=A_ K.t (Aw c):=by
  show Bq (A_ K.t (Aw c)) (AJ K.p.aF)=_;unfold Bq;omega
 rw[h2,h3,hs]at e;rw[e];exact m1.symm
end Go.Bm
namespace Go.Bm
def Jl (w v:Pt) (u:Int):Rw:=
 (bif v.x !=w.x then [[I u,I 0,I (wrap .i64 (v.x-w.x))]]else [])++((bif v.y !=w.y then [[I u,I 1,I (wrap .i64 (v.y-w.y))]]else [])++(bif v.z !=w.z then [[I u,I 2,I (wrap .i64 (v.z-w.z))]]else []))
def Dz (M:Int->Pt) (f:Int):Nat->Rw
 |0=>[]
 |n+1=>Dz M f n++Jl (M (f+n)) (M (f+n+1)) (f+n+1)
theorem Zjx (w v:Pt) (u:Int):(Jl w v u).length<=3:=by
 unfold Jl;cases(v.x !=w.x)<;>cases(v.y !=w.y)<;>cases(v.z !=w.z)<;>simp
theorem XZ (M:Int->Pt) (f:Int):∀n:Nat,(Dz M f n).length<=3*n
 |0=>by simp[Dz]
 |n+1=>by
  have h1:=XZ M f n;have h2:=Zjx (M (f+n)) (M (f+n+1)) (f+n+1);simp only[Dz,ao];omega
def clp (t:Trk) (u:Int):Int:=mx 0 (mn u t.length)
theorem Q6u {t:Trk} (ht:0<=t.length) (u:Int):0<=clp t u/\clp t u<=t.length:=by
 unfold clp mx mn
 (repeat' split)<;>omega
theorem Sw {t:Trk} (ht:0<=t.length) {u v:Int} (h:u<=v):clp t u<=clp t v/\clp t v-clp t u<=v-u:=by
 unfold clp mx mn
 (repeat' split)<;>omega
def JD (M:Int->Pt) (t:Trk) (a b:Int):Rw:=Dz M (clp t a) (clp t b-clp t a).toNat
theorem Zhf {M:Int->Pt} {t:Trk} (ht:0<=t.length) {a b:Int} (h:a<=b):((JD M t a b).length:Int)<=3*(b-a):=by
 have m:=Sw ht h;have l:=XZ M (clp t a) (clp t b-clp t a).toNat;unfold JD;omega
theorem Zuu {M:Fn} {P:Int->Pt} {p:Pth} {x:Ax3} {t:Trk} (hM:∀u,M (pxt p x t [I u])=some (ptR (P u))) (ht:0<=t.length/\t.length<=900000000000000) (a b:Int) (hd:b-a<=1000000000000):
  Uf M (An (Rz M)) (pxt p x t [I a,I b])=some [.view kPt (JD P t a b)]:=by
 rw[Q39];have hf:=Q6u ht.1 a;have he:=Q6u ht.1 b;have hd:clp t b-clp t a<=1000000000000:=by
  by_cases h:a<=b
  ·have:=Sw ht.1 h;omega
  ·have:=Sw (u:=b) (v:=a) ht.1 (by omega);omega
 unfold JD;unfold clp at*;generalize mx 0 (mn a t.length)=f at*;generalize mx 0 (mn b t.length)=e at*;refine eB (hM f) ?_;have key:Out (λo=>o=(1,[.view kPt (Dz P f (e-f).toNat)])) (An (Rz M) (.view kPt (Dz P f 0)::I e::I (f+((0:Nat):Int))::pxt p x t [I (P (f+((0:Nat):Int))).x,I (P (f+((0:Nat):Int))).y,I (P (f+((0:Nat):Int))).z])):=by
  refine Cb (λn:Nat=> .view kPt (Dz P f n)::I e::I (f+n)::pxt p x t [I (P (f+n)).x,I (P (f+n)).y,I (P (f+n)).z]) (λn=>n<=(e-f).toNat) (λn=>(e-f).toNat-n) _ ?_ 0 (by omega);intro n hn;rw[Q45];try dsimp only[Mi]
  refine .cond (λc=> ?_) (λc=> ?_)
  ·have c:=A6 c;rw[Ae (x:=f+(n:Int)+1) (by omega)];refine .bind (p:=λo=>o=_) ⟨_,hM (f+(n:Int)+1),rfl⟩ λo e=> ?_;subst e;have e1:wrap .i64 (0+1)=1:=Ae (by omega);have e2:wrap .i64 (1+1)=2:=Ae (by omega);rw[e1,e2];have hl:=XZ P f n;have hs:Dz P f (n+1)=Dz P f n++Jl (P (f+n)) (P (f+n+1)) (f+n+1):=rfl;have hu:f+((n+1:Nat):Int)=f+n+1:=by omega
   unfold Jl at hs;show Out _ (bif(P (f+(n:Int)+1)).x !=(P (f+n)).x then _ else _);generalize Dz P f n=v at*;have fin:∀{y:List AC},y= .view kPt (Dz P f (n+1))::I e::I (f+n+1)::pxt p x t [I (P (f+n+1)).x,I (P (f+n+1)).y,I (P (f+n+1)).z]->Out (λo:Nat×List AC=>(o.1=0/\∃s':Nat,o.2= .view kPt (Dz P f s')::I e::I (f+s')::pxt p x t [I (P (f+s')).x,I (P (f+s')).y,I (P (f+s')).z]/\s'<=(e-f).toNat/\(e-f).toNat-s'<(e-f).toNat-n)\/(o.1≠0/\o=(1,[.view kPt (Dz P f (e-f).toNat)]))) (some (0,y)):=λhy=>by
    subst hy;exact .some (.inl ⟨rfl,n+1,by rw[hu],by omega,by omega⟩)
   have big:∀{y:Rw},y.length<=v.length+3->(y.length*24).ble 140737488355328=true:=λh=>CK (by omega);generalize Dz P f (n+1)=z at*;generalize P (f+(n:Int)+1)=q at*;generalize P (f+(n:Int))=w at*;refine .cond (λcx=> ?_) λcx=> ?_
   ·refine .cond (λ_=> ?_) λc=>by rw[big (by simp)]at c;cases c
    refine .cond (λcy=> ?_) λcy=> ?_
    ·have cy:(q.y !=w.y)=true:=cy;refine .cond (λ_=> ?_) λc=>by rw[big (by simp)]at c;cases c
     refine .cond (λcz=> ?_) λcz=> ?_
     ·have cz:(q.z !=w.z)=true:=cz;refine .cond (λ_=>fin ?_) λc=>by rw[big (by simp)]at c;cases c
      rw[hs,cx,cy,cz];simp[ptR,gA,nth,Af]
     ·have cz:(q.z !=w.z)=false:=cz;refine fin ?_;rw[hs,cx,cy,cz];simp[ptR,gA,nth,Af]
    ·have cy:(q.y !=w.y)=false:=cy;refine .cond (λcz=> ?_) λcz=> ?_
     ·have cz:(q.z !=w.z)=true:=cz;refine .cond (λ_=>fin ?_) λc=>by rw[big (by simp)]at c;cases c
      rw[hs,cx,cy,cz];simp[ptR,gA,nth,Af]
     ·have cz:(q.z !=w.z)=false:=cz;refine fin ?_;rw[hs,cx,cy,cz];simp[ptR,gA,nth,Af]
   ·refine .cond (λcy=> ?_) λcy=> ?_
    ·have cy:(q.y !=w.y)=true:=cy;refine .cond (λ_=> ?_) λc=>by rw[big (by simp)]at c;cases c
     refine .cond (λcz=> ?_) λcz=> ?_
     ·have cz:(q.z !=w.z)=true:=cz;refine .cond (λ_=>fin ?_) λc=>by rw[big (by simp)]at c;cases c
      rw[hs,cx,cy,cz];simp[ptR,gA,nth,Af]
     ·have cz:(q.z !=w.z)=false:=cz;refine fin ?_;rw[hs,cx,cy,cz];simp[ptR,gA,nth,Af]
    ·have cy:(q.y !=w.y)=false:=cy;refine .cond (λcz=> ?_) λcz=> ?_
     ·have cz:(q.z !=w.z)=true:=cz;refine .cond (λ_=>fin ?_) λc=>by rw[big (by simp)]at c;cases c
      rw[hs,cx,cy,cz];simp[ptR,gA,nth,Af]
     ·have cz:(q.z !=w.z)=false:=cz;refine fin ?_;rw[hs,cx,cy,cz];simp[ptR,gA,nth,Af]
  ·have c:=A2 c;have e1:n=(e-f).toNat:=by omega
   rw[<-e1];exact .some (.inr ⟨by simp,rfl⟩)
 obtain⟨o,h1,rfl⟩:=key;rw[show f+((0:Nat):Int)=f by omega]at h1;exact eB h1 rfl
theorem Zzh {p:Pth} {x:Ax3} {t:Trk} (h:Fix p x t) (a b:Int) (hd:b-a<=1000000000000):IZ (pxt p x t [I a,I b])=some [.view kPt (JD (Bg p x t) t a b)]:=
 Zuu (Ki h) h.t.q.len a b hd
theorem Za7 {K:Kf} (h:KOK K) {a b:Int} (hd:b-a<=1000000000000):Ju K a b=JD (Bg K.p K.x K.t) K.t a b:=by
 unfold Ju;rw[Zzh h.f a b hd];rfl
theorem Zgm (a b c:Int) {d:Int} (h:d<=0):G9 [I a,I b,I c,I d]=some [I 0]:=by
 show TE _=_;rw[YR,BH (al h)]
theorem Zxv {a b c:Int} (h:Plan3 a b c):Hd [I a,I b,I c,I 0,I 0]=some [B true]:=by
 have key:∀{M:Fn},(∀d:Int,d<=0->M [I a,I b,I c,I d]=some [I 0])->QR M [I a,I b,I c,I 0,I 0]=some [B true]:=by
  intro M hM;have ha:=h.a;have hb:=h.b
  rw[Qbx,Ae (x:=0-a) (by omega)];refine eF (am (by omega)) (eF (am (by omega)) (eT rfl (eF (am (by omega)) ?_)));refine eB (hM _ (by decide)) (eT rfl (eB (hM 0 (by omega)) ?_));rfl
 exact key λd hd=>Zgm a b c hd
theorem Zqt {a b c:Int} (h:Plan3 a b c):KJ [I a,I b,I c,I 0,I 0]=some [.view Aa [],B true]:=by
 have key:∀{MB MR MV:Fn},MV [I a,I b,I c]=some [B true]->MR [I a,I b,I c,I 0,I 0]=some [B true]->Q0 MB MR MV (An (IA MB MR MV)) [I a,I b,I c,I 0,I 0]=some [.view Aa [],B true]:=by
  intro MB MR MV h1 h2;rw[Vc];refine eB h1 (eF rfl (eB h2 (eF rfl ?_)));have hs:IA MB MR MV [.view Aa [],I 0,I 0,I a,I b,I c]=some (2,[.view Aa []]):=by
   rw[Qg];rfl
  exact eB (A5 hs (by simp)) rfl
 refine key ?_ (Zxv h);rw[PO,al];exact⟨h.a.1,h.a.2,h.b.1,h.b.2,h.c.1,h.c.2⟩
theorem Zrt {a b c:Int} (h:Plan3 a b c) (x3 x6 x7 x8:Int):Fz [I a,I b,I c,I x3,I 0,I 0,I x6,I x7,I x8]=some [.view Aa [],B true]:=by
 have key:∀{M:Fn},M [I a,I b,I c,I 0,I 0]=some [.view Aa [],B true]->Ry M (An (Lq M)) [I a,I b,I c,I x3,I 0,I 0,I x6,I x7,I x8]=some [.view Aa [],B true]:=by
  intro M h1;rw[Qhx];have hs:Lq M [.view Aa [],I x3, .view Aa [],I 0,I 0]=some (1,[.view Aa []]):=by
   rw[Qwl];rfl
  exact eB h1 (eF rfl (eT rfl (eT rfl (eB (A5 hs (by simp)) rfl))))
 exact key (Zqt h)
theorem Zsi {K:Kf} (h:Plan3 K.pa K.pb K.pc) {c:Cv} (h1:c.m1=0) (h2:c.m2=0):Th K c=c.m0:=by
 have key:∀{M:Fn},M [I K.pa,I K.pb,I K.pc,I c.m0,I 0,I 0,I c.m3,I c.m4,I c.m5]=some [.view Aa [],B true]->OT M [I K.pa,I K.pb,I K.pc,I c.m0,I 0,I 0,I c.m3,I c.m4,I c.m5]=some [I c.m0,B true]:=by
  intro M hM;rw[VF];exact eB hM (eF rfl (eT rfl rfl))
 have e:F2 [I K.pa,I K.pb,I K.pc,I c.m0,I 0,I 0,I c.m3,I c.m4,I c.m5]=some [I c.m0,B true]:=key (Zrt h _ _ _ _);unfold Th one;rw[h1,h2,e];rfl
abbrev TG:Axs:=⟨8,10,10,10,-16777216,16777216,0,0,0,[]⟩
theorem Qcs:AxOK TG:=⟨by decide,by decide,by decide,λh=>absurd rfl h,⟨λx h=>(by cases h),λi h=>(by simp at h)⟩,by decide,by decide⟩
abbrev Ms:Ax3:=⟨TG,TG,TG⟩
theorem machX:MachOK Ms 9 3 100 1 0:=⟨⟨Qcs,Qcs,Qcs⟩,⟨by decide,by decide,by decide⟩,by decide,by decide⟩
abbrev B6:Itm:=⟨12,0,⟨0,0,0⟩,⟨0,0,0⟩,0,⟨0,0,0⟩,0,false,0,false,0,0,0,0,0,false⟩
theorem Q32:Items 4084 ⟨0,0,0⟩ []:=⟨trivial,λit h=>by cases h⟩
theorem Z2b:Items 4084 ⟨0,0,0⟩ [B6]:=by
 have h:=Oq Q32 (it:=B6) (λh=>by unfold AF at h;simp at h) (.inr ⟨by decide,λh=>by simp at h,λh=>by simp at h,λh=>by simp at h⟩);exact h
abbrev kX (l:List Itm):Kf:=kfP Ms 9 3 100 1 0 l true
theorem Qie {l:List Itm} (h:(Bc l).aF=[]) (c:Cv):HY (kX l) c=false:=by
 unfold HY DX;rw[h];rfl
theorem gd0 (l:List Itm):Gd (kX l) 0 BW:=⟨rfl,⟨by decide,by simp⟩,λh=>(by cases h),Si machX.plan,by decide⟩
theorem Qam:Bc []=⟨⟨0,0,0⟩,[],[]⟩:=rfl
theorem TA:Bc [B6]=⟨⟨0,0,0⟩,[],[⟨0,3,0⟩]⟩:=by
 have e:Ay [B6] 1=⟨[],[⟨0,3,0⟩],0,0,-1,false,⟨0,0,0⟩,⟨0,0,0⟩⟩:=by
  rw[Ay,Ay];unfold FV;rw[ab (by decide)];rfl
 show Pth.mk (Ay [B6] 1).start (Ay [B6] 1).aF (Ay [B6] 1).aD=_;rw[e]
theorem Q2v {p:Pth} (h:p.aF=[]):A1 p Ms ⟨1,1,1⟩ 0 (AJ p.aF)=⟨[],0,0,⟨1,1,1⟩⟩:=by
 unfold A1;rw[h];rfl
theorem kX0:kX []=⟨Ms,9,3,100,1,0,[],true,⟨⟨0,0,0⟩,[],[]⟩,0,Js [],⟨[],0,0,⟨1,1,1⟩⟩⟩:=by
 show Kf.mk _ _ _ _ _ _ _ _ _ _ _ _=_;rw[Q2v (p:=Bc []) (by rw[Qam]),Qam];rfl
theorem kX1:kX [B6]=⟨Ms,9,3,100,1,0,[B6],true,⟨⟨0,0,0⟩,[],[⟨0,3,0⟩]⟩,0,Js [B6],⟨[],0,0,⟨1,1,1⟩⟩⟩:=by
 show Kf.mk _ _ _ _ _ _ _ _ _ _ _ _=_;rw[Q2v (p:=Bc [B6]) (by rw[TA]),TA];rfl
abbrev Jo:Cv:={BW with aM:=true}
theorem Zaz {K:Kf} (ht:∀c,HY K c=false) (hr:K.ramp=1):Ic K BW []=Jo:=by
 show FR (EU K (A8 (Ew BW)))=_;unfold EU;rw[ab (by rw[ht];simp),hr];rfl
theorem Z2g:(stC (kX []) BW []).1=7:=by
 have e:=Zaz (Qie (l:=[]) (by rw[Qam])) rfl;have er:Bu (kX []) Jo=(0,Jo):=rfl;unfold stC;rw[e,er,aa rfl];have el:By (kX []) Jo=(0,-1):=by
  rw[kX0];unfold By B1;rfl
 unfold DR;rw[el];rfl
abbrev Kc:Cv:={Jo with on:=true,idx:=0,aN:=true,cnt:=1}
theorem st1:stC (kX [B6]) BW []=(2,Kc):=by
 have e:=Zaz (Qie (l:=[B6]) (by rw[TA])) rfl;have er:Bu (kX [B6]) Jo=(0,Jo):=rfl;unfold stC;rw[e,er,aa rfl];have el:By (kX [B6]) Jo=(0,0):=by
  have e2:=Zsi (K:=kX [B6]) machX.plan (c:=Jo) rfl rfl;unfold By;rw[e2,kX1];rfl
 unfold DR;rw[el,kX1];rfl
theorem Q9g:KI (kX [B6]) BW []=Kc:=by
 unfold KI;rw[st1,kX1];rfl
theorem Zj9:(stC (kX [B6]) Kc [⟨0,4,0⟩]).1=3:=by
 have ht:=Qie (l:=[B6]) (by rw[TA]);have e:Ic (kX [B6]) Kc [⟨0,4,0⟩]=FR (spS (A8 (Ew (DH Kc [⟨0,4,0⟩]))) 1):=by
  unfold Ic EU;rw[ab (by rw[ht];simp)]
 unfold stC;rw[e,kX1];rfl
theorem Q11 (K:Kf) (c:Cv) (E:List Evn) (l:List AC):gA (tkC K c E++l) 2=(stC K c E).1:=rfl
theorem Q3f:Yx []:=⟨by simp,λe h=>by cases h⟩
theorem Zlh {MS MN:Fn}
  (h0:MN (AK Ms++[I 9,I 3,I 100,I 1,I 0]++[.view Aj (([]:List Itm).map Ah),B true])=some (I 0::Ab (kX []) BW))
  (h1:MN (AK Ms++[I 9,I 3,I 100,I 1,I 0]++[.view Aj ([B6].map Ah),B true])=some (I 0::Ab (kX [B6]) BW))
  (hs0:∃l,MS (.view kPt (([]:List Evn).map evR)::Ab (kX []) BW)=some l/\gA l 2=7)
  (hs1:∃l,MS (.view kPt (([]:List Evn).map evR)::Ab (kX [B6]) BW)=some (l++Ab (kX [B6]) Kc)/\l.length=9/\gA l 2=2)
  (hs2:∃l,MS (.view kPt ([(⟨0,4,0⟩:Evn)].map evR)::Ab (kX [B6]) Kc)=some l/\gA l 2=3):
  Qhk MS MN []=some [B true]:=by
 rw[Zon];obtain⟨l0,s0,m0⟩:=hs0;obtain⟨l1,s1,n1,m1⟩:=hs1;obtain⟨l2,s2,m2⟩:=hs2
 match l1,n1 with
 |[a0,a1,a2,a3,a4,a5,a6,a7,a8],_=>
  refine eB h0 (eB h1 (eF rfl (eF rfl (eB s0 (eT (beT m0) (eB s1 (eT (beT m1) (eB s2 ?_))))))));rw[m2];rfl
theorem Q51:NY []=some [B true]:=by
 have n0:=ZA machX (aA:=[]) (by simp) Q32 true;have n1:=ZA machX (aA:=[B6]) (by simp) Z2b true;have z0:=Qqj n0.2 (gd0 []) (by omega) Q3f;have z1:=Qqj n1.2 (gd0 [B6]) (by omega) Q3f;have g1:Gd (kX [B6]) 1 Kc:=by
  have:=Zph n1.2 (gd0 [B6]) (by omega) [];rw[Q9g]at this;exact this
 have z2:=Qqj n1.2 g1 (by omega) (E:=[⟨0,4,0⟩]) ⟨by simp,λe h=>by simp at h;subst h;simp⟩;rw[Q9g]at z1;exact Zlh n0.1 n1.1 ⟨_,z0,(Q11 _ _ _ _).trans Z2g⟩ ⟨_,z1,rfl,by show(stC (kX [B6]) BW []).1=2;rw[st1]⟩ ⟨_,z2,(Q11 _ _ _ _).trans Zj9⟩
abbrev atE (E:List Evn) (k:Int):List Evn:=E.filter λe=>e.cycle==k
theorem Zhc {E:List Evn} {k:Int} {e:Evn} (h:e∈atE E k):e∈E:=(List.mem_filter.1 h).1
theorem Z5z (E:List Evn) (k:Int):(atE E k).length<=E.length:=List.length_filter_le _ _
structure Tk (K : Kf) (o : List AC) (c : Cv) (s : Int) (m : Pt) : Prop where
 ex:∃(pul outs:Rw) (mode sp ft:Int),o=HX pul outs mode s m sp ft++Ab K c
theorem gdK {K:Kf} (h:KOK K):Gd K 0 BW:=⟨rfl,⟨by decide,by simp⟩,λh=>(by cases h),Si h.plan,by decide⟩
structure Cm (c : Cv) : Prop where
 on:c.on=true->c.m1=0
 aI:c.aI≠0->c.m1=0
 aH:c.aH=false
structure Mt (c d : Cv) : Prop where
 m0:d.m0=c.m0
 m1:d.m1=c.m1
 m2:d.m2=c.m2
 aH:d.aH=c.aH
 g0:d.g0=c.g0
 g1:d.g1=c.g1
 g2:d.g2=c.g2
 o2:d.o2=c.o2
theorem Mt.rfl {c:Cv}:Mt c c:=⟨Eq.refl _,Eq.refl _,Eq.refl _,Eq.refl _,Eq.refl _,Eq.refl _,Eq.refl _,Eq.refl _⟩
theorem Mt.trans {a b c:Cv} (h:Mt a b) (g:Mt b c):Mt a c:=
 ⟨g.m0.trans h.m0,g.m1.trans h.m1,g.m2.trans h.m2,g.aH.trans h.aH,g.g0.trans h.g0,g.g1.trans h.g1,g.g2.trans h.g2,g.o2.trans h.o2⟩
theorem Zjc (K:Kf) (c:Cv):Mt c (GL K c).2:=by
 have done:∀d:Cv,Mt c d->Mt c (HN d):=λd k=>k.trans ⟨rfl,rfl,rfl,rfl,rfl,rfl,rfl,rfl⟩;have cmd:∀n' sp:Int,Mt c (I_ c n' sp):=λn' sp=>⟨rfl,rfl,rfl,rfl,rfl,rfl,rfl,rfl⟩;unfold GL;split
 ·split
  ·exact done c Mt.rfl
  ·exact Mt.rfl
 ·split
  ·exact done c Mt.rfl
  ·split
   ·split
    ·exact Mt.rfl
    ·exact done c Mt.rfl
   ·split
    ·split
     ·exact done _ (cmd _ _)
     ·exact cmd _ _
    ·split
     ·exact⟨rfl,rfl,rfl,rfl,rfl,rfl,rfl,rfl⟩
     ·exact done c Mt.rfl
theorem Q0k (K:Kf) (c:Cv):Mt c (Bx K c).2:=Mt.trans (b:=CT c) ⟨rfl,rfl,rfl,rfl,rfl,rfl,rfl,rfl⟩ (Zjc K _)
theorem Zba (K:Kf) (c:Cv) (i:Int):Mt c (E_ K c i).2:=Mt.trans (b:={c with on:=true,idx:=i,aN:=Gk K c i,cnt:=0}) ⟨rfl,rfl,rfl,rfl,rfl,rfl,rfl,rfl⟩ (Q0k K _)
structure Os (c d : Cv) : Prop where
 on:d.on=c.on
 aI:d.aI=c.aI
 aH:d.aH=c.aH
 gu:(d.g0=c.g0/\d.g1=c.g1/\d.g2=c.g2)\/(c.g0=0/\d.g0=1/\d.g1=18)
theorem Os.trans {a b c:Cv} (h:Os a b) (g:Os b c):Os a c:=by
 refine⟨g.on.trans h.on,g.aI.trans h.aI,g.aH.trans h.aH,?_⟩;rcases h.gu with⟨h0,h1,h2⟩|⟨h0,h1,h2⟩<;>rcases g.gu with⟨k0,k1,k2⟩|⟨k0,k1,k2⟩
 ·exact .inl ⟨k0.trans h0,k1.trans h1,k2.trans h2⟩
 ·exact .inr ⟨h0.symm.trans k0,k1,k2⟩
 ·exact .inr ⟨h0,k0.trans h1,k1.trans h2⟩
 ·omega
theorem Q4a {K:Kf} (h:KOK K) {n:Int} {c:Cv} (g:Gd K n c) (hn:0<=n/\n<=10000) {v:Int} (hv:(Bo K.pa K.pb v (wrap .i64 (v-c.m1))).2=true\/∃r:Int,v=wrap .i64 (c.m1+r)/\r=AI K.pa K.pb c.m1 c.m2):c.m0<=wrap .i64 (c.m0+v):=by
 have h0:=g.m0;have hr:=Ix h.plan (Jm.1 (Qyg h g.mo hv)).1;rw[Ae (by omega)];omega
theorem Y9 {K:Kf} (h:KOK K) {n:Int} {c:Cv} (g:Gd K n c) (hn:0<=n/\n<=10000) (l:Int):c.m0<=(Df K c l).m0:=Q4a h g hn (Tx h g l).2
theorem Qgs (c:Cv):(E2 c).m0=c.m0:=by unfold E2;split<;>rfl
theorem Qyh {K:Kf} (h:KOK K) {n:Int} {c:Cv} (g:Gd K n c) (hn:0<=n/\n<=10000) (l:Int) {s:Sgm} (hs:i64 s.lead):c.m0<=(Hx K c l s).m0:=by
 have gp:=Y9 h g hn l;unfold Hx;split
 ·exact gp
 ·unfold L4;split
  ·exact gp
  ·obtain⟨-,v,s',b,z,y,e,h2,h3⟩:=Qj1 h g l hs;have e1:gA (thO K c l s.lead) 1=v:=by rw[h2];rfl
   have up:=Q4a h g hn h3;have e2:(Lf c (thO K c l s.lead)).m0=wrap .i64 (c.m0+v):=by
    show wrap .i64 (c.m0+gA (thO K c l s.lead) 1)=_;rw[e1]
   split
   ·rw[Qgs,e2];exact up
   ·rw[e2];exact up
theorem Z26 {K:Kf} (h:KOK K) {n:Int} {c:Cv} (g:Gd K n c) (hn:0<=n/\n<=10000) (l:Int):c.m0<=(HM K c l).m0:=by
 unfold HM;split
 ·exact Y9 h g hn l
 ·rename_i hx;have hl:(sgK K c).lead≠0:=λe=>hx (.inl e);split
  ·exact Qyh h g hn l (GJ h hl).2.2
  ·split
   ·exact Qyh h (g.go (sgK K c)) hn l (GJ h hl).2.2
   ·split
    ·rw[Qgs];exact df _
    ·exact df _
theorem Z1m {K:Kf} (h:KOK K) {n:Int} {c:Cv} (g:Gd K n c) (hn:0<=n/\n<=10000):c.m0<=(DR K c).2.m0:=by
 unfold DR;split
 ·have b:=Zba K c (By K c).2;split
  ·split
   ·rw[Qgs,b.m0];exact df _
   ·rw[b.m0];exact df _
  ·split
   ·exact df _
   ·exact df _
 ·exact Z26 h g hn _
theorem Qzf {K:Kf} (h:KOK K) (c:Cv):OI (Ab K c)=some (Bj K.p++Ab K c):=by
 have h1:=h.f.p.count;have h2:=h.count;refine(Zoe K c).trans ?_;exact eT (CK (by rw[ag];omega)) (eT (CK (by rw[ag];omega)) rfl)
theorem Q60 {K:Kf} (h:KOK K) (c:Cv):Nv (Ab K c)=some (AW K.t++Ab K c):=by
 have h1:=h.f.t.q.count;refine(Zp1 K c).trans ?_;exact eT (CK (by rw[ag];omega)) rfl
def smA (k:Int):Rw->Int
 |[]=>0
 |r::l=>(if gA r 1=k then gA r 2 else 0)+smA k l
theorem LN (k:Int):∀l m:Rw,smA k (l++m)=smA k l+smA k m
 |[],m=>by show smA k m=0+smA k m;omega
 |r::l,m=>by
  show _+smA k (l++m)=_+smA k l+smA k m;rw[LN k l m];omega
theorem ZJ (a b:Int):wrap .i64 (wrap .i64 a+b)=wrap .i64 (a+b):=by simp only[Qj];omega
theorem Qvt {l:Rw} (hl:l.length<=1000000000000000):Oc [.view kPt l]=some [I (wrap .i64 (smA 0 l)),I (wrap .i64 (smA 1 l)),I (wrap .i64 (smA 2 l))]:=by
 have key:Out (λo=>o=(1,[I 0,I 0,I 0,I (wrap .i64 (smA 0 l)),I (wrap .i64 (smA 1 l)),I (wrap .i64 (smA 2 l))]))
   (An Um [.view kPt l,I (l.length:Int),I ((0:Nat):Int),I 0,I 0,I 0,I (wrap .i64 (smA 0 (l.take 0))),I (wrap .i64 (smA 1 (l.take 0))),I (wrap .i64 (smA 2 (l.take 0)))]):=by
  refine Cb (λi:Nat=>[.view kPt l,I (l.length:Int),I (i:Int),I 0,I 0,I 0,I (wrap .i64 (smA 0 (l.take i))),I (wrap .i64 (smA 1 (l.take i))),I (wrap .i64 (smA 2 (l.take i)))]) (λi=>i<=l.length) (λi=>l.length-i) _ ?_ 0 (Nat.zero_le _);intro i hi;rw[Zbx];unfold Pq;refine .cond (λc1=> ?_) λc1=> ?_
  ·have c1:=A6 c1;have hlt:i<l.length:=by omega
   refine .cond (λ_=> ?_) λe=>(inB (by omega) c1 e).elim;rw[ak,GF [] l i hlt,Ae (x:=(i:Int)+1) (by omega)];have st:∀k,smA k (l.take (i+1))=smA k (l.take i)+(if gA l[i] 1=k then gA l[i] 2 else 0):=λk=>by
    rw[List.take_add_one,ai hlt,LN];show _+((if gA l[i] 1=k then gA l[i] 2 else 0)+0)=_;omega
   have e0:=st 0;have e1:=st 1;have e2:=st 2;generalize gA l[i] 1=ax at*;generalize gA l[i] 2=v at*;have fin:∀{a b c:Int},a=wrap .i64 (smA 0 (l.take (i+1)))->b=wrap .i64 (smA 1 (l.take (i+1)))->c=wrap .i64 (smA 2 (l.take (i+1)))->
     Out (λo:Nat×List AC=>(o.1=0/\∃s':Nat,o.2=[.view kPt l,I (l.length:Int),I (s':Int),I 0,I 0,I 0,I (wrap .i64 (smA 0 (l.take s'))),I (wrap .i64 (smA 1 (l.take s'))),I (wrap .i64 (smA 2 (l.take s')))]/\s'<=l.length/\l.length-s'<l.length-i)\/(o.1≠0/\o=(1,[I 0,I 0,I 0,I (wrap .i64 (smA 0 l)),I (wrap .i64 (smA 1 l)),I (wrap .i64 (smA 2 l))])))
      (some (0,[.view kPt l,I (l.length:Int),I ((i:Int)+1),I 0,I 0,I 0,I a,I b,I c])):=λha hb hc=>by
    subst ha hb hc;exact .some (.inl ⟨rfl,i+1,rfl,by omega,by omega⟩)
   refine .cond (λg1=> .cond (λg2=> .cond (λg3=> ?_) λg3=> .cond (λg4=> ?_) λg4=> .cond (λg5=> ?_) λg5=> ?_) λg2=> ?_) λg1=> ?_
   ·have g3:ax=0:=A6 g3;refine .cond (λ_=>fin ?_ ?_ ?_) λe=>absurd g3 (A2 e)
    ·rw[e0,aa g3,ZJ]
    ·rw[e1,ab (by omega),dc]
    ·rw[e2,ab (by omega),dc]
   ·have g3: ¬ax=0:=A2 g3;have g4:ax=1:=A6 g4;refine .cond (λe=>absurd (A6 e) g3) λ_=> .cond (λ_=>fin ?_ ?_ ?_) λe=>absurd g4 (A2 e)
    ·rw[e0,ab (by omega),dc]
    ·rw[e1,aa g4,ZJ]
    ·rw[e2,ab (by omega),dc]
   ·have g3: ¬ax=0:=A2 g3;have g4: ¬ax=1:=A2 g4;have g5:ax=2:=A6 g5;refine .cond (λe=>absurd (A6 e) g3) λ_=> .cond (λe=>absurd (A6 e) g4) λ_=> .cond (λ_=>fin ?_ ?_ ?_) λe=>absurd g5 (A2 e)
    ·rw[e0,ab (by omega),dc]
    ·rw[e1,ab (by omega),dc]
    ·rw[e2,aa g5,ZJ]
   ·have g1:ax>=0:=A6 g1;have g2:ax<3:=A6 g2;have g3: ¬ax=0:=A2 g3;have g4: ¬ax=1:=A2 g4;have g5: ¬ax=2:=A2 g5;omega
   ·have g2: ¬ax<3:=A2 g2;refine fin ?_ ?_ ?_
    ·rw[e0,ab (by omega),dc]
    ·rw[e1,ab (by omega),dc]
    ·rw[e2,ab (by omega),dc]
   ·have g1: ¬ax>=0:=A2 g1;refine fin ?_ ?_ ?_
    ·rw[e0,ab (by omega),dc]
    ·rw[e1,ab (by omega),dc]
    ·rw[e2,ab (by omega),dc]
  ·have c1:=A2 c1;have e:i=l.length:=by omega
   subst e;rw[List.take_length];exact .some (.inr ⟨by simp,rfl⟩)
 obtain⟨o,h1,rfl⟩:=key;show Qjz (An Um) _=_;rw[Z28];exact eB h1 (eT rfl rfl)
theorem Z3v {w v:Pt} (u:Int) (hw:w.x.natAbs<=3000000000/\w.y.natAbs<=3000000000/\w.z.natAbs<=3000000000) (hv:v.x.natAbs<=3000000000/\v.y.natAbs<=3000000000/\v.z.natAbs<=3000000000):
  smA 0 (Jl w v u)=v.x-w.x/\smA 1 (Jl w v u)=v.y-w.y/\smA 2 (Jl w v u)=v.z-w.z:=by
 have one:∀(k j a b:Int),a.natAbs<=3000000000->b.natAbs<=3000000000->smA k (bif a !=b then [[I u,I j,I (wrap .i64 (a-b))]]else [])=if j=k then a-b else 0:=λk j a b ha hb=>by
  by_cases h:a=b
  ·rw[bnF h,h];show(0:Int)=_;split<;>omega
  ·rw[bnT h];show(if j=k then wrap .i64 (a-b)else 0)+0=_;rw[Ae (by omega)];omega
 unfold Jl;refine⟨?_,?_,?_⟩<;>rw[LN,LN,one _ _ _ _ hv.1 hw.1,one _ _ _ _ hv.2.1 hw.2.1,one _ _ _ _ hv.2.2 hw.2.2]<;>simp
theorem Qvo {M:Int->Pt} (hM:∀u,(M u).x.natAbs<=3000000000/\(M u).y.natAbs<=3000000000/\(M u).z.natAbs<=3000000000) (f:Int):∀n:Nat,smA 0 (Dz M f n)=(M (f+n)).x-(M f).x/\smA 1 (Dz M f n)=(M (f+n)).y-(M f).y/\smA 2 (Dz M f n)=(M (f+n)).z-(M f).z
 |0=>by
  have e:f+((0:Nat):Int)=f:=by omega
  rw[e];exact⟨(Int.sub_self _).symm,(Int.sub_self _).symm,(Int.sub_self _).symm⟩
 |n+1=>by
  have ih:=Qvo hM f n;have hp:=Z3v (f+n+1) (hM (f+n)) (hM (f+n+1));have e:f+((n+1:Nat):Int)=f+n+1:=by omega
  rw[e];show smA 0 (Dz M f n++_)=_/\smA 1 (Dz M f n++_)=_/\smA 2 (Dz M f n++_)=_;rw[LN,LN,LN,ih.1,ih.2.1,ih.2.2,hp.1,hp.2.1,hp.2.2];exact⟨by omega,by omega,by omega⟩
theorem Qt8 {p:Pth} {x:Ax3} {t:Trk} (h:TQ t) (u:Int):Bg p x t (clp t u)=Bg p x t u:=by
 have e:clp t u=clT t u:=by
  unfold clp mx mn clT Bq
  (repeat' split)<;>omega
 rw[e];unfold Bg shT;rw[Qsy h,Z5 h];have e2:iT t (clT t u)=iT t u:=by unfold iT;rw[Z5 h]
 rw[e2]
theorem Zpk {K:Kf} (h:KOK K) {a b:Int} (hab:a<=b):smA 0 (JD (Bg K.p K.x K.t) K.t a b)=(Bg K.p K.x K.t b).x-(Bg K.p K.x K.t a).x/\smA 1 (JD (Bg K.p K.x K.t) K.t a b)=(Bg K.p K.x K.t b).y-(Bg K.p K.x K.t a).y/\
  smA 2 (JD (Bg K.p K.x K.t) K.t a b)=(Bg K.p K.x K.t b).z-(Bg K.p K.x K.t a).z:=by
 have hl:=h.f.t.q.len;have hm:=Sw hl.1 hab;have:=Qvo (V0 h.f.p h.f.x h.f.t) (clp K.t a) (clp K.t b-clp K.t a).toNat;have e:clp K.t a+((clp K.t b-clp K.t a).toNat:Int)=clp K.t b:=by omega
 rw[e,Qt8 h.f.t.q,Qt8 h.f.t.q]at this;exact this
structure Dr (K : Kf) (n : Int) (c : Cv) : Prop where
 k:KOK K
 g:Ga K n c
 l:FM K
 m0:0<=c.m0
theorem Qh {K:Kf} {c d:Cv} (h:d.m0=c.m0):AM K d=AM K c:=by
 show Bg K.p K.x K.t (wrap .i64 (d.m0.tdiv 256))=Bg K.p K.x K.t (wrap .i64 (c.m0.tdiv 256));rw[h]
theorem Q5g {K:Kf} (h:KOK K) (hl:FM K) {c d:Cv} (hb:Er K c=true) (to:Int) (h0:d.m0=0):AM (sT K (Do K c to)) d=AM K c/\FM (sT K (Do K c to)):=by
 have t:=Zcq h hl hb to;refine⟨?_,t.2⟩;have e:AM (sT K (Do K c to)) d=Bg K.p K.x (Do K c to) (wrap .i64 (d.m0.tdiv 256)):=rfl;rw[e,h0];exact t.1
def EvQ (s q:Kf×Cv):Prop:=AM q.1 q.2=AM s.1 s.2/\FM q.1/\0<=q.2.m0/\q.2.aL=s.2.aL
theorem Zi5 {c d:Cv} (h:E8 c d):d.m0=c.m0/\d.aL=c.aL:=by
 rcases h with rfl|⟨a,-,rfl⟩
 ·exact⟨rfl,rfl⟩
 ·exact⟨rfl,rfl⟩
theorem Zi6 {K:Kf} {c:Cv} {n:Int} (h:Fj K c n=true):Er K c=true:=by
 unfold Fj at h;rw[aj]at h;exact h.2
theorem Zk7 {K:Kf} (h:KOK K) (hl:FM K) {c:Cv} (h0:0<=c.m0) (m:Int):EvQ (K,c) (Ec K c m):=by
 unfold Ec;by_cases hb:Fj K c m=true
 ·rw[aa hb];have t:=Q5g h hl (Zi6 hb) (PB K c m) (d:={zM c with o2:=false,way:=1,home:=AG K c}) rfl;exact⟨t.1,t.2,df _,rfl⟩
 ·rw[ab hb];exact⟨rfl,hl,h0,rfl⟩
theorem Z1e {s:Kf×Cv} (h:KOK s.1) (hl:FM s.1) (h0:0<=s.2.m0) (k m:Int) (hm:m<=4194304):EvQ s (evA s k m):=by
 have sm:=Qip s.2 k m;have e0:0<=(evC s.2 k m).m0:=by rw[sm.m0];exact h0
 have key:EvQ (s.1,evC s.2 k m) (evA s k m):=by
  unfold evA;generalize evC s.2 k m=d at*;by_cases h1:k=13
  ·rw[aa h1];have:=Zi5 (Qca h d hm).2;exact⟨Qh this.1,hl,by show 0<=(KW s.1 d m).m0;rw[this.1];exact e0,this.2⟩
  ·rw[ab h1];by_cases h2:k=12
   ·rw[aa h2];have t:∀b:Bool,EvQ (s.1,d) (s.1,{d with aH:=b}):=λb=>⟨Qh rfl,hl,e0,rfl⟩;exact t _
   ·rw[ab h2];by_cases h3:k=7
    ·rw[aa h3];exact Zk7 h hl e0 m
    ·rw[ab h3];exact⟨rfl,hl,e0,rfl⟩
 exact⟨key.1.trans (Qh sm.m0),key.2.1,key.2.2.1,key.2.2.2.trans sm.kp.aL⟩
theorem Qsl:∀(E:List Evn) {s:Kf×Cv},(∀e∈E,e.n<=4194304)->KOK s.1->FM s.1->0<=s.2.m0->EvQ s (E.foldl (λs e=>evA s e.kind e.n) s)
 |[],_,_,_,hl,h0=>⟨rfl,hl,h0,rfl⟩
 |e::E,s,hE,h,hl,h0=>by
  have a:=Z1e h hl h0 e.kind e.n (hE e (by simp));have b:=Qsl E (s:=evA s e.kind e.n) (λx hx=>hE x (by simp[hx])) (WI h _ _) a.2.1 a.2.2.1;exact⟨b.1.trans a.1,b.2.1,b.2.2.1,b.2.2.2.trans a.2.2.2⟩
theorem Q79 {K:Kf} {n m:Int} {c d:Cv} (gc:Ga K n c) {L:Kf} (gd:Ga L m d) (hn:0<=n/\n<=10000) (hm:0<=m/\m<=10000) (h0:0<=c.m0) (h:c.m0<=d.m0):Aw c<=Aw d:=by
 have h1:=gc.m0;have h2:=gd.m0;show wrap .i64 (c.m0.tdiv 256)<=wrap .i64 (d.m0.tdiv 256);rw[bc h0,bc (by omega),Ae (by omega),Ae (by omega)];omega
def CyQ (K:Kf) (c:Cv) (L:Kf) (d:Cv):Prop:=(d.aL=true/\AM L d=AM K c/\FM L/\d.m0=0)\/(d.aL=false/\L=K/\Aw c<=Aw d/\0<=d.m0)
theorem Zcj (K:Kf) (c:Cv):(Bx K c).2.aL=c.aL:=by
 unfold Bx GL
 (repeat' split)<;>rfl
theorem Zdb {K:Kf} {n:Int} {c:Cv} (r:Dr K n c) (hn:0<=n/\n<=9999) (hc:c.aL=false):CyQ K c (Cd K c).2.1 (Cd K c).2.2:=by
 have same:∀{d:Cv},d.m0=c.m0->d.aL=c.aL->CyQ K c K d:=fun{d} h1 h2=> .inr ⟨h2.trans hc,rfl,by
  show wrap .i64 (c.m0.tdiv 256)<=wrap .i64 (d.m0.tdiv 256);rw[h1];exact df _,by rw[h1];exact r.m0⟩
 unfold Cd;by_cases h1:(Bu K c).1≠0
 ·rw[aa h1];unfold Bu;by_cases h2:c.g0=2
  ·rw[aa h2];have gs:=(r.g.w0.stand r.k (by omega)).2;have e:Aw (stand c)=Aw c:=gs;refine .inr ⟨hc,rfl,Int.le_of_eq e.symm,?_⟩;have hm:=r.g.m0;have h0:=r.m0;show 0<=wrap .i64 (wrap .i64 (c.m0.tdiv 256)*256);rw[bc h0,Ae (x:=c.m0/256) (by omega),Ae (by omega)];omega
  ·rw[ab h2];by_cases h3:c.aI≠0
   ·rw[aa h3];exact same rfl rfl
   ·rw[ab h3];by_cases h4:c.aH=true/\c.aM=true
    ·rw[aa h4];exact same rfl rfl
    ·rw[ab h4];by_cases h5:c.on=true
     ·rw[aa h5];exact same (Q0k K c).m0 (Zcj K c)
     ·rw[ab h5];exact same rfl rfl
 ·rw[ab h1];by_cases h2:c.way≠0
  ·rw[aa h2];unfold DD;by_cases h3:c.aM=true/\c.m0=wrap .i64 (K.t.length*256)
   ·rw[aa h3];by_cases h4:Er K c=true
    ·rw[aa h4];have t:=Q5g r.k r.l h4 (toC K c) (d:=tdC c) rfl;exact .inl ⟨rfl,t.1,t.2,rfl⟩
    ·rw[ab h4];exact same rfl rfl
   ·rw[ab h3];have up:c.m0<=(Df K c K.t.length).m0:=Y9 r.k r.g.w0 (by omega) K.t.length;refine .inr ⟨hc,rfl,?_,Int.le_trans r.m0 up⟩;exact Q79 r.g (Qwg r.k r.g (by omega) K.t.length) (by omega) (by omega) r.m0 up
  ·rw[ab h2];exact same rfl rfl
theorem Z47 {K:Kf} {n:Int} {c:Cv} (r:Dr K n c) (hn:0<=n/\n<=9999) {E:List Evn} (hE:EvE E):
  CyQ (A9 K c E).1 (A9 K c E).2 (stA K c E).2.1 (stA K c E).2.2/\Dr (A9 K c E).1 n (A9 K c E).2/\AM (A9 K c E).1 (A9 K c E).2=AM K c/\Aw (Bt K c E).2=Aw (A9 K c E).2:=by
 have ev:=Qsl E (s:=(K,F_ c)) hE.2 r.k r.l r.m0;have ev:EvQ (K,F_ c) (Bt K c E):=ev;have sm:=Q0n (Bt K c E).1 (Bt K c E).2;have sm:Sm (Bt K c E).2 (A9 K c E).2:=sm;have hp:KOK (A9 K c E).1:=OR r.k c E;have gp:=Xu r.k hn.1 r.g hE;have hd:Dr (A9 K c E).1 n (A9 K c E).2:=⟨hp,gp,ev.2.1,by rw[sm.m0];exact ev.2.2.1⟩;have hc:(A9 K c E).2.aL=false:=sm.kp.aL.trans ev.2.2.2;have hm:AM (A9 K c E).1 (A9 K c E).2=AM K c:=(Qh sm.m0).trans ev.1;refine⟨?_,hd,hm,?_⟩
 ·unfold stA;generalize A9 K c E=p at*;by_cases h1:(Cd p.1 p.2).1=0
  ·rw[aa h1];obtain⟨hw,e⟩:=Pv h1;rw[e];have gr:=Qnr hp (gp.gd hw) (by omega);have up:=Z1m hp (gp.gd hw) (by omega);exact .inr ⟨gr.2.aL.trans hc,rfl,Q79 gp gr.1.ga (by omega) (by omega) hd.m0 up,Int.le_trans hd.m0 up⟩
  ·rw[ab h1];exact Zdb hd hn hc
 ·show wrap .i64 ((Bt K c E).2.m0.tdiv 256)=wrap .i64 ((A9 K c E).2.m0.tdiv 256);rw[sm.m0]
theorem Zca (K:Kf) (c:Cv) (s:Int):(G8 K c s).2.m0=c.m0:=by
 unfold G8;split
 ·obtain⟨m,q,e⟩:=Rj K c s;rw[e]
 ·rfl
theorem Z6i {K:Kf} {n:Int} {c:Cv} (r:Dr K n c) (hn:0<=n/\n<=9999) {E:List Evn} (hE:EvE E):
  Dr (Fa K c E).1 (n+1) (Fa K c E).2/\AM (Fa K c E).1 (Fa K c E).2=AM (stA K c E).2.1 (stA K c E).2.2/\
  ((IG (stA K c E).2.1 (stA K c E).2.2 (Aw (Bt K c E).2)).length <= 10000000000000 /\ smA 0 (IG (stA K c E).2.1 (stA K c E).2.2 (Aw (Bt K c E).2)) = (AM (stA K c E).2.1 (stA K c E).2.2).x - (AM K c).x /\
   smA 1 (IG (stA K c E).2.1 (stA K c E).2.2 (Aw (Bt K c E).2))=(AM (stA K c E).2.1 (stA K c E).2.2).y-(AM K c).y/\smA 2 (IG (stA K c E).2.1 (stA K c E).2.2 (Aw (Bt K c E).2))=(AM (stA K c E).2.1 (stA K c E).2.2).z-(AM K c).z):=by
 obtain⟨cy,dp,hm,hu⟩:=Z47 r hn hE;have hk:=Tz r.k c E;have hg:=Qk8 r.k r.g (by omega) hE;have pm:=Zca (stA K c E).2.1 (stA K c E).2.2 (AG (stA K c E).2.1 (stA K c E).2.2);have hm2:AM (Fa K c E).1 (Fa K c E).2=AM (stA K c E).2.1 (stA K c E).2.2:=Qh (K:=(stA K c E).2.1) pm;have hl:FM (stA K c E).2.1/\0<=(stA K c E).2.2.m0:=by
  rcases cy with⟨-,-,c3,c4⟩|⟨-,c2,-,c4⟩
  ·exact⟨c3,by rw[c4];exact df _⟩
  ·exact⟨by rw[c2];exact dp.l,c4⟩
 refine⟨⟨Zq0 r.k c E,Zpo r.k r.g (by omega) hE,hl.1,by show 0<=(G8 _ _ _).2.m0;rw[pm];exact hl.2⟩,hm2,?_⟩;rw[hu,<-hm];have hb1:=R7 dp.g (by omega);have hb2:=R7 hg (by omega);generalize A9 K c E=p at*;generalize(stA K c E).2=q at*;unfold IG;rcases cy with⟨c1,c2,-,-⟩|⟨c1,c2,c3,-⟩
 ·rw[aa c1,c2];exact⟨Nat.zero_le _,(Int.sub_self _).symm,(Int.sub_self _).symm,(Int.sub_self _).symm⟩
 ·rw[ab (by rw[c1];simp),Za7 hk (by omega)];have bl:=Zhf (M:=Bg q.1.p q.1.x q.1.t) hk.f.t.q.len.1 c3;have bs:=Zpk hk c3;rw[<-c2];exact⟨by omega,bs⟩
theorem Zw4 (a b:Int):wrap .i64 (a+wrap .i64 b)=wrap .i64 (a+b):=by simp only[Qj];omega
theorem Zyl {MU MS MA M3 M4 M5 M6 M7 M8 M9 M10 M11 M12:Fn} {K:Kf} {E:List Evn} (h:KOK K) (hl:FM K) (hE:E.length<=60) (hn:∀e∈E,e.n<=4194304)
  (hA:∀k,MA [.view kPt (E.map evR),I k]=some [.view kPt ((atE E k).map evR)]) (hU:∀l:Rw,l.length<=1000000000000000->MU [.view kPt l]=some [I (wrap .i64 (smA 0 l)),I (wrap .i64 (smA 1 l)),I (wrap .i64 (smA 2 l))])
  (hS:∀(K:Kf) (_:KOK K) (c:Cv) (n:Int) (E:List Evn),Ga K n c->0<=n/\n<=10000->EvE E->MS (.view kPt (E.map evR)::Ab K c)=some (tkA K c E++Ab (Fa K c E).1 (Fa K c E).2)):
  Out (λo=>o=(2,[])) (An (R1 MU MS MA M3 M4 M5 M6 M7 M8 M9 M10 M11 M12) (.view kPt (E.map evR)::I ((0:Nat):Int)::I (AM K BW).x::I (AM K BW).y::I (AM K BW).z::Ab K BW)):=by
 refine Cb (λs:Nat×Kf×Cv=> .view kPt (E.map evR)::I (s.1:Int)::I (AM s.2.1 s.2.2).x::I (AM s.2.1 s.2.2).y::I (AM s.2.1 s.2.2).z::Ab s.2.1 s.2.2)
  (λs=>s.1<=120/\Dr s.2.1 s.1 s.2.2) (λs=>120-s.1) _ ?_ (0,K,BW) ⟨Nat.zero_le _,h,(gdK h).ga,hl,df _⟩
 rintro⟨k,L,c⟩ ⟨h2,r⟩;dsimp only at h2 r;refine Out.eqv (Zwe MU MS MA M3 M4 M5 M6 M7 M8 M9 M10 M11 M12 (E.map evR) k _ _ _ L c) ?_;refine .cond (λc1=> ?_) λ_=> .some (.inr ⟨by simp,rfl⟩);have c1:(k:Int)<120:=A6 c1;refine .bind (p:=λo=>o=_) ⟨_,hA k,rfl⟩ λo e=> ?_;subst e;have ev:EvE (atE E k):=⟨by have:=Z5z E k;omega,λe he=>hn e (Zhc he)⟩;have ds:=Z6i r (by omega) ev;have b1:=V0 r.k.f.p r.k.f.x r.k.f.t (Aw c);have hk:=Tz r.k c (atE E k);have b2:=V0 hk.f.p hk.f.x hk.f.t (Aw (stA L c (atE E k)).2.2);refine .bind (p:=λo=>o=_) ⟨_,hS L r.k c k (atE E k) r.g (by omega) ev,rfl⟩ λo e=> ?_;subst e;obtain⟨d1,d2,d3,d4,d5,d6⟩:=ds;have ht:∃b m s sp f,tkA L c (atE E k)=[AC.view kPt (IG (stA L c (atE E k)).2.1 (stA L c (atE E k)).2.2 (Aw (Bt L c (atE E k)).2)), .view Aa b,I m,I s,I (AM (stA L c (atE E k)).2.1 (stA L c (atE E k)).2.2).x,I (AM (stA L c (atE E k)).2.1 (stA L c (atE E k)).2.2).y,I (AM (stA L c (atE E k)).2.1 (stA L c (atE E k)).2.2).z,I sp,I f]:=⟨_,_,_,_,_,rfl⟩;obtain⟨b,m,s,sp,f,et⟩:=ht;rw[et];have b1:(AM L c).x.natAbs<=3000000000/\(AM L c).y.natAbs<=3000000000/\(AM L c).z.natAbs<=3000000000:=b1;have b2:(AM (stA L c (atE E k)).2.1 (stA L c (atE E k)).2.2).x.natAbs<=3000000000/\(AM (stA L c (atE E k)).2.1 (stA L c (atE E k)).2.2).y.natAbs<=3000000000/\(AM (stA L c (atE E k)).2.1 (stA L c (atE E k)).2.2).z.natAbs<=3000000000:=b2;generalize IG (stA L c (atE E k)).2.1 (stA L c (atE E k)).2.2 (Aw (Bt L c (atE E k)).2)=pl at*;rw[<-d2]at d4 d5 d6 b2⊢;generalize Fa L c (atE E k)=q at*;refine .bind (p:=λo=>o=_) ⟨_,hU pl (by omega),rfl⟩ λo e=> ?_;subst e;have add:∀{v w s:Int},v.natAbs<=3000000000->w.natAbs<=3000000000->s=w-v->wrap .i64 (v+wrap .i64 s)=w:=λh1 h2 h3=>by
  rw[h3,Zw4,Ae (by omega)];omega
 have a0:=add b1.1 b2.1 d4;have a1:=add b1.2.1 b2.2.1 d5;have a2:=add b1.2.2 b2.2.2 d6;refine .cond (λe=> ?_) λ_=> ?_
 ·have e:(!((AM q.1 q.2).x==wrap .i64 ((AM L c).x+wrap .i64 (smA 0 pl))&&((AM q.1 q.2).y==wrap .i64 ((AM L c).y+wrap .i64 (smA 1 pl))&&((AM q.1 q.2).z==wrap .i64 ((AM L c).z+wrap .i64 (smA 2 pl))&&true))))=true:=e;rw[a0,a1,a2]at e;simp at e
 ·have e1:wrap .i64 ((k:Int)+1)=((k+1:Nat):Int):=by rw[Ae (by omega)];omega
  refine .some (.inl ⟨rfl,(k+1,q.1,q.2),?_,⟨by dsimp only;omega,?_⟩,by dsimp only;omega⟩)
  ·show _= .view kPt (E.map evR)::I ((k+1:Nat):Int)::I (AM q.1 q.2).x::I (AM q.1 q.2).y::I (AM q.1 q.2).z::Ab q.1 q.2;rw[<-e1,<-a0,<-a1,<-a2];rfl
  ·have:(k:Int)+1=((k+1:Nat):Int):=by omega
   rw[<-this];exact d1
theorem Zz0 {x0 x1 x2:Rw} (h0:Src x0) (h1:Src x1) (h2:Src x2) (hl:x2.length<=100000) {most:Int} (hm:most<=12) (fin:Bool) (closed:Bool):
  ∃K:Kf,KOK K/\FM K/\Mk [.view Aa x1, .view Aa x2]=some (AK K.x++[I K.pa,I K.pb,I K.pc,I K.ramp,I K.lag])/\KN [.view Aa x0,I most,B fin]=some [.view Aj (K.aA.map Ah)]/\
   H5 (AK K.x++[I K.pa,I K.pb,I K.pc,I K.ramp,I K.lag]++[.view Aj (K.aA.map Ah),B closed])=some (I 0::Ab K BW):=by
 obtain⟨x,a,b,c,ramp,lag,hQ,hM⟩:=Zmk h1 h2 hl;obtain⟨p,aA,hI,hit,hlen,-⟩:=Zj7 h0 (most:=most) (by omega) fin;have hn:=ZA hM (aA:=aA) (by omega) hit closed;exact⟨kfP x a b c ramp lag aA closed,hn.2,⟨⟨1,1,1⟩,0,AJ (Bc aA).aF,⟨.inl rfl, .inl rfl, .inl rfl⟩,rfl⟩,hQ,hI,hn.1⟩
theorem Q19 {MU MS MA MT MK MP MN ME MI MD MQ MF MV:Fn} {K:Kf} {E:List Evn} {x0 x1 x2 x3:Rw} {x4 m:Int} (hE:E.length<=60) (hn:∀e∈E,e.n<=4194304)
  (hV:MV []=some [B true]) {q:Bool} (hF:MF [.view Aa x0, .view Aa x1, .view Aa x2, .view Aa x3]=some [B q])
  (hyp : q = true -> KOK K /\ FM K /\ MQ [.view Aa x1, .view Aa x2] = some (AK K.x ++ [I K.pa, I K.pb, I K.pc, I K.ramp, I K.lag]) /\ MD [I x4, I 7] = some [I m] /\ MI [.view Aa x0, I m, B true] = some [.view Aj (K.aA.map Ah)] /\
   ME [.view Aa x3]=some [.view kPt (E.map evR)]/\MN (AK K.x++[I K.pa,I K.pb,I K.pc,I K.ramp,I K.lag]++[.view Aj (K.aA.map Ah),B true])=some (I 0::Ab K BW))
  (hA:∀(E:List Evn) (k:Int),E.length<=60->MA [.view kPt (E.map evR),I k]=some [.view kPt ((atE E k).map evR)]) (hU:∀l:Rw,l.length<=1000000000000000->MU [.view kPt l]=some [I (wrap .i64 (smA 0 l)),I (wrap .i64 (smA 1 l)),I (wrap .i64 (smA 2 l))])
  (hP:∀(K:Kf) (_:KOK K) (c:Cv),MP (Ab K c)=some (Bj K.p++Ab K c)) (hT:∀(K:Kf) (_:KOK K) (c:Cv),MK (Ab K c)=some (AW K.t++Ab K c)) (hM:KOK K->∀u,MT (pxt K.p K.x K.t [I u])=some (ptR (Bg K.p K.x K.t u)))
  (hS:∀(K:Kf) (_:KOK K) (c:Cv) (n:Int) (E:List Evn),Ga K n c->0<=n/\n<=10000->EvE E->MS (.view kPt (E.map evR)::Ab K c)=some (tkA K c E++Ab (Fa K c E).1 (Fa K c E).2)):
  Yw MU MS MA MT MK MP MN ME MI MD MQ MF MV (An (R1 MU MS MA MT MK MP MN ME MI MD MQ MF MV)) [.view Aa x0, .view Aa x1, .view Aa x2, .view Aa x3,I x4]=some [B true]:=by
 rw[Zqd];refine eB hV (eF rfl (eB hF ?_));cases q
 ·rfl
 obtain⟨h,hl,hQ,hD,hI,hE',hN⟩:=hyp rfl;refine eF rfl (eB hQ (eB hD (eB hI (eB hE' (eB hN (eF rfl (eB (hP K h BW) (eB (hT K h BW) ?_))))))));obtain⟨o,h1,rfl⟩:=Zyl (MU:=MU) (MS:=MS) (MA:=MA) (M3:=MT) (M4:=MK) (M5:=MP) (M6:=MN) (M7:=ME) (M8:=MI) (M9:=MD) (M10:=MQ) (M11:=MF) (M12:=MV) h hl hE hn (λk=>hA E k hE) hU hS;have hM:=hM h 0;have e0:AM K BW=Bg K.p K.x K.t 0:=rfl;rw[e0]at h1;generalize Bg K.p K.x K.t 0=mt at*;exact eB hM (eB h1 (eF rfl (eT rfl rfl)))
theorem Z4o {x0 x1 x2 x3:Rw} {x4:Int} (h0:Src x0) (h1:Src x1) (h2:Src x2) (h3:Src x3) (h4:i64 x4):
  Q7c [.view Aa x0, .view Aa x1, .view Aa x2, .view Aa x3,I x4]=some [B true]:=by
 obtain⟨q,hF,hq⟩:=Zkp x0 x1 x2 x3;cases q
 ·exact Q19 (K:=kX []) (E:=[]) (m:=0) (MS:=HR) (MA:=K3) (by simp) (by simp) Q51 hF (λh=>by cases h) (λE k hE=>Qqv (by omega) k) (λl hl=>Qvt hl) (λK h c=>Qzf h c) (λK h c=>Q60 h c) (λh=>Ki h.f) (λK h c n E g hn hE=>Q7s h g hn hE)
 ·obtain⟨l0,l1,l2,l3⟩:=hq rfl;have hm:0<=x4%7/\x4%7<7:=⟨Int.emod_nonneg _ (by decide),Int.emod_lt_of_pos _ (by decide)⟩;obtain⟨K,hK,hL,hQ,hI,hN⟩:=Zz0 h0 h1 h2 (by omega) (most:=x4%7) (by omega) true true;obtain⟨E,hV,hE,hok⟩:=Zt5 h3 l3;exact Q19 (K:=K) (E:=E) hE (λe he=>(hok e he).n.2) Q51 hF (λ_=>⟨hK,hL,hQ,Q28 h4 (by omega),hI,hV,hN⟩) (λE k hE=>Qqv (by omega) k) (λl hl=>Qvt hl) (λK h c=>Qzf h c) (λK h c=>Q60 h c) (λh=>Ki h.f) (λK h c n E g hn hE=>Q7s h g hn hE)
theorem Quf {r:List AC} (h:okR Aa r):i64 (Af (nth .dead r 0)):=by
 match r,h with
 |[],h=>exact h.elim
 |a::_,h=>exact Zmm h.1
theorem TW {r:List AC} (h:okR [Kd.sl Aa] r):Src (BS (nth .dead r 0)):=by
 match r,h with
 |[],h=>exact h.elim
 |a::_,h=>
  have h1:=h.1;unfold okC at h1;refine⟨?_,λc hc=>Quf (h1.2 c hc).1⟩;have h2:=h1.1;simp only[maxLen]at h2;show(BS a).length<=_;omega
end Go.Bm
