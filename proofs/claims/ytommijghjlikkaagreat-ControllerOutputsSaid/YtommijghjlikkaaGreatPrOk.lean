/- laid together -/
import Derived.Test.YtommijghjlikkaaGreatPrWb
import Derived.Test.YtommijghjlikkaaGreatPrLc
import Derived.Test.YtommijghjlikkaaGreatMy1
import Derived.Test.YtommijghjlikkaaGreatMx3
import Derived.Test.YtommijghjlikkaaGreatPrTk
import Derived.Test.YtommijghjlikkaaGreatPrPg
set_option linter.unusedVariables false
set_option linter.unusedSimpArgs false
set_option maxRecDepth 100000
noncomputable section
open Go.IntKind (wrap)
namespace Go.Bm
open Classical
structure Ga (K : Kf) (n : Int) (c : Cv) : Prop where
 way:c.way=0\/c.way=1\/c.way=2
 pass:0<=c.aJ/\c.aJ<=K.p.aC.length
 task:c.on=true->0<=c.idx/\c.idx<K.p.aC.length
 mo:Mo K c
 m0: -(16777216*n)<=c.m0/\c.m0<=16777216*n
theorem Ga.gd {K:Kf} {n:Int} {c:Cv} (g:Ga K n c) (h:c.way=0):Gd K n c:=⟨h,g.pass,g.task,g.mo,g.m0⟩
theorem Gd.ga {K:Kf} {n:Int} {c:Cv} (g:Gd K n c):Ga K n c:=⟨.inl g.way,g.pass,g.task,g.mo,g.m0⟩
def w0 (c:Cv):Cv:={c with way:=0}
theorem Ga.w0 {K:Kf} {n:Int} {c:Cv} (g:Ga K n c):Gd K n (Go.Bm.w0 c):=⟨rfl,g.pass,g.task,g.mo,g.m0⟩
theorem Ga.up {K:Kf} {n:Int} {c:Cv} (g:Ga K n c) (D:0<=n):Ga K (n+1) c:=⟨g.way,g.pass,g.task,g.mo,by have:=g.m0;omega⟩
def BG (K:Kf) (c:Cv) (E:List Evn):Kf×Cv:=E.foldl (λs e=>evA s e.kind e.n) (K,FO c)
def EvE (E:List Evn):Prop:=E.length<=1000000/\∀e∈E,e.n<=4194304
theorem Q57 {K:Kf} (h:KOK K) (c:Cv) (n:Int):KOK (C5 K c n).1:=by
 unfold C5;split
 ·exact h.sT (Q8i h c _)
 ·exact h
theorem Qtg {s:Kf×Cv} (h:KOK s.1) (k n:Int):KOK (evA s k n).1:=by
 unfold evA;split
 ·exact h
 ·split
  ·exact h
  ·split
   ·exact Q57 h _ _
   ·exact h
theorem Zcf:∀(E:List Evn) {s:Kf×Cv},KOK s.1->KOK (E.foldl (λs e=>evA s e.kind e.n) s).1
 |[],_,h=>h
 |e::E,_,h=>Zcf E (Qtg h e.kind e.n)
theorem RK {K:Kf} (h:KOK K) (c:Cv) (E:List Evn):KOK (BG K c E).1:=Zcf E h
theorem Zrl {L M D N O S T U V X Y G:Fn} {K:Kf} {c:Cv} {E:List Evn} (hE:EvE E) (h:KOK K)
  (hV:∀{K:Kf} (_:KOK K) (c:Cv) (x k:Int) {n:Int},n<=4194304->G (I x::I k::I n::Ab K c)=some (Ab (evA (K,c) k n).1 (evA (K,c) k n).2)):
  Al (Nq L M D N O S T U V X Y G) (.view kPt (E.map evR)::I (E.map evR).length::I 0::(B9++Ab K (FO c)))=some (1,B9++Ab (BG K c E).1 (BG K c E).2):=by
 have key:Out (λo=>o=(1,B9++Ab (BG K c E).1 (BG K c E).2)) (Al (Nq L M D N O S T U V X Y G) (.view kPt (E.map evR)::I (E.map evR).length::I ((0:Nat):Int)::(B9++Ab (BG K c (E.take 0)).1 (BG K c (E.take 0)).2))):=by
  refine Cl (λi:Nat=> .view kPt (E.map evR)::I (E.map evR).length::I (i:Int)::(B9++Ab (BG K c (E.take i)).1 (BG K c (E.take i)).2)) (λi=>i<=E.length) (λi=>E.length-i) _ ?_ 0 (by simp);intro i J;have hl:=hE.1;refine Out.eqv (Qzb L M D N O S T U V X Y G (E.map evR) (E.map evR).length i [] [] 0 0 0 0 0 0 0 (BG K c (E.take i)).1 (BG K c (E.take i)).2) ?_;refine .cond (λk=> ?_) λk=> ?_
  ·have k:(i:Int)<((E.map evR).length:Int):=Bb k;have J:i<E.length:=by rw[af]at k;omega
   refine .cond (λ_=> ?_) λe=>(inB (by omega) k e).elim;rw[Qfs E J];refine .bind (p:=λo=>o=_) ⟨_,hV (RK h c (E.take i)) (BG K c (E.take i)).2 E[i].cycle E[i].kind (hE.2 _ (bm J)),rfl⟩ λo e=> ?_;subst e;have e1:BG K c (E.take (i+1))=evA (BG K c (E.take i)) E[i].kind E[i].n:=by
    unfold BG;rw[List.take_add_one,ah J,List.foldl_append];rfl
   rw[Ae (x:=(i:Int)+1) (by omega)];refine .some (.inl ⟨rfl,i+1,?_,by omega,by omega⟩);rw[e1];have st:∀(K:Kf) (d:Cv),B9++cR 0 (Ab K d)=B9++Ab K d:=λ_ _=>rfl;exact congrArg (λz=>AC.view kPt (E.map evR)::I (E.map evR).length::I ((i:Int)+1)::z) (st (evA (BG K c (E.take i)) E[i].kind E[i].n).1 (evA (BG K c (E.take i)) E[i].kind E[i].n).2)
  ·have k: ¬(i:Int)<((E.map evR).length:Int):=Bs k;rw[af]at k;rw[List.take_of_length_le (by omega)];generalize BG K c E=d;exact .some (.inr ⟨by simp,rfl⟩)
 obtain⟨o,h1,rfl⟩:=key;exact h1
def tdC (c:Cv):Cv:={zM c with aK:=true,way:=if c.way=1 then 2 else 0,o2:=if c.way=1 then c.o2 else true}
def toC (K:Kf) (c:Cv):Int:=if c.way=2 then K.len else c.home
def Cp (K:Kf) (c:Cv):Kf×Cv:=
 if c.aL=true/\c.m0=wrap .i64 (K.t.length*256)then(if EN K c=true then(sT K (Da K c (toC K c)),tdC c)else(K,c))else(K,Dg K c K.t.length)
def Hr (c:Cv):Int:=if c.way=2 then 5 else 4
theorem Zse {E:Fn} {K:Kf} {c:Cv} {to:Int} {m:AC} (D:E (pxt K.p K.x K.t [I c.m0,I c.m1,I c.m2,I c.m3,I c.m4,I c.m5,I to])=some (J8 K c to)):
  Qb E K c m (I to)=some (if EN K c=true then m::B true::Ab (sT K (Da K c to)) (tdC c)else m::B true::Ab K c):=by
 unfold J8 at D;cases hb:EN K c
 ·rw[hb,ab (by simp)]at D;rw[ab (by simp)];exact eB D (eT rfl rfl)
 ·rw[hb,aa rfl]at D;rw[aa rfl];generalize Da K c to=t at*;refine eB D (eF rfl ?_);unfold tdC;refine eC (λe=> ?_) λe=> ?_
  ·have e:c.way=1:=eq_of_beq e;rw[aa e,aa e];exact(show _=_ from by kernel_rfl)
  ·have e:c.way≠1:=by simpa using e
   rw[ab e,ab e];exact(show _=_ from by kernel_rfl)
theorem Zu5 {E G:Fn} {K:Kf} {c:Cv} (J:c.way≠0) (L:G (nxL K c K.t.length)=some (Ea c.m0 c.m1 c.m3 c.m4 (nxV K c K.t.length)))
  (M:∀to,E (pxt K.p K.x K.t [I c.m0,I c.m1,I c.m2,I c.m3,I c.m4,I c.m5,I to])=some (J8 K c to)):
  Sz E G (Ab K c)=some (I (Hr c)::B true::Ab (Cp K c).1 (Cp K c).2):=by
 rw[Qyt];refine eF (beF J) ?_;have key:∀m:AC,TN c G K E m=some (m::B true::Ab (Cp K c).1 (Cp K c).2):=by
  intro m;unfold Cp;have plan: ¬(c.aL=true/\c.m0=wrap .i64 (K.t.length*256))->((G (nxL K c K.t.length)).bind λD=>some (m::B true::Ab K {c with m0:=gA D 0,m1:=gA D 1,m2:=gA D 2,m3:=gA D 3,m4:=gA D 4,m5:=gA D 5}))=some (m::B true::Ab (if c.aL=true/\c.m0=wrap .i64 (K.t.length*256)then(if EN K c=true then(sT K (Da K c (toC K c)),tdC c)else(K,c))else(K,Dg K c K.t.length)).1 (if c.aL=true/\c.m0=wrap .i64 (K.t.length*256)then(if EN K c=true then(sT K (Da K c (toC K c)),tdC c)else(K,c))else(K,Dg K c K.t.length)).2):=λN=>by
   rw[ab N];unfold Dg;generalize nxV K c K.t.length=v at*;exact eB L rfl
  have turn:(c.aL=true/\c.m0=wrap .i64 (K.t.length*256))->∀to,to=toC K c->Qb E K c m (I to)=some (m::B true::Ab (if c.aL=true/\c.m0=wrap .i64 (K.t.length*256)then(if EN K c=true then(sT K (Da K c (toC K c)),tdC c)else(K,c))else(K,Dg K c K.t.length)).1 (if c.aL=true/\c.m0=wrap .i64 (K.t.length*256)then(if EN K c=true then(sT K (Da K c (toC K c)),tdC c)else(K,c))else(K,Dg K c K.t.length)).2):=λO to S=>by
   rw[aa O,<-S,Zse (M to)];split<;>rfl
  refine eC (λe=> ?_) λe=>eC (λe2=> ?_) λe2=>eC (λe3=> ?_) λe3=> ?_
  ·have e:c.aL=false:=by simpa using e
   exact plan λq=>by rw[e]at q;cases q.1
  ·have e2:c.m0≠wrap .i64 (K.t.length*256):=λq=>by rw[bnF q]at e2;cases e2
   exact plan λq=>e2 q.2
  ·have e:c.aL=true:=by simpa using e
   have e2:c.m0=wrap .i64 (K.t.length*256):=Decidable.byContradiction λq=>by rw[bnT q]at e2;cases e2
   exact turn ⟨e,e2⟩ K.len (by unfold toC;rw[aa (show c.way=2 from eq_of_beq e3)])
  ·have e:c.aL=true:=by simpa using e
   have e2:c.m0=wrap .i64 (K.t.length*256):=Decidable.byContradiction λq=>by rw[bnT q]at e2;cases e2
   exact turn ⟨e,e2⟩ c.home (by unfold toC;rw[ab (show¬c.way=2 by simpa using e3)])
 unfold Hr;refine eC (λe=> ?_) λe=> ?_
 ·rw[aa (show c.way=2 from eq_of_beq e)];exact key _
 ·rw[ab (show¬c.way=2 by simpa using e)];exact key _
theorem Ze2 {K:Kf} (h:KOK K) {n:Int} {c:Cv} (g:Ga K n c) (D:c.way≠0):Jc (Ab K c)=some (I (Hr c)::B true::Ab (Cp K c).1 (Cp K c).2):=
 Zu5 D (SN h g.w0 K.t.length).1 (Q95 h c)
def BR (K:Kf) (c:Cv):Int×Kf×Cv:=if(A0 K c).1≠0 then((A0 K c).1,K,(A0 K c).2)else if c.way≠0 then(Hr c,Cp K c)else(0,K,c)
theorem Zul {N3:Lp} {ME MR D E G J L MS MN MX MT MV:Fn} {K:Kf} {c:Cv} (frm:Int)
  (X:L (Ab K c)=some (if c.g0=2 then I 6::B true::Ab K (stand c)else I 0::B false::Ab K c))
  (Y:J (Ab K c)=some (I c.aH::B (c.aH !=0)::Ab K c))
  (hP:G (Ab K c)=some (if c.aG=true/\c.aL=true then I 8::B true::Ab K {c with aH:=8}else I 0::B false::Ab K c))
  (hB:E (Ab K c)=some (if c.on=true then I (AX K c).1::B true::Ab K (AX K c).2 else I 0::B false::Ab K c))
  (hG:D (Ab K c)=some (if c.way≠0 then I (Hr c)::B true::Ab (Cp K c).1 (Cp K c).2 else I 0::B false::Ab K c)):
  Al (E7 ME MR D E G J L MS MN MX MT MV N3) (CJ K frm 0 c)=some (1,LD (BR K c).2.1 frm (BR K c).1 (BR K c).2.2):=by
 have w:∀i:Int,0<=i->i<5->wrap .i64 (i+1)=i+1:=λi _ _=>Ae (by omega);have e:=λi=>Q6s ME MR D E G J L MS MN MX MT MV N3 frm 5 i [] [] 0 0 0 0 0 0 0 [] [] 0 0 0 0 0 0 0 K c;have s0:c.g0≠2->E7 ME MR D E G J L MS MN MX MT MV N3 (CJ K frm 0 c)=some (0,CJ K frm 1 c):=λh=>by
  refine Eq.trans (e 0) (eT rfl (eT rfl (eB X ?_)));rw[ab h];rfl
 have s1:c.aH=0->E7 ME MR D E G J L MS MN MX MT MV N3 (CJ K frm 1 c)=some (0,CJ K frm 2 c):=λh=>by
  refine Eq.trans (e 1) (eT rfl (eF rfl (eT rfl (eB Y ?_))));rw[h];rfl
 have s2: ¬(c.aG=true/\c.aL=true)->E7 ME MR D E G J L MS MN MX MT MV N3 (CJ K frm 2 c)=some (0,CJ K frm 3 c):=λh=>by
  refine Eq.trans (e 2) (eT rfl (eF rfl (eF rfl (eT rfl (eB hP ?_)))));rw[ab h];rfl
 have s3:c.on=false->E7 ME MR D E G J L MS MN MX MT MV N3 (CJ K frm 3 c)=some (0,CJ K frm 4 c):=λh=>by
  refine Eq.trans (e 3) (eT rfl (eF rfl (eF rfl (eF rfl (eT rfl (eB hB ?_))))));rw[ab (by rw[h];simp)];rfl
 have s4: ¬c.way≠0->E7 ME MR D E G J L MS MN MX MT MV N3 (CJ K frm 4 c)=some (0,CJ K frm 5 c):=λh=>by
  refine Eq.trans (e 4) (eT rfl (eF rfl (eF rfl (eF rfl (eF rfl (eT rfl (eB hG ?_)))))));rw[ab h];rfl
 have V:c.way≠0->E7 ME MR D E G J L MS MN MX MT MV N3 (CJ K frm 4 c)=some (1,LD (Cp K c).1 frm (Hr c) (Cp K c).2):=λh=>by
  refine Eq.trans (e 4) (eT rfl (eF rfl (eF rfl (eF rfl (eF rfl (eT rfl (eB hG ?_)))))));rw[aa h];generalize Cp K c=z;generalize Hr c=mm;rfl
 have s5:E7 ME MR D E G J L MS MN MX MT MV N3 (CJ K frm 5 c)=some (1,LD K frm 0 c):=by
  exact Eq.trans (e 5) (eF rfl rfl)
 have S:∀x:Int×Cv,x.1≠0->A0 K c=x->BR K c=(x.1,K,x.2):=λx hx e=>by unfold BR;rw[e,aa hx]
 by_cases h:c.g0=2
 ·have M:A0 K c=(6,stand c):=by unfold A0;rw[aa h]
  rw[S _ (show(6:Int)≠0 by decide) M];refine A7 (Eq.trans (e 0) (eT rfl (eT rfl (eB X ?_)))) (by simp);rw[aa h];rfl
 rw[Bv (s0 h)];by_cases N:c.aH=0
 ·rw[Bv (s1 N)];by_cases O:c.aG=true/\c.aL=true
  ·have M:A0 K c=(8,{c with aH:=8}):=by unfold A0;rw[ab h,ab (by simpa using N),aa O]
   rw[S _ (show(8:Int)≠0 by decide) M];refine A7 (Eq.trans (e 2) (eT rfl (eF rfl (eF rfl (eT rfl (eB hP ?_)))))) (by simp);rw[aa O];rfl
  ·rw[Bv (s2 O)];cases T:c.on
   ·have M:A0 K c=(0,c):=by unfold A0;rw[ab h,ab (by simpa using N),ab O,ab (by rw[T];simp)]
    rw[Bv (s3 T)];unfold BR;rw[M,ab (by simp)];by_cases U:c.way≠0
    ·rw[aa U];exact A7 (V U) (by simp)
    ·rw[ab U,Bv (s4 U)];exact A7 s5 (by simp)
   ·have M:A0 K c=AX K c:=by unfold A0;rw[ab h,ab (by simpa using N),ab O,aa T]
    rw[S _ (Q9i K c) M];refine A7 (Eq.trans (e 3) (eT rfl (eF rfl (eF rfl (eF rfl (eT rfl (eB hB ?_))))))) (by simp);rw[aa T];generalize AX K c=wk;rfl
 ·have M:A0 K c=(c.aH,c):=by unfold A0;rw[ab h,aa N]
  rw[S _ N M];refine A7 (Eq.trans (e 1) (eT rfl (eF rfl (eT rfl (eB Y ?_))))) (by simp);rw[bnT N];rfl
def EF (K:Kf) (c:Cv) (s:Int):List Int×Cv:=if c.way=0 then Bx K c s else([],c)
def Qbx (K:Kf) (c:Cv) (frm:Int):Rw:=if c.aK=true then []else Mw K frm (AB c)
theorem Ztt {MM MP MB MO MU:Fn} {K:Kf} {c:Cv} {frm mode:Int}
  (N:MU (Ab K c)=some [I (AB c)]) (O:MO (Ab K c)=some [I (AA K c)]) (G:Out (λo=>wA o 0=Mw K frm (AB c)) (MB (pxt K.p K.x K.t [I frm,I (AB c)])))
  (J:∀s,MP (I s::Ab K c)=some (.view Aa ((Bx K c s).1.map Ao)::Ab K (Bx K c s).2)) (S:∀s,∃n q:Int,(Bx K c s).2={c with aJ:=n,outs:=q}) (E:∀u,MM (pxt K.p K.x K.t [I u])=some (ptR (Eo K.p K.x K.t u))):
  R1 MM MP MB MO MU (I frm::(Ab K c++[.view kPt [], .view Aa [],I mode,I 0,I 0,I 0,I 0,I 0,I 0]))=
   some (Ab K (EF K c (AA K c)).2++HR (Qbx K c frm) ((EF K c (AA K c)).1.map Ao) mode (AA K c) (F8 K c) c.s3 c.g1):=by
 refine Eq.trans (Q5g MM MP MB MO MU frm [] [] mode 0 0 0 0 0 0 K c) ?_;refine eB N (eB O ?_);have key:∀(l:Rw) (L D:List AC),gA L 0=AB c->gA D 0=AA K c->RP c MP D K MM L mode [] (.view kPt l)=some (Ab K (EF K c (AA K c)).2++HR l ((EF K c (AA K c)).1.map Ao) mode (AA K c) (F8 K c) c.s3 c.g1):=by
  intro l L D T M;unfold RP EF;simp only[jA,T,M];have J:=J (AA K c);obtain⟨n,q,U⟩:=S (AA K c);have E:=E (AB c);rw[show F8 K c=Eo K.p K.x K.t (AB c)from rfl];generalize Eo K.p K.x K.t (AB c)=mt at*;generalize AA K c=s at*;refine eC (λe=> ?_) λe=> ?_
  ·rw[aa (show c.way=0 from eq_of_beq e)];generalize Bx K c s=ps at*;refine eB J ?_;rw[U];exact eB E rfl
  ·rw[ab (show¬c.way=0 by simpa using e)];exact eB E rfl
 unfold Qbx;refine eC (λe=> ?_) λe=> ?_
 ·have e:c.aK=false:=by simpa using e
  rw[ab (by rw[e];simp)];obtain⟨o,G,V⟩:=G;rw[<-V];exact eB G (key _ _ _ rfl rfl)
 ·have e:c.aK=true:=by simpa using e
  rw[aa e];exact key _ _ _ rfl rfl
def Bh (K:Kf) (c:Cv) (E:List Evn):Kf×Cv:=((BG K c E).1,Gh (Fb (BG K c E).1 (Bc (E0 (BG K c E).2))))
def stA (K:Kf) (c:Cv) (E:List Evn):Int×Kf×Cv:=
 if(BR (Bh K c E).1 (Bh K c E).2).1=0 then((Cx (Bh K c E).1 (BR (Bh K c E).1 (Bh K c E).2).2.2).1,(Bh K c E).1,(Cx (Bh K c E).1 (BR (Bh K c E).1 (Bh K c E).2).2.2).2)else BR (Bh K c E).1 (Bh K c E).2
def GN (K:Kf) (c:Cv) (E:List Evn):Kf×Cv:=((stA K c E).2.1,(EF (stA K c E).2.1 (stA K c E).2.2 (AA (stA K c E).2.1 (stA K c E).2.2)).2)
def tkA (K:Kf) (c:Cv) (E:List Evn):List AC:=
 HR (Qbx (stA K c E).2.1 (stA K c E).2.2 (AB (BG K c E).2)) ((EF (stA K c E).2.1 (stA K c E).2.2 (AA (stA K c E).2.1 (stA K c E).2.2)).1.map Ao) (stA K c E).1 (AA (stA K c E).2.1 (stA K c E).2.2) (F8 (stA K c E).2.1 (stA K c E).2.2) (stA K c E).2.2.s3 (stA K c E).2.2.g1
theorem Zh4 {D:Lp} {L M:Fn} {K:Kf} {d:Cv} {frm:Int} {o:Nat×List AC} (E:∃e,o.2=B9++Ab K e) {m:Int} {K2:Kf} {d2:Cv}
  (J:D (CJ K frm 0 d)=some (1,LD K2 frm m d2)) {w s:Int×Cv} (O:m=0->L (Ab K2 d2)=some (I w.1::Ab K2 w.2)) (G:s=if m=0 then w else(m,d2))
  {pul outs:Rw} {pos sp ft:Int} {mt:Pt} {q:Cv}
  (N:M (I frm::(Ab K2 s.2++[.view kPt [], .view Aa [],I s.1,I 0,I 0,I 0,I 0,I 0,I 0]))=some (Ab K2 q++HR pul outs s.1 pos mt sp ft)):
  GQ D o L M (I frm) (Ab K d)=some (HR pul outs s.1 pos mt sp ft++Ab K2 q):=by
 obtain⟨o1,o2⟩:=o;obtain⟨e,E⟩:=E;dsimp only at E;subst E;refine eB J (eT rfl ?_);by_cases h:m=0
 ·rw[aa h]at G;subst G;exact eT (show(m==0)=true from beT h) (eB (O h) (eB N rfl))
 ·rw[ab h]at G;subst G;exact eF (show(m==0)=false from beF h) (eB N rfl)
theorem Z1e {J L M X Y MO MU N O S U MV:Fn} {V D:Lp} {K K2:Kf} {c d:Cv} {E:List Evn} {T:List AC}
  (h3:V (.view kPt (E.map evR)::I (E.map evR).length::I 0::(B9++Ab K (FO c)))=some (1,B9++Ab K2 d))
  (hT:∀c,U (Ab K2 c)=some [B (HP K2 c)]) (hX:∀(c:Cv) (ramp:Int),S [I c.s0,I c.s1,I c.s2,I c.s3,I ramp]=some [I (spS c ramp).s0,I (spS c ramp).s1,I (spS c ramp).s2,I (spS c ramp).s3])
  (hN:∀c,O (Ab K2 c)=some [I (AB c)]) (hS:∀c:Cv,N [I c.m0,I c.m1,I c.m2,I c.m3,I c.m4,I c.m5]=some [B (Di c)])
  (G:∀o:Nat×List AC,(∃e,o.2=B9++Ab K2 e)->GQ D o L J (I (AB d)) (Ab K2 (Gh (Fb K2 (Bc (E0 d)))))=some T):
  UK J L M X Y MO MU N O S U MV V D (.view kPt (E.map evR)::Ab K c)=some T:=by
 refine Eq.trans (Qzr J L M X Y MO MU N O S U MV V D (E.map evR) K c) ?_;refine eB h3 (eT rfl ?_)
 have rest:∀b:Cv,E0 d=b->AB b=AB d->Di b=Di d->
   ((U (Ab K2 (Bc b))).bind λo => bif !bA o 0 then (S [I b.s0, I b.s1, I b.s2, I b.s3, I K2.ramp]).bind λo2 => (O (Ab K2 { Bc b with s0 := gA o2 0, s1 := gA o2 1, s2 := gA o2 2, s3 := gA o2 3 })).bind λo3 => (N [I d.m0, I d.m1, I d.m2, I d.m3, I d.m4, I d.m5]).bind λo4 => GQ D (1, B9 ++ Ab K2 d) L J (jA o3 0) (Ab K2 { Bc b with s0 := gA o2 0, s1 := gA o2 1, s2 := gA o2 2, s3 := gA o2 3, aL := bA o4 0 })
    else(O (Ab K2 (Bc b))).bind λo3=>(N [I d.m0,I d.m1,I d.m2,I d.m3,I d.m4,I d.m5]).bind λo4=>GQ D (1,B9++Ab K2 d) L J (jA o3 0) (Ab K2 {Bc b with aL:=bA o4 0}))=some T:=λb hb hu hs=>by
  have G:=G (1,B9++Ab K2 d) ⟨d,rfl⟩;rw[hb]at G;refine eB (hT (Bc b)) ?_;cases ht:HP K2 (Bc b)
  ·have e1:Fb K2 (Bc b)=spS (Bc b) K2.ramp:=by unfold Fb;rw[ab (by rw[ht];simp)]
   rw[e1]at G;refine eT rfl (eB (hX b K2.ramp) ?_);refine Eq.trans (congrArg (λz=>Option.bind z _) (hN (spS (Bc b) K2.ramp))) (eB rfl (eB (hS d) ?_));have e2:AB (spS (Bc b) K2.ramp)=AB d:=hu;have e3:({spS (Bc b) K2.ramp with aL:=Di d}:Cv)=Gh (spS (Bc b) K2.ramp):=by
    unfold Gh;rw[show Di (spS (Bc b) K2.ramp)=Di b from rfl,hs]
   rw[<-e3,<-e2]at G;exact G
  ·have e1:Fb K2 (Bc b)=Bc b:=by unfold Fb;rw[aa ht]
   rw[e1]at G;refine eF rfl ?_;refine Eq.trans (congrArg (λz=>Option.bind z _) (hN (Bc b))) (eB rfl (eB (hS d) ?_));have e2:AB (Bc b)=AB d:=hu;have e3:({Bc b with aL:=Di d}:Cv)=Gh (Bc b):=by
    unfold Gh;rw[show Di (Bc b)=Di b from rfl,hs]
   rw[<-e3,<-e2]at G;exact G
 refine eC (λt=> ?_) λt=>eC (λq=> ?_) λq=> ?_
 ·have t:d.aG=true:=t;exact rest {d with o2:=true} (by unfold E0;rw[aa (.inl t)]) rfl rfl
 ·have q:d.g0≠0:=λe=>by
   have:(d.g0 !=0)=true:=q;rw[bnF e]at this;cases this
  exact rest {d with o2:=true} (by unfold E0;rw[aa (.inr q)]) rfl rfl
 ·have t:d.aG=false:=t;have q:d.g0=0:=Decidable.byContradiction λe=>by
   have:(d.g0 !=0)=false:=q;rw[bnT e]at this;cases this
  exact rest d (by unfold E0;rw[ab (λw=>by rcases w with w|w;rw[t]at w;cases w;exact w q)]) rfl rfl
theorem Ga.sm {K:Kf} {n:Int} {c d:Cv} (g:Ga K n c) (h:Sm c d):Ga K n d:=by
 refine⟨by rw[h.kp.way];exact g.way,by rw[h.kp.aJ];exact g.pass,by rw[h.on,h.idx];exact g.task,?_,by rw[h.m0];exact g.m0⟩;have:=g.mo;unfold Mo at*;rw[h.m1,h.m2];exact this
theorem Ga.turn {K:Kf} (h:KOK K) {n:Int} {c d:Cv} (g:Ga K n c) (N:0<=n) (D:d.way=0\/d.way=1\/d.way=2) (E:d.aJ=c.aJ) (G:d.on=c.on) (I:d.idx=c.idx) (J:d.m0=0) (L:d.m1=0) (M:d.m2=0) (t:Trk):Ga (sT K t) n d:=by
 refine⟨D,by rw[E];exact g.pass,by rw[G,I];exact g.task,?_,by rw[J];omega⟩;unfold Mo;rw[L,M];exact RF h.plan
theorem Q32 {K:Kf} {n:Int} {c d:Cv} (g:Ga K n c) (h:Ft c d):Ga K n d:=by
 rcases h with rfl|⟨a,-,rfl⟩
 ·exact g
 ·exact⟨g.way,g.pass,g.task,g.mo,g.m0⟩
theorem Qy7 {K:Kf} (h:KOK K) {n:Int} (D:0<=n) {c:Cv} (g:Ga K n c) (m:Int):Ga (C5 K c m).1 n (C5 K c m).2:=by
 unfold C5;by_cases hb:E1 K c m=true
 ·rw[aa hb];generalize Da K c (PZ K c m)=t;generalize AA K c=z;exact g.turn (d:={zM c with o2:=false,way:=1,home:=z}) h D (.inr (.inl rfl)) rfl rfl rfl rfl rfl rfl t
 ·rw[ab hb];exact g
theorem Zq7 {K:Kf} {n:Int} {c:Cv} (g:Ga K n c):Ga K n (Ig K c):=by
 have key:∀b:Bool,Ga K n {c with aG:=b}:=λb=>⟨g.way,g.pass,g.task,g.mo,g.m0⟩;exact key _
theorem Zo1 {s:Kf×Cv} (h:KOK s.1) {n:Int} (I:0<=n) (g:Ga s.1 n s.2) (k m:Int) (J:m<=4194304):Ga (evA s k m).1 n (evA s k m).2:=by
 have g1:=g.sm (S1 s.2 k m);unfold evA;generalize evC s.2 k m=d at*;by_cases D:k=13
 ·rw[aa D];exact Q32 g1 (Vs h d J).2
 ·rw[ab D];by_cases E:k=12
  ·rw[aa E];exact Zq7 g1
  ·rw[ab E];by_cases G:k=7
   ·rw[aa G];exact Qy7 h I g1 m
   ·rw[ab G];exact g1
theorem Q49 {n:Int} (D:0<=n):∀(E:List Evn) {s:Kf×Cv},(∀e∈E,e.n<=4194304)->KOK s.1->Ga s.1 n s.2->Ga (E.foldl (λs e=>evA s e.kind e.n) s).1 n (E.foldl (λs e=>evA s e.kind e.n) s).2
 |[],_,_,_,g=>g
 |e::E,_,G,h,g=>Q49 D E (λx I=>G x (by simp[I])) (Qtg h e.kind e.n) (Zo1 h D g e.kind e.n (G e (by simp)))
theorem Quy {K:Kf} (h:KOK K) {n:Int} (D:0<=n) {c:Cv} (g:Ga K n c) {E:List Evn} (G:EvE E):Ga (BG K c E).1 n (BG K c E).2:=
 Q49 D E G.2 (s:=(K,FO c)) h ⟨g.way,g.pass,g.task,g.mo,g.m0⟩
theorem Yh (K:Kf) (d:Cv):Sm d (Gh (Fb K (Bc (E0 d)))):=
 (Q36 d).trans (Sm.trans (b:=Bc (E0 d)) ⟨⟨rfl,rfl,rfl,rfl⟩,rfl,rfl,rfl,rfl,rfl,rfl,rfl,rfl,rfl,rfl⟩ ((Zbi K _).trans ⟨⟨rfl,rfl,rfl,rfl⟩,rfl,rfl,rfl,rfl,rfl,rfl,rfl,rfl,rfl,rfl⟩))
theorem Qpk {K:Kf} (h:KOK K) {n:Int} (D:0<=n) {c:Cv} (g:Ga K n c) {E:List Evn} (G:EvE E):Ga (Bh K c E).1 n (Bh K c E).2:=(Quy h D g G).sm (Yh _ _)
end Go.Bm
namespace Go.Bm
theorem Zso {K:Kf} {n:Int} {c:Cv} (g:Ga K n c):Ga K n (E_ K c).2:=by
 have done:∀d:Cv,Ga K n d->Ga K n (GK d):=λd g=>⟨g.way,g.pass,λh=>(by cases h),g.mo,g.m0⟩;have cmd:∀D sp:Int,Ga K n (HJ c D sp):=λD sp=>⟨g.way,g.pass,g.task,g.mo,g.m0⟩;unfold E_;split
 ·split
  ·exact done c g
  ·exact g
 ·split
  ·exact done c g
  ·split
   ·split
    ·exact g
    ·exact done c g
   ·split
    ·split
     ·exact done _ (cmd _ _)
     ·exact cmd _ _
    ·split
     ·exact⟨g.way,g.pass,g.task,g.mo,g.m0⟩
     ·exact done c g
theorem Zdl {K:Kf} {n:Int} {c:Cv} (g:Ga K n c):Ga K n (AX K c).2:=Zso (K:=K) (c:=BL c) ⟨g.way,g.pass,g.task,g.mo,g.m0⟩
theorem Zar {K:Kf} {n:Int} {c:Cv} (h:KOK K) (g:Ga K n c) (E:0<=n/\n<=10000):Ga K n (A0 K c).2:=by
 unfold A0;split
 ·have D:=(g.w0.stand h E).1;exact⟨g.way,g.pass,g.task,D.mo,D.m0⟩
 ·split
  ·exact g
  ·split
   ·exact⟨g.way,g.pass,g.task,g.mo,g.m0⟩
   ·split
    ·exact Zdl g
    ·exact g
theorem Zew {K:Kf} {n:Int} {c:Cv} (h:KOK K) (g:Ga K n c) (E:0<=n/\n<=10000) (l:Int):Ga K (n+1) (Dg K c l):=by
 have D:=YW h g.w0 E l;exact⟨g.way,g.pass,g.task,D.mo,D.m0⟩
theorem Q8t {K:Kf} {n:Int} {c:Cv} (h:KOK K) (g:Ga K n c) (D:0<=n/\n<=10000):Ga (Cp K c).1 (n+1) (Cp K c).2:=by
 unfold Cp;by_cases E:c.aL=true/\c.m0=wrap .i64 (K.t.length*256)
 ·rw[aa E];by_cases G:EN K c=true
  ·rw[aa G];generalize Da K c (toC K c)=t;have J:(tdC c).way=0\/(tdC c).way=1\/(tdC c).way=2:=by
    show(if c.way=1 then(2:Int)else 0)=0\/_=1\/(if c.way=1 then(2:Int)else 0)=2;by_cases I:c.way=1
    ·rw[aa I];exact .inr (.inr rfl)
    ·rw[ab I];exact .inl rfl
   exact(g.up D.1).turn (d:=tdC c) h (by omega) J rfl rfl rfl rfl rfl rfl t
  ·rw[ab G];exact g.up D.1
 ·rw[ab E];exact Zew h g D _
theorem Qxt {K:Kf} (h:KOK K) (c:Cv):KOK (Cp K c).1:=by
 unfold Cp;split
 ·split
  ·exact h.sT (Q8i h c _)
  ·exact h
 ·exact h
theorem Z1x {K:Kf} (h:KOK K) (c:Cv):KOK (BR K c).2.1:=by
 unfold BR;split
 ·exact h
 ·split
  ·exact Qxt h c
  ·exact h
theorem Z8e {K:Kf} {n:Int} {c:Cv} (h:KOK K) (g:Ga K n c) (D:0<=n/\n<=10000):Ga (BR K c).2.1 (n+1) (BR K c).2.2:=by
 unfold BR;split
 ·exact(Zar h g D).up D.1
 ·split
  ·exact Q8t h g D
  ·exact g.up D.1
theorem LG {K:Kf} {c:Cv} (h:(BR K c).1=0):c.way=0/\BR K c=(0,K,c):=by
 unfold BR at h⊢;by_cases D:(A0 K c).1≠0
 ·rw[aa D]at h;exact absurd h D
 ·rw[ab D]at h⊢;by_cases E:c.way≠0
  ·rw[aa E]at h;have h:Hr c=0:=h;unfold Hr at h;split at h<;>cases h
  ·rw[ab E];exact⟨by simpa using E,rfl⟩
theorem Ziu {K:Kf} {c:Cv} {n:Int} (h:KOK K) (g:Ga K n c):KQ (Ab K c)=some (if c.on=true then I (AX K c).1::B true::Ab K (AX K c).2 else I 0::B false::Ab K c):=by
 have key:∀{M:Fn},(c.on=true->M (Ab K c)=some (I (AX K c).1::Ab K (AX K c).2))->UW M (Ab K c)=some (if c.on=true then I (AX K c).1::B true::Ab K (AX K c).2 else I 0::B false::Ab K c):=by
  intro M D;rw[Q0e];cases e:c.on
  ·rw[ab (by simp)];rfl
  ·rw[aa rfl];have D:=D e;generalize AX K c=E at*;exact eB D rfl
 exact key λe=>Z0 h (g.task e).1 (g.task e).2
theorem Qwh {K:Kf} {n:Int} {c:Cv} (g:Ga K n c) (D:0<=n/\n<=10010): -300000000000<=AB c/\AB c<=300000000000:=Yf (c:=w0 c) g.w0 D
theorem Z6l {K:Kf} (h:KOK K) (c:Cv) (E:List Evn):KOK (stA K c E).2.1:=by
 have D:KOK (Bh K c E).1:=RK h c E;unfold stA;split
 ·exact D
 ·exact Z1x D _
theorem Zv1 {K:Kf} {n:Int} {c:Cv} (h:KOK K) (g:Ga K n c) (D:0<=n/\n<=10000) {E:List Evn} (L:EvE E):Ga (stA K c E).2.1 (n+1) (stA K c E).2.2:=by
 have I:KOK (Bh K c E).1:=RK h c E;have J:=Qpk h D.1 g L;unfold stA;by_cases G:(BR (Bh K c E).1 (Bh K c E).2).1=0
 ·rw[aa G];obtain⟨M,e⟩:=LG G;rw[e];exact(TR I (J.gd M) D).1.ga
 ·rw[ab G];exact Z8e I J D
theorem Zf6 {K:Kf} {n:Int} {c:Cv} (g:Ga K n c) (E:0<=n) (s:Int):Ga K n (EF K c s).2:=by
 unfold EF;by_cases D:c.way=0
 ·rw[aa D];have hb:=SR K s (K.p.aC.drop c.aJ.toNat) c;rw[bq]at hb;have hb:c.aJ<=(Bx K c s).2.aJ/\(Bx K c s).2.aJ<=c.aJ+((K.p.aC.length-c.aJ.toNat:Nat):Int):=hb;obtain⟨m,q,e⟩:=Rs K c s;rw[e]at hb⊢;have G:=g.pass;exact⟨g.way,by dsimp only at hb⊢;omega,g.task,g.mo,g.m0⟩
 ·rw[ab D];exact g
theorem Z9o {K:Kf} (h:KOK K) {n:Int} {c:Cv} (g:Ga K n c):Jc (Ab K c)=some (if c.way≠0 then I (Hr c)::B true::Ab (Cp K c).1 (Cp K c).2 else I 0::B false::Ab K c):=by
 by_cases D:c.way≠0
 ·rw[aa D];exact Ze2 h g D
 ·rw[ab D];exact Q06 (by simpa using D)
theorem Qs9 {K:Kf} {c:Cv} {n:Int} (h:KOK K) (g:Ga K n c) (G:0<=n/\n<=10000) {E:List Evn} (I:EvE E):
  Gy (.view kPt (E.map evR)::Ab K c)=some (tkA K c E++Ab (GN K c E).1 (GN K c E).2):=by
 have M:KOK (Bh K c E).1:=RK h c E;have N:=Qpk h G.1 g I;have ge:=Quy h G.1 g I;have O:=Zv1 h g G I;have J:=Z6l h c E;have hf:=Qwh ge (by omega);have U:=Qwh O (by omega);refine Z1e (K2:=(BG K c E).1) (d:=(BG K c E).2) (Zrl I h (fun{K} L c x k {n} G=>Zxn L c x k G)) (Q5n (RK h c E)) Q6j (Lu _) Qje λo S=> ?_;have T:=Zul (ME:=Li) (MR:=Ki) (MS:=HW) (MN:=Dj) (MX:=Ko) (MT:=Lf) (MV:=Jr) (N3:=SO) (K:=(Bh K c E).1) (c:=(Bh K c E).2) (AB (BG K c E).2) (Q07 _ _) (Qvi _ _) (Qze _ _) (Ziu M N) (Z9o M N);have he:=Ztt (MM:=Et) (MP:=Nw) (MB:=Kj) (MO:=Dk) (MU:=Dj) (K:=(stA K c E).2.1) (c:=(stA K c E).2.2) (frm:=AB (BG K c E).2) (mode:=(stA K c E).1) (Lu _ _) (M_ J _) (Q67 J _ _ (by omega)) (λs=>Qxw J O.pass s) (Rs _ _) (Qe J.f);have L:(BR (Bh K c E).1 (Bh K c E).2).2.1=(stA K c E).2.1:=by
  unfold stA;by_cases D:(BR (Bh K c E).1 (Bh K c E).2).1=0
  ·rw[aa D,(LG D).2]
  ·rw[ab D]
 refine Zh4 (w:=Cx (Bh K c E).1 (BR (Bh K c E).1 (Bh K c E).2).2.2) (s:=((stA K c E).1,(stA K c E).2.2)) (K2:=(stA K c E).2.1) (d2:=(BR (Bh K c E).1 (Bh K c E).2).2.2) (m:=(BR (Bh K c E).1 (Bh K c E).2).1) S ?_ ?_ ?_ he
 ·rw[<-L];exact T
 ·intro D;rw[<-L,(LG D).2];exact Zas M (N.gd (LG D).1) G
 ·unfold stA;by_cases D:(BR (Bh K c E).1 (Bh K c E).2).1=0
  ·rw[aa D,aa D]
  ·rw[ab D,ab D]
end Go.Bm
namespace Go.Bm
open Classical
def okD (d:Pt):Prop:=(d.x=1\/d.x= -1)/\(d.y=1\/d.y= -1)/\(d.z=1\/d.z= -1)
theorem Zj2 {d a b:Pt} {mv:Int} (D:mv=1\/mv= -1) (h:okD d):okD (DV d a b mv):=by
 obtain⟨E,G,I⟩:=h;unfold okD DV Q0;simp only;refine⟨?_,?_,?_⟩<;>(repeat' split)<;>omega
theorem Q4y {t:Trk} {c:Pce} (h:∀k∈t.aD,okD k.dirs) (E:okD c.dirs):∀k∈(FC t c).aD,okD k.dirs:=by
 unfold FC;by_cases g:t.aD≠[]/\c.move≠0/\(Be t.aD).move=c.move/\(Be t.aD).dirs=c.dirs
 ·rw[aa g];intro k D;rcases List.mem_or_eq_of_mem_set D with D|rfl
  ·exact h k D
  ·have:=h (Be t.aD) (Qen g.1);exact this
 ·rw[ab g];intro k D;rcases bn.1 D with D|D
  ·exact h k D
  ·rw[dg]at D;subst D;exact E
theorem Qyw {p:Pth} {x:Ax3} {mv lo hi f:Int} {d:Pt} (G:mv=1\/mv= -1) (I:okD d):∀j,(∀k∈(Cj p x mv lo hi (⟨[],0,f,d⟩,d) j).1.aD,okD k.dirs)/\okD (Cj p x mv lo hi (⟨[],0,f,d⟩,d) j).2
 |0=>⟨by simp[Cj],I⟩
 |j+1=>by
  obtain⟨D,J⟩:=Qyw (p:=p) (x:=x) (lo:=lo) (hi:=hi) (f:=f) G I j;rw[Cj];unfold Io;split
  ·unfold CM;simp only;have E:=Zj2 (a:=Fj p.start p.aE (Eu p.aE.length mv j)) (b:=(sgA p.aE (Eu p.aE.length mv j)).to) G J;refine⟨Q4y ?_ E,E⟩;split
   ·exact Q4y D E
   ·exact D
  ·exact⟨D,J⟩
theorem Q9u {p:Pth} {x:Ax3} {d:Pt} {a b:Int} (D:okD d):∀k∈(AR p x d a b).aD,okD k.dirs:=by
 unfold AR;exact(Qyw (by split<;>simp) D _).1
def PU (a:Axs) (g:Int->Int) (f:Pt->Int) (c:Pce) (u:Int):Int:=DU a (g (c.s+c.move*(u-c.at_)))+DO a c.move c.at_ (f c.was) (f c.dirs) u
def JL (a:Axs) (g:Int->Int) (f:Pt->Int):List Pce->Int->Int
 |[],_=>0
 |c::l,u=>if u<=c.at_+c.units then PU a g f c u else JL a g f l u
def KN (x:Ax3) (a:Axs) (f:Pt->Int):Prop:=(0<=a.back/\a.back<=1000)/\(∀d,okD d->f d=1\/f d= -1)/\(∀w d,f w≠f d->a.back<=Cz x w d)
theorem Qm2 {x:Ax3} (h:Ax3OK x):KN x x.a Pt.x:=⟨h.a,λd D=>D.1,λw d E=>by have G:=h.a;unfold Cz slk;rw[ab E];(repeat' split)<;>omega⟩
theorem Q91 {x:Ax3} (h:Ax3OK x):KN x x.b Pt.y:=⟨h.b,λd D=>D.2.1,λw d E=>by have G:=h.a;have I:=h.b;unfold Cz slk;rw[ab E];(repeat' split)<;>omega⟩
theorem Zb9 {x:Ax3} (h:Ax3OK x):KN x x.c Pt.z:=⟨h.c,λd D=>D.2.2,λw d E=>by have G:=h.a;have I:=h.b;unfold Cz slk;rw[ab E];omega⟩
theorem Qwo {x:Ax3} {a:Axs} {f:Pt->Int} {g:Int->Int} {mv:Int} {Q:Int->Pt->Prop} {at_ s:Int} {d:Pt} {c:Pce} {l:List Pce} (T:KN x a f) (h:DD x mv Q at_ s d (c::l)) (U:mv=1\/mv= -1) (V:okD d) (X:okD c.dirs):
  PU a g f c at_=DU a (g s)+Ck a (f d)/\PU a g f c (at_+c.units)=DU a (g (s+c.move*c.units))+Ck a (f c.dirs):=by
 obtain⟨hb,hf,I⟩:=T;obtain⟨Y,h2,h3,h4,-⟩:=h;have E:=hf d V;have D:=hf c.dirs X;unfold PU;rw[Y,h2,show at_-at_=0 by omega,show at_+c.units-at_=c.units by omega,Int.mul_zero,Int.add_zero];rcases h4 with⟨J,L,G,-⟩|⟨J,L,G⟩
 ·have N:c.move≠0:=by rcases U with rfl|rfl<;>omega
  unfold DO;rw[aa (.inl N),aa (.inl N)];refine⟨?_,rfl⟩;by_cases e:f d=f c.dirs
  ·rw[e]
  ·have:=I d c.dirs e;rw[G]at this;unfold Ck
   (repeat' split)<;>omega
 ·rw[J,L,Int.zero_mul,Int.add_zero];by_cases e:f d=f c.dirs
  ·unfold DO;have O:(0:Int)≠0\/f d=f c.dirs:= .inr e;rw[aa O,aa O,e];exact⟨rfl,rfl⟩
  ·have:=I d c.dirs e;rw[<-G]at this;have S: ¬((0:Int)≠0\/f d=f c.dirs):=λg=>g.elim (λg=>g rfl) e;unfold DO Ck;rw[ab S,ab S];generalize DU a (g s)=M;constructor
   ·rcases D with D|D<;>rcases E with E|E<;>rw[D,E]<;>simp<;>omega
   ·rcases D with D|D<;>rw[D]<;>simp<;>omega
theorem Qzs {a:Axs} {g:Int->Int} {f:Pt->Int}:∀{l:List Pce} {u:Int},fI l u<l.length->JL a g f l u=PU a g f (pcA l (fI l u)) u
 |[],_,h=>by simp at h
 |c::l,u,h=>by
  unfold fI at h⊢;unfold JL;by_cases D:u<=c.at_+c.units
  ·rw[aa D,aa D,Iw]
  ·rw[ab D]at h⊢;rw[ab D,FJ];exact Qzs (by simpa using h)
theorem Qug:∀{d:Pt} {l:List Pce},l≠[]->FH d l=(Be l).dirs
 |_,[],h=>absurd rfl h
 |d,[c],_=>rfl
 |d,c::e::l,_=>by
  have D:=Qug (d:=c.dirs) (l:=e::l) (by simp);show FH c.dirs (e::l)=_;rw[D];unfold Be;simp
theorem Z0j (t:Trk):O4 t=FH t.dirs t.aD:=by
 unfold O4;by_cases c:t.aD=[]
 ·rw[aa c,c];rfl
 ·rw[ab c,Qug c]
theorem Qsy {x:Ax3} {a:Axs} {f:Pt->Int} {g:Int->Int} {mv:Int} {Q:Int->Pt->Prop} (G:KN x a f) (I:mv=1\/mv= -1):∀{at_ s:Int} {d:Pt} {l:List Pce},DD x mv Q at_ s d l->okD d->(∀k∈l,okD k.dirs)->l≠[]->JL a g f l (BK at_ l)=DU a (g (B2 s l))+Ck a (f (FH d l))
 |at_,s,d,[c],h,J,E,_=>by
  have M:=(Qwo (g:=g) G h I J (E c (by simp))).2;have N:=h.1;show JL a g f [c] (at_+c.units)=_;unfold JL;rw[aa (by omega),M];rfl
 |at_,s,d,c::e::l,h,J,E,_=>by
  have L:=h.2.2.2.2;have N:=h.1;have O:=Qsy (g:=g) G I L (E c (by simp)) (λk D=>E k (by simp at D⊢;exact .inr D)) (by simp);have T:at_+c.units<BK (at_+c.units) (e::l):=by
   obtain⟨-,-,U,-,S⟩:=L;have:=R6 S;simp only[BK];omega
  show JL a g f (c::e::l) (BK (at_+c.units) (e::l))=DU a (g (B2 (s+c.move*c.units) (e::l)))+Ck a (f (FH c.dirs (e::l)));rw[<-O];generalize BK (at_+c.units) (e::l)=A at*;show(if _ then _ else _)=_;rw[ab (by omega)]
theorem YO {x:Ax3} {a:Axs} {f:Pt->Int} (g:Int->Int) {mv e:Int} {Q:Int->Pt->Prop} {t:Trk} {d:Pt} (J:KN x a f) (L:mv=1\/mv= -1) (h:TC x mv Q t e d) (M:TQ t) (N:okD t.dirs) (I:∀k∈t.aD,okD k.dirs):
  DU a (g (AE t 0))+shT a t 0 f=DU a (g t.start)+Ck a (f t.dirs)/\DU a (g (AE t t.length))+shT a t t.length f=DU a (g e)+Ck a (f (O4 t)):=by
 obtain⟨D,V,G,-⟩:=h;have Y:=M.len;rw[Z0j];by_cases c:t.aD=[]
 ·unfold AE shT;rw[aa c,aa c,aa c];rw[c]at G⊢;simp only[B2]at G;simp only[FH];rw[G];simp
 ·have E:∀v,0<=v->v<=t.length->clT t v=v:=by intro v g1 g2;unfold clT Bj;omega
  have O:∀v:Int,0<=v->v<=t.length->DU a (g (AE t v))+shT a t v f=JL a g f t.aD v:=by
   intro v g1 g2;have S:=JQ M v c;have T:iT t v=fI t.aD v:=by unfold iT;rw[E v g1 g2]
   unfold AE shT;rw[ab c,ab c,T,E v g1 g2];rw[T]at S;exact(Qzs S).symm
  rw[O 0 (by omega) (by omega),O t.length (by omega) (by omega)];constructor
  ·cases U:t.aD with
   |nil=>exact absurd U c
   |cons k l=>
    rw[U]at D I;have X:=(Qwo (g:=g) J D L N (I k (by simp))).1;have g1:=D.1;have g3:=D.2.2.1;unfold JL;rw[aa (by omega),X]
  ·have:=Qsy (g:=g) J L D N I c;rw[V,G]at this;exact this
theorem Zqa {p:Pth} {x:Ax3} {t:Trk} {mv e:Int} {Q:Int->Pt->Prop} {d:Pt} (D:Ax3M x) (E:mv=1\/mv= -1) (h:TC x mv Q t e d) (G:TQ t) (I:okD t.dirs) (J:∀k∈t.aD,okD k.dirs):
  Eo p x t 0=⟨(Gb p x t.start).x+Ck x.a t.dirs.x,(Gb p x t.start).y+Ck x.b t.dirs.y,(Gb p x t.start).z+Ck x.c t.dirs.z⟩/\
  Eo p x t t.length=⟨(Gb p x e).x+Ck x.a (O4 t).x,(Gb p x e).y+Ck x.b (O4 t).y,(Gb p x e).z+Ck x.c (O4 t).z⟩:=by
 have L:=YO (λs=>(atP p s).x) (Qm2 D.ok) E h G I J;have M:=YO (λs=>(atP p s).y) (Q91 D.ok) E h G I J;have N:=YO (λs=>(atP p s).z) (Zb9 D.ok) E h G I J;unfold Eo Gb;rw[DT,DT];exact⟨⟨L.1,M.1,N.1⟩,⟨L.2,M.2,N.2⟩⟩
def IV (K:Kf):Prop:=∃(d:Pt) (a b:Int),okD d/\K.t=AR K.p K.x d a b
theorem Qux {x:Ax3} {a:Axs} {f:Pt->Int} (Y:KN x a f) {mv:Int} {Q:Int->Pt->Prop} (hv:mv=1\/mv= -1):∀{at_ s:Int} {d:Pt} {l:List Pce},DD x mv Q at_ s d l->okD d->(∀k∈l,okD k.dirs)->∀(u:Int) (M:Pt),at_<=u->u<=BK at_ l->l≠[]->
  ¬((pcA l (fI l u)).move=0/\(pcA l (fI l u)).at_<u/\u<eI l (fI l u))->
  DO a (pcA l (fI l u)).move (pcA l (fI l u)).at_ (f (pcA l (fI l u)).was) (f (pcA l (fI l u)).dirs) u=Ck a (f (Jn l u M))/\okD (Jn l u M)
 |_,_,_,[],_,_,_,_,_,_,_,h,_=>absurd rfl h
 |at_,s,d,c::l,h,hd,hk,u,M,h0,h1,_,N=>by
  obtain⟨g1,g2,g3,g4,g5⟩:=h;have J:=hk c (by simp);by_cases hu:u<=c.at_+c.units
  ·have e:fI (c::l) u=0:=by unfold fI;rw[aa hu]
   rw[e]at N⊢;have O:pcA (c::l) 0=c:=Iw c l;have S:eI (c::l) 0=c.at_+c.units:=by unfold eI;rw[O]
   rw[O,S]at N;rw[O];have T:Jn (c::l) u M=if c.move≠0\/u=c.at_+c.units then c.dirs else c.was:=by
    show(if u>c.at_+c.units then _ else _)=_;rw[ab (by omega)]
   rw[T];obtain⟨hb,hf,hs⟩:=Y;rcases g4 with⟨m1,m2,-⟩|⟨m1,m2,m3⟩
   ·have hm:c.move≠0:=by rw[m1];rcases hv with h|h<;>omega
    rw[aa (.inl hm)];unfold DO;rw[aa (.inl hm)];exact⟨rfl,J⟩
   ·have E:=hf _ J;have I:=hf _ hd;have U:=hs d c.dirs;by_cases L:u=c.at_+c.units
    ·rw[aa (.inr L)];refine⟨?_,J⟩;unfold DO;by_cases D:f c.was=f c.dirs
     ·rw[aa (.inr D)]
     ·rw[ab (λq=>by rcases q with q|q;exact q m1;exact D q)];rw[m2]at D;have:=U D;have G:min (u-c.at_) a.back=a.back:=by omega
      rw[G];unfold Ck;rcases E with E|E
      ·rw[E,ab (by decide),ab (by decide)];omega
      ·rw[E,aa rfl,aa rfl]
    ·rw[ab (λq=>by rcases q with q|q;exact q m1;exact L q)];have a0:u=c.at_:=by omega
     refine⟨?_,by rw[m2];exact hd⟩;unfold DO;by_cases D:f c.was=f c.dirs
     ·rw[aa (.inr D),D]
     ·rw[ab (λq=>by rcases q with q|q;exact q m1;exact D q)];rw[m2]at D⊢;have G:min (u-c.at_) a.back=0:=by omega
      rw[G];unfold Ck;rcases E with E|E
      ·have V:f d= -1:=by rcases I with I|I;exact absurd (I.trans E.symm) D;exact I
       rw[E,V,ab (by decide),aa rfl];omega
      ·have V:f d=1:=by rcases I with I|I;exact I;exact absurd (I.trans E.symm) D
       rw[E,V,aa rfl,ab (by decide)];omega
  ·have e:fI (c::l) u=fI l u+1:=by
    show(if u<=c.at_+c.units then 0 else fI l u+1)=_;rw[ab hu]
   have T:Jn (c::l) u M=Jn l u M:=by
    show(if u>c.at_+c.units then _ else _)=_;rw[aa (by omega)]
   have X:l≠[]:=by
    intro q;subst q;simp only[BK]at h1;omega
   rw[e]at N⊢;have S:eI (c::l) (fI l u+1)=eI l (fI l u):=by unfold eI;rw[FJ]
   rw[FJ,S]at N;rw[FJ,T];exact Qux Y hv g5 J (λk q=>hk k (by simp[q])) u M (by omega) (by simpa only[BK]using h1) X N
theorem Q5f {x:Ax3} {mv:Int} {Q:Int->Pt->Prop} (D:mv=1\/mv= -1):∀{a s:Int} {d:Pt} {l:List Pce},DD x mv Q a s d l->l≠[]->∀u:Int,a<=u->u<=BK a l->0<=mv*(plL l u-s)/\0<=mv*(B2 s l-plL l u)
 |_,_,_,[],_,h,_,_,_=>absurd rfl h
 |a,s,d,c::l,h,_,u,S,M=>by
  obtain⟨g1,g2,T,I,N⟩:=h;have G:c.move=mv\/c.move=0:=by rcases I with I|I<;>simp[I.1]
  have he:=Ui D N;unfold plL;by_cases J:u<=c.at_+c.units
  ·rw[aa J,g1,g2];unfold B2;rw[g1]at J;generalize B2 (s+c.move*c.units) l=E at*;rcases G with G|G<;>rcases D with D|D<;>rw[G]at he⊢<;>subst D<;>omega
  ·rw[ab J];have L:l≠[]:=by
    intro q;subst q;simp only[BK]at M;omega
   have O:=Q5f D N L u (by omega) (by simpa only[BK]using M);unfold B2;generalize B2 (s+c.move*c.units) l=E at*;rcases G with G|G<;>rcases D with D|D<;>rw[G]at O<;>subst D<;>omega
theorem Q86 {p:Pth} {x:Ax3} {d:Pt} {a b:Int} (J:Ax3OK x) (G:GoodPath p) (u:Int):0<=AE (AR p x d a b) u/\AE (AR p x d a b) u<=Ay p.aE:=by
 have S:=Rl G;obtain⟨T,I,L,-⟩:=OQ (d:=d) (a:=a) (b:=b) (Q:=λ_ _=>True) J G (λ_ _ _ _ _ _ _ _=>trivial);have M:=PV d a b J G;have E:=UQ p a b;have O:0<=Bj a (Ay p.aE)/\Bj a (Ay p.aE)<=Ay p.aE:=by unfold Bj;omega
 have U:0<=Bj b (Ay p.aE)/\Bj b (Ay p.aE)<=Ay p.aE:=by unfold Bj;omega
 by_cases D:(AR p x d a b).aD=[]
 ·unfold AE;rw[aa D,L];exact O
 ·have N:=K6 M u;have hb:=Q5f E I.ch D (clT (AR p x d a b) u) N.1 (by rw[I.len];exact N.2);rw[I.s,L]at hb;rw[Ld M u D];generalize plL (AR p x d a b).aD (clT (AR p x d a b) u)=z at*;rcases E with E|E<;>rw[E]at hb<;>omega
theorem Zdg {p:Pth} {x:Ax3} {d:Pt} {a b:Int} (E:Ax3M x) (M:GoodPath p) (G:okD d) {u:Int} (S: ¬HK (AR p x d a b) u):
  Eo p x (AR p x d a b) u=⟨(Gb p x (AE (AR p x d a b) u)).x+Ck x.a (Fi (AR p x d a b) u).x,(Gb p x (AE (AR p x d a b) u)).y+Ck x.b (Fi (AR p x d a b) u).y,(Gb p x (AE (AR p x d a b) u)).z+Ck x.c (Fi (AR p x d a b) u).z⟩/\okD (Fi (AR p x d a b) u):=by
 obtain⟨d',N,h2,I⟩:=OQ (d:=d) (a:=a) (b:=b) (Q:=λ_ _=>True) E.ok M (λ_ _ _ _ _ _ _ _=>trivial);have T:=PV d a b E.ok M;have U:=UQ p a b;have V:=Q9u (p:=p) (x:=x) (a:=a) (b:=b) G;by_cases D:(AR p x d a b).aD=[]
 ·have hf:Fi (AR p x d a b) u=d:=by unfold Fi;rw[D,I];rfl
  rw[hf];refine⟨?_,G⟩;unfold Eo shT;rw[aa D,aa D,aa D,I]
 ·have O:=K6 T u;have J:okD (AR p x d a b).dirs:=by rw[I];exact G
  have L: ¬((pcA (AR p x d a b).aD (fI (AR p x d a b).aD (clT (AR p x d a b) u))).move=0/\(pcA (AR p x d a b).aD (fI (AR p x d a b).aD (clT (AR p x d a b) u))).at_<clT (AR p x d a b) u/\clT (AR p x d a b) u<eI (AR p x d a b).aD (fI (AR p x d a b).aD (clT (AR p x d a b) u))):=λq=>S ⟨D,q⟩;have key:=fun(X:Axs) (f:Pt->Int) (Y:KN x X f)=>Qux Y U N.ch J V (clT (AR p x d a b) u) (AR p x d a b).dirs O.1 (by rw[N.len];exact O.2) D L;refine⟨?_,(key x.a Pt.x (Qm2 E.ok)).2⟩;unfold Eo shT iT;rw[ab D,ab D,ab D];have k1:=(key x.a Pt.x (Qm2 E.ok)).1;have k2:=(key x.b Pt.y (Q91 E.ok)).1;have k3:=(key x.c Pt.z (Zb9 E.ok)).1;rw[k1,k2,k3];rfl
theorem Zdm {K:Kf} (h:KOK K) (J:IV K) {c:Cv} (hb:EN K c=true) (to:Int):Eo K.p K.x (Da K c to) 0=F8 K c/\IV (sT K (Da K c to)):=by
 obtain⟨d,a,b,L,G⟩:=J;have E: ¬HK K.t (AB c):=by
  unfold EN at hb;rw[ak,Bool.not_eq_true']at hb;exact of_decide_eq_false hb.2
 have D:=E;rw[G]at D;obtain⟨m1,m2⟩:=Zdg h.f.x h.f.p L D;have pl:=Q86 (d:=d) (a:=a) (b:=b) h.f.x.ok h.f.p (AB c);rw[<-G]at m1 m2 pl;unfold Da;refine⟨?_,⟨_,_,_,m2,rfl⟩⟩;obtain⟨T,M,N,I⟩:=OQ (d:=Fi K.t (AB c)) (a:=AA K c) (b:=to) (Q:=λ_ _=>True) h.f.x.ok h.f.p (λ_ _ _ _ _ _ _ _=>trivial);have O:=PV (Fi K.t (AB c)) (AA K c) to h.f.x.ok h.f.p;have e:=(Zqa (p:=K.p) h.f.x (UQ K.p (AA K c) to) M O (by rw[I];exact m2) (Q9u m2)).1;have S:Bj (AA K c) (Ay K.p.aE)=AE K.t (AB c):=by
  show Bj (AE K.t (AB c)) (Ay K.p.aE)=_;unfold Bj;omega
 rw[N,I,S]at e;rw[e];exact m1.symm
theorem Qz4 {x:Ax3} {Q:Int->Pt->Prop}:∀{a s:Int} {d:Pt} {l:List Pce} {u:Int},DD x 1 Q a s d l->l≠[]->u<=BK a l->plL l u<=B2 s l
 |_,_,_,[],_,_,h,_=>absurd rfl h
 |a,s,d,c::l,u,h,_,J=>by
  obtain⟨N,O,S,D,L⟩:=h;have G:c.move=1\/c.move=0:=by rcases D with D|D<;>simp[D.1]
  have he:=Ui (.inl rfl) L;unfold plL;by_cases M:u<=c.at_+c.units
  ·rw[aa M];unfold B2;generalize B2 (s+c.move*c.units) l=E at*;rcases G with G|G<;>rw[G]at he⊢<;>omega
  ·rw[ab M];have I:l≠[]:=by
    intro e;subst e;simp only[BK]at J;omega
   exact Qz4 L I J
theorem Uw {x:Ax3} {Q:Int->Pt->Prop}:∀{a s:Int} {d:Pt} {l:List Pce},DD x 1 Q a s d l->l≠[]->∀v w:Int,a<=v->v<=w->w<=BK a l->s<=plL l v/\plL l v<=plL l w
 |_,_,_,[],_,h,_,_,_,_,_=>absurd rfl h
 |a,s,d,c::l,h,_,v,w,O,N,E=>by
  obtain⟨g1,g2,S,G,L⟩:=h;have D:c.move=1\/c.move=0:=by rcases G with G|G<;>simp[G.1]
  have more: ¬w<=a+c.units->l≠[]:=λT e=>by
   subst e;simp only[BK]at E;omega
  simp only[BK]at E;unfold plL;rw[g1,g2];by_cases M:v<=a+c.units
  ·rw[aa M];by_cases I:w<=a+c.units
   ·rw[aa I];rcases D with D|D<;>rw[D]<;>omega
   ·rw[ab I];have J:=Uw L (more I) w w (by omega) (cd _) E;rcases D with D|D<;>rw[D]at J⊢<;>omega
  ·rw[ab M,ab (by omega)];have J:=Uw L (more (by omega)) v w (by omega) N E;rcases D with D|D<;>rw[D]at J<;>omega
structure Fw (t : Trk) (n : Int) : Prop where
 wh:∀z,0<=z->z<=n->0<=Bk t z/\Bk t z<=t.length/\AE t (Bk t z)=z/\∀v,0<=v->v<Bk t z->AE t v<z
 up:∀u v,u<=v->AE t u<=AE t v
 rg:∀u,0<=AE t u/\AE t u<=n
 zero:AE t 0=0
 len:0<=t.length/\t.length<=900000000000000
theorem Fw.le {t:Trk} {n:Int} (h:Fw t n) {z u:Int} (D:0<=z) (E:z<=n) (G:u<=Bk t z):AE t u<=z:=by
 have I:=h.wh z D E;have:=h.up u _ G;omega
theorem Fw.ge {t:Trk} {n:Int} (h:Fw t n) {z u:Int} (D:0<=z) (E:z<=n) (G:0<=u) (I:z<=AE t u):Bk t z<=u:=by
 apply Decidable.byContradiction;intro c;have:=(h.wh z D E).2.2.2 u G (by omega);omega
theorem Fw.wmono {t:Trk} {n:Int} (h:Fw t n) {y z:Int} (E:0<=y) (G:y<=z) (I:z<=n):Bk t y<=Bk t z:=by
 have D:=h.wh z (by omega) I;refine h.ge E (by omega) D.1 ?_;rw[D.2.2.1];exact G
end Go.Bm
namespace Go.Bm
theorem Zrv (a b c:Int) {d:Int} (h:d<=0):G4 [I a,I b,I c,I d]=some [I 0]:=by
 show Ut _=_;rw[Qdm,BO (al h)]
theorem Zl5 {a b c:Int} (h:Plan3 a b c):GV [I a,I b,I c,I 0,I 0]=some [B true]:=by
 have key:∀{M:Fn},(∀d:Int,d<=0->M [I a,I b,I c,I d]=some [I 0])->QI M [I a,I b,I c,I 0,I 0]=some [B true]:=by
  intro M D;have G:=h.a;have hb:=h.b
  rw[YR,Ae (x:=0-a) (by omega)];refine eF (am (by omega)) (eF (am (by omega)) (eT rfl (eF (am (by omega)) ?_)));refine eB (D _ (by decide)) (eT rfl (eB (D 0 (by omega)) ?_));rfl
 exact key λd E=>Zrv a b c E
theorem Z34 {a b c:Int} (h:Plan3 a b c):KS [I a,I b,I c,I 0,I 0]=some [.view Aa [],B true]:=by
 have key:∀{G D E:Fn},E [I a,I b,I c]=some [B true]->D [I a,I b,I c,I 0,I 0]=some [B true]->QZ G D E (Al (ID G D E)) [I a,I b,I c,I 0,I 0]=some [.view Aa [],B true]:=by
  intro G D E J L;rw[Wi];refine eB J (eF rfl (eB L (eF rfl ?_)));have M:ID G D E [.view Aa [],I 0,I 0,I a,I b,I c]=some (2,[.view Aa []]):=by
   rw[QS];rfl
  exact eB (A7 M (by simp)) rfl
 refine key ?_ (Zl5 h);rw[QN,al];exact⟨h.a.1,h.a.2,h.b.1,h.b.2,h.c.1,h.c.2⟩
theorem Zhm {a b c:Int} (h:Plan3 a b c) (D E G J:Int):Fk [I a,I b,I c,I D,I 0,I 0,I E,I G,I J]=some [.view Aa [],B true]:=by
 have key:∀{M:Fn},M [I a,I b,I c,I 0,I 0]=some [.view Aa [],B true]->Po M (Al (H3 M)) [I a,I b,I c,I D,I 0,I 0,I E,I G,I J]=some [.view Aa [],B true]:=by
  intro M L;rw[Tm];have N:H3 M [.view Aa [],I D, .view Aa [],I 0,I 0]=some (1,[.view Aa []]):=by
   rw[Qe1];rfl
  exact eB L (eF rfl (eT rfl (eT rfl (eB (A7 N (by simp)) rfl))))
 exact key (Z34 h)
theorem Ztu {K:Kf} (h:Plan3 K.pa K.pb K.pc) {c:Cv} (D:c.m1=0) (E:c.m2=0):Ly K c=c.m0:=by
 have key:∀{M:Fn},M [I K.pa,I K.pb,I K.pc,I c.m0,I 0,I 0,I c.m3,I c.m4,I c.m5]=some [.view Aa [],B true]->Ln M [I K.pa,I K.pb,I K.pc,I c.m0,I 0,I 0,I c.m3,I c.m4,I c.m5]=some [I c.m0,B true]:=by
  intro M G;rw[U4];exact eB G (eF rfl (eT rfl rfl))
 have e:F5 [I K.pa,I K.pb,I K.pc,I c.m0,I 0,I 0,I c.m3,I c.m4,I c.m5]=some [I c.m0,B true]:=key (Zhm h _ _ _ _);unfold Ly one;rw[D,E,e];rfl
abbrev UZ:Axs:=⟨8,10,10,10,-16777216,16777216,0,0,0,[]⟩
theorem Qiy:AxOK UZ:=⟨by decide,by decide,by decide,λh=>absurd rfl h,⟨λx h=>(by cases h),λi h=>(by simp at h)⟩,by decide,by decide⟩
abbrev LH:Ax3:=⟨UZ,UZ,UZ⟩
theorem machX:MachOK LH 9 3 100 1 0:=⟨⟨Qiy,Qiy,Qiy⟩,⟨by decide,by decide,by decide⟩,by decide,by decide⟩
abbrev Cg:Itm:=⟨12,0,⟨0,0,0⟩,⟨0,0,0⟩,0,⟨0,0,0⟩,0,false,0,false,0,0,0,0,0,false⟩
theorem Q2u:Items 4084 ⟨0,0,0⟩ []:=⟨trivial,λit h=>by cases h⟩
theorem Zxy:Items 4084 ⟨0,0,0⟩ [Cg]:=by
 have h:=NL Q2u (it:=Cg) (λh=>by unfold AF at h;simp at h) (.inr ⟨by decide,λh=>by simp at h,λh=>by simp at h,λh=>by simp at h⟩);exact h
abbrev kX (l:List Itm):Kf:=kfP LH 9 3 100 1 0 l true
theorem VY {l:List Itm} (h:(AU l).aE=[]) (c:Cv):HP (kX l) c=false:=by
 unfold HP El;rw[h];rfl
theorem gd0 (l:List Itm):Gd (kX l) 0 Cb:=⟨rfl,⟨by decide,by simp⟩,λh=>(by cases h),RF machX.plan,by decide⟩
theorem We:AU []=⟨⟨0,0,0⟩,[],[]⟩:=rfl
theorem T8:AU [Cg]=⟨⟨0,0,0⟩,[],[⟨0,3,0⟩]⟩:=by
 have e:Au [Cg] 1=⟨[],[⟨0,3,0⟩],0,0,-1,false,⟨0,0,0⟩,⟨0,0,0⟩⟩:=by
  rw[Au,Au];unfold Eg;rw[ab (by decide)];rfl
 show Pth.mk (Au [Cg] 1).start (Au [Cg] 1).aE (Au [Cg] 1).aC=_;rw[e]
theorem Qyr {p:Pth} (h:p.aE=[]):AR p LH ⟨1,1,1⟩ 0 (Ay p.aE)=⟨[],0,0,⟨1,1,1⟩⟩:=by
 unfold AR;rw[h];rfl
theorem kX0:kX []=⟨LH,9,3,100,1,0,[],true,⟨⟨0,0,0⟩,[],[]⟩,0,JI [],⟨[],0,0,⟨1,1,1⟩⟩⟩:=by
 show Kf.mk _ _ _ _ _ _ _ _ _ _ _ _=_;rw[Qyr (p:=AU []) (by rw[We]),We];rfl
theorem kX1:kX [Cg]=⟨LH,9,3,100,1,0,[Cg],true,⟨⟨0,0,0⟩,[],[⟨0,3,0⟩]⟩,0,JI [Cg],⟨[],0,0,⟨1,1,1⟩⟩⟩:=by
 show Kf.mk _ _ _ _ _ _ _ _ _ _ _ _=_;rw[Qyr (p:=AU [Cg]) (by rw[T8]),T8];rfl
abbrev JM:Cv:={Cb with aL:=true}
theorem Q2a {K:Kf} (D:∀c,HP K c=false) (E:K.ramp=1):IG K Cb []=JM:=by
 show Gh (Fb K (Bc (E0 Cb)))=_;unfold Fb;rw[ab (by rw[D];simp),E];rfl
theorem Zgg:(stC (kX []) Cb []).1=7:=by
 have e:=Q2a (VY (l:=[]) (by rw[We])) rfl;have D:A0 (kX []) JM=(0,JM):=rfl;unfold stC;rw[e,D,aa rfl];have E:AN (kX []) JM=(0,-1):=by
  rw[kX0];unfold AN By;rfl
 unfold Cx;rw[E];rfl
abbrev KA:Cv:={JM with on:=true,idx:=0,aM:=true,cnt:=1}
theorem st1:stC (kX [Cg]) Cb []=(2,KA):=by
 have e:=Q2a (VY (l:=[Cg]) (by rw[T8])) rfl;have D:A0 (kX [Cg]) JM=(0,JM):=rfl;unfold stC;rw[e,D,aa rfl];have E:AN (kX [Cg]) JM=(0,0):=by
  have e2:=Ztu (K:=kX [Cg]) machX.plan (c:=JM) rfl rfl;unfold AN;rw[e2,kX1];rfl
 unfold Cx;rw[E,kX1];rfl
theorem Q6t:KW (kX [Cg]) Cb []=KA:=by
 unfold KW;rw[st1,kX1];rfl
theorem Z4b:(stC (kX [Cg]) KA [⟨0,4,0⟩]).1=3:=by
 have D:=VY (l:=[Cg]) (by rw[T8]);have e:IG (kX [Cg]) KA [⟨0,4,0⟩]=Gh (spS (Bc (E0 (DS KA [⟨0,4,0⟩]))) 1):=by
  unfold IG Fb;rw[ab (by rw[D];simp)]
 unfold stC;rw[e,kX1];rfl
theorem Za1 (K:Kf) (c:Cv) (E:List Evn) (l:List AC):gA (tkC K c E++l) 2=(stC K c E).1:=rfl
theorem Zai:Qb1 []:=⟨by simp,λe h=>by cases h⟩
theorem Z3i {D E:Fn}
  (M:E (AM LH++[I 9,I 3,I 100,I 1,I 0]++[.view Ai (([]:List Itm).map Ag),B true])=some (I 0::Ab (kX []) Cb))
  (N:E (AM LH++[I 9,I 3,I 100,I 1,I 0]++[.view Ai ([Cg].map Ag),B true])=some (I 0::Ab (kX [Cg]) Cb))
  (G:∃l,D (.view kPt (([]:List Evn).map evR)::Ab (kX []) Cb)=some l/\gA l 2=7)
  (J:∃l,D (.view kPt (([]:List Evn).map evR)::Ab (kX [Cg]) Cb)=some (l++Ab (kX [Cg]) KA)/\l.length=9/\gA l 2=2)
  (L:∃l,D (.view kPt ([(⟨0,4,0⟩:Evn)].map evR)::Ab (kX [Cg]) KA)=some l/\gA l 2=3):
  XC D E []=some [B true]:=by
 rw[Zwm];obtain⟨T,s0,m0⟩:=G;obtain⟨O,s1,S,m1⟩:=J;obtain⟨U,s2,m2⟩:=L
 match O,S with
 |[V,a1,a2,a3,a4,a5,a6,X,Y],_=>
  refine eB M (eB N (eF rfl (eF rfl (eB s0 (eT (beT m0) (eB s1 (eT (beT m1) (eB s2 ?_))))))));rw[m2];rfl
theorem Qs6:KI []=some [B true]:=by
 have G:=Qph machX (items:=[]) (by simp) Q2u true;have D:=Qph machX (items:=[Cg]) (by simp) Zxy true;have J:=Qlc G.2 (gd0 []) (by omega) Zai;have I:=Qlc D.2 (gd0 [Cg]) (by omega) Zai;have g1:Gd (kX [Cg]) 1 KA:=by
  have:=Zti D.2 (gd0 [Cg]) (by omega) [];rw[Q6t]at this;exact this
 have L:=Qlc D.2 g1 (by omega) (E:=[⟨0,4,0⟩]) ⟨by simp,λe h=>by simp at h;subst h;simp⟩;rw[Q6t]at I;exact Z3i G.1 D.1 ⟨_,J,(Za1 _ _ _ _).trans Zgg⟩ ⟨_,I,rfl,by show(stC (kX [Cg]) Cb []).1=2;rw[st1]⟩ ⟨_,L,(Za1 _ _ _ _).trans Z4b⟩
abbrev atE (E:List Evn) (k:Int):List Evn:=E.filter λe=>e.cycle==k
theorem Zma {E:List Evn} {k:Int} {e:Evn} (h:e∈atE E k):e∈E:=(List.mem_filter.1 h).1
theorem Zyh (E:List Evn) (k:Int):(atE E k).length<=E.length:=List.length_filter_le _ _
structure Tk (K : Kf) (o : List AC) (c : Cv) (s : Int) (m : Pt) : Prop where
 ex:∃(pul outs:Rw) (mode sp ft:Int),o=HR pul outs mode s m sp ft++Ab K c
theorem gdK {K:Kf} (h:KOK K):Gd K 0 Cb:=⟨rfl,⟨by decide,by simp⟩,λh=>(by cases h),RF h.plan,by decide⟩
structure Cm (c : Cv) : Prop where
 on:c.on=true->c.m1=0
 aH:c.aH≠0->c.m1=0
 aG:c.aG=false
structure Mt (c d : Cv) : Prop where
 m0:d.m0=c.m0
 m1:d.m1=c.m1
 m2:d.m2=c.m2
 aG:d.aG=c.aG
 g0:d.g0=c.g0
 g1:d.g1=c.g1
 g2:d.g2=c.g2
 o2:d.o2=c.o2
theorem Mt.rfl {c:Cv}:Mt c c:=⟨Eq.refl _,Eq.refl _,Eq.refl _,Eq.refl _,Eq.refl _,Eq.refl _,Eq.refl _,Eq.refl _⟩
theorem Mt.trans {a b c:Cv} (h:Mt a b) (g:Mt b c):Mt a c:=
 ⟨g.m0.trans h.m0,g.m1.trans h.m1,g.m2.trans h.m2,g.aG.trans h.aG,g.g0.trans h.g0,g.g1.trans h.g1,g.g2.trans h.g2,g.o2.trans h.o2⟩
theorem Mt.cm {c d:Cv} (h:Mt c d) (D:c.m1=0) (E:c.aG=false):Cm d:=
 ⟨λ_=>h.m1.trans D,λ_=>h.m1.trans D,h.aG.trans E⟩
theorem Zlu (K:Kf) (c:Cv):Mt c (E_ K c).2:=by
 have done:∀d:Cv,Mt c d->Mt c (GK d):=λd k=>k.trans ⟨rfl,rfl,rfl,rfl,rfl,rfl,rfl,rfl⟩;have cmd:∀D sp:Int,Mt c (HJ c D sp):=λD sp=>⟨rfl,rfl,rfl,rfl,rfl,rfl,rfl,rfl⟩;unfold E_;split
 ·split
  ·exact done c Mt.rfl
  ·exact Mt.rfl
 ·split
  ·exact done c Mt.rfl
  ·split
   ·split
    ·exact Mt.rfl
    ·exact done c Mt.rfl
   ·split
    ·split
     ·exact done _ (cmd _ _)
     ·exact cmd _ _
    ·split
     ·exact⟨rfl,rfl,rfl,rfl,rfl,rfl,rfl,rfl⟩
     ·exact done c Mt.rfl
theorem Q6l (K:Kf) (c:Cv):Mt c (AX K c).2:=Mt.trans (b:=BL c) ⟨rfl,rfl,rfl,rfl,rfl,rfl,rfl,rfl⟩ (Zlu K _)
theorem Z48 (K:Kf) (c:Cv) (i:Int):Mt c (CE K c i).2:=Mt.trans (b:={c with on:=true,idx:=i,aM:=EH K c i,cnt:=0}) ⟨rfl,rfl,rfl,rfl,rfl,rfl,rfl,rfl⟩ (Q6l K _)
structure Os (c d : Cv) : Prop where
 on:d.on=c.on
 aH:d.aH=c.aH
 aG:d.aG=c.aG
 gu:(d.g0=c.g0/\d.g1=c.g1/\d.g2=c.g2)\/(c.g0=0/\d.g0=1/\d.g1=18)
theorem Os.trans {a b c:Cv} (h:Os a b) (g:Os b c):Os a c:=by
 refine⟨g.on.trans h.on,g.aH.trans h.aH,g.aG.trans h.aG,?_⟩;rcases h.gu with⟨D,G,I⟩|⟨D,G,I⟩<;>rcases g.gu with⟨k0,E,J⟩|⟨k0,E,J⟩
 ·exact .inl ⟨k0.trans D,E.trans G,J.trans I⟩
 ·exact .inr ⟨D.symm.trans k0,E,J⟩
 ·exact .inr ⟨D,k0.trans G,E.trans I⟩
 ·omega
theorem Q7j (c:Cv):Os c (Co c):=by
 unfold Co;split
 ·rename_i h;exact⟨rfl,rfl,rfl, .inr ⟨h,rfl,rfl⟩⟩
 ·exact⟨rfl,rfl,rfl, .inl ⟨rfl,rfl,rfl⟩⟩
theorem Qm0 (K:Kf) (c:Cv) (l:Int):Os c (Dg K c l):=⟨rfl,rfl,rfl, .inl ⟨rfl,rfl,rfl⟩⟩
theorem Q19 (c:Cv) (o:List AC):Os c (HT c o):=⟨rfl,rfl,rfl, .inl ⟨rfl,rfl,rfl⟩⟩
theorem Qsj (K:Kf) (c:Cv) (l:Int) (s:Sgm):Os c (Fl K c l s):=by
 unfold Fl;split
 ·exact(Qm0 K c l).trans ⟨rfl,rfl,rfl, .inl ⟨rfl,rfl,rfl⟩⟩
 ·unfold In;split
  ·exact(Qm0 K c l).trans ⟨rfl,rfl,rfl, .inl ⟨rfl,rfl,rfl⟩⟩
  ·split
   ·exact(Q19 c _).trans (Q7j _)
   ·exact Q19 c _
theorem Zna (K:Kf) (c:Cv) (l:Int):Os c (DB K c l):=by
 unfold DB;split
 ·exact Qm0 K c l
 ·split
  ·exact Qsj K c l _
  ·split
   ·exact Os.trans (b:=goC K c (sgK K c)) ⟨rfl,rfl,rfl, .inl ⟨rfl,rfl,rfl⟩⟩ (Qsj K _ l _)
   ·split
    ·exact Q7j c
    ·exact⟨rfl,rfl,rfl, .inl ⟨rfl,rfl,rfl⟩⟩
def Gg (c:Cv):Prop:=(c.g0=0/\c.g1=0/\c.g2= -1)\/(c.g0=1/\c.g1=18)
theorem Os.gg {c d:Cv} (h:Os c d) (g:Gg c):Gg d:=by
 rcases h.gu with⟨G,D,E⟩|⟨G,D,E⟩
 ·unfold Gg;rw[G,D,E];exact g
 ·exact .inr ⟨D,E⟩
theorem Mt.gg {c d:Cv} (h:Mt c d) (g:Gg c):Gg d:=by unfold Gg;rw[h.g0,h.g1,h.g2];exact g
theorem Os.cm {c d:Cv} (h:Os c d) (D:c.on=false) (E:c.aH=0) (G:c.aG=false):Cm d:=
 ⟨λe=>(by rw[h.on,D]at e;cases e),λe=>absurd (h.aH.trans E) e,h.aG.trans G⟩
def Sp (c:Cv):Prop:=c.g0=1/\c.g1=21/\c.g2= -1/\c.o2=true
theorem Zn6 {a k c v x:Int} (D:Plan3 a k c) (E:CQ a k v x) (O:v<=0):AG a k v x=0:=by
 have J:=closed D E;have L:=FF D J.1;have M:v=0:=by have:=FF D E;omega
 obtain⟨B,I⟩:∃B,B=bs k v 20 (-x-k) (min (k-x) a):=⟨_,rfl⟩;obtain⟨S,T,U,V,G,X⟩:=Qat D E I;have:=KB (k:=k) (b:=B) (by have:=D.b;omega);have Y:=E.2.2.2.2 M;have ha:=D.a;have e:AG a k v x= -B:=by unfold AG;rw[I]
 rw[e];rcases G with G|G
 ·omega
 ·by_cases N:B+1<=0
  ·rw[JC N]at G;omega
  ·omega
def stL (K:Kf) (c:Cv):List Int:=(AK K.pa K.pb c.m1 c.m2).1
theorem YY {K:Kf} (h:Plan3 K.pa K.pb K.pc) {c:Cv} (D:Mo K c) (E:c.m1<=0):stL K c=[]:=by
 unfold stL;rw[(Tt h D).2,aa E]
theorem Qm {K:Kf} {c d:Cv} (D:d.m1=c.m1) (E:d.m2=c.m2):stL K d=stL K c:=by unfold stL;rw[D,E]
def Nx (K:Kf) (c e:Cv):Prop:=(stL K c=[]/\stL K e=[]/\e.m0=c.m0)\/(stL K c=e.m1::stL K e/\e.m0=c.m0+e.m1)
theorem Nx.still {K:Kf} (E:Plan3 K.pa K.pb K.pc) {c e:Cv} (G:Mo K c) (h:c.m1=0) (m:Mt c e):Nx K c e:=by
 have D:=YY E G (by omega);exact .inl ⟨D,(Qm m.m1 m.m2).trans D,m.m0⟩
theorem Sp.mt {c d:Cv} (h:Sp c) (m:Mt c d):Sp d:=⟨m.g0.trans h.1,m.g1.trans h.2.1,m.g2.trans h.2.2.1,m.o2.trans h.2.2.2⟩
theorem Zoo {a k c:Int} (J:Plan3 a k c) {u:Int} (O: -1000000000000000<=u/\u<=1000000000000000) {v x:Int} (S:(AK a k v x).2=true) (D E G:Int):
  F5 [I a,I k,I c,I u,I v,I x,I D,I E,I G]=some [I (Ct u (AK a k v x).1),B true]:=by
 have key:∀{M:Fn},M [I a,I k,I c,I u,I v,I x,I D,I E,I G]=some [.view Aa ((BJ u (AK a k v x).1).map Ao),B (AK a k v x).2]->Ln M [I a,I k,I c,I u,I v,I x,I D,I E,I G]=some [I (Ct u (AK a k v x).1),B true]:=by
  intro M L;have hb:=P3 J v x;rw[S]at L;rw[U4];generalize(AK a k v x).1=l at*;refine eB L (eF rfl ?_);show cond ((((BJ u l).map Ao).length:Int)==0) _ (cond (decide (0<=wrap .i64 ((((BJ u l).map Ao).length:Int)-1))&&decide (wrap .i64 ((((BJ u l).map Ao).length:Int)-1)<(((BJ u l).map Ao).length:Int))) (some [I (Af (nth .dead (nth [] ((BJ u l).map Ao) (wrap .i64 ((((BJ u l).map Ao).length:Int)-1)).toNat) 0)),B true]) none)=_;have T:((BJ u l).map Ao).length=l.length:=by rw[af,KV]
  rw[T];refine eC (λe=> ?_) λe=> ?_
  ·have e:(l.length:Int)=0:=eq_of_beq e;have:l=[]:=List.length_eq_zero_iff.1 (by omega);subst this;rfl
  ·have e:(l.length:Int)≠0:=by simpa using e
   rw[Ae (x:=(l.length:Int)-1) (by omega)];refine eT (by simp;omega) ?_;have N:=YV u l (by intro q;rw[q]at e;simp at e);rw[KV]at N;have U:((l.length:Int)-1).toNat=l.length-1:=by omega
   have V:nth [] ((BJ u l).map Ao) (l.length-1)=Ao (Ct u l):=by
    rw[BW,List.getD,dk,N];rfl
   rw[U,V];rfl
 exact key (Zbd J O v x D E G)
theorem Zli {MS MF:Fn} {p:Pth} {x:Ax3} {t:Trk} (E:∀{way:Rw},way.length<=100000->(MS (pxt p x t [.view Aa way])).isSome=true)
  {a b c m0 m1 m2 m3 m4 m5 l:Int} {L:List Int} (V:L.length<=4096) (M:MF [I a,I b,I c,I m0,I m1,I m2,I m3,I m4,I m5]=some [.view Aa ((BJ m0 L).map Ao),B true]):
  Out (λo=>bA o 0=true->Ct m0 L<=wrap .i64 (l*256)) (SW MS MF (pxt p x t [I a,I b,I c,I m0,I m1,I m2,I m3,I m4,I m5,I l])):=by
 rw[Qtf];refine .bind (p:=λo=>o=_) ⟨_,M,rfl⟩ λo e=> ?_;subst e;have no:∀{X:List AC},X=[B false]->bA X 0=true->Ct m0 L<=wrap .i64 (l*256):=λe h=>by subst e;simp[bA,nth,C_]at h
 have N:wA [AC.view Aa ((BJ m0 L).map Ao),B true] 0=(BJ m0 L).map Ao:=rfl;rw[N];have O:((BJ m0 L).map Ao).length=L.length:=by rw[af,KV]
 have S:0<L.length->Af (nth .dead (nth [] ((BJ m0 L).map Ao) ((((BJ m0 L).map Ao).length:Int)-1).toNat) 0)=Ct m0 L:=λG=>by
  rw[O];have J:=YV m0 L (by intro q;rw[q]at G;simp at G);rw[KV]at J;have T:((L.length:Int)-1).toNat=L.length-1:=by omega
  have U:nth [] ((BJ m0 L).map Ao) (L.length-1)=Ao (Ct m0 L):=by
   rw[BW,List.getD,dk,J];rfl
  rw[T,U];rfl
 have e0:L.length=0->Ct m0 L=m0:=λh=>by rw[List.length_eq_zero_iff.1 h];rfl
 generalize(BJ m0 L).map Ao=sp at*;refine .cond (λ_=> .some (no rfl)) λ_=> ?_;refine .cond (λc=> ?_) λc=> ?_
 ·have c:=Bb c;rw[Ae (x:=(sp.length:Int)-1) (by omega)];refine .cond (λ_=> ?_) λc=>by simp at c;omega
  rw[S (by omega)];refine .cond (λ_=> .some (no rfl)) λD=> ?_;have D:=Bs D;refine .cond (λ_=> ?_) λc=>by rw[Cy (by simp;omega)]at c;cases c
  refine .cond (λ_=> ?_) λc=>by rw[Cy (by simp;omega)]at c;cases c
  exact .ibind (E (by simp;omega)) λ_ _=> .some λ_=>by omega
 ·have c:=Bs c;have e1:=e0 (by omega);refine .cond (λ_=> .some (no rfl)) λD=> ?_;have D:=Bs D;refine .cond (λ_=> ?_) λc=>by rw[Cy (by simp;omega)]at c;cases c
  refine .cond (λ_=> ?_) λc=>by rw[Cy (by simp;omega)]at c;cases c
  exact .ibind (E (by simp;omega)) λ_ _=> .some λ_=>by omega
def Ul (pa pb m0 v x l:Int):Prop:=(AK pa pb v x).2=true/\Ct m0 (AK pa pb v x).1<=wrap .i64 (l*256)
theorem Qya {p:Pth} {x:Ax3} {t:Trk} (h:Fix p x t) {a b c:Int} (E:Plan3 a b c) {m0:Int} (v z m3 m4 m5 l:Int) (L:(AK a b v z).2=true-> -1000000000000000<=m0/\m0<=1000000000000000):
  Out (λo=>bA o 0=true->Ul a b m0 v z l) (IT (pxt p x t [I a,I b,I c,I m0,I v,I z,I m3,I m4,I m5,I l])):=by
 by_cases D:(AK a b v z).2=true
 ·have J:=Zbd E (L D) v z m3 m4 m5;rw[D]at J;have:=Zli (MS:=Oq) (MF:=Fk) (l:=l) (Qw3 h) (P3 E v z).1 J;exact this.mono λo G hb=>⟨D,G hb⟩
 ·exact(Wk h E m0 v z m3 m4 m5 l).mono λo G hb=>absurd (G hb) D
theorem Qti {K:Kf} (h:KOK K) {c:Cv} (D:Mo K c) (L: -300000000000<=c.m0/\c.m0<=300000000000) (l:Int) (E:Bool):Out (QG c.m0 c.m1 c.m3 c.m4 (λv=>Ul K.pa K.pb (wrap .i64 (c.m0+v)) v (wrap .i64 (v-c.m1)) l) λr=>r=AG K.pa K.pb c.m1 c.m2)
  (Fv (pxt K.p K.x K.t [I K.pa,I K.pb,I K.pc,I c.o0,I c.o1,B E,B c.o3,B c.o4,I c.m0,I c.m1,I c.m2,I c.m3,I c.m4,I c.m5,I l])):=
 Qw9 (F := λ_ => True) (by have := h.plan.b; omega) (Ud h.plan D) (λv _ _ _ => Qya h.f h.plan _ _ _ _ _ _ λG => by
  have:=FF h.plan (HF.1 G).1;rw[Ae (by omega)];omega) (λv=>Q30 h.f ..) TY Qoj (λ_ J=>Qvb J)
theorem Z5v {K:Kf} (h:KOK K) {c:Cv} (D:Mo K c) (E: -300000000000<=c.m0/\c.m0<=300000000000) (l:Int) {lead:Int} (G:i64 lead):Out (P4 c.m0 c.m1 c.m3 c.m4 (λv=>Ul K.pa K.pb (wrap .i64 (c.m0+v)) v (wrap .i64 (v-c.m1)) l) λr=>r=AG K.pa K.pb c.m1 c.m2)
  (Iu (pxt K.p K.x K.t [I K.pa,I K.pb,I K.pc,I c.o0,I c.o1,B c.o2,B c.o3,B c.o4,I c.m0,I c.m1,I c.m2,I c.m3,I c.m4,I c.m5,I l,I lead,I c.e0,I c.e1,I c.e2,I c.e3,I c.before,I c.s3])):=
 Qsg (Qti h D E l false) (Ud h.plan D) Qu0 (λv => Qya h.f h.plan _ _ _ _ _ _ λJ => by
  have:=FF h.plan (HF.1 J).1;rw[Ae (by omega)];omega) TY (λ_ L=>Za6 G L) Q58
def endC (K:Kf) (c:Cv):Int:=Ct c.m0 (stL K c)
theorem Mt.endC {K:Kf} {c d:Cv} (h:Mt c d):endC K d=endC K c:=by
 unfold Go.Bm.endC;rw[Qm h.m1 h.m2,h.m0]
theorem Zsf {K:Kf} (h:KOK K) {n:Int} {c e:Cv} (g:Gd K n c) (L:0<=n/\n<=10000) {v:Int} (E:v=wrap .i64 (c.m1+AG K.pa K.pb c.m1 c.m2)) (e0:e.m0=wrap .i64 (c.m0+v)) (e1:e.m1=v) (e2:e.m2=wrap .i64 (v-c.m1)):endC K e=endC K c:=by
 obtain⟨b1,b2,b3⟩:=Qwf h.plan g.mo E;have M:=FF h.plan (HF.1 b3).1;have N:=g.m0;rw[Ae (by omega)]at e0;obtain⟨-,s2⟩:=Tt h.plan g.mo;unfold endC stL;rw[e0,e1,e2,b2,s2,<-b1];by_cases D:c.m1<=0
 ·rw[aa D];have hb:=Zn6 h.plan g.mo.ready D;have G:=FF h.plan g.mo.ready;have v0:v=0:=by omega
  have I:(AK K.pa K.pb v (AG K.pa K.pb c.m1 c.m2)).1=[]:=by
   have J:(AK K.pa K.pb v (AG K.pa K.pb c.m1 c.m2)).2=true:=by rw[<-b2];exact b3
   rw[(Tt h.plan J).2,aa (by omega)]
  rw[I,v0];show c.m0+0=c.m0;omega
 ·rw[ab D];show _=Ct (c.m0+v) _;rfl
def EndQ (K:Kf) (c d:Cv) (l:Int):Prop:=endC K d<=wrap .i64 (l*256)\/endC K d=endC K c
theorem EndQ.of {K:Kf} (h:KOK K) {n:Int} {c e:Cv} (g:Gd K n c) (E:0<=n/\n<=10000) {v l:Int} (D:Ul K.pa K.pb (wrap .i64 (c.m0+v)) v (wrap .i64 (v-c.m1)) l\/∃r:Int,v=wrap .i64 (c.m1+r)/\r=AG K.pa K.pb c.m1 c.m2)
  (e0:e.m0=wrap .i64 (c.m0+v)) (e1:e.m1=v) (e2:e.m2=wrap .i64 (v-c.m1)):EndQ K c e l:=by
 rcases D with D|⟨r,D,rfl⟩
 ·refine .inl ?_;unfold endC stL;rw[e0,e1,e2];exact D.2
 ·exact .inr (Zsf h g E D e0 e1 e2)
theorem Qq6 {K:Kf} {n:Int} {c:Cv} (g:Gd K n c) (D:0<=n/\n<=10000): -300000000000<=c.m0/\c.m0<=300000000000:=by have:=g.m0;omega
theorem RY {K:Kf} (h:KOK K) {n:Int} {c:Cv} (g:Gd K n c) (D:0<=n/\n<=10000) (l:Int):EndQ K c (Dg K c l) l:=
 EndQ.of h g D (v:=nxV K c l) (Z3p (Qti h g.mo (Qq6 g D) l c.o2)) rfl rfl rfl
theorem EndQ.same {K:Kf} {c d e:Cv} {l:Int} (h:EndQ K c d l) (e0:e.m0=d.m0) (e1:e.m1=d.m1) (e2:e.m2=d.m2):EndQ K c e l:=by
 unfold EndQ at*;have:endC K e=endC K d:=by unfold endC;rw[Qm e1 e2,e0]
 rw[this];exact h
theorem Qlh (c:Cv):(Co c).m0=c.m0/\(Co c).m1=c.m1/\(Co c).m2=c.m2:=by unfold Co;split<;>exact⟨rfl,rfl,rfl⟩
theorem Zjl {K:Kf} (h:KOK K) {n:Int} {c:Cv} (g:Gd K n c) (D:0<=n/\n<=10000) (l:Int) {lead:Int} (G:i64 lead):EndQ K c (In K c l lead) l:=by
 unfold In;split
 ·exact(RY h g D l).same rfl rfl rfl
 ·have key:EndQ K c (HT c (thO K c l lead)) l:=by
   obtain⟨o,E,v,s,b,z,y,e,rfl,J⟩:=Z5v h g.mo (Qq6 g D) l G;have E:Iu (thL K c l lead)=some (Ea c.m0 c.m1 c.m3 c.m4 v++[I s,I b,I z,I y,I e]):=E;have e2:thO K c l lead=Ea c.m0 c.m1 c.m3 c.m4 v++[I s,I b,I z,I y,I e]:=by unfold thO;rw[E];rfl
   rw[e2];exact EndQ.of h g D J rfl rfl rfl
  split
  ·have:=Qlh (HT c (thO K c l lead));exact key.same this.1 this.2.1 this.2.2
  ·exact key
theorem Q1x {K:Kf} (h:KOK K) {n:Int} {c:Cv} (g:Gd K n c) (D:0<=n/\n<=10000) (l:Int) {s:Sgm} (E:i64 s.lead):EndQ K c (Fl K c l s) l:=by
 unfold Fl;split
 ·exact(RY h g D l).same rfl rfl rfl
 ·exact Zjl h g D l E
theorem Zya {K:Kf} (h:KOK K) {n:Int} {c:Cv} (g:Gd K n c) (D:0<=n/\n<=10000) (l:Int):EndQ K c (DB K c l) l:=by
 unfold DB;by_cases e:(sgK K c).lead=0
 ·rw[aa (.inl e)];exact RY h g D l
 ·have E:=(Gz h e).2.2;split
  ·exact RY h g D l
  ·split
   ·exact Q1x h g D l E
   ·split
    ·exact Q1x h (g.go (sgK K c)) D l E
    ·split
     ·have:=Qlh c;refine .inr ?_;unfold endC;rw[Qm this.2.1 this.2.2,this.1]
     ·exact .inr rfl
structure MarksOK (K : Kf) : Prop where
 fw:Fw K.t K.len
 closed:K.closed=true
 at_:∀i:Int,0<=i->i<K.p.aC.length->0<=(mkK K i).at_/\(mkK K i).at_<=K.len
 mono:∀i j:Int,0<=i->i<=j->j<K.p.aC.length->(mkK K i).at_<=(mkK K j).at_
theorem Zbv {A:Int->Bool} {c:Cv} {known frm:Int} (J:∀k,A k=true->Ca k c=true):∀(l:List Mrk) (i:Nat),(∀m∈l,A m.kind=true->frm<=m.at_/\m.at_<=known)->
  (EG c known frm l i=(known,-1)/\∀m∈l,A m.kind=false)\/∃j,∃L:j<l.length,EG c known frm l i=(l[j].at_,((i+j:Nat):Int))/\Ca l[j].kind c=true/\∀k,∀M:k<j,A (l[k]'(by omega)).kind=false
 |[],_,_=> .inl ⟨rfl,λm O=>by cases O⟩
 |m::l,i,h=>by
  unfold EG;by_cases E:Ca m.kind c=true/\frm<=m.at_/\m.at_<=known
  ·rw[aa E];exact .inr ⟨0,by simp,rfl,E.1,λk M=>by omega⟩
  ·rw[ab E];have N:A m.kind=false:=by
    cases e:A m.kind
    ·rfl
    ·exact absurd ⟨J _ e,h m (by simp) e⟩ E
   rcases Zbv J l (i+1) λq D=>h q (by simp[D])with⟨G,I⟩|⟨j,L,G,I,S⟩
   ·refine .inl ⟨G,λq D=> ?_⟩;rcases av.1 D with rfl|D
    ·exact N
    ·exact I q D
   ·refine .inr ⟨j+1,by simpa using L,?_,by simpa using I,λk M=> ?_⟩
    ·rw[G];have:i+1+j=i+(j+1):=by omega
     rw[this];rfl
    ·cases k with
     |zero=>exact N
     |succ k=>exact S k (by omega)
theorem Z4c {A:Int->Bool} {K:Kf} {c:Cv} {known frm:Int} (U:∀k,A k=true->Ca k c=true) (V:0<=c.next) (X:∀i:Int,c.next<=i->i<K.p.aC.length->A (mkK K i).kind=true->frm<=(mkK K i).at_/\(mkK K i).at_<=known):
  (By K c known frm=(known,-1)/\∀i:Int,c.next<=i->i<K.p.aC.length->A (mkK K i).kind=false)\/
  ∃j:Int,By K c known frm=((mkK K j).at_,j)/\c.next<=j/\j<K.p.aC.length/\Ca (mkK K j).kind c=true/\∀i:Int,c.next<=i->i<j->A (mkK K i).kind=false:=by
 have J:(max c.next 0).toNat=c.next.toNat:=by rw[Int.max_eq_left V]
 have L:∀(k:Nat) (D:k<(K.p.aC.drop c.next.toNat).length),(K.p.aC.drop c.next.toNat)[k]=mkK K ((c.next.toNat+k:Nat):Int):=λk D=>by
  rw[List.getElem_drop];unfold mkK;rw[aj,List.getD,ah (by rw[bq]at D;omega)];rfl
 have em:∀{i:Int},c.next<=i->i<K.p.aC.length->∃k,∃D:k<(K.p.aC.drop c.next.toNat).length,mkK K i=(K.p.aC.drop c.next.toNat)[k]/\(k:Int)=i-c.next:=fun{i} E G=>by
  refine⟨(i-c.next).toNat,by rw[bq];omega,?_,by omega⟩;rw[L];have:((c.next.toNat+(i-c.next).toNat:Nat):Int)=i:=by omega
  rw[this]
 have I:∀m∈K.p.aC.drop c.next.toNat,A m.kind=true->frm<=m.at_/\m.at_<=known:=λm M O=>by
  obtain⟨k,D,rfl⟩:=List.mem_iff_getElem.1 M;rw[L k D]at O⊢;rw[bq]at D;exact X _ (by omega) (by omega) O
 unfold By;rw[J];rcases Zbv U _ c.next.toNat I with⟨E,G⟩|⟨j,S,E,G,Y⟩
 ·refine .inl ⟨E,λi i1 T=> ?_⟩;obtain⟨k,D,e,-⟩:=em i1 T;rw[e];exact G _ (bm D)
 ·rw[L j S]at E G;have N:=S;rw[bq]at N;refine .inr ⟨_,E,by omega,by omega,G,λi i1 T=> ?_⟩;obtain⟨k,D,e,e2⟩:=em (i:=i) i1 (by omega);rw[e];exact Y k (by omega)
theorem X8 {K:Kf} (h:KOK K) (c:Cv):c.m0<=endC K c:=(Qrx c.m0 (stL K c) (P3 h.plan c.m1 c.m2).2).1
theorem Q6o {K:Kf} (h:KOK K) {n:Int} {c:Cv} (g:Gd K n c) (D:0<=n/\n<=10000):Ly K c=endC K c:=by
 have:=Qq6 g D;unfold Ly one;rw[Zoo h.plan (by omega) g.mo];rfl
def Jm (A:Int->Bool) (K:Kf) (c:Cv):Prop:=∀i:Int,c.next<=i->i<K.p.aC.length->A (mkK K i).kind=true->endC K c<=256*Bk K.t (mkK K i).at_
theorem Zrw {K:Kf} (h:KOK K) (mk:MarksOK K) {r z:Int} (O:0<=r) (D:0<=z) (E:z<=K.len) (S:r<=256*Bk K.t z):EA K r<=z:=by
 have T:=mk.fw.wh z D E;have U:=mk.fw.len;have I:i64 K.len:=h.len;unfold i64 at I;have V:CH r=(r+255)/256:=by
  unfold CH;rw[Ae (x:=r+256) (by omega),Ae (x:=r+256-1) (by omega),bc (by omega)];rw[Ae (by omega)];omega
 have J:0<=CH r:=by omega
 have L:CH r<=Bk K.t z:=by omega
 have M:=mk.fw.le D E L;unfold EA;split
 ·next G=>
  have N:AE K.t (CH r)<z:=by
   apply Decidable.byContradiction;intro q;have e:AE K.t (CH r)=z:=by omega
   have:=mk.fw.ge D E J (by omega);rw[e]at G;omega
  rw[Ae (by have:=(mk.fw.rg (CH r)).1;omega)];omega
 ·exact M
theorem Zdv {A:Int->Bool} {K:Kf} (h:KOK K) (mk:MarksOK K) {n:Int} {c:Cv} (g:Gd K n c) (J:0<=n/\n<=10000) (L:∀k,A k=true->Ca k c=true) (U:0<=c.m0) (M:0<=c.next) (N:Jm A K c):
  (AN K c=(Bk K.t K.len,-1)/\∀i:Int,c.next<=i->i<K.p.aC.length->A (mkK K i).kind=false)\/
  ∃j:Int,AN K c=(Bk K.t (mkK K j).at_,j)/\c.next<=j/\j<K.p.aC.length/\Ca (mkK K j).kind c=true/\∀i:Int,c.next<=i->i<j->A (mkK K i).kind=false:=by
 have O:EV K=K.len:=by unfold EV;rw[aa mk.closed]
 have he:=X8 h c;unfold AN;rw[Q6o h g J,O];have S:=Z4c (K:=K) (known:=K.len) (frm:=EA K (endC K c)) L M λi i1 I T=>by
  have D:=mk.at_ i (by omega) I;exact⟨Zrw h mk (by omega) D.1 D.2 (N i i1 I T),D.2⟩
 rcases S with⟨E,G⟩|⟨j,E,G⟩
 ·rw[E];exact .inl ⟨rfl,G⟩
 ·rw[E];exact .inr ⟨j,rfl,G⟩
theorem Jm.move {A:Int->Bool} {K:Kf} (h:KOK K) (mk:MarksOK K) {n:Int} {c e:Cv} (g:Gd K n c) (S:0<=n/\n<=10000) (T:∀k,A k=true->Ca k c=true) (U:0<=c.m0) (V:0<=c.next) (M:Jm A K c)
  (he:EndQ K c e (AN K c).1) (I:e.next=c.next):Jm A K e:=by
 intro i i1 G E;rw[I]at i1;rcases he with he|he
 ·rcases Zdv h mk g S T U V M with⟨N,O⟩|⟨j,N,O,X,h4,Y⟩
  ·rw[O i i1 G]at E;cases E
  ·rw[N]at he;dsimp only at he;have J:j<=i:=by
    apply Decidable.byContradiction;intro q;rw[Y i i1 (by omega)]at E;cases E
   have D:=mk.at_ j (by omega) X;have L:=mk.at_ i (by omega) G;have hw:=mk.fw.wh _ D.1 D.2;have hl:=mk.fw.len;have:=mk.fw.wmono D.1 (mk.mono j i (by omega) J G) L.2;rw[Ae (by omega)]at he;omega
 ·rw[he];exact M i i1 G E
end Go.Bm
namespace Go.Bm
open Classical
theorem Q7y {item feed lead:Int}:∀(D:List Pt) (s:List Sgm×Int×Pt),∃l,(D.foldl (Bf item feed lead) s).1=s.1++l
 |[],s=>⟨[],by simp⟩
 |q::D,s=>by
  rw[List.foldl_cons];obtain⟨l,E⟩:=Q7y (item:=item) (feed:=feed) (lead:=lead) D (Bf item feed lead s q);rw[E];unfold Bf;split
  ·exact⟨l,rfl⟩
  ·exact⟨_::l,(List.append_assoc _ _ _).trans rfl⟩
theorem Zfo (items:List Itm) (i:Nat) (s:BSt):∃l,(Eg items i s).aE=s.aE++l:=by
 unfold Eg;split
 ·exact Q7y _ _
 ·exact⟨[],by simp⟩
theorem Qwx (items:List Itm) (i:Nat):∀k,∃l,(Au items (i+k)).aE=(Au items i).aE++l
 |0=>⟨[],by simp⟩
 |k+1=>by
  obtain⟨l,D⟩:=Qwx items i k;obtain⟨m,E⟩:=Zfo items (i+k) (Au items (i+k));refine⟨l++m,?_⟩;show(Eg items (i+k) (Au items (i+k))).aE=_;rw[E,D,List.append_assoc]
theorem Za4 {l:List Sgm} (h:∀g∈l,1<=g.len):0<=Ay l:=by
 induction l with
 |nil=>simp[Ay]
 |cons k l D=>
  have:=D λg E=>h g (by simp[E]);have:=h k (by simp);simp only[Ay];omega
theorem Zio (l m:List Sgm):Ay (l++m)=Ay l+Ay m:=by
 induction l with
 |nil=>simp[Ay]
 |cons k l D=>simp only[aq,Ay,D];omega
def Zxq (item:Int) (a:Pt) (g:Sgm):Prop:=bd B24 g.to/\g.to≠a/\g.len=AH a g.to/\item<=g.item/\(0<=g.feed/\g.feed<=16777216)/\(0<=g.lead/\g.lead<=16777216)
def Q5y (item:Int) (a:Pt):List Sgm->Prop
 |[]=>True
 |g::l=>Zxq item a g/\Q5y g.item g.to l
def Z0o (last n:Int) (m:Mrk):Prop:=last<=m.at_/\m.at_<=n/\(1<=m.kind/\m.kind<=6)/\0<=m.item
def Qzz (last n:Int):List Mrk->Prop
 |[]=>True
 |m::l=>Z0o last n m/\Qzz m.at_ n l
structure okW (R : Nat) (s : Spk) : Prop where
 ok:okS s
 u:s.u.natAbs<=R
 w:s.w.natAbs<=R
 r:s.r<=R
def Zcs:Int->List Sgm->Int
 |k,[]=>k
 |_,g::l=>Zcs g.item l
structure VInv (i : Nat) (s : BSt) : Prop where
 begun:s.begun=true->bd B24 s.start/\Q5y 0 s.start s.aE/\Zcs 0 s.aE<=i
 aC:Qzz 0 s.len s.aC
theorem TU (items:List Itm):AU items=⟨(Au items items.length).start,(Au items items.length).aE,(Au items items.length).aC⟩:=rfl
noncomputable def mkA (items:List Itm) (i:Nat):Mrk:=⟨(Au items (i+1)).len,if AF (itA items i)then Ih items i else Jt (itA items i),i⟩
theorem TX (items:List Itm):∀n,(Au items n).aC=(List.range n).map (mkA items)
 |0=>rfl
 |n+1=>by
  rw[List.range_succ,bz,<-TX items n];show(Eg items n (Au items n)).aC=_;unfold mkA;show _=_++[(⟨(Eg items n (Au items n)).len,_,_⟩:Mrk)];unfold Eg;by_cases c:AF (itA items n)
  ·simp only[aa c]
  ·simp only[ab c]
theorem Zbs:∀l:List Itm,F9 l=1\/F9 l=2
 |[]=> .inr rfl
 |it::l=>by
  unfold F9
  repeat' split
  all_goals first|exact .inl rfl|exact .inr rfl|exact Zbs l
theorem Zjw (items:List Itm) (i:Nat):Ih items i=6\/Ih items i=1\/Ih items i=2:=by
 unfold Ih;have:=Zbs (items.drop (i+1))
 repeat' split
 all_goals omega
theorem SL {items:List Itm} {i:Nat} (h:BInv (Au items i)):(Au items i).len=Ay (Au items i).aE:=by
 by_cases hb:(Au items i).begun=true
 ·exact(h.begun hb).2.2.2.symm
 ·obtain⟨D,E,-⟩:=h.empty (by simpa using hb);rw[D,E];rfl
theorem Z9c {items:List Itm} (D:∀j<items.length,¬B5 (itA items j)) {i:Nat} (E:i<=items.length):∀g∈(Au items i).aE,1<=g.len:=by
 have h:=Jo D i E;by_cases hb:(Au items i).begun=true
 ·exact λg G=>(UC (h.begun hb).1 (h.begun hb).2.1 g G).1
 ·rw[(h.empty (by simpa using hb)).1];simp
theorem Z7k {items:List Itm} (D:∀j<items.length,¬B5 (itA items j)) {i k:Nat} (h:i+k<=items.length):0<=(Au items i).len/\(Au items i).len<=(Au items (i+k)).len:=by
 rw[SL (Jo D i (by omega)),SL (Jo D (i+k) h)];obtain⟨l,I⟩:=Qwx items i k;have G:=Z9c D h;rw[I]at G⊢;rw[Zio];have J:=Za4 (l:=(Au items i).aE) λg E=>G g (by simp[E]);have L:=Za4 (l:=l) λg E=>G g (by simp[E]);omega
theorem Zwi {items:List Itm} (D:∀j<items.length,¬B5 (itA items j)) {i:Nat} (E:i<items.length):
  0<=(mkA items i).at_/\(mkA items i).at_<=Ay (AU items).aE:=by
 have h:=Z7k D (i:=i+1) (k:=items.length-(i+1)) (by omega);rw[show i+1+(items.length-(i+1))=items.length by omega]at h;refine⟨h.1,?_⟩;have:=SL (Jo D items.length (co _));rw[TU];simp only;rw[<-this];exact h.2
structure FwS (t : Trk) (s0 n : Int) : Prop where
 be:0<=s0/\s0<=n
 wh:∀z,s0<=z->z<=n->0<=Bk t z/\Bk t z<=t.length/\AE t (Bk t z)=z/\∀v,0<=v->v<Bk t z->AE t v<z
 rg:∀u,s0<=AE t u/\AE t u<=n
 up:∀u v,u<=v->AE t u<=AE t v
 len:0<=t.length/\t.length<=900000000000000
theorem Qs7 {p:Pth} {x:Ax3} {d:Pt} {m:Int} (X:Ax3OK x) (T:GoodPath p) (Y:0<=m/\m<=Ay p.aE):FwS (AR p x d m (Ay p.aE)) m (Ay p.aE):=by
 have hn:=Rl T;obtain⟨d',G,L,-⟩:=OQ (d:=d) (a:=m) (b:=Ay p.aE) (Q:=λ_ _=>True) X T (λ_ _ _ _ _ _ _ _=>trivial);have E:=PV d m (Ay p.aE) X T;have c1:Bj m (Ay p.aE)=m:=by unfold Bj;omega
 have c2:Bj (Ay p.aE) (Ay p.aE)=Ay p.aE:=by unfold Bj;omega
 have U:mvP p m (Ay p.aE)=1:=by unfold mvP;rw[c1,c2,ab (by omega)]
 rw[U,c2]at G;rw[c1]at L;generalize AR p x d m (Ay p.aE)=t at*;generalize Ay p.aE=n at*;obtain⟨ch,M,N,-⟩:=G;rw[L]at ch N;by_cases D:t.aD=[]
 ·have a0:n=m:=by rw[D]at N;exact N.symm
  have a5:t.length=0:=by rw[D]at M;exact M.symm
  have pl:∀u,AE t u=m:=λu=>by unfold AE;rw[aa D,L]
  refine⟨Y,λz z0 z1=> ?_,λu=>by rw[pl];omega,λu v _=>by rw[pl,pl];omega,E.len⟩;have O:Bk t z=0:=by unfold Bk;rw[aa (by rw[L];omega)]
  rw[O];exact⟨by omega,by omega,by rw[pl];omega,λv S G=>by omega⟩
 ·have cl:∀u,0<=clT t u/\clT t u<=t.length:=K6 E;have I:∀u,0<=u->u<=t.length->clT t u=u:=λu S G=>by unfold clT Bj;omega
  have J:∀u v,u<=v->clT t u<=clT t v:=λu v h=>by unfold clT Bj;omega
  have lo:∀u,m<=AE t u:=λu=>by
   rw[Ld E u D];exact(Uw ch D _ _ (cl u).1 (cd _) (by rw[M];exact(cl u).2)).1
  have hi:∀u,AE t u<=n:=λu=>by
   rw[Ld E u D];have:=Qz4 ch D (u:=clT t u) (by rw[M];exact(cl u).2);rw[N]at this;exact this
  have up:∀u v,u<=v->AE t u<=AE t v:=λu v h=>by
   rw[Ld E u D,Ld E v D];exact(Uw ch D _ _ (cl u).1 (J u v h) (by rw[M];exact(cl v).2)).2
  have zero:AE t 0=m:=by
   rw[Ld E 0 D,I 0 (by omega) E.len.1];obtain⟨c,l,e⟩:=List.exists_cons_of_ne_nil D;rw[e]at ch⊢;obtain⟨g1,g2,g3,-⟩:=ch;unfold plL;rw[aa (by omega),g1,g2];simp
  refine⟨Y,λz z0 z1=> ?_,λu=>⟨lo u,hi u⟩,up,E.len⟩;by_cases V:z=m
  ·have O:Bk t z=0:=by unfold Bk;rw[aa (by rw[L];exact V)]
   rw[O];exact⟨by omega,E.len.1,by rw[zero,V],λv S G=>by omega⟩
  ·have O:Bk t z=wF z t.aD:=by unfold Bk;rw[ab (by rw[L];exact V)]
   obtain⟨a1,a2,a3,a4⟩:=(Qxf (.inl rfl) z ch).2.2 (by omega) (by rw[N];omega);rw[M]at a2;rw[O];refine⟨by omega,a2,?_,λv S G=> ?_⟩
   ·rw[Ld E _ D,I _ (by omega) a2,a3]
   ·rw[Ld E _ D,I v S (by omega)];have:=a4 v S G;omega
theorem FwS.ge {t:Trk} {s0 n:Int} (h:FwS t s0 n) {z u:Int} (D:s0<=z) (E:z<=n) (G:0<=u) (I:z<=AE t u):Bk t z<=u:=by
 apply Decidable.byContradiction;intro c;have:=(h.wh z D E).2.2.2 u G (by omega);omega
theorem FwS.wmono {t:Trk} {s0 n:Int} (h:FwS t s0 n) {y z:Int} (E:s0<=y) (G:y<=z) (I:z<=n):Bk t y<=Bk t z:=by
 have D:=h.wh z (by omega) I;refine h.ge E (by omega) D.1 ?_;rw[D.2.2.1];exact G
theorem FwS.le {t:Trk} {s0 n:Int} (h:FwS t s0 n) {z u:Int} (D:s0<=z) (E:z<=n) (G:u<=Bk t z):AE t u<=z:=by
 have I:=h.wh z D E;have:=h.up u _ G;omega
theorem Zvz {K:Kf} {s0:Int} (f:FwS K.t s0 K.len) (J:i64 K.len) {r z:Int} (S:0<=r) (D:s0<=z) (E:z<=K.len) (I:r<=256*Bk K.t z):s0<=EA K r/\EA K r<=z:=by
 have T:=f.wh z D E;have U:=f.len;have V:=f.be;unfold i64 at J;have X:CH r=(r+255)/256:=by
  unfold CH;rw[Ae (x:=r+256) (by omega),Ae (x:=r+256-1) (by omega),bc (by omega)];rw[Ae (by omega)];omega
 have L:0<=CH r:=by omega
 have M:CH r<=Bk K.t z:=by omega
 have N:=f.le D E M;have I:=(f.rg (CH r)).1;unfold EA;split
 ·next G=>
  have O:AE K.t (CH r)<z:=by
   apply Decidable.byContradiction;intro q;have e:AE K.t (CH r)=z:=by omega
   have:=f.ge D E L (by omega);rw[e]at G;omega
  rw[Ae (by omega)];omega
 ·exact⟨I,N⟩
theorem Qua {c:Cv} {known frm:Int}:∀{l:List Mrk} {i:Nat},((EG c known frm l i).2= -1/\(EG c known frm l i).1=known/\∀m∈l,¬(Ca m.kind c=true/\frm<=m.at_/\m.at_<=known))\/
  ∃j,∃L:j<l.length,EG c known frm l i=(l[j].at_,((i+j:Nat):Int))/\(Ca l[j].kind c=true/\frm<=l[j].at_/\l[j].at_<=known)/\∀k,∀M:k<j,¬(Ca (l[k]'(by omega)).kind c=true/\frm<=(l[k]'(by omega)).at_/\(l[k]'(by omega)).at_<=known)
 |[],_=> .inl ⟨rfl,rfl,λm N=>by cases N⟩
 |m::l,i=>by
  unfold EG;by_cases D:Ca m.kind c=true/\frm<=m.at_/\m.at_<=known
  ·rw[aa D];exact .inr ⟨0,by simp,rfl,D,λk M=>by omega⟩
  ·rw[ab D];rcases Qua (l:=l) (i:=i+1)with⟨E,G,I⟩|⟨j,L,E,G,I⟩
   ·refine .inl ⟨E,G,λq J=> ?_⟩;rcases av.1 J with rfl|J
    ·exact D
    ·exact I q J
   ·refine .inr ⟨j+1,by simpa using L,?_,by simpa using G,λk M=> ?_⟩
    ·rw[E];have:i+1+j=i+(j+1):=by omega
     rw[this];rfl
    ·cases k with
     |zero=>exact D
     |succ k=>exact I k (by omega)
theorem Z7g {K:Kf} {c:Cv} {known frm:Int} (S:0<=c.next):(By K c known frm=(known,-1)/\∀i:Int,c.next<=i->i<K.p.aC.length-> ¬(Ca (mkK K i).kind c=true/\frm<=(mkK K i).at_/\(mkK K i).at_<=known))\/
  ∃j:Int,By K c known frm=((mkK K j).at_,j)/\c.next<=j/\j<K.p.aC.length/\(Ca (mkK K j).kind c=true/\frm<=(mkK K j).at_/\(mkK K j).at_<=known)/\∀i:Int,c.next<=i->i<j-> ¬(Ca (mkK K i).kind c=true/\frm<=(mkK K i).at_/\(mkK K i).at_<=known):=by
 have I:(max c.next 0).toNat=c.next.toNat:=by rw[Int.max_eq_left S]
 have M:∀(k:Nat) (D:k<(K.p.aC.drop c.next.toNat).length),(K.p.aC.drop c.next.toNat)[k]=mkK K ((c.next.toNat+k:Nat):Int):=λk D=>by
  rw[List.getElem_drop];unfold mkK;rw[aj,List.getD,ah (by rw[bq]at D;omega)];rfl
 have em:∀{i:Int},c.next<=i->i<K.p.aC.length->∃k,∃D:k<(K.p.aC.drop c.next.toNat).length,mkK K i=(K.p.aC.drop c.next.toNat)[k]/\(k:Int)=i-c.next:=fun{i} E G=>by
  refine⟨(i-c.next).toNat,by rw[bq];omega,?_,by omega⟩;rw[M];have:((c.next.toNat+(i-c.next).toNat:Nat):Int)=i:=by omega
  rw[this]
 unfold By;rw[I];rcases Qua (c:=c) (known:=known) (frm:=frm) (l:=K.p.aC.drop c.next.toNat) (i:=c.next.toNat)with⟨E,G,J⟩|⟨j,N,E,G,J⟩
 ·refine .inl ⟨Prod.ext G E,λi i1 O=> ?_⟩;obtain⟨k,D,e,-⟩:=em i1 O;rw[e];exact J _ (bm D)
 ·rw[M j N]at E G;have L:=N;rw[bq]at L;refine .inr ⟨_,E,by omega,by omega,G,λi i1 O=> ?_⟩;obtain⟨k,D,e,e2⟩:=em (i:=i) i1 (by omega);rw[e];exact J k (by omega)
def Okl (K:Kf) (s:Int):Int->List Int->Prop
 |_,[]=>True
 |last,x::L=>(last<x/\0<=x/\x<K.items.length/\(itK K x).kind=10/\(mkK K x).at_<=s)/\Okl K s x L
def EC:Int->List Int->Int
 |l,[]=>l
 |_,x::L=>EC x L
def swF (K:Kf):Int->List Int->Int
 |D,[]=>D
 |D,x::L=>swF K (swI D (itK K x)) L
structure MkI (K : Kf) : Prop where
 len:K.p.aC.length=K.items.length
 item:∀i:Int,0<=i->i<K.items.length->(mkK K i).item=i
 out:∀i:Int,0<=i->i<K.items.length->((mkK K i).kind=5↔(itK K i).kind=10)
theorem Qp3 {K:Kf} (mi:MkI K) (s:Int):∀(l:List Mrk) (p:Nat) (c:Cv) (last:Int),l=K.p.aC.drop p->p<=K.p.aC.length->c.aJ=p->last<p->(∀x:Int,last<x->x<p->(itK K x).kind≠10)->
  Okl K s last (BB K s l c).1/\(BB K s l c).2.outs=swF K c.outs (BB K s l c).1/\EC last (BB K s l c).1<(BB K s l c).2.aJ/\(∀x:Int,EC last (BB K s l c).1<x->x<(BB K s l c).2.aJ->(itK K x).kind≠10)/\
  (c.aJ<=(BB K s l c).2.aJ/\((BB K s l c).2.aJ=K.p.aC.length\/((BB K s l c).2.aJ<K.p.aC.length/\(s<(mkK K (BB K s l c).2.aJ).at_\/((mkK K (BB K s l c).2.aJ).at_=s/\c.next<=(BB K s l c).2.aJ/\Ca (mkK K (BB K s l c).2.aJ).kind c=true)))))
 |[],p,c,last,E,hp,L,h1,M=>by
  have:K.p.aC.length<=p:=List.drop_eq_nil_iff.1 E.symm;have N:c.aJ=p:=L;refine⟨trivial,rfl,?_,?_,cd _, .inl ?_⟩
  ·show last<c.aJ;omega
  ·show∀x:Int,last<x->x<c.aJ->_;rw[N];exact M
  ·show c.aJ=_;omega
 |m::l,p,c,last,E,hp,L,h1,M=>by
  have I:p<K.p.aC.length:=by
   apply Decidable.byContradiction;intro q;rw[List.drop_of_length_le (by omega)]at E;cases E
  rw[List.drop_eq_getElem_cons I]at E;injection E with hm E;have em:mkK K (p:Int)=m:=by
   unfold mkK;rw[aj,List.getD,ah I,hm];rfl
  have G:(p:Int)<K.items.length:=by have:=mi.len;omega
  unfold BB;split
  ·next hb=>
   refine⟨trivial,rfl,by show last<c.aJ;omega,by show∀x:Int,last<x->x<c.aJ->_;rw[L];exact M,cd _, .inr ?_⟩;show c.aJ<_/\(s<(mkK K c.aJ).at_\/_);rw[L,em];refine⟨by omega,?_⟩;rcases hb with hb|hb
   ·exact .inl hb
   ·refine .inr ⟨hb.1,?_,hb.2.2⟩;have:=hb.2.1;omega
  ·next hb=>
   have O:m.at_<=s:=by
    apply Decidable.byContradiction;intro q;exact hb (.inl (by omega))
   split
   ·next S=>
    have D:(itK K (p:Int)).kind=10:=(mi.out p (by omega) G).1 (by rw[em];exact S);have T:m.item=p:=by rw[<-em];exact mi.item p (by omega) G
    rw[T];have U:=Qp3 mi s l (p+1) {c with outs:=swI c.outs (itK K (p:Int)),aJ:=c.aJ+1} p E (by omega) (by show c.aJ+1=_;omega) (by omega) (λx x1 x2=>by omega);generalize BB K s l {c with outs:=swI c.outs (itK K (p:Int)),aJ:=c.aJ+1}=r at*;obtain⟨i1,V,X,Y,J,i6⟩:=U;refine⟨⟨⟨h1,by omega,G,D,by rw[em];exact O⟩,i1⟩,V,X,Y,?_,i6⟩;have J:c.aJ+1<=r.2.aJ:=J;show c.aJ<=r.2.aJ;omega
   ·next S=>
    have D:(itK K (p:Int)).kind≠10:=λq=>S (by rw[<-em];exact(mi.out p (by omega) G).2 q);have U := Qp3 mi s l (p + 1) { c with aJ := c.aJ + 1 } last E (by omega) (by show c.aJ + 1 = _; omega) (by omega) (λx x1 x2 => by
     by_cases hx:x=p
     ·rw[hx];exact D
     ·exact M x x1 (by omega))
    generalize BB K s l {c with aJ:=c.aJ+1}=r at*;obtain⟨i1,V,X,Y,J,i6⟩:=U;refine⟨i1,V,X,Y,?_,i6⟩;have J:c.aJ+1<=r.2.aJ:=J;show c.aJ<=r.2.aJ;omega
end Go.Bm
namespace Go.Bm
theorem Q6k {K:Kf} (h:KOK K) {n:Int} {c:Cv} (g:Gd K n c) (E:0<=n/\n<=10000) {v:Int} (D:(AK K.pa K.pb v (wrap .i64 (v-c.m1))).2=true\/∃r:Int,v=wrap .i64 (c.m1+r)/\r=AG K.pa K.pb c.m1 c.m2):c.m0<=wrap .i64 (c.m0+v):=by
 have G:=g.m0;have I:=FF h.plan (HF.1 (Qu7 h g.mo D)).1;rw[Ae (by omega)];omega
theorem Qed {K:Kf} (h:KOK K) {n:Int} {c:Cv} (g:Gd K n c) (D:0<=n/\n<=10000) (l:Int):c.m0<=(Dg K c l).m0:=Q6k h g D (SN h g l).2
theorem Qfb (c:Cv):(Co c).m0=c.m0:=by unfold Co;split<;>rfl
theorem Q40 {K:Kf} (h:KOK K) {n:Int} {c:Cv} (g:Gd K n c) (D:0<=n/\n<=10000) (l:Int) {s:Sgm} (G:i64 s.lead):c.m0<=(Fl K c l s).m0:=by
 have E:=Qed h g D l;unfold Fl;split
 ·exact E
 ·unfold In;split
  ·exact E
  ·obtain⟨-,v,L,b,z,y,e,I,J⟩:=Qp0 h g l G;have e1:gA (thO K c l s.lead) 1=v:=by rw[I];rfl
   have up:=Q6k h g D J;have e2:(HT c (thO K c l s.lead)).m0=wrap .i64 (c.m0+v):=by
    show wrap .i64 (c.m0+gA (thO K c l s.lead) 1)=_;rw[e1]
   split
   ·rw[Qfb,e2];exact up
   ·rw[e2];exact up
theorem Zld {K:Kf} (h:KOK K) {n:Int} {c:Cv} (g:Gd K n c) (D:0<=n/\n<=10000) (l:Int):c.m0<=(DB K c l).m0:=by
 unfold DB;split
 ·exact Qed h g D l
 ·rename_i G;have E:(sgK K c).lead≠0:=λe=>G (.inl e);split
  ·exact Q40 h g D l (Gz h E).2.2
  ·split
   ·exact Q40 h (g.go (sgK K c)) D l (Gz h E).2.2
   ·split
    ·rw[Qfb];exact cd _
    ·exact cd _
theorem Zv9 {K:Kf} (h:KOK K) {n:Int} {c:Cv} (g:Gd K n c) (D:0<=n/\n<=10000):c.m0<=(Cx K c).2.m0:=by
 unfold Cx;split
 ·have b:=Z48 K c (AN K c).2;split
  ·split
   ·rw[Qfb,b.m0];exact cd _
   ·rw[b.m0];exact cd _
  ·split
   ·exact cd _
   ·exact cd _
 ·exact Zld h g D _
theorem Q6a {K:Kf} (h:KOK K) (c:Cv):Km (Ab K c)=some (Br K.p++Ab K c):=by
 have D:=h.f.p.count;have E:=h.count;refine(Zwh K c).trans ?_;exact eT (Cy (by rw[af];omega)) (eT (Cy (by rw[af];omega)) rfl)
structure Dr (K : Kf) (n : Int) (c : Cv) : Prop where
 k:KOK K
 g:Ga K n c
 l:IV K
 m0:0<=c.m0
theorem Q9n {K:Kf} (h:KOK K) (D:IV K) {c d:Cv} (hb:EN K c=true) (to:Int) (E:d.m0=0):F8 (sT K (Da K c to)) d=F8 K c/\IV (sT K (Da K c to)):=by
 have t:=Zdm h D hb to;refine⟨?_,t.2⟩;have e:F8 (sT K (Da K c to)) d=Eo K.p K.x (Da K c to) (wrap .i64 (d.m0.tdiv 256)):=rfl;rw[e,E];exact t.1
def EvQ (s q:Kf×Cv):Prop:=F8 q.1 q.2=F8 s.1 s.2/\IV q.1/\0<=q.2.m0/\q.2.aK=s.2.aK
theorem Zmu {K:Kf} {c:Cv} {n:Int} (h:E1 K c n=true):EN K c=true:=by
 unfold E1 at h;rw[ak]at h;exact h.2
theorem Zyf {K:Kf} (h:KOK K) (D:IV K) {c:Cv} (E:0<=c.m0) (m:Int):EvQ (K,c) (C5 K c m):=by
 unfold C5;by_cases hb:E1 K c m=true
 ·rw[aa hb];have t:=Q9n h D (Zmu hb) (PZ K c m) (d:={zM c with o2:=false,way:=1,home:=AA K c}) rfl;exact⟨t.1,t.2,cd _,rfl⟩
 ·rw[ab hb];exact⟨rfl,D,E,rfl⟩
structure Ky (c d : Cv) : Prop where
 m0:d.m0=c.m0
 m1:d.m1=c.m1
 m2:d.m2=c.m2
 next:d.next=c.next
 on:d.on=c.on
 idx:d.idx=c.idx
 aM:d.aM=c.aM
 aH:d.aH=c.aH
 aG:d.aG=c.aG
 y0:d.y0=c.y0
 y1:d.y1=c.y1
 y2:d.y2=c.y2
theorem Ky.rfl {c:Cv}:Ky c c:=⟨Eq.refl _,Eq.refl _,Eq.refl _,Eq.refl _,Eq.refl _,Eq.refl _,Eq.refl _,Eq.refl _,Eq.refl _,Eq.refl _,Eq.refl _,Eq.refl _⟩
theorem Ky.trans {a b c:Cv} (h:Ky a b) (g:Ky b c):Ky a c:=
 ⟨g.m0.trans h.m0,g.m1.trans h.m1,g.m2.trans h.m2,g.next.trans h.next,g.on.trans h.on,g.idx.trans h.idx,g.aM.trans h.aM,g.aH.trans h.aH,g.aG.trans h.aG,g.y0.trans h.y0,g.y1.trans h.y1,g.y2.trans h.y2⟩
structure Mk (c d : Cv) : Prop where
 next:d.next=c.next
 on:d.on=c.on
 idx:d.idx=c.idx
 aM:d.aM=c.aM
theorem Qbz (c:Cv):Mk c (Co c):=by unfold Co;split<;>exact⟨rfl,rfl,rfl,rfl⟩
theorem Q37 (K:Kf) (c:Cv) (l:Int) (s:Sgm):Mk c (Fl K c l s):=by
 unfold Fl;split
 ·exact⟨rfl,rfl,rfl,rfl⟩
 ·unfold In;split
  ·exact⟨rfl,rfl,rfl,rfl⟩
  ·split
   ·have:=Qbz (HT c (thO K c l s.lead));exact⟨this.next,this.on,this.idx,this.aM⟩
   ·exact⟨rfl,rfl,rfl,rfl⟩
theorem Z0t (K:Kf) (c:Cv) (l:Int):Mk c (DB K c l):=by
 unfold DB;split
 ·exact⟨rfl,rfl,rfl,rfl⟩
 ·split
  ·exact Q37 K c l _
  ·split
   ·have:=Q37 K (goC K c (sgK K c)) l (sgK K c);exact⟨this.next,this.on,this.idx,this.aM⟩
   ·split
    ·exact Qbz c
    ·exact⟨rfl,rfl,rfl,rfl⟩
def Zyi (c d:Cv):Prop:=Mk c d\/(d.next=wrap .i64 (c.idx+1)/\d.on=false/\(c.aM=true->c.aI=true))
theorem Zvp (K:Kf) (c:Cv):Zyi c (AX K c).2:=by
 unfold AX E_;split
 ·split
  ·next h=>exact .inr ⟨rfl,rfl,λ_=>h.2⟩
  ·exact .inl ⟨rfl,rfl,rfl,rfl⟩
 ·next E=>
  have D:∀{p:Prop},c.aM=true->p:=λh=>absurd h E;split
  ·exact .inr ⟨rfl,rfl,D⟩
  ·split
   ·split
    ·exact .inl ⟨rfl,rfl,rfl,rfl⟩
    ·exact .inr ⟨rfl,rfl,D⟩
   ·split
    ·split
     ·exact .inr ⟨rfl,rfl,D⟩
     ·exact .inl ⟨rfl,rfl,rfl,rfl⟩
    ·split
     ·exact .inl ⟨rfl,rfl,rfl,rfl⟩
     ·exact .inr ⟨rfl,rfl,D⟩
structure Ix (A : Int -> Bool) (K : Kf) (c : Cv) : Prop where
 m0:0<=c.m0
 next:0<=c.next
 j:Jm A K c
 task:c.on=true->c.next<=c.idx/\c.idx<K.p.aC.length/\∀i:Int,c.next<=i->i<c.idx->A (mkK K i).kind=false
theorem Jm.sub {A:Int->Bool} {K:Kf} {c d:Cv} (h:Jm A K c) (he:endC K d=endC K c) (G:c.next<=d.next):Jm A K d:=λi i1 D E=>by
 rw[he];exact h i (by omega) D E
structure OKm (K : Kf) : Prop where
 len:K.len=Ay K.p.aE
 closed:K.closed=true
 mi:MkI K
 pos:0<K.items.length
 at_:∀i:Int,0<=i->i<K.items.length->0<=(mkK K i).at_/\(mkK K i).at_<=K.len
 last:(mkK K (K.items.length-1)).at_=K.len/\(mkK K (K.items.length-1)).kind=3
 end_:(itK K (K.items.length-1)).kind=14
 no14:∀i:Int,0<=i->i<K.items.length-1->(itK K i).kind≠14
theorem OKm.sT {K:Kf} (h:OKm K) (t:Trk):OKm (Go.Bm.sT K t):=⟨h.len,h.closed,⟨h.mi.len,h.mi.item,h.mi.out⟩,h.pos,h.at_,h.last,h.end_,h.no14⟩
structure Oj (K : Kf) (n : Int) (c : Cv) : Prop where
 k:KOK K
 m:OKm K
 g:Ga K n c
 l:IV K
 m0:0<=c.m0
 w:c.way=0->(∃s0,FwS K.t s0 K.len)/\endC K c<=256*Bk K.t K.len
 next:0<=c.next/\c.next<K.items.length
 on:c.on=true->c.way=0/\(c.aH=0->c.idx+1<K.items.length)
structure Sj (c d : Cv) : Prop where
 m0:d.m0=c.m0
 m1:d.m1=c.m1
 m2:d.m2=c.m2
 way:d.way=c.way
 next:d.next=c.next
 on:d.on=c.on
 idx:d.idx=c.idx
 aH:d.aH=c.aH
 aJ:d.aJ=c.aJ
theorem Sj.of {c d:Cv} (h:Sm c d):Sj c d:=⟨h.m0,h.m1,h.m2,h.kp.way,h.next,h.on,h.idx,h.aH,h.kp.aJ⟩
theorem YE {K:Kf} {c d:Cv} (D:d.m0=c.m0) (E:d.m1=c.m1) (G:d.m2=c.m2):endC K d=endC K c:=by unfold endC;rw[Qm E G,D]
theorem Oj.same {K:Kf} {n:Int} {c d:Cv} (o:Oj K n c) (g:Ga K n d) (s:Sj c d):Oj K n d:=by
 refine⟨o.k,o.m,g,o.l,by rw[s.m0];exact o.m0,?_,by rw[s.next];exact o.next,by rw[s.on,s.way,s.aH,s.idx];exact o.on⟩;rw[s.way,YE s.m0 s.m1 s.m2];exact o.w
theorem Qx3 {K:Kf} (h:KOK K) {c:Cv} (D:c.m0=0) (E:c.m1=0) (G:c.m2=0):endC K c=0:=by
 unfold endC;have I:Mo K c:=by
  unfold Mo;rw[E,G];exact RF h.plan
 rw[YY h.plan I (by omega),D];rfl
theorem Zh8 {K:Kf} (h:KOK K) (m:OKm K) (E:IV K) {d:Pt} {u:Int}:∃s0,FwS (AR K.p K.x d (AE K.t u) K.len) s0 K.len:=by
 obtain⟨e,a,b,-,G⟩:=E;have D:=Q86 (d:=e) (a:=a) (b:=b) h.f.x.ok h.f.p u;rw[<-G]at D;have:=Qs7 (d:=d) (m:=AE K.t u) h.f.x.ok h.f.p D;rw[<-m.len]at this;exact⟨_,this⟩
theorem Z83 {K:Kf} {n:Int} {c:Cv} (G:0<=n) (o:Oj K n c) (q:Int):Oj (C5 K c q).1 n (C5 K c q).2/\(C5 K c q).2.aJ=c.aJ/\(C5 K c q).2.aH=c.aH:=by
 have I:=Qy7 o.k G o.g q;have J:=Q57 o.k c q;have E:=Zyf o.k o.l o.m0 q;unfold C5 at*;by_cases hb:E1 K c q=true
 ·rw[aa hb]at*;have D:c.on=false:=by
   unfold E1 at hb;simp only[ak,Bool.not_eq_true']at hb;exact hb.1.1.1.1.2
  refine⟨⟨J,o.m.sT _,I,E.2.1,E.2.2.1,λw=>(by cases w),o.next,λw=> ?_⟩,rfl,rfl⟩;have w:c.on=true:=w;rw[D]at w;cases w
 ·rw[ab hb]at*;exact⟨o,rfl,rfl⟩
theorem Zoy {K:Kf} {n:Int} {c d:Cv} (o:Oj K n c) (h:Ft c d):Oj K n d/\d.aJ=c.aJ/\d.aH=c.aH:=by
 have g:=Q32 o.g h;rcases h with rfl|⟨a,-,rfl⟩
 ·exact⟨o,rfl,rfl⟩
 ·exact⟨o.same g ⟨rfl,rfl,rfl,rfl,rfl,rfl,rfl,rfl,rfl⟩,rfl,rfl⟩
theorem Zy5 {K:Kf} {n:Int} {c:Cv} (o:Oj K n c):Oj K n (Ig K c)/\(Ig K c).aJ=c.aJ/\(Ig K c).aH=c.aH:=by
 have key:∀b:Bool,Oj K n {c with aG:=b}/\({c with aG:=b}:Cv).aJ=c.aJ/\({c with aG:=b}:Cv).aH=c.aH:=λb=>⟨o.same ⟨o.g.way,o.g.pass,o.g.task,o.g.mo,o.g.m0⟩ ⟨rfl,rfl,rfl,rfl,rfl,rfl,rfl,rfl,rfl⟩,rfl,rfl⟩;exact key _
theorem Zgo {s:Kf×Cv} {n:Int} (I:0<=n) (o:Oj s.1 n s.2) (k m:Int) (J:m<=4194304):Oj (evA s k m).1 n (evA s k m).2/\(evA s k m).2.aJ=s.2.aJ/\(evA s k m).2.aH=s.2.aH:=by
 have sm:=S1 s.2 k m;have o1:Oj s.1 n (evC s.2 k m):=o.same (o.g.sm sm) (Sj.of sm);have e1:=sm.kp.aJ;have e2:=sm.aH;unfold evA;generalize evC s.2 k m=d at*;by_cases D:k=13
 ·rw[aa D];have r:=Zoy o1 (Vs o.k d J).2;exact⟨r.1,r.2.1.trans e1,r.2.2.trans e2⟩
 ·rw[ab D];by_cases E:k=12
  ·rw[aa E];have r:=Zy5 o1;exact⟨r.1,r.2.1.trans e1,r.2.2.trans e2⟩
  ·rw[ab E];by_cases G:k=7
   ·rw[aa G];have r:=Z83 I o1 m;exact⟨r.1,r.2.1.trans e1,r.2.2.trans e2⟩
   ·rw[ab G];exact⟨o1,e1,e2⟩
theorem Zaj {n:Int} (D:0<=n):∀(E:List Evn) {s:Kf×Cv},(∀e∈E,e.n<=4194304)->Oj s.1 n s.2->Oj (E.foldl (λs e=>evA s e.kind e.n) s).1 n (E.foldl (λs e=>evA s e.kind e.n) s).2/\(E.foldl (λs e=>evA s e.kind e.n) s).2.aJ=s.2.aJ/\(E.foldl (λs e=>evA s e.kind e.n) s).2.aH=s.2.aH
 |[],_,_,o=>⟨o,rfl,rfl⟩
 |e::E,s,G,o=>by
  have a:=Zgo D o e.kind e.n (G e (by simp));have b:=Zaj D E (s:=evA s e.kind e.n) (λx I=>G x (by simp[I])) a.1;exact⟨b.1,b.2.1.trans a.2.1,b.2.2.trans a.2.2⟩
theorem Q7b {K:Kf} {n:Int} {c:Cv} (D:0<=n) (o:Oj K n c) {E:List Evn} (G:EvE E):Oj (Bh K c E).1 n (Bh K c E).2/\(Bh K c E).2.aJ=c.aJ/\(Bh K c E).2.aH=c.aH:=by
 have I:Oj K n (FO c):=o.same ⟨o.g.way,o.g.pass,o.g.task,o.g.mo,o.g.m0⟩ ⟨rfl,rfl,rfl,rfl,rfl,rfl,rfl,rfl,rfl⟩;have f:=Zaj D E (s:=(K,FO c)) G.2 I;have sm:=Yh (BG K c E).1 (BG K c E).2;have sm:Sm (BG K c E).2 (Bh K c E).2:=sm;have J:Oj (BG K c E).1 n (BG K c E).2:=f.1;exact⟨J.same (Qpk o.k D o.g G) (Sj.of sm),sm.kp.aJ.trans f.2.1,sm.aH.trans f.2.2⟩
structure W4 (c d : Cv) : Prop where
 way:d.way=c.way
 aJ:d.aJ=c.aJ
 o3:d.o3=c.o3
 o4:d.o4=c.o4
theorem Q6x (K:Kf) (c:Cv):W4 c (AX K c).2:=by
 have t:W4 c (BL c):=⟨rfl,rfl,rfl,rfl⟩;have done:∀d:Cv,W4 c d->W4 c (GK d):=λd k=>⟨k.way,k.aJ,k.o3,k.o4⟩;have cmd:∀D sp:Int,W4 c (HJ (BL c) D sp):=λD sp=>⟨t.way,t.aJ,t.o3,t.o4⟩;unfold AX E_;split
 ·split
  ·exact done _ t
  ·exact t
 ·split
  ·exact done _ t
  ·split
   ·split
    ·exact t
    ·exact done _ t
   ·split
    ·split
     ·exact done _ (cmd _ _)
     ·exact cmd _ _
    ·split
     ·exact⟨rfl,rfl,rfl,rfl⟩
     ·exact done _ t
theorem Zh6 {K:Kf} {c:Cv} (he:c.aH=0) (D:(itK K (mkK K c.idx).item).kind≠14):(AX K c).2.aH=0:=by
 unfold AX E_;split
 ·split<;>exact he
 ·split
  ·exact he
  ·split
   ·split<;>exact he
   ·split
    ·split<;>exact he
    ·split
     ·next q=>exact absurd q D
     ·exact he
theorem Zgv {K:Kf} {c:Cv} (D:c.aM=false) (E:(mkK K c.idx).kind=3) (G:(itK K (mkK K c.idx).item).kind=14):AX K c=(7,{BL c with aH:=7}):=by
 unfold AX E_;have a1: ¬(BL c).aM=true:=by show¬c.aM=true;rw[D];simp
 have a2: ¬(mkK K (BL c).idx).kind≠3:=λq=>q E;have a3: ¬(itK K (mkK K (BL c).idx).item).kind=7:=by show¬(itK K (mkK K c.idx).item).kind=7;omega
 have a4: ¬(itK K (mkK K (BL c).idx).item).kind=8:=by show¬(itK K (mkK K c.idx).item).kind=8;omega
 have a5:(itK K (mkK K (BL c).idx).item).kind=14:=G;rw[ab a1,ab a2,ab a3,ab a4,aa a5]
theorem Qsm {K:Kf} {n:Int} {c:Cv} (o:Oj K n c) (g:Ga K n (AX K c).2) (on:c.on=true) (he:c.aH=0):Oj K n (AX K c).2/\(AX K c).2.aH=0:=by
 obtain⟨w0,E⟩:=o.on on;have E:=E he;have I:=o.g.task on;have G:=o.m.mi.item c.idx I.1 (by omega);have L:(itK K (mkK K c.idx).item).kind≠14:=by rw[G];exact o.m.no14 c.idx I.1 (by omega)
 have e0:=Zh6 (K:=K) he L;have mt:=Q6l K c;have J:=Q6x K c;have D:=Zvp K c;have S:=o.k.count;have M:=o.m.mi.len;generalize(AX K c).2=d at*;refine⟨⟨o.k,o.m,g,o.l,by rw[mt.m0];exact o.m0,?_,?_,?_⟩,e0⟩
 ·rw[J.way,YE mt.m0 mt.m1 mt.m2];exact o.w
 ·rcases D with D|⟨N,-,-⟩
  ·rw[D.next];exact o.next
  ·rw[Ae (x:=c.idx+1) (by omega)]at N;omega
 ·rcases D with D|⟨-,O,-⟩
  ·intro _;rw[J.way,D.idx];exact⟨w0,λ_=>E⟩
  ·intro q;rw[O]at q;cases q
theorem Qhm (c:Cv):(Co c).aH=c.aH/\(Co c).way=c.way/\(Co c).aJ=c.aJ:=by unfold Co;split<;>exact⟨rfl,rfl,rfl⟩
def Qm5 (K:Kf) (q:Cv):Prop:=q.way=0/\AA K q=K.len/\∀i:Int,q.next<=i->i<K.items.length-1->(mkK K i).at_=K.len->Ca (mkK K i).kind q=false
theorem Zwq {K:Kf} {s0:Int} (f:FwS K.t s0 K.len) {c:Cv} {z:Int} (D:s0<=z) (E:z<=K.len) (h:c.m0=wrap .i64 (Bk K.t z*256)):AA K c=z:=by
 have G:=f.wh z D E;have I:=f.len;rw[Ae (by omega)]at h;have e:AB c=Bk K.t z:=by
  show wrap .i64 (c.m0.tdiv 256)=_;rw[bc (by omega),Ae (by omega)];omega
 show AE K.t (AB c)=z;rw[e];exact G.2.2.1
theorem Zf1 {K:Kf} {n:Int} {c:Cv} (o:Oj K n c) (hn:0<=n/\n<=9999) (Y:c.way=0) (on:c.on=false) (he:c.aH=0):
  Oj K (n+1) (Cx K c).2/\((Cx K c).2.aH=7->Qm5 K (Cx K c).2)/\(Cx K c).2.aJ=c.aJ:=by
 obtain⟨⟨s0,f⟩,O⟩:=o.w Y;have gd:=o.g.gd Y;have gr:=TR o.k gd (by omega);have up:=Zv9 o.k gd (by omega);have e0:=X8 o.k c;have a3:=o.m0;have fr:=Zvz f o.k.len (r:=endC K c) (z:=K.len) (by omega) f.be.2 (cd _) O;have N:EV K=K.len:=by unfold EV;rw[aa o.m.closed]
 have T:Ly K c=endC K c:=Q6o o.k gd (by omega);have a6:=o.m.mi.len;have D:=o.m.last;have a2:=o.k.count;have a7:=o.next;have a0:=Z7g (K:=K) (c:=c) (known:=K.len) (frm:=EA K (endC K c)) o.next.1;have M:AN K c=(Bk K.t (By K c K.len (EA K (endC K c))).1,(By K c K.len (EA K (endC K c))).2):=by
  unfold AN;rw[T,N]
 obtain⟨j,ew,j1,j2,⟨j3,j4,j5⟩,j6⟩:∃j:Int,By K c K.len (EA K (endC K c))=((mkK K j).at_,j)/\c.next<=j/\j<K.p.aC.length/\(Ca (mkK K j).kind c=true/\EA K (endC K c)<=(mkK K j).at_/\(mkK K j).at_<=K.len)/\∀i:Int,c.next<=i->i<j-> ¬(Ca (mkK K i).kind c=true/\EA K (endC K c)<=(mkK K i).at_/\(mkK K i).at_<=K.len):=by
  rcases a0 with⟨-,h2⟩|h2
  ·exact absurd ⟨by rw[D.2];rfl,by rw[D.1];exact fr.2,by rw[D.1];exact cd _⟩ (h2 (K.items.length-1) (by omega) (by omega))
  ·exact h2
 rw[ew]at M;have l1:(AN K c).1=Bk K.t (mkK K j).at_:=by rw[M]
 have l2:(AN K c).2=j:=by rw[M]
 have U:s0<=(mkK K j).at_:=by omega
 have stay:∀{d:Cv},Ga K (n+1) d->Sj c d->Oj K (n+1) d:=fun{d} g s=>⟨o.k,o.m,g,o.l,by rw[s.m0];exact o.m0,by rw[s.way,YE s.m0 s.m1 s.m2];exact o.w,by rw[s.next];exact o.next,by rw[s.on,s.way,s.aH,s.idx];exact o.on⟩;have ob:j+1<K.items.length->Oj K (n+1) {c with on:=true,idx:=j,aM:=EH K c j,cnt:=0}:=λS=>
  ⟨o.k,o.m,⟨o.g.way,o.g.pass,λ_=>⟨by show 0<=j;omega,j2⟩,o.g.mo,by have:=o.g.m0;exact⟨by show _<=c.m0;omega,by show c.m0<=_;omega⟩⟩,o.l,o.m0,o.w,o.next,λ_=>⟨Y,λ_=>S⟩⟩
 have gb:=(Q0r (gd.up hn.1) (i:=j) (by omega) j2).1.ga;have a4:=o.m.mi.item j (by omega) (by omega);have E: ¬j+1<K.items.length->(itK K (mkK K j).item).kind=14/\CE K c j=(7,{BL {c with on:=true,idx:=j,aM:=EH K c j,cnt:=0}with aH:=7}):=λS=>by
  have ej:j=K.items.length-1:=by omega
  have V:(itK K (mkK K j).item).kind=14:=by rw[a4,ej];exact o.m.end_
  have a5:EH K c j=false:=by
   unfold EH;have h3:(mkK K j).kind=3:=by rw[ej];exact D.2
   rw[h3,ab (by decide),ab (by decide),aa rfl,V];rfl
  exact⟨V,Zgv (c:={c with on:=true,idx:=j,aM:=EH K c j,cnt:=0}) a5 (by show(mkK K j).kind=3;rw[ej];exact D.2) V⟩
 have I:Oj K (n+1) (CE K c j).2/\((CE K c j).2.aH=7-> ¬j+1<K.items.length):=by
  by_cases S:j+1<K.items.length
  ·have w:=Qsm (ob S) gb rfl he;refine⟨w.1,λq=> ?_⟩;have q:(AX K {c with on:=true,idx:=j,aM:=EH K c j,cnt:=0}).2.aH=7:=q;rw[w.2]at q;cases q
  ·have eb:=(E S).2;rw[eb]at gb⊢;exact⟨⟨o.k,o.m,gb,o.l,o.m0,o.w,o.next,λ_=>⟨Y,λq=>by cases q⟩⟩,λ_=>S⟩
 have ga:=gr.1.ga;refine⟨?_,?_,gr.2.aJ⟩
 ·unfold Cx at ga up⊢;by_cases J:c.aL=true/\c.m0=wrap .i64 ((AN K c).1*256)
  ·rw[aa J]at ga up⊢;rw[l2,aa (show 0<=j by omega)]at ga up⊢;by_cases L:(mkK K j).item=(CE K c j).2.y0/\(itK K (mkK K j).item).kind=5/\(CE K c j).2.e0=1
   ·rw[aa L]at ga up⊢;have fm:=Qlh (CE K c j).2;have fk:=Qbz (CE K c j).2;have fe:=Qhm (CE K c j).2;exact I.1.same ga ⟨fm.1,fm.2.1,fm.2.2,fe.2.1,fk.next,fk.on,fk.idx,fe.1,fe.2.2⟩
   ·rw[ab L]at ga up⊢;exact I.1
  ·rw[ab J]at ga up⊢;have mm:=Z0t K c (AN K c).1;have X:=Zya o.k gd (by omega) (AN K c).1;refine⟨o.k,o.m,ga,o.l,Int.le_trans a3 up,λ_=>⟨⟨s0,f⟩,?_⟩,by show 0<=(DB K c (AN K c).1).next/\(DB K c (AN K c).1).next<_;rw[mm.next];exact o.next,λq=> ?_⟩
   ·show endC K (DB K c (AN K c).1)<=_;unfold EndQ at X;generalize endC K (DB K c (AN K c).1)=z at*;have wm:=f.wmono U j5 (cd _);have w1:=f.wh _ U j5;have hl:=f.len;rcases X with X|X
    ·rw[l1,Ae (by omega)]at X;omega
    ·rw[X];exact O
   ·have q:(DB K c (AN K c).1).on=true:=q;rw[mm.on,on]at q;cases q
 ·intro G;have a1: ¬j+1<K.items.length->c.m0=wrap .i64 ((AN K c).1*256)->Qm5 K (CE K c j).2:=λS hm=>by
   have ej:j=K.items.length-1:=by omega
   rw[(E S).2];have hp:AA K c=K.len:=by
    have:=Zwq f (c:=c) (z:=(mkK K j).at_) U j5 (by rw[<-l1];exact hm);rw[this,ej,D.1]
   refine⟨Y,hp,λi i1 i2 ia=> ?_⟩;have i1:c.next<=i:=i1;have h6:=j6 i i1 (by omega);cases ha:Ca (mkK K i).kind c with
   |false=>exact ha
   |true=>exact absurd ⟨ha,by rw[ia];exact fr.2,by rw[ia];exact cd _⟩ h6
  unfold Cx at G⊢;by_cases J:c.aL=true/\c.m0=wrap .i64 ((AN K c).1*256)
  ·rw[aa J]at G⊢;rw[l2,aa (show 0<=j by omega)]at G⊢;by_cases L:(mkK K j).item=(CE K c j).2.y0/\(itK K (mkK K j).item).kind=5/\(CE K c j).2.e0=1
   ·rw[aa L]at G⊢;have G:(Co (CE K c j).2).aH=7:=G;rw[(Qhm _).1]at G;have:=(E (I.2 G)).1;have h5:=L.2.1;omega
   ·rw[ab L]at G⊢;exact a1 (I.2 G) J.2
  ·rw[ab J]at G⊢;have G:(DB K c (AN K c).1).aH=7:=G;rw[(Zna K c (AN K c).1).aH,he]at G;cases G
theorem Oj.up {K:Kf} {n:Int} {c:Cv} (o:Oj K n c) (D:0<=n):Oj K (n+1) c:=⟨o.k,o.m,o.g.up D,o.l,o.m0,o.w,o.next,o.on⟩
theorem Zro {K:Kf} {c:Cv} (h:(A0 K c).1=0):c.aH=0/\c.on=false:=by
 unfold A0 at h;by_cases E:c.g0=2
 ·rw[aa E]at h;cases h
 ·rw[ab E]at h;by_cases D:c.aH≠0
  ·rw[aa D]at h;exact absurd h D
  ·rw[ab D]at h;by_cases G:c.aG=true/\c.aL=true
   ·rw[aa G]at h;cases h
   ·rw[ab G]at h;by_cases I:c.on=true
    ·rw[aa I]at h;exact absurd h (Q9i K c)
    ·exact⟨by simpa using D,by simpa using I⟩
theorem Zxf {K:Kf} {n:Int} {c:Cv} (o:Oj K n c) (N:0<=n/\n<=9999):Oj K n (A0 K c).2/\((A0 K c).2.aH=7->c.aH=7)/\(A0 K c).2.aJ=c.aJ:=by
 have g:=Zar o.k o.g (by omega);unfold A0 at g⊢;by_cases G:c.g0=2
 ·rw[aa G]at g⊢;have J:=o.m0;have O:=o.g.m0;have e0:(stand c).m0=c.m0/256*256:=by
   show wrap .i64 (wrap .i64 (c.m0.tdiv 256)*256)=_;rw[bc J,Ae (x:=c.m0/256) (by omega),Ae (by omega)]
  have L:endC K (stand c)=(stand c).m0:=by
   unfold endC;rw[YY o.k.plan (c:=stand c) g.mo (cd _)];rfl
  refine⟨⟨o.k,o.m,g,o.l,by rw[e0];omega,λw=> ?_,o.next,o.on⟩,λq=>q,rfl⟩;have M:=o.w w;have:=X8 o.k c;exact⟨M.1,by rw[L,e0];omega⟩
 ·rw[ab G]at g⊢;by_cases D:c.aH≠0
  ·rw[aa D]at g⊢;exact⟨o,λq=>q,rfl⟩
  ·rw[ab D]at g⊢;by_cases I:c.aG=true/\c.aL=true
   ·rw[aa I]at g⊢;exact⟨⟨o.k,o.m,g,o.l,o.m0,o.w,o.next,λq=>⟨(o.on q).1,λw=>by cases w⟩⟩,λq=>(by cases q),rfl⟩
   ·rw[ab I]at g⊢;by_cases E:c.on=true
    ·rw[aa E]at g⊢;have w:=Qsm o g E (by simpa using D);exact⟨w.1,λq=>(by rw[w.2]at q;cases q),(Q6x K c).aJ⟩
    ·rw[ab E]at g⊢;exact⟨o,λq=>q,rfl⟩
theorem Zpv {K:Kf} {n:Int} {c:Cv} (o:Oj K n c) (L:0<=n/\n<=9999) (E:c.way≠0):Oj (Cp K c).1 (n+1) (Cp K c).2/\((Cp K c).2.aH=7->c.aH=7)/\(Cp K c).2.aJ=c.aJ:=by
 have g:=Q8t o.k o.g (show 0<=n/\n<=10000 by omega);have D:=Qxt o.k c;have G:c.on=true->False:=λq=>E (o.on q).1;unfold Cp at g D⊢;by_cases J:c.aL=true/\c.m0=wrap .i64 (K.t.length*256)
 ·rw[aa J]at g D⊢;by_cases I:EN K c=true
  ·rw[aa I]at g D⊢;have t:=Q9n o.k o.l I (toC K c) (d:=tdC c) rfl;refine⟨⟨D,o.m.sT _,g,t.2,cd _,λw=> ?_,o.next,λq=>(G q).elim⟩,λq=>q,rfl⟩;have w:(if c.way=1 then(2:Int)else 0)=0:=w;have M:c.way=2:=by
    rcases o.g.way with q|q|q
    ·exact absurd q E
    ·rw[aa q]at w;cases w
    ·exact q
   have N:Da K c (toC K c)=AR K.p K.x (Fi K.t (AB c)) (AE K.t (AB c)) K.len:=by
    unfold Da toC;rw[aa M]
   obtain⟨s0,f⟩:=Zh8 o.k o.m o.l (d:=Fi K.t (AB c)) (u:=AB c);rw[<-N]at f;refine⟨⟨s0,f⟩,?_⟩;have e0:endC (sT K (Da K c (toC K c))) (tdC c)=0:=Qx3 D rfl rfl rfl;have:=(f.wh K.len f.be.2 (cd _)).1;rw[e0];show 0<=256*Bk (Da K c (toC K c)) K.len;omega
  ·rw[ab I]at g D⊢;exact⟨o.up L.1,λq=>q,rfl⟩
 ·rw[ab J]at g D⊢;have up:c.m0<=(Dg K c K.t.length).m0:=Qed o.k o.g.w0 (by omega) K.t.length;exact⟨⟨o.k,o.m,g,o.l,Int.le_trans o.m0 up,λw=>absurd w E,o.next,o.on⟩,λq=>q,rfl⟩
theorem Zxs {K:Kf} {n:Int} {c:Cv} (o:Oj K n c) (D:0<=n/\n<=9999) {E:List Evn} (L:EvE E):
  Oj (stA K c E).2.1 (n+1) (stA K c E).2.2/\((stA K c E).2.2.aH=7->c.aH=7\/Qm5 (stA K c E).2.1 (stA K c E).2.2)/\(stA K c E).2.2.aJ=c.aJ:=by
 obtain⟨p,M,he⟩:=Q7b D.1 o L;rw[<-M,<-he];unfold stA;generalize Bh K c E=s at*;by_cases G:(BR s.1 s.2).1=0
 ·rw[aa G];obtain⟨N,e⟩:=LG G;have O:(A0 s.1 s.2).1=0:=by
   apply Decidable.byContradiction;intro q;unfold BR at G;rw[aa q]at G;exact q G
  obtain⟨S,T⟩:=Zro O;rw[e];have r:=Zf1 p D N T S;exact⟨r.1,λq=> .inr (r.2.1 q),r.2.2⟩
 ·rw[ab G];unfold BR;by_cases J:(A0 s.1 s.2).1≠0
  ·rw[aa J];have r:=Zxf p D;exact⟨r.1.up D.1,λq=> .inl (r.2.1 q),r.2.2⟩
  ·rw[ab J];by_cases I:s.2.way≠0
   ·rw[aa I];have r:=Zpv p D I;exact⟨r.1,λq=> .inl (r.2.1 q),r.2.2⟩
   ·rw[ab I];exact⟨p.up D.1,λq=> .inl q,rfl⟩
theorem Z5w (K:Kf) (c:Cv):(AX K c).2.outs=c.outs:=by
 have done:∀d:Cv,d.outs=c.outs->(GK d).outs=c.outs:=λd k=>k;have cmd:∀D sp:Int,(HJ (BL c) D sp).outs=c.outs:=λD sp=>rfl;unfold AX E_;split
 ·split
  ·exact done _ rfl
  ·exact rfl
 ·split
  ·exact done _ rfl
  ·split
   ·split
    ·exact rfl
    ·exact done _ rfl
   ·split
    ·split
     ·exact done _ (cmd _ _)
     ·exact cmd _ _
    ·split
     ·exact rfl
     ·exact done _ rfl
theorem Zii (s:Kf×Cv) (k m:Int):(evA s k m).2.outs=s.2.outs:=by
 have e:=(S1 s.2 k m).kp.outs;unfold evA;generalize evC s.2 k m=d at*;by_cases D:k=13
 ·rw[aa D];exact e
 ·rw[ab D];by_cases E:k=12
  ·rw[aa E];have t:∀b:Bool,({d with aG:=b}:Cv).outs=s.2.outs:=λb=>e;exact t _
  ·rw[ab E];by_cases G:k=7
   ·rw[aa G];unfold C5;by_cases hb:E1 s.1 d m=true
    ·rw[aa hb];exact e
    ·rw[ab hb];exact e
   ·rw[ab G];exact e
theorem Q1e:∀(E:List Evn) (s:Kf×Cv),(E.foldl (λs e=>evA s e.kind e.n) s).2.outs=s.2.outs
 |[],_=>rfl
 |e::E,s=>(Q1e E (evA s e.kind e.n)).trans (Zii s e.kind e.n)
theorem Zdr {K:Kf} {n:Int} {c:Cv} (o:Oj K n c) (J:0<=n/\n<=9999) {E:List Evn} (L:EvE E):(stA K c E).2.2.outs=c.outs:=by
 obtain⟨p,-,-⟩:=Q7b J.1 o L;have e1:(BG K c E).2.outs=c.outs:=Q1e E (K,FO c);have sm:Sm (BG K c E).2 (Bh K c E).2:=Yh (BG K c E).1 (BG K c E).2;have e2:(Bh K c E).2.outs=c.outs:=sm.kp.outs.trans e1;rw[<-e2];unfold stA;generalize Bh K c E=s at*;by_cases D:(BR s.1 s.2).1=0
 ·rw[aa D];obtain⟨M,e⟩:=LG D;rw[e];exact(TR p.k (p.g.gd M) (by omega)).2.outs
 ·rw[ab D];unfold BR;by_cases G:(A0 s.1 s.2).1≠0
  ·rw[aa G];show(A0 s.1 s.2).2.outs=_;unfold A0;split
   ·rfl
   ·split
    ·rfl
    ·split
     ·rfl
     ·split
      ·exact Z5w _ _
      ·rfl
  ·rw[ab G];by_cases I:s.2.way≠0
   ·rw[aa I];show(Cp s.1 s.2).2.outs=_;unfold Cp;split
    ·split<;>rfl
    ·rfl
   ·rw[ab I]
theorem Zqq {K:Kf} {c:Cv} {E:List Evn} (h:(stA K c E).1=7):(stA K c E).2.2.aH=7:=by
 have D:∀(K:Kf) (d:Cv),(AX K d).1=7->(AX K d).2.aH=7:=λK d=>by
  unfold AX E_;split
  ·split
   ·intro q;cases q
   ·intro q;cases q
  ·split
   ·intro q;cases q
   ·split
    ·split
     ·intro q;cases q
     ·intro q;cases q
    ·split
     ·split
      ·intro q;cases q
      ·intro q;cases q
     ·split
      ·exact λ_=>rfl
      ·intro q;cases q
 unfold stA at h⊢;generalize Bh K c E=s at*;by_cases G:(BR s.1 s.2).1=0
 ·rw[aa G]at h⊢;obtain⟨L,e⟩:=LG G;rw[e]at h⊢;have h:(Cx s.1 s.2).1=7:=h;show(Cx s.1 s.2).2.aH=7;unfold Cx at h⊢;split at h
  ·split at h
   ·split at h
    ·next a b d=>
     rw[aa a,aa b,aa d];rw[(Qhm _).1];exact D _ _ h
    ·next a b d=>
     rw[aa a,aa b,ab d];exact D _ _ h
   ·split at h
    ·next a b d=>rw[aa a,ab b,aa d]
    ·cases h
  ·split at h<;>cases h
 ·rw[ab G]at h⊢;unfold BR at h⊢;by_cases I:(A0 s.1 s.2).1≠0
  ·rw[aa I]at h⊢;have h:(A0 s.1 s.2).1=7:=h;show(A0 s.1 s.2).2.aH=7;unfold A0 at h⊢;by_cases a1:s.2.g0=2
   ·rw[aa a1]at h;cases h
   ·rw[ab a1]at h⊢;by_cases a2:s.2.aH≠0
    ·rw[aa a2]at h⊢;exact h
    ·rw[ab a2]at h⊢;by_cases a3:s.2.aG=true/\s.2.aL=true
     ·rw[aa a3]at h;cases h
     ·rw[ab a3]at h⊢;by_cases a4:s.2.on=true
      ·rw[aa a4]at h⊢;exact D _ _ h
      ·rw[ab a4]at h;cases h
  ·rw[ab I]at h⊢;by_cases J:s.2.way≠0
   ·rw[aa J]at h;have h:Hr s.2=7:=h;unfold Hr at h;split at h<;>cases h
   ·rw[ab J]at h;cases h
structure Ok7 (K : Kf) (n : Int) (c : Cv) (last : Int) : Prop where
 o:Oj K n c
 e7:c.aH=7->(K.items.length:Int)<=c.aJ+1
 lt:last<c.aJ
 no:∀x:Int,last<x->x<c.aJ->(itK K x).kind≠10
theorem Q1a (K:Kf) (c:Cv) (E:List Evn):∃t,(stA K c E).2.1=sT K t:=by
 have id:∀L:Kf,∃t,L=sT L t:=λL=>⟨L.t,rfl⟩;have G:∀(E:List Evn) (s:Kf×Cv),∃t,(E.foldl (λs e=>evA s e.kind e.n) s).1=sT s.1 t:=by
  intro E;induction E with
  |nil=>exact λs=>id _
  |cons e E I=>
   intro s;obtain⟨t,h⟩:=I (evA s e.kind e.n);have D:∃t,(evA s e.kind e.n).1=sT s.1 t:=by
    unfold evA;split
    ·exact id _
    ·split
     ·exact id _
     ·split
      ·unfold C5;split
       ·exact⟨_,rfl⟩
       ·exact id _
      ·exact id _
   obtain⟨S,D⟩:=D;refine⟨t,?_⟩;show((E.foldl (λs e=>evA s e.kind e.n) (evA s e.kind e.n))).1=_;rw[h,D];rfl
 have J:∀(L:Kf) (d:Cv),∃t,(Cp L d).1=sT L t:=λL d=>by
  unfold Cp;split
  ·split
   ·exact⟨_,rfl⟩
   ·exact id _
  ·exact id _
 have M:∀(L:Kf) (d:Cv),∃t,(BR L d).2.1=sT L t:=λL d=>by
  unfold BR;split
  ·exact id _
  ·split
   ·exact J _ _
   ·exact id _
 have pr:∃t,(Bh K c E).1=sT K t:=G E (K,FO c);obtain⟨t,pr⟩:=pr;unfold stA;split
 ·exact⟨t,pr⟩
 ·obtain⟨N,O⟩:=M (Bh K c E).1 (Bh K c E).2;exact⟨N,by rw[O,pr];rfl⟩
theorem Zvb {K:Kf} {n:Int} {c:Cv} {last:Int} (r:Ok7 K n c last) (Y:0<=n/\n<=9999) {E:List Evn} (hE:EvE E) {L:List Int} (I:L=(EF (stA K c E).2.1 (stA K c E).2.2 (AA (stA K c E).2.1 (stA K c E).2.2)).1):
  Ok7 (GN K c E).1 (n+1) (GN K c E).2 (EC last L)/\Okl (stA K c E).2.1 (AA (stA K c E).2.1 (stA K c E).2.2) last L/\(GN K c E).2.outs=swF (stA K c E).2.1 c.outs L/\((stA K c E).1=7->((stA K c E).2.1.items.length:Int)<=(GN K c E).2.aJ+1):=by
 obtain⟨G,s7,sp⟩:=Zxs r.o Y hE;have sv:=Zdr r.o Y hE;obtain⟨t,ht⟩:=Q1a K c E;have m7:=Zqq (K:=K) (c:=c) (E:=E);unfold GN;dsimp only;generalize stA K c E=s at*;obtain⟨m,D,d⟩:=s;dsimp only at*;have hi:D.items=K.items:=by rw[ht];rfl
 have hk:∀x:Int,itK D x=itK K x:=λx=>by rw[ht];rfl
 have J:∀x:Int,last<x->x<d.aJ->(itK D x).kind≠10:=λx T h2=>by rw[hk];exact r.no x T (by omega)
 have M:c.aH=7->(D.items.length:Int)<=c.aJ+1:=λq=>by rw[hi];exact r.e7 q
 have rl:=r.lt;by_cases U:d.way=0
 ·have O:EF D d (AA D d)=Bx D d (AA D d):=by unfold EF;rw[aa U]
  rw[O]at I⊢;have a0:=G.g.pass;have pk:=Qp3 G.m.mi (AA D d) (D.p.aC.drop d.aJ.toNat) d.aJ.toNat d last rfl (by omega) (by omega) (by omega) (λx T h2=>J x T (by omega));have V:BB D (AA D d) (D.p.aC.drop d.aJ.toNat) d=Bx D d (AA D d):=rfl;rw[V]at pk;obtain⟨o1,o2,o3,o4,o5,X⟩:=pk;obtain⟨mm,qq,eo⟩:=Rs D d (AA D d);have e7:d.aH=7->(D.items.length:Int)<=(Bx D d (AA D d)).2.aJ+1:=λq=>by
   rcases s7 q with q|⟨-,N,hb⟩
   ·have:=M q;omega
   ·have a1:=G.m.mi.len;rcases X with X|⟨X,S⟩
    ·omega
    ·have h0:0<=(Bx D d (AA D d)).2.aJ:=by omega
     have ha:=G.m.at_ _ h0 (by omega);rcases S with S|⟨S,o8,o9⟩
     ·omega
     ·apply Decidable.byContradiction;intro a2;have:=hb _ o8 (by omega) (S.trans N);rw[this]at o9;cases o9
  have ga:=Zf6 G.g (by omega) (AA D d);rw[O]at ga;rw[I];generalize hR:Bx D d (AA D d)=R at*;obtain⟨RL,Rc⟩:=R;dsimp only at*;refine⟨⟨?_,?_,o3,o4⟩,o1,by rw[o2,sv],λq=>e7 (m7 q)⟩
  ·subst eo;exact⟨G.k,G.m,ga,G.l,G.m0,G.w,G.next,G.on⟩
  ·subst eo;exact e7
 ·have O:EF D d (AA D d)=([],d):=by unfold EF;rw[ab U]
  rw[O]at I⊢;dsimp only at I⊢;subst I;have e7:d.aH=7->(D.items.length:Int)<=d.aJ+1:=λq=>by
   rcases s7 q with q|⟨q,-,-⟩
   ·rw[sp];exact M q
   ·exact absurd q U
  exact⟨⟨G,e7,by show last<_;omega,J⟩,trivial,by rw[sv];rfl,λq=>e7 (m7 q)⟩
theorem Zpt {K:Kf} {items:List Itm} (D:K.p=AU items) {i:Int} (I:0<=i) (J:i<items.length):mkK K i=mkA items i.toNat:=by
 have E:i.toNat<items.length:=by omega
 have G:i.toNat<(Au items items.length).aC.length:=by rw[TX];simpa using E
 unfold mkK;rw[D,TU];simp only;rw[List.getD,ah G];simp only[TX,List.getElem_map,List.getElem_range];rfl
theorem Z7d (items:List Itm):(AU items).aC.length=items.length:=by rw[TU];simp[TX]
def A1 (k:Int):Bool:=k==1||(k==2||(k==3||(k==4||k==6)))
def A2 (k:Int):Bool:=k==1||(k==2||k==6)
def Ws (K:Kf) (c:Cv):Prop:=c.on=true->A2 (mkK K c.idx).kind=true->c.aM=true
def Q80 (K:Kf):Nat->Nat
 |0=>0
 |i+1=>Q80 K i+if A2 (mkK K i).kind=true then 1 else 0
structure Sg (K : Kf) (c : Cv) (s : Nat) : Prop where
 ix:Ix A1 K c
 w:Ws K c
 n:Q80 K c.next.toNat<=s
 cm:Cm c
 gg:Gg c
end Go.Bm
namespace Go.Bm
open Classical
theorem Zev (x:Int):BitVec.ofInt IntKind.i64.bits (wrap .i64 x)=BitVec.ofInt IntKind.i64.bits x:=by
 apply BitVec.eq_of_toNat_eq;rw[BitVec.toNat_ofInt,BitVec.toNat_ofInt];have:wrap .i64 x%((2^IntKind.i64.bits:Nat):Int)=x%((2^IntKind.i64.bits:Nat):Int):=by
  have e:((2^IntKind.i64.bits:Nat):Int)=18446744073709551616:=by decide
  rw[e,S2];omega
 rw[this]
theorem Zy4 (a b:BitVec 64):(a&&& ~~~b)|||b=a|||b:=by
 apply BitVec.eq_of_getLsbD_eq;intro i D;simp only[BitVec.getLsbD_or,BitVec.getLsbD_and,BitVec.getLsbD_not,D,decide_true,Bool.true_and];cases a.getLsbD i<;>cases b.getLsbD i<;>rfl
theorem Z0p {M:Fn} {a:List AC} {v:Int} (h:M a=some [I v]):one M a=v:=by
 unfold one;rw[h];rfl
abbrev KC (n:Int):BitVec IntKind.i64.bits:=BitVec.ofInt IntKind.i64.bits (wrap .i64 (1*2^min (wrap .u64 n).toNat IntKind.i64.bits))
theorem Zhs {s:Int} {it:Itm} (D:it.kind=10) (E:0<=it.n/\it.n<=15):
  swI s it=if it.on=true then wrap .i64 (↑(BitVec.ofInt IntKind.i64.bits (wrap .i64 (↑(BitVec.ofInt IntKind.i64.bits s&&& ~~~KC it.n).toNat:Int))|||KC it.n).toNat:Int)
   else wrap .i64 (↑(BitVec.ofInt IntKind.i64.bits s&&& ~~~KC it.n).toNat:Int):=by
 have e1:∀X:BitVec IntKind.i64.bits,BitVec.ofInt IntKind.i64.bits (wrap .i64 (X.toNat:Int))=X:=λX=>by
  rw[Zev];apply BitVec.eq_of_toNat_eq;rw[BitVec.toNat_ofInt];have:=X.isLt;rw[Int.emod_eq_of_lt (by omega) (by omega)];simp
 have e2:(BitVec.ofInt IntKind.i64.bits s&&& ~~~KC it.n)|||KC it.n=BitVec.ofInt IntKind.i64.bits s|||KC it.n:=Zy4 _ _;rw[e1,e2];have key:JB (I s::Ag it)=some [I (if it.on=true then wrap .i64 (↑(BitVec.ofInt IntKind.i64.bits s|||KC it.n).toNat:Int)else wrap .i64 (↑(BitVec.ofInt IntKind.i64.bits s&&& ~~~KC it.n).toNat:Int))]:=by
  show UF _=_;rw[Zcb];rw[Bn (bnF D),Bn (am (by omega)),Bn (am (by omega)),Bn (am (by simp[IntKind.wrap,IntKind.signed,IntKind.bits];omega))];cases it.on<;>rfl
 exact Z0p key
theorem Ziw {l:Rw} (E:Src l) {most:Int} (M:most<=100):
  ∃(p:Pt) (items G:List Itm),JJ [.view Aa l,I most,B true]=some [.view Ai (items.map Ag)]/\Items 4084 p items/\items=G++[HY]/\(G.length:Int)<=max most (-1)+1/\∀it∈G,it.kind≠14:=by
 obtain⟨p,items,J,O,D,S⟩:=Z4x (MM:=Lq) (MO:=Mf) (ML:=Gx) (N:=Qcp) (fin:=true) (HL E) (QF l) M λp k L=>by
  obtain⟨o,J,-,items,rfl,D,T,U⟩:=Zt4 (MF:=CW) (fin:=true) (HL E) (λL _ V k=>Zt2 E L V k) (λk=>Zhj E k) (Quv l) M (p:=p) ([],k) ⟨⟨trivial,by simp⟩,L, .inl rfl,by simp⟩;exact⟨items,J,D,T,U⟩
 refine⟨p,_,items,J,?_,by simp,?_,S⟩
 ·simp only[if_true];exact NL O (λh=>absurd h (NU XL)) (.inr XL)
 ·rcases D with D|D
  ·rw[D];simp;omega
  ·omega
theorem Zi9 (it:Itm):Jt it=5↔it.kind=10:=by
 unfold Jt;by_cases h:it.kind=10
 ·rw[aa h];exact⟨λ_=>h,λ_=>rfl⟩
 ·rw[ab h];split
  ·exact⟨λq=>(by cases q),λq=>absurd q h⟩
  ·exact⟨λq=>(by cases q),λq=>absurd q h⟩
theorem Zwa {x:Ax3} {pa pb pc ramp lag:Int} {items I:List Itm} (e:items=I++[HY]) (N:∀it∈I,it.kind≠14) (D:∀j<items.length,¬B5 (itA items j)):OKm (kfP x pa pb pc ramp lag items true):=by
 have O:=Z7d items;have hlen:items.length=I.length+1:=by rw[e];simp
 have L:∀i:Int,0<=i->i<items.length->itK (kfP x pa pb pc ramp lag items true) i=itA items i.toNat:=λi i0 i1=>by
  unfold itK;show items.getD i.toNat ZQ=items.getD i.toNat it0;rw[List.getD,List.getD,ah (by omega)];rfl
 have J:∀i:Int,0<=i->i<items.length->mkK (kfP x pa pb pc ramp lag items true) i=mkA items i.toNat:=λi i0 i1=>Zpt (items:=items) rfl i0 i1;have E:itA items (items.length-1)=HY:=by
  have S:items.length-1<items.length:=by omega
  show items.getD (items.length-1) it0=_;rw[List.getD,ah S];simp only[Option.getD_some];have:items[items.length-1]=(I++[HY])[I.length]'(by simp):=by
   have M:items.length-1=I.length:=by omega
   simp only[e,ao,List.length_singleton,Nat.add_sub_cancel]
  rw[this];simp
 have G:(items.length:Int)-1<items.length:=by omega
 have T:((items.length:Int)-1).toNat=items.length-1:=by omega
 refine⟨rfl,rfl,⟨O,λi i0 i1=> ?_,λi i0 i1=> ?_⟩,by show 0<items.length;omega,λi i0 i1=> ?_,?_,?_,λi i0 i1=> ?_⟩
 ·rw[J i i0 i1];show((i.toNat:Nat):Int)=i;omega
 ·rw[J i i0 i1,L i i0 i1];show(if AF (itA items i.toNat)then Ih items i.toNat else Jt (itA items i.toNat))=5↔_;by_cases h:AF (itA items i.toNat)
  ·rw[aa h];have U:1<=(itA items i.toNat).kind/\(itA items i.toNat).kind<=6:=h;rcases Zjw items i.toNat with k|k|k<;>rw[k]<;>exact⟨λq=>by omega,λq=>by omega⟩
  ·rw[ab h];exact Zi9 _
 ·rw[J i i0 i1];have i1:i<items.length:=i1;exact Zwi D (by omega)
 ·show(mkK _ ((items.length:Int)-1)).at_=_/\(mkK _ ((items.length:Int)-1)).kind=3;rw[J _ (by omega) G,T];constructor
  ·show(Au items (items.length-1+1)).len=Ay (AU items).aE;rw[show items.length-1+1=items.length by omega,SL (Jo D items.length (co _)),TU]
  ·show(if AF (itA items (items.length-1))then Ih items (items.length-1)else Jt (itA items (items.length-1)))=3;rw[E,ab (show¬AF HY from λh=>absurd h (NU XL))];rfl
 ·show(itK _ ((items.length:Int)-1)).kind=14;rw[L _ (by omega) G,T,E];rfl
 ·have i1:i<(items.length:Int)-1:=i1;rw[L i i0 (by show i<(items.length:Int);omega)];have:itA items i.toNat∈I:=by
   have M:i.toNat<I.length:=by omega
   have:itA items i.toNat=I[i.toNat]:=by
    show items.getD i.toNat it0=_;rw[e,List.getD,List.getElem?_append_left M,ah M];rfl
   rw[this];exact bm M
  exact N _ this
theorem Zhi {M G E:Rw} (h0:Src M) (h1:Src G) (N:Src E) (hl:E.length<=100000) {most:Int} (O:most<=12):
  ∃K:Kf,Ok7 K 0 Cb (-1)/\(∀i:Int,0<=i->i<K.items.length->(itK K i).kind=10->0<=(itK K i).n/\(itK K i).n<=15)/\Jq [.view Aa G, .view Aa E]=some (AM K.x++[I K.pa,I K.pb,I K.pc,I K.ramp,I K.lag])/\JJ [.view Aa M,I most,B true]=some [.view Ai (K.items.map Ag)]/\
   Gw (AM K.x++[I K.pa,I K.pb,I K.pc,I K.ramp,I K.lag]++[.view Ai (K.items.map Ag),B true])=some (I 0::Ab K Cb):=by
 obtain⟨x,a,b,c,ramp,lag,hQ,S⟩:=Zgf h1 N hl;obtain⟨p,items,l',hI,D,he,hlen,J⟩:=Ziw h0 (most:=most) (by omega);have a0:items.length=l'.length+1:=by rw[he];simp
 have T:=Qph S (items:=items) (by omega) D true;have U:=Q5q (by omega) D (show items.length<=20000 by omega);have hr:=(No U).2;have V:=Zwa (x:=x) (pa:=a) (pb:=b) (pc:=c) (ramp:=ramp) (lag:=lag) he J hr;have L:=T.2;have X:GoodPath (AU items):=VN (by omega) U;have fw:=Qs7 (d:=⟨1,1,1⟩) (m:=0) S.x.ok X ⟨cd _,(Rl X).1⟩;have lt:IV (kfP x a b c ramp lag items true):=⟨⟨1,1,1⟩,0,Ay (AU items).aE,⟨.inl rfl, .inl rfl, .inl rfl⟩,rfl⟩;refine⟨kfP x a b c ramp lag items true,⟨⟨L,V,(gdK L).ga,lt,cd _,λ_=>⟨⟨0,fw⟩,?_⟩,⟨cd _,by have:=V.pos;show(0:Int)<_;omega⟩,λq=>(by cases q)⟩,λq=>(by cases q),(by decide),λx G E=> ?_⟩,λi i0 i1 Y=> ?_,hQ,hI,T.1⟩
 ·have e0:endC (kfP x a b c ramp lag items true) Cb=0:=Qx3 L rfl rfl rfl;rw[e0];have:=(fw.wh _ fw.be.2 (cd _)).1;show 0<=256*Bk (AR (AU items) x ⟨1,1,1⟩ 0 (Ay (AU items).aE)) (Ay (AU items).aE);omega
 ·have E:x<0:=E;omega
 ·have i1:i<(items.length:Int):=i1;have e:itK (kfP x a b c ramp lag items true) i=itA items i.toNat:=by
   unfold itK;show items.getD i.toNat ZQ=items.getD i.toNat it0;rw[List.getD,List.getD,ah (by omega)];rfl
  rw[e]at Y⊢;rcases D.made _ (Qrd (items:=items) (i:=i.toNat) (by omega))with⟨O,-⟩|ho
  ·have N:1<=(itA items i.toNat).kind/\(itA items i.toNat).kind<=6:=O;omega
  ·exact ho.out Y
theorem Qtm (K:Kf) (c:Cv):Kc (Ab K c)=some (I c.outs::Ab K c):=by
 show Qkw _=_;rw[Z5u]
theorem WZ (K:Kf) (s:Int):∀(l:List Mrk) (c:Cv),(BB K s l c).1.length<=l.length
 |[],_=>co _
 |m::l,c=>by
  unfold BB;split
  ·exact Nat.zero_le _
  ·split
   ·have:=WZ K s l {c with outs:=swI c.outs (itK K m.item),aJ:=c.aJ+1};exact Nat.succ_le_succ this
   ·exact Nat.le_succ_of_le (WZ K s l _)
theorem Zp5 {K:Kf} (h:K.p.aC.length<=1000000) (c:Cv) (s:Int):(EF K c s).1.length<=1000000:=by
 unfold EF;split
 ·have:=WZ K s (K.p.aC.drop c.aJ.toNat) c;rw[bq]at this;show(BB K s (K.p.aC.drop c.aJ.toNat) c).1.length<=_;omega
 ·exact Nat.zero_le _
theorem Que {K:Kf} {s:Int}:∀{L:List Int} {la:Int},-1<=la->Okl K s la L-> -1<=EC la L
 |[],_,h,_=>h
 |x::L,la,h,⟨E,D⟩=>Que (la:=x) (by omega) D
theorem Zwv {M0 M1 M2 M3 M4 M5 M6 M7 M8 M9 M10:Fn} {K:Kf} (mi:MkI K) (hb:∀i:Int,0<=i->i<K.items.length->(itK K i).kind=10->0<=(itK K i).n/\(itK K i).n<=15) {V1 v9 v10:Rw} {v5 v11 S v13 v14 v15 v16 v17:Int} {c:Cv}
  {L:List Int} (hL:L.length<=1000000) {last st:Int} (ok:Okl K S last L):
  Out (λo=>o=(2, .view Ai (K.items.map Ag):: .view kPt V1:: .view kPt (K.p.aC.map At)::I (EC last L)::I (swF K st L)::I v5:: .view kPt v9:: .view Aa v10::I v11::I S::I v13::I v14::I v15::I v16::I v17::Ab K c))
   (Al (IX M0 M1 M2 M3 M4 M5 M6 M7 M8 M9 M10) (.view Ai (K.items.map Ag):: .view kPt V1:: .view kPt (K.p.aC.map At)::I last::I st::I v5:: .view Aa (L.map Ao)::I ((L.map Ao).length:Int)::I ((0:Nat):Int):: .view kPt v9:: .view Aa v10::I v11::I S::I v13::I v14::I v15::I v16::I v17::Ab K c)):=by
 refine Cl (λs:Nat×Int×Int=> .view Ai (K.items.map Ag):: .view kPt V1:: .view kPt (K.p.aC.map At)::I s.2.1::I s.2.2::I v5:: .view Aa (L.map Ao)::I ((L.map Ao).length:Int)::I (s.1:Int):: .view kPt v9:: .view Aa v10::I v11::I S::I v13::I v14::I v15::I v16::I v17::Ab K c)
  (λs=>s.1<=L.length/\Okl K S s.2.1 (L.drop s.1)/\EC s.2.1 (L.drop s.1)=EC last L/\swF K s.2.2 (L.drop s.1)=swF K st L) (λs=>L.length-s.1) _ ?_ (0,last,st) ⟨Nat.zero_le _,ok,rfl,rfl⟩
 rintro⟨j,X,J⟩ ⟨hj,M,D,E⟩;dsimp only at hj M D E;refine Out.eqv (Zhx M0 M1 M2 M3 M4 M5 M6 M7 M8 M9 M10 (K.items.map Ag) V1 (K.p.aC.map At) X J v5 (L.map Ao) ((L.map Ao).length:Int) j v9 v10 v11 S v13 v14 v15 v16 v17 K c) ?_;have el:((L.map Ao).length:Int)=L.length:=by rw[af]
 have ei:((K.items.map Ag).length:Int)=K.items.length:=by rw[af]
 have em:((K.p.aC.map At).length:Int)=K.p.aC.length:=by rw[af]
 refine .cond (λN=> ?_) λN=> ?_
 ·have N:=Bb N;have O:j<L.length:=by omega
  refine .cond (λ_=> ?_) λe=>(inB (by omega) N e).elim;have Y:nth [] (L.map Ao) (j:Int).toNat=Ao L[j]:=by
   rw[aj];exact IH _ _ _ _ O
  have e0:gA (nth [] (L.map Ao) (j:Int).toNat) 0=L[j]:=by rw[Y];rfl
  have U:jA (nth [] (L.map Ao) (j:Int).toNat) 0=I L[j]:=by rw[Y];rfl
  rw[e0,U];rw[List.drop_eq_getElem_cons O]at M D E;generalize L[j]=x at*;obtain⟨⟨a1,a2,a3,a4,a5⟩,M⟩:=M;have D:EC x (L.drop (j+1))=EC last L:=D;have E:swF K (swI J (itK K x)) (L.drop (j+1))=swF K st L:=E;have V:=hb x a2 a3 a4;have a0:=mi.len;rw[Ii a2 a3,Lz a2 (by omega)];refine .cond (λe=> ?_) λ_=> ?_
  ·have:=Bb e;omega
  refine .cond (λe=> ?_) λ_=> ?_
  ·have e:=Bb e;rw[ei]at e;omega
  have G:∀{α:Prop},(decide ((0:Int)<=x)&&decide (x<((K.items.map Ag).length:Int)))=false->α:=λe=>(inB a2 (by omega) e).elim;refine .cond (λ_=> ?_) λe=>G e;refine .cond (λe=> ?_) λ_=> ?_
  ·have e:(((itK K x).kind !=10))=true:=e;rw[a4]at e;cases e
  refine .cond (λ_=> ?_) λe=>(inB a2 (by omega) e).elim;refine .cond (λe=> ?_) λ_=> ?_
  ·have e:(mkK K x).at_>S:=Bb e;omega
  refine .cond (λ_=> ?_) λe=>G e;have u0: ¬wrap .u64 (itK K x).n<0:=by simp[IntKind.wrap,IntKind.signed,IntKind.bits];omega
  refine .cond (λe=>absurd (Bb e) u0) λ_=> ?_;refine .cond (λ_=> ?_) λe=>G e;have e1:wrap .i64 ((j:Int)+1)=((j+1:Nat):Int):=by rw[Ae (by omega)];omega
  have T:=Zhs (s:=J) a4 V;rw[e1];refine .cond (λon=> ?_) λon=> ?_
  ·have on:(itK K x).on=true:=on;rw[aa on]at T;refine .cond (λ_=> ?_) λe=>G e;refine .cond (λe=>absurd (Bb e) u0) λ_=> ?_;refine .some (.inl ⟨rfl,(j+1,x,swI J (itK K x)),?_,⟨by dsimp only;omega,M,D,E⟩,by dsimp only;omega⟩);dsimp only;rw[T];rfl
  ·have on:(itK K x).on=false:=on;rw[on,ab (by simp)]at T;refine .some (.inl ⟨rfl,(j+1,x,swI J (itK K x)),?_,⟨by dsimp only;omega,M,D,E⟩,by dsimp only;omega⟩);dsimp only;rw[T];rfl
 ·have N:=Bs N;have e:j=L.length:=by omega
  subst e;rw[List.drop_length]at D E;have D:X=_:=D;have E:J=_:=E;refine .some (.inr ⟨by simp,?_⟩);rw[D,E]
theorem Z0f {M0 M1 M2 M3 M4 M5 M6 M7 M8 M9 M10:Fn} {N16:Lp} {K:Kf} (M:K.items.length<=1000000) {V1 v2:Rw} {v3 v4 v5:Int} {c:Cv} {i:Int} (i0:0<=i) (D:∀x:Int,i<=x->x<K.items.length-1->(itK K x).kind≠10):
  Out (λo=>o=(2, .view Ai (K.items.map Ag):: .view kPt V1:: .view kPt v2::I v3::I v4::I v5::Ab K c))
   (Al (NS M0 M1 M2 M3 M4 M5 M6 M7 M8 M9 M10 N16) (.view Ai (K.items.map Ag):: .view kPt V1:: .view kPt v2::I v3::I v4::I v5::I i::Ab K c)):=by
 refine Cl (λs:Int=> .view Ai (K.items.map Ag):: .view kPt V1:: .view kPt v2::I v3::I v4::I v5::I s::Ab K c)
  (λs=>i<=s) (λs=>(K.items.length-s).toNat) _ ?_ i (cd _)
 intro s G;refine Out.eqv (Z4d M0 M1 M2 M3 M4 M5 M6 M7 M8 M9 M10 N16 (K.items.map Ag) V1 v2 v3 v4 v5 s K c) ?_;have J:((K.items.map Ag).length:Int)=K.items.length:=by rw[af]
 have L:wrap .i64 (((K.items.map Ag).length:Int)-1)=K.items.length-1:=by rw[J,Ae (by omega)]
 rw[L];refine .cond (λE=> ?_) λ_=> .some (.inr ⟨by simp,rfl⟩);have E:=Bb E;refine .cond (λ_=> ?_) λe=>(inB (by omega) (by omega) e).elim;rw[Ii (by omega) (by omega)];refine .cond (λe=> ?_) λ_=> ?_
 ·exact absurd (eq_of_beq (show((itK K s).kind==10)=true from e)) (D s G E)
 ·rw[Ae (x:=s+1) (by omega)];exact .some (.inl ⟨rfl,s+1,rfl,by omega,by omega⟩)
theorem Zgc {M0 MS MA M3 M4 M5 M6 M7 M8 M9 M10:Fn} {K0:Kf} {E:List Evn} (hE:E.length<=60) (hn:∀e∈E,e.n<=4194304) (r0:Ok7 K0 0 Cb (-1)) (hb:∀i:Int,0<=i->i<K0.items.length->(itK K0 i).kind=10->0<=(itK K0 i).n/\(itK K0 i).n<=15)
  (hA:∀k,MA [.view kPt (E.map evR),I k]=some [.view kPt ((atE E k).map evR)])
  (hS:∀(K:Kf) (_:KOK K) (c:Cv) (n:Int) (E:List Evn),Ga K n c->0<=n/\n<=10000->EvE E->MS (.view kPt (E.map evR)::Ab K c)=some (tkA K c E++Ab (GN K c E).1 (GN K c E).2)):
  Out (λo=>∃K c,o=(2,I (c:Cv).outs::Ab K c))
   (Al (Vd M0 MS MA M3 M4 M5 M6 M7 M8 M9 M10 (Al (IX M0 MS MA M3 M4 M5 M6 M7 M8 M9 M10)) (Al (NS M0 MS MA M3 M4 M5 M6 M7 M8 M9 M10 (Al (IX M0 MS MA M3 M4 M5 M6 M7 M8 M9 M10)))))
    (.view Ai (K0.items.map Ag):: .view kPt (E.map evR):: .view kPt (K0.p.aC.map At)::I (-1)::I 0::I ((0:Nat):Int)::Ab K0 Cb)):=by
 refine Cl (λs:Nat×Kf×Cv×Int=> .view Ai (K0.items.map Ag):: .view kPt (E.map evR):: .view kPt (K0.p.aC.map At)::I s.2.2.2::I s.2.2.1.outs::I (s.1:Int)::Ab s.2.1 s.2.2.1)
  (λs=>s.1<=120/\Ok7 s.2.1 s.1 s.2.2.1 s.2.2.2/\s.2.1.items=K0.items/\s.2.1.p=K0.p/\ -1<=s.2.2.2) (λs=>120-s.1) _ ?_ (0,K0,Cb,-1) ⟨Nat.zero_le _,r0,rfl,rfl,cd _⟩
 rintro⟨k,K,c,D⟩ ⟨h2,r,hi,hp,T⟩;dsimp only at h2 r hi hp T;refine Out.eqv (Zss M0 MS MA M3 M4 M5 M6 M7 M8 M9 M10 _ _ (K0.items.map Ag) (E.map evR) (K0.p.aC.map At) D c.outs k K c) ?_;refine .cond (λc1=> ?_) λ_=> .some (.inr ⟨by simp,K,c,rfl⟩);have c1:(k:Int)<120:=Bb c1;refine .bind (p:=λo=>o=_) ⟨_,hA k,rfl⟩ λo e=> ?_;subst e;have ev:EvE (atE E k):=⟨by have:=Zyh E k;omega,λe he=>hn e (Zma he)⟩;have ds:=Zvb r (by omega) ev rfl;have Y:=r.o.k.count;refine .bind (p:=λo=>o=_) ⟨_,hS K r.o.k c k (atE E k) r.o.g (by omega) ev,rfl⟩ λo e=> ?_;subst e;obtain⟨t,ht⟩:=Q1a K c (atE E k);have ek:(GN K c (atE E k)).1=(stA K c (atE E k)).2.1:=rfl;have O:(EF (stA K c (atE E k)).2.1 (stA K c (atE E k)).2.2 (AA (stA K c (atE E k)).2.1 (stA K c (atE E k)).2.2)).1.length<=1000000:=Zp5 (by rw[ht];exact Y) _ _;have a0:∃pul mx my mz sp f,tkA K c (atE E k)=[AC.view kPt pul, .view Aa ((EF (stA K c (atE E k)).2.1 (stA K c (atE E k)).2.2 (AA (stA K c (atE E k)).2.1 (stA K c (atE E k)).2.2)).1.map Ao),I (stA K c (atE E k)).1,I (AA (stA K c (atE E k)).2.1 (stA K c (atE E k)).2.2),I mx,I my,I mz,I sp,I f]:=⟨_,_,_,_,_,_,rfl⟩;obtain⟨pul,mx,my,mz,sp,f,et⟩:=a0;rw[et];rw[ek]at ds⊢;have G:(stA K c (atE E k)).2.1.items=K0.items:=by rw[ht];exact hi
 have U:(stA K c (atE E k)).2.1.p=K0.p:=by rw[ht];exact hp
 generalize(EF (stA K c (atE E k)).2.1 (stA K c (atE E k)).2.2 (AA (stA K c (atE E k)).2.1 (stA K c (atE E k)).2.2)).1=L at*;generalize AA (stA K c (atE E k)).2.1 (stA K c (atE E k)).2.2=S at*;generalize(stA K c (atE E k)).2.1=J at*;generalize(stA K c (atE E k)).1=m at*;generalize(GN K c (atE E k)).2=d at*;obtain⟨r',ok,eo,h7⟩:=ds;have a1:∀x:Int,itK J x=itK K0 x:=λx=>by unfold itK;rw[G]
 have M:=Zwv (M0:=M0) (M1:=MS) (M2:=MA) (M3:=M3) (M4:=M4) (M5:=M5) (M6:=M6) (M7:=M7) (M8:=M8) (M9:=M9) (M10:=M10) (K:=J) r'.o.m.mi (λi i0 i1=>by rw[a1];rw[G]at i1;exact hb i i0 i1) (V1:=E.map evR) (v9:=pul) (v10:=L.map Ao) (v5:=k) (v11:=m) (S:=S) (v13:=mx) (v14:=my) (v15:=mz) (v16:=sp) (v17:=f) (c:=d) O (last:=D) (st:=c.outs) ok;rw[G,U,<-eo]at M;have V: -1<=EC D L:=Que T ok;refine .bind (p:=λo=>o=_) M λo e=> ?_;subst e;refine .cond (λe=>by cases e) λ_=> .cond (λ_=> ?_) λe=>by cases e
 have e1:wrap .i64 ((k:Int)+1)=((k+1:Nat):Int):=by rw[Ae (by omega)];omega
 have a2:(k:Int)+1=((k+1:Nat):Int):=by omega
 have done:(k+1<=120/\Ok7 J ((k+1:Nat):Int) d (EC D L)/\J.items=K0.items/\J.p=K0.p/\ -1<=EC D L):=⟨by omega,by rw[<-a2];exact r',G,U,V⟩;have X:=r'.o.k.count;have a3:=r'.o.m.mi.len;have a4:=r'.o.g.pass;have a5:=r'.lt;refine .cond (λe7=> ?_) λ_=> ?_
 ·have e7:m=7:=eq_of_beq (show(m==7)=true from e7);have h7:=h7 e7;have ew:wrap .i64 (EC D L+1)=EC D L+1:=Ae (by omega);have N:=Z0f (M0:=M0) (M1:=MS) (M2:=MA) (M3:=M3) (M4:=M4) (M5:=M5) (M6:=M6) (M7:=M7) (M8:=M8) (M9:=M9) (M10:=M10) (N16:=Al (IX M0 MS MA M3 M4 M5 M6 M7 M8 M9 M10)) (K:=J) (by omega) (V1:=E.map evR) (v2:=K0.p.aC.map At) (v3:=EC D L) (v4:=d.outs) (v5:=k) (c:=d) (i:=EC D L+1) (by omega) (λx x1 x2=>r'.no x (by omega) (by omega));rw[G,<-ew]at N;refine .bind (p:=λo=>o=_) N λo e=> ?_;subst e;refine .cond (λe=>by cases e) λ_=> .cond (λ_=> ?_) λe=>by cases e
  refine .some (.inl ⟨rfl,(k+1,J,d,EC D L),?_,done,by dsimp only;omega⟩);dsimp only;rw[<-e1];rfl
 ·refine .some (.inl ⟨rfl,(k+1,J,d,EC D L),?_,done,by dsimp only;omega⟩);dsimp only;rw[<-e1];rfl
theorem Zaz {D MS MA G J L M N O S T:Fn} {K:Kf} {E:List Evn} {V X Y x3:Rw} {x4 m:Int} (hE:E.length<=60) (hn:∀e∈E,e.n<=4194304)
  (hV:T []=some [B true]) {q:Bool} (hF:S [.view Aa V, .view Aa X, .view Aa Y, .view Aa x3]=some [B q])
  (hyp : q = true -> Ok7 K 0 Cb (-1) /\ (∀ i : Int, 0 <= i -> i < K.items.length -> (itK K i).kind = 10 -> 0 <= (itK K i).n /\ (itK K i).n <= 15) /\ O [.view Aa X, .view Aa Y] = some (AM K.x ++ [I K.pa, I K.pb, I K.pc, I K.ramp, I K.lag]) /\ N [I x4, I 9] = some [I m] /\ M [.view Aa V, I m, B true] = some [.view Ai (K.items.map Ag)] /\
   L [.view Aa x3]=some [.view kPt (E.map evR)]/\J (AM K.x++[I K.pa,I K.pb,I K.pc,I K.ramp,I K.lag]++[.view Ai (K.items.map Ag),B true])=some (I 0::Ab K Cb))
  (hA:∀(E:List Evn) (k:Int),E.length<=60->MA [.view kPt (E.map evR),I k]=some [.view kPt ((atE E k).map evR)]) (hO:∀(K:Kf) (c:Cv),D (Ab K c)=some (I c.outs::Ab K c))
  (hP:∀(K:Kf) (_:KOK K) (c:Cv),G (Ab K c)=some (Br K.p++Ab K c))
  (hS:∀(K:Kf) (_:KOK K) (c:Cv) (n:Int) (E:List Evn),Ga K n c->0<=n/\n<=10000->EvE E->MS (.view kPt (E.map evR)::Ab K c)=some (tkA K c E++Ab (GN K c E).1 (GN K c E).2)):
  Qg4 D MS MA G J L M N O S T (Al (IX D MS MA G J L M N O S T)) (Al (NS D MS MA G J L M N O S T (Al (IX D MS MA G J L M N O S T))))
   (Al (Vd D MS MA G J L M N O S T (Al (IX D MS MA G J L M N O S T)) (Al (NS D MS MA G J L M N O S T (Al (IX D MS MA G J L M N O S T)))))) [.view Aa V, .view Aa X, .view Aa Y, .view Aa x3,I x4]=some [B true]:=by
 rw[Zkz];refine eB hV (eF rfl (eB hF ?_));cases q
 ·rfl
 obtain⟨r,hb,hQ,hD,hI,a0,hN⟩:=hyp rfl;have a1:=r.o.m.mi.len;have h:=r.o.k;refine eF rfl (eB hQ (eB hD (eB hI (eB a0 (eB hN (eF rfl (eB (hP K h Cb) (eF ?_ (eB (hP K h Cb) ?_)))))))))
 ·show((((K.p.aC.map At).length:Int)) !=((K.items.map Ag).length:Int))=false;rw[af,af,a1];simp
 obtain⟨o,h1,K2,U,rfl⟩:=Zgc (M0:=D) (MS:=MS) (MA:=MA) (M3:=G) (M4:=J) (M5:=L) (M6:=M) (M7:=N) (M8:=O) (M9:=S) (M10:=T) hE hn r hb (λk=>hA E k hE) hS;refine eB h1 (eF rfl (eT rfl (eB (hO K2 U) ?_)));show some [B (U.outs==U.outs)]=_;rw[show(U.outs==U.outs)=true from beq_self_eq_true _]
theorem Zqd {J L M N:Rw} {G:Int} (U:Src J) (V:Src L) (X:Src M) (Y:Src N) (h4:i64 G):
  Qyb [.view Aa J, .view Aa L, .view Aa M, .view Aa N,I G]=some [B true]:=by
 obtain⟨q,T,hq⟩:=Zd2 J L M N;cases q
 ·exact Zaz (K:=kX []) (E:=[]) (m:=0) (MS:=Gy) (MA:=J2) (by simp) (by simp) Qs6 T (λh=>by cases h) (λE k D=>Za9 (by omega) k) Qtm (λK h c=>Q6a h c) (λK h c n E g O D=>Qs9 h g O D)
 ·obtain⟨l0,l1,l2,l3⟩:=hq rfl;have hm:0<=G%9/\G%9<9:=⟨Int.emod_nonneg _ (by decide),Int.emod_lt_of_pos _ (by decide)⟩;obtain⟨K,hK,hb,hQ,hI,hN⟩:=Zhi U V X (by omega) (most:=G%9) (by omega);obtain⟨E,hV,D,S⟩:=Zqg Y l3;exact Zaz (K:=K) (E:=E) D (λe he=>(S e he).n.2) Qs6 T (λ_=>⟨hK,hb,hQ,Q4l h4 (by omega),hI,hV,hN⟩) (λE k D=>Za9 (by omega) k) Qtm (λK h c=>Q6a h c) (λK h c n E g O D=>Qs9 h g O D)
end Go.Bm
namespace Go.Bm
theorem Qvo {r:List AC} (h:okR Aa r):i64 (Af (nth .dead r 0)):=by
 match r,h with
 |[],h=>exact h.elim
 |a::_,h=>exact Zps h.1
theorem UH {r:List AC} (h:okR [Kd.sl Aa] r):Src (BZ (nth .dead r 0)):=by
 match r,h with
 |[],h=>exact h.elim
 |a::_,h=>
  have D:=h.1;unfold okC at D;refine⟨?_,λc E=>Qvo (D.2 c E).1⟩;have G:=D.1;simp only[maxLen]at G;show(BZ a).length<=_;omega
end Go.Bm
