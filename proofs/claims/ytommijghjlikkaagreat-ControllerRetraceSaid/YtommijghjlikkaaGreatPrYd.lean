/- laid together -/
import Derived.Test.YtommijghjlikkaaGreatPrWa
import Derived.Test.YtommijghjlikkaaGreatPrLc
import Derived.Test.YtommijghjlikkaaGreatPrPh
import Derived.Test.YtommijghjlikkaaGreatPrTk
import Derived.Test.YtommijghjlikkaaGreatMx3
import Derived.Test.YtommijghjlikkaaGreatMy1
set_option linter.unusedVariables false
set_option linter.unusedSimpArgs false
set_option maxRecDepth 100000
variable {K:Go.Bm.Kf} {a k b v j h m:Int} {p:Go.Bm.Pth} {t:Go.Bm.Trk} {i R:Nat} {d:Go.Bm.Cv} {M Z W T S:Go.Bm.Fn} {Q:Int->Go.Bm.Pt->Prop} {E:List Go.Bm.Evn} {N:Go.Bm.Lp} {g:Go.Bm.Pt}
noncomputable section
open Go.IntKind (wrap)
namespace Go.Bm
theorem Z1m (K:Kf) (c:Cv) (M:K.p.aF.length<=1000000) (i:Int):∃v:Int,OC (I i::Ab K c)=some (I v::Ab K c):=by
 have key:Out (λo=>∃v:Int,o=(1,I v::Ab K c)) (Ak Um (I i::I 0:: .vC Ag (K.p.aF.map Av)::I ((K.p.aF.map Av).length:Int)::I ((0:Nat):Int)::Ab K c)):=by
  refine Co (λs:Int×Nat=>I i::I s.1:: .vC Ag (K.p.aF.map Av)::I ((K.p.aF.map Av).length:Int)::I (s.2:Int)::Ab K c) (λs=>s.2<=K.p.aF.length) (λs=>K.p.aF.length-s.2) _ ?_ (0,0) (i6 _);rintro⟨v,k⟩ G;dsimp only at G;refine Out.eqv (Z3i i v (K.p.aF.map Av) ((K.p.aF.map Av).length:Int) k K c) ?_;have N:((K.p.aF.map Av).length:Int)=K.p.aF.length:=by rw[af]
  refine .cond (λE=> ?_) λ_=> .some (.inr ⟨by simp,v,rfl⟩);have E:=Bi E;refine .cond (λ_=> ?_) λe=>(inB (by omega) E e).elim;refine .cond (λ_=> .some (.inr ⟨by simp,v,rfl⟩)) λ_=> ?_;rw[Ae (x:=(k:Int)+1)];exact .some (.inl ⟨rfl,(_,k+1),rfl,by dsimp only;omega,by dsimp only;omega⟩)
 obtain⟨o,J,v,rfl⟩:=key;refine⟨v,?_⟩;show Qer (Ak Um) _=_;rw[Zjf];exact eB J (eT rfl rfl)
theorem Zlv (K:Kf) (c:Cv) (N:K.p.aF.length<=1000000) (s:Int):K9 (I s::Ab K c)=some [I (Mu K c s)]:=by
 have key:Out (λo=>∃v:Int,o=(1,I v::Ab K c)) (Ak I_ (I s::I 0::I 0:: .vC Ag (K.p.aF.map Av)::I ((K.p.aF.map Av).length:Int)::I ((0:Nat):Int)::Ab K c)):=by
  refine Co (λz:Int×Int×Nat=>I s::I z.1::I z.2.1:: .vC Ag (K.p.aF.map Av)::I ((K.p.aF.map Av).length:Int)::I (z.2.2:Int)::Ab K c) (λz=>z.2.2<=K.p.aF.length) (λz=>K.p.aF.length-z.2.2) _ ?_ (0,0,0) (i6 _);rintro⟨v,w,k⟩ J;dsimp only at J;refine Out.eqv (Qwd s v w (K.p.aF.map Av) ((K.p.aF.map Av).length:Int) k K c) ?_;have O:((K.p.aF.map Av).length:Int)=K.p.aF.length:=by rw[af]
  refine .cond (λE=> ?_) λ_=> .some (.inr ⟨by simp,w,rfl⟩);have E:=Bi E;refine .cond (λ_=> ?_) λe=>(inB (by omega) E e).elim;rw[Ae (x:=(k:Int)+1)];refine .cond (λ_=> .cond (λ_=> ?_) λ_=> ?_) λ_=> ?_;all_goals exact .some (.inl ⟨rfl,(_,_,k+1),rfl,by dsimp only;omega,by dsimp only;omega⟩)
 obtain⟨o,M,v,rfl⟩:=key;have G:K9 (I s::Ab K c)=some [I v]:=by
  show Tt (Ak I_) _=_;refine(Q0p _ s K c).trans ?_;exact eB M rfl
 have e:Mu K c s=v:=by unfold Mu;rw[G];rfl
 rw[e];exact G
theorem Zup {MB M N:Fn} {c:Cv} (h:KOK K) (S:N (Ab K c)=some (Av (sgK K c)++[B (DF K c).isSome])) (T:M (Ab K c)=some [I (At K c)]) (U:∀i,∃v:Int,MB (I i::Ab K c)=some (I v::Ab K c)):
  ∃b:Bool,(c.aH=true->b=true)/\Qmc MB M N (Ab K c)=some (Ab K {c with aH:=b}):=by
 have no:∃b:Bool,(c.aH=true->b=true)/\some (Ab K c)=some (Ab K {c with aH:=b}):=⟨c.aH,id,rfl⟩;have G:∀{m:Option (List AC)} {f:Fn} {o:List AC},m=some o->(∃b:Bool,(c.aH=true->b=true)/\f o=some (Ab K {c with aH:=b}))->∃b:Bool,(c.aH=true->b=true)/\m.bind f=some (Ab K {c with aH:=b}):=λh hf=>by rw[h];exact hf
 have E:∀{b:Bool} {X Y:Option (List AC)},(b=true->∃d:Bool,(c.aH=true->d=true)/\X=some (Ab K {c with aH:=d}))->(b=false->∃d:Bool,(c.aH=true->d=true)/\Y=some (Ab K {c with aH:=d}))->∃d:Bool,(c.aH=true->d=true)/\(bif b then X else Y)=some (Ab K {c with aH:=d}):=fun{b} _ _ V hy=>by
  cases b
  ·exact hy rfl
  ·exact V rfl
 rw[Zgg];refine G S (E (λO=>E (λ_=>E (λ_=>E (λ_=>G T ?_) λ_=>no) λe=> ?_) λ_=>no) λ_=>no)
 ·obtain⟨v,hv⟩:=U (sgK K c).aU;refine G hv (E (λ_=>⟨true,λ_=>rfl,rfl⟩) λ_=>⟨c.aH,id,rfl⟩)
 ·cases J:DF K c with
  |none=>rw[J]at O;cases O
  |some g=>
   obtain⟨q1,q2,-⟩:=h.aF g (SC J);have eg:sgK K c=g:=by unfold sgK;rw[J];rfl
   have e:(decide (0<=(sgK K c).aU)&&decide ((sgK K c).aU<((K.aA.map Af).length:Int)))=false:=e;rw[eg,inM (f:=Af) q1 q2]at e;cases e
theorem Zxq (h:KOK K) (c:Cv):Nd (Ab K c)=some (Ab K (Lm K c))/\(c.aH=true->(Lm K c).aH=true):=by
 obtain⟨b,hb,E⟩:=Zup (MB:=OC) h (VG h c) (Nk h c) (Z1m K c (by have:=h.f.p.count;omega));have E:Nd (Ab K c)=some (Ab K {c with aH:=b}):=E;have e:Lm K c={c with aH:=b}:=by unfold Lm;rw[E];rfl
 rw[e];exact⟨E,hb⟩
def Gq (K:Kf) (c:Cv) (n:Int):Bool:=(DF K c).isSome&&decide (0<n)&&decide (c.way=0)&& !c.on&&decide (c.aI=0)&&c.o2&&decide ((sgK K c).aX=0)&&E6 K c
def Jt (K:Kf) (c:Cv) (n:Int):Int:=mx (mx 0 (V (At K c-n))) (Mu K c (At K c))
def DI (K:Kf) (c:Cv) (n:Int):Kf×Cv:=if Gq K c n=true then(sT K (E9 K c (Jt K c n)),{zM c with o2:=false,way:=1,home:=At K c})else(K,c)
theorem Zpl {c:Cv} {n:Int} (S:T (Ab K c)=some (Av (sgK K c)++[B (DF K c).isSome])) (U:W (Ab K c)=some [I (At K c)])
  (V:∀s,Z (I s::Ab K c)=some [I (Mu K c s)]) (E:∀to,M (pxt K.p K.x K.t [I c.m0,I c.m1,I c.m2,I c.m3,I c.m4,I c.m5,I to])=some (Ki K c to)):
  Qeb M Z W T (I n::Ab K c)=some (Ab (DI K c n).1 (DI K c n).2):=by
 rw[Zez];have no:Gq K c n=false->some (Ab K c)=some (Ab (DI K c n).1 (DI K c n).2):=λe=>by unfold DI;rw[aa (by rw[e];simp)]
 refine eB S ?_;refine eC (λe=> ?_) λe1=> ?_
 ·have e:(!(DF K c).isSome)=true:=e;exact no (by unfold Gq;rw[iw]at e;rw[e];rfl)
 have e1:(DF K c).isSome=true:=by simpa [bA,nth,Dh]using e1
 refine eC (λe=>no ?_) λe2=> ?_
 ·unfold Gq;rw[an (show¬0<n by have:=Bi e;omega)];simp
 have e2:0<n:=by have:=Bp e2;omega
 refine eC (λe=>no ?_) λe3=> ?_
 ·unfold Gq;rw[an (show¬c.way=0 by simpa using e)];simp
 have e3:c.way=0:=by simpa using e3
 refine eC (λe=>no ?_) λJ=> ?_
 ·unfold Gq;rw[show c.on=true from e];simp
 have J:c.on=false:=J;refine eC (λe=>no ?_) λN=> ?_
 ·unfold Gq;rw[an (show¬c.aI=0 by simpa using e)];simp
 have N:c.aI=0:=by simpa using N
 refine eC (λe=>no ?_) λO=> ?_
 ·unfold Gq;rw[show c.o2=false by simpa using e];simp
 have O:c.o2=true:=by simpa using O
 refine eC (λe=>no ?_) λe7=> ?_
 ·unfold Gq;rw[an (show¬(sgK K c).aX=0 by simpa [gA,nth,Ah]using e)];simp
 have e7:(sgK K c).aX=0:=by simpa [gA,nth,Ah]using e7
 have G:Gq K c n=E6 K c:=by
  unfold Gq;rw[e1,am e2,am e3,J,am N,O,am e7];rfl
 refine eB U (eB (V (At K c)) ?_);have E:=E (Jt K c n);unfold Ki at E;unfold DI;rw[G];cases hb:E6 K c
 ·rw[hb,aa (by simp)]at E;exact eB E (eT rfl rfl)
 ·rw[hb,ab rfl]at E;rw[ab rfl];generalize E9 K c (Jt K c n)=t at*;exact eB E (eF rfl (by kernel_rfl))
theorem Zz3 (h:KOK K) (c:Cv) (n:Int):Rz (I n::Ab K c)=some (Ab (DI K c n).1 (DI K c n).2):=
 Zpl (VG h c) (Nk h c) (Zlv K c (by have:=h.f.p.count;omega)) (Za3 h c)
def evA (s:Kf×Cv) (k n:Int):Kf×Cv:=
 if k=13 then(s.1,M_ s.1 (evC s.2 k n) n)else if k=12 then(s.1,Lm s.1 (evC s.2 k n))else if k=7 then DI s.1 (evC s.2 k n) n else(s.1,evC s.2 k n)
theorem Zed (c:Cv) (x:Int) {k:Int} (n:Int)
  (O:k≠11->S [I c.o0,I c.o1,B c.o2,B c.o3,B c.o4,I x,I k,I n]=some [I (evC c k n).o0,I (evC c k n).o1,B (evC c k n).o2,B (evC c k n).o3,B (evC c k n).o4])
  (U:T [I c.g0,I c.g1,I c.g2,I x,I k,I n]=some [I (evC c k n).g0,I (evC c k n).g1,I (evC c k n).g2])
  (G:k=13->W (I n::Ab K (evC c k n))=some (Ab K (M_ K (evC c k n) n))) (J:k=12->Z (Ab K (evC c k n))=some (Ab K (Lm K (evC c k n))))
  (N:k=7->M (I n::Ab K (evC c k n))=some (Ab (DI K (evC c k n) n).1 (DI K (evC c k n) n).2)) (E:k=13\/k=12\/k=7):
  S9 M Z W T S (I x::I k::I n::Ab K c)=some (Ab (evA (K,c) k n).1 (evA (K,c) k n).2):=by
 rw[Qyb];have V:(evC c k n).aJ=c.aJ:=by
  show(if k=4 then true else c.aJ)=c.aJ;rw[aa]
 have X:({c with o0:=(evC c k n).o0,o1:=(evC c k n).o1,o2:=(evC c k n).o2,o3:=(evC c k n).o3,o4:=(evC c k n).o4,g0:=(evC c k n).g0,g1:=(evC c k n).g1,g2:=(evC c k n).g2}:Cv)=evC c k n:=by
  have e:(evC c k n)={c with o0:=(evC c k n).o0,o1:=(evC c k n).o1,o2:=(evC c k n).o2,o3:=(evC c k n).o3,o4:=(evC c k n).o4,g0:=(evC c k n).g0,g1:=(evC c k n).g1,g2:=(evC c k n).g2,aJ:=(evC c k n).aJ}:=rfl;rw[V]at e;exact e.symm
 refine eB (O (by omega)) (eB U ?_);show cond (k==13) ((W (I n::Ab K {c with o0:=(evC c k n).o0,o1:=(evC c k n).o1,o2:=(evC c k n).o2,o3:=(evC c k n).o3,o4:=(evC c k n).o4,g0:=(evC c k n).g0,g1:=(evC c k n).g1,g2:=(evC c k n).g2})).bind _) (cond (k==11) _ (cond (k==12) ((Z (Ab K {c with o0:=(evC c k n).o0,o1:=(evC c k n).o1,o2:=(evC c k n).o2,o3:=(evC c k n).o3,o4:=(evC c k n).o4,g0:=(evC c k n).g0,g1:=(evC c k n).g1,g2:=(evC c k n).g2})).bind _) (cond (k==7) ((M (I n::Ab K {c with o0:=(evC c k n).o0,o1:=(evC c k n).o1,o2:=(evC c k n).o2,o3:=(evC c k n).o3,o4:=(evC c k n).o4,g0:=(evC c k n).g0,g1:=(evC c k n).g1,g2:=(evC c k n).g2})).bind _) _)))=_;rw[X];unfold evA;dsimp only;generalize evC c k n=d at*;rcases E with E|E|E
 ·rw[ab E];have G:=G E;generalize M_ K d n=e at*;exact eT (beT E) (eB G rfl)
 ·rw[aa,ab E];have J:=J E;generalize Lm K d=e at*;exact eF (beF (by omega)) (eF (beF (by omega)) (eT (beT E) (eB J rfl)))
 ·rw[aa,aa,ab E];have N:=N E;generalize DI K d n=e at*;exact eF (beF (by omega)) (eF (beF (by omega)) (eF (beF (by omega)) (eT (beT E) (eB N rfl))))
theorem Zyh (h:KOK K) (c:Cv) (x k:Int) {n:Int} (G:n<=4194304):JD (I x::I k::I n::Ab K c)=some (Ab (evA (K,c) k n).1 (evA (K,c) k n).2):=by
 by_cases E:k≠7/\k≠12/\k≠13
 ·have e:evA (K,c) k n=(K,evC c k n):=by
   unfold evA;rw[aa E.2.2,aa E.2.1,aa E.1]
  rw[e];exact Qvj c x n E
 ·exact Zed c x n (λh=>Qtt Qsx c x k n h) (Qun (by show Qg []=_;rw[XQ]) Q5m c x k n) (λ_=>(Qtb h _ G).1) (λ_=>(Zxq h _).1) (λ_=>Zz3 h _ n) (by omega)
end Go.Bm
namespace Go.Bm
open Classical
structure Ga (K : Kf) (n : Int) (c : Cv) : Prop where
 way:c.way=0\/c.way=1\/c.way=2
 pass:0<=c.aK/\c.aK<=K.p.aD.length
 task:c.on=true->0<=c.idx/\c.idx<K.p.aD.length
 mo:Mo K c
 m0: -(16777216*n)<=c.m0/\c.m0<=16777216*n
theorem Ga.gd {n:Int} {c:Cv} (g:Ga K n c) (h:c.way=0):Gd K n c:=⟨h,g.pass,g.task,g.mo,g.m0⟩
theorem Gd.ga {n:Int} {c:Cv} (g:Gd K n c):Ga K n c:=⟨.inl g.way,g.pass,g.task,g.mo,g.m0⟩
def w0 (c:Cv):Cv:={c with way:=0}
theorem Ga.w0 {n:Int} {c:Cv} (g:Ga K n c):Gd K n (Go.Bm.w0 c):=⟨rfl,g.pass,g.task,g.mo,g.m0⟩
theorem Ga.up {n:Int} {c:Cv} (g:Ga K n c) (E:0<=n):Ga K (n+1) c:=⟨g.way,g.pass,g.task,g.mo,by have:=g.m0;omega⟩
def B4 (K:Kf) (c:Cv) (E:List Evn):Kf×Cv:=E.foldl (λs e=>evA s e.aP e.n) (K,B5 c)
def EvE (E:List Evn):Prop:=E.length<=1000000/\∀e∈E,e.n<=4194304
theorem Zzx (h:KOK K) (c:Cv) (n:Int):KOK (DI K c n).1:=by
 unfold DI;split
 ·exact h.sT (Vu h c _)
 ·exact h
theorem Qua {s:Kf×Cv} (h:KOK s.1) (k n:Int):KOK (evA s k n).1:=by
 unfold evA;split
 ·exact h
 ·split
  ·exact h
  ·split
   ·exact Zzx h _ _
   ·exact h
theorem Zde:∀(E:List Evn) {s:Kf×Cv},KOK s.1->KOK (E.foldl (λs e=>evA s e.aP e.n) s).1
 |[],_,h=>h
 |e::E,_,h=>Zde E (Qua h e.aP e.n)
theorem Sh (h:KOK K) (c:Cv) (E:List Evn):KOK (B4 K c E).1:=Zde E h
theorem Zsl {M N G O S T MU U V X Y J:Fn} {c:Cv} (hE:EvE E) (h:KOK K)
  (hV:∀{K:Kf} (_:KOK K) (c:Cv) (x k:Int) {n:Int},n<=4194304->J (I x::I k::I n::Ab K c)=some (Ab (evA (K,c) k n).1 (evA (K,c) k n).2)):
  Ak (NC M N G O S T MU U V X Y J) (.vC kPt (E.map evR)::I (E.map evR).length::I 0::(Cg++Ab K (B5 c)))=some (1,Cg++Ab (B4 K c E).1 (B4 K c E).2):=by
 have key:Out (λo=>o=(1,Cg++Ab (B4 K c E).1 (B4 K c E).2)) (Ak (NC M N G O S T MU U V X Y J) (.vC kPt (E.map evR)::I (E.map evR).length::I ((0:Nat):Int)::(Cg++Ab (B4 K c (E.take 0)).1 (B4 K c (E.take 0)).2))):=by
  refine Co (λi:Nat=> .vC kPt (E.map evR)::I (E.map evR).length::I (i:Int)::(Cg++Ab (B4 K c (E.take i)).1 (B4 K c (E.take i)).2)) (λi=>i<=E.length) (λi=>E.length-i) _ ?_ 0 (by simp);intro i hi;have hl:=hE.1;refine Out.eqv (Q0f M N G O S T MU U V X Y J (E.map evR) (E.map evR).length i [] [] 0 0 0 0 0 0 0 (B4 K c (E.take i)).1 (B4 K c (E.take i)).2) ?_;refine .cond (λk=> ?_) λk=> ?_
  ·have k:(i:Int)<((E.map evR).length:Int):=Bi k;have hi:i<E.length:=by rw[af]at k;omega
   refine .cond (λ_=> ?_) λe=>(inB (by omega) k e).elim;rw[Q4p E hi];refine .bind (p:=λo=>o=_) ⟨_,hV (Sh h c (E.take i)) (B4 K c (E.take i)).2 E[i].cycle E[i].aP (hE.2 _ (bn hi)),rfl⟩ λo e=> ?_;subst e;have e1:B4 K c (E.take (i+1))=evA (B4 K c (E.take i)) E[i].aP E[i].n:=by
    unfold B4;rw[jc,ai hi,kn];rfl
   rw[Ae (x:=(i:Int)+1)];refine .some (.inl ⟨rfl,i+1,?_,by omega,by omega⟩);rw[e1];have st:∀(K:Kf) (d:Cv),Cg++cR 0 (Ab K d)=Cg++Ab K d:=λ_ _=>rfl;exact ii (λz=>AC.vC kPt (E.map evR)::I (E.map evR).length::I ((i:Int)+1)::z) (st (evA (B4 K c (E.take i)) E[i].aP E[i].n).1 (evA (B4 K c (E.take i)) E[i].aP E[i].n).2)
  ·have k: ¬(i:Int)<((E.map evR).length:Int):=Bp k;rw[af]at k;rw[i8 (by omega)];generalize B4 K c E=d;exact .some (.inr ⟨by simp,rfl⟩)
 obtain⟨o,h1,rfl⟩:=key;exact h1
def tdC (c:Cv):Cv:={zM c with aL:=true,way:=if c.way=1 then 2 else 0,o2:=if c.way=1 then c.o2 else true}
def toC (K:Kf) (c:Cv):Int:=if c.way=2 then K.len else c.home
def DA (K:Kf) (c:Cv):Kf×Cv:=
 if c.aM=true/\c.m0=V (K.t.length*256)then(if E6 K c=true then(sT K (E9 K c (toC K c)),tdC c)else(K,c))else(K,BO K c K.t.length)
def Ff (c:Cv):Int:=if c.way=2 then 5 else 4
theorem Ztg {c:Cv} {m:AC} (E:M (pxt K.p K.x K.t [I c.m0,I c.m1,I c.m2,I c.m3,I c.m4,I c.m5,I a])=some (Ki K c a)):
  QB M K c m (I a)=some (if E6 K c=true then m::B true::Ab (sT K (E9 K c a)) (tdC c)else m::B true::Ab K c):=by
 unfold Ki at E;cases hb:E6 K c
 ·rw[hb,aa (by simp)]at E;rw[aa (by simp)];exact eB E (eT rfl rfl)
 ·rw[hb,ab rfl]at E;rw[ab rfl];generalize E9 K c a=t at*;refine eB E (eF rfl ?_);unfold tdC;refine eC (λe=> ?_) λe=> ?_
  ·have e:c.way=1:=eq_of_beq e;rw[ab e,ab e];exact(show _=_ from by kernel_rfl)
  ·have e:c.way≠1:=by simpa using e
   rw[aa e,aa e];exact(show _=_ from by kernel_rfl)
theorem Zv6 {c:Cv} (G:c.way≠0) (J:Z (nxL K c K.t.length)=some (El c.m0 c.m1 c.m3 c.m4 (nxV K c K.t.length)))
  (N:∀to,M (pxt K.p K.x K.t [I c.m0,I c.m1,I c.m2,I c.m3,I c.m4,I c.m5,I to])=some (Ki K c to)):
  Ta M Z (Ab K c)=some (I (Ff c)::B true::Ab (DA K c).1 (DA K c).2):=by
 rw[Qzt];refine eF (beF G) ?_;have key:∀m:AC,UC c Z K M m=some (m::B true::Ab (DA K c).1 (DA K c).2):=by
  intro m;unfold DA;have plan: ¬(c.aM=true/\c.m0=V (K.t.length*256))->((Z (nxL K c K.t.length)).bind λE=>some (m::B true::Ab K {c with m0:=gA E 0,m1:=gA E 1,m2:=gA E 2,m3:=gA E 3,m4:=gA E 4,m5:=gA E 5}))=some (m::B true::Ab (if c.aM=true/\c.m0=V (K.t.length*256)then(if E6 K c=true then(sT K (E9 K c (toC K c)),tdC c)else(K,c))else(K,BO K c K.t.length)).1 (if c.aM=true/\c.m0=V (K.t.length*256)then(if E6 K c=true then(sT K (E9 K c (toC K c)),tdC c)else(K,c))else(K,BO K c K.t.length)).2):=λO=>by
   rw[aa O];unfold BO;generalize nxV K c K.t.length=v at*;exact eB J rfl
  have turn:(c.aM=true/\c.m0=V (K.t.length*256))->∀to,to=toC K c->QB M K c m (I to)=some (m::B true::Ab (if c.aM=true/\c.m0=V (K.t.length*256)then(if E6 K c=true then(sT K (E9 K c (toC K c)),tdC c)else(K,c))else(K,BO K c K.t.length)).1 (if c.aM=true/\c.m0=V (K.t.length*256)then(if E6 K c=true then(sT K (E9 K c (toC K c)),tdC c)else(K,c))else(K,BO K c K.t.length)).2):=λS to T=>by
   rw[ab S,<-T,Ztg (N to)];split<;>rfl
  refine eC (λe=> ?_) λe=>eC (λe2=> ?_) λe2=>eC (λe3=> ?_) λe3=> ?_
  ·have e:c.aM=false:=by simpa using e
   exact plan λq=>by rw[e]at q;cases q.1
  ·have e2:c.m0≠V (K.t.length*256):=λq=>by rw[bnF q]at e2;cases e2
   exact plan λq=>e2 q.2
  ·have e:c.aM=true:=by simpa using e
   have e2:c.m0=V (K.t.length*256):=bv λq=>by rw[bnT q]at e2;cases e2
   exact turn ⟨e,e2⟩ K.len (by unfold toC;rw[ab (show c.way=2 from eq_of_beq e3)])
  ·have e:c.aM=true:=by simpa using e
   have e2:c.m0=V (K.t.length*256):=bv λq=>by rw[bnT q]at e2;cases e2
   exact turn ⟨e,e2⟩ c.home (by unfold toC;rw[aa (show¬c.way=2 by simpa using e3)])
 unfold Ff;refine eC (λe=> ?_) λe=> ?_
 ·rw[ab (show c.way=2 from eq_of_beq e)];exact key _
 ·rw[aa (show¬c.way=2 by simpa using e)];exact key _
theorem Zf2 (h:KOK K) {n:Int} {c:Cv} (g:Ga K n c) (E:c.way≠0):Jp (Ab K c)=some (I (Ff c)::B true::Ab (DA K c).1 (DA K c).2):=
 Zv6 E (Vl h g.w0 K.t.length).1 (Za3 h c)
def B2 (K:Kf) (c:Cv):Int×Kf×Cv:=if(Bx K c).1≠0 then((Bx K c).1,K,(Bx K c).2)else if c.way≠0 then(Ff c,DA K c)else(0,K,c)
theorem Zvl {N3:Lp} {ME MR E G J M MU MS MN MX MT MV:Fn} {c:Cv} (frm:Int)
  (hU:MU (Ab K c)=some (if c.g0=2 then I 6::B true::Ab K (stand c)else I 0::B false::Ab K c))
  (hO:M (Ab K c)=some (I c.aI::B (c.aI !=0)::Ab K c))
  (hP:J (Ab K c)=some (if c.aH=true/\c.aM=true then I 8::B true::Ab K {c with aI:=8}else I 0::B false::Ab K c))
  (hB:G (Ab K c)=some (if c.on=true then I (Bv K c).1::B true::Ab K (Bv K c).2 else I 0::B false::Ab K c))
  (hG:E (Ab K c)=some (if c.way≠0 then I (Ff c)::B true::Ab (DA K c).1 (DA K c).2 else I 0::B false::Ab K c)):
  Ak (Fa ME MR E G J M MU MS MN MX MT MV N3) (CV K frm 0 c)=some (1,LL (B2 K c).2.1 frm (B2 K c).1 (B2 K c).2.2):=by
 have w:∀i:Int,0<=i->i<5->V (i+1)=i+1:=λi _ _=>Ae;have e:=λi=>Q7x ME MR E G J M MU MS MN MX MT MV N3 frm 5 i [] [] 0 0 0 0 0 0 0 [] [] 0 0 0 0 0 0 0 K c;have s0:c.g0≠2->Fa ME MR E G J M MU MS MN MX MT MV N3 (CV K frm 0 c)=some (0,CV K frm 1 c):=λh=>by
  refine cx (e 0) (eT rfl (eT rfl (eB hU ?_)));rw[aa h];rfl
 have s1:c.aI=0->Fa ME MR E G J M MU MS MN MX MT MV N3 (CV K frm 1 c)=some (0,CV K frm 2 c):=λh=>by
  refine cx (e 1) (eT rfl (eF rfl (eT rfl (eB hO ?_))));rw[h];rfl
 have s2: ¬(c.aH=true/\c.aM=true)->Fa ME MR E G J M MU MS MN MX MT MV N3 (CV K frm 2 c)=some (0,CV K frm 3 c):=λh=>by
  refine cx (e 2) (eT rfl (eF rfl (eF rfl (eT rfl (eB hP ?_)))));rw[aa h];rfl
 have s3:c.on=false->Fa ME MR E G J M MU MS MN MX MT MV N3 (CV K frm 3 c)=some (0,CV K frm 4 c):=λh=>by
  refine cx (e 3) (eT rfl (eF rfl (eF rfl (eF rfl (eT rfl (eB hB ?_))))));rw[aa (by rw[h];simp)];rfl
 have s4: ¬c.way≠0->Fa ME MR E G J M MU MS MN MX MT MV N3 (CV K frm 4 c)=some (0,CV K frm 5 c):=λh=>by
  refine cx (e 4) (eT rfl (eF rfl (eF rfl (eF rfl (eF rfl (eT rfl (eB hG ?_)))))));rw[aa h];rfl
 have Y:c.way≠0->Fa ME MR E G J M MU MS MN MX MT MV N3 (CV K frm 4 c)=some (1,LL (DA K c).1 frm (Ff c) (DA K c).2):=λh=>by
  refine cx (e 4) (eT rfl (eF rfl (eF rfl (eF rfl (eF rfl (eT rfl (eB hG ?_)))))));rw[ab h];generalize DA K c=z;generalize Ff c=mm;rfl
 have s5:Fa ME MR E G J M MU MS MN MX MT MV N3 (CV K frm 5 c)=some (1,LL K frm 0 c):=by
  exact cx (e 5) (eF rfl rfl)
 have T:∀x:Int×Cv,x.1≠0->Bx K c=x->B2 K c=(x.1,K,x.2):=λx hx e=>by unfold B2;rw[e,ab hx]
 by_cases h:c.g0=2
 ·have N:Bx K c=(6,stand c):=by unfold Bx;rw[ab h]
  rw[T _ (show(6:Int)≠0 by decide) N];refine Be (cx (e 0) (eT rfl (eT rfl (eB hU ?_)))) (by simp);rw[ab h];rfl
 rw[Bz (s0 h)];by_cases O:c.aI=0
 ·rw[Bz (s1 O)];by_cases S:c.aH=true/\c.aM=true
  ·have N:Bx K c=(8,{c with aI:=8}):=by unfold Bx;rw[aa h,aa (by simpa using O),ab S]
   rw[T _ (show(8:Int)≠0 by decide) N];refine Be (cx (e 2) (eT rfl (eF rfl (eF rfl (eT rfl (eB hP ?_)))))) (by simp);rw[ab S];rfl
  ·rw[Bz (s2 S)];cases U:c.on
   ·have N:Bx K c=(0,c):=by unfold Bx;rw[aa h,aa (by simpa using O),aa S,aa (by rw[U];simp)]
    rw[Bz (s3 U)];unfold B2;rw[N,aa (by simp)];by_cases X:c.way≠0
    ·rw[ab X];exact Be (Y X) (by simp)
    ·rw[aa X,Bz (s4 X)];exact Be s5 (by simp)
   ·have N:Bx K c=Bv K c:=by unfold Bx;rw[aa h,aa (by simpa using O),aa S,ab U]
    rw[T _ (Z41 K c) N];refine Be (cx (e 3) (eT rfl (eF rfl (eF rfl (eF rfl (eT rfl (eB hB ?_))))))) (by simp);rw[ab U];generalize Bv K c=wk;rfl
 ·have N:Bx K c=(c.aI,c):=by unfold Bx;rw[aa h,ab O]
  rw[T _ O N];refine Be (cx (e 1) (eT rfl (eF rfl (eT rfl (eB hO ?_))))) (by simp);rw[bnT O];rfl
def Ic (K:Kf) (c:Cv) (s:Int):List Int×Cv:=if c.way=0 then BV K c s else([],c)
def Qc8 (K:Kf) (c:Cv) (frm:Int):Rw:=if c.aL=true then []else Nf K frm (AE c)
theorem Zut {MM MP MB MO MU:Fn} {c:Cv} {frm mode:Int}
  (S:MU (Ab K c)=some [I (AE c)]) (T:MO (Ab K c)=some [I (At K c)]) (J:Out (λo=>wA o 0=Nf K frm (AE c)) (MB (pxt K.p K.x K.t [I frm,I (AE c)])))
  (M:∀s,MP (I s::Ab K c)=some (.vC Aa ((BV K c s).1.map Ao)::Ab K (BV K c s).2)) (U:∀s,∃n q:Int,(BV K c s).2={c with aK:=n,outs:=q}) (G:∀u,MM (pxt K.p K.x K.t [I u])=some (ptR (CO K.p K.x K.t u))):
  SE MM MP MB MO MU (I frm::(Ab K c++[.vC kPt [], .vC Aa [],I mode,I 0,I 0,I 0,I 0,I 0,I 0]))=
   some (Ab K (Ic K c (At K c)).2++B8 (Qc8 K c frm) ((Ic K c (At K c)).1.map Ao) mode (At K c) (BR K c) c.s3 c.g1):=by
 refine cx (Q6n MM MP MB MO MU frm [] [] mode 0 0 0 0 0 0 K c) ?_;refine eB S (eB T ?_);have key:∀(l:Rw) (N E:List AC),gA N 0=AE c->gA E 0=At K c->Sn c MP E K MM N mode [] (.vC kPt l)=some (Ab K (Ic K c (At K c)).2++B8 l ((Ic K c (At K c)).1.map Ao) mode (At K c) (BR K c) c.s3 c.g1):=by
  intro l N E V O;unfold Sn Ic;simp only[jA,V,O];have M:=M (At K c);obtain⟨n,q,X⟩:=U (At K c);have G:=G (AE c);rw[show BR K c=CO K.p K.x K.t (AE c)from rfl];generalize CO K.p K.x K.t (AE c)=mt at*;generalize At K c=s at*;refine eC (λe=> ?_) λe=> ?_
  ·rw[ab (show c.way=0 from eq_of_beq e)];generalize BV K c s=ps at*;refine eB M ?_;rw[X];exact eB G rfl
  ·rw[aa (show¬c.way=0 by simpa using e)];exact eB G rfl
 unfold Qc8;refine eC (λe=> ?_) λe=> ?_
 ·have e:c.aL=false:=by simpa using e
  rw[aa (by rw[e];simp)];obtain⟨o,J,Y⟩:=J;rw[<-Y];exact eB J (key _ _ _ rfl rfl)
 ·have e:c.aL=true:=by simpa using e
  rw[ab e];exact key _ _ _ rfl rfl
def BB (K:Kf) (c:Cv) (E:List Evn):Kf×Cv:=((B4 K c E).1,FC (Dq (B4 K c E).1 (Bd (Du (B4 K c E).2))))
def stA (K:Kf) (c:Cv) (E:List Evn):Int×Kf×Cv:=
 if(B2 (BB K c E).1 (BB K c E).2).1=0 then((CQ (BB K c E).1 (B2 (BB K c E).1 (BB K c E).2).2.2).1,(BB K c E).1,(CQ (BB K c E).1 (B2 (BB K c E).1 (BB K c E).2).2.2).2)else B2 (BB K c E).1 (BB K c E).2
def EL (K:Kf) (c:Cv) (E:List Evn):Kf×Cv:=((stA K c E).2.1,(Ic (stA K c E).2.1 (stA K c E).2.2 (At (stA K c E).2.1 (stA K c E).2.2)).2)
def tkA (K:Kf) (c:Cv) (E:List Evn):List AC:=
 B8 (Qc8 (stA K c E).2.1 (stA K c E).2.2 (AE (B4 K c E).2)) ((Ic (stA K c E).2.1 (stA K c E).2.2 (At (stA K c E).2.1 (stA K c E).2.2)).1.map Ao) (stA K c E).1 (At (stA K c E).2.1 (stA K c E).2.2) (BR (stA K c E).2.1 (stA K c E).2.2) (stA K c E).2.2.s3 (stA K c E).2.2.g1
theorem Zi7 {o:Nat×List AC} (E:∃e,o.2=Cg++Ab K e) {m:Int} {K2:Kf} {d2:Cv}
  (J:N (CV K a 0 d)=some (1,LL K2 a m d2)) {w s:Int×Cv} (S:m=0->M (Ab K2 d2)=some (I w.1::Ab K2 w.2)) (G:s=if m=0 then w else(m,d2))
  {pul outs:Rw} {pos sp ft:Int} {mt:Pt} {q:Cv}
  (O:Z (I a::(Ab K2 s.2++[.vC kPt [], .vC Aa [],I s.1,I 0,I 0,I 0,I 0,I 0,I 0]))=some (Ab K2 q++B8 pul outs s.1 pos mt sp ft)):
  GT N o M Z (I a) (Ab K d)=some (B8 pul outs s.1 pos mt sp ft++Ab K2 q):=by
 obtain⟨o1,o2⟩:=o;obtain⟨e,E⟩:=E;dsimp only at E;subst E;refine eB J (eT rfl ?_);by_cases h:m=0
 ·rw[ab h]at G;subst G;exact eT (show(m==0)=true from beT h) (eB (S h) (eB O rfl))
 ·rw[aa h]at G;subst G;exact eF (show(m==0)=false from beF h) (eB O rfl)
theorem Z16 {M N O MB MP MO MU S U V X MV:Fn} {Y G:Lp} {K K2:Kf} {c d:Cv} {T:List AC}
  (h3:Y (.vC kPt (E.map evR)::I (E.map evR).length::I 0::(Cg++Ab K (B5 c)))=some (1,Cg++Ab K2 d))
  (hT:∀c,X (Ab K2 c)=some [B (HT K2 c)]) (hX:∀(c:Cv) (ramp:Int),V [I c.s0,I c.s1,I c.s2,I c.s3,I ramp]=some [I (spS c ramp).s0,I (spS c ramp).s1,I (spS c ramp).s2,I (spS c ramp).s3])
  (hN:∀c,U (Ab K2 c)=some [I (AE c)]) (hS:∀c:Cv,S [I c.m0,I c.m1,I c.m2,I c.m3,I c.m4,I c.m5]=some [B (AR c)])
  (J:∀o:Nat×List AC,(∃e,o.2=Cg++Ab K2 e)->GT G o N M (I (AE d)) (Ab K2 (FC (Dq K2 (Bd (Du d)))))=some T):
  Vy M N O MB MP MO MU S U V X MV Y G (.vC kPt (E.map evR)::Ab K c)=some T:=by
 refine cx (Q0y M N O MB MP MO MU S U V X MV Y G (E.map evR) K c) ?_;refine eB h3 (eT rfl ?_)
 have rest:∀b:Cv,Du d=b->AE b=AE d->AR b=AR d->
   ((X (Ab K2 (Bd b))).bind λo => bif !bA o 0 then (V [I b.s0, I b.s1, I b.s2, I b.s3, I K2.ramp]).bind λo2 => (U (Ab K2 { Bd b with s0 := gA o2 0, s1 := gA o2 1, s2 := gA o2 2, s3 := gA o2 3 })).bind λo3 => (S [I d.m0, I d.m1, I d.m2, I d.m3, I d.m4, I d.m5]).bind λo4 => GT G (1, Cg ++ Ab K2 d) N M (jA o3 0) (Ab K2 { Bd b with s0 := gA o2 0, s1 := gA o2 1, s2 := gA o2 2, s3 := gA o2 3, aM := bA o4 0 })
    else(U (Ab K2 (Bd b))).bind λo3=>(S [I d.m0,I d.m1,I d.m2,I d.m3,I d.m4,I d.m5]).bind λo4=>GT G (1,Cg++Ab K2 d) N M (jA o3 0) (Ab K2 {Bd b with aM:=bA o4 0}))=some T:=λb hb hu hs=>by
  have J:=J (1,Cg++Ab K2 d) ⟨d,rfl⟩;rw[hb]at J;refine eB (hT (Bd b)) ?_;cases ht:HT K2 (Bd b)
  ·have e1:Dq K2 (Bd b)=spS (Bd b) K2.ramp:=by unfold Dq;rw[aa (by rw[ht];simp)]
   rw[e1]at J;refine eT rfl (eB (hX b K2.ramp) ?_);refine cx (ii (λz=>Option.bind z _) (hN (spS (Bd b) K2.ramp))) (eB rfl (eB (hS d) ?_));have e2:AE (spS (Bd b) K2.ramp)=AE d:=hu;have e3:({spS (Bd b) K2.ramp with aM:=AR d}:Cv)=FC (spS (Bd b) K2.ramp):=by
    unfold FC;rw[show AR (spS (Bd b) K2.ramp)=AR b from rfl,hs]
   rw[<-e3,<-e2]at J;exact J
  ·have e1:Dq K2 (Bd b)=Bd b:=by unfold Dq;rw[ab ht]
   rw[e1]at J;refine eF rfl ?_;refine cx (ii (λz=>Option.bind z _) (hN (Bd b))) (eB rfl (eB (hS d) ?_));have e2:AE (Bd b)=AE d:=hu;have e3:({Bd b with aM:=AR d}:Cv)=FC (Bd b):=by
    unfold FC;rw[show AR (Bd b)=AR b from rfl,hs]
   rw[<-e3,<-e2]at J;exact J
 refine eC (λt=> ?_) λt=>eC (λq=> ?_) λq=> ?_
 ·have t:d.aH=true:=t;exact rest {d with o2:=true} (by unfold Du;rw[ab (.inl t)]) rfl rfl
 ·have q:d.g0≠0:=λe=>by
   have:(d.g0 !=0)=true:=q;rw[bnF e]at this;cases this
  exact rest {d with o2:=true} (by unfold Du;rw[ab (.inr q)]) rfl rfl
 ·have t:d.aH=false:=t;have q:d.g0=0:=bv λe=>by
   have:(d.g0 !=0)=false:=q;rw[bnT e]at this;cases this
  exact rest d (by unfold Du;rw[aa (λw=>by rcases w with w|w;rw[t]at w;cases w;exact w q)]) rfl rfl
theorem Ga.sm {n:Int} {c d:Cv} (g:Ga K n c) (h:Sm c d):Ga K n d:=by
 refine⟨by rw[h.kp.way];exact g.way,by rw[h.kp.aK];exact g.pass,by rw[h.on,h.idx];exact g.task,?_,by rw[h.m0];exact g.m0⟩;have:=g.mo;unfold Mo at*;rw[h.m1,h.m2];exact this
theorem Ga.turn (h:KOK K) {n:Int} {c d:Cv} (g:Ga K n c) (N:0<=n) (E:d.way=0\/d.way=1\/d.way=2) (G:d.aK=c.aK) (I:d.on=c.on) (hi:d.idx=c.idx) (h0:d.m0=0) (J:d.m1=0) (M:d.m2=0) (t:Trk):Ga (sT K t) n d:=by
 refine⟨E,by rw[G];exact g.pass,by rw[I,hi];exact g.task,?_,by rw[h0];omega⟩;unfold Mo;rw[J,M];exact PJ h.plan
theorem Zw2 {n:Int} {c d:Cv} (g:Ga K n c) (h:FJ c d):Ga K n d:=by
 rcases h with rfl|⟨a,-,rfl⟩
 ·exact g
 ·exact⟨g.way,g.pass,g.task,g.mo,g.m0⟩
theorem Zqo (h:KOK K) {n:Int} (E:0<=n) {c:Cv} (g:Ga K n c) (m:Int):Ga (DI K c m).1 n (DI K c m).2:=by
 unfold DI;by_cases hb:Gq K c m=true
 ·rw[ab hb];generalize E9 K c (Jt K c m)=t;generalize At K c=z;exact g.turn (d:={zM c with o2:=false,way:=1,home:=z}) h E (.inr (.inl rfl)) rfl rfl rfl rfl rfl rfl t
 ·rw[aa hb];exact g
theorem Zr7 {n:Int} {c:Cv} (g:Ga K n c):Ga K n (Lm K c):=by
 have key:∀b:Bool,Ga K n {c with aH:=b}:=λb=>⟨g.way,g.pass,g.task,g.mo,g.m0⟩;exact key _
theorem Zp3 {s:Kf×Cv} (h:KOK s.1) {n:Int} (J:0<=n) (g:Ga s.1 n s.2) (k m:Int) (M:m<=4194304):Ga (evA s k m).1 n (evA s k m).2:=by
 have g1:=g.sm (Q0j s.2 k m);unfold evA;generalize evC s.2 k m=d at*;by_cases E:k=13
 ·rw[ab E];exact Zw2 g1 (Qtb h d M).2
 ·rw[aa E];by_cases G:k=12
  ·rw[ab G];exact Zr7 g1
  ·rw[aa G];by_cases I:k=7
   ·rw[ab I];exact Zqo h J g1 m
   ·rw[aa I];exact g1
theorem Q6h {n:Int} (G:0<=n):∀(E:List Evn) {s:Kf×Cv},(∀e∈E,e.n<=4194304)->KOK s.1->Ga s.1 n s.2->Ga (E.foldl (λs e=>evA s e.aP e.n) s).1 n (E.foldl (λs e=>evA s e.aP e.n) s).2
 |[],_,_,_,g=>g
 |e::E,_,I,h,g=>Q6h G E (λx J=>I x (by simp[J])) (Qua h e.aP e.n) (Zp3 h G g e.aP e.n (I e (by simp)))
theorem Yb (h:KOK K) {n:Int} (G:0<=n) {c:Cv} (g:Ga K n c) {E:List Evn} (I:EvE E):Ga (B4 K c E).1 n (B4 K c E).2:=
 Q6h G E I.2 (s:=(K,B5 c)) h ⟨g.way,g.pass,g.task,g.mo,g.m0⟩
theorem Zk1 (K:Kf) (d:Cv):Sm d (FC (Dq K (Bd (Du d)))):=
 (Q5e d).trans (Sm.trans (b:=Bd (Du d)) ⟨⟨rfl,rfl,rfl,rfl⟩,rfl,rfl,rfl,rfl,rfl,rfl,rfl,rfl,rfl,rfl⟩ ((Zcg K _).trans ⟨⟨rfl,rfl,rfl,rfl⟩,rfl,rfl,rfl,rfl,rfl,rfl,rfl,rfl,rfl,rfl⟩))
theorem Jf (h:KOK K) {n:Int} (G:0<=n) {c:Cv} (g:Ga K n c) {E:List Evn} (I:EvE E):Ga (BB K c E).1 n (BB K c E).2:=(Yb h G g I).sm (Zk1 _ _)
end Go.Bm
namespace Go.Bm
theorem Ztp {n:Int} {c:Cv} (g:Ga K n c):Ga K n (GG K c).2:=by
 have done:∀d:Cv,Ga K n d->Ga K n (Ie d):=λd g=>⟨g.way,g.pass,λh=>(by cases h),g.mo,g.m0⟩;have cmd:∀E sp:Int,Ga K n (Jl c E sp):=λE sp=>⟨g.way,g.pass,g.task,g.mo,g.m0⟩;unfold GG;split
 ·split
  ·exact done c g
  ·exact g
 ·split
  ·exact done c g
  ·split
   ·split
    ·exact g
    ·exact done c g
   ·split
    ·split
     ·exact done _ (cmd _ _)
     ·exact cmd _ _
    ·split
     ·exact⟨g.way,g.pass,g.task,g.mo,g.m0⟩
     ·exact done c g
theorem Zel {n:Int} {c:Cv} (g:Ga K n c):Ga K n (Bv K c).2:=Ztp (K:=K) (c:=De c) ⟨g.way,g.pass,g.task,g.mo,g.m0⟩
theorem Z6s {n:Int} {c:Cv} (h:KOK K) (g:Ga K n c) (G:0<=n/\n<=10000):Ga K n (Bx K c).2:=by
 unfold Bx;split
 ·have E:=(g.w0.stand h G).1;exact⟨g.way,g.pass,g.task,E.mo,E.m0⟩
 ·split
  ·exact g
  ·split
   ·exact⟨g.way,g.pass,g.task,g.mo,g.m0⟩
   ·split
    ·exact Zel g
    ·exact g
theorem Zfw {n:Int} {c:Cv} (h:KOK K) (g:Ga K n c) (G:0<=n/\n<=10000) (l:Int):Ga K (n+1) (BO K c l):=by
 have E:=ZE h g.w0 G l;exact⟨g.way,g.pass,g.task,E.mo,E.m0⟩
theorem Z3h {n:Int} {c:Cv} (h:KOK K) (g:Ga K n c) (E:0<=n/\n<=10000):Ga (DA K c).1 (n+1) (DA K c).2:=by
 unfold DA;by_cases G:c.aM=true/\c.m0=V (K.t.length*256)
 ·rw[ab G];by_cases I:E6 K c=true
  ·rw[ab I];generalize E9 K c (toC K c)=t;have M:(tdC c).way=0\/(tdC c).way=1\/(tdC c).way=2:=by
    show(if c.way=1 then(2:Int)else 0)=0\/_=1\/(if c.way=1 then(2:Int)else 0)=2;by_cases J:c.way=1
    ·rw[ab J];exact .inr (.inr rfl)
    ·rw[aa J];exact .inl rfl
   exact(g.up E.1).turn (d:=tdC c) h (by omega) M rfl rfl rfl rfl rfl rfl t
  ·rw[aa I];exact g.up E.1
 ·rw[aa G];exact Zfw h g E _
theorem Zns (h:KOK K) (c:Cv):KOK (DA K c).1:=by
 unfold DA;split
 ·split
  ·exact h.sT (Vu h c _)
  ·exact h
 ·exact h
theorem Z2q (h:KOK K) (c:Cv):KOK (B2 K c).2.1:=by
 unfold B2;split
 ·exact h
 ·split
  ·exact Zns h c
  ·exact h
theorem Z9f {n:Int} {c:Cv} (h:KOK K) (g:Ga K n c) (E:0<=n/\n<=10000):Ga (B2 K c).2.1 (n+1) (B2 K c).2.2:=by
 unfold B2;split
 ·exact(Z6s h g E).up E.1
 ·split
  ·exact Z3h h g E
  ·exact g.up E.1
theorem Tl {c:Cv} (h:(B2 K c).1=0):c.way=0/\B2 K c=(0,K,c):=by
 unfold B2 at h⊢;by_cases E:(Bx K c).1≠0
 ·rw[ab E]at h;exact absurd h E
 ·rw[aa E]at h⊢;by_cases G:c.way≠0
  ·rw[ab G]at h;have h:Ff c=0:=h;unfold Ff at h;split at h<;>cases h
  ·rw[aa G];exact⟨by simpa using G,rfl⟩
theorem Zjr {c:Cv} {n:Int} (h:KOK K) (g:Ga K n c):KU (Ab K c)=some (if c.on=true then I (Bv K c).1::B true::Ab K (Bv K c).2 else I 0::B false::Ab K c):=by
 have key:∀{M:Fn},(c.on=true->M (Ab K c)=some (I (Bv K c).1::Ab K (Bv K c).2))->VI M (Ab K c)=some (if c.on=true then I (Bv K c).1::B true::Ab K (Bv K c).2 else I 0::B false::Ab K c):=by
  intro M E;rw[Q1k];cases e:c.on
  ·rw[aa (by simp)];rfl
  ·rw[ab rfl];have E:=E e;generalize Bv K c=G at*;exact eB E rfl
 exact key λe=>Qa6 h (g.task e).1 (g.task e).2
theorem Qxf {n:Int} {c:Cv} (g:Ga K n c) (E:0<=n/\n<=10010): -300000000000<=AE c/\AE c<=300000000000:=Y0 (c:=w0 c) g.w0 E
theorem Z7n (h:KOK K) (c:Cv) (E:List Evn):KOK (stA K c E).2.1:=by
 have G:KOK (BB K c E).1:=Sh h c E;unfold stA;split
 ·exact G
 ·exact Z2q G _
theorem Qhq {n:Int} {c:Cv} (h:KOK K) (g:Ga K n c) (G:0<=n/\n<=10000) {E:List Evn} (N:EvE E):Ga (stA K c E).2.1 (n+1) (stA K c E).2.2:=by
 have J:KOK (BB K c E).1:=Sh h c E;have M:=Jf h G.1 g N;unfold stA;by_cases I:(B2 (BB K c E).1 (BB K c E).2).1=0
 ·rw[ab I];obtain⟨O,e⟩:=Tl I;rw[e];exact(Q4t J (M.gd O) G).1.ga
 ·rw[aa I];exact Z9f J M G
theorem Zha {n:Int} {c:Cv} (g:Ga K n c) (G:0<=n) (s:Int):Ga K n (Ic K c s).2:=by
 unfold Ic;by_cases E:c.way=0
 ·rw[ab E];have hb:=TE K s (K.p.aD.drop c.aK.toNat) c;rw[co]at hb;have hb:c.aK<=(BV K c s).2.aK/\(BV K c s).2.aK<=c.aK+((K.p.aD.length-c.aK.toNat:Nat):Int):=hb;obtain⟨m,q,e⟩:=RX K c s;rw[e]at hb⊢;have I:=g.pass;exact⟨g.way,by dsimp only at hb⊢;omega,g.task,g.mo,g.m0⟩
 ·rw[aa E];exact g
theorem Q1p {n:Int} {c:Cv} (h:KOK K) (g:Ga K n c) (G:0<=n/\n<=10000) {E:List Evn} (I:EvE E):Ga (EL K c E).1 (n+1) (EL K c E).2:=Zha (Qhq h g G I) (by omega) _
theorem Yaq (h:KOK K) {n:Int} {c:Cv} (g:Ga K n c):Jp (Ab K c)=some (if c.way≠0 then I (Ff c)::B true::Ab (DA K c).1 (DA K c).2 else I 0::B false::Ab K c):=by
 by_cases E:c.way≠0
 ·rw[ab E];exact Zf2 h g E
 ·rw[aa E];exact Q2d (by simpa using E)
theorem Qt3 {c:Cv} {n:Int} (h:KOK K) (g:Ga K n c) (I:0<=n/\n<=10000) {E:List Evn} (J:EvE E):
  Gy (.vC kPt (E.map evR)::Ab K c)=some (tkA K c E++Ab (EL K c E).1 (EL K c E).2):=by
 have O:KOK (BB K c E).1:=Sh h c E;have S:=Jf h I.1 g J;have ge:=Yb h I.1 g J;have T:=Qhq h g I J;have M:=Z7n h c E;have hf:=Qxf ge (by omega);have X:=Qxf T (by omega);refine Z16 (K2:=(B4 K c E).1) (d:=(B4 K c E).2) (Zsl J h (fun{K} N c x k {n} I=>Zyh N c x k I)) (Q6u (Sh h c E)) Q7o (LD _) Qkk λo U=> ?_;have V:=Zvl (ME:=Ls) (MR:=Kr) (MS:=HY) (MN:=Dm) (MX:=Kw) (MT:=Ln) (MV:=JD) (N3:=Tz) (K:=(BB K c E).1) (c:=(BB K c E).2) (AE (B4 K c E).2) (Q2e _ _) (Qwe _ _) (Q0i _ _) (Zjr O S) (Yaq O S);have he:=Zut (MM:=EB) (MP:=NJ) (MB:=Ks) (MO:=Dn) (MU:=Dm) (K:=(stA K c E).2.1) (c:=(stA K c E).2.2) (frm:=AE (B4 K c E).2) (mode:=(stA K c E).1) (LD _ _) (Nk M _) (Q8a M _ _ (by omega)) (λs=>Qyv M T.pass s) (RX _ _) (QE M.f);have N:(B2 (BB K c E).1 (BB K c E).2).2.1=(stA K c E).2.1:=by
  unfold stA;by_cases G:(B2 (BB K c E).1 (BB K c E).2).1=0
  ·rw[ab G,(Tl G).2]
  ·rw[aa G]
 refine Zi7 (w:=CQ (BB K c E).1 (B2 (BB K c E).1 (BB K c E).2).2.2) (s:=((stA K c E).1,(stA K c E).2.2)) (K2:=(stA K c E).2.1) (d2:=(B2 (BB K c E).1 (BB K c E).2).2.2) (m:=(B2 (BB K c E).1 (BB K c E).2).1) U ?_ ?_ ?_ he
 ·rw[<-N];exact V
 ·intro G;rw[<-N,(Tl G).2];exact Zbr O (S.gd (Tl G).1) I
 ·unfold stA;by_cases G:(B2 (BB K c E).1 (BB K c E).2).1=0
  ·rw[ab G,ab G]
  ·rw[aa G,aa G]
end Go.Bm
namespace Go.Bm
open Classical
def okD (d:Pt):Prop:=(d.x=1\/d.x= -1)/\(d.y=1\/d.y= -1)/\(d.z=1\/d.z= -1)
theorem Zk3 {d a b:Pt} (E:k=1\/k= -1) (h:okD d):okD (D9 d a b k):=by
 obtain⟨G,I,J⟩:=h;unfold okD D9 Rx;simp only;refine⟨?_,?_,?_⟩<;>(repeat' split)<;>omega
theorem Q55 {c:Pce} (h:∀k∈t.aE,okD k.aT) (G:okD c.aT):∀k∈(FD t c).aE,okD k.aT:=by
 unfold FD;by_cases g:t.aE≠[]/\c.bD≠0/\(Bl t.aE).bD=c.bD/\(Bl t.aE).aT=c.aT
 ·rw[ab g];intro k E;rcases d8 E with E|rfl
  ·exact h k E
  ·have:=h (Bl t.aE) (Qfy g.1);exact this
 ·rw[aa g];intro k E;rcases bq.1 E with E|E
  ·exact h k E
  ·rw[dw]at E;subst E;exact G
theorem Qzw {x:Ax3} {mv lo hi f:Int} (I:mv=1\/mv= -1) (J:okD g):∀j,(∀k∈(Cw p x mv lo hi (⟨[],0,f,g⟩,g) j).1.aE,okD k.aT)/\okD (Cw p x mv lo hi (⟨[],0,f,g⟩,g) j).2
 |0=>⟨by simp[Cw],J⟩
 |j+1=>by
  obtain⟨E,M⟩:=Qzw (x:=x) (lo:=lo) (hi:=hi) (f:=f) I J j;rw[Cw];unfold In;split
  ·unfold CW;simp only;have G:=Zk3 (a:=Fm p.aQ p.aF (EC p.aF.length mv j)) (b:=(sgA p.aF (EC p.aF.length mv j)).to) I M;refine⟨Q55 ?_ G,G⟩;split
   ·exact Q55 E G
   ·exact E
  ·exact⟨E,M⟩
theorem Zap {x:Ax3} (E:okD g):∀k∈(AL p x g a b).aE,okD k.aT:=by
 unfold AL;exact(Qzw (by split<;>simp) E _).1
def Qj (a:Axs) (g:Int->Int) (f:Pt->Int) (c:Pce) (u:Int):Int:=D8 a (g (c.s+c.bD*(u-c.at_)))+DW a c.bD c.at_ (f c.was) (f c.aT) u
def JT (a:Axs) (g:Int->Int) (f:Pt->Int):List Pce->Int->Int
 |[],_=>0
 |c::l,u=>if u<=c.at_+c.aR then Qj a g f c u else JT a g f l u
def KR (x:Ax3) (a:Axs) (f:Pt->Int):Prop:=(0<=a.bB/\a.bB<=1000)/\(∀d,okD d->f d=1\/f d= -1)/\(∀w d,f w≠f d->a.bB<=CJ x w d)
theorem Qn6 {x:Ax3} (h:Ax3OK x):KR x x.a Pt.x:=⟨h.a,λd E=>E.1,λw d G=>by have I:=h.a;unfold CJ slk;rw[aa G];(repeat' split)<;>omega⟩
theorem Zay {x:Ax3} (h:Ax3OK x):KR x x.b Pt.y:=⟨h.b,λd E=>E.2.1,λw d G=>by have I:=h.a;have J:=h.b;unfold CJ slk;rw[aa G];(repeat' split)<;>omega⟩
theorem Zc9 {x:Ax3} (h:Ax3OK x):KR x x.c Pt.z:=⟨h.c,λd E=>E.2.2,λw d G=>by have I:=h.a;have J:=h.b;unfold CJ slk;rw[aa G];omega⟩
theorem Qxm {x:Ax3} {a:Axs} {f:Pt->Int} {g:Int->Int} {at_ s:Int} {d:Pt} {c:Pce} {l:List Pce} (T:KR x a f) (h:chain x k Q at_ s d (c::l)) (U:k=1\/k= -1) (V:okD d) (X:okD c.aT):
  Qj a g f c at_=D8 a (g s)+AP a (f d)/\Qj a g f c (at_+c.aR)=D8 a (g (s+c.bD*c.aR))+AP a (f c.aT):=by
 obtain⟨hb,hf,J⟩:=T;obtain⟨Y,h2,h3,h4,-⟩:=h;have G:=hf d V;have E:=hf c.aT X;unfold Qj;rw[Y,h2,show at_-at_=0 by omega,show at_+c.aR-at_=c.aR by omega,Int.mul_zero,iz];rcases h4 with⟨k1,k2,I,-⟩|⟨k1,k2,I⟩
 ·have N:c.bD≠0:=by rcases U with rfl|rfl<;>omega
  unfold DW;rw[ab (.inl N),ab (.inl N)];refine⟨?_,rfl⟩;by_cases e:f d=f c.aT
  ·rw[e]
  ·have:=J d c.aT e;rw[I]at this;unfold AP
   (repeat' split)<;>omega
 ·rw[k1,k2,kg,iz];by_cases e:f d=f c.aT
  ·unfold DW;have O:(0:Int)≠0\/f d=f c.aT:= .inr e;rw[ab O,ab O,e];exact⟨rfl,rfl⟩
  ·have:=J d c.aT e;rw[<-I]at this;have S: ¬((0:Int)≠0\/f d=f c.aT):=λg=>g.elim (λg=>g rfl) e;unfold DW AP;rw[aa S,aa S];generalize D8 a (g s)=M;constructor
   ·rcases E with E|E<;>rcases G with G|G<;>rw[E,G]<;>simp<;>omega
   ·rcases E with E|E<;>rw[E]<;>simp<;>omega
theorem Q0z {a:Axs} {g:Int->Int} {f:Pt->Int}:∀{l:List Pce} {u:Int},fI l u<l.length->JT a g f l u=Qj a g f (pcA l (fI l u)) u
 |[],_,h=>by simp at h
 |c::l,u,h=>by
  unfold fI at h⊢;unfold JT;by_cases E:u<=c.at_+c.aR
  ·rw[ab E,ab E,Iv]
  ·rw[aa E]at h⊢;rw[aa E,FM];exact Q0z (by simpa using h)
theorem Z30 {x:Ax3} (I:GoodPath p) (E:Ax3M x) (G:TH t) (u:Int):(CO p x t u).x.natAbs<=3000000000/\(CO p x t u).y.natAbs<=3000000000/\(CO p x t u).z.natAbs<=3000000000:=by
 obtain⟨o1,o2,o3⟩:=Zcu I (Az t u);have b1:=NY E.a o1;have b2:=NY E.b o2;have b3:=NY E.c o3;have s1:=Pi E.ok.a G u Pt.x;have s2:=Pi E.ok.b G u Pt.y;have s3:=Pi E.ok.c G u Pt.z;unfold CO CX;simp only;omega
theorem Qva:∀{d:Pt} {l:List Pce},l≠[]->FH d l=(Bl l).aT
 |_,[],h=>absurd rfl h
 |d,[c],_=>rfl
 |d,c::e::l,_=>by
  have E:=Qva (d:=c.aT) (l:=e::l) (by simp);show FH c.aT (e::l)=_;rw[E];unfold Bl;simp
theorem Z1a (t:Trk):Pn t=FH t.aT t.aE:=by
 unfold Pn;by_cases c:t.aE=[]
 ·rw[ab c,c];rfl
 ·rw[aa c,Qva c]
theorem Qts {x:Ax3} {a:Axs} {f:Pt->Int} {g:Int->Int} (I:KR x a f) (J:b=1\/b= -1):∀{at_ s:Int} {d:Pt} {l:List Pce},chain x b Q at_ s d l->okD d->(∀k∈l,okD k.aT)->l≠[]->JT a g f l (By at_ l)=D8 a (g (endQ s l))+AP a (f (FH d l))
 |at_,s,d,[c],h,M,G,_=>by
  have O:=(Qxm (g:=g) I h J M (G c (by simp))).2;have S:=h.1;show JT a g f [c] (at_+c.aR)=_;unfold JT;rw[ab,O];rfl
 |at_,s,d,c::e::l,h,M,G,_=>by
  have N:=h.2.2.2.2;have S:=h.1;have T:=Qts (g:=g) I J N (G c (by simp)) (λk E=>G k (by simp at E⊢;exact .inr E)) (by simp);have V:at_+c.aR<By (at_+c.aR) (e::l):=by
   obtain⟨-,-,X,-,U⟩:=N;have:=SJ U;simp only[By];omega
  show JT a g f (c::e::l) (By (at_+c.aR) (e::l))=D8 a (g (endQ (s+c.bD*c.aR) (e::l)))+AP a (f (FH c.aT (e::l)));rw[<-T];generalize By (at_+c.aR) (e::l)=A at*;show(if _ then _ else _)=_;rw[aa]
theorem Zw {x:Ax3} {a:Axs} {f:Pt->Int} (g:Int->Int) {mv e:Int} {Q:Int->Pt->Prop} {t:Trk} {d:Pt} (M:KR x a f) (N:mv=1\/mv= -1) (h:TC x mv Q t e d) (O:TQ t) (S:okD t.aT) (J:∀k∈t.aE,okD k.aT):
  D8 a (g (Az t 0))+shT a t 0 f=D8 a (g t.aQ)+AP a (f t.aT)/\D8 a (g (Az t t.length))+shT a t t.length f=D8 a (g e)+AP a (f (Pn t)):=by
 obtain⟨E,X,I,-⟩:=h;have hl:=O.len;rw[Z1a];by_cases c:t.aE=[]
 ·unfold Az shT;rw[ab c,ab c,ab c];rw[c]at I⊢;simp only[endQ]at I;simp only[FH];rw[I];simp
 ·have G:∀v,0<=v->v<=t.length->clT t v=v:=by intro v g1 g2;unfold clT AS;omega
  have T:∀v:Int,0<=v->v<=t.length->D8 a (g (Az t v))+shT a t v f=JT a g f t.aE v:=by
   intro v g1 g2;have hi:=JZ O v c;have U:iT t v=fI t.aE v:=by unfold iT;rw[G v g1 g2]
   unfold Az shT;rw[aa c,aa c,U,G v g1 g2];rw[U]at hi;exact(Q0z hi).symm
  rw[T 0 (by omega) (by omega),T t.length (by omega) (by omega)];constructor
  ·cases V:t.aE with
   |nil=>exact absurd V c
   |cons k l=>
    rw[V]at E J;have Y:=(Qxm (g:=g) M E N S (J k (by simp))).1;have g1:=E.1;have g3:=E.2.2.1;unfold JT;rw[ab,Y]
  ·have:=Qts (g:=g) M N E S J c;rw[X,I]at this;exact this
theorem Zrd {x:Ax3} (E:Ax3M x) (G:a=1\/a= -1) (h:TC x a Q t b g) (I:TQ t) (J:okD t.aT) (M:∀k∈t.aE,okD k.aT):
  CO p x t 0=⟨(CX p x t.aQ).x+AP x.a t.aT.x,(CX p x t.aQ).y+AP x.b t.aT.y,(CX p x t.aQ).z+AP x.c t.aT.z⟩/\
  CO p x t t.length=⟨(CX p x b).x+AP x.a (Pn t).x,(CX p x b).y+AP x.b (Pn t).y,(CX p x b).z+AP x.c (Pn t).z⟩:=by
 have k1:=Zw (λs=>(atP p s).x) (Qn6 E.ok) G h I J M;have k2:=Zw (λs=>(atP p s).y) (Zay E.ok) G h I J M;have N:=Zw (λs=>(atP p s).z) (Zc9 E.ok) G h I J M;unfold CO CX;rw[D7,D7];exact⟨⟨k1.1,k2.1,N.1⟩,⟨k1.2,k2.2,N.2⟩⟩
def UU (K:Kf):Prop:=∃(d:Pt) (a b:Int),okD d/\K.t=AL K.p K.x d a b
theorem Qvq {x:Ax3} {a:Axs} {f:Pt->Int} (hA:KR x a f) {mv:Int} {Q:Int->Pt->Prop} (hv:mv=1\/mv= -1):∀{at_ s:Int} {d:Pt} {l:List Pce},chain x mv Q at_ s d l->okD d->(∀k∈l,okD k.aT)->∀(u:Int) (O:Pt),at_<=u->u<=By at_ l->l≠[]->
  ¬((pcA l (fI l u)).bD=0/\(pcA l (fI l u)).at_<u/\u<eI l (fI l u))->
  DW a (pcA l (fI l u)).bD (pcA l (fI l u)).at_ (f (pcA l (fI l u)).was) (f (pcA l (fI l u)).aT) u=AP a (f (Jz l u O))/\okD (Jz l u O)
 |_,_,_,[],_,_,_,_,_,_,_,h,_=>absurd rfl h
 |at_,s,d,c::l,h,hd,hk,u,O,h0,h1,_,S=>by
  obtain⟨g1,g2,g3,g4,g5⟩:=h;have M:=hk c (by simp);by_cases hu:u<=c.at_+c.aR
  ·have e:fI (c::l) u=0:=by unfold fI;rw[ab hu]
   rw[e]at S⊢;have T:pcA (c::l) 0=c:=Iv c l;have U:eI (c::l) 0=c.at_+c.aR:=by unfold eI;rw[T]
   rw[T,U]at S;rw[T];have V:Jz (c::l) u O=if c.bD≠0\/u=c.at_+c.aR then c.aT else c.was:=by
    show(if u>c.at_+c.aR then _ else _)=_;rw[aa]
   rw[V];obtain⟨hb,hf,hs⟩:=hA;rcases g4 with⟨m1,m2,-⟩|⟨m1,m2,m3⟩
   ·have hm:c.bD≠0:=by rw[m1];rcases hv with h|h<;>omega
    rw[ab (.inl hm)];unfold DW;rw[ab (.inl hm)];exact⟨rfl,M⟩
   ·have G:=hf _ M;have J:=hf _ hd;have X:=hs d c.aT;by_cases N:u=c.at_+c.aR
    ·rw[ab (.inr N)];refine⟨?_,M⟩;unfold DW;by_cases E:f c.was=f c.aT
     ·rw[ab (.inr E)]
     ·rw[aa (λq=>by rcases q with q|q;exact q m1;exact E q)];rw[m2]at E;have:=X E;have I:min (u-c.at_) a.bB=a.bB:=by omega
      rw[I];unfold AP;rcases G with G|G
      ·rw[G,aa (by decide),aa (by decide)];omega
      ·rw[G,ab rfl,ab rfl]
    ·rw[aa (λq=>by rcases q with q|q;exact q m1;exact N q)];have a1:u=c.at_:=by omega
     refine⟨?_,by rw[m2];exact hd⟩;unfold DW;by_cases E:f c.was=f c.aT
     ·rw[ab (.inr E),E]
     ·rw[aa (λq=>by rcases q with q|q;exact q m1;exact E q)];rw[m2]at E⊢;have I:min (u-c.at_) a.bB=0:=by omega
      rw[I];unfold AP;rcases G with G|G
      ·have Y:f d= -1:=by rcases J with J|J;exact absurd (J.trans G.symm) E;exact J
       rw[G,Y,aa (by decide),ab rfl];omega
      ·have Y:f d=1:=by rcases J with J|J;exact J;exact absurd (J.trans G.symm) E
       rw[G,Y,ab rfl,aa (by decide)];omega
  ·have e:fI (c::l) u=fI l u+1:=by
    show(if u<=c.at_+c.aR then 0 else fI l u+1)=_;rw[aa hu]
   have V:Jz (c::l) u O=Jz l u O:=by
    show(if u>c.at_+c.aR then _ else _)=_;rw[ab]
   have a0:l≠[]:=by
    intro q;subst q;simp only[By]at h1;omega
   rw[e]at S⊢;have U:eI (c::l) (fI l u+1)=eI l (fI l u):=by unfold eI;rw[FM]
   rw[FM,U]at S;rw[FM,V];exact Qvq hA hv g5 M (λk q=>hk k (by simp[q])) u O (by omega) (by simpa only[By]using h1) a0 S
theorem Qjl {x:Ax3} (G:k=1\/k= -1):∀{a s:Int} {d:Pt} {l:List Pce},chain x k Q a s d l->l≠[]->∀u:Int,a<=u->u<=By a l->0<=k*(plL l u-s)/\0<=k*(endQ s l-plL l u)
 |_,_,_,[],_,h,_,_,_=>absurd rfl h
 |a,s,d,c::l,h,_,u,h0,O=>by
  obtain⟨g1,g2,U,J,S⟩:=h;have I:c.bD=k\/c.bD=0:=by rcases J with J|J<;>simp[J.1]
  have he:=U2 G S;unfold plL;by_cases M:u<=c.at_+c.aR
  ·rw[ab M,g1,g2];unfold endQ;rw[g1]at M;generalize endQ (s+c.bD*c.aR) l=E at*;rcases I with I|I<;>rcases G with G|G<;>rw[I]at he⊢<;>subst G<;>omega
  ·rw[aa M];have N:l≠[]:=by
    intro q;subst q;simp only[By]at O;omega
   have T:=Qjl G S N u (by omega) (by simpa only[By]using O);unfold endQ;generalize endQ (s+c.bD*c.aR) l=E at*;rcases I with I|I<;>rcases G with G|G<;>rw[I]at T<;>subst G<;>omega
theorem Z4g {x:Ax3} (M:Ax3OK x) (I:GoodPath p) (u:Int):0<=Az (AL p x g a b) u/\Az (AL p x g a b) u<=Ay p.aF:=by
 have U:=Nb I;obtain⟨V,J,N,-⟩:=I2 (d:=g) (a:=a) (b:=b) (Q:=λ_ _=>True) M I (λ_ _ _ _ _ _ _ _=>trivial);have O:=Jq g a b M I;have G:=R5 p a b;have T:0<=AS a (Ay p.aF)/\AS a (Ay p.aF)<=Ay p.aF:=by unfold AS;omega
 have X:0<=AS b (Ay p.aF)/\AS b (Ay p.aF)<=Ay p.aF:=by unfold AS;omega
 by_cases E:(AL p x g a b).aE=[]
 ·unfold Az;rw[ab E,N];exact T
 ·have S:=IY O u;have hb:=Qjl G J.ch E (clT (AL p x g a b) u) S.1 (by rw[J.len];exact S.2);rw[J.s,N]at hb;rw[E2 O u E];generalize plL (AL p x g a b).aE (clT (AL p x g a b) u)=z at*;rcases G with G|G<;>rw[G]at hb<;>omega
theorem Qs0 {x:Ax3} (G:Ax3M x) (O:GoodPath p) (I:okD g) {u:Int} (U: ¬GV (AL p x g a b) u):
  CO p x (AL p x g a b) u=⟨(CX p x (Az (AL p x g a b) u)).x+AP x.a (Fl (AL p x g a b) u).x,(CX p x (Az (AL p x g a b) u)).y+AP x.b (Fl (AL p x g a b) u).y,(CX p x (Az (AL p x g a b) u)).z+AP x.c (Fl (AL p x g a b) u).z⟩/\okD (Fl (AL p x g a b) u):=by
 obtain⟨d',S,h2,J⟩:=I2 (d:=g) (a:=a) (b:=b) (Q:=λ_ _=>True) G.ok O (λ_ _ _ _ _ _ _ _=>trivial);have V:=Jq g a b G.ok O;have X:=R5 p a b;have Y:=Zap (p:=p) (x:=x) (a:=a) (b:=b) I;by_cases E:(AL p x g a b).aE=[]
 ·have hf:Fl (AL p x g a b) u=g:=by unfold Fl;rw[E,J];rfl
  rw[hf];refine⟨?_,I⟩;unfold CO shT;rw[ab E,ab E,ab E,J]
 ·have T:=IY V u;have M:okD (AL p x g a b).aT:=by rw[J];exact I
  have N: ¬((pcA (AL p x g a b).aE (fI (AL p x g a b).aE (clT (AL p x g a b) u))).bD=0/\(pcA (AL p x g a b).aE (fI (AL p x g a b).aE (clT (AL p x g a b) u))).at_<clT (AL p x g a b) u/\clT (AL p x g a b) u<eI (AL p x g a b).aE (fI (AL p x g a b).aE (clT (AL p x g a b) u))):=λq=>U ⟨E,q⟩;have key:=fun(ax:Axs) (f:Pt->Int) (hA:KR x ax f)=>Qvq hA X S.ch M Y (clT (AL p x g a b) u) (AL p x g a b).aT T.1 (by rw[S.len];exact T.2) E N;refine⟨?_,(key x.a Pt.x (Qn6 G.ok)).2⟩;unfold CO shT iT;rw[aa E,aa E,aa E];have k1:=(key x.a Pt.x (Qn6 G.ok)).1;have k2:=(key x.b Pt.y (Zay G.ok)).1;have k3:=(key x.c Pt.z (Zc9 G.ok)).1;rw[k1,k2,k3];rfl
theorem Qdd {x:Ax3}:∀{a s:Int} {d:Pt} {l:List Pce} {u:Int},chain x 1 Q a s d l->l≠[]->u<=By a l->plL l u<=endQ s l
 |_,_,_,[],_,_,h,_=>absurd rfl h
 |a,s,d,c::l,u,h,_,M=>by
  obtain⟨S,T,U,G,N⟩:=h;have I:c.bD=1\/c.bD=0:=by rcases G with G|G<;>simp[G.1]
  have he:=U2 (.inl rfl) N;unfold plL;by_cases O:u<=c.at_+c.aR
  ·rw[ab O];unfold endQ;generalize endQ (s+c.bD*c.aR) l=E at*;rcases I with I|I<;>rw[I]at he⊢<;>omega
  ·rw[aa O];have J:l≠[]:=by
    intro e;subst e;simp only[By]at M;omega
   exact Qdd N J M
theorem Pk {x:Ax3}:∀{a s:Int} {d:Pt} {l:List Pce},chain x 1 Q a s d l->l≠[]->∀v w:Int,a<=v->v<=w->w<=By a l->s<=plL l v/\plL l v<=plL l w
 |_,_,_,[],_,h,_,_,_,_,_=>absurd rfl h
 |a,s,d,c::l,h,_,v,w,h0,S,G=>by
  obtain⟨g1,g2,T,I,N⟩:=h;have E:c.bD=1\/c.bD=0:=by rcases I with I|I<;>simp[I.1]
  have more: ¬w<=a+c.aR->l≠[]:=λU e=>by
   subst e;simp only[By]at G;omega
  simp only[By]at G;unfold plL;rw[g1,g2];by_cases O:v<=a+c.aR
  ·rw[ab O];by_cases J:w<=a+c.aR
   ·rw[ab J];rcases E with E|E<;>rw[E]<;>omega
   ·rw[aa J];have M:=Pk N (more J) w w (by omega) (bz _) G;rcases E with E|E<;>rw[E]at M⊢<;>omega
  ·rw[aa O,aa];have M:=Pk N (more (by omega)) v w (by omega) S G;rcases E with E|E<;>rw[E]at M<;>omega
structure Fw (t : Trk) (n : Int) : Prop where
 wh:∀z,0<=z->z<=n->0<=AU t z/\AU t z<=t.length/\Az t (AU t z)=z/\∀v,0<=v->v<AU t z->Az t v<z
 up:∀u v,u<=v->Az t u<=Az t v
 rg:∀u,0<=Az t u/\Az t u<=n
 zero:Az t 0=0
 len:0<=t.length/\t.length<=900000000000000
theorem Fw.le {n:Int} (h:Fw t n) {z u:Int} (h0:0<=z) (E:z<=n) (G:u<=AU t z):Az t u<=z:=by
 have I:=h.wh z h0 E;have:=h.up u _ G;omega
theorem Fw.ge {n:Int} (h:Fw t n) {z u:Int} (h0:0<=z) (E:z<=n) (G:0<=u) (I:z<=Az t u):AU t z<=u:=by
 apply bv;intro c;have:=(h.wh z h0 E).2.2.2 u G (by omega);omega
theorem Fw.wmono {n:Int} (h:Fw t n) {y z:Int} (h0:0<=y) (G:y<=z) (I:z<=n):AU t y<=AU t z:=by
 have E:=h.wh z (by omega) I;refine h.ge h0 (by omega) E.1 ?_;rw[E.2.2.1];exact G
theorem Zxw {x:Ax3} (Y:Ax3OK x) (U:GoodPath p) (hm:0<=m/\m<=Ay p.aF):Fw (AL p x g 0 m) m:=by
 have hn:=Nb U;obtain⟨d',I,N,-⟩:=I2 (d:=g) (a:=0) (b:=m) (Q:=λ_ _=>True) Y U (λ_ _ _ _ _ _ _ _=>trivial);have G:=Jq g 0 m Y U;have c1:AS 0 (Ay p.aF)=0:=by unfold AS;omega
 have c2:AS m (Ay p.aF)=m:=by unfold AS;omega
 have V:mvP p 0 m=1:=by unfold mvP;rw[c1,c2,aa]
 rw[V,c2]at I;rw[c1]at N;generalize AL p x g 0 m=t at*;obtain⟨ch,O,S,-⟩:=I;rw[N]at ch S;by_cases E:t.aE=[]
 ·have a0:m=0:=by rw[E]at S;exact S.symm
  have a5:t.length=0:=by rw[E]at O;exact O.symm
  have pl:∀u,Az t u=0:=λu=>by unfold Az;rw[ab E,N]
  refine⟨λz z0 z1=> ?_,λu v _=>by rw[pl,pl];omega,λu=>by rw[pl];omega,pl 0,G.len⟩;have T:AU t z=0:=by unfold AU;rw[ab (by rw[N];omega)]
  rw[T];exact⟨by omega,by omega,by rw[pl];omega,λv h0 I=>by omega⟩
 ·have cl:∀u,0<=clT t u/\clT t u<=t.length:=IY G;have J:∀u,0<=u->u<=t.length->clT t u=u:=λu h0 I=>by unfold clT AS;omega
  have M:∀u v,u<=v->clT t u<=clT t v:=λu v h=>by unfold clT AS;omega
  have up:∀u v,u<=v->Az t u<=Az t v:=λu v h=>by
   rw[E2 G u E,E2 G v E];exact(Pk ch E _ _ (cl u).1 (M u v h) (by rw[O];exact(cl v).2)).2
  have lo:∀u,0<=Az t u:=λu=>by
   rw[E2 G u E];exact(Pk ch E _ _ (cl u).1 (bz _) (by rw[O];exact(cl u).2)).1
  have hi:∀u,Az t u<=m:=λu=>by
   rw[E2 G u E];have:=Qdd ch E (u:=clT t u) (by rw[O];exact(cl u).2);rw[S]at this;exact this
  have zero:Az t 0=0:=by
   rw[E2 G 0 E,J 0 (by omega) G.len.1];obtain⟨c,l,e⟩:=List.exists_cons_of_ne_nil E;rw[e]at ch⊢;obtain⟨g1,g2,g3,-⟩:=ch;unfold plL;rw[ab,g1,g2];simp
  refine⟨λz z0 z1=> ?_,up,λu=>⟨lo u,hi u⟩,zero,G.len⟩;by_cases X:z=0
  ·have T:AU t z=0:=by unfold AU;rw[ab (by rw[N];exact X)]
   rw[T];exact⟨by omega,G.len.1,by rw[zero,X],λv h0 I=>by omega⟩
  ·have T:AU t z=wF z t.aE:=by unfold AU;rw[aa (by rw[N];exact X)]
   obtain⟨a1,a2,a3,a4⟩:=(ZU (.inl rfl) z ch).2.2 (by omega) (by rw[S];omega);rw[O]at a2;rw[T];refine⟨by omega,a2,?_,λv h0 I=> ?_⟩
   ·rw[E2 G _ E,J _ (by omega) a2,a3]
   ·rw[E2 G _ E,J v h0 (by omega)];have:=a4 v h0 I;omega
theorem Z07 {x:Ax3} (G:Ax3OK x) (E:GoodPath p):Fw (AL p x g 0 (Ay p.aF)) (Ay p.aF):=
 Zxw G E ⟨(Nb E).1,bz _⟩
end Go.Bm
namespace Go.Bm
theorem Zmi {MS MF:Fn} {x:Ax3} (G:∀{way:Rw},way.length<=100000->(MS (pxt p x t [.vC Aa way])).isSome=true)
  {a b c m0 m1 m2 m3 m4 m5 l:Int} {L:List Int} (Y:L.length<=4096) (N:MF [I a,I b,I c,I m0,I m1,I m2,I m3,I m4,I m5]=some [.vC Aa ((BN m0 L).map Ao),B true]):
  Out (λo=>bA o 0=true->Ck m0 L<=V (l*256)) (TL MS MF (pxt p x t [I a,I b,I c,I m0,I m1,I m2,I m3,I m4,I m5,I l])):=by
 rw[Qt9];refine .bind (p:=λo=>o=_) ⟨_,N,rfl⟩ λo e=> ?_;subst e;have no:∀{X:List AC},X=[B false]->bA X 0=true->Ck m0 L<=V (l*256):=λe h=>by subst e;simp[bA,nth,Dh]at h
 have O:wA [AC.vC Aa ((BN m0 L).map Ao),B true] 0=(BN m0 L).map Ao:=rfl;rw[O];have S:((BN m0 L).map Ao).length=L.length:=by rw[af,KZ]
 have T:0<L.length->Ah (nth .dead (nth [] ((BN m0 L).map Ao) ((((BN m0 L).map Ao).length:Int)-1).toNat) 0)=Ck m0 L:=λJ=>by
  rw[S];have M:=ZD m0 L (by intro q;rw[q]at J;simp at J);rw[KZ]at M;have en:((L.length:Int)-1).toNat=L.length-1:=by omega
  have U:nth [] ((BN m0 L).map Ao) (L.length-1)=Ao (Ck m0 L):=by
   rw[B7,List.getD,fo,M];rfl
  rw[en,U];rfl
 have e0:L.length=0->Ck m0 L=m0:=λh=>by rw[List.length_eq_zero_iff.1 h];rfl
 generalize(BN m0 L).map Ao=sp at*;refine .cond (λ_=> .some (no rfl)) λ_=> ?_;refine .cond (λc=> ?_) λc=> ?_
 ·have c:=Bi c;rw[Ae (x:=(sp.length:Int)-1)];refine .cond (λ_=> ?_) λc=>by simp at c;omega
  rw[T (by omega)];refine .cond (λ_=> .some (no rfl)) λE=> ?_;have E:=Bp E;refine .cond (λ_=> ?_) λc=>by rw[Dl (by simp;omega)]at c;cases c
  refine .cond (λ_=> ?_) λc=>by rw[Dl (by simp;omega)]at c;cases c
  exact .ibind (G (by simp;omega)) λ_ _=> .some λ_=>by omega
 ·have c:=Bp c;have e1:=e0 (by omega);refine .cond (λ_=> .some (no rfl)) λE=> ?_;have E:=Bp E;refine .cond (λ_=> ?_) λc=>by rw[Dl (by simp;omega)]at c;cases c
  refine .cond (λ_=> ?_) λc=>by rw[Dl (by simp;omega)]at c;cases c
  exact .ibind (G (by simp;omega)) λ_ _=> .some λ_=>by omega
def RJ (pa pb m0 v x l:Int):Prop:=(AM pa pb v x).2=true/\Ck m0 (AM pa pb v x).1<=V (l*256)
theorem Qzb {x:Ax3} (h:Fix p x t) {a b c:Int} (G:Plan3 a b c) {m0:Int} (v z m3 m4 m5 l:Int) (N:(AM a b v z).2=true-> -1000000000000000<=m0/\m0<=1000000000000000):
  Out (λo=>bA o 0=true->RJ a b m0 v z l) (IX (pxt p x t [I a,I b,I c,I m0,I v,I z,I m3,I m4,I m5,I l])):=by
 by_cases E:(AM a b v z).2=true
 ·have M:=Zcb G (N E) v z m3 m4 m5;rw[E]at M;have:=Zmi (MS:=OI) (MF:=Fo) (l:=l) (Qx1 h) (Qq G v z).1 M;exact this.mono λo J hb=>⟨E,J hb⟩
 ·exact(Qc h G m0 v z m3 m4 m5 l).mono λo J hb=>absurd (J hb) E
theorem Quc (h:KOK K) {c:Cv} (E:Mo K c) (N: -300000000000<=c.m0/\c.m0<=300000000000) (l:Int) (G:Bool):Out (L7 c.m0 c.m1 c.m3 c.m4 (λv=>RJ K.pa K.pb (V (c.m0+v)) v (V (v-c.m1)) l) λr=>r=AB K.pa K.pb c.m1 c.m2)
  (ES (pxt K.p K.x K.t [I K.pa,I K.pb,I K.pc,I c.o0,I c.o1,B G,B c.o3,B c.o4,I c.m0,I c.m1,I c.m2,I c.m3,I c.m4,I c.m5,I l])):=
 Ts (F := λ_ => True) (by have := h.plan.b; omega) (O7 h.plan E) (λv _ _ _ => Qzb h.f h.plan _ _ _ _ _ _ λJ => by
  have:=DH h.plan (F1.1 J).1;rw[Ae];omega) (λv=>Qhk h.f ..) OX R_ (λ_ M=>SX M)
theorem Z6u (h:KOK K) {c:Cv} (E:Mo K c) (G: -300000000000<=c.m0/\c.m0<=300000000000) (l:Int) {aX:Int} (J:i64 aX):Out (Qr c.m0 c.m1 c.m3 c.m4 (λv=>RJ K.pa K.pb (V (c.m0+v)) v (V (v-c.m1)) l) λr=>r=AB K.pa K.pb c.m1 c.m2)
  (It (pxt K.p K.x K.t [I K.pa,I K.pb,I K.pc,I c.o0,I c.o1,B c.o2,B c.o3,B c.o4,I c.m0,I c.m1,I c.m2,I c.m3,I c.m4,I c.m5,I l,I aX,I c.e0,I c.e1,I c.e2,I c.e3,I c.before,I c.s3])):=
 Qtd (Quc h E G l false) (O7 h.plan E) Qvt (λv => Qzb h.f h.plan _ _ _ _ _ _ λM => by
  have:=DH h.plan (F1.1 M).1;rw[Ae];omega) OX (λ_ N=>Zb4 J N) Q7e
def endC (K:Kf) (c:Cv):Int:=Ck c.m0 (stL K c)
theorem Mt.endC {c d:Cv} (h:Mt c d):endC K d=endC K c:=by
 unfold Go.Bm.endC;rw[Oh h.m1 h.m2,h.m0]
theorem Q12 (h:KOK K) {n:Int} {c e:Cv} (g:Gd K n c) (N:0<=n/\n<=10000) {v:Int} (G:v=V (c.m1+AB K.pa K.pb c.m1 c.m2)) (e0:e.m0=V (c.m0+v)) (e1:e.m1=v) (e2:e.m2=V (v-c.m1)):endC K e=endC K c:=by
 obtain⟨b1,b2,b3⟩:=QA h.plan g.mo G;have O:=DH h.plan (F1.1 b3).1;have h0:=g.m0;rw[Ae]at e0;obtain⟨-,s2⟩:=Ul h.plan g.mo;unfold endC stL;rw[e0,e1,e2,b2,s2,<-b1];by_cases E:c.m1<=0
 ·rw[ab E];have hb:=TK h.plan g.mo.ready E;have I:=DH h.plan g.mo.ready;have v0:v=0:=by omega
  have J:(AM K.pa K.pb v (AB K.pa K.pb c.m1 c.m2)).1=[]:=by
   have M:(AM K.pa K.pb v (AB K.pa K.pb c.m1 c.m2)).2=true:=by rw[<-b2];exact b3
   rw[(Ul h.plan M).2,ab]
  rw[J,v0];show c.m0+0=c.m0;omega
 ·rw[aa E];show _=Ck (c.m0+v) _;rfl
def EndQ (K:Kf) (c d:Cv) (l:Int):Prop:=endC K d<=V (l*256)\/endC K d=endC K c
theorem EndQ.of (h:KOK K) {n:Int} {c e:Cv} (g:Gd K n c) (G:0<=n/\n<=10000) {v l:Int} (E:RJ K.pa K.pb (V (c.m0+v)) v (V (v-c.m1)) l\/∃r:Int,v=V (c.m1+r)/\r=AB K.pa K.pb c.m1 c.m2)
  (e0:e.m0=V (c.m0+v)) (e1:e.m1=v) (e2:e.m2=V (v-c.m1)):EndQ K c e l:=by
 rcases E with E|⟨r,E,rfl⟩
 ·refine .inl ?_;unfold endC stL;rw[e0,e1,e2];exact E.2
 ·exact .inr (Q12 h g G E e0 e1 e2)
theorem Qr0 {n:Int} {c:Cv} (g:Gd K n c) (E:0<=n/\n<=10000): -300000000000<=c.m0/\c.m0<=300000000000:=by have:=g.m0;omega
theorem P_ (h:KOK K) {n:Int} {c:Cv} (g:Gd K n c) (E:0<=n/\n<=10000) (l:Int):EndQ K c (BO K c l) l:=
 EndQ.of h g E (v:=nxV K c l) (Qoe (Quc h g.mo (Qr0 g E) l c.o2)) rfl rfl rfl
theorem EndQ.same {c d e:Cv} (h:EndQ K c d a) (e0:e.m0=d.m0) (e1:e.m1=d.m1) (e2:e.m2=d.m2):EndQ K c e a:=by
 unfold EndQ at*;have:endC K e=endC K d:=by unfold endC;rw[Oh e1 e2,e0]
 rw[this];exact h
theorem Qmm (c:Cv):(Dy c).m0=c.m0/\(Dy c).m1=c.m1/\(Dy c).m2=c.m2:=by unfold Dy;split<;>exact⟨rfl,rfl,rfl⟩
theorem Zkk (h:KOK K) {n:Int} {c:Cv} (g:Gd K n c) (E:0<=n/\n<=10000) (l:Int) {aX:Int} (J:i64 aX):EndQ K c (Jh K c l aX) l:=by
 unfold Jh;split
 ·exact(P_ h g E l).same rfl rfl rfl
 ·have key:EndQ K c (IB c (thO K c l aX)) l:=by
   obtain⟨o,G,v,s,b,z,y,e,rfl,M⟩:=Z6u h g.mo (Qr0 g E) l J;have G:It (thL K c l aX)=some (El c.m0 c.m1 c.m3 c.m4 v++[I s,I b,I z,I y,I e]):=G;have e2:thO K c l aX=El c.m0 c.m1 c.m3 c.m4 v++[I s,I b,I z,I y,I e]:=by unfold thO;rw[G];rfl
   rw[e2];exact EndQ.of h g E M rfl rfl rfl
  split
  ·have:=Qmm (IB c (thO K c l aX));exact key.same this.1 this.2.1 this.2.2
  ·exact key
theorem Q25 (h:KOK K) {n:Int} {c:Cv} (g:Gd K n c) (E:0<=n/\n<=10000) (l:Int) {s:Sgm} (G:i64 s.aX):EndQ K c (F2 K c l s) l:=by
 unfold F2;split
 ·exact(P_ h g E l).same rfl rfl rfl
 ·exact Zkk h g E l G
theorem Zy4 (h:KOK K) {n:Int} {c:Cv} (g:Gd K n c) (E:0<=n/\n<=10000) (l:Int):EndQ K c (Fd K c l) l:=by
 unfold Fd;by_cases e:(sgK K c).aX=0
 ·rw[ab (.inl e)];exact P_ h g E l
 ·have G:=(GA h e).2.2;split
  ·exact P_ h g E l
  ·split
   ·exact Q25 h g E l G
   ·split
    ·exact Q25 h (g.go (sgK K c)) E l G
    ·split
     ·have:=Qmm c;refine .inr ?_;unfold endC;rw[Oh this.2.1 this.2.2,this.1]
     ·exact .inr rfl
structure MarksOK (K : Kf) : Prop where
 fw:Fw K.t K.len
 closed:K.closed=true
 at_:∀i:Int,0<=i->i<K.p.aD.length->0<=(mkK K i).at_/\(mkK K i).at_<=K.len
 mono:∀i j:Int,0<=i->i<=j->j<K.p.aD.length->(mkK K i).at_<=(mkK K j).at_
theorem Zct {A:Int->Bool} {c:Cv} (M:∀k,A k=true->BS k c=true):∀(l:List Mrk) (i:Nat),(∀m∈l,A m.aP=true->b<=m.at_/\m.at_<=a)->
  (DR c a b l i=(a,-1)/\∀m∈l,A m.aP=false)\/∃j,∃N:j<l.length,DR c a b l i=(l[j].at_,((i+j:Nat):Int))/\BS l[j].aP c=true/\∀k,∀O:k<j,A (l[k]'(by omega)).aP=false
 |[],_,_=> .inl ⟨rfl,λm T=>by cases T⟩
 |m::l,i,h=>by
  unfold DR;by_cases G:BS m.aP c=true/\b<=m.at_/\m.at_<=a
  ·rw[ab G];exact .inr ⟨0,by simp,rfl,G.1,λk O=>by omega⟩
  ·rw[aa G];have S:A m.aP=false:=by
    cases e:A m.aP
    ·rfl
    ·exact absurd ⟨M _ e,h m (by simp) e⟩ G
   rcases Zct M l (i+1) λq E=>h q (by simp[E])with⟨I,J⟩|⟨j,N,I,J,U⟩
   ·refine .inl ⟨I,λq E=> ?_⟩;rcases av.1 E with rfl|E
    ·exact S
    ·exact J q E
   ·refine .inr ⟨j+1,by simpa using N,?_,by simpa using J,λk O=> ?_⟩
    ·rw[I];have:i+1+j=i+(j+1):=by omega
     rw[this];rfl
    ·cases k with
     |zero=>exact S
     |succ k=>exact U k (by omega)
theorem Z5e {A:Int->Bool} {c:Cv} {known frm:Int} (X:∀k,A k=true->BS k c=true) (Y:0<=c.next) (hm:∀i:Int,c.next<=i->i<K.p.aD.length->A (mkK K i).aP=true->frm<=(mkK K i).at_/\(mkK K i).at_<=known):
  (BK K c known frm=(known,-1)/\∀i:Int,c.next<=i->i<K.p.aD.length->A (mkK K i).aP=false)\/
  ∃j:Int,BK K c known frm=((mkK K j).at_,j)/\c.next<=j/\j<K.p.aD.length/\BS (mkK K j).aP c=true/\∀i:Int,c.next<=i->i<j->A (mkK K i).aP=false:=by
 have M:(max c.next 0).toNat=c.next.toNat:=by rw[Int.max_eq_left Y]
 have N:∀(k:Nat) (E:k<(K.p.aD.drop c.next.toNat).length),(K.p.aD.drop c.next.toNat)[k]=mkK K ((c.next.toNat+k:Nat):Int):=λk E=>by
  rw[km];unfold mkK;rw[ak,List.getD,ai (by rw[co]at E;omega)];rfl
 have em:∀{i:Int},c.next<=i->i<K.p.aD.length->∃k,∃E:k<(K.p.aD.drop c.next.toNat).length,mkK K i=(K.p.aD.drop c.next.toNat)[k]/\(k:Int)=i-c.next:=fun{i} G I=>by
  refine⟨(i-c.next).toNat,by rw[co];omega,?_,by omega⟩;rw[N];have:((c.next.toNat+(i-c.next).toNat:Nat):Int)=i:=by omega
  rw[this]
 have J:∀m∈K.p.aD.drop c.next.toNat,A m.aP=true->frm<=m.at_/\m.at_<=known:=λm O T=>by
  obtain⟨k,E,rfl⟩:=List.mem_iff_getElem.1 O;rw[N k E]at T⊢;rw[co]at E;exact hm _ (by omega) (by omega) T
 unfold BK;rw[M];rcases Zct X _ c.next.toNat J with⟨G,I⟩|⟨j,U,G,I,h3⟩
 ·refine .inl ⟨G,λi i1 V=> ?_⟩;obtain⟨k,E,e,-⟩:=em i1 V;rw[e];exact I _ (bn E)
 ·rw[N j U]at G I;have S:=U;rw[co]at S;refine .inr ⟨_,G,by omega,by omega,I,λi i1 V=> ?_⟩;obtain⟨k,E,e,e2⟩:=em (i:=i) i1 (by omega);rw[e];exact h3 k (by omega)
theorem Qwv (h:KOK K) (c:Cv):c.m0<=endC K c:=(Qss c.m0 (stL K c) (Qq h.plan c.m1 c.m2).2).1
theorem U9 (h:KOK K) {n:Int} {c:Cv} (g:Gd K n c) (E:0<=n/\n<=10000):NX K c=endC K c:=by
 have:=Qr0 g E;unfold NX one;rw[Zpp h.plan (by omega) g.mo];rfl
def Jm (A:Int->Bool) (K:Kf) (c:Cv):Prop:=∀i:Int,c.next<=i->i<K.p.aD.length->A (mkK K i).aP=true->endC K c<=256*AU K.t (mkK K i).at_
theorem Zsv (h:KOK K) (mk:MarksOK K) {r z:Int} (h0:0<=r) (E:0<=z) (G:z<=K.len) (S:r<=256*AU K.t z):G7 K r<=z:=by
 have T:=mk.fw.wh z E G;have U:=mk.fw.len;have hi:i64 K.len:=h.len;unfold i64 at hi;have V:DU r=(r+255)/256:=by
  unfold DU;rw[Ae (x:=r+256),Ae (x:=r+256-1),bh (by omega)];rw[Ae];omega
 have J:0<=DU r:=by omega
 have M:DU r<=AU K.t z:=by omega
 have N:=mk.fw.le E G M;unfold G7;split
 ·next I=>
  have O:Az K.t (DU r)<z:=by
   apply bv;intro q;have e:Az K.t (DU r)=z:=by omega
   have:=mk.fw.ge E G J (by omega);rw[e]at I;omega
  rw[Ae (by have:=(mk.fw.rg (DU r)).1;omega)];omega
 ·exact N
theorem Sw {A:Int->Bool} (h:KOK K) (mk:MarksOK K) {n:Int} {c:Cv} (g:Gd K n c) (M:0<=n/\n<=10000) (N:∀k,A k=true->BS k c=true) (h0:0<=c.m0) (O:0<=c.next) (S:Jm A K c):
  (AG K c=(AU K.t K.len,-1)/\∀i:Int,c.next<=i->i<K.p.aD.length->A (mkK K i).aP=false)\/
  ∃j:Int,AG K c=(AU K.t (mkK K j).at_,j)/\c.next<=j/\j<K.p.aD.length/\BS (mkK K j).aP c=true/\∀i:Int,c.next<=i->i<j->A (mkK K i).aP=false:=by
 have T:EZ K=K.len:=by unfold EZ;rw[ab mk.closed]
 have he:=Qwv h c;unfold AG;rw[U9 h g M,T];have U:=Z5e (K:=K) (known:=K.len) (frm:=G7 K (endC K c)) N O λi i1 J V=>by
  have E:=mk.at_ i (by omega) J;exact⟨Zsv h mk (by omega) E.1 E.2 (S i i1 J V),E.2⟩
 rcases U with⟨G,I⟩|⟨j,G,I⟩
 ·rw[G];exact .inl ⟨rfl,I⟩
 ·rw[G];exact .inr ⟨j,rfl,I⟩
theorem Jm.bD {A:Int->Bool} (h:KOK K) (mk:MarksOK K) {n:Int} {c e:Cv} (g:Gd K n c) (U:0<=n/\n<=10000) (V:∀k,A k=true->BS k c=true) (h0:0<=c.m0) (X:0<=c.next) (O:Jm A K c)
  (he:EndQ K c e (AG K c).1) (J:e.next=c.next):Jm A K e:=by
 intro i i1 I G;rw[J]at i1;rcases he with he|he
 ·rcases Sw h mk g U V h0 X O with⟨S,T⟩|⟨j,S,T,Y,h4,h5⟩
  ·rw[T i i1 I]at G;cases G
  ·rw[S]at he;dsimp only at he;have M:j<=i:=by
    apply bv;intro q;rw[h5 i i1 (by omega)]at G;cases G
   have E:=mk.at_ j (by omega) Y;have N:=mk.at_ i (by omega) I;have hw:=mk.fw.wh _ E.1 E.2;have hl:=mk.fw.len;have:=mk.fw.wmono E.1 (mk.mono j i (by omega) M I) N.2;rw[Ae]at he;omega
 ·rw[he];exact O i i1 I G
theorem Zp4 (h:KOK K) (mk:MarksOK K) {c:Cv} (h0:0<=c.m0) {z:Int} (E:0<=z) (G:z<=K.len) (he:endC K c<=256*AU K.t z):At K c<=z:=by
 have:=Qwv h c;have I:=mk.fw.wh z E G;have J:=mk.fw.len;refine mk.fw.le E G ?_;unfold AE;rw[bh h0,Ae];omega
end Go.Bm
namespace Go.Bm
open Classical
theorem Q8x {aU aZ aX:Int}:∀(E:List Pt) (s:List Sgm×Int×Pt),∃l,(E.foldl (A9 aU aZ aX) s).1=s.1++l
 |[],s=>⟨[],by simp⟩
 |q::E,s=>by
  rw[fj];obtain⟨l,G⟩:=Q8x (aU:=aU) (aZ:=aZ) (aX:=aX) E (A9 aU aZ aX s q);rw[G];unfold A9;split
  ·exact⟨l,rfl⟩
  ·exact⟨_::l,(fq _ _ _).trans rfl⟩
theorem Zgr (aA:List Itm) (i:Nat) (s:BSt):∃l,(DO aA i s).aF=s.aF++l:=by
 unfold DO;split
 ·exact Q8x _ _
 ·exact⟨[],by simp⟩
theorem Qxw (aA:List Itm) (i:Nat):∀k,∃l,(Au aA (i+k)).aF=(Au aA i).aF++l
 |0=>⟨[],by simp⟩
 |k+1=>by
  obtain⟨l,E⟩:=Qxw aA i k;obtain⟨m,G⟩:=Zgr aA (i+k) (Au aA (i+k));refine⟨l++m,?_⟩;show(DO aA (i+k) (Au aA (i+k))).aF=_;rw[G,E,fq]
theorem Zb3 {l:List Sgm} (h:∀g∈l,1<=g.len):0<=Ay l:=by
 induction l with
 |nil=>simp[Ay]
 |cons k l E=>
  have:=E λg G=>h g (by simp[G]);have:=h k (by simp);simp only[Ay];omega
theorem Zjm (l m:List Sgm):Ay (l++m)=Ay l+Ay m:=by
 induction l with
 |nil=>simp[Ay]
 |cons k l E=>simp only[az,Ay,E];omega
def Zyk (aU:Int) (a:Pt) (g:Sgm):Prop:=bd B24 g.to/\g.to≠a/\g.len=AJ a g.to/\aU<=g.aU/\(0<=g.aZ/\g.aZ<=16777216)/\(0<=g.aX/\g.aX<=16777216)
def Q66 (aU:Int) (a:Pt):List Sgm->Prop
 |[]=>True
 |g::l=>Zyk aU a g/\Q66 g.aU g.to l
def Z1g (last n:Int) (m:Mrk):Prop:=last<=m.at_/\m.at_<=n/\(1<=m.aP/\m.aP<=6)/\0<=m.aU
def Q05 (last n:Int):List Mrk->Prop
 |[]=>True
 |m::l=>Z1g last n m/\Q05 m.at_ n l
structure okW (R : Nat) (s : Spk) : Prop where
 ok:okS s
 u:s.u.natAbs<=R
 w:s.w.natAbs<=R
 r:s.r<=R
theorem Zt6 {a b:Spk} (G:okW R a) (hb:okW R b) {dir:Int} (I:dir=1\/dir= -1) (full:Bool):okW R (Ea a b dir full):=by
 have E:=Ms G.ok hb.ok I full;have J:=Qid G.ok.2.2.1 hb.ok.2.2.1;have M:hf a.r b.r<=R:=by have:=G.r;have:=hb.r;unfold hf;omega
 refine⟨Qbx G.ok hb.ok I full,?_,?_,?_⟩;all_goals
  unfold Ea GB;split
  ·simp
  ·rename_i h;obtain⟨⟨-,N⟩,-,O⟩:=Qsm E.1 E.2 J h;simp only;omega
theorem Qlr (G:v=1\/v= -1):∀(k:Nat) (full:Bool) {a b:Spk},okW R a->okW R b->∀s∈C7 v k full a b,okW R s
 |0,_,a,b,_,hb,s,E=>by simp[C7]at E;subst E;exact hb
 |k+1,full,a,b,I,hb,s,E=>by
  unfold C7 at E;have J:=Zt6 I hb G full;split at E
  ·simp at E;subst E;exact hb
  ·rcases bq.1 E with E|E
   ·exact Qlr G k false I J s E
   ·exact Qlr G k false J hb s E
theorem Qv4 {it:Itm} {c:Nat} (E:bd 1048576 it.ce) (G:bd 1048576 g) (S:(dU it g).natAbs<=c) (T:(dW it g).natAbs<=c):okW (32*c+1) (Eg it g):=by
 obtain⟨g1,g2,M,N⟩:=OF E G;refine⟨RD E G,?_,?_,?_⟩
 ·show(dU it g*16).natAbs<=_;omega
 ·show(dW it g*16).natAbs<=_;omega
 ·show FL _<=_;obtain⟨n,I⟩:=cg M;have hle:n<=(32*c)*(32*c):=by
   have k1:=DL (x:=dU it g*16) (A:=16*c) (by omega);have k2:=DL (x:=dW it g*16) (A:=16*c) (by omega);have e:(32*c)*(32*c)=4*(16*c*(16*c)):=by grind
   unfold sq2 at I;generalize 16*c*(16*c)=m at*;omega
  rw[I]at N⊢;obtain⟨r,-,J,O,-⟩:=Sc (n:=n) (by omega);rw[Q1 (Ro J O)];have:r<=32*c:=Nat.mul_self_le_mul_self_iff.1 (df J hle);split<;>omega
theorem Z65 {it:Itm} (h:Made it) (O:bd 40004 it.fr) (T:bd 40004 it.to):∀p∈CB it,bd 1000000 p:=by
 have U:=Zas h (A3 O (by omega)) (A3 T (by omega));intro p I;unfold CB at I;by_cases S:it.aP=3
 ·rw[ab S]at I;obtain⟨G,hd,Y,-⟩:=U.2.2.2 S;have J:=h.arc S;obtain⟨-,V⟩:=Ve J (by omega) O;obtain⟨r,k,t,g,x,e1,e2,e3,e4,e5,e6,e7,e8,e9,a0,a3,M,X⟩:=J.ends;obtain⟨⟨r1,r2⟩,r3,r4⟩:=Lv (r:=r) (k:=k) (by omega);obtain⟨⟨r5,r6⟩,r7,r8⟩:=Lv (r:=r+g) (k:=k+t) (by omega);have a1:(dU it it.fr).natAbs<=20/\(dW it it.fr).natAbs<=20:=by unfold dU dW;rw[M,(Ho G).1,(Ho G).2.1];omega
  have a2:(dU it it.to).natAbs<=20/\(dW it it.to).natAbs<=20:=by unfold dU dW;rw[M,X,(Ho G).1,(Ho G).1,(Ho G).2.1,(Ho G).2.1];omega
  have k1:=Qv4 Y U.2.1 a1.1 a1.2;have k2:=Qv4 Y U.2.2.1 a2.1 a2.2;simp only[ba]at I;obtain⟨s,E,rfl⟩:=I
  have hh:∀s∈D6 it,s.h.natAbs<=640064:=by
   have key:∀(k:Nat) (full:Bool) (a b:Spk),a.h.natAbs<=640064->b.h.natAbs<=640064->∀s∈C7 it.dir k full a b,s.h.natAbs<=640064:=by
    intro k;induction k with
    |zero=>intro full a b J hb s E;simp[C7]at E;subst E;exact hb
    |succ k ih=>
     intro full a b J hb s E;have hm:(Ea a b it.dir full).h.natAbs<=640064:=by
      unfold Ea GB;split
      ·simp
      ·show(hf a.h b.h).natAbs<=_;unfold hf;omega
     unfold C7 at E;split at E
     ·simp at E;subst E;exact hb
     ·rcases bq.1 E with E|E
      ·exact ih false _ _ J hm s E
      ·exact ih false _ _ hm hb s E
   have f1:=(Gl (pl:=it.aG) O).2.2;have f2:=(Gl (pl:=it.aG) T).2.2;have b1:(Eg it it.fr).h.natAbs<=640064:=by show(plH it.aG it.fr*16).natAbs<=_;omega
   have b2:(Eg it it.to).h.natAbs<=640064:=by show(plH it.aG it.to*16).natAbs<=_;omega
   intro s E;rcases av.1 E with rfl|E
   ·exact b1
   ·exact key 16 _ _ _ b1 b2 s E
  have N:okW (32*20+1) s:=by
   rcases av.1 E with rfl|E
   ·exact k1
   ·exact Qlr hd 16 _ k1 k2 s E
  have a4:=hh s E;obtain⟨c1,c2,-⟩:=Gl (pl:=it.aG) (EW V);have u1:=N.u;have u2:=N.w;have:(8:Int).toNat=8:=rfl;unfold Ja;exact Qma (by omega) (by omega) (by omega)
 ·rw[aa S]at I;simp at I;rcases I with rfl|rfl
  ·exact A3 (EW O) (by decide)
  ·exact A3 (EW T) (by decide)
def Zds:Int->List Sgm->Int
 |k,[]=>k
 |_,g::l=>Zds g.aU l
structure VInv (i : Nat) (s : BSt) : Prop where
 begun:s.begun=true->bd B24 s.aQ/\Q66 0 s.aQ s.aF/\Zds 0 s.aF<=i
 aD:Q05 0 s.len s.aD
theorem Q6c:∀{l:List Itm} {p:Pt},(∀it∈l,AK it)->Mh p l->HS p l
 |[],_,_,_=>trivial
 |it::l,p,h,E=>by
  unfold HS;rw[ab (h it (by simp))];exact⟨E.1,Q6c (λi hi=>h i (by simp[hi])) E.2⟩
theorem Zkv {l:List Itm} (h:Motions 40004 g l):Items 40004 g l:=by
 have E:∀it∈l,AK it:=λit hi=>by have:=h.made it hi;exact⟨by have:=this.1.aP;omega,by have:=this.2.2.1;omega⟩
 exact⟨Q6c E h.chain,λit hi=> .inl ⟨E it hi,(h.made it hi).1,(h.made it hi).2.1,(h.made it hi).2.2.2⟩⟩
theorem Qhl (aA:List Itm):AZ aA=⟨(Au aA aA.length).aQ,(Au aA aA.length).aF,(Au aA aA.length).aD⟩:=rfl
noncomputable def mkA (aA:List Itm) (i:Nat):Mrk:=⟨(Au aA (i+1)).len,if AK (itA aA i)then HH aA i else Re (itA aA i),i⟩
theorem UG (aA:List Itm):∀n,(Au aA n).aD=(List.range n).map (mkA aA)
 |0=>rfl
 |n+1=>by
  rw[List.range_succ,de,<-UG aA n];show(DO aA n (Au aA n)).aD=_;unfold mkA;show _=_++[(⟨(DO aA n (Au aA n)).len,_,_⟩:Mrk)];unfold DO;by_cases c:AK (itA aA n)
  ·simp only[ab c]
  ·simp only[aa c]
theorem Zcq:∀l:List Itm,Gc l=1\/Gc l=2
 |[]=> .inr rfl
 |it::l=>by
  unfold Gc
  repeat' split
  all_goals first|exact .inl rfl|exact .inr rfl|exact Zcq l
theorem Zkw (aA:List Itm) (i:Nat):HH aA i=6\/HH aA i=1\/HH aA i=2:=by
 unfold HH;have:=Zcq (aA.drop (i+1))
 repeat' split
 all_goals omega
theorem Z5 {aA:List Itm} (h:BInv (Au aA i)):(Au aA i).len=Ay (Au aA i).aF:=by
 by_cases hb:(Au aA i).begun=true
 ·exact(h.begun hb).2.2.2.symm
 ·obtain⟨E,G,-⟩:=h.empty (by simpa using hb);rw[E,G];rfl
theorem Yae {aA:List Itm} (E:∀j<aA.length,¬Cc (itA aA j)) {i:Nat} (hi:i<=aA.length):∀g∈(Au aA i).aF,1<=g.len:=by
 have h:=KH E i hi;by_cases hb:(Au aA i).begun=true
 ·exact λg G=>(Vr (h.begun hb).1 (h.begun hb).2.1 g G).1
 ·rw[(h.empty (by simpa using hb)).1];simp
theorem Zcv {aA:List Itm} (E:∀j<aA.length,¬Cc (itA aA j)) {i k:Nat} (h:i+k<=aA.length):0<=(Au aA i).len/\(Au aA i).len<=(Au aA (i+k)).len:=by
 rw[Z5 (KH E i (by omega)),Z5 (KH E (i+k) h)];obtain⟨l,J⟩:=Qxw aA i k;have I:=Yae E h;rw[J]at I⊢;rw[Zjm];have M:=Zb3 (l:=(Au aA i).aF) λg G=>I g (by simp[G]);have N:=Zb3 (l:=l) λg G=>I g (by simp[G]);omega
theorem Zxf {aA:List Itm} (E:∀j<aA.length,¬Cc (itA aA j)) {i:Nat} (hi:i<aA.length):
  0<=(mkA aA i).at_/\(mkA aA i).at_<=Ay (AZ aA).aF:=by
 have h:=Zcv E (i:=i+1) (k:=aA.length-(i+1)) (by omega);rw[show i+1+(aA.length-(i+1))=aA.length by omega]at h;refine⟨h.1,?_⟩;have:=Z5 (KH E aA.length (db _));rw[Qhl];simp only;rw[<-this];exact h.2
structure FwS (t : Trk) (s0 n : Int) : Prop where
 be:0<=s0/\s0<=n
 wh:∀z,s0<=z->z<=n->0<=AU t z/\AU t z<=t.length/\Az t (AU t z)=z/\∀v,0<=v->v<AU t z->Az t v<z
 rg:∀u,s0<=Az t u/\Az t u<=n
 up:∀u v,u<=v->Az t u<=Az t v
 len:0<=t.length/\t.length<=900000000000000
theorem Zgc {x:Ax3} {d:Pt} (Y:Ax3OK x) (U:GoodPath p) (hm:0<=m/\m<=Ay p.aF):FwS (AL p x d m (Ay p.aF)) m (Ay p.aF):=by
 have hn:=Nb U;obtain⟨d',I,N,-⟩:=I2 (d:=d) (a:=m) (b:=Ay p.aF) (Q:=λ_ _=>True) Y U (λ_ _ _ _ _ _ _ _=>trivial);have G:=Jq d m (Ay p.aF) Y U;have c1:AS m (Ay p.aF)=m:=by unfold AS;omega
 have c2:AS (Ay p.aF) (Ay p.aF)=Ay p.aF:=by unfold AS;omega
 have V:mvP p m (Ay p.aF)=1:=by unfold mvP;rw[c1,c2,aa]
 rw[V,c2]at I;rw[c1]at N;generalize AL p x d m (Ay p.aF)=t at*;generalize Ay p.aF=n at*;obtain⟨ch,O,S,-⟩:=I;rw[N]at ch S;by_cases E:t.aE=[]
 ·have a0:n=m:=by rw[E]at S;exact S.symm
  have a5:t.length=0:=by rw[E]at O;exact O.symm
  have pl:∀u,Az t u=m:=λu=>by unfold Az;rw[ab E,N]
  refine⟨hm,λz z0 z1=> ?_,λu=>by rw[pl];omega,λu v _=>by rw[pl,pl];omega,G.len⟩;have T:AU t z=0:=by unfold AU;rw[ab (by rw[N];omega)]
  rw[T];exact⟨by omega,by omega,by rw[pl];omega,λv h0 I=>by omega⟩
 ·have cl:∀u,0<=clT t u/\clT t u<=t.length:=IY G;have J:∀u,0<=u->u<=t.length->clT t u=u:=λu h0 I=>by unfold clT AS;omega
  have M:∀u v,u<=v->clT t u<=clT t v:=λu v h=>by unfold clT AS;omega
  have lo:∀u,m<=Az t u:=λu=>by
   rw[E2 G u E];exact(Pk ch E _ _ (cl u).1 (bz _) (by rw[O];exact(cl u).2)).1
  have hi:∀u,Az t u<=n:=λu=>by
   rw[E2 G u E];have:=Qdd ch E (u:=clT t u) (by rw[O];exact(cl u).2);rw[S]at this;exact this
  have up:∀u v,u<=v->Az t u<=Az t v:=λu v h=>by
   rw[E2 G u E,E2 G v E];exact(Pk ch E _ _ (cl u).1 (M u v h) (by rw[O];exact(cl v).2)).2
  have zero:Az t 0=m:=by
   rw[E2 G 0 E,J 0 (by omega) G.len.1];obtain⟨c,l,e⟩:=List.exists_cons_of_ne_nil E;rw[e]at ch⊢;obtain⟨g1,g2,g3,-⟩:=ch;unfold plL;rw[ab,g1,g2];simp
  refine⟨hm,λz z0 z1=> ?_,λu=>⟨lo u,hi u⟩,up,G.len⟩;by_cases X:z=m
  ·have T:AU t z=0:=by unfold AU;rw[ab (by rw[N];exact X)]
   rw[T];exact⟨by omega,G.len.1,by rw[zero,X],λv h0 I=>by omega⟩
  ·have T:AU t z=wF z t.aE:=by unfold AU;rw[aa (by rw[N];exact X)]
   obtain⟨a1,a2,a3,a4⟩:=(ZU (.inl rfl) z ch).2.2 (by omega) (by rw[S];omega);rw[O]at a2;rw[T];refine⟨by omega,a2,?_,λv h0 I=> ?_⟩
   ·rw[E2 G _ E,J _ (by omega) a2,a3]
   ·rw[E2 G _ E,J v h0 (by omega)];have:=a4 v h0 I;omega
theorem FwS.ge {s0 n:Int} (h:FwS t s0 n) {z u:Int} (h0:s0<=z) (E:z<=n) (G:0<=u) (I:z<=Az t u):AU t z<=u:=by
 apply bv;intro c;have:=(h.wh z h0 E).2.2.2 u G (by omega);omega
theorem FwS.wmono {s0 n:Int} (h:FwS t s0 n) {y z:Int} (h0:s0<=y) (G:y<=z) (I:z<=n):AU t y<=AU t z:=by
 have E:=h.wh z (by omega) I;refine h.ge h0 (by omega) E.1 ?_;rw[E.2.2.1];exact G
theorem FwS.le {s0 n:Int} (h:FwS t s0 n) {z u:Int} (h0:s0<=z) (E:z<=n) (G:u<=AU t z):Az t u<=z:=by
 have I:=h.wh z h0 E;have:=h.up u _ G;omega
theorem Qu5 {c:Cv} {known frm:Int}:∀{l:List Mrk} {i:Nat},((DR c known frm l i).2= -1/\(DR c known frm l i).1=known/\∀m∈l,¬(BS m.aP c=true/\frm<=m.at_/\m.at_<=known))\/
  ∃j,∃N:j<l.length,DR c known frm l i=(l[j].at_,((i+j:Nat):Int))/\(BS l[j].aP c=true/\frm<=l[j].at_/\l[j].at_<=known)/\∀k,∀O:k<j,¬(BS (l[k]'(by omega)).aP c=true/\frm<=(l[k]'(by omega)).at_/\(l[k]'(by omega)).at_<=known)
 |[],_=> .inl ⟨rfl,rfl,λm S=>by cases S⟩
 |m::l,i=>by
  unfold DR;by_cases E:BS m.aP c=true/\frm<=m.at_/\m.at_<=known
  ·rw[ab E];exact .inr ⟨0,by simp,rfl,E,λk O=>by omega⟩
  ·rw[aa E];rcases Qu5 (l:=l) (i:=i+1)with⟨G,I,J⟩|⟨j,N,G,I,J⟩
   ·refine .inl ⟨G,I,λq M=> ?_⟩;rcases av.1 M with rfl|M
    ·exact E
    ·exact J q M
   ·refine .inr ⟨j+1,by simpa using N,?_,by simpa using I,λk O=> ?_⟩
    ·rw[G];have:i+1+j=i+(j+1):=by omega
     rw[this];rfl
    ·cases k with
     |zero=>exact E
     |succ k=>exact J k (by omega)
theorem Z8j {c:Cv} {known frm:Int} (U:0<=c.next):(BK K c known frm=(known,-1)/\∀i:Int,c.next<=i->i<K.p.aD.length-> ¬(BS (mkK K i).aP c=true/\frm<=(mkK K i).at_/\(mkK K i).at_<=known))\/
  ∃j:Int,BK K c known frm=((mkK K j).at_,j)/\c.next<=j/\j<K.p.aD.length/\(BS (mkK K j).aP c=true/\frm<=(mkK K j).at_/\(mkK K j).at_<=known)/\∀i:Int,c.next<=i->i<j-> ¬(BS (mkK K i).aP c=true/\frm<=(mkK K i).at_/\(mkK K i).at_<=known):=by
 have J:(max c.next 0).toNat=c.next.toNat:=by rw[Int.max_eq_left U]
 have O:∀(k:Nat) (E:k<(K.p.aD.drop c.next.toNat).length),(K.p.aD.drop c.next.toNat)[k]=mkK K ((c.next.toNat+k:Nat):Int):=λk E=>by
  rw[km];unfold mkK;rw[ak,List.getD,ai (by rw[co]at E;omega)];rfl
 have em:∀{i:Int},c.next<=i->i<K.p.aD.length->∃k,∃E:k<(K.p.aD.drop c.next.toNat).length,mkK K i=(K.p.aD.drop c.next.toNat)[k]/\(k:Int)=i-c.next:=fun{i} G I=>by
  refine⟨(i-c.next).toNat,by rw[co];omega,?_,by omega⟩;rw[O];have:((c.next.toNat+(i-c.next).toNat:Nat):Int)=i:=by omega
  rw[this]
 unfold BK;rw[J];rcases Qu5 (c:=c) (known:=known) (frm:=frm) (l:=K.p.aD.drop c.next.toNat) (i:=c.next.toNat)with⟨G,I,M⟩|⟨j,S,G,I,M⟩
 ·refine .inl ⟨Prod.ext I G,λi i1 T=> ?_⟩;obtain⟨k,E,e,-⟩:=em i1 T;rw[e];exact M _ (bn E)
 ·rw[O j S]at G I;have N:=S;rw[co]at N;refine .inr ⟨_,G,by omega,by omega,I,λi i1 T=> ?_⟩;obtain⟨k,E,e,e2⟩:=em (i:=i) i1 (by omega);rw[e];exact M k (by omega)
structure MkI (K : Kf) : Prop where
 len:K.p.aD.length=K.aA.length
 aU:∀i:Int,0<=i->i<K.aA.length->(mkK K i).aU=i
 out:∀i:Int,0<=i->i<K.aA.length->((mkK K i).aP=5↔(itK K i).aP=10)
end Go.Bm
namespace Go.Bm
theorem Q7p (h:KOK K) {n:Int} {c:Cv} (g:Gd K n c) (G:0<=n/\n<=10000) {v:Int} (E:(AM K.pa K.pb v (V (v-c.m1))).2=true\/∃r:Int,v=V (c.m1+r)/\r=AB K.pa K.pb c.m1 c.m2):c.m0<=V (c.m0+v):=by
 have h0:=g.m0;have I:=DH h.plan (F1.1 (Qv0 h g.mo E)).1;rw[Ae];omega
theorem Qfo (h:KOK K) {n:Int} {c:Cv} (g:Gd K n c) (E:0<=n/\n<=10000) (l:Int):c.m0<=(BO K c l).m0:=Q7p h g E (Vl h g l).2
theorem Qgl (c:Cv):(Dy c).m0=c.m0:=by unfold Dy;split<;>rfl
theorem Q58 (h:KOK K) {n:Int} {c:Cv} (g:Gd K n c) (E:0<=n/\n<=10000) (l:Int) {s:Sgm} (I:i64 s.aX):c.m0<=(F2 K c l s).m0:=by
 have G:=Qfo h g E l;unfold F2;split
 ·exact G
 ·unfold Jh;split
  ·exact G
  ·obtain⟨-,v,N,b,z,y,e,J,M⟩:=Qqx h g l I;have e1:gA (thO K c l s.aX) 1=v:=by rw[J];rfl
   have up:=Q7p h g E M;have e2:(IB c (thO K c l s.aX)).m0=V (c.m0+v):=by
    show V (c.m0+gA (thO K c l s.aX) 1)=_;rw[e1]
   split
   ·rw[Qgl,e2];exact up
   ·rw[e2];exact up
theorem Zme (h:KOK K) {n:Int} {c:Cv} (g:Gd K n c) (E:0<=n/\n<=10000) (l:Int):c.m0<=(Fd K c l).m0:=by
 unfold Fd;split
 ·exact Qfo h g E l
 ·rename_i I;have G:(sgK K c).aX≠0:=λe=>I (.inl e);split
  ·exact Q58 h g E l (GA h G).2.2
  ·split
   ·exact Q58 h (g.go (sgK K c)) E l (GA h G).2.2
   ·split
    ·rw[Qgl];exact bz _
    ·exact bz _
theorem Zw9 (h:KOK K) {n:Int} {c:Cv} (g:Gd K n c) (E:0<=n/\n<=10000):c.m0<=(CQ K c).2.m0:=by
 unfold CQ;split
 ·have b:=Z56 K c (AG K c).2;split
  ·split
   ·rw[Qgl,b.m0];exact bz _
   ·rw[b.m0];exact bz _
  ·split
   ·exact bz _
   ·exact bz _
 ·exact Zme h g E _
structure Dr (K : Kf) (n : Int) (c : Cv) : Prop where
 k:KOK K
 g:Ga K n c
 l:UU K
 m0:0<=c.m0
theorem VS {c d:Cv} (h:d.m0=c.m0):BR K d=BR K c:=by
 show CO K.p K.x K.t (V (d.m0.tdiv 256))=CO K.p K.x K.t (V (c.m0.tdiv 256));rw[h]
structure Ky (c d : Cv) : Prop where
 m0:d.m0=c.m0
 m1:d.m1=c.m1
 m2:d.m2=c.m2
 next:d.next=c.next
 on:d.on=c.on
 idx:d.idx=c.idx
 aN:d.aN=c.aN
 aI:d.aI=c.aI
 aH:d.aH=c.aH
 y0:d.y0=c.y0
 y1:d.y1=c.y1
 y2:d.y2=c.y2
theorem Ky.rfl {c:Cv}:Ky c c:=⟨Eq.refl _,Eq.refl _,Eq.refl _,Eq.refl _,Eq.refl _,Eq.refl _,Eq.refl _,Eq.refl _,Eq.refl _,Eq.refl _,Eq.refl _,Eq.refl _⟩
theorem Ky.trans {a b c:Cv} (h:Ky a b) (g:Ky b c):Ky a c:=
 ⟨g.m0.trans h.m0,g.m1.trans h.m1,g.m2.trans h.m2,g.next.trans h.next,g.on.trans h.on,g.idx.trans h.idx,g.aN.trans h.aN,g.aI.trans h.aI,g.aH.trans h.aH,g.y0.trans h.y0,g.y1.trans h.y1,g.y2.trans h.y2⟩
structure Mk (c d : Cv) : Prop where
 next:d.next=c.next
 on:d.on=c.on
 idx:d.idx=c.idx
 aN:d.aN=c.aN
theorem T0 (c:Cv):Mk c (Dy c):=by unfold Dy;split<;>exact⟨rfl,rfl,rfl,rfl⟩
theorem Q5f (K:Kf) (c:Cv) (l:Int) (s:Sgm):Mk c (F2 K c l s):=by
 unfold F2;split
 ·exact⟨rfl,rfl,rfl,rfl⟩
 ·unfold Jh;split
  ·exact⟨rfl,rfl,rfl,rfl⟩
  ·split
   ·have:=T0 (IB c (thO K c l s.aX));exact⟨this.next,this.on,this.idx,this.aN⟩
   ·exact⟨rfl,rfl,rfl,rfl⟩
theorem Z1k (K:Kf) (c:Cv) (l:Int):Mk c (Fd K c l):=by
 unfold Fd;split
 ·exact⟨rfl,rfl,rfl,rfl⟩
 ·split
  ·exact Q5f K c l _
  ·split
   ·have:=Q5f K (goC K c (sgK K c)) l (sgK K c);exact⟨this.next,this.on,this.idx,this.aN⟩
   ·split
    ·exact T0 c
    ·exact⟨rfl,rfl,rfl,rfl⟩
def Zzb (c d:Cv):Prop:=Mk c d\/(d.next=V (c.idx+1)/\d.on=false/\(c.aN=true->c.aJ=true))
theorem Zwq (K:Kf) (c:Cv):Zzb c (Bv K c).2:=by
 unfold Bv GG;split
 ·split
  ·next h=>exact .inr ⟨rfl,rfl,λ_=>h.2⟩
  ·exact .inl ⟨rfl,rfl,rfl,rfl⟩
 ·next G=>
  have E:∀{p:Prop},c.aN=true->p:=λh=>absurd h G;split
  ·exact .inr ⟨rfl,rfl,E⟩
  ·split
   ·split
    ·exact .inl ⟨rfl,rfl,rfl,rfl⟩
    ·exact .inr ⟨rfl,rfl,E⟩
   ·split
    ·split
     ·exact .inr ⟨rfl,rfl,E⟩
     ·exact .inl ⟨rfl,rfl,rfl,rfl⟩
    ·split
     ·exact .inl ⟨rfl,rfl,rfl,rfl⟩
     ·exact .inr ⟨rfl,rfl,E⟩
structure Ix (A : Int -> Bool) (K : Kf) (c : Cv) : Prop where
 m0:0<=c.m0
 next:0<=c.next
 j:Jm A K c
 task:c.on=true->c.next<=c.idx/\c.idx<K.p.aD.length/\∀i:Int,c.next<=i->i<c.idx->A (mkK K i).aP=false
def Qkv (A:Int->Bool) (K:Kf) (c d:Cv):Prop:=d.next=c.next\/∃i:Int,c.next<=i/\i<K.p.aD.length/\d.next=i+1/\∀j:Int,c.next<=j->j<i->A (mkK K j).aP=false
theorem Jm.sub {A:Int->Bool} {c d:Cv} (h:Jm A K c) (he:endC K d=endC K c) (I:c.next<=d.next):Jm A K d:=λi i1 E G=>by
 rw[he];exact h i (by omega) E G
theorem Zle {A:Int->Bool} (h:KOK K) {c:Cv} (ix:Ix A K c) (on:c.on=true):Ix A K (Bv K c).2/\Qkv A K c (Bv K c).2:=by
 have mt:=Q7q K c;have E:=Zwq K c;obtain⟨J,M,N⟩:=ix.task on;have G:=h.count;have h0:=ix.next;generalize(Bv K c).2=d at*;rcases E with E|⟨O,S,-⟩
 ·refine⟨⟨by rw[mt.m0];exact ix.m0,by rw[E.next];exact ix.next,ix.j.sub mt.endC (by rw[E.next];omega),λI=> ?_⟩, .inl E.next⟩;rw[E.next,E.idx];exact⟨J,M,N⟩
 ·rw[Ae (x:=c.idx+1)]at O;exact⟨⟨by rw[mt.m0];exact ix.m0,by omega,ix.j.sub mt.endC (by omega),λI=>by rw[S]at I;cases I⟩, .inr ⟨c.idx,J,M,O,N⟩⟩
theorem Ix.fau {A:Int->Bool} {c:Cv} (ix:Ix A K c):Ix A K (Dy c):=by
 have k:=T0 c;have m:=Qmm c;refine⟨by rw[m.1];exact ix.m0,by rw[k.next];exact ix.next,ix.j.sub ?_ (by rw[k.next];omega),λE=> ?_⟩
 ·unfold endC;rw[Oh m.2.1 m.2.2,m.1]
 ·rw[k.on]at E;rw[k.next,k.idx];exact ix.task E
theorem Z55 {A:Int->Bool} (h:KOK K) (mk:MarksOK K) {n:Int} {c:Cv} (g:Gd K n c) (E:0<=n/\n<=10000) (M:∀k,A k=true->BS k c=true) (ix:Ix A K c) (on:c.on=false):
  Ix A K (CQ K c).2/\Qkv A K c (CQ K c).2:=by
 have G:=Sw h mk g E M ix.m0 ix.next ix.j;have up:=Zw9 h g E;have I:=ix.m0;unfold CQ at up⊢;split
 ·split
  ·next hi=>
   obtain⟨j,e,O,S,-,T⟩:∃j:Int,AG K c=(AU K.t (mkK K j).at_,j)/\c.next<=j/\j<K.p.aD.length/\BS (mkK K j).aP c=true/\∀i:Int,c.next<=i->i<j->A (mkK K i).aP=false:=by
    rcases G with⟨e,-⟩|G
    ·rw[e]at hi;dsimp only at hi;omega
    ·exact G
   have U:(AG K c).2=j:=by rw[e]
   rw[U];have key:Ix A K (Ee K c j).2/\Qkv A K c (Ee K c j).2:=by
    have ib:Ix A K {c with on:=true,idx:=j,aN:=Fi K c j,cnt:=0}:=⟨ix.m0,ix.next,ix.j.sub rfl (bz _),λ_=>⟨O,S,T⟩⟩;exact Zle h ib rfl
   split
   ·refine⟨key.1.fau,?_⟩;have:=(T0 (Ee K c j).2).next
    rcases key.2 with q|⟨i,i1,V,X,Y⟩
    ·exact .inl (this.trans q)
    ·exact .inr ⟨i,i1,V,this.trans X,Y⟩
   ·exact key
  ·split
   ·exact⟨⟨ix.m0,ix.next,ix.j.sub rfl (bz _),ix.task⟩, .inl rfl⟩
   ·exact⟨ix, .inl rfl⟩
 ·next J=>
  rw[aa J]at up;have m:=Z1k K c (AG K c).1;refine⟨⟨iy I up,by rw[m.next];exact ix.next,Jm.bD h mk g E M ix.m0 ix.next ix.j (Zy4 h g E _) m.next,λN=> ?_⟩, .inl m.next⟩;rw[m.on,on]at N;cases N
theorem ix0 {A:Int->Bool} (h:KOK K) (mk:MarksOK K):Ix A K Cy:=by
 refine⟨bz _,bz _,λi i1 G _=> ?_,λI=>by cases I⟩;have E:=mk.at_ i i1 G;have J:=mk.fw.wh _ E.1 E.2;have e:endC K Cy=0:=by
  unfold endC;rw[Tr h.plan (c:=Cy) (PJ h.plan) (bz _)];rfl
 rw[e];omega
structure OKm (K : Kf) : Prop where
 len:K.len=Ay K.p.aF
 closed:K.closed=true
 mi:MkI K
 pos:0<K.aA.length
 at_:∀i:Int,0<=i->i<K.aA.length->0<=(mkK K i).at_/\(mkK K i).at_<=K.len
 last:(mkK K (K.aA.length-1)).at_=K.len/\(mkK K (K.aA.length-1)).aP=3
 end_:(itK K (K.aA.length-1)).aP=14
 no14:∀i:Int,0<=i->i<K.aA.length-1->(itK K i).aP≠14
theorem OKm.sT (h:OKm K) (t:Trk):OKm (Go.Bm.sT K t):=⟨h.len,h.closed,⟨h.mi.len,h.mi.aU,h.mi.out⟩,h.pos,h.at_,h.last,h.end_,h.no14⟩
structure Oj (K : Kf) (n : Int) (c : Cv) : Prop where
 k:KOK K
 m:OKm K
 g:Ga K n c
 l:UU K
 m0:0<=c.m0
 w:c.way=0->(∃s0,FwS K.t s0 K.len)/\endC K c<=256*AU K.t K.len
 next:0<=c.next/\c.next<K.aA.length
 on:c.on=true->c.way=0/\(c.aI=0->c.idx+1<K.aA.length)
structure Sj (c d : Cv) : Prop where
 m0:d.m0=c.m0
 m1:d.m1=c.m1
 m2:d.m2=c.m2
 way:d.way=c.way
 next:d.next=c.next
 on:d.on=c.on
 idx:d.idx=c.idx
 aI:d.aI=c.aI
 aK:d.aK=c.aK
theorem Sj.of {c d:Cv} (h:Sm c d):Sj c d:=⟨h.m0,h.m1,h.m2,h.kp.way,h.next,h.on,h.idx,h.aI,h.kp.aK⟩
theorem Th {c d:Cv} (h0:d.m0=c.m0) (E:d.m1=c.m1) (G:d.m2=c.m2):endC K d=endC K c:=by unfold endC;rw[Oh E G,h0]
theorem Oj.same {n:Int} {c d:Cv} (o:Oj K n c) (g:Ga K n d) (s:Sj c d):Oj K n d:=by
 refine⟨o.k,o.m,g,o.l,by rw[s.m0];exact o.m0,?_,by rw[s.next];exact o.next,by rw[s.on,s.way,s.aI,s.idx];exact o.on⟩;rw[s.way,Th s.m0 s.m1 s.m2];exact o.w
theorem Qy3 (h:KOK K) {c:Cv} (h0:c.m0=0) (E:c.m1=0) (G:c.m2=0):endC K c=0:=by
 unfold endC;have I:Mo K c:=by
  unfold Mo;rw[E,G];exact PJ h.plan
 rw[Tr h.plan I (by omega),h0];rfl
structure W4 (c d : Cv) : Prop where
 way:d.way=c.way
 aK:d.aK=c.aK
 o3:d.o3=c.o3
 o4:d.o4=c.o4
theorem Zgs {c d:Cv} (E:d.o3=c.o3) (G:d.o4=c.o4) (k:Int):BS k d=BS k c:=by unfold BS;rw[E,G]
theorem Oj.up {n:Int} {c:Cv} (o:Oj K n c) (E:0<=n):Oj K (n+1) c:=⟨o.k,o.m,o.g.up E,o.l,o.m0,o.w,o.next,o.on⟩
structure Ok7 (K : Kf) (n : Int) (c : Cv) (last : Int) : Prop where
 o:Oj K n c
 e7:c.aI=7->(K.aA.length:Int)<=c.aK+1
 lt:last<c.aK
 no:∀x:Int,last<x->x<c.aK->(itK K x).aP≠10
theorem TR {aA:List Itm} (E:K.p=AZ aA) {i:Int} (h0:0<=i) (I:i<aA.length):mkK K i=mkA aA i.toNat:=by
 have hi:i.toNat<aA.length:=by omega
 have G:i.toNat<(Au aA aA.length).aD.length:=by rw[UG];simpa using hi
 unfold mkK;rw[E,Qhl];simp only;rw[List.getD,ai G];simp only[UG,gj,List.getElem_range];rfl
theorem Qq1 (aA:List Itm):(AZ aA).aD.length=aA.length:=by rw[Qhl];simp[UG]
theorem Z7l {x:Ax3} {pa pb pc ramp lag:Int} {aA:List Itm} (J:Ax3OK x) (M:GoodPath (AZ aA)) (E:∀j<aA.length,¬Cc (itA aA j)):MarksOK (kfP x pa pb pc ramp lag aA true):=by
 have N:=Qq1 aA;refine⟨Z07 J M,rfl,λi h0 G=> ?_,λi j h0 G I=> ?_⟩
 ·have G:i<(AZ aA).aD.length:=G;rw[TR (aA:=aA) rfl h0 (by omega)];exact Zxf E (by omega)
 ·have I:j<(AZ aA).aD.length:=I;rw[TR (aA:=aA) rfl h0 (by omega),TR (aA:=aA) rfl (by omega) (by omega)];have:=(Zcv E (i:=i.toNat+1) (k:=j.toNat-i.toNat) (by omega)).2;rw[show i.toNat+1+(j.toNat-i.toNat)=j.toNat+1 by omega]at this;exact this
def A1 (k:Int):Bool:=k==1||(k==2||(k==3||(k==4||k==6)))
def A2 (k:Int):Bool:=k==1||(k==2||k==6)
def Ws (K:Kf) (c:Cv):Prop:=c.on=true->A2 (mkK K c.idx).aP=true->c.aN=true
def Q91 (K:Kf):Nat->Nat
 |0=>0
 |i+1=>Q91 K i+if A2 (mkK K i).aP=true then 1 else 0
structure Sg (K : Kf) (c : Cv) (s : Nat) : Prop where
 ix:Ix A1 K c
 w:Ws K c
 n:Q91 K c.next.toNat<=s
 cm:Cm c
 gg:Gg c
end Go.Bm
namespace Go.Bm
open Classical
end Go.Bm
namespace Go.Bm
def A0 (k:Int):Bool:=k==1||(k==3||k==6)
theorem Qih {c:Cv} (k:Int) (h:A0 k=true):BS k c=true:=by
 unfold A0 at h;unfold BS;simp only[jp]at*;rcases h with h|h|h
 ·exact .inl h
 ·exact .inr (.inl h)
 ·exact .inr (.inr (.inl h))
structure TapK (K : Kf) (D L : Int) : Prop where
 aF:∃p r,K.p.aF=[⟨p,D,0,r,L⟩,⟨⟨0,0,0⟩,D,1,r,L⟩]
 aD:K.p.aD=[⟨D,1,0⟩,⟨D+D,1,1⟩,⟨D+D,3,2⟩]
 k0:(itK K 0).aP=6/\(itK K 0).n=3
 k1:(itK K 1).aP=6/\(itK K 1).n=4
 k2:(itK K 2).aP=14
 len:K.len=D+D
 D0:0<D/\D<=100000
 L0:0<L/\L<1000000
 ramp:0<=K.ramp/\K.ramp<=1000000
theorem TapK.seg (t:TapK K a k) (c:Cv) (h0:0<=At K c):(sgK K c).aX=k/\(At K c<a->(sgK K c).aU=0)/\(a<=At K c->(sgK K c).aU=1):=by
 obtain⟨p,r,e⟩:=t.aF;have I:max (At K c) 0=At K c:=Int.max_eq_left h0;by_cases E:At K c<a
 ·have G:sgK K c=⟨p,a,0,r,k⟩:=by
   unfold sgK DF;rw[I,e];unfold Bo;rw[ab (show At K c<a from E)];rfl
  rw[G];exact⟨rfl,λ_=>rfl,λh=>by omega⟩
 ·have G:sgK K c=⟨⟨0,0,0⟩,a,1,r,k⟩:=by
   unfold sgK DF;rw[I,e];unfold Bo;rw[aa (show¬At K c<a from E)];unfold Bo;split<;>rfl
  rw[G];exact⟨rfl,λh=>absurd h E,λ_=>rfl⟩
def gT (L D s:Int):Int:=V (V (Sa L (mn s D)-Sa L (mx (V (s-D)) 0))*256)
structure Tj (K : Kf) (D L : Int) (c : Cv) : Prop where
 sp:c.s1=0/\c.s2=0
 s3:c.s3=gT L D (At K c)
 st:(c.y0= -1/\At K c=0/\c.m1=0/\c.m2=0)\/(c.y0=0/\c.y1=0/\c.y2=0/\At K c<=D)\/(c.y0=1/\c.y1=D/\c.y2=gT L D D/\D<=At K c)
 nx:(1<=c.next\/c.on=true)->c.y0≠-1/\(c.y0=0->D<=At K c/\c.m1=0/\c.m2=0)
 on:c.on=true->At K c=(mkK K c.idx).at_
 en:c.aI≠0->At K c=D+D
theorem Qur (h:KOK K) {n:Int} {c:Cv} (g:Gd K n c) (I:0<=n/\n<=10000) (l:Int) (E:c.o2=true) (G:c.m1=0):(BO K c l).m0=c.m0/\(BO K c l).m1=0/\(BO K c l).m2=0:=by
 have e:nxV K c l=0:=by
  rw[Q71 h g.mo E l,TK h.plan g.mo.ready (by omega)];omega
 have hb:=g.m0;refine⟨?_,e,?_⟩
 ·show V (c.m0+nxV K c l)=c.m0;rw[e,Ae];omega
 ·show V (nxV K c l-c.m1)=0;rw[e,G];rfl
theorem Qd {c d:Cv} (h:d.m0=c.m0):At K d=At K c:=by
 show Az K.t (V (d.m0.tdiv 256))=Az K.t (V (c.m0.tdiv 256));rw[h]
structure Tp (K : Kf) (D L : Int) (c : Cv) : Prop where
 ix:Ix A0 K c
 cm:Cm c
 gg:Gg c
 j:Tj K D L c
structure MvK (K : Kf) : Prop where
 k:KOK K
 closed:K.closed=true
 len:K.len=Ay K.p.aF
 aX:∀g∈K.p.aF,g.aX=0
 aP:∀i:Int,0<=i->i<K.p.aD.length->(mkK K i).aP=1\/(mkK K i).aP=2\/(mkK K i).aP=6
theorem Qy5 (h:∀g∈K.p.aF,g.aX=0) (c:Cv):(sgK K c).aX=0:=by
 unfold sgK;cases e:DF K c with
 |none=>rfl
 |some g=>exact h g (SC e)
structure Rs (c d : Cv) : Prop where
 m0:d.m0=c.m0
 m1:d.m1=c.m1
 m2:d.m2=c.m2
 m3:d.m3=c.m3
 m4:d.m4=c.m4
 next:d.next=c.next
 on:d.on=c.on
 aI:d.aI=c.aI
 aH:d.aH=c.aH
 y0:d.y0=c.y0
 g0:d.g0=c.g0
 o3:d.o3=c.o3
 o4:d.o4=c.o4
 way:d.way=c.way
 home:d.home=c.home
theorem Rs.still {c d:Cv} (s:Rs c d):AR d=AR c:=by unfold AR;rw[s.m0,s.m1,s.m2,s.m3,s.m4]
def Beg (K:Kf) (c:Cv) (E:List Evn) (d:Cv):Prop:=BB K c E=(K,d)/\Rs c d/\d.aM=AR c
theorem Qq9 {c e:Cv} (I:c.aH=false) (J:c.g0=0) (he:B4 K c E=(K,e)) (s:Rs c e):∃d,Beg K c E d/\d.o2=e.o2:=by
 have G:BB K c E=(K,FC (Dq K (Bd (Du e)))):=by
  unfold BB;rw[he]
 have M:Du e=e:=by
  unfold Du;rw[aa λq=>by rcases q with q|q;rw[s.aH,I]at q;cases q;exact q (s.g0.trans J)]
 rw[M]at G;refine⟨_,⟨G,?_,?_⟩,?_⟩
 ·unfold Dq;split<;>exact⟨s.m0,s.m1,s.m2,s.m3,s.m4,s.next,s.on,s.aI,s.aH,s.y0,s.g0,s.o3,s.o4,s.way,s.home⟩
 ·unfold Dq;split<;>exact s.still
 ·unfold Dq;split<;>rfl
theorem Zfs (K:Kf) (c:Cv):B4 K c []=(K,B5 c):=rfl
theorem Qyc (c:Cv):Rs c (B5 c):=⟨rfl,rfl,rfl,rfl,rfl,rfl,rfl,rfl,rfl,rfl,rfl,rfl,rfl,rfl,rfl⟩
theorem S8 {c:Cv} (E:c.aH=false) (G:c.g0=0):∃d,Beg K c [] d/\d.o2=c.o2:=Qq9 (e:=B5 c) E G (Zfs K c) (Qyc c)
theorem Zqr (K:Kf) (c:Cv):B4 K c [⟨0,3,0⟩]=(K,evC (B5 c) 3 0):=rfl
theorem Zo8 {c:Cv} (E:c.aH=false) (G:c.g0=0):∃d,Beg K c [⟨0,3,0⟩] d/\d.o2=true:=Qq9 E G (Zqr K c) ⟨rfl,rfl,rfl,rfl,rfl,rfl,rfl,rfl,rfl,rfl,rfl,rfl,rfl,rfl,rfl⟩
structure Rc (K : Kf) (c : Cv) : Prop where
 ix:Ix A0 K c
 nx:c.next<=K.p.aD.length
 on:c.on=false
 en:c.aI=0\/(c.aI=7/\AR c=true)
 t:c.aH=false
 g0:c.g0=0
 o:c.o3=false/\c.o4=false
 y0:c.y0= -1
 e:endC K c<=256*AU K.t K.len
structure Rm (K : Kf) (n : Int) (c : Cv) : Prop where
 g:Gd K n c
 r:Rc K c
theorem Rc.pas {c:Cv} (r:Rc K c) (p q:Int):Rc K {c with aK:=p,outs:=q}:=⟨⟨r.ix.m0,r.ix.next,r.ix.j,r.ix.task⟩,r.nx,r.on,r.en,r.t,r.g0,r.o,r.y0,r.e⟩
theorem Rc.same {c d:Cv} (r:Rc K c) (s:Rs c d):Rc K d:=by
 have E:endC K d=endC K c:=Th s.m0 s.m1 s.m2;refine⟨⟨by rw[s.m0];exact r.ix.m0,by rw[s.next];exact r.ix.next,r.ix.j.sub E (by rw[s.next];omega),λq=> ?_⟩,by rw[s.next];exact r.nx,s.on.trans r.on,?_,s.aH.trans r.t,s.g0.trans r.g0,⟨s.o3.trans r.o.1,s.o4.trans r.o.2⟩,s.y0.trans r.y0,by rw[E];exact r.e⟩
 ·rw[s.on,r.on]at q;cases q
 ·rw[s.aI,s.still];exact r.en
theorem Q0c {c d:Cv} (E:d.o3=c.o3) (G:d.o4=c.o4) (known frm:Int):∀(l:List Mrk) (i:Nat),DR d known frm l i=DR c known frm l i
 |[],_=>rfl
 |m::l,i=>by
  unfold DR;rw[Zgs E G,Q0c E G known frm l (i+1)]
theorem Qyx (h:KOK K) {n:Int} {c d:Cv} (G:Gd K n c) (gd:Gd K n d) (E:0<=n/\n<=10000) (h0:d.m0=c.m0) (I:d.m1=c.m1) (J:d.m2=c.m2) (M:d.next=c.next) (N:d.o3=c.o3) (O:d.o4=c.o4):AG K d=AG K c:=by
 unfold AG;rw[U9 h G E,U9 h gd E,Th h0 I J];unfold BK;rw[M,Q0c N O]
def dnC (d:Cv) (i:Int):Cv:={d with next:=i+1,on:=false,idx:=0,aN:=false,cnt:=0}
theorem Zpq (m:MvK K) {d:Cv} (E:d.o3=false) {i:Int} (h0:0<=i) (G:i<K.p.aD.length):Ee K d i=(3,dnC d i):=by
 have I:=m.aP i h0 G;have J:Fi K d i=false:=by
  unfold Fi;rw[ab I];exact E
 have M:=m.k.count;unfold Ee Bv GG;rw[aa (by show¬Fi K d i=true;rw[J];decide),ab (by show(mkK K i).aP≠3;omega)];have e:V (i+1)=i+1:=Ae;show((3:Int),({d with next:=V (i+1),on:=false,idx:=0,aN:=false,cnt:=0}:Cv))=_;rw[e];rfl
def Znx (K:Kf) (d:Cv) (o:Int×Cv):Prop:=
 (AR d=true/\d.m0=V ((AG K d).1*256)/\∃i:Int,d.next<=i/\i<K.p.aD.length/\o=(3,dnC d i))\/(AR d=true/\d.m0=V ((AG K d).1*256)/\o=(7,{d with aI:=7}))\/
 (¬(AR d=true/\d.m0=V ((AG K d).1*256))/\o=(1,BO K d (AG K d).1))
theorem Zp2 (m:MvK K) {d:Cv} (h0:0<=d.next) (J:d.o3=false) (N:d.y0= -1) (M:d.g0=0) (I:d.aM=AR d):Znx K d (CQ K d):=by
 unfold CQ;by_cases E:AR d=true/\d.m0=V ((AG K d).1*256)
 ·rw[ab (show d.aM=true/\d.m0=V ((AG K d).1*256)from⟨I.trans E.1,E.2⟩)];rcases X5 K d with hi|⟨i0,i1,G⟩
  ·rw[aa,ab m.closed];exact .inr (.inl ⟨E.1,E.2,rfl⟩)
  ·rw[ab i0,Zpq m J i0 G];refine .inl ⟨E.1,E.2,_,i1,G,aa λq=> ?_⟩;have:=(R3 m.k i0 G).1;have O:(mkK K (AG K d).2).aU=d.y0:=q.1;omega
 ·rw[aa (show¬(d.aM=true/\d.m0=V ((AG K d).1*256))from λq=>E ⟨I.symm.trans q.1,q.2⟩)];refine .inr (.inr ⟨E,?_⟩);rw[aa (λq=>q.1 M)];unfold Fd;rw[ab (.inl (Qy5 m.aX d))]
theorem Z3x (mk:MarksOK K) (h:KOK K) {n:Int} {c:Cv} (g:Gd K n c) (G:0<=n/\n<=10000) (ix:Ix A0 K c):0<=(AG K c).1/\(AG K c).1<=AU K.t K.len:=by
 rcases Sw h mk g G (λk I=>Qih (c:=c) k I) ix.m0 ix.next ix.j with⟨e,-⟩|⟨j,e,M,J,-⟩
 ·rw[e];have h0:0<=K.len:=iy (mk.fw.rg 0).1 (mk.fw.rg 0).2;exact⟨(mk.fw.wh _ h0 (bz _)).1,bz _⟩
 ·rw[e];have N:=ix.next;have E:=mk.at_ j (by omega) J;exact⟨(mk.fw.wh _ E.1 E.2).1,mk.fw.wmono E.1 E.2 (bz _)⟩
def Qt (K:Kf) (c d e:Cv) (mode:Int):Prop:=
 (c.aI≠0/\e.aI=c.aI/\e.next=c.next/\e.m0=c.m0/\e.m1=c.m1/\e.m2=c.m2/\AR e=AR c/\mode=7)\/(c.aI=0/\AR c=true/\c.next+1<=e.next/\e.aI=0/\e.m0=c.m0/\e.m1=c.m1/\e.m2=c.m2/\AR e=true/\c.m0=V ((AG K c).1*256)/\mode=3)\/
  (c.aI=0/\AR c=true/\e.m0=c.m0/\e.m1=c.m1/\e.m2=c.m2/\AR e=true/\e.aI=7/\e.next=c.next/\c.m0=V ((AG K c).1*256)/\mode=7)\/
  (c.aI = 0 /\ e.aI = 0 /\ e.next = c.next /\ mode = 1 /\ ¬ (AR c = true /\ c.m0 = V ((AG K c).1 * 256)) /\
   e.m0=V (c.m0+e.m1)/\e.m1=nxV K d (AG K d).1/\e.m2=V (e.m1-c.m1)/\e.m3=c.m0/\e.m4=c.m3)
theorem Qbs (K:Kf) (c:Cv) (s:Int):∃n q:Int,(Ic K c s).2={c with aK:=n,outs:=q}:=by
 unfold Ic;split
 ·exact RX K c s
 ·exact⟨c.aK,c.outs,rfl⟩
theorem Zlb (m:MvK K) (mk:MarksOK K) {n:Int} {c d:Cv} (r:Rm K n c) (hn:0<=n/\n<=9999) {E:List Evn} (b:Beg K c E d) (gd:Gd K n d):
  ∃e mode,stA K c E=(mode,K,e)/\Rc K e/\Qt K c d e mode/\e.o2=d.o2/\e.way=0:=by
 obtain⟨b1,s,b3⟩:=b;have G:=r.r.same s;have w:=gd.way;unfold stA;rw[b1];dsimp only;by_cases M:c.aI=0
 ·have T:B2 K d=(0,K,d):=by
   unfold B2 Bx;rw[aa (show¬d.g0=2 by rw[G.g0];decide),aa (show¬d.aI≠0 from λq=>q (s.aI.trans M)),aa (show¬(d.aH=true/\d.aM=true)from λq=>by rw[G.t]at q;cases q.1),aa (show¬d.on=true by rw[G.on];decide)];rw[aa (by simp),aa (show¬d.way≠0 from λq=>q w)]
  rw[T,ab rfl];dsimp only;have U:d.aM=AR d:=b3.trans s.still.symm;have X:=Qyx m.k r.g gd (by omega) s.m0 s.m1 s.m2 s.next s.o3 s.o4;have Y:=r.r.ix.next;have cnt:=m.k.count;have I:Ix A0 K (CQ K d).2:=(Z55 m.k mk gd (by omega) (λk ha=>Qih (c:=d) k ha) G.ix G.on).1;have S:=s.aI.trans M;rcases Zp2 m (by rw[s.next];exact Y) G.o.1 G.y0 G.g0 U with⟨J,N,i,i1,i2,e⟩|⟨J,N,e⟩|⟨J,e⟩
  ·rw[e]at I⊢;rw[s.next]at i1;rw[X,s.m0]at N;refine⟨_,_,rfl,⟨I,?_,rfl, .inl S,G.t,G.g0,G.o,G.y0,G.e⟩, .inr (.inl ⟨M,s.still.symm.trans J,?_,S,s.m0,s.m1,s.m2,J,N,rfl⟩),rfl,w⟩
   ·show i+1<=_;omega
   ·show _<=i+1;omega
  ·rw[e]at I⊢;rw[X,s.m0]at N;exact⟨_,_,rfl,⟨I,G.nx,G.on, .inr ⟨rfl,J⟩,G.t,G.g0,G.o,G.y0,G.e⟩, .inr (.inr (.inl ⟨M,s.still.symm.trans J,s.m0,s.m1,s.m2,J,rfl,s.next,N,rfl⟩)),rfl,w⟩
  ·rw[e]at I⊢;rw[s.still,s.m0,X]at J;refine⟨_,_,rfl,⟨I,G.nx,G.on, .inl S,G.t,G.g0,G.o,G.y0,?_⟩, .inr (.inr (.inr ⟨M,S,s.next,rfl,J,?_,rfl,?_,s.m0,s.m3⟩)),rfl,w⟩
   ·have O:=P_ m.k gd (by omega) (AG K d).1;have ll:=Z3x mk m.k gd (by omega) G.ix;have hlen:=mk.fw.len;have h0:0<=K.len:=iy (mk.fw.rg 0).1 (mk.fw.rg 0).2;have hw:=mk.fw.wh _ h0 (bz _);show endC K (BO K d (AG K d).1)<=_;rcases O with O|O
    ·rw[Ae]at O;omega
    ·rw[O];exact G.e
   ·show V (d.m0+_)=_;rw[s.m0];rfl
   ·show V (_-d.m1)=_;rw[s.m1];rfl
 ·have e7:c.aI=7:=by
   rcases r.r.en with q|q
   ·exact absurd q M
   ·exact q.1
  have T:B2 K d=(7,K,d):=by
   unfold B2 Bx;rw[aa (show¬d.g0=2 by rw[G.g0];decide),ab (show d.aI≠0 by rw[s.aI];exact M),s.aI,e7,ab (by simp)]
  rw[T,aa (by simp)];exact⟨_,_,rfl,G, .inl ⟨M,s.aI,s.next,s.m0,s.m1,s.m2,s.still,rfl⟩,rfl,w⟩
theorem Tc (m:MvK K) (mk:MarksOK K) {n:Int} {c d:Cv} (r:Rm K n c) (M:0<=n/\n<=9999) {E:List Evn} (N:EvE E) (b:Beg K c E d):
  ∃e mode,(EL K c E)=(K,e)/\Rm K (n+1) e/\Qt K c d e mode/\e.o2=d.o2/\(stA K c E).1=mode/\(stA K c E).2.1=K/\(stA K c E).2.2.m0=e.m0:=by
 have G:=Q1p m.k r.g.ga (by omega) N;have I:=Jf m.k M.1 r.g.ga N;rw[b.1]at I;have gd:Gd K n d:=I.gd (b.2.1.way.trans r.g.way);obtain⟨e,mode,J,O,S,T,U⟩:=Zlb m mk r M b gd;obtain⟨p,q,V⟩:=Qbs (stA K c E).2.1 (stA K c E).2.2 (At (stA K c E).2.1 (stA K c E).2.2);have e1:EL K c E=(K,{e with aK:=p,outs:=q}):=by
  unfold EL;rw[V,J]
 refine⟨_,mode,e1,⟨?_,O.pas p q⟩,S,T,by rw[J],by rw[J],by rw[J]⟩;rw[e1]at G;exact G.gd U
theorem I1 {c:Cv}:AR c=true↔c.m1=0/\c.m2=0/\c.m3=c.m0/\c.m4=c.m0:=by
 unfold AR;simp only[al,beq_iff_eq]
theorem Q11 (h:KOK K) {c:Cv} (E:Mo K c) (l:Int):Ci K.pa K.pb (nxV K c l) (V (nxV K c l-c.m1))/\V (nxV K c l-c.m1)<=c.m2+K.pb/\nxV K c l=c.m1+V (nxV K c l-c.m1):=by
 have X:=DH h.plan E.ready;have hb:=h.plan.b;have M:Out (L7 c.m0 c.m1 c.m3 c.m4 (λv=>(AM K.pa K.pb v (V (v-c.m1))).2=true/\V (v-c.m1)<=c.m2+K.pb) λr=>r=AB K.pa K.pb c.m1 c.m2) (ES (nxL K c l)):=
  Ts (F := λ_ => True) (by omega) (O7 h.plan E) (λv _ _ N => by
   obtain⟨o,e,O⟩:=Qc h.f h.plan (V (c.m0+v)) v (V (v-c.m1)) c.m0 c.m3 c.m4 l;refine⟨o,e,λG=>⟨O G,?_⟩⟩;obtain⟨k,k0,k1,rfl⟩:=N;rw[Ae (x:=c.m2+k),Ae (x:=c.m1+(c.m2+k)),Ae];omega) (λv=>Qhk h.f ..) OX R_ (λ_ S=>SX S)
 have main:(AM K.pa K.pb (nxV K c l) (V (nxV K c l-c.m1))).2=true/\V (nxV K c l-c.m1)<=c.m2+K.pb:=by
  rcases Qoe M with q|⟨r,T,U⟩
  ·exact q
  ·subst U;have I:=QA h.plan E T;refine⟨I.2.2,?_⟩;rw[I.2.1];have:=(closed h.plan E.ready).2.1;omega
 have J:=(F1.1 main.1).1;have Y:=DH h.plan J;refine⟨J,main.2,?_⟩;rw[Ae];omega
theorem Z8d (m:MvK K) {A:Int} {r n:Nat} {N:Int} (q:Aq A K.pb r) (E:A=min K.pa (59*K.pb)) (G:n+1<=59) {c d e:Cv} {mode:Int} (gd:Gd K N d) (s:Rs c d) (st:Qt K c d e mode) (h:Up A K.pb n c.m1 c.m2):Up A K.pb (n+1) e.m1 e.m2:=by
 rcases st with⟨-,-,-,-,e1,e2,-⟩|⟨-,-,-,-,-,e1,e2,-⟩|⟨-,-,-,e1,e2,-⟩|⟨-,-,-,-,-,-,e1,e2,-,-⟩
 ·rw[e1,e2];exact Qme q h
 ·rw[e1,e2];exact Qme q h
 ·rw[e1,e2];exact Qme q h
 ·have k:=Q11 m.k gd.mo (AG K d).1;rw[<-e1,s.m1,<-e2,s.m2]at k;rw[k.2.2];exact Z7g q E G h k.2.1 k.1.2.1
theorem Q9n (m:MvK K) {N:Int} {c d e:Cv} (gd:Gd K N d) (s:Rs c d) (G:d.o2=true) (e1:e.m1=nxV K d (AG K d).1) (e2:e.m2=V (e.m1-c.m1)):
  e.m1=c.m1+AB K.pa K.pb c.m1 c.m2/\e.m2=AB K.pa K.pb c.m1 c.m2:=by
 have E:=Q71 m.k gd.mo G (AG K d).1;rw[s.m1,s.m2]at E;have k:=Q11 m.k gd.mo (AG K d).1;rw[<-e1,s.m1,<-e2]at k;rw[<-e1]at E;exact⟨E,by omega⟩
def Sq (K:Kf) (c:Cv):Prop:=AR c=true/\(c.aI≠0\/c.m0≠V ((AG K c).1*256))
structure Pz (A : Int) (r : Nat) (K : Kf) (i : Nat) (c : Cv) : Prop where
 a:i<=176->Hq A K.pb r i c.m1 c.m2
 b:176<=i->c.m1=0
 d:177<=i->c.m2=0/\c.m3=c.m0
 s:178<=i->AR c=true
 f:178<=i->Sq K c\/(i:Int)-178<=c.next
theorem Rm.still {n:Int} {c:Cv} (r:Rm K n c) (h:c.aI≠0):AR c=true:=by
 rcases r.r.en with q|q
 ·exact absurd q h
 ·exact q.2
theorem Q0n (m:MvK K) {A:Int} {r i:Nat} (q:Aq A K.pb r) (hj:A<=K.pa) {n:Int} (hn:0<=n/\n<=9999) {c d e:Cv} {mode:Int} (I:Rm K n c) (M:Rm K (n+1) e) (gd:Gd K n d) (s:Rs c d) (X:d.o2=true) (st:Qt K c d e mode) (p:Pz A r K i c):Pz A r K (i+1) e:=by
 have S:=m.k.plan;have N:=I.g.mo.ready;have b0:=I.g.m0;have hx:=I.r.ix.next;have E:c.m1=0->e.m0=V (c.m0+e.m1)->e.m1=nxV K d (AG K d).1->e.m2=V (e.m1-c.m1)->e.m1=0/\e.m2=0/\e.m0=c.m0:=λJ e0 e1 e2=>by
  have k:=Q9n m gd s X e1 e2;have hb:=TK S N (by omega);rw[hb]at k;refine⟨by omega,by omega,?_⟩;rw[e0,Ae];omega
 have Y:i+1<=176->Hq A K.pb r (i+1) e.m1 e.m2:=λhi=>by
  have z:c.m1=0->e.m1=c.m1->Hq A K.pb r (i+1) e.m1 e.m2:=λJ h2=> .inl (h2.trans J);rcases st with⟨G,-,-,-,e1,e2,-⟩|⟨-,T,-,-,-,e1,e2,-⟩|⟨-,T,-,e1,e2,-⟩|⟨-,-,-,-,-,-,e1,e2,-,-⟩
  ·exact z (I1.1 (I.still G)).1 e1
  ·exact z (I1.1 T).1 e1
  ·exact z (I1.1 T).1 e1
  ·have k:=Q9n m gd s X e1 e2;rw[k.1,k.2];exact Z2a S N q hj (by omega) (p.a (by omega))
 have hb:176<=i+1->e.m1=0:=λhi=>by
  by_cases G:i+1=176
  ·have h:=Y (by omega);rw[G]at h;exact Zob S M.g.mo.ready q h
  ·have J:=p.b (by omega);rcases st with⟨-,-,-,-,e1,-⟩|⟨-,-,-,-,-,e1,-⟩|⟨-,-,-,e1,-⟩|⟨-,-,-,-,-,e0,e1,e2,-,-⟩
   ·omega
   ·omega
   ·omega
   ·exact(E J e0 e1 e2).1
 have hd:177<=i+1->e.m2=0/\e.m3=e.m0:=λhi=>by
  have J:=p.b (by omega);rcases st with⟨G,-,-,-,-,-,e3,-⟩|⟨-,-,-,-,-,-,-,e3,-⟩|⟨-,-,-,-,-,e3,-⟩|⟨-,-,-,-,-,e0,e1,e2,e3,-⟩
  ·have:=I1.1 (e3.trans (I.still G));exact⟨this.2.1,this.2.2.1⟩
  ·have:=I1.1 e3;exact⟨this.2.1,this.2.2.1⟩
  ·have:=I1.1 e3;exact⟨this.2.1,this.2.2.1⟩
  ·have k:=E J e0 e1 e2;exact⟨k.2.1,by omega⟩
 have O:178<=i+1->AR e=true:=λhi=>by
  have J:=p.b (by omega);have h2:=p.d (by omega);rcases st with⟨G,-,-,-,-,-,e3,-⟩|⟨-,-,-,-,-,-,-,e3,-⟩|⟨-,-,-,-,-,e3,-⟩|⟨-,-,-,-,-,e0,e1,e2,e3,e4⟩
  ·exact e3.trans (I.still G)
  ·exact e3
  ·exact e3
  ·have k:=E J e0 e1 e2;exact I1.2 ⟨k.1,k.2.1,by omega,by omega⟩
 refine⟨Y,hb,hd,O,λhi=> ?_⟩;by_cases G:i+1=178
 ·right;have:=M.r.ix.next;omega
 ·have sc:=p.s (by omega);have m1:=p.b (by omega);have m2:=p.d (by omega);rcases st with⟨G,e1,-⟩|⟨G,-,e1,-,-,-,-,-,e2,-⟩|⟨G,-,-,-,-,-,e1,-⟩|⟨G,e0,U,-,e5,e6,e1,e2,-,-⟩
  ·exact .inl ⟨O (by omega), .inl (by rw[e1];exact G)⟩
  ·rcases p.f (by omega)with q|q
   ·rcases q.2 with q|q
    ·exact absurd G q
    ·exact absurd e2 q
   ·right;omega
  ·exact .inl ⟨O (by omega), .inl (by rw[e1];decide)⟩
  ·left;refine⟨O (by omega), .inr ?_⟩;have k:=E m1 e6 e1 e2;have hl:=Qyx m.k (I.g.up hn.1) M.g (by omega) k.2.2 (by omega) (by omega) U (M.r.o.1.trans I.r.o.1.symm) (M.r.o.2.trans I.r.o.2.symm);rw[hl,k.2.2];exact λh=>e5 ⟨sc,h⟩
theorem Zh0 (m:MvK K) (mk:MarksOK K) {n:Int} {c:Cv} (hn:0<=n/\n<=10000) (r:Rm K n c) (h:Sq K c) (he:c.aI=0):
  (0<=At K c/\At K c<K.len)/\∀i:Int,c.next<=i->i<K.p.aD.length->A0 (mkK K i).aP=true->At K c<(mkK K i).at_:=by
 obtain⟨s1,s2,s3,s4⟩:=I1.1 h.1;have J:=r.r.ix.m0;have hx:=r.r.ix.next;have E:endC K c=c.m0:=by
  unfold endC;rw[Tr m.k.plan r.g.mo (by omega)];rfl
 have G:c.m0≠V ((AG K c).1*256):=by
  rcases h.2 with q|q
  ·exact absurd he q
  ·exact q
 have p0:=mk.fw.rg (AE c);have hlen:=mk.fw.len;have b0:=r.g.m0;have hu:AE c=c.m0/256:=by
  show V (c.m0.tdiv 256)=_;rw[bh J,Ae]
 have le:∀{z:Int},0<=z->z<=K.len->c.m0<=256*AU K.t z->At K c<=z/\(At K c=z->c.m0=256*AU K.t z):=fun{z} T N hz=>by
  have O:=Zp4 m.k mk J T N (by rw[E];exact hz);refine⟨O,λe=> ?_⟩;have:=mk.fw.ge T N (show 0<=AE c by omega) (by rw[<-e];exact bz _);omega
 have hL:=r.r.e;rw[E]at hL;have U:=r.r.ix.j;unfold Jm at U;rw[E]at U;have act:∀k,BS k c=true->A0 k=true:=λk hk=>by
  unfold BS at hk;unfold A0;rw[r.r.o.1,r.r.o.2]at hk;simpa using hk
 have lim:=Sw m.k mk r.g hn (λk X=>Qih (c:=c) k X) J hx r.r.ix.j;have l0:0<=K.len:=iy p0.1 p0.2
 have key:∀z:Int,0<=z->z<=K.len->c.m0=256*AU K.t z->(z=K.len\/∃i:Int,c.next<=i/\i<K.p.aD.length/\A0 (mkK K i).aP=true/\(mkK K i).at_=z)->False:=λz T N hz hc=>by
  have hw:=mk.fw.wh z T N;rcases lim with⟨e,e2⟩|⟨j,e,j1,j2,j3,j4⟩
  ·rw[e]at G;rcases hc with rfl|⟨i,i1,M,S,-⟩
   ·refine G ?_;dsimp only;rw[Ae];omega
   ·rw[e2 i i1 M]at S;cases S
  ·rw[e]at G;have I:=mk.at_ j (by omega) j2;have a2:=U j j1 j2 (act _ j3);have a0:(mkK K j).at_<=z:=by
    rcases hc with rfl|⟨i,i1,M,S,rfl⟩
    ·exact I.2
    ·have a1:j<=i:=by
      apply bv;intro q;rw[j4 i i1 (by omega)]at S;cases S
     exact mk.mono j i (by omega) a1 M
   have a3:=mk.fw.wmono I.1 a0 N;have a4:=mk.fw.wh _ I.1 I.2;refine G ?_;dsimp only;rw[Ae];omega
 refine⟨⟨p0.1,?_⟩,λi i1 M X=> ?_⟩
 ·have O:=le l0 (bz _) hL;apply bv;intro q;have e:At K c=K.len:=by omega
  exact key K.len l0 (bz _) (O.2 e) (.inl rfl)
 ·have Y:=mk.at_ i (by omega) M;have O:=le Y.1 Y.2 (U i i1 M X);apply bv;intro q;have e:At K c=(mkK K i).at_:=by omega
  exact key _ Y.1 Y.2 (O.2 e) (.inr ⟨i,i1,M,X,rfl⟩)
end Go.Bm
namespace Go.Bm
open Classical
def NM (l:List Int):List Int:=(List.range (l.length-1)).map λi=>V (l.getD (i+1) 0-l.getD i 0)
def BdP (l:List Int) (n:Int):Prop:=∀v∈l,¬v>n/\ ¬v<V (0-n)
def WiP (a:Axs) (l:List Int):Prop:=BdP (NM l) a.aS/\BdP (NM (NM l)) a.accel/\BdP (NM (NM (NM l))) a.jerk
def Za8 (x:Ax3) (l:List Pt):Prop:=WiP x.a (l.map (·.x))/\WiP x.b (l.map (·.y))/\WiP x.c (l.map (·.z))
abbrev MU (p:Pth) (x:Ax3) (t:Trk) (u:Int):Pt:=CO p x t (u/256)
def Ch (x:Ax3) (l:List Pt):Prop:=∀j,j+3<l.length->Za8 x ((l.drop j).take 4)
def Zpr (m5 m4 m3 m0:Int) (L:List Int):List Int:=[m5,m4,m3,m0]++BN m0 L++[Ck m0 L,Ck m0 L]
def Zzy (p:Pth) (x:Ax3) (t:Trk) (pa pb m0 v z m3 m4 m5 l:Int):Prop:=RJ pa pb m0 v z l/\Ch x ((Zpr m5 m4 m3 m0 (AM pa pb v z).1).map (MU p x t))
def MovS (K:Kf) (c d:Cv) (l:Int):Prop:=∃v:Int,(d.m0=V (c.m0+v)/\d.m1=v/\d.m2=V (v-c.m1)/\d.m3=c.m0/\d.m4=c.m3/\d.m5=c.m4)/\
 (Zzy K.p K.x K.t K.pa K.pb (V (c.m0+v)) v (V (v-c.m1)) c.m0 c.m3 c.m4 l\/v=V (c.m1+AB K.pa K.pb c.m1 c.m2))
structure Wb (c : Cv) : Prop where
 m0:0<=c.m0/\c.m0<=300000000000
 m3:0<=c.m3/\c.m3<=300000000000
 m4:0<=c.m4/\c.m4<=300000000000
theorem MovS.same {c d e:Cv} (h:MovS K c d a) (e0:e.m0=d.m0) (e1:e.m1=d.m1) (e2:e.m2=d.m2) (e3:e.m3=d.m3) (E:e.m4=d.m4) (G:e.m5=d.m5):MovS K c e a:=by
 obtain⟨v,⟨I,a1,a2,a3,a4,a5⟩,b⟩:=h;exact⟨v,⟨e0.trans I,e1.trans a1,e2.trans a2,e3.trans a3,E.trans a4,G.trans a5⟩,b⟩
abbrev MK (K:Kf) (u:Int):Pt:=MU K.p K.x K.t u
structure LimX (a : Axs) : Prop where
 ls:1<=a.aS/\a.aS<=1000
 la:2<=a.accel/\a.accel<=1000
 lj:4<=a.jerk/\a.jerk<=1000
def Z1c (K:Kf) (c:Cv):List Int:=BN c.m0 (stL K c)++[endC K c,endC K c]
structure Hs (K : Kf) (c : Cv) (e0 e1 e2 : Pt) : Prop where
 at_:e0=MK K c.m0
 ch:Ch K.x (e2::e1::e0::(Z1c K c).map (MK K))
def Zq (K:Kf) (c:Cv) (e0 e1:Pt):Prop:=e1=e0/\endC K c=c.m0/\AR c=false
def Lq (K:Kf) (c:Cv) (e0 e1 e2:Pt):Prop:=Hs K c e0 e1 e2/\((e1=MK K c.m3/\e2=MK K c.m4)\/Zq K c e0 e1)
def L1 (K:Kf) (s:Int):Sgm:=(K.p.aF[(Bo K.p.aF (max s 0)).1]?).getD sg0
def bP (K:Kf) (j:Int):Int:=if j<=0 then 0 else(mkK K (j-1)).at_
def Qsn (k:Int):Prop:=k=1\/k=3\/k=6
def Thr (K:Kf) (j:Int):Prop:=(∃g∈K.p.aF,g.aU=j/\g.aX≠0)/\(itK K j).aP≠6
structure ThK (K : Kf) : Prop where
 mono:∀i j:Int,0<=i->i<=j->j<K.aA.length->(mkK K i).at_<=(mkK K j).at_
 seg:∀s:Int,0<=s->s<=K.len->(L1 K s).aX≠0->bP K (L1 K s).aU<=s/\s<=(mkK K (L1 K s).aU).at_/\bP K (L1 K s).aU<K.len/\(s=(mkK K (L1 K s).aU).at_->s=K.len)
 at_:∀j:Int,Thr K j->(L1 K (bP K j)).aX≠0/\(L1 K (bP K j)).aU=j
 pre:∀j:Int,Thr K j->bP K j=0\/∃i:Int,0<=i/\i<j/\(mkK K i).at_=bP K j/\Qsn (mkK K i).aP
theorem ThK.sT (h:ThK K) (t:Trk):ThK (Go.Bm.sT K t):=⟨h.mono,h.seg,h.at_,h.pre⟩
theorem Thr.aU (h:KOK K) {j:Int} (t:Thr K j):0<=j/\j<K.aA.length:=by
 obtain⟨⟨g,E,rfl,-⟩,-⟩:=t;have:=h.aF g E;exact⟨this.1,this.2.1⟩
def Lk (K:Kf) (c:Cv) (j:Int):Prop:=∃i:Int,c.next<=i/\i<j/\(mkK K i).at_=bP K j/\Qsn (mkK K i).aP
structure Ahead (K : Kf) (c : Cv) (s0 j : Int) : Prop where
 s0:s0<=bP K j
 e:endC K c<=256*AU K.t (bP K j)
 l:Lk K c j\/(c.m0=256*AU K.t (bP K j)/\AR c=true)
structure Tm (K : Kf) (c : Cv) (s0 : Int) : Prop where
 f:FwS K.t s0 K.len
 pos:0<=c.y0->bP K c.y0<=At K c
 a:∀j:Int,Thr K j->c.y0<j->Ahead K c s0 j
structure Tb (K : Kf) (c : Cv) : Prop where
 home:0<=c.home/\c.home<=K.len
 pos:0<=c.y0->bP K c.y0<=c.home
 a:∀j:Int,Thr K j->c.y0<j->c.home<=bP K j/\Lk K c j
 two:c.way=2->Az K.t K.t.length=c.home
structure Tq (K : Kf) (c : Cv) : Prop where
 on:c.on=true->AR c=true/\c.m0=256*AU K.t (mkK K c.idx).at_
 en:c.aI≠0->AR c=true
 y:c.y0<K.aA.length/\(0<=c.y0->bP K c.y0<K.len)
 g0:c.g0≠2
 main:c.way=0->∃s0,Tm K c s0
 bB:c.way≠0->Tb K c
structure Tsm (c d : Cv) : Prop where
 m0:d.m0=c.m0
 m1:d.m1=c.m1
 m2:d.m2=c.m2
 m3:d.m3=c.m3
 m4:d.m4=c.m4
 next:d.next=c.next
 y0:d.y0=c.y0
 on:d.on=c.on
 idx:d.idx=c.idx
 aI:d.aI=c.aI
 way:d.way=c.way
 home:d.home=c.home
 g0:c.g0≠2->d.g0≠2
theorem Qws {c d:Cv} (h0:d.m0=c.m0) (E:d.m1=c.m1) (G:d.m2=c.m2) (I:d.m3=c.m3) (J:d.m4=c.m4):AR d=AR c:=by unfold AR;rw[h0,E,G,I,J]
theorem Tsm.still {c d:Cv} (s:Tsm c d):AR d=AR c:=Qws s.m0 s.m1 s.m2 s.m3 s.m4
theorem Lk.same {c d:Cv} (h:Lk K c j) (e:d.next=c.next):Lk K d j:=by
 obtain⟨i,E,G⟩:=h;exact⟨i,by rw[e];exact E,G⟩
theorem Ahead.same {c d:Cv} (a:Ahead K c k j) (h0:d.m0=c.m0) (E:d.m1=c.m1) (G:d.m2=c.m2) (I:AR d=AR c) (J:d.next=c.next):Ahead K d k j:=
 ⟨a.s0,by rw[Th h0 E G];exact a.e,by
  rcases a.l with l|l
  ·exact .inl (l.same J)
  ·exact .inr ⟨by rw[h0];exact l.1,by rw[I];exact l.2⟩⟩
theorem Tm.same {c d:Cv} (t:Tm K c a) (s:Tsm c d):Tm K d a:=
 ⟨t.f,by rw[s.y0,Qd s.m0];exact t.pos,λj E h=>(t.a j E (by rw[<-s.y0];exact h)).same s.m0 s.m1 s.m2 s.still s.next⟩
theorem Tb.same {c d:Cv} (t:Tb K c) (s:Tsm c d):Tb K d:=
 ⟨by rw[s.home];exact t.home,by rw[s.y0,s.home];exact t.pos,λj E h=>by
  have:=t.a j E (by rw[<-s.y0];exact h);exact⟨by rw[s.home];exact this.1,this.2.same s.next⟩,by rw[s.way,s.home];exact t.two⟩
theorem Tq.same {c d:Cv} (t:Tq K c) (s:Tsm c d):Tq K d:=by
 refine⟨?_,?_,?_,s.g0 t.g0,λw=> ?_,λw=> ?_⟩
 ·rw[s.on,s.still,s.m0,s.idx];exact t.on
 ·rw[s.aI,s.still];exact t.en
 ·rw[s.y0];exact t.y
 ·obtain⟨s0,m⟩:=t.main (by rw[<-s.way];exact w);exact⟨s0,m.same s⟩
 ·exact(t.bB (by rw[<-s.way];exact w)).same s
theorem MovS.endQ (h:KOK K) {n:Int} {c d:Cv} (g:Gd K n c) (G:0<=n/\n<=10000) {l:Int} (m:MovS K c d l):EndQ K c d l:=by
 obtain⟨v,⟨E,a1,a2,-,-,-⟩,b⟩:=m;rcases b with b|b
 ·refine .inl ?_;unfold endC stL;rw[E,a1,a2];exact b.1.2
 ·exact .inr (Q12 h g G b E a1 a2)
theorem MovS.up (h:KOK K) {n:Int} {c d:Cv} (g:Gd K n c) (J:0<=n/\n<=10000) {l:Int} (m:MovS K c d l):d.m0=c.m0+d.m1/\0<=d.m1/\Mo K d:=by
 obtain⟨v,⟨G,a1,a2,-,-,-⟩,b⟩:=m;have E:(AM K.pa K.pb v (V (v-c.m1))).2=true:=by
  rcases b with b|b
  ·exact b.1.1
  ·exact(QA h.plan g.mo b).2.2
 have I:=DH h.plan (F1.1 E).1;have:=g.m0;refine⟨by rw[G,a1,Ae],by rw[a1];exact I.2.2.1,?_⟩;unfold Mo;rw[a1,a2];exact E
structure M5 (c d : Cv) : Prop where
 m0:d.m0=c.m0
 m1:d.m1=c.m1
 m2:d.m2=c.m2
 m3:d.m3=c.m3
 m4:d.m4=c.m4
 y0:d.y0=c.y0
 way:d.way=c.way
 home:d.home=c.home
 g0:d.g0=c.g0
theorem M5.still {c d:Cv} (s:M5 c d):AR d=AR c:=Qws s.m0 s.m1 s.m2 s.m3 s.m4
theorem Qyh {x:Ax3}:∀{a s:Int} {d:Pt} {l:List Pce},chain x k Q a s d l->a+l.length<=By a l
 |a,s,d,[],_=>by simp[By]
 |a,s,d,c::l,h=>by
  have:=Qyh h.2.2.2.2;have E:=h.2.2.1;show a+((c::l).length:Nat)<=By (a+c.aR) l;rw[bj];omega
theorem Qz7 {x:Ax3}:∀{a s:Int} {d:Pt} {l:List Pce},chain x k Q a s d l->l≠[]->plL l (By a l)=endQ s l
 |_,_,_,[],_,h=>absurd rfl h
 |a,s,d,c::l,h,_=>by
  obtain⟨G,I,M,N,E⟩:=h;unfold plL;have J:=Qyh E;cases l with
  |nil=>
   show(if a+c.aR<=c.at_+c.aR then c.s+c.bD*(a+c.aR-c.at_)else _)=s+c.bD*c.aR;rw[ab,G,I];have:a+c.aR-a=c.aR:=by omega
   rw[this]
  |cons b l=>
   rw[bj]at J;show(if By (a+c.aR) (b::l)<=c.at_+c.aR then _ else plL (b::l) (By (a+c.aR) (b::l)))=endQ (s+c.bD*c.aR) (b::l);rw[aa];exact Qz7 E (by simp)
theorem Z9o {x:Ax3} (I:Ax3OK x) (J:GoodPath p) (hb:0<=b/\b<=Ay p.aF):Az (AL p x g a b) (AL p x g a b).length=b:=by
 obtain⟨S,G,T,-⟩:=I2 (d:=g) (a:=a) (b:=b) (Q:=λ_ _=>True) I J (λ_ _ _ _ _ _ _ _=>trivial);have M:=Jq g a b I J;have O:AS b (Ay p.aF)=b:=by unfold AS;omega
 rw[O]at G;generalize AL p x g a b=t at*;by_cases E:t.aE=[]
 ·have N:=G.s;rw[E]at N;unfold Az;rw[ab E];exact N
 ·have U:=M.len;have e:clT t t.length=t.length:=by unfold clT AS;omega
  rw[E2 M _ E,e,<-G.len,Qz7 G.ch E];exact G.s
def ZL (K:Kf) (c:Cv):Prop:=c.way=0/\c.on=false/\∃s0 i:Int,FwS K.t s0 K.len/\s0<=(mkK K i).at_/\c.next<=i/\i<K.aA.length/\Qsn (mkK K i).aP/\c.m0=256*AU K.t (mkK K i).at_
def Lz (K:Kf) (c:Cv) (e0 e1 e2:Pt):Prop:=Hs K c e0 e1 e2/\((e1=MK K c.m3/\e2=MK K c.m4)\/(Zq K c e0 e1/\ZL K c))
theorem Lz.of {c:Cv} {e0 e1 e2:Pt} (h:Lq K c e0 e1 e2) (z:AR c=false->endC K c=c.m0->ZL K c):Lz K c e0 e1 e2:=⟨h.1,by
 rcases h.2 with q|q
 ·exact .inl q
 ·exact .inr ⟨q,z q.2.2 q.2.1⟩⟩
def W3 (c:Cv):Prop:=0<=c.m4/\c.m4<=c.m3/\c.m3<=c.m0
theorem W3.wb {n:Int} {c:Cv} (w:W3 c) (g:Ga K n c) (E:0<=n/\n<=10000):Wb c:=by
 have:=g.m0;obtain⟨G,I,J⟩:=w;exact⟨by omega,by omega,by omega⟩
theorem MovS.w3 (h:KOK K) {n:Int} {c d:Cv} (g:Gd K n c) (E:0<=n/\n<=10000) {l:Int} (w:W3 c) (m:MovS K c d l):W3 d:=by
 have u:=m.up h g E;obtain⟨v,⟨G,a1,a2,a3,a4,a5⟩,b⟩:=m;obtain⟨I,J,M⟩:=w;exact⟨by omega,by omega,by omega⟩
structure CyL (K : Kf) (d : Cv) (e0 e1 e2 : Pt) : Prop where
 all:Za8 K.x [e2,e1,e0,MK K d.m0]
 t:Tq K d
 q:Lz K d (MK K d.m0) e0 e1
 w:W3 d
theorem MvK.sT (m:MvK K) {t:Trk} (h:KOK (Go.Bm.sT K t)):MvK (Go.Bm.sT K t):=⟨h,m.closed,m.len,m.aX,m.aP⟩
theorem Zts {x:Ax3} (M:Ax3OK x) (I:GoodPath p) (U:0<=a/\a<=h) (hb:0<=b/\b<=h) (u:Int):Az (AL p x g a b) u<=h:=by
 have V:=Nb I;obtain⟨X,J,N,-⟩:=I2 (d:=g) (a:=a) (b:=b) (Q:=λ_ _=>True) M I (λ_ _ _ _ _ _ _ _=>trivial);have O:=Jq g a b M I;have G:=R5 p a b;have T:AS a (Ay p.aF)<=h:=by unfold AS;omega
 have Y:AS b (Ay p.aF)<=h:=by unfold AS;omega
 by_cases E:(AL p x g a b).aE=[]
 ·unfold Az;rw[ab E,N];exact T
 ·have S:=IY O u;have hb:=Qjl G J.ch E (clT (AL p x g a b) u) S.1 (by rw[J.len];exact S.2);rw[J.s,N]at hb;rw[E2 O u E];generalize plL (AL p x g a b).aE (clT (AL p x g a b) u)=z at*;rcases G with G|G<;>rw[G]at hb<;>omega
theorem Z79 {x:Ax3} (G:chain x a Q 0 t.aQ t.aT t.aE) (I:TQ t):Az t 0=t.aQ:=by
 have M:=I.len;have E:clT t 0=0:=by unfold clT AS;omega
 by_cases c:t.aE=[]
 ·unfold Az;rw[ab c]
 ·rw[E2 I _ c,E];cases J:t.aE with
  |nil=>exact absurd J c
  |cons k l=>
   rw[J]at G;obtain⟨g1,g2,N,-⟩:=G;unfold plL;rw[ab,g1,g2];simp
theorem Qya {x:Ax3} {d:Pt} (G:Ax3OK x) (I:GoodPath p) (M:0<=a/\a<=Ay p.aF):Az (AL p x d a b) 0=a/\(AL p x d a b).aQ=a:=by
 obtain⟨N,J,E,O⟩:=I2 (d:=d) (a:=a) (b:=b) (Q:=λ_ _=>True) G I (λ_ _ _ _ _ _ _ _=>trivial);have cs:AS a (Ay p.aF)=a:=by unfold AS;omega
 rw[cs]at E;exact⟨(Z79 J.ch (Jq d a b G I)).trans E,E⟩
theorem Zgf {x:Ax3} (E:Ax3M x) (G:GoodPath p) (I:okD g) (T:0<=a/\a<=Ay p.aF):
  CO p x (AL p x g a b) 0=⟨(CX p x a).x+AP x.a g.x,(CX p x a).y+AP x.b g.y,(CX p x a).z+AP x.c g.z⟩:=by
 obtain⟨U,M,N,J⟩:=I2 (d:=g) (a:=a) (b:=b) (Q:=λ_ _=>True) E.ok G (λ_ _ _ _ _ _ _ _=>trivial);have O:=Jq g a b E.ok G;have e:=(Zrd (p:=p) E (R5 p a b) M O (by rw[J];exact I) (Zap I)).1;have S:AS a (Ay p.aF)=a:=by unfold AS;omega
 rw[N,J,S]at e;exact e
theorem Z38 (h:KOK K) (M:∀g∈K.p.aF,g.aX=0) (c:Cv) (s:Int):Mu K c s=0:=by
 have T:K.p.aF.length<=1000000:=by have:=h.f.p.count;omega
 have key:Out (λo=>o=(1,I 0::Ab K c)) (Ak I_ (I s::I 0::I 0:: .vC Ag (K.p.aF.map Av)::I ((K.p.aF.map Av).length:Int)::I ((0:Nat):Int)::Ab K c)):=by
  refine Co (λz:Int×Nat=>I s::I z.1::I 0:: .vC Ag (K.p.aF.map Av)::I ((K.p.aF.map Av).length:Int)::I (z.2:Int)::Ab K c) (λz=>z.2<=K.p.aF.length) (λz=>K.p.aF.length-z.2) _ ?_ (0,0) (i6 _);rintro⟨v,k⟩ N;dsimp only at N;refine Out.eqv (Qwd s v 0 (K.p.aF.map Av) ((K.p.aF.map Av).length:Int) k K c) ?_;have U:((K.p.aF.map Av).length:Int)=K.p.aF.length:=by rw[af]
  refine .cond (λG=> ?_) λ_=> .some (.inr ⟨by simp,rfl⟩);have G:=Bi G;have E:k<K.p.aF.length:=by omega
  refine .cond (λ_=> ?_) λe=>(inB (by omega) G e).elim;rw[Ae (x:=(k:Int)+1)];have J:gA (nth [] (K.p.aF.map Av) (k:Int).toNat) 6=0:=by
   rw[ak,Gm [] _ k (by rw[af];exact E),gj];exact M _ (bn E)
  refine .cond (λ_=> .cond (λq=> ?_) λ_=> ?_) λ_=> ?_
  ·rw[J]at q;cases q
  all_goals exact .some (.inl ⟨rfl,(_,k+1),rfl,by dsimp only;omega,by dsimp only;omega⟩)
 obtain⟨o,O,rfl⟩:=key;have S:K9 (I s::Ab K c)=some [I 0]:=by
  show Tt (Ak I_) _=_;refine(Q0p _ s K c).trans ?_;exact eB O rfl
 unfold Mu;rw[S];rfl
structure Bc (K : Kf) (n : Int) (c : Cv) (h : Int) : Prop where
 m:MvK K
 g:Ga K n c
 m0:0<=c.m0
 on:c.on=false
 en:c.aI=0
 t:c.aH=false
 g0:c.g0=0
 o:c.o3=false/\c.o4=false
 h0:0<=h/\h<K.len
 nx:0<=c.next
 ah:∀i:Int,c.next<=i->i<K.p.aD.length->A0 (mkK K i).aP=true->h<(mkK K i).at_
structure Bk (K : Kf) (n : Int) (c : Cv) (h : Int) : Prop where
 b:Bc K n c h
 way:c.way=1\/c.way=2
 home:c.home=h
 leg:∃(d:Pt) (x y:Int),okD d/\K.t=AL K.p K.x d x y/\(0<=x/\x<=h)/\(0<=y/\y<=h)/\(c.way=2->y=h)
structure Mz (K : Kf) (n : Int) (c : Cv) (h : Int) : Prop where
 b:Bc K n c h
 way:c.way=0
 o2:c.o2=true
 z:c.m0=0/\c.m1=0/\c.m2=0/\c.m3=0/\c.m4=0
 leg:∃d:Pt,okD d/\K.t=AL K.p K.x d h K.len
theorem Bc.same {n:Int} {c d:Cv} (b:Bc K n c h) (g:Ga K n d) (s:Rs c d):Bc K n d h:=
 ⟨b.m,g,by rw[s.m0];exact b.m0,s.on.trans b.on,s.aI.trans b.en,s.aH.trans b.t,s.g0.trans b.g0,⟨s.o3.trans b.o.1,s.o4.trans b.o.2⟩,b.h0,by rw[s.next];exact b.nx,by rw[s.next];exact b.ah⟩
theorem Bk.same {n:Int} {c d:Cv} (b:Bk K n c h) (g:Ga K n d) (s:Rs c d):Bk K n d h:=
 ⟨b.b.same g s,by rw[s.way];exact b.way,s.home.trans b.home,by rw[s.way];exact b.leg⟩
theorem Bc.pas {n:Int} {c:Cv} (b:Bc K n c h) {p q:Int} (g:Ga K n {c with aK:=p,outs:=q}):Bc K n {c with aK:=p,outs:=q} h:=
 ⟨b.m,g,b.m0,b.on,b.en,b.t,b.g0,b.o,b.h0,b.nx,b.ah⟩
theorem Zi1 {n:Int} {c:Cv} (g:Ga K n c) (E:0<=n/\n<=10000) (h0:0<=c.m0):AE c=c.m0/256:=by
 have:=g.m0;show V (c.m0.tdiv 256)=_;rw[bh h0,Ae]
theorem Zhs {n:Int} (b:Bk K n d h):B2 K d=(Ff d,DA K d):=by
 have E:d.way≠0:=by rcases b.way with q|q<;>omega
 unfold B2 Bx;rw[aa (show¬d.g0=2 by rw[b.b.g0];decide),aa (show¬d.aI≠0 from λq=>q b.b.en),aa (show¬(d.aH=true/\d.aM=true)from λq=>by rw[b.b.t]at q;cases q.1),aa (show¬d.on=true by rw[b.b.on];decide)];rw[aa (by simp),ab E]
theorem Ql2 {n:Int} (b:Bk K n d h) (u:Int):0<=Az K.t u/\Az K.t u<=h:=by
 obtain⟨e,x,y,-,E,G,I,-⟩:=b.leg;rw[E];exact⟨(Z4g b.b.m.k.f.x.ok b.b.m.k.f.p u).1,Zts b.b.m.k.f.x.ok b.b.m.k.f.p G I u⟩
theorem Zhd {n:Int} (X:0<=n/\n<=9999) (b:Bk K n d h):
  ∃t e,DA K d=(sT K t,e)/\(Ga (sT K t) (n+1) e->Bk (sT K t) (n+1) e h\/Mz (sT K t) (n+1) e h)/\At (sT K t) e<=h:=by
 have E:=b.b.m.k;have up:Ga K (n+1) d:=b.b.g.up X.1;have stay:∀e:Cv,(e=BO K d K.t.length\/e=d)->(Ga K (n+1) e->Bk K (n+1) e h\/Mz K (n+1) e h)/\At K e<=h:=λe he=>by
  refine⟨λge=> .inl ?_,(Ql2 b (AE e)).2⟩;rcases he with rfl|rfl
  ·have U:d.m0<=(BO K d K.t.length).m0:=Qfo E b.b.g.w0 (by omega) K.t.length;exact⟨⟨b.b.m,ge,iy b.b.m0 U,b.b.on,b.b.en,b.b.t,b.b.g0,b.b.o,b.b.h0,b.b.nx,b.b.ah⟩,b.way,b.home,b.leg⟩
  ·exact⟨⟨b.b.m,ge,b.b.m0,b.b.on,b.b.en,b.b.t,b.b.g0,b.b.o,b.b.h0,b.b.nx,b.b.ah⟩,b.way,b.home,b.leg⟩
 have eK:sT K K.t=K:=rfl;unfold DA;by_cases M:d.aM=true/\d.m0=V (K.t.length*256)
 ·rw[ab M];by_cases N:E6 K d=true
  ·rw[ab N];refine⟨_,_,rfl,λge=> ?_,?_⟩
   ·obtain⟨f,x,y,hf,O,hx,Y,h2⟩:=b.leg;have S: ¬GV K.t (AE d):=by
     have hb:=N;unfold E6 at hb;rw[al,iw]at hb;exact j9 hb.2
    have G:=S;rw[O]at G;have m2:=(Qs0 E.f.x E.f.p hf G).2;rw[<-O]at m2;have J:=Ql2 b (AE d);have common:Bc (sT K (E9 K d (toC K d))) (n+1) (tdC d) h:=⟨b.b.m.sT (E.sT (Vu E d _)),ge,bz _,b.b.on,b.b.en,b.b.t,b.b.g0,b.b.o,b.b.h0,b.b.nx,b.b.ah⟩;rcases b.way with w|w
    ·left;refine⟨common, .inr ?_,b.home,⟨_,At K d,h,m2,?_,J,⟨b.b.h0.1,bz _⟩,λ_=>rfl⟩⟩
     ·show(if d.way=1 then(2:Int)else 0)=2;rw[ab w]
     ·show AL K.p K.x (Fl K.t (AE d)) (At K d) (toC K d)=_;have e:toC K d=h:=by
       unfold toC;rw[aa];exact b.home
      rw[e];rfl
    ·right;have I:At K d=h:=by
      have hl:=E.f.t.q.len;have hm:=M.2;rw[Ae]at hm;have U:=Zi1 b.b.g (by omega) b.b.m0;have e:AE d=K.t.length:=by omega
      show Az K.t (AE d)=h;rw[e,O];have T:y<=Ay K.p.aF:=by
       rw[<-b.b.m.len];have:=b.b.h0;omega
      rw[Z9o E.f.x.ok E.f.p ⟨Y.1,T⟩];exact h2 w
     refine⟨common,?_,?_,⟨rfl,rfl,rfl,rfl,rfl⟩,⟨_,m2,?_⟩⟩
     ·show(if d.way=1 then(2:Int)else 0)=0;rw[aa]
     ·show(if d.way=1 then d.o2 else true)=true;rw[aa]
     ·show AL K.p K.x (Fl K.t (AE d)) (At K d) (toC K d)=_;have e:toC K d=K.len:=by
       unfold toC;rw[ab w]
      rw[e,I];rfl
   ·have J:=Ql2 b (AE d)
    have e0:At (sT K (E9 K d (toC K d))) (tdC d)=At K d:=
     (Qya (d := Fl K.t (AE d)) (b := toC K d) E.f.x.ok E.f.p (show 0 <= At K d /\ At K d <= _ by
      have h1:0<=At K d/\At K d<=h:=J;have:=b.b.h0;rw[<-b.b.m.len];omega)).1
    rw[e0];exact J.2
  ·rw[aa N];have:=stay d (.inr rfl);exact⟨K.t,d,rfl,this.1,this.2⟩
 ·rw[aa M];have:=stay (BO K d K.t.length) (.inl rfl);exact⟨K.t,_,rfl,this.1,this.2⟩
end Go.Bm
