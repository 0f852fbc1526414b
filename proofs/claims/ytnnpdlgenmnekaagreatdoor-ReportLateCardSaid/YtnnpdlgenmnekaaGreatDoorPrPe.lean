/- laid together -/
import Derived.Test.YtnnpdlgenmnekaaGreatDoorPrLa
import Derived.Test.YtnnpdlgenmnekaaGreatDoorMx3
import Derived.Test.YtnnpdlgenmnekaaGreatDoorPrPf
set_option linter.unusedVariables false
set_option linter.unusedSimpArgs false
set_option maxRecDepth 100000
variable {K:Go.Bm.Kf} {i A J:Nat} {a k b v u r d j:Int} {p:Go.Bm.Pth} {t:Go.Bm.Trk} {M Z W S P O H G:Go.Bm.Fn} {l T:Go.Bm.Rw} {q z e:Go.Bm.Pt} {N:Go.Bm.Lp} {o:List Go.Bm.AC}
noncomputable section
open Go.IntKind (wrap)
namespace Go.Bm
theorem Zek {a k c:Int} (D:2<=k/\k<=65536) {d:Int} (M:d<=1048576):HC [I a,I k,I c,I d]=some [I (BK k d)]:=by
 show Qlm _=_;rw[Q2m];by_cases h:d<=0
 ·rw[BG (ai h),KO h]
 ·rw[Bj (aj h),Bj (aj (by omega)),Bj (aj (by omega))];obtain⟨N,O,S,T,U,G,V⟩:=Q6i D (show 0<d/\d<=1048576 by omega);rw[Ae (x:=d-1),bq (show 0<=d-1 by omega)];unfold BK;rw[ab h];have X:0<=k*((d-1)/k*((d-1)/k+1)/2):=fq (by omega) (by omega);have L:k*((d-1)/k*((d-1)/k+1)/2)<=65536*274878431232:=fd D.2 (by omega) (by omega) (by omega);generalize Y:(d-1)/k=q at*;rw[Ae (x:=q),Ae (x:=q*d),Ae (x:=q+1),Ae (x:=q*(q+1)),bq G];generalize q*(q+1)=y at*;generalize q*d=z at*;rw[Ae (x:=y/2),Ae (x:=k*(y/2)),Ae]
theorem Zk0 {a k c:Int} (N:Plan3 a k c) (O:∀{d:Int},d<=1048576->M [I a,I k,I c,I d]=some [I (BK k d)]) (v x:Int):Tt M [I a,I k,I c,I v,I x]=some [B (decide (Cx a k v x))]:=by
 have T:=N.a;have S:=N.b
 rw[Qx2,Ae (x:=0-a)];refine eC (λh=> ?_) λh=> ?_
 ·have h:x<0-a:=Bl h;rw[aj (λq=>by have:=q.1;omega)]
 have h: ¬x<0-a:=Bs h;refine eC (λG=> ?_) λG=> ?_
 ·have G:x>a:=Bl G;rw[aj (λq=>by have:=q.2.1;omega)]
 have G: ¬x>a:=Bs G;have U:=Qyu (b:= -x) S (by omega);have X:=Qyu (b:=x) S (by omega);have Y:=Lz (k:=k) (b:=x) (by omega);have fin: ¬(v=0/\x>k)->((M [I a,I k,I c,I (V (0-x))]).bind λo=>bif decide (v>=gA o 0)then(M [I a,I k,I c,I x]).bind λo2=>some [B (decide (v<=V (16777216-gA o2 0)))]else some [B false])=some [B (decide (Cx a k v x))]:=λhz=>by
  rw[Ae (x:=0-x),show(0:Int)-x= -x by omega];refine eB (O (by omega)) (eC (λq=> ?_) λq=> ?_)
  ·have q:v>=BK k (-x):=Bl q;refine eB (O (by omega)) ?_;show some [B (decide (v<=V (16777216-BK k x)))]=_;rw[Ae];have e:(v<=16777216-BK k x)↔Cx a k v x:=⟨λe=>⟨by omega,by omega,q,e,λz=>by omega⟩,λe=>e.2.2.2.1⟩;rw[decide_eq_decide.2 e]
  ·have q: ¬v>=BK k (-x):=Bs q;rw[aj (λw=>q w.2.2.1)]
 refine eC (λD=>eC (λL=> ?_) λL=> ?_) λD=> ?_
 ·have D:v=0:=eq_of_beq D;have L:x>k:=Bl L;rw[aj (λq=>by have:=q.2.2.2.2 D;omega)]
 ·exact fin λw=>Bs L w.2
 ·exact fin λw=>by rw[beT w.1]at D;cases D
theorem Zyx {a k c:Int} (D:Plan3 a k c) (v x:Int):Hw [I a,I k,I c,I v,I x]=some [B (decide (Cx a k v x))]:=Zk0 D (λG=>Zek D.b G) v x
theorem Zha:∀(n:Nat) {low aY:Int},¬low<aY->bs k v n low aY=low
 |0,_,_,_=>rfl
 |n+1,_,_,h=>by unfold bs;rw[ab h]
theorem Z7n {M MV:Fn} {a k c v:Int} (N:∀{d:Int},d<=1048576->M [I a,I k,I c,I d]=some [I (BK k d)]) (S: -1099511627776<=v/\v<=1099511627776):∀(n:Nat) (low aY:Int),aY-low<2^n-> -262144<=low->aY<=262144->low<=262144-> -262145<=aY->
  Am (Mx M MV) [I v,I low,I aY,I a,I k,I c]=some (1,[I (bs k v n low aY)]):=by
 have D:∀(n:Nat) {low aY:Int},¬low<aY->Am (Mx M MV) [I v,I low,I aY,I a,I k,I c]=some (1,[I (bs k v n low aY)]):=λn low aY h=>by
  rw[Zha n h];refine AQ ?_ (by simp);rw[X2,Bj (aj h)]
 intro n;induction n with
 |zero=>
  intro low aY h _ _ _ _;have h:aY-low<1:=by simpa using h
  exact D 0 (by omega)
 |succ n L=>
  intro low aY h T U X Y;have O:(2:Int)^(n+1)=2*2^n:=by rw[Int.pow_succ];omega
  rw[O]at h;by_cases cc:low<aY
  ·have e1:V (aY-V ((V (aY-low)).tdiv 2))=aY-(aY-low)/2:=by
    rw[Ae (x:=aY-low),bq (show 0<=aY-low by omega),Ae (x:=(aY-low)/2),Ae]
   have e2:V (v-(aY-(aY-low)/2))=v-(aY-(aY-low)/2):=Ae;have e3:V (aY-(aY-low)/2-1)=aY-(aY-low)/2-1:=Ae;have G:=X2 M MV v low aY a k c;rw[BG (ai cc),e1,e2,e3,N (by omega)]at G;unfold bs;rw[aa cc];by_cases q:BK k (aY-(aY-low)/2)<=v-(aY-(aY-low)/2)
   ·rw[aa q];rw[A5 (G.trans (eB rfl (eT (ai (show v-(aY-(aY-low)/2)>=BK k (aY-(aY-low)/2)from q)) rfl)))];exact L _ _ (by omega) (by omega) (by omega) (by omega) (by omega)
   ·rw[ab q];rw[A5 (G.trans (eB rfl (eF (aj (show¬v-(aY-(aY-low)/2)>=BK k (aY-(aY-low)/2)from q)) rfl)))];exact L _ _ (by omega) (by omega) (by omega) (by omega) (by omega)
  ·exact D (n+1) cc
theorem Zh4 {a k c v x:Int} (D:Plan3 a k c) (G:Cx a k v x) (L:∀{d:Int},d<=1048576->M [I a,I k,I c,I d]=some [I (BK k d)]) (hV:Z [I a,I k,I c]=some [B true]):
  Tq M Z (Am (Mx M Z)) [I a,I k,I c,I v,I x]=some [I (AJ a k v x)]:=by
 have N:=JB D G;have O:=D.a;have S:=D.b
 rw[Zb1];have m1:mx x v=max x v:=by unfold mx;split<;>omega
 have m2:mn x v=min x v:=by unfold mn;split<;>omega
 rw[m1,m2];refine eB hV (eF rfl (eF (aj (by omega)) (eF (aj (by omega)) ?_)));have m3:mn (V (k-x)) a=min (k-x) a:=by rw[Ae (x:=k-x)];unfold mn;split<;>omega
 rw[m3,Ae (x:=0-x),Ae (x:=0-x-k),show(0:Int)-x-k= -x-k by omega];refine eB (Z7n (MV:=Z) L (by omega) 20 (-x-k) (min (k-x) a) (by simp;omega) (by omega) (by omega) (by omega) (by omega)) (eT rfl ?_);have hb:=Qn6 k v 20 (-x-k) (min (k-x) a);show some [I (V (0-bs k v 20 (-x-k) (min (k-x) a)))]=_;unfold AJ;rw[Ae,Int.zero_sub]
theorem Q08 {a k c:Int} (D:Plan3 a k c):EX [I a,I k,I c]=some [B true]:=by
 rw[TF,ai];exact⟨D.a.1,D.a.2,D.b.1,D.b.2,D.c.1,D.c.2⟩
theorem Qt8 {a k c v x:Int} (D:Plan3 a k c) (G:Cx a k v x):E8 [I a,I k,I c,I v,I x]=some [I (AJ a k v x)]:=
 Zh4 D G (λL=>Zek D.b L) (Q08 D)
def Bi (a k v x:Int):List Int×Bool:=if Cx a k v x/\(By a k 4096 v x).2=true then((By a k 4096 v x).1,true)else([],false)
theorem Zly {D MR MV:Fn} {a k c:Int} (L:Plan3 a k c) (hB:∀{v x:Int},Cx a k v x->D [I a,I k,I c,I v,I x]=some [I (AJ a k v x)]):∀(n:Nat) (pre:List Int) (v x:Int),pre.length+n=4096->Cx a k v x->
  Am (Ki D MR MV) [.vC Aa (pre.map As),I v,I x,I a,I k,I c]=if(By a k n v x).2=true then some (2,[.vC Aa ((pre++(By a k n v x).1).map As)])else some (1,[B false]):=by
 have fin:∀(n:Nat) (pre:List Int) (v x:Int),v<=0->Am (Ki D MR MV) [.vC Aa (pre.map As),I v,I x,I a,I k,I c]=if(By a k n v x).2=true then some (2,[.vC Aa ((pre++(By a k n v x).1).map As)])else some (1,[B false]):=λn pre v x h=>by
  have e:By a k n v x=([],true):=by
   cases n with
   |zero=>show([],decide (v<=0))=([],true);rw[ai h]
   |succ n=>unfold By;rw[aa h]
  rw[e,aa rfl];refine AQ ?_ (by simp);rw[TT,Bj (aj (by omega)),gw]
 intro n;induction n with
 |zero=>
  intro pre v x T G;by_cases h:v<=0
  ·exact fin 0 pre v x h
  ·have e:By a k 0 v x=([],false):=by show([],decide (v<=0))=([],false);rw[aj h]
   rw[e,ab (by simp)];refine AQ ?_ (by simp);rw[TT,BG (ai (by omega)),BG (beT (by rw[ag];omega))]
 |succ n U=>
  intro pre v x T G;by_cases h:v<=0
  ·exact fin (n+1) pre v x h
  ·have N:=closed L G;have X:=JB L G;have O:=JB L N.1;have S:=TT D MR MV (pre.map As) v x a k c;rw[BG (ai (by omega)),Bj (beF (by rw[ag];omega)),hB G]at S;have Y:V (v+AJ a k v x)=v+AJ a k v x:=Ae;have M:Ki D MR MV [.vC Aa (pre.map As),I v,I x,I a,I k,I c]=some (0,[.vC Aa ((pre++[v+AJ a k v x]).map As),I (v+AJ a k v x),I (AJ a k v x),I a,I k,I c]):=by
    refine S.trans (eB rfl ?_);show cond ((List.length (pre.map As++[[I (V (v+AJ a k v x))]])*8).ble 140737488355328) (some (0,[AC.vC Aa (pre.map As++[[I (V (v+AJ a k v x))]]),I (V (v+AJ a k v x)),I (AJ a k v x),I a,I k,I c])) none=_;rw[Y,B_ (by simp;omega),bz];rfl
   rw[A5 M,U (pre++[v+AJ a k v x]) _ _ (by simp;omega) N.1];have e:By a k (n+1) v x=((v+AJ a k v x)::(By a k n (v+AJ a k v x) (AJ a k v x)).1,(By a k n (v+AJ a k v x) (AJ a k v x)).2):=by
    show(if v<=0 then _ else _)=_;rw[ab h]
   rw[e];simp only[f7,ba,ax]
theorem Z5y {a k c:Int} (G:Plan3 a k c) (hB:∀{v x:Int},Cx a k v x->M [I a,I k,I c,I v,I x]=some [I (AJ a k v x)]) (hV:W [I a,I k,I c]=some [B true])
  (L:∀v x,Z [I a,I k,I c,I v,I x]=some [B (decide (Cx a k v x))]) (v x:Int):
  T8 M Z W (Am (Ki M Z W)) [I a,I k,I c,I v,I x]=some [.vC Aa ((Bi a k v x).1.map As),B (Bi a k v x).2]:=by
 rw[Qt3];refine eB hV (eF rfl (eB (L v x) ?_));unfold Bi;refine eC (λh=> ?_) λh=> ?_
 ·have h: ¬Cx a k v x:=by
   intro q;have h:(!decide (Cx a k v x))=true:=h;rw[ai q]at h;cases h
  rw[ab (λw=>h w.1)];rfl
 ·have h:Cx a k v x:=by
   have h:(!decide (Cx a k v x))=false:=h;by_cases q:Cx a k v x
   ·exact q
   ·rw[aj q]at h;cases h
  have D:=Zly (MR:=Z) (MV:=W) G hB 4096 [] v x (by simp) h;by_cases q:(By a k 4096 v x).2=true
  ·rw[aa q]at D;rw[aa ⟨h,q⟩];exact eB D rfl
  ·rw[ab q]at D;rw[ab (λw=>q w.2)];exact eB D rfl
theorem Yci {a k c:Int} (D:Plan3 a k c) (v x:Int):LP [I a,I k,I c,I v,I x]=some [.vC Aa ((Bi a k v x).1.map As),B (Bi a k v x).2]:=
 Z5y D (λG=>Qt8 D G) (Q08 D) (Zyx D) v x
theorem Q3g {a k c:Int} (D:Plan3 a k c):∀(n:Nat) (v x:Int),Cx a k v x->(By a k n v x).1.length<=n/\∀w∈(By a k n v x).1,0<=w/\w<=16777216
 |0,v,x,_=>⟨by simp[By],λw h=>by simp[By]at h⟩
 |n+1,v,x,h=>by
  have I:=closed D h;have M:=JB D I.1;have L:=Q3g D n _ _ I.1;unfold By;by_cases q:v<=0
  ·rw[aa q];exact⟨by simp,λw h=>by cases h⟩
  ·rw[ab q];refine⟨by simp only[bf];omega,λw G=> ?_⟩;rcases ay.1 G with rfl|G
   ·omega
   ·exact L.2 w G
theorem Zjq {a k c:Int} (D:Plan3 a k c) (v x:Int):(Bi a k v x).1.length<=4096/\∀w∈(Bi a k v x).1,0<=w/\w<=16777216:=by
 unfold Bi;split
 ·rename_i h;exact Q3g D 4096 v x h.1
 ·exact⟨by simp,λw h=>by cases h⟩
def Jk (j:Int) (l:Rw):Prop:=∀r∈l,-j<=gA r 0/\gA r 0<=j
theorem Jk.snoc (h:Jk j l) (G: -j<=gA o 0/\gA o 0<=j):Jk j (l++[o]):=λx D=>by
 rcases bj.1 D with D|D
 ·exact h x D
 ·rw[dg]at D;subst D;exact G
theorem Zuq (G:0<=j/\j<=65536):Out (λo=>o.1=1/\(wA o.2 0).length<=65536/\Jk j (wA o.2 0)) (Am Q_ [.vC Aa [],I j]):=by
 refine CJ (λs:Rw×Int=>[.vC Aa s.1,I s.2]) (λs=>0<=s.2/\s.2<=j/\s.1.length+s.2<=65536/\Jk j s.1) (λs=>s.2.toNat) _ ?_ ([],j) ⟨G.1,iq _,by simp;omega,λr h=>by cases h⟩;rintro⟨v,k⟩ ⟨g1,g0,g2,D⟩;dsimp only at g0 g1 g2 D;rw[Zkm,bq g1,Ae (x:=k/2)];refine .cond (λc=> ?_) (λc=> ?_)
 ·have c:=Bl c;refine .cond (λ_=> ?_) λc=>by rw[B_ (by simp;omega)]at c;cases c
  exact .some (.inl ⟨rfl,(v++[[I k]],k/2),rfl,⟨by dsimp only;omega,by dsimp only;omega,by simp;omega,D.snoc (by show-j<=k/\k<=j;omega)⟩,by dsimp only;omega⟩)
 ·exact .some (.inr ⟨by simp,rfl,by show v.length<=65536;omega,D⟩)
theorem Zes {up out:Rw} (O:0<=j/\j<=65536) (S:up.length<=65536) (G:Jk j up) (T:out.length=up.length+1) (L:Jk j out):Out (λo=>o.1=1/\(wA o.2 0).length<=140000/\Jk j (wA o.2 0)) (Am (Sc N) [.vC Aa up, .vC Aa out,I ((up.length:Int)-1)]):=by
 refine CJ (λs:Rw×Int=>[.vC Aa up, .vC Aa s.1,I s.2]) (λs=> -1<=s.2/\s.2<up.length/\s.1.length+s.2<=2*up.length/\Jk j s.1) (λs=>(s.2+1).toNat) _ ?_ (out,(up.length:Int)-1) ⟨by simp only;omega,by simp only;omega,by simp only;omega,L⟩;rintro⟨v,k⟩ ⟨g1,g2,M,D⟩;dsimp only at g1 g2 M D;rw[Z3y,Ae (x:=k-1)];refine .cond (λc=> ?_) (λc=> ?_)
 ·have c:=Bl c;refine .cond (λ_=> ?_) λc=>by simp at c;omega
  refine .cond (λ_=> ?_) λc=>by rw[B_ (by simp;omega)]at c;cases c
  have U: -j<=gA (nth [] up k.toNat) 0/\gA (nth [] up k.toNat) 0<=j:=by
   rw[Gb [] up k.toNat (by omega)];exact G _ (cd _)
  exact .some (.inl ⟨rfl,(_,k-1),rfl,⟨by dsimp only;omega,by dsimp only;omega,by simp;omega,D.snoc (by show-j<=V (0-gA (nth [] up k.toNat) 0)/\V (0-gA (nth [] up k.toNat) 0)<=j;rw[Ae];omega)⟩,by dsimp only;omega⟩)
 ·have c:=Bs c;exact .some (.inr ⟨by simp,rfl,by show v.length<=140000;omega,D⟩)
theorem Zj0 (D:0<=j/\j<=65536):Out (λo=>(wA o 0).length<=140000/\Jk j (wA o 0)) (Pw [I j]):=by
 show Out _ (ZE (Am Q_) (Am (Sc (Am Q_))) [I j]);rw[Zs5];refine .bind (Zuq D) λo g=> ?_;rw[g.1];obtain⟨-,g2,G⟩:=g;generalize wA o.2 0=up at*;refine .cond (λ_=> ?_) λc=>by simp at c
 refine .cond (λ_=> ?_) λc=>by rw[B_ (by simp;omega)]at c;cases c
 refine .cond (λ_=> ?_) λc=>by rw[B_ (by simp;omega)]at c;cases c
 rw[Ae (x:=(up.length:Int)-1)];refine .bind (Zes D g2 G (by simp) (by rw[ax];exact G.snoc (by show-j<=0/\0<=j;omega))) λo g=> ?_;rw[g.1];exact .some g.2
def Qci (m0 m1 m3 m4:Int) (Q R:Int->Prop) (o:List AC):Prop:=∃v:Int,o=Ec m0 m1 m3 m4 v/\(Q v\/∃r:Int,v=V (m1+r)/\R r)
theorem Znq {x:Ax3} {a b c o0 o1:Int} {D b1 b2:Bool} (hb:0<=b/\b<=65536) {m0 m1 m2 m3 m4 m5 l:Int} {Q R F:Int->Prop}
  (hB:Out (λo=>∃r:Int,o=[I r]/\R r) (M [I a,I b,I c,I m1,I m2]))
  (hS:∀v:Int,0<=v->F v->(∃k:Int,-b<=k/\k<=b/\v=V (m1+V (m2+k)))->Out (λo=>bA o 0=true->Q v) (Z (pxt p x t [I a,I b,I c,I (V (m0+v)),I v,I (V (v-m1)),I m0,I m3,I m4,I l])))
  (hF:∀v:Int,Out (λo=>bA o 0=true->F v) (W (EQ p t [I a,I b,I c,I o0,I o1,B D,B b1,B b2,I (V (m0+v)),I v,I (V (v-m1)),I m0,I m3,I m4])))
  (L:∀m0 m1 m2 m3 m4 m5 v,S [I m0,I m1,I m2,I m3,I m4,I m5,I v]=some (Ec m0 m1 m3 m4 v))
  (hR:∀a b c v x,(P [I a,I b,I c,I v,I x]).isSome=true)
  (hC:∀j,0<=j/\j<=65536->Out (λo=>(wA o 0).length<=140000/\Jk j (wA o 0)) (O [I j])):
  Out (Qci m0 m1 m3 m4 Q R) (Qmx M Z W S P O (Am (Qn5 M Z W S P O)) (pxt p x t [I a,I b,I c,I o0,I o1,B D,B b1,B b2,I m0,I m1,I m2,I m3,I m4,I m5,I l])):=by
 rw[Z7l];refine .bind (hC b hb) λq N=> ?_;obtain⟨N,hJ⟩:=N;generalize wA q 0=ch at*;refine .bind (p:=λo=>o.1=1/\((∃v:Int,∃g0 g1 g2 T U X:Int,o.2=B true::I a::I b::I c::I m0::I m1::I m2::I m3::I m4::I m5::I g0::I g1::I g2::I T::I U::I X::Ec m0 m1 m3 m4 v/\Q v)\/∃l:List AC,o.2=B false::I a::I b::I c::I m0::I m1::I m2::I m3::I m4::I m5::l)) ?_ λo g=>by
  obtain⟨g,g2⟩:=g;rw[g];refine .cond (λ_=> ?_) λc=>by simp at c
  rcases g2 with⟨v,g0,g1,g2,T,U,X,e,G⟩|⟨l',e⟩
  ·rw[e];refine .cond (λ_=> .some ⟨v,rfl, .inl G⟩) λc=>by simp[gA,wA,bA,jA,nth,Df]at c
  ·rw[e];refine .cond (λc=>by simp[gA,wA,bA,jA,nth,Df]at c) λ_=> ?_;simp only[gA,wA,bA,jA,nth,Af];refine .bind hB λo g=> ?_;obtain⟨r,rfl,hr⟩:=g;simp only[gA,wA,bA,jA,nth,Af];rw[L];exact .some ⟨_,rfl, .inr ⟨r,rfl,hr⟩⟩
 refine CJ (λs:Nat×(Int×Int×Int×Int×Int×Int)=>I l::B false:: .vC Aa ch::I (ch.length:Int)::I (s.1:Int)::pxt p x t [I a,I b,I c,I o0,I o1,B D,B b1,B b2,I m0,I m1,I m2,I m3,I m4,I m5,I 0,I 0,I 0,I 0,I 0,I 0,I s.2.1,I s.2.2.1,I s.2.2.2.1,I s.2.2.2.2.1,I s.2.2.2.2.2.1,I s.2.2.2.2.2.2])
  (λs=>s.1<=ch.length) (λs=>ch.length-s.1) _ ?_ (0,(0,0,0,0,0,0)) (by simp)
 rintro⟨i,Y,f1,f2,f3,f4,f5⟩ g;dsimp only at g;rw[Zvo];rw[Ae (x:=(i:Int)+1)];refine .cond (λc=> ?_) (λc=> ?_)
 ·have c:=Bl c;refine .cond (λ_=> ?_) λc=>by simp at c;omega
  refine .cond (λ_=> ?_) λpos=> ?_
  ·exact .some (.inl ⟨rfl,(i+1,Y,f1,f2,f3,f4,f5),rfl,by dsimp only;omega,by dsimp only;omega⟩)
  ·have pos:=Bs pos;refine .ibind (hR _ _ _ _ _) λ_ _=> .cond (λ_=> ?_) λ_=> ?_
   ·exact .some (.inl ⟨rfl,(i+1,Y,f1,f2,f3,f4,f5),rfl,by dsimp only;omega,by dsimp only;omega⟩)
   ·have hk:∃k:Int,-b<=k/\k<=b/\V (m1+V (m2+gA (nth [] ch (i:Int).toNat) 0))=V (m1+V (m2+k)):=by
     have:=hJ _ (cd (show i<ch.length by omega));rw[al,Gb [] ch i (by omega)];exact⟨_,this.1,this.2,rfl⟩
    generalize V (m1+V (m2+gA (nth [] ch (i:Int).toNat) 0))=v at*;rw[L];simp only[af,gA,wA,bA,jA,nth,Af];refine .bind (hF v) λof fit=> .cond (λcf=> ?_) λ_=> ?_
    ·refine .bind (hS v (by omega) (fit cf) hk) λo G=> .cond (λc=> ?_) λ_=> ?_
     ·exact .some (.inr ⟨by simp,rfl, .inl ⟨v,0,0,0,0,0,0,rfl,G c⟩⟩)
     ·exact .some (.inl ⟨rfl,(i+1,_,_,_,_,_,_),rfl,by dsimp only;omega,by dsimp only;omega⟩)
    ·exact .some (.inl ⟨rfl,(i+1,_,_,_,_,_,_),rfl,by dsimp only;omega,by dsimp only;omega⟩)
 ·exact .some (.inr ⟨by simp,rfl, .inr ⟨_,rfl⟩⟩)
theorem Z96 {x:Ax3} {Q:Prop} (L:∀{way:Rw},way.length<=100000->(M (pxt p x t [.vC Aa way])).isSome=true)
  {a b c m0 m1 m2 m3 m4 m5 l:Int} (N:Out (λo=>(wA o 0).length<=4096/\(bA o 1=true->Q)) (Z [I a,I b,I c,I m0,I m1,I m2,I m3,I m4,I m5])):
  Out (λo=>bA o 0=true->Q) (Qaw M Z (pxt p x t [I a,I b,I c,I m0,I m1,I m2,I m3,I m4,I m5,I l])):=by
 rw[Zg5];refine .bind N λo h=> ?_;obtain⟨S,D⟩:=h;generalize wA o 0=G at*;refine .cond (λ_=> .some λh=>by simp[gA,wA,bA,jA,nth,Df]at h) λO=> ?_;have D:=D (by simpa using O);refine .cond (λc=> ?_) λc=> ?_
 ·have c:=Bl c;rw[Ae (x:=(G.length:Int)-1)];refine .cond (λ_=> ?_) λc=>by simp at c;omega
  generalize Af (nth .vD (nth [] G ((G.length:Int)-1).toNat) 0)=e;refine .cond (λ_=> .some λ_=>D) λ_=> ?_;refine .cond (λ_=> ?_) λc=>by rw[B_ (by simp;omega)]at c;cases c
  refine .cond (λ_=> ?_) λc=>by rw[B_ (by simp;omega)]at c;cases c
  exact .ibind (L (by simp;omega)) λ_ _=> .some λ_=>D
 ·refine .cond (λ_=> .some λ_=>D) λ_=> ?_;refine .cond (λ_=> ?_) λc=>by rw[B_ (by simp;omega)]at c;cases c
  refine .cond (λ_=> ?_) λc=>by rw[B_ (by simp;omega)]at c;cases c
  exact .ibind (L (by simp;omega)) λ_ _=> .some λ_=>D
theorem Zvf {a k c:Int} (D:Plan3 a k c) (u v x G L N:Int):Out (λo=>(wA o 0).length<=4096/\(bA o 1=true->(Bi a k v x).2=true)) (FM [I a,I k,I c,I u,I v,I x,I G,I L,I N]):=by
 have key:∀{M:Fn},M [I a,I k,I c,I v,I x]=some [.vC Aa ((Bi a k v x).1.map As),B (Bi a k v x).2]->Out (λo=>(wA o 0).length<=4096/\(bA o 1=true->(Bi a k v x).2=true)) (Vn M (Am (QN M)) [I a,I k,I c,I u,I v,I x,I G,I L,I N]):=by
  intro M O;have hb:=Zjq D v x;rw[Q2j];refine .bind (p:=λo=>o=_) ⟨_,O,rfl⟩ λo e=> ?_;subst e;refine .cond (λ_=> .some ⟨by simp[wA,nth,Bp],λh=>by simp[bA,nth,Df]at h⟩) λh=> ?_;have S:(Bi a k v x).2=true:=by simpa [bA,nth,Df]using h
  have T:(wA [AC.vC Aa ((Bi a k v x).1.map As),B (Bi a k v x).2] 0).length<=4096:=by
   show((Bi a k v x).1.map As).length<=4096;rw[ag];exact hb.1
  generalize wA [AC.vC Aa ((Bi a k v x).1.map As),B (Bi a k v x).2] 0=U at*;refine .cond (λ_=> ?_) λc=>by simp at c
  refine .cond (λ_=> ?_) λc=>by simp at c;omega
  refine .bind (Q56 (by simp) T) λo g=> ?_;rw[g.1];exact .some ⟨by show(wA o.2 0).length<=4096;omega,λ_=>S⟩
 exact key (Yci D v x)
theorem Qt6 {x:Ax3} (h:Fix p x t) {a b c:Int} (D:Plan3 a b c) (m0 m1 m2 m3 m4 m5 l:Int):Out (λo=>bA o 0=true->(Bi a b m1 m2).2=true) (Ju (pxt p x t [I a,I b,I c,I m0,I m1,I m2,I m3,I m4,I m5,I l])):=
 Z96 (Znh h) (Zvf D _ _ _ _ _ _)
theorem K6 {a k v x:Int}:(Bi a k v x).2=true↔Cx a k v x/\(By a k 4096 v x).2=true:=by
 unfold Bi;by_cases h:Cx a k v x/\(By a k 4096 v x).2=true
 ·rw[aa h];exact⟨λ_=>h,λ_=>rfl⟩
 ·rw[ab h];exact⟨λq=>(by cases q),λq=>absurd q h⟩
theorem Zwi {a k c v x:Int} (D:Plan3 a k c) (h:(Bi a k v x).2=true):(Bi a k (v+AJ a k v x) (AJ a k v x)).2=true/\
  (Bi a k v x).1=if v<=0 then []else(v+AJ a k v x)::(Bi a k (v+AJ a k v x) (AJ a k v x)).1:=by
 obtain⟨G,I⟩:=K6.1 h;have O:=closed D G;have U:=JB D O.1;by_cases L:v<=0
 ·have S:v=0:=by have:=JB D G;omega
  have hb:AJ a k v x=0:=by
   obtain⟨B,hB⟩:∃B,B=bs k v 20 (-x-k) (min (k-x) a):=⟨_,rfl⟩;obtain⟨V,X,Y,q4,M,q6⟩:=Qz4 D G hB;have:=Lz (k:=k) (b:=B) (by have:=D.b;omega);have hx:=G.2.2.2.2 S;have ha:=D.a;have e:AJ a k v x= -B:=by unfold AJ;rw[hB]
   rw[e];rcases M with M|M
   ·omega
   ·by_cases N:B+1<=0
    ·rw[KO N]at M;omega
    ·omega
  have e0:By a k 4096 0 0=([],true):=by unfold By;rw[aa]
  refine⟨?_,?_⟩
  ·rw[hb,S];refine K6.2 ⟨?_,by rw[show(0:Int)+0=0 from rfl,e0]⟩;have:=O.1;rw[hb,S]at this;exact this
  ·rw[aa L];unfold Bi;rw[aa ⟨G,I⟩];unfold By;rw[aa L]
 ·have e:By a k 4096 v x=((v+AJ a k v x)::(By a k 4095 (v+AJ a k v x) (AJ a k v x)).1,(By a k 4095 (v+AJ a k v x) (AJ a k v x)).2):=by
   show(if v<=0 then _ else _)=_;rw[ab L]
  rw[e]at I;have T:=Zci a k 4095 _ _ I;have N:(Bi a k (v+AJ a k v x) (AJ a k v x)).2=true:=K6.2 ⟨O.1,by rw[T];exact I⟩;refine⟨N,?_⟩;rw[ab L];have e2:(Bi a k v x).1=(By a k 4096 v x).1:=by unfold Bi;rw[aa (K6.1 h)]
  have e3:(Bi a k (v+AJ a k v x) (AJ a k v x)).1=(By a k 4096 (v+AJ a k v x) (AJ a k v x)).1:=by unfold Bi;rw[aa (K6.1 N)]
  rw[e2,e3,T,e]
structure KOK (K : Kf) : Prop where
 f:Fix K.p K.x K.t
 plan:Plan3 K.pa K.pb K.pc
 aF:∀g∈K.p.aF,0<=g.aU/\g.aU<K.aA.length/\i64 g.aX
 aD:∀m∈K.p.aD,0<=m.aU/\m.aU<K.aA.length/\i64 m.at_
 count:K.p.aD.length<=1000000
 aS:∀it∈K.aA,it.aP=8->i64 it.aS
 len:i64 K.len
 set:i64 K.set
theorem PY (K:Kf) (c:Cv):CZ (Ac K c)=some [I (V (c.m0.tdiv 256))]:=by
 show Qjg (Ac K c)=_;rw[Zw5]
abbrev AZ (c:Cv):Int:=V (c.m0.tdiv 256)
theorem Ydp {c:Cv} {s:Int} (D:Z (Ac K c)=some [I (AZ c)]) (G:M (A0 K.t++[I (AZ c)])=some [I s]):ZC M Z (Ac K c)=some [I s]:=by
 rw[Z5m,D];simp only[af,gA,wA,bA,jA,CQ,Dy];rw[G];rfl
abbrev A_ (K:Kf) (c:Cv):Int:=BJ K.t (AZ c)
theorem Pb (h:KOK K) (c:Cv):C0 (Ac K c)=some [I (A_ K c)]:=Ydp (PY K c) (RY h.f.t.q (AZ c))
theorem Zv1 (K:Kf) (c:Cv):ON (Ac K c)=some (I 3::Ac K {c with next:=V (c.idx+1),on:=false,idx:=0,aN:=false,cnt:=0}):=by
 show Qf8 (Ac K c)=_;rw[Zw1]
theorem Zwx (K:Kf) (c:Cv):GH (Ac K c)=some (Ac K (if c.g0=0 then{c with o2:=true,g0:=1,g1:=18,g2:= -1}else c)):=by
 show Qqz (Ac K c)=_;rw[Zor];cases h:(c.g0==0)
 ·rw[ab (by simpa using h)];rfl
 ·rw[aa (by simpa using h)];rfl
def nxL (K:Kf) (c:Cv) (l:Int):List AC:=pxt K.p K.x K.t [I K.pa,I K.pb,I K.pc,I c.o0,I c.o1,B c.o2,B c.o3,B c.o4,I c.m0,I c.m1,I c.m2,I c.m3,I c.m4,I c.m5,I l]
def nxV (K:Kf) (c:Cv) (l:Int):Int:=gA ((Fs (nxL K c l)).getD []) 1
def Mo (K:Kf) (c:Cv):Prop:=(Bi K.pa K.pb c.m1 c.m2).2=true
theorem Mo.ready {c:Cv} (h:Mo K c):Cx K.pa K.pb c.m1 c.m2:=(K6.1 h).1
theorem Zl9 {c:Cv} (D:Plan3 K.pa K.pb K.pc) (I:Mo K c) {v:Int} (G:v=V (c.m1+AJ K.pa K.pb c.m1 c.m2)):v=c.m1+AJ K.pa K.pb c.m1 c.m2/\V (v-c.m1)=AJ K.pa K.pb c.m1 c.m2/\(Bi K.pa K.pb v (V (v-c.m1))).2=true:=by
 have L:=JB D I.ready;have M:=JB D (closed D I.ready).1;rw[Ae]at G;have e:V (v-c.m1)=AJ K.pa K.pb c.m1 c.m2:=by rw[G,Ae];omega
 refine⟨G,e,?_⟩;rw[e,G];exact(Zwi D I).1
theorem Q6r {c:Cv} (D:Plan3 K.pa K.pb K.pc) (G:Mo K c):Out (λo=>∃r:Int,o=[I r]/\r=AJ K.pa K.pb c.m1 c.m2) (E8 [I K.pa,I K.pb,I K.pc,I c.m1,I c.m2]):=
 ⟨_,Qt8 D G.ready,_,rfl,rfl⟩
theorem Zy6 {x:Ax3} (h:Fix p x t) (a b c o0 o1:Int) (D b1 b2:Bool) (m0 m1 m2 m3 m4 m5:Int):Out (λo=>bA o 0=true->True) (Mi (EQ p t [I a,I b,I c,I o0,I o1,B D,B b1,B b2,I m0,I m1,I m2,I m3,I m4,I m5])):=
 (Out.of (Zx0 h a b c o0 o1 D b1 b2 m0 m1 m2 m3 m4 m5)).mono λ_ _ _=>trivial
theorem Q6f (h:KOK K) {c:Cv} (D:Mo K c) (l:Int) (G:Bool):Out (Qci c.m0 c.m1 c.m3 c.m4 (λv=>(Bi K.pa K.pb v (V (v-c.m1))).2=true) λr=>r=AJ K.pa K.pb c.m1 c.m2)
  (Fs (pxt K.p K.x K.t [I K.pa,I K.pb,I K.pc,I c.o0,I c.o1,B G,B c.o3,B c.o4,I c.m0,I c.m1,I c.m2,I c.m3,I c.m4,I c.m5,I l])):=
 Znq (F:=λ_=>True) (by have:=h.plan.b;omega) (Q6r h.plan D) (λv _ _ _=>Qt6 h.f h.plan _ _ _ _ _ _ _) (λv=>Zy6 h.f ..) Za3 Zbw (λ_ L=>Zj0 L)
def Sv (m0 m1 m3 m4:Int) (Q R:Int->Prop) (o:List AC):Prop:=∃v s b z g e:Int,o=Ec m0 m1 m3 m4 v++[I s,I b,I z,I g,I e]/\(Q v\/∃r:Int,v=V (m1+r)/\R r)
theorem Zfe {x:Ax3} {a b c:Int} {b0 b1 b2:Bool} {m0 m1 m2 m3 m4 m5 l aX g0 g1 g2 L N T:Int} {Q R:Int->Prop}
  (hN:Out (Qci m0 m1 m3 m4 Q R) (M (pxt p x t [I a,I b,I c,I k,I u,B false,B b1,B b2,I m0,I m1,I m2,I m3,I m4,I m5,I l])))
  (hB:Out (λo=>∃r:Int,o=[I r]/\R r) (Z [I a,I b,I c,I m1,I m2]))
  (U:∀a b c x3 x4 x5 x6 x7 x8,(W [I a,I b,I c,I x3,I x4,I x5,I x6,I x7,I x8]).isSome=true)
  (X:∀v:Int,Out (λo=>bA o 0=true->Q v) (S (pxt p x t [I a,I b,I c,I (V (m0+v)),I v,I (V (v-m1)),I m0,I m3,I m4,I l])))
  (G:∀m0 m1 m2 m3 m4 m5 v,P [I m0,I m1,I m2,I m3,I m4,I m5,I v]=some (Ec m0 m1 m3 m4 v))
  (Y:∀v,i64 v->(O [I aX,I v]).isSome=true) (hD:∀a b,∃v,H [I a,I b]=some [I v]/\i64 v):
  Out (Sv m0 m1 m3 m4 Q R) (Qmy M Z W S P O H (pxt p x t [I a,I b,I c,I k,I u,B b0,B b1,B b2,I m0,I m1,I m2,I m3,I m4,I m5,I l,I aX,I g0,I g1,I g2,I L,I N,I T])):=by
 rw[Z4t];obtain⟨v1,e1,w1⟩:=hD T g2;obtain⟨v2,e2,w2⟩:=hD N g2;rw[e1,e2];simp only[af,gA,wA,bA,jA,CQ,Ei,Dy];have next:∀s D z g e:Int,Out (Sv m0 m1 m3 m4 Q R) ((M (pxt p x t [I a,I b,I c,I k,I u,B false,B b1,B b2,I m0,I m1,I m2,I m3,I m4,I m5,I l])).bind λo=>some [I (gA o 0),I (gA o 1),I (gA o 2),I (gA o 3),I (gA o 4),I (gA o 5),I s,I D,I z,I g,I e]):=λs D z g e=>by
  refine .bind hN λo h=> ?_;obtain⟨v,rfl,h⟩:=h;exact .some ⟨v,s,D,z,g,e,rfl,h⟩
 refine .ibind (Y _ w1) λf1 _=> .cond (λ_=> ?_) λ_=> .cond (λ_=> ?_) λ_=>next _ _ _ _ _
 ·refine .ibind (Y _ w2) λf2 _=> ?_;rw[G];generalize V (Af (nth AC.vD f1 0)-Af (nth AC.vD f2 0))=v;simp only[af,gA,wA,bA,jA,CQ,Ei,Dy];refine .cond (λ_=> ?_) λ_=>next _ _ _ _ _
  refine .bind (X v) λo h=> .cond (λc=> ?_) λ_=>next _ _ _ _ _
  exact .some ⟨v,_,_,_,_,_,rfl, .inl (h c)⟩
 ·rw[G];generalize V (V (V (g1+Af (nth AC.vD f1 0))-L)-m0)=v;simp only[af,gA,wA,bA,jA,CQ,Ei,Dy];have stop:∀s D z g e:Int,Out (Sv m0 m1 m3 m4 Q R) ((Z [I a,I b,I c,I m1,I m2]).bind λo=>(P [I m0,I m1,I m2,I m3,I m4,I m5,I (V (m1+gA o 0))]).bind λq=>some [I (gA q 0),I (gA q 1),I (gA q 2),I (gA q 3),I (gA q 4),I (gA q 5),I s,I D,I z,I g,I e]):=λs D z g e=>by
   refine .bind hB λo h=> ?_;obtain⟨r,rfl,hr⟩:=h;rw[G];exact .some ⟨_,s,D,z,g,e,rfl, .inr ⟨r,rfl,hr⟩⟩
  refine .cond (λ_=> ?_) λ_=> ?_
  ·refine .bind (X v) λo h=> .cond (λc=> ?_) λ_=> ?_
   ·exact .some ⟨v,_,_,_,_,_,rfl, .inl (h c)⟩
   ·refine .ibind (U _ _ _ _ _ _ _ _ _) λ_ _=> .cond (λ_=> .cond (λ_=>stop _ _ _ _ _) λ_=>stop _ _ _ _ _) λ_=>stop _ _ _ _ _
  ·refine .ibind (U _ _ _ _ _ _ _ _ _) λ_ _=> .cond (λ_=> .cond (λ_=>stop _ _ _ _ _) λ_=>stop _ _ _ _ _) λ_=>stop _ _ _ _ _
theorem Zzs (h:KOK K) {c:Cv} (D:Mo K c) (l:Int) {aX:Int} (G:i64 aX):Out (Sv c.m0 c.m1 c.m3 c.m4 (λv=>(Bi K.pa K.pb v (V (v-c.m1))).2=true) λr=>r=AJ K.pa K.pb c.m1 c.m2)
  (J5 (pxt K.p K.x K.t [I K.pa,I K.pb,I K.pc,I c.o0,I c.o1,B c.o2,B c.o3,B c.o4,I c.m0,I c.m1,I c.m2,I c.m3,I c.m4,I c.m5,I l,I aX,I c.e0,I c.e1,I c.e2,I c.e3,I c.before,I c.s3])):=
 Zfe (Q6f h D l false) (Q6r h.plan D) Zji (λv=>Qt6 h.f h.plan _ _ _ _ _ _ _) Za3 (λ_ L=>Ya2 G L) Z2t
theorem Zjr (h:KOK K) {c:Cv} (G:Mo K c) {v:Int} (I:(Bi K.pa K.pb v (V (v-c.m1))).2=true\/∃r:Int,v=V (c.m1+r)/\r=AJ K.pa K.pb c.m1 c.m2):(Bi K.pa K.pb v (V (v-c.m1))).2=true:=by
 rcases I with D|⟨r,D,L⟩
 ·exact D
 ·subst L;exact(Zl9 h.plan G D).2.2
theorem Vi {a k c:Int} (D:Plan3 a k c):(Bi a k 0 0).2=true:=by
 refine K6.2 ⟨?_,by unfold By;rw[aa]⟩;have G:=D.a;have hb:=D.b
 refine⟨by omega,by omega,?_,?_,λ_=>by omega⟩
 ·rw[KO (by omega)];omega
 ·rw[KO (by omega)];omega
theorem Q0m (K:Kf) {i:Nat} (h:i<K.aA.length):nth [] (K.aA.map Ah) i=Ah K.aA[i]:=by
 rw[BU,List.getD,dy,am h];rfl
theorem Z7d (K:Kf) {i:Nat} (h:i<K.p.aD.length):nth [] (K.p.aD.map At) i=At K.p.aD[i]:=by
 rw[BU,List.getD,dy,am h];rfl
theorem Ztd (h:KOK K) (i:Nat) (D:gA (nth [] (K.aA.map Ah) i) 0=8):i64 (gA (nth [] (K.aA.map Ah) i) 20):=by
 by_cases c:i<K.aA.length
 ·rw[Q0m K c]at D⊢;exact h.aS _ (cd c) D
 ·have e:nth [] (K.aA.map Ah) i=[]:=by
   rw[BU,List.getD,de (by rw[ag];omega)];rfl
  rw[e];show i64 0;unfold i64;omega
structure Gd (K : Kf) (n : Int) (c : Cv) : Prop where
 way:c.way=0
 pass:0<=c.aK/\c.aK<=K.p.aD.length
 task:c.on=true->0<=c.idx/\c.idx<K.p.aD.length
 mo:Mo K c
 m0: -(16777216*n)<=c.m0/\c.m0<=16777216*n
theorem Gd.up {n:Int} {c:Cv} (h:Gd K n c) (D:0<=n):Gd K (n+1) c:=
 ⟨h.way,h.pass,h.task,h.mo,by have:=h.m0;omega⟩
theorem Gd.bD (h:KOK K) {n:Int} {c:Cv} (g:Gd K n c) (I:0<=n/\n<=10000) {v:Int} (G:(Bi K.pa K.pb v (V (v-c.m1))).2=true\/∃r:Int,v=V (c.m1+r)/\r=AJ K.pa K.pb c.m1 c.m2):
  Gd K (n+1) {c with m0:=V (c.m0+v),m1:=v,m2:=V (v-c.m1),m3:=c.m0,m4:=c.m3,m5:=c.m4}:=by
 have L:=g.m0;have D:=Zjr h g.mo G;have M:=JB h.plan (K6.1 D).1;refine⟨g.way,g.pass,g.task,D,?_⟩;show-(16777216*(n+1))<=V (c.m0+v)/\V (c.m0+v)<=16777216*(n+1);rw[Ae];omega
theorem Gd.same {n:Int} {c c':Cv} (g:Gd K n c) (D:c'.way=c.way) (G:c'.aK=c.aK) (I:c'.on=c.on) (L:c'.idx=c.idx) (M:c'.m0=c.m0) (N:c'.m1=c.m1) (O:c'.m2=c.m2):Gd K n c':=
 ⟨D▸g.way,G▸g.pass,by rw[I,L];exact g.task,by have:=g.mo;unfold Mo at*;rw[N,O];exact this,M▸g.m0⟩
theorem Zvj {c:Cv} (h:c.way=0):IX (Ac K c)=some (I 0::B false::Ac K c):=by
 have key:∀{A B':Fn},SL A B' (Ac K c)=some (I 0::B false::Ac K c):=by
  intro A B';rw[Qz6,BG (by simp[h])]
 exact key
abbrev stand (c:Cv):Cv:={c with m0:=V (AZ c*256),m1:=0,m2:=0,m3:=V (AZ c*256),m4:=V (AZ c*256),m5:=V (AZ c*256)}
theorem Qcv (u:Int):Hb [I u]=some [I (V (u*256)),I 0,I 0,I (V (u*256)),I (V (u*256)),I (V (u*256))]:=by
 show Qcb [I u]=_;rw[Z81]
theorem Zlj {c:Cv} (D:Z (Ac K c)=some [I (AZ c)]) (G:∀u:Int,M [I u]=some [I (V (u*256)),I 0,I 0,I (V (u*256)),I (V (u*256)),I (V (u*256))]):
  Qkr M Z (Ac K c)=some (if c.g0=2 then I 6::B true::Ac K (stand c)else I 0::B false::Ac K c):=by
 rw[Zts];by_cases h:c.g0=2
 ·rw[aa h,Bj (by simp[h]),D];simp only[af,gA,wA,bA,jA,CQ,Dy];rw[G];rfl
 ·rw[ab h,BG (by simpa using h)]
theorem Zvr (K:Kf) (c:Cv):Ls (Ac K c)=some (if c.g0=2 then I 6::B true::Ac K (stand c)else I 0::B false::Ac K c):=Zlj (PY K c) Qcv
theorem Zkc (K:Kf) (c:Cv):Lu (Ac K c)=some (I c.aI::B (c.aI !=0)::Ac K c):=by
 show VY (Ac K c)=_;rw[Zgj]
theorem Zsg (K:Kf) (c:Cv):LL (Ac K c)=some (if c.aH=true/\c.aM=true then I 8::B true::Ac K {c with aI:=8}else I 0::B false::Ac K c):=by
 show Qj3 (Ac K c)=_;rw[Zno];by_cases h:c.aH=true
 ·by_cases D:c.aM=true
  ·rw[aa ⟨h,D⟩,Bj (by simp[h]),Bj (by simp[D]),h,D]
  ·rw[ab (λe=>D e.2),Bj (by simp[h]),BG (by simpa using D)]
 ·rw[ab (λe=>h e.1),BG (by simpa using h)]
theorem Qv1 (h: -v<=a/\a<=v): -v<=a.tdiv 256*256/\a.tdiv 256*256<=v:=by
 by_cases k:0<=a
 ·rw[bq k];omega
 ·obtain⟨b,rfl⟩:∃b,a= -b:=⟨-a,by omega⟩;rw[Int.neg_tdiv,bq (by omega)];omega
theorem Gd.stand (h:KOK K) {n:Int} {c:Cv} (g:Gd K n c) (D:0<=n/\n<=10000):Gd K n (stand c)/\AZ (stand c)=AZ c:=by
 have G:=Qv1 g.m0;have e:AZ c=c.m0.tdiv 256:=Ae;have e2:(Go.Bm.stand c).m0=c.m0.tdiv 256*256:=by
  show V (AZ c*256)=_;rw[e,Ae]
 refine⟨⟨g.way,g.pass,g.task,Vi h.plan,?_⟩,?_⟩
 ·rw[e2];omega
 ·show V ((Go.Bm.stand c).m0.tdiv 256)=_;rw[e2,Int.mul_tdiv_cancel _ (by omega),e,Ae]
theorem Out.eqv {α:Type} {p:α->Prop} {a b:Option α} (h:a=b) (g:Out p b):Out p a:=h▸g
abbrev P9 (D outs:Rw) (mode s:Int) (m:Pt) (G fault:Int):List AC:=[.vC kPt D, .vC Aa outs,I mode,I s,I m.x,I m.y,I m.z,I G,I fault]
abbrev Ew:List AC:=[.vC kPt [], .vC Aa [],I 0,I 0,I 0,I 0,I 0,I 0,I 0]
theorem Zlp {n:Int} {c:Cv} (g:Gd K n c) (G:0<=n/\n<=10010): -300000000000<=AZ c/\AZ c<=300000000000:=by
 have h:=g.m0;have D: -300000000000<=c.m0/\c.m0<=300000000000:=by omega
 have I:=Qv1 D;have e:AZ c=c.m0.tdiv 256:=Ae;omega
theorem Zs4 (r k:Int):(AS r k=r/\AT r k=0)\/(AS r k=0/\AT r k=r)\/(AS r k= -r/\AT r k=0)\/(AS r k=0/\AT r k= -r):=by
 have D:k%4=0\/k%4=1\/k%4=2\/k%4=3:=by omega
 unfold AS AT;rcases D with h|h|h|h<;>simp[h]
theorem Q8b (r k:Int):sq2 (AS r k) (AT r k)=r*r:=by
 unfold sq2;rcases Zs4 r k with⟨D,G⟩|⟨D,G⟩|⟨D,G⟩|⟨D,G⟩<;>rw[D,G]<;>grind
theorem Zjf (G:v=1\/v=2\/v=3) (I:0<a) (L:0<b):crs (AS a k) (AT a k) (AS b (k+v)) (AT b (k+v))≠0\/dt2 (AS a k) (AT a k) (AS b (k+v)) (AT b (k+v))<0:=by
 have M:k%4=0\/k%4=1\/k%4=2\/k%4=3:=by omega
 have N:0<a*b:=Int.mul_pos I L;have T: -a*b= -(a*b)/\a* -b= -(a*b)/\ -a* -b=a*b:=⟨Int.neg_mul ..,Int.mul_neg ..,Int.neg_mul_neg ..⟩;have e:∀j:Int,(k+v)%4=j->∀i:Int,k%4=i->crs (AS a k) (AT a k) (AS b (k+v)) (AT b (k+v))=(if i=0 then a else if i=2 then-a else 0)*(if j=1 then b else if j=3 then-b else 0)-(if i=1 then a else if i=3 then-a else 0)*(if j=0 then b else if j=2 then-b else 0)/\
   dt2 (AS a k) (AT a k) (AS b (k+v)) (AT b (k+v))=(if i=0 then a else if i=2 then-a else 0)*(if j=0 then b else if j=2 then-b else 0)+(if i=1 then a else if i=3 then-a else 0)*(if j=1 then b else if j=3 then-b else 0):=by
  intro j O i S;subst O S;exact⟨rfl,rfl⟩
 rcases G with rfl|rfl|rfl<;>rcases M with D|D|D|D
 ·obtain⟨e1,e2⟩:=e 1 (by omega) _ D;simp at e1 e2;omega
 ·obtain⟨e1,e2⟩:=e 2 (by omega) _ D;simp at e1 e2;omega
 ·obtain⟨e1,e2⟩:=e 3 (by omega) _ D;simp at e1 e2;omega
 ·obtain⟨e1,e2⟩:=e 0 (by omega) _ D;simp at e1 e2;omega
 ·obtain⟨e1,e2⟩:=e 2 (by omega) _ D;simp at e1 e2;omega
 ·obtain⟨e1,e2⟩:=e 3 (by omega) _ D;simp at e1 e2;omega
 ·obtain⟨e1,e2⟩:=e 0 (by omega) _ D;simp at e1 e2;omega
 ·obtain⟨e1,e2⟩:=e 1 (by omega) _ D;simp at e1 e2;omega
 ·obtain⟨e1,e2⟩:=e 3 (by omega) _ D;simp at e1 e2;omega
 ·obtain⟨e1,e2⟩:=e 0 (by omega) _ D;simp at e1 e2;omega
 ·obtain⟨e1,e2⟩:=e 1 (by omega) _ D;simp at e1 e2;omega
 ·obtain⟨e1,e2⟩:=e 2 (by omega) _ D;simp at e1 e2;omega
theorem Zv6 {it:Itm} (h:ArcMade a it):Qiv it:=by
 obtain⟨r,k,t,g,x,M,h2,h3,h4,h5,h6,N,T,h9,O,I,D,L⟩:=h.ends;have G:=h.aG;have a1:dU it it.fr=AS r k:=by unfold dU;rw[D,(NZ G).1];omega
 have a2:dW it it.fr=AT r k:=by unfold dW;rw[D,(NZ G).2.1];omega
 have a3:dU it it.to=AS (r+g) (k+t):=by unfold dU;rw[D,L,(NZ G).1,(NZ G).1];omega
 have a4:dW it it.to=AT (r+g) (k+t):=by unfold dW;rw[D,L,(NZ G).2.1,(NZ G).2.1];omega
 have V:qA it=r*r:=by unfold qA;rw[a1,a2,Q8b]
 have X:qB it=(r+g)*(r+g):=by unfold qB;rw[a3,a4,Q8b]
 have m1:64<=r*r:=by
  have:=fd M M (by omega) (by omega);omega
 have m2:64<=(r+g)*(r+g):=by
  have:=fd (show(8:Int)<=r+g by omega) (show(8:Int)<=r+g by omega) (by omega) (by omega);omega
 unfold Qiv;refine⟨by omega,by omega,?_,?_,?_⟩
 ·rw[V,X];unfold If;right;have hg:g*g<=16:=by
   have:=fd T T N (by omega);omega
  have e1:r*r+(r+g)*(r+g)-16=2*(r*(r+g))+(g*g-16):=by grind
  have U:0<=r*(r+g):=fq (by omega) (by omega);have Y:64<=r*(r+g):=by
   have:=fd M (show(8:Int)<=r+g by omega) (by omega) (by omega);omega
  have a0:0<=g*g:=fq N N;have e2:4*(r*r)*((r+g)*(r+g))=(2*(r*(r+g)))*(2*(r*(r+g))):=by grind
  rw[e1,e2];generalize 2*(r*(r+g))=m at*;exact gy (by omega) (by omega)
 ·intro hf;rw[I]at hf;have S:=of_decide_eq_true hf;rw[a1,a2,a3,a4,S,O S,jk,jk];exact⟨rfl,rfl⟩
 ·intro hf;rw[I]at hf;have S:=ig hf;unfold cAB dAB;rw[a1,a2,a3,a4];exact Zjf (by omega) (by omega) (by omega)
theorem Z8v {it:Itm} (h:Made it) (G:bd 1000000 it.fr) (I:bd 1000000 it.to):Dw it:=by
 refine⟨h.aP,AR G (by omega),AR I (by omega),λL=> ?_⟩;have D:=h.arc L;exact⟨D.aG,D.dir,AR (Qk3 D (by omega) G).2 (by omega),Zv6 D⟩
end Go.Bm
namespace Go.Bm
open Classical
structure Oth (it : Itm) : Prop where
 aP:7<=it.aP/\it.aP<=14
 spin:it.aP=8->3<=it.n/\it.n<=5/\0<=it.aS/\it.aS<=4000
 dwell:it.aP=7->0<=it.n/\it.n<=4
 out:it.aP=10->0<=it.n/\it.n<=15
def IY:Pt->List Itm->Prop
 |_,[]=>True
 |p,it::l=>if AF it then it.fr=p/\IY it.to l else IY p l
def EC:Pt->List Itm->Pt
 |p,[]=>p
 |p,it::l=>if AF it then EC it.to l else EC p l
theorem W6 {it:Itm}:∀{l:List Itm} {p:Pt},IY p l->(AF it->it.fr=EC p l)->IY p (l++[it])
 |[],p,_,h=>by
  simp only[ax,IY];split
  ·rename_i c;exact⟨h c,trivial⟩
  ·trivial
 |a::l,p,D,h=>by
  simp only[ba,IY]at D⊢;unfold EC at h;by_cases c:AF a
  ·rw[aa c]at D h⊢;exact⟨D.1,W6 D.2 h⟩
  ·rw[ab c]at D h⊢;exact W6 D h
theorem Jj {it:Itm}:∀{l:List Itm} {p:Pt},EC p (l++[it])=if AF it then it.to else EC p l
 |[],p=>by simp only[ax,EC]
 |a::l,p=>by
  simp only[ba,EC];by_cases c:AF a
  ·rw[aa c,aa c];exact Jj
  ·rw[ab c,ab c];exact Jj
structure Items (A : Nat) (p : Pt) (l : List Itm) : Prop where
 link:IY p l
 made:∀it∈l,(AF it/\Made it/\F_ it/\bd A it.fr/\bd A it.to)\/Oth it
theorem Qc {l:List Itm} {it:Itm} (h:Items A q l) (G:AF it->it.fr=EC q l) (I:(AF it/\Made it/\F_ it/\bd A it.fr/\bd A it.to)\/Oth it):Items A q (l++[it]):=by
 refine⟨W6 h.link G,λi D=> ?_⟩;simp only[bj,dg]at D;rcases D with D|rfl
 ·exact h.made i D
 ·exact I
theorem Qt {it:Itm} (h:Oth it): ¬AF it:=λg=>by have:=h.aP;have:=g.2;omega
theorem Z61 (G:GN l M) (k:Nat):
  ∃(it:Itm) (k':Nat),Y9 M [.vC Aa l,I k]=some (Ah it++[.vC Aa l,I k'])/\k<=k'/\Oth it/\it.aP≠14:=by
 rw[Zmb];obtain⟨D,k0,e0,a0,b0,O,-,-⟩:=G k (n:=8) (by omega);obtain⟨v1,k1,e1,a1,b1,S,-,-⟩:=G k0 (n:=16) (by omega);obtain⟨v2,k2,e2,a2,b2,T,-,-⟩:=G k1 (n:=2) (by omega);obtain⟨v3,k3,e3,a3,b3,U,-,-⟩:=G k0 (n:=5) (by omega);obtain⟨v4,k4,e4,a4,b4,V,-,-⟩:=G k0 (n:=3) (by omega);obtain⟨v5,k5,e5,a5,b5,X,-,-⟩:=G k4 (n:=4000) (by omega);simp only[go_sem,e0,e1,e2,e3,e4,e5];rw[Ae (x:=3+v4)];have fin:∀(N n Y:Int) (on:Bool) (k':Nat),k<=k'->N≠14->Oth ⟨N,0,⟨0,0,0⟩,⟨0,0,0⟩,0,⟨0,0,0⟩,0,false,0,false,0,0,0,n,Y,on⟩->
   ∃(it:Itm) (L:Nat),some [I N,I 0,I 0,I 0,I 0,I 0,I 0,I 0,I 0,I 0,I 0,I 0,I 0,B false,I 0,B false,I 0,I 0,I 0,I n,I Y,B on, .vC Aa l,I k']=some (Ah it++[.vC Aa l,I L])/\k<=L/\Oth it/\it.aP≠14:=by
  intro N n Y on k' h1 h0 h2;exact⟨_,k',rfl,h1,h2,h0⟩
 by_cases O:D=0
 ·rw[aa O];exact fin _ _ _ _ _ (by omega) (by omega) ⟨by simp only;omega,by simp,by simp,λ_=>by simp only;omega⟩
 rw[ab O];by_cases S:D=1
 ·rw[aa S];exact fin _ _ _ _ _ (by omega) (by omega) ⟨by simp only;omega,by simp,by simp,λ_=>by simp only;omega⟩
 rw[ab S];by_cases T:D=2
 ·rw[aa T];exact fin _ _ _ _ _ (by omega) (by omega) ⟨by simp only;omega,by simp,λ_=>by simp only;omega,by simp⟩
 rw[ab T];by_cases U:D=3
 ·rw[aa U];exact fin _ _ _ _ _ (by omega) (by omega) ⟨by simp only;omega,λ_=>by simp only;omega,by simp,by simp⟩
 rw[ab U];by_cases V:D=4
 ·rw[aa V];exact fin _ _ _ _ _ (by omega) (by omega) ⟨by simp only;omega,by simp,by simp,by simp⟩
 rw[ab V];by_cases X:D=5
 ·rw[aa X];exact fin _ _ _ _ _ (by omega) (by omega) ⟨by simp only;omega,by simp,by simp,by simp⟩
 rw[ab X];by_cases c6:D=6
 ·rw[aa c6];exact fin _ _ _ _ _ (by omega) (by omega) ⟨by simp only;omega,by simp,by simp,by simp⟩
 rw[ab c6];exact fin _ _ _ _ _ (by omega) (by omega) ⟨by simp only;omega,by simp,by simp,by simp⟩
theorem Zi9 (D:Src l) (k:Nat):∃(it:Itm) (k':Nat),L0 [.vC Aa l,I k]=some (Ah it++[.vC Aa l,I k'])/\k<=k'/\Oth it/\it.aP≠14:=Z61 (Hv D) k
theorem Zjb (h:0<=v/\v<8):∃x,Af (nth .vD (nth [] [[I 2],[I 2],[I 2],[I 3],[I 1],[I 6],[I 5],[I 4]] v.toNat) 0)=x/\1<=x/\x<=6:=by
 have D:v=0\/v=1\/v=2\/v=3\/v=4\/v=5\/v=6\/v=7:=by omega
 rcases D with rfl|rfl|rfl|rfl|rfl|rfl|rfl|rfl<;>exact⟨_,rfl,by decide⟩
theorem TO {l:List Itm} {it:Itm} (h:∀x∈l,x.aP≠14) (G:it.aP≠14):∀x∈l++[it],x.aP≠14:=λx D=>by
 simp only[bj,dg]at D;rcases D with D|rfl
 ·exact h x D
 ·exact G
theorem Zws {MM MO ML MN MF:Fn} (Y:GN l MN)
  (hM : ∀ {p : Pt}, bd 100000000 p -> ∀ {aP : Int}, (1 <= aP /\ aP <= 6) -> ∀ k : Nat,
   ∃(it:Itm) (k':Nat),MM [I p.x,I p.y,I p.z,I aP, .vC Aa l,I k]=some (Ah it++[.vC Aa l,I k'])/\k<=k'/\it.fr=p/\it.aP=aP/\Made it/\F_ it)
  (hO:∀k:Nat,∃(it:Itm) (k':Nat),MO [.vC Aa l,I k]=some (Ah it++[.vC Aa l,I k'])/\k<=k'/\Oth it/\it.aP≠14)
  (hL:∀k:Nat,ML [.vC Aa l,I k]=some [B (decide (k<l.length)), .vC Aa l,I k]) {D:Int} {fin:Bool} (hm:D<=100) {p:Pt}:
  ∀s:List Itm×Nat,(Items (4+40*102) p s.1/\bd (4+40*s.1.length) (EC p s.1)/\(s.1=[]\/s.1.length<=D+1)/\∀it∈s.1,it.aP≠14)->
   ∃o,Am (Qri MM MO ML MN MF) [.vC Ai (s.1.map Ah),I D,B fin,I (EC p s.1).x,I (EC p s.1).y,I (EC p s.1).z, .vC Aa l,I s.2]=some o/\o.1≠0/\
    ∃aA,o=(1,[.vC Ai (aA.map Ah),B fin])/\Items (4+40*102) p aA/\(aA=[]\/aA.length<=D+1)/\∀it∈aA,it.aP≠14:=by
 refine Qx6 (S:=List Itm×Nat) (λs=>[.vC Ai (s.1.map Ah),I D,B fin,I (EC p s.1).x,I (EC p s.1).y,I (EC p s.1).z, .vC Aa l,I s.2]) _ (λs=>l.length-s.2) _ ?_;rintro⟨aA,k⟩ ⟨O,U,h3,T⟩;simp only at O U h3 T;simp only;rw[Z6w];simp only[go_sem,hL,ag];by_cases c1:(aA.length:Int)<D
 case neg=>
  rw[ab c1];exact .inr ⟨_,rfl,by simp,aA,rfl,O,h3,T⟩
 rw[aa c1];by_cases c2:k<l.length
 case neg=>
  rw[ab (by simpa using c2)];exact .inr ⟨_,rfl,by simp,aA,rfl,O,h3,T⟩
 rw[aa (by simpa using c2)];obtain⟨v,k1,e1,a1,b1,d1,d2,-⟩:=Y k (n:=12) (by omega);have d3:=d2 c2;subst d3;simp only[go_sem,e1];have a0:aA.length<100:=by omega
 by_cases c3:v<4
 ·rw[aa c3];obtain⟨it,X,e2,g1,g2,g0⟩:=hO (k+1);have G:=Qt g2;simp only[go_sem,e2,Ah,ba,ax];rw[aa (by simp;omega)];left;refine⟨(aA++[it],X),?_,⟨Qc O (λh=>absurd h G) (.inr g2),?_, .inr ?_,TO T g0⟩,?_⟩
  ·simp only[Jj,ab G,bz,bc,dq,Ah]
  ·simp only[Jj,ab G,ap,dc];exact AR U (by omega)
  ·simp only[ap,dc];omega
  ·simp only;omega
 ·rw[ab c3,Ae];obtain⟨x,hx,a5,a6⟩:=Zjb (v:=v-4) (by omega);have a2:bd 100000000 (EC p aA):=AR U (by omega);obtain⟨it,X,e2,g1,g2,g3,g4,g5⟩:=hM a2 (aP:=x) (by omega) (k+1);have L:AF it:=by unfold AF;omega
  have N:=Qvr g4 (by rw[g2];exact U);rw[aa (by simp;omega)];simp only[go_sem,hx,e2,Ah,ba,ax];have M:(AF it/\Made it/\F_ it/\bd (4+40*102) it.fr/\bd (4+40*102) it.to)\/Oth it:= .inl ⟨L,g4,g5,by rw[g2];exact AR U (by omega),AR N (by omega)⟩;by_cases c5:it.aP=5
  ·rw[aa c5];obtain⟨v3,k3,e3,a3,b3,d3,-,-⟩:=Y X (n:=2) (by omega);obtain⟨v4,k4,e4,a4,b4,d4,-,-⟩:=Y k3 (n:=3000) (by omega);simp only[go_sem,e3,e4];rw[Ae (x:=3+v3),Ae (x:=200+v4)];rw[aa (by simp;omega),aa (by simp;omega)];have V:Oth ⟨8,0,⟨0,0,0⟩,⟨0,0,0⟩,0,⟨0,0,0⟩,0,false,0,false,0,0,0,3+v3,200+v4,false⟩:=⟨by simp only;omega,λ_=>by simp only;omega,by simp,by simp⟩;have G:=Qt V;have i1:=Qc O (λh=>absurd h G) (.inr V);left;refine⟨(aA++[⟨8,0,⟨0,0,0⟩,⟨0,0,0⟩,0,⟨0,0,0⟩,0,false,0,false,0,0,0,3+v3,200+v4,false⟩]++[it],k4),?_,⟨Qc i1 (λ_=>by rw[Jj,ab G];exact g2) M,?_, .inr ?_,TO (TO T (by simp only;omega)) (by omega)⟩,?_⟩
   ·simp only[Jj,aa L,bz,bc,dq,Ah]
   ·simp only[Jj,aa L,ap,dc];exact AR N (by omega)
   ·simp only[ap,dc];omega
   ·simp only;omega
  ·rw[ab c5,aa (by simp;omega)];left;refine⟨(aA++[it],X),?_,⟨Qc O (λ_=>g2) M,?_, .inr ?_,TO T (by omega)⟩,?_⟩
   ·simp only[Jj,aa L,bz,bc,dq,Ah]
   ·simp only[Jj,aa L,ap,dc];exact AR N (by omega)
   ·simp only[ap,dc];omega
   ·simp only;omega
def Kk:Itm:=⟨14,0,⟨0,0,0⟩,⟨0,0,0⟩,0,⟨0,0,0⟩,0,false,0,false,0,0,0,0,0,false⟩
theorem Qwo:Oth Kk:=⟨by simp[Kk],by simp[Kk],by simp[Kk],by simp[Kk]⟩
theorem Z9g {MM MO ML L T:Fn} (M:GN l L) (Y:T [.vC Aa l]=some [.vC Aa l,I 0]) {D:Int} {fin:Bool} (hm:D<=100)
  (hL:∀(p:Pt) (k:Nat),bd 4 p->∃aA,N [.vC Ai [],I D,B fin,I p.x,I p.y,I p.z, .vC Aa l,I k]=some (1,[.vC Ai (aA.map Ah),B fin])/\Items 4084 p aA/\(aA=[]\/aA.length<=D+1)/\∀it∈aA,it.aP≠14):
  ∃(p:Pt) (aA:List Itm),Qrw MM MO ML L T N [.vC Aa l,I D,B fin]=some [.vC Ai ((aA++if fin=true then [Kk]else []).map Ah)]/\Items 4084 p aA/\(aA=[]\/aA.length<=D+1)/\∀it∈aA,it.aP≠14:=by
 obtain⟨O,U,e1,a1,b1,c1,-,-⟩:=M 0 (n:=9) (by omega);obtain⟨V,k2,e2,a2,b2,c2,-,-⟩:=M U (n:=9) (by omega);obtain⟨X,k3,e3,a3,b3,c3,-,-⟩:=M k2 (n:=9) (by omega);obtain⟨aA,h1,h2,G,h0⟩:=hL ⟨O-4,V-4,X-4⟩ k3 ⟨by simp only;omega,by simp only;omega,by simp only;omega⟩;rw[Zvs];have S:L [I 9, .vC Aa l,I 0]=some [I O, .vC Aa l,I U]:=e1;simp only[go_sem,Y,S,e2,e3];rw[Ae (x:=O-4),Ae (x:=V-4),Ae (x:=X-4)];simp only[h1,go_sem];refine⟨_,aA,?_,h2,G,h0⟩;have hlen:aA.length<=101:=by
  rcases G with G|G
  ·rw[G];simp
  ·omega
 cases fin
 ·simp
 ·rw[aa rfl,aa (by simp;omega),aa rfl,bz];rfl
theorem Z33 (L:Src l) {D:Int} (S:D<=100) (fin:Bool):
  ∃(p:Pt) (aA:List Itm),Ma [.vC Aa l,I D,B fin]=some [.vC Ai (aA.map Ah)]/\Items 4084 p aA/\(aA.length:Int)<=max D (-1)+2/\(fin=true->∃l,aA=l++[Kk]/\(l.length:Int)<=max D (-1)+1)/\(fin=false->(aA.length:Int)<=max D (-1)+1/\∀it∈aA,it.aP≠14):=by
 obtain⟨p,aA,M,T,G,U⟩:=Z9g (MM:=Lb) (MO:=L0) (ML:=FY) (N:=Qda) (fin:=fin) (Hv L) (QM l) S λp k O=>by
  obtain⟨o,M,-,aA,rfl,G,V,X⟩:=Zws (MF:=Cu) (fin:=fin) (Hv L) (λO _ Y k=>Zwq L O Y k) (λk=>Zi9 L k) (Qvy l) S (p:=p) ([],k) ⟨⟨trivial,by simp⟩,O, .inl rfl,by simp⟩;exact⟨aA,M,G,V,X⟩
 have hle:(aA.length:Int)<=max D (-1)+1:=by
  rcases G with G|G
  ·rw[G];simp;omega
  ·omega
 refine⟨p,_,M,?_,?_,λhf=> ?_,λhf=> ?_⟩
 ·cases fin
  ·simpa using T
  ·simp only[dt];exact Qc T (λh=>absurd h (Qt Qwo)) (.inr Qwo)
 ·cases fin
  ·simp;omega
  ·simp;omega
 ·subst hf;exact⟨aA,by simp,hle⟩
 ·subst hf;exact⟨by simpa using hle,by simpa using U⟩
theorem Z1g (D:Src l) {most:Int} (G:most<=100) (fin:Bool):
  ∃(p:Pt) (aA:List Itm),Ma [.vC Aa l,I most,B fin]=some [.vC Ai (aA.map Ah)]/\Items 4084 p aA/\(aA.length:Int)<=max most (-1)+2/\(fin=true->∃l,aA=l++[Kk]/\(l.length:Int)<=max most (-1)+1)/\(fin=false->(aA.length:Int)<=max most (-1)+1):=by
 obtain⟨p,aA,L,M,N,O,S⟩:=Z33 D G fin;exact⟨p,aA,L,M,N,O,λh=>(S h).1⟩
theorem Qns {A:Nat} {aA:List Itm} (G:A<=1000000) (L:∀it∈aA,(AF it/\Made it/\F_ it/\bd A it.fr/\bd A it.to)\/Oth it):∀(k i:Nat) (last:Int) (p:Pt),i+k=aA.length->IY p (aA.drop i)->(0<=last->(vE aA last.toNat).to=p)->Gy aA k i last=0
 |0,_,_,_,_,_,_=>rfl
 |k+1,i,last,p,hi,h,O=>by
  have D:i<aA.length:=by omega
  have M:=L _ (Zd5 D);rw[Qof D]at h;unfold IY at h;unfold Gy;have S: ¬Ce (vE aA i):=by
   rcases M with⟨T,I,h3,U,V⟩|N
   ·have X:=Z8v I (AR U G) (AR V G);have hf:=I.aZ;have hb:=I.bJ;have Y:=I.aP;rintro(g|g|⟨-,g|g|g|g⟩|⟨g,-⟩)
    ·omega
    ·omega
    ·exact g X
    ·omega
    ·omega
    ·omega
    ·exact g T
   ·have Y:=N.aP;rintro(g|g|⟨g,-⟩|⟨-,g1,g2⟩)
    ·omega
    ·omega
    ·exact Qt N g
    ·have:=N.spin g1;omega
  rw[ab S];by_cases c:AF (vE aA i)
  ·rw[aa c]at h⊢;rw[ab (λg=>g.2 (by rw[O g.1];exact h.1.symm))];exact Qns G L k (i+1) i _ (by omega) h.2 (λ_=>by rw[al])
  ·rw[ab c]at h⊢;exact Qns G L k (i+1) last p (by omega) h O
theorem Z13 {aA:List Itm} (D:A<=1000000) (h:Items A q aA) (G:aA.length<=20000):C1 aA=0:=by
 unfold C1;rw[ab];exact Qns D h.made aA.length 0 (-1) q (by omega) (by rw[fg];exact h.link) (λh=>by omega)
end Go.Bm
namespace Go.Bm
theorem Zki (S:∀{hi lo y:Nat},hi<y->y<w64->lo<w64->M [U hi,U lo,U y]=some [U (((hi*w64+lo)/y:Nat):Int),U (((hi*w64+lo)%y:Nat):Int)])
  {hi lo y:Nat} (G:hi<w64) (I:lo<w64) (D:0<y) (T:y<w64):
  ∃L N:Nat,Qc4 M [U hi,U lo,U y]=some [U L,U N,B (decide (0<(hi*w64+lo)%y))]/\L<w64/\N<w64/\L*w64+N=(hi*w64+lo)/y:=by
 have V:=S (hi:=0) (lo:=hi) D T G;rw[gz,du,show((0:Nat):Int)=0 from rfl]at V;have X:=gf hi D;have Y:=S (hi:=hi%y) (lo:=lo) X T I;have e:=fv hi y;have e2:hi*w64+lo=hi%y*w64+lo+hi/y*w64*y:=by
  have:hi*w64=hi/y*w64*y+hi%y*w64:=by
   rw[<-e,Nat.mul_add_mod,Nat.mod_mod];rw[show(y*(hi/y)+hi%y)/y=hi/y from by rw[e]];rw[dl,dz y,gi,dz y,gi]
  omega
 have hq:(hi*w64+lo)/y=(hi%y*w64+lo)/y+hi/y*w64:=by rw[e2,Nat.add_mul_div_right _ _ D]
 have hr:(hi*w64+lo)%y=(hi%y*w64+lo)%y:=by rw[e2,Nat.add_mul_mod_self_right]
 have O:(hi%y*w64+lo)/y<w64:=by
  rw[ff D];have:hi%y*w64+w64<=y*w64:=by rw[<-f6];exact be _ X
  rw[dz w64];omega
 refine⟨hi/y,(hi%y*w64+lo)/y,?_,Nat.lt_of_le_of_lt (gr _ _) G,O,by rw[hq];omega⟩;rw[Zok];simp only[go_sem,V,Y,hr];by_cases c:0<(hi%y*w64+lo)%y
 ·rw[ai c,ai (show(((hi%y*w64+lo)%y:Nat):Int)>0 by omega)]
 ·rw[aj c,aj (show¬(((hi%y*w64+lo)%y:Nat):Int)>0 by omega)]
theorem Zvm {A n t:Nat} (D:0<n) (L:t*t<=2*A*(2*A)/n) (M:2*A*(2*A)/n<(t+1)*(t+1)) (down:Bool) {E:Prop} [Decidable E] (N:E↔(2*A*(2*A)%n=0/\t*t=2*A*(2*A)/n)):
  Ez A n down (if t%2=1/\(¬E\/down=false)then t/2+1 else t/2):=by
 have U:2*A*(2*A)=4*(A*A):=by grind
 have G:t*t*n<=2*A*(2*A):=(Nat.le_div_iff_mul_le D).1 L;have V:2*A*(2*A)<(t+1)*(t+1)*n:=(ff D).1 M;have O:(2*A*(2*A)%n=0/\t*t=2*A*(2*A)/n)↔t*t*n=2*A*(2*A):=by
  have hd:=fv (2*A*(2*A)) n;constructor
  ·rintro⟨g1,g2⟩;rw[g2,dz];omega
  ·intro g;rw[<-g];exact⟨Nat.mul_mod_left _ _,(Nat.mul_div_cancel _ D).symm⟩
 have I:=N.trans O;rw[U]at G V I;clear N O L M;generalize X:4*(A*A)=Q at*;unfold Ez;rw[X];rcases Nat.mod_two_eq_zero_or_one t with S|S
 ·rw[ab];obtain⟨m,rfl⟩:∃m,t=2*m:=⟨t/2,by omega⟩;rw[show 2*m/2=m by omega];have h5:(2*m+1)*(2*m+1)*n<=(2*m+1)*(2*m+1)*n:=cm _;refine⟨?_,?_⟩
  ·rcases d7 m with T|T
   ·exact .inl T
   ·right;have Y:(2*m-1)*(2*m-1)*n<2*m*(2*m)*n:=d9 (gq (by omega)) D;split<;>omega
  ·split<;>omega
 ·obtain⟨m,rfl⟩:∃m,t=2*m+1:=⟨t/2,by omega⟩;rw[show(2*m+1)/2=m by omega];have Y:(2*m+1+1)*(2*m+1+1)*n<=(2*(m+1)+1)*(2*(m+1)+1)*n:=Ro (by omega);have h7:(2*m-1)*(2*m-1)*n<(2*m+1)*(2*m+1)*n:=d9 (gq (by omega)) D;have h8:2*(m+1)-1=2*m+1:=by omega
  by_cases c: ¬E\/down=false
  ·rw[aa ⟨S,c⟩,h8];refine⟨.inr ?_,?_⟩
   ·cases down
    ·simp only[dm,f8];exact G
    ·simp only[dt];rcases c with c|c
     ·exact Nat.lt_of_le_of_ne G λh=>c (I.2 h)
     ·cases c
   ·split<;>omega
  ·have c1:(2*m+1)*(2*m+1)*n=Q:=by
    by_cases g:E
    ·exact I.1 g
    ·exact absurd (.inl g) c
   have c2:down=true:=by
    cases down
    ·exact absurd (.inr rfl) c
    ·rfl
   subst c2;rw[ab (λh=>c h.2)];simp only[dt];exact⟨.inr (by omega),by omega⟩
theorem Zja {x d:Int}:sgn x d<0↔x*d<0:=by
 rcases Ub x d with⟨h,g⟩|⟨h,g⟩|⟨h,g⟩<;>omega
theorem Z6x {x d:Int} {n X D V l1 qh ql t T l2:Nat} (hX:X<=2147483648) (hD:D<=2147483648) (hn:0<n/\n<=4611686018427387904)
  (z1:G [I x]=some [U X]) (z2:G [I d]=some [U D]) (hk:H [I 2]=some [B true]) (a3:O [U ((2*(X*D):Nat):Int),U ((2*(X*D):Nat):Int)]=some [U V,U l1])
  (a4:P [U V,U l1,U n]=some [U qh,U ql,B (decide (0<2*(X*D)*(2*(X*D))%n))]) (a5:qh*w64+ql=2*(X*D)*(2*(X*D))/n) (a6:ql<w64) (a7:S [U qh,U ql]=some [U t]) (a2:t<w64)
  (a8:O [U t,U t]=some [U T,U l2]) (a9:T*w64+l2=t*t) (b0:l2<w64) (hs:W [I x,I d]=some [I (sgn x d)])
  (hg:∀(more:Int) (some_ neg:Bool),Z [I 2,I more,B some_,B neg]=some [B (if more>0 then true else if more=0 then !neg else false)])
  (g1:∀{n:Nat},n<9223372036854775808->M [U n,B false]=some [I n,B true]) (g2:∀{n:Nat},n<=9223372036854775808->M [U n,B true]=some [I (-(n:Int)),B true]) {J:Nat}
  (Y:t%2=1->(¬(2*(X*D)*(2*(X*D))%n=0/\t*t=2*(X*D)*(2*(X*D))/n)\/ ¬sgn x d<0)->J=t/2+1) (a0: ¬(t%2=1/\(¬(2*(X*D)*(2*(X*D))%n=0/\t*t=2*(X*D)*(2*(X*D))/n)\/ ¬sgn x d<0))->J=t/2) (b3:t<=9223372036854775808):
  XM M Z W S P O H G [I x,I d,I n,I 2]=some [I (if sgn x d<0 then-(J:Int)else J),B true]:=by
 have b4:X*D<=2147483648*2147483648:=dh hX hD;have w1:wrap .u64 (2*wrap .u64 ((X:Int)*(D:Int)))=((2*(X*D):Nat):Int):=by
  rw[<-da,wr (by omega),show(2:Int)*((X*D:Nat):Int)=((2*(X*D):Nat):Int) by omega,wr (by omega)]
 have w2:wrap .u64 (n:Int)=n:=wr (by omega);have w3:((t:Int)).tdiv 2=((t/2:Nat):Int):=ZA t 2;have w4:wrap .u64 ((t/2:Nat):Int)=((t/2:Nat):Int):=wr (by rw[A7]at a2;omega);have w5:wrap .u64 (((t/2:Nat):Int)+1)=((t/2+1:Nat):Int):=by rw[show((t/2:Nat):Int)+1=((t/2+1:Nat):Int) by omega,wr (by rw[A7]at a2;omega)]
 have w6:((t:Int).tmod 2=1)=(t%2=1):=by
  rw[iv (by omega)];exact propext ⟨by omega,by omega⟩
 have b1:∀(neg:Bool) (k:Nat),k<9223372036854775808->M [U k,B neg]=some [I (if neg=true then-(k:Int)else k),B true]:=by
  intro neg k hk;cases neg
  ·exact g1 hk
  ·exact g2 (by omega)
 have key:∀(neg:Bool) (k:Nat),decide (sgn x d<0)=neg->J=k->k<9223372036854775808->M [U k,B neg]=some [I (if sgn x d<0 then-(J:Int)else J),B true]:=by
  intro neg k V T h3;rw[b1 neg k h3,T];congr 3;by_cases c:sgn x d<0
  ·rw[aa c,aa (by rw[<-V];exact ai c)]
  ·rw[ab c,ab (by rw[<-V];simpa using c)]
 have b2:(T=qh/\l2=ql)↔t*t=2*(X*D)*(2*(X*D))/n:=by
  rw[<-a9,<-a5];constructor
  ·rintro⟨rfl,rfl⟩;rfl
  ·intro h;have a1:∀p q u v:Nat,u<w64->v<w64->p*w64+u=q*w64+v->p=q/\u=v:=by
    intro p q u v hu hv h;rcases Nat.lt_trichotomy p q with c|c|c
    ·have:=be w64 (show p+1<=q from c);rw[f6]at this;omega
    ·subst c;exact⟨rfl,by omega⟩
    ·have:=be w64 (show q+1<=p from c);rw[f6]at this;omega
   exact a1 _ _ _ _ b0 a6 h
 rw[Zig];simp only[go_sem,z1,z2,hk,w1,w2,a3,a4,a7,hs,a8,w3,w4,w5,hg];rw[ab,ab,ab,ab,ab (by simp)];have N:t/2+1<9223372036854775808:=by omega
 have hT:∀k:Nat,J=k->k<9223372036854775808->((M [U (k:Int),B (decide (sgn x d<0))]).bind λo=>some [I (Af (nth .vD o 0)),B (Df (nth .vD o 1))])=some [I (if sgn x d<0 then-(J:Int)else J),B true]:=by
  intro k V T;rw[key _ k rfl V T];rfl
 have e3:((T:Int)=qh/\(l2:Int)=ql/\True)=(t*t=2*(X*D)*(2*(X*D))/n):=by
  rw[<-propext b2];exact propext ⟨λh=>⟨by omega,by omega⟩,λh=>⟨by omega,by omega,trivial⟩⟩
 simp only[e3,w6];have n1:((1:Int)>0)=True:=by simp
 have n2:((-1:Int)>0)=False:=by simp
 have n3:((-1:Int)=0)=False:=by simp
 have n4:((0:Int)>0)=False:=by simp
 by_cases cR:2*(X*D)*(2*(X*D))%n=0
 ·rw[ab (show¬0<2*(X*D)*(2*(X*D))%n by omega)];by_cases L:t%2=1
  ·by_cases cE:t*t=2*(X*D)*(2*(X*D))/n
   ·by_cases cn:sgn x d<0
    ·have:=a0 (λh=>h.2.elim (λg=>g ⟨cR,cE⟩) λg=>g cn);simp only[n1,n2,n3,n4,dm,L,cE,not_true_eq_false,dt,f8];rw[ab (by simp[cn])];exact hT _ this (by omega)
    ·have:=Y L (.inr cn);simp only[n1,n2,n3,n4,dm,L,cE,not_true_eq_false,dt,f8];rw[aa (by simp;omega)];exact hT _ this N
   ·have:=Y L (.inl λg=>cE g.2);simp only[n1,n2,n3,n4,dm,L,cE,not_true_eq_false,j4,dt,f8];exact hT _ this N
  ·have:=a0 (λh=>L h.1);simp only[n1,n2,n3,n4,dm,L,f8,ite_self];exact hT _ this (by omega)
 ·rw[aa (show 0<2*(X*D)*(2*(X*D))%n by omega)];by_cases L:t%2=1
  ·have:=Y L (.inl λg=>cR g.1);simp only[n1,n2,n3,n4,dm,L,j4,dt];exact hT _ this N
  ·have:=a0 (λh=>L h.1);simp only[n1,n2,n3,n4,dm,L,j4,dt,f8];exact hT _ this (by omega)
theorem Z0b {x d:Int} {n:Nat} (N:0<n) (O:0<=d) (G:Ez (x.natAbs*d.natAbs) n (decide (x*d<0)) J):(if x*d<0 then-(J:Int)else J)=Bv x d n:=by
 unfold Bv;rw[jc];by_cases L:x<0
 ·rw[aa L];by_cases M:d=0
  ·subst M;rw[Int.mul_zero,ab];rw[show x.natAbs*(0:Int).natAbs=0 from by simp]at G⊢;have e1:Ez 0 n true 0:=⟨.inl rfl,by simp⟩;rw[PL e1];obtain⟨I,-⟩:=G;rw[aj (by simp)]at I;simp only[dm,f8]at I;rcases I with I|I
   ·omega
   ·rcases d7 J with S|S
    ·omega
    ·have T:=Nat.mul_pos (Nat.mul_pos (show 0<2*J-1 by omega) (show 0<2*J-1 by omega)) N;omega
  ·have D:x*d<0:=Int.mul_neg_of_neg_of_pos L (by omega);rw[ai D]at G;rw[aa D,PL G]
 ·rw[ab L];have D: ¬x*d<0:=by have:=fq (show 0<=x by omega) O;omega
  rw[aj D]at G;rw[ab D,PL G]
theorem Yy {x d n:Int} (hx:x.natAbs<=2147483648) (hd:0<=d/\d<=2147483648) (hn:0<n/\n<=4611686018427387904):Iy [I x,I d,I n,I 2]=some [I (Bv x d n),B true]:=by
 obtain⟨N,rfl⟩:=bn (show 0<=n by omega);have hD:d.natAbs<=2147483648:=by omega
 have a1:x.natAbs*d.natAbs<=2147483648*2147483648:=dh hx hD;have O:0<N/\N<=4611686018427387904:=by omega
 have S:2*(x.natAbs*d.natAbs)<w64:=by rw[A7];omega
 obtain⟨G,l1,e1,e2,e3⟩:=O5 S S;have T:N<w64:=by rw[A7];omega
 have U:G<w64:=by
  have:=Nat.mul_lt_mul'' S S;rw[<-e2]at this;by_cases c:G<w64
  ·exact c
  ·have:=be w64 (show w64<=G by omega);omega
 obtain⟨qh,ql,q1,q2,q3,V⟩:=Zki (M:=GF) Zce U e3 O.1 T;rw[e2]at q1 V;obtain⟨t,r1,Y,r3,r4⟩:=Zei q2 q3;rw[V]at Y r3;obtain⟨h2,l2,p1,p2,p3⟩:=O5 r4 r4;have ht:t<=9223372036854775808:=by
  have k1:t*t<=2*(x.natAbs*d.natAbs)*(2*(x.natAbs*d.natAbs)):=bp Y (gr _ _);have k2:=Nat.mul_self_le_mul_self_iff.1 k1;omega
 have hi:=Zvm O.1 Y r3 (decide (x*d<0)) (E:=2*(x.natAbs*d.natAbs)*(2*(x.natAbs*d.natAbs))%N=0/\t*t=2*(x.natAbs*d.natAbs)*(2*(x.natAbs*d.natAbs))/N) Iff.rfl;have L:=Z0b O.1 hd.1 hi;rw[<-L];have:= @Zja x d;have a0:∀a:Int,(if x*d<0 then-a else a)=if sgn x d<0 then-a else a:=by
  intro a;by_cases c:x*d<0
  ·rw[aa c,aa (this.2 c)]
  ·rw[ab c,ab (λh=>c (this.1 h))]
 rw[a0];refine Z6x (X:=x.natAbs) (D:=d.natAbs) hx hD O (IF (by unfold i64;omega)) (IF (by unfold i64;omega)) (Qj6 (.inr (.inr rfl))) e1 q1 V q3 r1 r4 p1 p2 p3 (YD x d) Zcm Qgk Qw7 (λG h2=> ?_) (λh=> ?_) ht
 ·rw[aa ⟨G,h2.imp id λh=>aj λg=>h (this.2 g)⟩]
 ·rw[ab λg=>h ⟨g.1,g.2.imp id λk g2=>by rw[decide_eq_false_iff_not]at k;exact k (this.1 g2)⟩]
theorem Zaa (D:bd 67108864 q) (hb:bd 67108864 z):
    V (V (V (0+V (V (q.x-z.x)*V (q.x-z.x)))+V (V (q.y-z.y)*V (q.y-z.y)))+V (V (q.z-z.z)*V (q.z-z.z)))=sqD q z:=by
  have h:∀x y:Int,x.natAbs<=67108864->y.natAbs<=67108864->0<=(x-y)*(x-y)/\(x-y)*(x-y)<=18014398509481984:=by
    intro x y G I;exact Dq (x:=x-y) (A:=134217728) (by omega)
  have L:=h _ _ D.1 hb.1;have M:=h _ _ D.2.1 hb.2.1;have N:=h _ _ D.2.2 hb.2.2;obtain⟨a1,a2,a3⟩:=D;obtain⟨b1,b2,b3⟩:=hb;rw[Ae (x:=q.x-z.x),Ae (x:=q.y-z.y),Ae (x:=q.z-z.z)];unfold sqD ID B7;simp only;generalize(q.x-z.x)*(q.x-z.x)=u at*;generalize(q.y-z.y)*(q.y-z.y)=v at*;generalize(q.z-z.z)*(q.z-z.z)=w at*;rw[Ae (x:=u),Ae (x:=0+u),Ae (x:=v),Ae (x:=0+u+v),Ae (x:=w),Ae,Int.zero_add]
theorem Zjt {n:Nat} (G:bd 67108864 q) (hb:bd 67108864 z) (D:sqD q z=n)
    (L:∃r:Nat,M [I n,I 1]=some [I ((if((1:Int)=1/\r*r<n)\/((1:Int)=2/\r*r+r<n)then r+1 else r:Nat):Int),B true]/\r*r<=n/\n<(r+1)*(r+1)):
    W1 M [I q.x,I q.y,I q.z,I z.x,I z.y,I z.z]=some [I (AB q z)]:=by
  obtain⟨r,N,O,S⟩:=L;have T:=Q3p O S;rw[Zz7,Zaa G hb,D];simp only[go_sem,N];unfold AB;rw[D,Zd6 T];congr 3;by_cases c:r*r<n
  · rw[aa (.inl ⟨trivial,c⟩),aa c]
  · rw[ab (by simp[c]),ab c]
theorem Qd2 (D:bd 67108864 q) (hb:bd 67108864 z):Jm [I q.x,I q.y,I q.z,I z.x,I z.y,I z.z]=some [I (AB q z)]:=by
  have G:=Qj q z;have M:=P_ D hb (cm _);obtain⟨n,L⟩:=bn G;exact Zjt D hb L (Qxz (by omega) (.inl rfl))
theorem Ybw {MO:Fn} {a b:Spk} {u w:Int} (N:okS a) (hb:okS b) (O:u.natAbs<=100000000) (S:w.natAbs<=100000000)
    (T: ¬(u=0/\w=0)->MO [I u,I (hf a.r b.r),I (sq2 u w),I 2]=some [I (Bv u (hf a.r b.r) (sq2 u w)),B true]/\MO [I w,I (hf a.r b.r),I (sq2 u w),I 2]=some [I (Bv w (hf a.r b.r) (sq2 u w)),B true]):
    (bif u == 0 then
      bif w==0 then some [AC.int IntKind.i64 0,AC.int IntKind.i64 0,AC.int IntKind.i64 0,AC.int IntKind.i64 0,AC.bool false]
      else(MO [AC.int IntKind.i64 u,AC.int IntKind.i64 ((V (V (a.r+b.r)+1)).fdiv (2^min (Int.toNat 1) IntKind.i64.bits)),AC.int IntKind.i64 (V (V (u*u)+V (w*w))),AC.int IntKind.i64 2]).bind λD=>
       (MO [AC.int IntKind.i64 w,AC.int IntKind.i64 ((V (V (a.r+b.r)+1)).fdiv (2^min (Int.toNat 1) IntKind.i64.bits)),AC.int IntKind.i64 (V (V (u*u)+V (w*w))),AC.int IntKind.i64 2]).bind λG=>
       some [AC.int IntKind.i64 (Af (nth AC.vD D 0)),AC.int IntKind.i64 (Af (nth AC.vD G 0)),AC.int IntKind.i64 ((V (V (a.r+b.r)+1)).fdiv (2^min (Int.toNat 1) IntKind.i64.bits)),AC.int IntKind.i64 ((V (V (a.h+b.h)+1)).fdiv (2^min (Int.toNat 1) IntKind.i64.bits)),AC.bool true]
     else(MO [AC.int IntKind.i64 u,AC.int IntKind.i64 ((V (V (a.r+b.r)+1)).fdiv (2^min (Int.toNat 1) IntKind.i64.bits)),AC.int IntKind.i64 (V (V (u*u)+V (w*w))),AC.int IntKind.i64 2]).bind λD=>
       (MO [AC.int IntKind.i64 w,AC.int IntKind.i64 ((V (V (a.r+b.r)+1)).fdiv (2^min (Int.toNat 1) IntKind.i64.bits)),AC.int IntKind.i64 (V (V (u*u)+V (w*w))),AC.int IntKind.i64 2]).bind λG=>
       some [AC.int IntKind.i64 (Af (nth AC.vD D 0)),AC.int IntKind.i64 (Af (nth AC.vD G 0)),AC.int IntKind.i64 ((V (V (a.r+b.r)+1)).fdiv (2^min (Int.toNat 1) IntKind.i64.bits)),AC.int IntKind.i64 ((V (V (a.h+b.h)+1)).fdiv (2^min (Int.toNat 1) IntKind.i64.bits)),AC.bool true])=
    some (C2 (HG a b u w)++[B (decide (¬(u=0/\w=0)))]):=by
  have q1:=Dq O;have q2:=Dq S;have e:V (V (u*u)+V (w*w))=sq2 u w:=by
    unfold sq2;generalize u*u=x at*;generalize w*w=y at*;rw[Ae (x:=x),Ae (x:=y),Ae]
  have U:(V (V (a.r+b.r)+1)).fdiv (2^min (Int.toNat 1) IntKind.i64.bits)=hf a.r b.r:=by
    have X:=N.2.2.1;have Y:=hb.2.2.1;rw[Ae (x:=a.r+b.r),Ae (x:=a.r+b.r+1),show(2^min (Int.toNat 1) IntKind.i64.bits:Int)=2 from rfl,fj _ (by omega)];rfl
  have eh:(V (V (a.h+b.h)+1)).fdiv (2^min (Int.toNat 1) IntKind.i64.bits)=hf a.h b.h:=by
    have X:=N.2.2.2;have Y:=hb.2.2.2;rw[Ae (x:=a.h+b.h),Ae (x:=a.h+b.h+1),show(2^min (Int.toNat 1) IntKind.i64.bits:Int)=2 from rfl,fj _ (by omega)];rfl
  simp only[U,eh,e];simp only[go_sem];unfold HG;by_cases h:u=0/\w=0
  · rw[aa h.1,aa h.2,aa h]
    simp[h]
  · obtain⟨n1,n2⟩:=T h
    rw[ab h];simp only[n1,n2,go_sem];have hd:decide (¬(u=0/\w=0))=true:=ai h;rw[hd];by_cases L:u=0
    · rw[aa L,ab (λM=>h ⟨L,M⟩)];try rfl
    · rw[ab L];try rfl
theorem Zlq {a b:Spk} (O:okS a) (hb:okS b) {dir:Int} (G:dir=1\/dir= -1) (bI:Bool)
    (hO:∀{u w:Int},u.natAbs<=100000000->w.natAbs<=100000000-> ¬(u=0/\w=0)->M [I u,I (hf a.r b.r),I (sq2 u w),I 2]=some [I (Bv u (hf a.r b.r) (sq2 u w)),B true]/\M [I w,I (hf a.r b.r),I (sq2 u w),I 2]=some [I (Bv w (hf a.r b.r) (sq2 u w)),B true])
    (hC:Z [I a.u,I a.w,I a.r,I a.h,I b.u,I b.w,I b.r,I b.h]=some [I (crs a.u a.w b.u b.w)]) (hD:W [I a.u,I a.w,I a.r,I a.h,I b.u,I b.w,I b.r,I b.h]=some [I (dt2 a.u a.w b.u b.w)])
    (a0:(crs a.u a.w b.u b.w).natAbs<=5000000000000000):
    Qff M Z W [I a.u,I a.w,I a.r,I a.h,I b.u,I b.w,I b.r,I b.h,I dir,B bI]=some (C2 (EF a b dir bI)++[B (decide (¬((Du a b dir bI).1=0/\(Du a b dir bI).2=0)))]):=by
  have key:=fun{u w:Int} (U:u.natAbs<=100000000) (X:w.natAbs<=100000000)=>Ybw (MO:=M) (a:=a) (b:=b) O hb U X (hO U X);have L:=OB O hb G bI;obtain⟨a1,a2,-⟩:=O;obtain⟨b1,b2,-⟩:=hb;have w1:V (0-a.u)= -a.u:=by rw[Ae];omega
  have w2:V (0-a.w)= -a.w:=by rw[Ae];omega
  have w3:V (a.u+b.u)=a.u+b.u:=Ae;have w4:V (a.w+b.w)=a.w+b.w:=Ae;have w5:V (0-(a.u+b.u))= -(a.u+b.u):=by rw[Ae];omega
  have w6:V (0-(a.w+b.w))= -(a.w+b.w):=by rw[Ae];omega
  have w7:V (b.w-a.w)=b.w-a.w:=Ae;have w8:V (a.u-b.u)=a.u-b.u:=Ae;have w9:V (dir*(b.w-a.w))=dir*(b.w-a.w):=by rcases G with rfl|rfl<;>exact Ae
  have S:V (dir*(a.u-b.u))=dir*(a.u-b.u):=by rcases G with rfl|rfl<;>exact Ae
  have T:V (crs a.u a.w b.u b.w*dir)=crs a.u a.w b.u b.w*dir:=by rcases G with rfl|rfl<;>exact Ae
  rw[Zqr];try dsimp only[go_sem]
  unfold EF;simp only[w1,w2,w3,w4,w5,w6,w7,w8,w9,S,hC,hD,af,H4,HN,gA,jA,wA,bA,T];have fin:∀{x:Option (List AC)},x=some (C2 (HG a b (Du a b dir bI).1 (Du a b dir bI).2)++[B (decide (¬((Du a b dir bI).1=0/\(Du a b dir bI).2=0)))])->
      (bif dir !=1 then bif dir != -1 then some [AC.int IntKind.i64 0,AC.int IntKind.i64 0,AC.int IntKind.i64 0,AC.int IntKind.i64 0,AC.bool false]else x else x)=some (C2 (HG a b (Du a b dir bI).1 (Du a b dir bI).2)++[B (decide (¬((Du a b dir bI).1=0/\(Du a b dir bI).2=0)))]):=by
    intro x Y;rcases G with rfl|rfl
    · rw[Bj (by decide)];exact Y
    · rw[BG (by decide),Bj (by decide)];exact Y
  refine fin ?_;have D:=key L.1 L.2;unfold Du at*;cases bI
  · simp only[aq,dm,f8]at D⊢
    by_cases N:0<dt2 a.u a.w b.u b.w
    · rw[A1 (show¬dt2 a.u a.w b.u b.w<=0 by omega)]
      by_cases c2:0<crs a.u a.w b.u b.w*dir
      · rw[A1 (show¬crs a.u a.w b.u b.w*dir<=0 by omega)]
        rw[aa ⟨N,c2⟩]at D⊢;exact D
      · rw[DG (show crs a.u a.w b.u b.w*dir<=0 by omega)]
        rw[ab (λh=>c2 h.2),aa N]at D⊢;exact D
    · rw[DG (show dt2 a.u a.w b.u b.w<=0 by omega)]
      rw[ab (λh=>N h.1),ab N]at D⊢;exact D
  · simp only[ah,dt]at D⊢
    exact D
theorem Z94 {u w r:Int} (D:u.natAbs<=100000000) (G:w.natAbs<=100000000) (L:0<=r/\r<=50000000) (h: ¬(u=0/\w=0)):
    Iy [I u,I r,I (sq2 u w),I 2]=some [I (Bv u r (sq2 u w)),B true]/\Iy [I w,I r,I (sq2 u w),I 2]=some [I (Bv w r (sq2 u w)),B true]:=by
  have M:=Sh h;have N:=Dq D;have O:=Dq G;have S:sq2 u w<=20000000000000000:=by unfold sq2;omega
  exact⟨Yy (by omega) (by omega) (by omega),Yy (by omega) (by omega) (by omega)⟩
theorem Zms {a b:Spk} (D:okS a) (hb:okS b) {dir:Int} (G:dir=1\/dir= -1) (bI:Bool):
    Mz [I a.u,I a.w,I a.r,I a.h,I b.u,I b.w,I b.r,I b.h,I dir,B bI]=some (C2 (EF a b dir bI)++[B (decide (¬((Du a b dir bI).1=0/\(Du a b dir bI).2=0)))]):=by
  have L:=(Q4f D.1 D.2.1 hb.1 hb.2.1).2;exact Zlq D hb G bI (λM N h=>Z94 M N (Q5t D.2.2.1 hb.2.2.1) h)
    (Qnl (Ht D.1) (Ht D.2.1) (Ht hb.1) (Ht hb.2.1)) (Qkc (Ht D.1) (Ht D.2.1) (Ht hb.1) (Ht hb.2.1)) L
def okT (s:Spk):Prop:=okS s/\ ¬(s.u=0/\s.w=0)/\1<=s.r
theorem Qs0 {a b:Spk} (I: ¬(a.u=0/\a.w=0)) (hb: ¬(b.u=0/\b.w=0)) {dir:Int} (L:dir=1\/dir= -1) (bI:Bool): ¬((Du a b dir bI).1=0/\(Du a b dir bI).2=0):=by
  have M:=Sh I;unfold sq2 at M;unfold Du;split
  · simp only;omega
  · rename_i hf
    have key:0<dt2 a.u a.w b.u b.w-> ¬(a.u+b.u=0/\a.w+b.w=0):=by
      intro G ⟨N,O⟩;have e1:b.u= -a.u:=by omega
      have e2:b.w= -a.w:=by omega
      unfold dt2 at G;rw[e1,e2,Int.mul_neg,Int.mul_neg]at G;omega
    split
    · rename_i c;exact key c.1
    · split
      · rename_i S D
        have:=key D;simp only;omega
      · rename_i S D
        simp only;rintro⟨N,O⟩;have e1:b.w=a.w/\a.u=b.u:=by rcases L with rfl|rfl<;>omega
        unfold dt2 at D;rw[e1.1,<-e1.2]at D;omega
theorem Z88 {u w r:Int} (G:u.natAbs<=100000000) (I:w.natAbs<=100000000) (T:1<=r/\r<=50000000) (h: ¬(u=0/\w=0)): ¬(Bv u r (sq2 u w)=0/\Bv w r (sq2 u w)=0):=by
  have U:=Sh h;have V:=Dq G;have X:=Dq I;have Y:sq2 u w<=20000000000000000:=by unfold sq2;omega
  obtain⟨L,M⟩:=Zam u w;have key:∀x:Int,x.natAbs<=100000000->x*x<=sq2 u w->Bv x r (sq2 u w)=0->4*(x*x)<=sq2 u w:=by
    intro x N O S;obtain⟨-,-,D⟩:=TL (x:=x) (r:=r) (n:=sq2 u w) (bp N (by decide)) (by omega) (by omega) O;rw[S]at D;obtain⟨-,D⟩:=D;have g4:4*(x.natAbs*r.natAbs*(x.natAbs*r.natAbs))<=(sq2 u w).natAbs:=by
      rw[show(0:Int).natAbs=0 from rfl]at D;split at D<;>omega
    have e1:x.natAbs*r.natAbs*(x.natAbs*r.natAbs)=x.natAbs*x.natAbs*(r.natAbs*r.natAbs):=by grind
    have g5:x.natAbs*x.natAbs*1<=x.natAbs*x.natAbs*(r.natAbs*r.natAbs):=Nat.mul_le_mul_left _ (dh (show 1<=r.natAbs by omega) (show 1<=r.natAbs by omega));have e2:((x.natAbs*x.natAbs:Nat):Int)=x*x:=fm;omega
  rintro⟨g1,g2⟩;have k1:=key u G L g1;have k2:=key w I M g2;unfold sq2 at*;omega
theorem Z57 {a b:Spk} (D:okT a) (hb:okT b) {dir:Int} (I:dir=1\/dir= -1) (bI:Bool):okT (EF a b dir bI):=by
  have L:=Qs0 D.2.1 hb.2.1 I bI;have G:=OB D.1 hb.1 I bI;have N:=D.1.2.2.1;have O:=hb.1.2.2.1;have S:=D.2.2;have T:=hb.2.2;have M:1<=hf a.r b.r/\hf a.r b.r<=50000000:=by unfold hf;omega
  refine⟨Qz2 D.1 hb.1 I bI,?_,?_⟩
  · unfold EF HG
    rw[ab L];exact Z88 G.1 G.2 M L
  · unfold EF HG
    rw[ab L];exact M.1
theorem Z2q {r n:Int} (D:0<=r/\r<=50000000):Oc [I r,I n]=some [B (decide (n<=32*r-64))]:=by
  unfold Oc;rw[Z2e,Ae (x:=8*r),Ae (x:=8*r*4),Ae (x:=8*r*4-64),show 8*r*4-64=32*r-64 by omega]
theorem Zk5 {a b:Spk} (L:okS a) (hb:okS b) {dir:Int} (S:dir=1\/dir= -1) (bI:Bool)
    (T:∀{r n:Int},(0<=r/\r<=50000000)->M [I r,I n]=some [B (decide (n<=32*r-64))])
    (U:Z [I a.u,I a.w,I a.r,I a.h,I b.u,I b.w,I b.r,I b.h]=some [I (crs a.u a.w b.u b.w)]) (X:(crs a.u a.w b.u b.w).natAbs<=5000000000000000):
    Qin M Z [.vC DZ l,I a.u,I a.w,I a.r,I a.h,I b.u,I b.w,I b.r,I b.h,B bI,I dir]=some [.vC DZ l,B (decide (Io a b dir bI)),I dir]:=by
  have Y:0<=mn a.r b.r/\mn a.r b.r<=50000000:=by
    have h1:=L.2.2.1;have h2:=hb.2.2.1;unfold mn;split<;>omega
  obtain⟨a1,a2,-⟩:=L;obtain⟨b1,b2,-⟩:=hb;have N:=Iq a1 b1;have O:=Iq a2 b2;have q1:=Dq N;have q2:=Dq O;have e:V (V ((a.u-b.u)*(a.u-b.u))+V ((a.w-b.w)*(a.w-b.w)))=sq2 (a.u-b.u) (a.w-b.w):=by
    unfold sq2;generalize(a.u-b.u)*(a.u-b.u)=x at*;generalize(a.w-b.w)*(a.w-b.w)=y at*;rw[Ae (x:=x),Ae (x:=y),Ae]
  have G:V (crs a.u a.w b.u b.w*dir)=crs a.u a.w b.u b.w*dir:=by rcases S with rfl|rfl<;>exact Ae
  rw[Zix,IQ N (by decide),IQ O (by decide),e];cases bI
  · simp only[Bool.not_false,ah,U,af,H4,HN,gA,jA,wA,bA,G,T Y,Qpl]
    by_cases c:0<crs a.u a.w b.u b.w*dir
    · rw[DG (show crs a.u a.w b.u b.w*dir>0 from c)]
      by_cases D:sq2 (a.u-b.u) (a.w-b.w)<=32*mn a.r b.r-64
      · rw[ai D,ai (show Io a b dir false from⟨rfl,c,D⟩)]
      · rw[aj D,aj (λh:Io a b dir false=>D h.2.2)]
    · rw[A1 (show¬crs a.u a.w b.u b.w*dir>0 from c),aj (λh:Io a b dir false=>c h.2.1)]
  · simp only[Bool.not_true,aq]
    rw[aj (λh:Io a b dir true=>by cases h.1)]
theorem Zhh {out:Rw} {a b:Spk} (D:okS a) (hb:okS b) {dir:Int} (G:dir=1\/dir= -1) (bI:Bool):
    LB [.vC DZ out,I a.u,I a.w,I a.r,I a.h,I b.u,I b.w,I b.r,I b.h,B bI,I dir]=some [.vC DZ out,B (decide (Io a b dir bI)),I dir]:=
  Zk5 D hb G bI Z2q (Qnl (Ht D.1) (Ht D.2.1) (Ht hb.1) (Ht hb.2.1)) (Q4f D.1 D.2.1 hb.1 hb.2.1).2
theorem Qrh {dir:Int} (D:dir=1\/dir= -1):∀(n k:Nat) (bI:Bool) (a b:Spk) (out:List Spk),k<=16->k<n->okT a->okT b->out.length+2^k<=1000000->
    Ot n [.vC DZ (out.map C2),I a.u,I a.w,I a.r,I a.h,I b.u,I b.w,I b.r,I b.h,B bI,I (16-k:Int),I dir]=some [.vC DZ ((out++DN dir k bI a b).map C2),I dir]
  |0,k,_,_,_,_,_,M,_,_,_=>by omega
  |n+1,0,bI,a,b,out,_,_,G,hb,N=>by
    show UY _ _ _ _=_;rw[Qtq,A1 (by omega),BG]
    · unfold DN
      rw[bz];rfl
    · exact fw (by simp only[ap,ag,bf,cv];omega)
  |n+1,k+1,bI,a,b,out,M,T,G,hb,N=>by
    have L:=Z57 G hb D bI;have O:=Qs0 G.2.1 hb.2.1 D bI;have e3:2^(k+1)=2^k+2^k:=by rw[ia];omega
    have U:0<2^k:=ez _;have V:=(Vq k false a (EF a b dir bI) (dir:=dir)).2;have i1:=Qrh D n k false a (EF a b dir bI) out (by omega) (by omega) G L (by omega);have S:=Qrh D n k false (EF a b dir bI) b (out++DN dir k false a (EF a b dir bI)) (by omega) (by omega) L hb (by rw[ap];omega);have e1:=Zhh (out:=out.map C2) G.1 hb.1 D bI;have e2:=Zms G.1 hb.1 D bI;rw[ai O]at e2;show UY (Ot n) Mz LB _=_;generalize Ot n=X at*;generalize Mz=Y at*;generalize LB=MS at*;rw[Qtq,DG (by omega),Ae,show(16-((k+1:Nat):Int)+1)=16-(k:Int) by omega];unfold DN;generalize EF a b dir bI=m at*;generalize DN dir k false a m=p1 at*;generalize DN dir k false m b=p2 at*;simp only[ba,ax,C2]at e2;simp only[e1,e2,af,H4,Mm,LR,Ru,PU,HN,gA,jA,wA,bA,Qpl,i1,S,Qpx];by_cases c:Io a b dir bI
    · rw[aa c,Bj (by simp[c]),BG]
      · rw[bz];rfl
      · exact fw (by simp only[ap,ag,bf,cv];omega)
    · rw[ab c,BG (by simp[c]),ah,f7]
theorem Q4d {it:Itm} (D:bd 1048576 it.ce) (G:bd 1048576 q) (I:64<=sq2 (dU it q) (dW it q)):okT (Eu it q):=by
 obtain⟨T,U,L,M⟩:=QY D G;have e:sq2 (dU it q*16) (dW it q*16)=256*sq2 (dU it q) (dW it q):=by unfold sq2;grind
 refine⟨Ut D G,?_,?_⟩
 ·show¬(dU it q*16=0/\dW it q*16=0);rintro⟨g1,g2⟩;rw[show dU it q=0 by omega,show dW it q=0 by omega]at I;simp[sq2]at I
 ·show 1<=Fz _;obtain⟨n,N⟩:=bn L;rw[N]at M⊢;obtain⟨r,-,O,S,-⟩:=Vk (n:=n) (by omega);rw[Th (T1 O S)];have:1<=r:=by
   rcases d7 r with h|h
   ·subst h;omega
   ·exact h
  split<;>omega
theorem Zeq {n:Nat} (M:n<=2251799813685248):IV [I n,I 2]=some [I (Fz n),B true]:=by
 obtain⟨r,D,G,L⟩:=Qxz (n:=n) (mode:=2) (by omega) (.inr rfl);rw[D,Th (T1 G L)];congr 3;by_cases c:r*r+r<n
 ·rw[aa (.inr ⟨rfl,c⟩),aa c]
 ·rw[ab (by simp;omega),ab c]
theorem Z30 {it:Itm} (hV:∃v,P (Ah it)=some [B v]/\(v=true↔Dw it)) (h:Dw it)
  (O:it.aP=3->S (Ah it)=some [I (dU it it.fr*16),I (dW it it.fr*16),I 0,I (plH it.aG it.fr*16),I (dU it it.to*16),I (dW it it.to*16),I 0,I (plH it.aG it.to*16)])
  (L:∀p:Pt,it.aP=3->(p=it.fr\/p=it.to)->W [I (dU it p*16),I (dW it p*16),I 0,I (plH it.aG p*16),I (dU it p*16),I (dW it p*16),I 0,I (plH it.aG p*16)]=some [I (sq2 (dU it p*16) (dW it p*16))])
  (N:∀p:Pt,it.aP=3->(p=it.fr\/p=it.to)->Z [I (sq2 (dU it p*16) (dW it p*16)),I 2]=some [I (Fz (sq2 (dU it p*16) (dW it p*16))),B true])
  (T:it.aP=3->M (.vC DZ [C2 (Eu it it.fr)]::C2 (Eu it it.fr)++C2 (Eu it it.to)++[B it.bI,I 0,I it.dir])=some [.vC DZ ((DK it).map C2),I it.dir]):
  Qot M Z W S P (Ah it)=if it.aP=3 then some [.vC DZ ((DK it).map C2),B true]else some [.vC DZ [],B false]:=by
 obtain⟨v,U,G⟩:=hV;rw[Z4k];by_cases D:it.aP=3
 ·have e:=O D;have p:=T D;have V:=L it.fr D (.inl rfl);have X:=L it.to D (.inr rfl);have Y:=N it.fr D (.inl rfl);have q2:=N it.to D (.inr rfl);simp only[ba,ax,Eu,C2]at p;simp only[go_sem,U,e,V,X,Y,q2,p];rw[ab (by simp[D]),ab (by simp[G.2 h]),aa D]
 ·simp only[go_sem];rw[aa D,ab D]
theorem Zf5 {it:Itm} (h:Dw it):O2 (Ah it)=if it.aP=3 then some [.vC DZ ((DK it).map C2),B true]else some [.vC DZ [],B false]:=by
 have hb:it.aP=3->∀p:Pt,(p=it.fr\/p=it.to)->bd 1048576 it.ce/\bd 1048576 p:=by
  intro G p I;obtain⟨-,M,N,O⟩:=h;obtain⟨-,-,D,-⟩:=O G;rcases I with rfl|rfl
  ·exact⟨D,M⟩
  ·exact⟨D,N⟩
 refine Z30 (Qpd it) h (λG=> ?_) (λp G I=> ?_) (λp G I=> ?_) λG=> ?_
 ·obtain⟨-,M,N,O⟩:=h;obtain⟨I,-,D,-⟩:=O G;exact Zc4 I M N D
 ·obtain⟨D,L⟩:=hb G p I;obtain⟨g1,g2,-⟩:=QY D L;exact Qkc (bp g1 (by decide)) (bp g2 (by decide)) (bp g1 (by decide)) (bp g2 (by decide))
 ·obtain⟨D,L⟩:=hb G p I;obtain⟨-,-,S,T⟩:=QY D L;obtain⟨n,U⟩:=bn S;rw[U]at T⊢;exact Zeq (by omega)
 ·obtain⟨-,M,N,O⟩:=h;obtain⟨I,V,D,X,Y,-⟩:=O G;have:=Qrh V 20 16 it.bI (Eu it it.fr) (Eu it it.to) [Eu it it.fr] (by omega) (by omega) (Q4d D M X) (Q4d D N Y) (show 1+2^16<=1000000 by decide);exact this
theorem Zxf {u w h pl:Int} (G:C8 pl):Na [I u,I w,I h,I pl]=some (ptR (spP pl u w h)):=by
 show Qiy Fp _=_;have D:=Qgu pl;generalize Fp=M at*;rw[Zyj];rcases G with rfl|rfl|rfl
 ·have e:axI 17=(0,1,2):=rfl;rw[e]at D;rw[D];rfl
 ·have e:axI 18=(2,0,1):=rfl;rw[e]at D;rw[D];rfl
 ·have e:axI 19=(1,2,0):=rfl;rw[e]at D;rw[D];rfl
theorem Ziw {α:Type} (pre rest:List α) (x z:α):(pre++x::rest).set pre.length z=(pre++[z])++rest:=by
 rw[List.set_append_right _ _ (cm _),i9];simp
def Ee {α:Type} (f:Nat->α) (z:α) (n i:Nat):List α:=(List.range i).map f++List.replicate (n-i) z
theorem Q9y {α:Type} (f:Nat->α) (z:α) {n i:Nat} (h:i<=n):(Ee f z n i).length=n:=by unfold Ee;simp;omega
theorem Q4t {α:Type} (f:Nat->α) (z:α) {n i:Nat} (h:i<n):(Ee f z n i).set i (f i)=Ee f z n (i+1):=by
 unfold Ee;have e:n-i=(n-(i+1))+1:=by omega
 rw[e,List.replicate_succ];have:=Ziw ((List.range i).map f) (List.replicate (n-(i+1)) z) z (f i);rw[ag,List.length_range]at this;rw[this,List.range_succ,bz];rfl
theorem Qwr {α:Type} (f:Nat->α) (z:α) (n:Nat):Ee f z n n=(List.range n).map f:=by unfold Ee;simp
theorem Zit {α:Type} (l:List α) (d:α):(List.range l.length).map (λi=>l.getD i d)=l:=by
 apply List.ext_getElem
 ·simp
 ·intro i G D;simp[D]
def J1:Spk:=⟨0,0,0,0⟩
theorem Qwl {MS MP MF MK MV:Fn} {it:Itm} {l:List Spk} {cu cw:Int} (U:l.length<=65537) (N:cu.natAbs<=16777216) (O:cw.natAbs<=16777216) (L:∀s∈l,okS s)
  (T:∀{u w h:Int},MS [I u,I w,I h,I it.aG]=some (ptR (spP it.aG u w h))) {f:Nat->List AC} (hf:∀i,f i=ptR (spP it.aG (cu+(l.getD i J1).u) (cw+(l.getD i J1).w) (l.getD i J1).h)):
  ∀(k i:Nat),i+k=l.length->Am (Oi MS MP MF MK MV) (.vC kPt (Ee f [I 0,I 0,I 0] l.length i)::I cu::I cw:: .vC DZ (l.map C2)::I l.length::I i::Ah it)=
   some (1,[.vC kPt ((List.range l.length).map f)])
 |0,i,V=>by
  refine AQ ?_ (by simp);rw[Q26];simp only[go_sem];rw[ab,show i=l.length by omega,Qwr]
 |k+1,i,V=>by
  have D:i<l.length:=by omega
  have X:Oi MS MP MF MK MV (.vC kPt (Ee f [I 0,I 0,I 0] l.length i)::I cu::I cw:: .vC DZ (l.map C2)::I l.length::I i::Ah it)=
    some (0, .vC kPt (Ee f [I 0,I 0,I 0] l.length (i+1))::I cu::I cw:: .vC DZ (l.map C2)::I l.length::I (i+1:Nat)::Ah it):=by
   rw[Q26];have Y:nth [] (l.map C2) i=C2 l[i]:=Ja _ _ _ _ D;have ho:=L _ (cd D);have S:=Q9y f [I 0,I 0,I 0] (show i<=l.length by omega);have M:=hf i;rw[show l.getD i J1=l[i] by simp[D]]at M;have G:=Q4t f [I 0,I 0,I 0] D;rw[M]at G;generalize l[i]=s at*;obtain⟨s1,s2,-⟩:=ho;simp only[go_sem,al,ag,Y];rw[aa,aa,Ae (x:=cu+s.u),Ae (x:=cw+s.w),Ae (x:=(i:Int)+1)];simp only[T,go_sem,S];rw[aa,G];rfl
  rw[A5 X];exact Qwl U N O L T hf k (i+1) (by omega)
theorem Zz0 {MS G L MK M:Fn} {it:Itm} {S:List Spk} {f:Pt} {u w h:Int} (O:M (Ah it)=some [B true])
  (T:MK (Ah it)=some [.vC DZ (S.map C2),B true]) (hf:L [I it.ce.x,I it.ce.y,I it.ce.z]=some (ptR f)) (D:G [I f.x,I f.y,I f.z,I it.aG]=some [I u,I w,I h]) (V:S.length<=65537)
  (U:N [.vC kPt (List.replicate S.length [I 0,I 0,I 0]),I u,I w, .vC DZ (S.map C2),I S.length,I 0,I it.aP,I it.block,I it.fr.x,I it.fr.y,I it.fr.z,I it.to.x,I it.to.y,I it.to.z,I it.aG,I it.ce.x,I it.ce.y,I it.ce.z,I it.dir,B it.bI,I it.aZ,B it.perRev,I it.side,I it.radius,I it.bJ,I it.n,I it.aS,B it.on]=some (1,[.vC kPt l])):
  UI MS G L MK M N (Ah it)=some [.vC kPt l,B true]:=by
 rw[Wg];simp only[go_sem,O,T,hf,D,ag,al,U];rw[ab (by simp),ab (by simp),aa]
theorem Z9r {it:Itm} (hV:∃v,P (Ah it)=some [B v]/\(v=true↔Dw it)) (h:Dw it)
  (O:S (Ah it)=if it.aP=3 then some [.vC DZ ((DK it).map C2),B true]else some [.vC DZ [],B false])
  (T:∀{p:Pt},bd 100000000 p->W [I p.x,I p.y,I p.z]=some (ptR (Ax p))) (hP:C8 it.aG->∀{p:Pt},Z [I p.x,I p.y,I p.z,I it.aG]=some [I (plU it.aG p),I (plW it.aG p),I (plH it.aG p)])
  (hS:C8 it.aG->∀{u w h:Int},M [I u,I w,I h,I it.aG]=some (ptR (spP it.aG u w h))):
  UI M Z W S P (Am (Oi M Z W S P)) (Ah it)=some [.vC kPt ((Cj it).map ptR),B true]:=by
 obtain⟨v,hv,U⟩:=hV;rw[Wg];have V:=U.2 h;subst V;obtain⟨-,h1,h2,ha⟩:=id h;by_cases D:it.aP=3
 ·obtain⟨hp,hd,hc,-⟩:=ha D;rw[aa D]at O;obtain⟨c1,c2,c3⟩:=HY (pl:=it.aG) (E7 hc);have G:=(Qyl it).2;have X:=Qwl (MS:=M) (MP:=Z) (MF:=W) (MK:=S) (MV:=P) (it:=it) (l:=DK it) (cu:=plU it.aG (Ax it.ce)) (cw:=plW it.aG (Ax it.ce)) G c1 c2 (Q72 h D) (hS hp)
   (f:=λi=>ptR (JE it ((DK it).getD i J1))) (λ_=>rfl) (DK it).length 0 (by omega)
  have L:(List.range (DK it).length).map (λi=>ptR (JE it ((DK it).getD i J1)))=((DK it).map (JE it)).map ptR:=by
   rw[List.map_map]
   conv=>rhs;rw[<-Zit (DK it) J1]
   rw[List.map_map];rfl
  rw[L]at X;have Y:Ee (λi=>ptR (JE it ((DK it).getD i J1))) [I 0,I 0,I 0] (DK it).length 0=List.replicate (DK it).length [I 0,I 0,I 0]:=by unfold Ee;simp
  rw[Y]at X;have hf:=T (AR hc (by decide));have a0:= @hP hp (Ax it.ce);have:=Zz0 (MS:=M) (N:=Am (Oi M Z W S P)) hv O hf a0 G X;rw[Wg]at this;unfold Cj;rw[aa D];exact this
 ·rw[ab D]at O;have f1:=T (AR h1 (by decide));have f2:=T (AR h2 (by decide));unfold Cj;rw[ab D];simp only[go_sem,hv,O,f1,f2];simp
theorem Ybk {it:Itm} (h:Dw it):P1 (Ah it)=some [.vC kPt ((Cj it).map ptR),B true]:=
 Z9r (Qpd it) h (Zf5 h) Q4l (λD=>Qxl D) (λD=>Zxf D)
theorem Z5b {c a:Pt} (D:bd B24 c) (G:bd B24 a) (L:a≠c) (O:0<=d/\d<=33554432)
  (N:∀{x:Int},x.natAbs<=33554432*4->x*x<=sqD a c->M [I x,I d,I (sqD a c),I 2]=some [I (Bv x d (sqD a c)),B true]/\(Bv x d (sqD a c)).natAbs<=268435456):
  Qrg M [I c.x,I c.y,I c.z,I a.x,I a.y,I a.z,I d]=some (ptR (BN c a d)++[B true]):=by
 obtain⟨V,X,Y⟩:=Zad a c;have S:=Iq G.1 D.1;have T:=Iq G.2.1 D.2.1;have U:=Iq G.2.2 D.2.2;obtain⟨n1,b1⟩:=N (x:=a.x-c.x) (bp S (by decide)) V;obtain⟨n2,b2⟩:=N (x:=a.y-c.y) (bp T (by decide)) X;obtain⟨n3,b3⟩:=N (x:=a.z-c.z) (bp U (by decide)) Y;have h6: ¬d<0:=Int.not_lt.2 O.1;have h7: ¬d>33554432:=Int.not_lt.2 O.2;rw[Zh9,Zaa (AR G (by decide)) (AR D (by decide)),IQ S (by decide),IQ T (by decide),IQ U (by decide)];simp only[go_sem,n1,n2,n3];rw[ab (λh=>L (D0.2 ⟨h.1,h.2.1,h.2.2.1⟩)),ab h6,ab h7];rw[IQ (Ul D.1 b1) (by decide),IQ (Ul D.2.1 b2) (by decide),IQ (Ul D.2.2 b3) (by decide)];rfl
theorem Y5 {c a:Pt} (G:bd B24 c) (L:bd B24 a) (D:a≠c) (N:0<=d/\d<=33554432):
  GQ [I c.x,I c.y,I c.z,I a.x,I a.y,I a.z,I d]=some (ptR (BN c a d)++[B true]):=by
 have S:sqD a c≠0:=λh=>D (Qe7.1 h);have T:=Qj a c;have U:=P_ (AR L (by decide)) (AR G (by decide)) (show 67108864<=67108864 by omega);refine Z5b G L D N fun{x} M O=> ?_;obtain⟨-,g2,-⟩:=TL M (r:=d) (by omega) (n:=sqD a c) (by omega) O;exact⟨Yy (bp M (by decide)) (by omega) (by omega),g2⟩
theorem Qwe {p c q:Pt} (D:bd B24 p) (G:bd B24 c) (L:bd B24 q):GY [I p.x,I p.y,I p.z,I c.x,I c.y,I c.z,I q.x,I q.y,I q.z]=some [I (De p c q)]:=by
 have hb:=Q03 D G L;have g1:=Dq hb.1;have g2:=Dq hb.2.1;have M:=Dq hb.2.2;unfold GY;unfold bd B24 at D G L;have w:∀u v c:Int,u.natAbs<=16777216->v.natAbs<=16777216->c.natAbs<=16777216->V (V (u+v)-V (2*c))=u-c+(v-c):=by
  intro u v c N O S;rw[Ae (x:=u+v),Ae (x:=2*c),Ae];omega
 rw[Z1r,w _ _ _ D.1 L.1 G.1,w _ _ _ D.2.1 L.2.1 G.2.1,w _ _ _ D.2.2 L.2.2 G.2.2];have e1:p.x-c.x+(q.x-c.x)=(D8 p c q).x:=rfl;have e2:p.y-c.y+(q.y-c.y)=(D8 p c q).y:=rfl;have e3:p.z-c.z+(q.z-c.z)=(D8 p c q).z:=rfl;rw[e1,e2,e3];unfold De ID;generalize(D8 p c q).x*(D8 p c q).x=u at*;generalize(D8 p c q).y*(D8 p c q).y=v at*;generalize(D8 p c q).z*(D8 p c q).z=w at*;rw[Ae (x:=u),Ae (x:=0+u),Ae (x:=v),Ae (x:=0+u+v),Ae (x:=w),Ae,Int.zero_add]
open Classical in
theorem Zvq {a c b:Pt} (T:bd B24 a) (U:bd B24 c) (hb:bd B24 b) (D:a≠c) (G:b≠c) (O:0<=k/\k<=16000) (hd:0<=d/\d+v<=33554432) (he:0<v) (L:v.fdiv (2^min (Int.toNat 1) IntKind.i64.bits)=u)
  (l3:0<=AB a c/\AB a c<=268435456) (l4:0<=AB c b/\AB c b<=268435456)
  (V:∀{a:Pt} {d:Int},bd B24 a->a≠c->0<=d/\d<=33554432->Z [I c.x,I c.y,I c.z,I a.x,I a.y,I a.z,I d]=some (ptR (BN c a d)++[B true]))
  (hB:∀{p q:Pt},bd B24 p->bd B24 q->M [I p.x,I p.y,I p.z,I c.x,I c.y,I c.z,I q.x,I q.y,I q.z]=some [I (De p c q)]):
  NN M Z W [I k,I (mn (AB a c) (AB c b)-2),I d,I v,I a.x,I a.y,I a.z,I c.x,I c.y,I c.z,I b.x,I b.y,I b.z]=
   some (0,[I k,I (mn (AB a c) (AB c b)-2),I (if He a c b k (d+v)then d+v else d),I u,I a.x,I a.y,I a.z,I c.x,I c.y,I c.z,I b.x,I b.y,I b.z]):=by
 obtain⟨m1,m2⟩:=Vr (AB a c) (AB c b);have a0:0<=16*k*k/\16*k*k<=4096000000:=by
  have:=fd (show 16*k<=256000 by omega) O.2 O.1 (by omega);exact⟨fq (by omega) O.1,by omega⟩
 rw[Q63,L,Ae (x:=d+v),DG he,Ae (x:=16*k),Ae (x:=16*k*k)];by_cases h:d+v>mn (AB a c) (AB c b)-2
 ·rw[DG h,ab (λS:He a c b k (d+v)=>by have:=S.1;omega)]
 ·rw[A1 h];have k1:bd B24 (BN c a (d+v)):=K5 U T D (by omega);have k2:bd B24 (BN c b (d+v)):=K5 U hb G (by rw[Tv b c];omega);have X:=V (d:=d+v) T D (by omega);have Y:=V (d:=d+v) hb G (by omega);simp only[ba,ax,ptR]at X Y;simp only[X,Y,go_sem,hB k1 k2];by_cases N:De (BN c a (d+v)) c (BN c b (d+v))<=16*k*k
  ·rw[aa N,aa (show He a c b k (d+v)from⟨by omega,N⟩)]
  ·rw[ab N,ab (λS:He a c b k (d+v)=>N S.2)]
open Classical in
theorem Quq {M N ML:Fn} {a c b:Pt} {D m:Int}
  (G : ∀ {d e bit : Int}, 0 <= d /\ d + e <= 33554432 -> 0 < e -> e.fdiv (2 ^ min (Int.toNat 1) IntKind.i64.bits) = bit -> NN M N ML [I D, I m, I d, I e, I a.x, I a.y, I a.z, I c.x, I c.y, I c.z, I b.x, I b.y, I b.z] =
   some (0,[I D,I m,I (if He a c b D (d+e)then d+e else d),I bit,I a.x,I a.y,I a.z,I c.x,I c.y,I c.z,I b.x,I b.y,I b.z])):
  ∀(k:Nat) (d:Int),0<=d/\d+((2^(k+1):Nat):Int)<=33554432->
  Am (NN M N ML) [I D,I m,I d,I ((2^k:Nat):Int),I a.x,I a.y,I a.z,I c.x,I c.y,I c.z,I b.x,I b.y,I b.z]=some (1,[I (FH (He a c b D) k d)])
 |0,d,O=>by
  simp only[du,Nat.pow_one]at O;have L:∀d:Int,Am (NN M N ML) [I D,I m,I d,I 0,I a.x,I a.y,I a.z,I c.x,I c.y,I c.z,I b.x,I b.y,I b.z]=some (1,[I d]):=by
   intro d;refine AQ ?_ (by simp);rw[Q63];rw[A1 (by omega)]
  have S:=G (d:=d) (e:=1) (by omega) (by omega) Zb4;have e:((2^0:Nat):Int)=1:=rfl;rw[e,A5 S,L];rfl
 |k+1,d,O=>by
  have T:0<2^(k+1):=ez _;have e3:2^(k+1+1)=2^(k+1)+2^(k+1):=by rw[ia 2 (k+1)];omega
  rw[e3]at O;have S:=G (d:=d) (e:=((2^(k+1):Nat):Int)) (by omega) (by omega) (Qup k);rw[A5 S];unfold FH;refine Quq G k _ ?_;split<;>omega
theorem Z10 {a c b:Pt}
  (S:M [I a.x,I a.y,I a.z,I c.x,I c.y,I c.z]=some [I (AB a c)]) (T:M [I c.x,I c.y,I c.z,I b.x,I b.y,I b.z]=some [I (AB c b)])
  (V:0<=AB a c/\AB a c<=268435456) (X:0<=AB c b/\AB c b<=268435456)
  (U:a≠c->b≠c->N [I k,I (mn (AB a c) (AB c b)-2),I 0,I 16777216,I a.x,I a.y,I a.z,I c.x,I c.y,I c.z,I b.x,I b.y,I b.z]=some (1,[I (FH (He a c b k) 24 0)])):
  Qnz Z W M N [I a.x,I a.y,I a.z,I c.x,I c.y,I c.z,I b.x,I b.y,I b.z,I k]=some [I (Dn a c b k)]:=by
 rw[Zog];have m3:0<=mn (AB a c) (AB c b)/\mn (AB a c) (AB c b)<=268435456:=by unfold mn;split<;>omega
 unfold Dn;by_cases L:a=c
 ·rw[aa (.inl L)];have D:=D0.1 L;simp only[go_sem];rw[aa ⟨D.1,D.2.1,D.2.2,trivial⟩]
 ·by_cases D:b=c
  ·rw[aa (.inr D)];have G:=D0.1 D;simp only[go_sem];rw[ab (λh=>L (D0.2 ⟨h.1,h.2.1,h.2.2.1⟩)),aa ⟨G.1,G.2.1,G.2.2,trivial⟩]
  ·have O:=U L D;simp only[go_sem,S,T];rw[Ae];simp only[O,go_sem];rw[ab (λh=>L (D0.2 ⟨h.1,h.2.1,h.2.2.1⟩)),ab (λh=>D (D0.2 ⟨h.1,h.2.1,h.2.2.1⟩)),ab (show¬(a=c\/b=c)from λh=>h.elim L D)];by_cases G:FH (He a c b k) 24 0<16
   ·rw[aa G,aa G]
   ·rw[ab G,ab G]
theorem Z7z {a c b:Pt} (N:bd B24 a) (L:bd B24 c) (hb:bd B24 b) (O:0<=k/\k<=16000):
  LQ [I a.x,I a.y,I a.z,I c.x,I c.y,I c.z,I b.x,I b.y,I b.z,I k]=some [I (Dn a c b k)]:=by
 have A:=AR N (show B24<=67108864 by decide);have C:=AR L (show B24<=67108864 by decide);have D:=AR hb (show B24<=67108864 by decide);exact Z10 (Qd2 A C) (Qd2 C D) (Im A C) (Im C D)
  λS T=>Quq (λM he G=>Zvq N L hb S T O M he G (Im A C) (Im C D) (λhb U M=>Y5 L hb U M) λV X=>Qwe V L X) 24 0 (by decide)
theorem Zse {p c q:Pt} (U:M [I p.x,I p.y,I p.z,I c.x,I c.y,I c.z,I q.x,I q.y,I q.z]=some [I (De p c q)]):
  ∀(k:Nat) (n:Int),I_ n->64<=n*2^k->Am (Q0 M) [I n,I p.x,I p.y,I p.z,I c.x,I c.y,I c.z,I q.x,I q.y,I q.z]=some (1,[I (Li (De p c q) k n)]):=by
 have L:∀n:Int,I_ n->Q0 M [I n,I p.x,I p.y,I p.z,I c.x,I c.y,I c.z,I q.x,I q.y,I q.z]=if n<64/\De p c q>16*n*n*n*n*4*4 then some (0,[I (n*2),I p.x,I p.y,I p.z,I c.x,I c.y,I c.z,I q.x,I q.y,I q.z])else some (1,[I n]):=by
  intro n G;rw[Z8b];simp only[go_sem,U];have S:V (V (V (V (V (V (16*n)*n)*n)*n)*4)*4)=16*n*n*n*n*4*4/\V (n*2)=n*2:=by
   rcases G with rfl|rfl|rfl|rfl|rfl|rfl<;>decide
  rw[S.1,S.2];by_cases N:n<64
  ·rw[aa N];by_cases O:De p c q>16*n*n*n*n*4*4
   ·rw[aa O,aa ⟨N,O⟩]
   ·rw[ab O,ab (λh=>O h.2)]
  ·rw[ab N,ab (λh=>N h.1)]
 intro k;induction k with
 |zero=>
  intro n G D;have:n=64:=by rcases G with rfl|rfl|rfl|rfl|rfl|rfl<;>simp at D⊢
  subst this;refine AQ ?_ (by simp);rw[L _ G,ab];rfl
 |succ k X=>
  intro n G D;unfold Li;by_cases h:n<64/\De p c q>16*n*n*n*n*4*4
  ·rw[aa h];have T:=L n G;rw[aa h]at T;rw[A5 T];refine X (n*2) ?_ ?_
   ·rcases G with rfl|rfl|rfl|rfl|rfl|rfl<;>simp[I_]at h⊢
   ·rw[Int.pow_succ]at D;rw[Int.mul_assoc,ja 2];exact D
  ·rw[ab h];refine AQ ?_ (by simp);rw[L _ G,ab h]
theorem Yak {p c q:Pt} (D:bd B24 p) (G:bd B24 c) (L:bd B24 q):KI [I p.x,I p.y,I p.z,I c.x,I c.y,I c.z,I q.x,I q.y,I q.z]=some [I (Ks p c q)]:=by
 have N:=Zse (Qwe D G L) 5 2 (.inl rfl) (by decide);show Qau _ (Am (Q0 _)) _=_;generalize GY=M at*;rw[Zmz];simp only[go_sem,N];rfl
theorem Zct {α:Type} (d x:α):∀(l:List α) (i:Nat),i<l.length->nth d (l.set i x) i=x
 |a::l,0,_=>rfl
 |a::l,i+1,h=>by simp only[List.set_cons_succ,nth];exact Zct d x l i (by simpa using h)
theorem Zvz {n i p c q:Int} (D:2<=n/\n<=64) (G:0<=i/\i<=n) (L:p.natAbs<=B24) (M:c.natAbs<=B24) (N:q.natAbs<=B24):
  Bt [I (V (V (V (V (n-i)*V (n-i))*V (p-c))+V (V (i*i)*V (q-c)))),I 1,I (V (n*n)),I 2]=some [I (Bh ((n-i)*(n-i)*(p-c)+i*i*(q-c)) (n*n)),B true]:=by
 have O:0<n*n/\n*n<=4096:=⟨Int.mul_pos (by omega) (by omega),by have:=fd D.2 D.2 (by omega) (by omega);omega⟩;have S:0<=(n-i)*(n-i)/\(n-i)*(n-i)<=4096:=⟨Fx _,by have:=fd (show n-i<=64 by omega) (show n-i<=64 by omega) (by omega) (by omega);omega⟩;have T:0<=i*i/\i*i<=4096:=⟨Fx _,by have:=fd (show i<=64 by omega) (show i<=64 by omega) (by omega) (by omega);omega⟩;unfold B24 at*;rw[Ae (x:=n-i),Ae (x:=(n-i)*(n-i)),Ae (x:=p-c),Ae (x:=i*i),Ae (x:=q-c),Ae (x:=n*n)];have m1:=H6 (x:=(n-i)*(n-i)) (y:=p-c) (A:=4096) (B:=33554432) (by omega) (by omega);have m2:=H6 (x:=i*i) (y:=q-c) (A:=4096) (B:=33554432) (by omega) (by omega);generalize(n-i)*(n-i)*(p-c)=u at*;generalize i*i*(q-c)=v at*;rw[Ae (x:=u),Ae (x:=v),Ae];have h:=TZ (a:=u+v) (b:=1) (c:=n*n) (by unfold i64;omega) (by unfold i64;omega) (by omega) (by rw[show(1:Int).natAbs=1 from rfl,Nat.mul_one];omega);rw[Int.mul_one]at h;exact h
theorem Q7g {MR MP MT MC:Fn} {p c q:Pt} {N:Nat} (U:2<=N/\N<=64) (G:bd B24 p) (L:bd B24 c) (M:bd B24 q)
  (S:∀{i p c q:Int},(0<=i/\i<=N)->p.natAbs<=B24->c.natAbs<=B24->q.natAbs<=B24->MR [I (V (V (V (V ((N:Int)-i)*V ((N:Int)-i))*V (p-c))+V (V (i*i)*V (q-c)))),I 1,I (V ((N:Int)*(N:Int))),I 2]=some [I (Bh (((N:Int)-i)*((N:Int)-i)*(p-c)+i*i*(q-c)) ((N:Int)*(N:Int))),B true])
  {f:Nat->List AC} (hf:∀i:Nat,f i=ptR (On N i p c q)):
  ∀(k i:Nat),i+k=N+1->Am (OV MR MP MT MC) [.vC kPt (Ee f [I 0,I 0,I 0] (N+1) i),I N,I (N+1:Nat),I i,I c.x,I c.y,I c.z,I p.x,I p.y,I p.z,I q.x,I q.y,I q.z]=
   some (1,[.vC kPt ((List.range (N+1)).map f)])
 |0,i,X=>by
  obtain rfl:i=N+1:=by omega
  refine AQ ?_ (by simp);rw[Qs7,Qwr,A1 (by omega)]
 |k+1,i,X=>by
  have b1:=NE (n:=N) (i:=i) (A:=B24) (by omega) (by omega) G.1 L.1 M.1;have b2:=NE (n:=N) (i:=i) (A:=B24) (by omega) (by omega) G.2.1 L.2.1 M.2.1;have b3:=NE (n:=N) (i:=i) (A:=B24) (by omega) (by omega) G.2.2 L.2.2 M.2.2;have Y:=S (i:=i) (by omega) G.1 L.1 M.1;have r2:=S (i:=i) (by omega) G.2.1 L.2.1 M.2.1;have r3:=S (i:=i) (by omega) G.2.2 L.2.2 M.2.2;have hs:OV MR MP MT MC [.vC kPt (Ee f [I 0,I 0,I 0] (N+1) i),I N,I (N+1:Nat),I i,I c.x,I c.y,I c.z,I p.x,I p.y,I p.z,I q.x,I q.y,I q.z]=
    some (0,[.vC kPt (Ee f [I 0,I 0,I 0] (N+1) (i+1)),I N,I (N+1:Nat),I (i+1:Nat),I c.x,I c.y,I c.z,I p.x,I p.y,I p.z,I q.x,I q.y,I q.z]):=by
   have hlen:=Q9y f [I 0,I 0,I 0] (show i<=N+1 by omega);have D:=Q4t f [I 0,I 0,I 0] (show i<N+1 by omega);rw[hf i]at D;generalize Ee f [I 0,I 0,I 0] (N+1) i=l at*;have O:∀x:List AC,nth [] (l.set i x) i=x:=λx=>Zct _ _ _ _ (by omega);rw[Qs7];have T:(0:Int)<=(i:Int)/\(i:Int)<((N+1:Nat):Int):=by omega
   simp only[go_sem,Y,r2,r3,al,hlen,aa T,List.set_set,O,il];rw[aa];unfold OG B24 at b1 b2 b3;rw[Ae (x:=c.x+_),Ae (x:=c.y+_),Ae (x:=c.z+_),Ae (x:=(i:Int)+1)];rw[<-D];rfl
  rw[A5 hs];exact Q7g U G L M S hf k (i+1) (by omega)
theorem Zu0 {a c b:Pt} (M:bd B24 a) (D:bd B24 c) (hb:bd B24 b) (ht:0<=k/\k<=16000):
  PD [I a.x,I a.y,I a.z,I c.x,I c.y,I c.z,I b.x,I b.y,I b.z,I k]=some [.vC kPt ((F6 a c b k).map ptR)]:=by
 show Ql6 _ _ _ _ (Am (OV _ _ _ _)) _=_;have e1:=Z7z M D hb ht;have hR:= @Zvz;generalize LQ=Y at*;unfold F6;by_cases h:Dn a c b k=0
 ·rw[aa h];rw[Q4v];simp only[go_sem,e1];rw[aa h];rfl
 ·rw[ab h];obtain⟨h1,h2,h3,h4,h5,-⟩:=Qph h;obtain⟨m1,m2⟩:=Vr (AB a c) (AB c b);have h0: ¬Dn a c b k=0:=h;generalize Dn a c b k=d at*;have O:bd B24 (BN c a d):=K5 D M h1 (by omega);have S:bd B24 (BN c b d):=K5 D hb h2 (by rw[Tv b c];omega);have t1:=Y5 D M h1 (d:=d) (by omega);have t2:=Y5 D hb h2 (d:=d) (by omega);have p1:=Yak O D S;have p2:=(WD O D S).2;generalize Ks (BN c a d) c (BN c b d)=n at*;obtain⟨N,rfl⟩:∃N:Nat,n=N:=⟨n.toNat,by rcases p2 with rfl|rfl|rfl|rfl|rfl|rfl<;>rfl⟩;have hN:2<=N/\N<=64:=by unfold I_ at p2;omega
  have T:=Q7g (MR:=Bt) (MP:=KI) (MT:=GQ) (MC:=Y) hN O D S (λhi hp D hq=>hR (by omega) hi hp D hq) (f:=λi=>ptR (On N i (BN c a d) c (BN c b d))) (λ_=>rfl) (N+1) 0 (by omega);have U:∀f:Nat->List AC,Ee f [I 0,I 0,I 0] (N+1) 0=List.replicate (N+1) [I 0,I 0,I 0]:=λf=>by unfold Ee;rw[List.range_zero,dq,ax,Nat.sub_zero]
  rw[U]at T;generalize Bt=MR at*;generalize KI=MP at*;generalize GQ=MT at*;generalize BN c a d=p at*;generalize BN c b d=q at*;rw[Q4v];simp only[ba,ax,ptR]at t1 t2;have G:(List.range (N+1)).map (fun(i:Nat)=>ptR (On N i p c q))=((List.range ((N:Int).toNat+1)).map fun(i:Nat)=>On N i p c q).map ptR:=by rw[List.map_map,al];rfl
  rw[G]at T;generalize((List.range ((N:Int).toNat+1)).map fun(i:Nat)=>On N i p c q).map ptR=C at*;generalize Am (OV MR MP MT Y)=L at*;have X:L [.vC kPt (List.replicate (N+1) [I 0,I 0,I 0]),I N,I (N+1:Nat),I 0,I c.x,I c.y,I c.z,I p.x,I p.y,I p.z,I q.x,I q.y,I q.z]=some (1,[.vC kPt C]):=T;have w1:V ((N:Int)+1)=((N+1:Nat):Int):=by rw[Ae];rfl
  simp only[e1,t1,t2,p1,w1,af,H4,Mm,LR,HN,gA,jA,wA,bA,al,List.length_replicate,Qpx];rw[Bj (by simpa using h0),DG trivial,BG (by simp;omega),X];rfl
end Go.Bm
namespace Go.Bm
open Classical
theorem Rv (k:Int):Dz [I k]=some [B (decide (1<=k/\k<=6))]:=by
 unfold Dz;rw[Ycn];by_cases h:1<=k
 ·rw[DG (show k>=1 from h)];by_cases D:k<=6
  ·rw[ai D,ai ⟨h,D⟩]
  ·rw[aj D,aj λG=>D G.2]
 ·rw[A1 (show¬k>=1 from h),aj λG=>h G.1]
theorem UN (it:Itm):EM (Ah it)=some [B (decide (smI it))]:=by
 unfold EM;rw[Ybt];by_cases h:it.aP=2
 ·rw[BG (by simp[h])];congr 2;by_cases G:it.fr=it.to
  ·have D:=D0.1 G;rw[aj (λI:smI it=>I.2 G)];simp[D.1,D.2.1,D.2.2]
  ·rw[ai (show smI it from⟨h,G⟩)];have D: ¬(it.fr.x=it.to.x/\it.fr.y=it.to.y/\it.fr.z=it.to.z):=λD=>G (D0.2 D);simp only[B,AC.bool.injEq,jg,Bool.and_true];by_cases a:it.fr.x=it.to.x<;>by_cases b:it.fr.y=it.to.y<;>by_cases c:it.fr.z=it.to.z<;>simp[a,b,c]at D⊢
 ·rw[Bj (by simp[h]),aj (λI:smI it=>h I.1)]
theorem Tw {it:Itm} (D:bd 1048576 it.fr) (G:bd 1048576 it.to):F7 (Ah it)=some (ptR (A9 it)):=by
 obtain⟨a1,a2,a3⟩:=D;obtain⟨b1,b2,b3⟩:=G;unfold F7;rw[Zpf,Ae (x:=it.fr.x+it.to.x),Ae (x:=(it.fr.x+it.to.x)*8),Ae (x:=it.fr.y+it.to.y),Ae (x:=(it.fr.y+it.to.y)*8),Ae (x:=it.fr.z+it.to.z),Ae (x:=(it.fr.z+it.to.z)*8)];rfl
theorem Ycg (h:bd 100000000 q):Ou [I q.x,I q.y,I q.z]=some (ptR (Ax q)):=by
 unfold Ou;rw[Zoo];obtain⟨D,G,L⟩:=h;rw[Ae,Ae,Ae];rfl
theorem Qxa (it:Itm):HM (Ah it)=some [B (decide (syI it))]:=by
 unfold HM;rw[Zuv];by_cases D:it.aP=5
 ·rw[BG (by simp[D]),ai (show syI it from .inl D)]
 ·rw[Bj (by simp[D])];by_cases G:it.aP=6
  ·rw[ai (show syI it from .inr G)];simp[G]
  ·rw[aj (show¬syI it from λh=>h.elim D G)];simp[G]
theorem Zut {it:Itm} (hM:Z [I it.aP]=some [B (decide (1<=it.aP/\it.aP<=6))]) (hV:∃v,M (Ah it)=some [B v]/\(v=true↔Dw it)):
  Qjd M Z (Ah it)=some [I (if Ce it then 1 else 0)]:=by
 obtain⟨v,hv,N⟩:=hV;have D:∀{x:Int},(Ce it->x=1)->(¬Ce it->x=0)->some [I x]=some [I (if Ce it then 1 else 0)]:=by
  intro x h1 h2;by_cases c:Ce it
  ·rw[aa c,h1 c]
  ·rw[ab c,h2 c]
 rw[Zrq];simp only[go_sem,hM,hv];unfold Ce AF at D⊢;have one:∀{P:Prop},P->(P->(1:Int)=1)/\(¬P->(1:Int)=0):=λh=>⟨λ_=>rfl,λg=>absurd h g⟩;have zero:∀{P:Prop},¬P->(P->(0:Int)=1)/\(¬P->(0:Int)=0):=λh=>⟨λg=>absurd g h,λ_=>rfl⟩;by_cases O:it.aP<1
 ·rw[aa O];exact D (λ_=>rfl) λg=>absurd (.inl O) g
 rw[ab O];by_cases S:it.aP>14
 ·rw[aa S];exact D (λ_=>rfl) λg=>absurd (.inr (.inl S)) g
 rw[ab S];by_cases G:1<=it.aP/\it.aP<=6
 ·simp only[aa G];have T:it.aP≠8:=by omega
  simp only[ab T];by_cases L:Dw it
  ·rw[ab (by simp[N.2 L])];by_cases U:it.bJ<0
   ·rw[aa U];exact D (λ_=>rfl) λg=>absurd (.inr (.inr (.inl ⟨G, .inr (.inr (.inl U))⟩))) g
   rw[ab U];by_cases V:it.bJ>1000
   ·rw[aa V];exact D (λ_=>rfl) λg=>absurd (.inr (.inr (.inl ⟨G, .inr (.inr (.inr V))⟩))) g
   rw[ab V];by_cases X:it.aP=1
   ·rw[ab (show¬it.aP≠1 by omega)];refine D (λg=> ?_) λ_=>rfl;rcases g with g|g|⟨-,g|g|g|g⟩|g
    ·omega
    ·omega
    ·exact absurd L g
    ·omega
    ·omega
    ·omega
    ·omega
   ·rw[aa X];by_cases Y:it.aZ<1
    ·rw[aa Y];exact D (λ_=>rfl) λg=>absurd (.inr (.inr (.inl ⟨G, .inr (.inl ⟨X, .inl Y⟩)⟩))) g
    rw[ab Y];by_cases c9:it.aZ>60000000
    ·rw[aa c9];exact D (λ_=>rfl) λg=>absurd (.inr (.inr (.inl ⟨G, .inr (.inl ⟨X, .inr c9⟩)⟩))) g
    rw[ab c9];refine D (λg=> ?_) λ_=>rfl;rcases g with g|g|⟨-,g|g|g|g⟩|g
    ·omega
    ·omega
    ·exact absurd L g
    ·omega
    ·omega
    ·omega
    ·omega
  ·rw[aa (λh=>L (N.1 h))];exact D (λ_=>rfl) λg=>absurd (.inr (.inr (.inl ⟨G, .inl L⟩))) g
 ·simp only[ab G];by_cases L:it.aP=8
  ·rw[aa L];by_cases d1:it.n<3
   ·rw[aa d1];exact D (λ_=>rfl) λg=>absurd (.inr (.inr (.inr ⟨G,L, .inl d1⟩))) g
   rw[ab d1];by_cases d2:it.n>5
   ·rw[aa d2];exact D (λ_=>rfl) λg=>absurd (.inr (.inr (.inr ⟨G,L, .inr (.inl d2)⟩))) g
   rw[ab d2];by_cases d3:it.aS<0
   ·rw[aa d3];exact D (λ_=>rfl) λg=>absurd (.inr (.inr (.inr ⟨G,L, .inr (.inr (.inl d3))⟩))) g
   rw[ab d3];by_cases d4:it.aS>30000
   ·rw[aa d4];exact D (λ_=>rfl) λg=>absurd (.inr (.inr (.inr ⟨G,L, .inr (.inr (.inr d4))⟩))) g
   rw[ab d4];refine D (λg=> ?_) λ_=>rfl;rcases g with g|g|⟨g,-⟩|⟨-,-,g⟩
   ·omega
   ·omega
   ·exact absurd g G
   ·omega
  ·rw[ab L];refine D (λg=> ?_) λ_=>rfl;rcases g with g|g|⟨g,-⟩|⟨-,g,-⟩
   ·omega
   ·omega
   ·exact absurd g G
   ·omega
theorem Ybj (it:Itm):Jo (Ah it)=some [I (if Ce it then 1 else 0)]:=Zut (Rv _) (Qpd it)
def C3:List Itm->Nat->Nat
 |[],k=>k
 |it::l,k=>if it.aP=10 then C3 l (k+1)else k
def C7 (aA:List Itm) (i:Nat):Nat:=C3 (aA.drop (i+1)) (i+1)
theorem Qoo:∀(l:List Itm) (k:Nat),k<=C3 l k/\C3 l k<=k+l.length
 |[],k=>by simp[C3]
 |it::l,k=>by
  unfold C3;split
  ·have:=Qoo l (k+1);simp;omega
  ·simp
theorem Q18:∀(l:List Itm) (k:Nat),Gw l k=if C3 l k-k<l.length/\smI (l.getD (C3 l k-k) it0)then(C3 l k:Int)else-1
 |[],k=>by simp[Gw]
 |it::l,k=>by
  have L:=Qoo l (k+1);by_cases D:it.aP=10
  ·have e1:Gw (it::l) k=Gw l (k+1):=by rw[Gw,aa D]
   have e2:C3 (it::l) k=C3 l (k+1):=by rw[C3,aa D]
   rw[e1,e2,Q18 l (k+1)];have e3:C3 l (k+1)-k=(C3 l (k+1)-(k+1))+1:=by omega
   rw[e3,List.getD_cons_succ];by_cases c:C3 l (k+1)-(k+1)<l.length
   ·have I:C3 l (k+1)-(k+1)+1<(it::l).length:=by simp;omega
    by_cases G:smI (l.getD (C3 l (k+1)-(k+1)) it0)
    ·rw[aa ⟨c,G⟩,aa ⟨I,G⟩]
    ·rw[ab (λg=>G g.2),ab (λg=>G g.2)]
   ·rw[ab (λg=>c g.1),ab (λg=>c (by have:=g.1;simp at this;omega))]
  ·have e1:Gw (it::l) k=if smI it then(k:Int)else-1:=by rw[Gw,ab D]
   have e2:C3 (it::l) k=k:=by rw[C3,ab D]
   rw[e1,e2,i9,List.getD_cons_zero];by_cases c:smI it
   ·rw[aa c,aa ⟨by simp,c⟩]
   ·rw[ab c,ab (λg=>c g.2)]
theorem Q3h {aA:List Itm} (N:aA.length<=1000000):∀(k i:Nat),i+k=aA.length->
  Am P8 [.vC Ai (aA.map Ah),I i]=some (1,[I (C3 (aA.drop i) i)])
 |0,i,O=>by
  refine AQ ?_ (by simp);rw[Q8q];simp only[go_sem,ag];rw[ab,d6 (by omega)];rfl
 |k+1,i,O=>by
  have G:i<aA.length:=by omega
  have S:=E_ G;rw[Qof G];have D:P8 [.vC Ai (aA.map Ah),I i]=if(vE aA i).aP=10 then some (0,[.vC Ai (aA.map Ah),I (i+1:Nat)])else some (1,[I i]):=by
   rw[Q8q];have M:(0:Int)<=(i:Int)/\(i:Int)<(aA.length:Int):=by omega
   simp only[go_sem,ag,al,S,aa M];rw[aa,Ae];rfl
  unfold C3;by_cases L:(vE aA i).aP=10
  ·rw[aa L]at D⊢;rw[A5 D];exact Q3h N k (i+1) (by omega)
  ·rw[ab L]at D⊢;exact AQ D (by simp)
theorem Qdb {aA:List Itm} (D:aA.length<=1000000) {i:Nat} (G:i<aA.length):Fa [.vC Ai (aA.map Ah),I i]=some [I (C7 aA i)]:=by
 show Qfp (Am P8) _=_;have h:=Q3h D (aA.length-(i+1)) (i+1) (by omega);rw[Zr8,Ae,show(i:Int)+1=((i+1:Nat):Int) by omega,h];rfl
theorem Q4b {aA:List Itm}:B4 aA i=if smI (vE aA i)/\(vE aA i).bJ≠0/\C7 aA i<aA.length/\smI (vE aA (C7 aA i))then(C7 aA i:Int)else-1:=by
 unfold B4;by_cases h:smI (vE aA i)/\(vE aA i).bJ≠0
 ·rw[aa h,Q18];have D:=Qoo (aA.drop (i+1)) (i+1);rw[dk]at D;have e:(aA.drop (i+1)).getD (C3 (aA.drop (i+1)) (i+1)-(i+1)) it0=vE aA (C7 aA i):=by
   unfold vE;rw[ep,d8,ep];have:i+1+(C3 (aA.drop (i+1)) (i+1)-(i+1))=C7 aA i:=by unfold C7;omega
   rw[this]
  rw[e,dk];have e2:C3 (aA.drop (i+1)) (i+1)=C7 aA i:=rfl;rw[e2]at D⊢;by_cases c:C7 aA i<aA.length/\smI (vE aA (C7 aA i))
  ·rw[aa ⟨by omega,c.2⟩,aa ⟨h.1,h.2,c⟩]
  ·rw[ab (λg=>c ⟨by have:=g.1;omega,g.2⟩),ab (λg=>c g.2.2)]
 ·rw[ab h,ab (λg=>h ⟨g.1,g.2.1⟩)]
theorem Zx4 {aA:List Itm} (V:∀it,M (Ah it)=some [B (decide (smI it))]) {i:Nat} (Y:i<aA.length) (hN:Z [.vC Ai (aA.map Ah),I i]=some [I (C7 aA i)]):
  XV M Z [.vC Ai (aA.map Ah),I i]=some [B (decide (0<=B4 aA i))]:=by
 have hr:=E_ Y;have X:=V (vE aA i);rw[Z25,Q4b];simp only[Ah]at X;have S:(0:Int)<=(i:Int)/\(i:Int)<(aA.length:Int):=by omega
 simp only[go_sem,ag,al,hr,X,hN,aa S];by_cases L:smI (vE aA i)
 case neg=>rw[ab L,ab (λg=>L g.1)];simp
 rw[aa L];by_cases N:(vE aA i).bJ=0
 ·rw[ab (by simp[N]),ab (λg=>g.2.1 N)];simp
 rw[aa N];by_cases T:C7 aA i<aA.length
 ·have U:=E_ T;have D:=V (vE aA (C7 aA i));simp only[Ah]at D;have G:(0:Int)<=(C7 aA i:Int)/\(C7 aA i:Int)<(aA.length:Int):=by omega
  rw[aa,aa G];simp only[go_sem,U,D];by_cases O:smI (vE aA (C7 aA i))
  ·rw[ai O,aa ⟨L,N,T,O⟩,ai (by omega)]
  ·rw[aj O,ab (λg=>O g.2.2.2)];simp
 ·rw[ab,ab (λg=>T g.2.2.1)];simp
theorem Qs6 {aA:List Itm} (G:aA.length<=1000000) {i:Nat} (D:i<aA.length):Hk [.vC Ai (aA.map Ah),I i]=some [B (decide (0<=B4 aA i))]:=
 Zx4 UN D (Qdb G D)
theorem T7 {aA:List Itm} (h:0<=B4 aA i):B4 aA i=C7 aA i:=by
 rw[Q4b]at h⊢;split at h
 ·rename_i c;rw[aa c]
 ·omega
theorem Zo8 {a c b:Pt} (G:bd B24 a) (D:bd B24 c) (hb:bd B24 b):(F6 a c b k).length%2=1:=by
 unfold F6;by_cases h:Dn a c b k=0
 ·rw[aa h];rfl
 ·rw[ab h];obtain⟨I,L,S,T,U,-⟩:=Qph h;obtain⟨m1,m2⟩:=Vr (AB a c) (AB c b);generalize Dn a c b k=d at*;have M:bd B24 (BN c a d):=K5 D G I (by omega);have N:bd B24 (BN c b d):=K5 D hb L (by rw[Tv b c];omega);have O:=(WD M D N).2;generalize Ks (BN c a d) c (BN c b d)=n at*;rw[ag,List.length_range];rcases O with rfl|rfl|rfl|rfl|rfl|rfl<;>rfl
theorem Zvg {a b:Itm} {l:List Pt} (O:0<=a.bJ/\a.bJ<=1000) (T:1<=l.length/\l.length<=65) (D:l.length%2=1)
  (G:W (Ah a)=some (ptR (A9 a))) (L:W (Ah b)=some (ptR (A9 b))) (S:Z [I a.to.x,I a.to.y,I a.to.z]=some (ptR (Ax a.to)))
  (N:M (ptR (A9 a)++ptR (Ax a.to)++ptR (A9 b)++[I (a.bJ*16)])=some [.vC kPt (l.map ptR)]):
  Qi4 M Z W (Ah a++Ah b)=some [.vC kPt ((l.take (l.length/2+1)).map ptR), .vC kPt ((l.drop (l.length/2)).map ptR)]:=by
 simp only[Ah,ba,ax]at G L⊢;rw[Ycj];simp only[ptR,ba,ax]at N;simp only[go_sem,G,L,S];rw[Ae];simp only[N,go_sem,ag];have e:V ((V ((l.length:Int)-1)).tdiv 2)=((l.length/2:Nat):Int):=by
  rw[Ae (x:=(l.length:Int)-1),bq (by omega),Ae];omega
 have e2:V (((l.length/2:Nat):Int)+1)=((l.length/2+1:Nat):Int):=by rw[Ae];omega
 simp only[e,e2,al];rw[aa,aa,List.map_take,List.map_drop]
theorem Znn {a b:Itm} (D:drawn a) (G:drawn b):
  Rx (Ah a++Ah b)=some [.vC kPt (((F6 (A9 a) (Ax a.to) (A9 b) (a.bJ*16)).take ((F6 (A9 a) (Ax a.to) (A9 b) (a.bJ*16)).length/2+1)).map ptR), .vC kPt (((F6 (A9 a) (Ax a.to) (A9 b) (a.bJ*16)).drop ((F6 (A9 a) (Ax a.to) (A9 b) (a.bJ*16)).length/2)).map ptR)]:=
 have I:=Lr D.1.2.1 D.1.2.2.1;have L:=E7 D.1.2.2.1;have M:=Lr G.1.2.1 G.1.2.2.1
 Zvg D.2 (Q1q I L M).2 (Zo8 I L M) (Tw D.1.2.1 D.1.2.2.1) (Tw G.1.2.1 G.1.2.2.1) (Ycg (AR D.1.2.2.1 (by decide))) (Zu0 I L M (by have:=D.2;omega))
theorem Z0p {aA:List Itm} (hi:i<aA.length) (hd:drawn (vE aA i)) (hf:LX aA i a) (T:∀k<aA.length,AF (vE aA k)->drawn (vE aA k))
  (hK:O (Ah (vE aA i))=some [.vC kPt ((Cj (vE aA i)).map ptR),B true]) (hM:P (Ah (vE aA i))=some [B (decide (smI (vE aA i)))])
  (hJ:∀{i k:Nat},i<aA.length->k<aA.length->drawn (vE aA i)->drawn (vE aA k)->S (Ah (vE aA i)++Ah (vE aA k))=some [.vC kPt (((HI aA i k).take ((HI aA i k).length/2+1)).map ptR), .vC kPt (((HI aA i k).drop ((HI aA i k).length/2)).map ptR)])
  (hS:W [.vC Ai (aA.map Ah),I i]=some [B (decide (0<=B4 aA i))]) (hN:Z [.vC Ai (aA.map Ah),I i]=some [I (C7 aA i)]) (hC:M (Ah (vE aA i))=some (ptR (A9 (vE aA i)))):
  W2 M Z W S P O [.vC Ai (aA.map Ah),I i,I a]=some [.vC kPt ((CG aA i a).map ptR)]:=by
 have r1:=E_ hi;obtain⟨a6,a7⟩:=Qzv (vE aA i);rw[Zn0];simp only[Ah,ba,ax]at hK hM hC hJ;have a3:(0:Int)<=(i:Int)/\(i:Int)<(aA.length:Int):=by omega
 simp only[go_sem,ag,al,r1,hK,hM,hC,hS,hN,ax,aa a3];unfold CG;by_cases hs:smI (vE aA i)
 case neg=>rw[aa (by simp[hs]),ab hs]
 rw[ab (by simp[hs]),aa hs];have a4:(vE aA i).aP≠3:=by have:=hs.1;omega
 have U:(Cj (vE aA i)).length=2:=by unfold Cj;rw[ab a4];rfl
 have w1:V (((Cj (vE aA i)).length:Int)-1)=1:=by rw[U];rfl
 rw[w1,U,aa,aa];unfold Mq;rcases hf with rfl|⟨f,rfl,a0,a1⟩
 ·rw[ab (show¬(-1:Int)>=0 by omega)];unfold Jl;rw[ab (show¬(0:Int)<= -1 by omega)];by_cases D:0<=B4 aA i
  ·obtain⟨k,hk,G,L⟩:=Vz T D;have X:=T7 D;rw[hk]at X;have Y:C7 aA i=k:=by omega
   obtain⟨j1,j2,j3⟩:=Lw (aA:=aA) (i:=i) (k:=k) hd L;have hj:=hJ hi G hd L;have r2:=E_ G;have N:(0:Int)<=(k:Int)/\(k:Int)<(aA.length:Int):=by omega
   rw[aa D,aa D,hk,Y,al,aa N];simp only[go_sem,al,r2,hj];rw[aa (by simp[SB];omega),aa (by simp;omega),aa (by simp;omega)];simp only[SB,bz,bc,dq]
  ·rw[ab D,ab D,aa (by simp[SB];omega),aa (by simp;omega),aa (by simp;omega)];simp only[SB,Q55,bz,bc,dq]
 ·have a5:=hJ a0 hi a1 hd;obtain⟨f1,f2,f3⟩:=Lw (aA:=aA) (i:=f) (k:=i) a1 hd;have rf:=E_ a0;have a2:(0:Int)<=(f:Int)/\(f:Int)<(aA.length:Int):=by omega
  rw[aa (show(f:Int)>=0 by omega),aa a2];unfold Jl;rw[aa (show(0:Int)<=(f:Int) by omega),al];simp only[rf,go_sem,a5,al];by_cases D:0<=B4 aA i
  ·obtain⟨k,hk,G,L⟩:=Vz T D;have X:=T7 D;rw[hk]at X;have Y:C7 aA i=k:=by omega
   obtain⟨j1,j2,j3⟩:=Lw (aA:=aA) (i:=i) (k:=k) hd L;have hj:=hJ hi G hd L;have r2:=E_ G;have N:(0:Int)<=(k:Int)/\(k:Int)<(aA.length:Int):=by omega
   rw[aa D,aa D,hk,Y,al,aa N];simp only[go_sem,al,r2,hj];rw[aa (by simp;omega),aa (by simp;omega),aa (by simp;omega)];simp only[bz,bc,dq]
  ·rw[ab D,ab D,aa (by simp;omega),aa (by simp;omega),aa (by simp;omega)];simp only[Q55,bz,bc,dq]
theorem Z17 {aA:List Itm} (M:aA.length<=1000000) {i:Nat} {frm:Int} (L:i<aA.length) (G:drawn (vE aA i)) (hf:LX aA i frm) (D:∀k<aA.length,AF (vE aA k)->drawn (vE aA k)):
  Nf [.vC Ai (aA.map Ah),I i,I frm]=some [.vC kPt ((CG aA i frm).map ptR)]:=
 Z0p L G hf D (Ybk G.1) (UN _) (λS T N O=>Znn N O) (Qs6 M L) (Qdb M L) (Tw G.1.2.1 G.1.2.2.1)
theorem Q09 {N MS:Fn} {l:List Itm} (T:∀k:Int,N [I k]=some [B (decide (1<=k/\k<=6))]) (U:∀it,MS (Ah it)=some [B (decide (syI it))]) (X:l.length<=1000000):∀(k i:Nat),i+k=l.length->
  (Am (Lh N MS) [.vC Ai (l.map Ah),I l.length,I i]=some (1,[B (decide (HJ (l.drop i)=1))]))\/(Am (Lh N MS) [.vC Ai (l.map Ah),I l.length,I i]=some (2,[])/\HJ (l.drop i)=2)
 |0,i,Y=>by
  right;refine⟨AQ ?_ (by simp),by rw[d6 (by omega)];rfl⟩;rw[Qzj];simp only[go_sem];rw[ab]
 |k+1,i,Y=>by
  have L:i<l.length:=by omega
  have hr:=E_ L;rw[Qof L];have V:=U (vE l i);have hm:=T (vE l i).aP;have D:Lh N MS [.vC Ai (l.map Ah),I l.length,I i]=if AF (vE l i)then some (1,[B (decide (syI (vE l i)))])else some (0,[.vC Ai (l.map Ah),I l.length,I (i+1:Nat)]):=by
   rw[Qzj];simp only[Ah]at V;have S:(0:Int)<=(i:Int)/\(i:Int)<(l.length:Int):=by omega
   simp only[go_sem,ag,al,hr,V,hm,aa S];rw[aa,Ae];by_cases O:AF (vE l i)
   ·rw[aa (show 1<=(vE l i).aP/\(vE l i).aP<=6 from O),aa O]
   ·rw[ab (show¬(1<=(vE l i).aP/\(vE l i).aP<=6)from O),ab O];rfl
  unfold HJ;by_cases M:AF (vE l i)
  ·rw[aa M]at D⊢;left;rw[AQ D (by simp)];by_cases G:syI (vE l i)
   ·rw[aa G,ai G];rfl
   ·rw[ab G,aj G];rfl
  ·rw[ab M]at D⊢;rw[A5 D];exact Q09 T U X k (i+1) (by omega)
def I6 (aA:List Itm) (i:Nat):Prop:=(vE aA i).bJ=0\/syI (vE aA i)\/HJ (aA.drop (i+1))=1
theorem Z5i {aA:List Itm} (hM:∀k:Int,M [I k]=some [B (decide (1<=k/\k<=6))]) (Y:∀it,Z (Ah it)=some [B (decide (syI it))]) (hl:aA.length<=1000000) {i:Nat} (hi:i<aA.length):
  Qqt M Z (Am (Lh M Z)) [.vC Ai (aA.map Ah),I i]=some [B (decide (I6 aA i))]:=by
 have hr:=E_ hi;have hs:=Y (vE aA i);have G:=Q09 hM Y (l:=aA.drop (i+1)) (by rw[dk];omega) (aA.drop (i+1)).length 0 (by omega);rw[fg]at G;rw[Z09];simp only[Ah]at hs;have hw:V ((i:Int)+1)=((i+1:Nat):Int):=by rw[Ae];omega
 have U:(0:Int)<=(i:Int)/\(i:Int)<(aA.length:Int):=by omega
 have L:(0:Int)<=((i+1:Nat):Int)/\((i+1:Nat):Int)<=(aA.length:Int):=by omega
 have X:(List.drop (i+1) (aA.map Ah)).length=(aA.drop (i+1)).length:=by rw[dk,dk,ag]
 generalize Am (Lh M Z)=N at*;simp only[go_sem,ag,al,hr,hs,hw,aa U,aa L,X];rw[<-List.map_drop];by_cases O:(vE aA i).bJ=0
 ·rw[aa O,ai (show I6 aA i from .inl O)]
 ·rw[ab O];by_cases S:syI (vE aA i)
  ·rw[aa S,ai (show I6 aA i from .inr (.inl S))]
  ·rw[ab S];rcases G with G|⟨G,hn⟩
   ·have D:N [.vC Ai ((aA.drop (i+1)).map Ah),I (aA.drop (i+1)).length,I 0]=some (1,[B (decide (HJ (aA.drop (i+1))=1))]):=G;simp only[D,go_sem];by_cases T:HJ (aA.drop (i+1))=1
    ·rw[ai T,ai (show I6 aA i from .inr (.inr T))]
    ·rw[aj T,aj (show¬I6 aA i from λh=>h.elim O λh=>h.elim S T)]
   ·have D:N [.vC Ai ((aA.drop (i+1)).map Ah),I (aA.drop (i+1)).length,I 0]=some (2,[]):=G;simp only[D,go_sem];rw[aj (show¬I6 aA i from λh=>h.elim O λh=>h.elim S λh=>by rw[hn]at h;cases h)];simp
theorem Yce {aA:List Itm} (D:aA.length<=1000000) {i:Nat} (G:i<aA.length):RT [.vC Ai (aA.map Ah),I i]=some [B (decide (I6 aA i))]:=Z5i Rv Qxa D G
def JU (aA:List Itm) (i:Nat):Int:=if AF (vE aA i)then U5 aA i else Tx (vE aA i)
theorem Ydt {aA:List Itm} {aD:List Mrk} {b:Bool} (Y:i<aA.length) (a0:aD.length<=1000000)
  (hM:Z [I (vE aA i).aP]=some [B (decide (AF (vE aA i)))]) (hE:M [.vC Ai (aA.map Ah),I i]=some [B (decide (I6 aA i))]):
  Qkb M Z [.vC Ag T, .vC AD (aD.map At), .vC Ai (aA.map Ah),I i,I q.x,I q.y,I q.z,B b,I a,I v,I u]=
   some [.vC Ag T, .vC AD ((aD++[(⟨a,JU aA i,i⟩:Mrk)]).map At),I q.x,I q.y,I q.z,B b,I a,I v,I u]:=by
 have hr:=E_ Y;have U:(0:Int)<=(i:Int)/\(i:Int)<(aA.length:Int):=by omega
 have hb:(aD.length+1)*24<=140737488355328:=by omega
 have e:∀k:Int,aD.map At++[[I a,I k,I i]]=(aD++[(⟨a,k,i⟩:Mrk)]).map At:=λk=>by rw[bz];rfl
 rw[Ycq];simp only[go_sem,ag,al,hr,aa U,hM,hE,ap,bf,cv,aa hb];have fin:∀{k:Int},k=JU aA i->some [AC.vC Ag T, .vC AD (aD.map At++[[I a,I k,I i]]),I q.x,I q.y,I q.z,B b,I a,I v,I u]=some [.vC Ag T, .vC AD ((aD++[(⟨a,JU aA i,i⟩:Mrk)]).map At),I q.x,I q.y,I q.z,B b,I a,I v,I u]:=by
  intro k hk;rw[e,hk]
 unfold JU U5 Tx at fin⊢;by_cases O:(vE aA i).aP=4
 ·rw[aa O];have D:AF (vE aA i):=⟨by omega,by omega⟩;exact fin (by rw[aa D,aa O])
 ·rw[ab O];by_cases D:AF (vE aA i)
  ·rw[aa D];by_cases N:I6 aA i
   ·rw[aa N];refine fin ?_;rw[aa D,ab O];rcases N with h|h|h
    ·rw[aa h]
    ·by_cases S:(vE aA i).bJ=0
     ·rw[aa S]
     ·rw[ab S,aa h]
    ·by_cases S:(vE aA i).bJ=0
     ·rw[aa S]
     ·rw[ab S];by_cases X:syI (vE aA i)
      ·rw[aa X]
      ·rw[ab X,h]
   ·rw[ab N,aa D];refine fin ?_;rw[aa D,ab O,ab (λh=>N (.inl h)),ab (λh=>N (.inr (.inl h)))];have V:∀l:List Itm,HJ l=1\/HJ l=2:=by
     intro l;induction l with
     |nil=>right;rfl
     |cons it l ih=>
      unfold HJ;split
      ·split<;>simp
      ·exact ih
    rcases V (aA.drop (i+1))with h|h
    ·exact absurd (.inr (.inr h)) N
    ·rw[h]
  ·rw[ab D,ab D];by_cases G:(vE aA i).aP=10
   ·rw[aa G];exact fin (by rw[ab D,aa G])
   ·rw[ab G];by_cases L:(vE aA i).aP=13
    ·rw[aa L];exact fin (by rw[ab D,ab G,aa L])
    ·rw[ab L];exact fin (by rw[ab D,ab G,ab L])
theorem Zu6 {aA:List Itm} (O:aA.length<=1000000) {i:Nat} {aF:Rw} {aD:List Mrk} {D:Pt} {b:Bool} {len M G:Int} (N:i<aA.length) (L:aD.length<=1000000):
  Jg [.vC Ag aF, .vC AD (aD.map At), .vC Ai (aA.map Ah),I i,I D.x,I D.y,I D.z,B b,I len,I M,I G]=
   some [.vC Ag aF, .vC AD ((aD++[(⟨len,JU aA i,i⟩:Mrk)]).map At),I D.x,I D.y,I D.z,B b,I len,I M,I G]:=
 Ydt N L (Rv _) (Yce O N)
theorem Zrj (a:Pt) (aF:List Sgm):aF=[]\/∃l g,aF=l++[g]/\Fb a aF=g.to/\((aF.length:Int)>0)/\nth [] (aF.map Aw) (aF.length-1)=Aw g:=by
 rcases List.eq_nil_or_concat aF with h|⟨l,g,h⟩
 ·exact .inl h
 ·right;rw[List.concat_eq_append]at h;refine⟨l,g,h,?_,?_,?_⟩
  ·rw[h];exact S0 g a l
  ·rw[h];simp
  ·have D:aF.length-1<aF.length:=by rw[h];simp
   rw[Ja _ _ _ _ D];congr 1;subst h;simp
theorem Ztr:
  Tj M [.vC Ag [], .vC AD l,I q.x,I q.y,I q.z,I z.x,I z.y,I z.z,I a,I k,I b,I v,I e.x,I e.y,I e.z,B false,I u,I r,I d]=
   some [.vC Ag [], .vC AD l,I q.x,I q.y,I q.z,B true,I u,I r,I d]:=by
 rw[Zai];simp
theorem Zk3 {aF:List Sgm} {q g D at_:Pt} (L:Fb D aF=at_)
  (S:M [I at_.x,I at_.y,I at_.z,I q.x,I q.y,I q.z]=some [I (AB at_ q)]) (hl:0<=AB at_ q/\AB at_ q<=268435456) (hs:aF.length+1<=1048577) (hlen:0<=u/\u<=4000000000000000000):
  Tj M [.vC Ag (aF.map Aw), .vC AD T,I q.x,I q.y,I q.z,I g.x,I g.y,I g.z,I a,I k,I b,I v,I D.x,I D.y,I D.z,B true,I u,I r,I d]=
   some [.vC Ag ((Ba k b v (aF,u,at_) q).1.map Aw), .vC AD T,I D.x,I D.y,I D.z,B true,I (Ba k b v (aF,u,at_) q).2.1,I r,I d]:=by
 have N:(aF.map Aw++[[I q.x,I q.y,I q.z,I (AB at_ q),I k,I b,I v]])=(aF++[(⟨q,AB at_ q,k,b,v⟩:Sgm)]).map Aw:=by rw[bz];rfl
 rw[Zai];try dsimp only[go_sem]
 rcases Zrj D aF with h|⟨l,s,Y,U,h3,h4⟩
 ·subst h;have O:D=at_:=L;subst O;simp only[dq,cv];rw[A1 (by decide),Bool.not_true,aq];by_cases c:q=D
  ·have G:=D0.1 c;rw[BG (by simp[G.1,G.2.1,G.2.2]),show Ba k b v ([],u,D) q=([],u,D)from aa c];rfl
  ·rw[Bj,S]
   ·simp only[af,H4,HN,gA,jA,wA,bA,ax,bf,cv];rw[BG (by decide),show Ba k b v ([],u,D) q=([⟨q,AB D q,k,b,v⟩],u+AB D q,q)from ab c,Ae];rfl
   ·have c2: ¬(q.x=D.x/\q.y=D.y/\q.z=D.z):=λg=>c (D0.2 g);simp only[Bool.and_true,Bool.and_eq_false_iff,beq_eq_false_iff_ne];omega
 ·rw[L]at U;have w1:V ((aF.length:Int)-1)=((aF.length-1:Nat):Int):=by rw[Ae];omega
  have X:(0:Int)<=((aF.length-1:Nat):Int)/\((aF.length-1:Nat):Int)<(aF.length:Int):=by omega
  rw[U]at S N⊢;clear Y;simp only[go_sem,ag,w1,al,h4,aa h3,aa X,S,ap,bf,cv];rw[ab (by simp)];by_cases c:q=s.to
  ·have G:=D0.1 c;rw[aa ⟨G.1,G.2.1,G.2.2,trivial⟩,show Ba k b v (aF,u,s.to) q=(aF,u,s.to)from aa c]
  ·rw[ab (λg=>c (D0.2 ⟨g.1,g.2.1,g.2.2.1⟩)),aa,show Ba k b v (aF,u,s.to) q=(aF++[⟨q,AB s.to q,k,b,v⟩],u+AB s.to q,q)from ab c,Ae (by rw[<-U]at*;omega),N]
noncomputable def DU (it:Itm) (aU aZ aX:Int) (s:(List Sgm×Int×Pt)×Int) (q:Pt):(List Sgm×Int×Pt)×Int:=
 (Ba aU aZ aX s.1 q,if smI it/\q=A9 it then(Ba aU aZ aX s.1 q).2.1 else s.2)
theorem Qpm {it:Itm} {aU aZ aX:Int}:∀(D:List Pt) (s:(List Sgm×Int×Pt)×Int),(D.foldl (DU it aU aZ aX) s).1=D.foldl (Ba aU aZ aX) s.1
 |[],_=>rfl
 |q::D,s=>by rw[fc,fc,Qpm D];rfl
theorem Qtj {MM S MA MP MG MR:Fn} {it:Itm} {D:List Pt} (hj:i<D.length) (a0:D.length<=1000000) {aF L:Rw} {aD:Rw} {g O G:Pt} {b b':Bool} {X aU aZ aX len M T N:Int}
  (hM:S (Ah it)=some [B (decide (smI it))]) (hC:MM (Ah it)=some (ptR (A9 it)))
  (hA:MA [.vC Ag aF, .vC AD aD,I D[i].x,I D[i].y,I D[i].z,I g.x,I g.y,I g.z,I X,I aU,I aZ,I aX,I O.x,I O.y,I O.z,B b,I len,I T,I N]=some [.vC Ag L, .vC AD aD,I G.x,I G.y,I G.z,B b',I M,I T,I N]):
  Mf MM S MA MP MG MR (.vC Ag aF:: .vC AD aD:: .vC kPt (D.map ptR)::I D.length::I i::(Ah it++[I g.x,I g.y,I g.z,I X,I aU,I aZ,I aX,I O.x,I O.y,I O.z,B b,I len,I T,I N]))=
   some (0, .vC Ag L:: .vC AD aD:: .vC kPt (D.map ptR)::I D.length::I (i+1:Nat)::(Ah it++[I g.x,I g.y,I g.z,I X,I aU,I aZ,I aX,I G.x,I G.y,I G.z,B b',I M,I T,I (if smI it/\D[i]=A9 it then M else N)])):=by
 have hr:nth [] (D.map ptR) i=ptR D[i]:=Ja _ _ _ _ hj;have Y:(0:Int)<=(i:Int)/\(i:Int)<(D.length:Int):=by omega
 have hw:V ((i:Int)+1)=((i+1:Nat):Int):=by rw[Ae];omega
 generalize D[i]=q at*;simp only[Ah]at hM hC;simp only[Ah,ba,ax];rw[Zef];simp only[go_sem,ag,al,hr,aa Y,hA,hM,hC,hw];rw[aa];by_cases c:smI it
 ·rw[aa c];by_cases U:q=A9 it
  ·have c3:=D0.1 U;rw[aa ⟨c3.1,c3.2.1,c3.2.2,trivial⟩,aa ⟨c,U⟩]
  ·rw[ab (λh=>U (D0.2 ⟨h.1,h.2.1,h.2.2.1⟩)),ab (λh=>U h.2)]
 ·rw[ab c,ab (λh=>c h.1)]
theorem Qgb {MM S MA MP MG MR:Fn} {it:Itm} {D:List Pt} (T:D.length<=1000000) {aD:Rw} {g G:Pt} {gl aU aZ aX V:Int} (X:bd 67108864 G) (M:∀p∈D,bd 67108864 p)
  (hM:S (Ah it)=some [B (decide (smI it))]) (hC:MM (Ah it)=some (ptR (A9 it)))
  (hA : ∀ {aF : List Sgm} {q at_ : Pt} {len mid : Int}, Fb G aF = at_ -> bd 67108864 at_ -> bd 67108864 q -> aF.length + 1 <= 1048577 -> (0 <= len /\ len <= 4000000000000000000) ->
   MA [.vC Ag (aF.map Aw), .vC AD aD,I q.x,I q.y,I q.z,I g.x,I g.y,I g.z,I gl,I aU,I aZ,I aX,I G.x,I G.y,I G.z,B true,I len,I V,I mid]=
   some [.vC Ag ((Ba aU aZ aX (aF,len,at_) q).1.map Aw), .vC AD aD,I G.x,I G.y,I G.z,B true,I (Ba aU aZ aX (aF,len,at_) q).2.1,I V,I mid]):
  ∀(k j:Nat) (s:List Sgm×Int×Pt) (mid:Int),j+k=D.length->s.1.length+k<=1048576->0<=s.2.1->s.2.1+k*268435456<=4000000000000000000->bd 67108864 s.2.2->Fb G s.1=s.2.2->
  Am (Mf MM S MA MP MG MR) (.vC Ag (s.1.map Aw):: .vC AD aD:: .vC kPt (D.map ptR)::I D.length::I j::(Ah it++[I g.x,I g.y,I g.z,I gl,I aU,I aZ,I aX,I G.x,I G.y,I G.z,B true,I s.2.1,I V,I mid]))=
   some (1,[.vC Ag (((D.drop j).foldl (DU it aU aZ aX) (s,mid)).1.1.map Aw), .vC AD aD,I G.x,I G.y,I G.z,B true,I ((D.drop j).foldl (DU it aU aZ aX) (s,mid)).1.2.1,I V,I ((D.drop j).foldl (DU it aU aZ aX) (s,mid)).2])
 |0,j,s,mid,hj,_,_,_,_,_=>by
  refine AQ ?_ (by simp);simp only[Ah,ba,ax];rw[Zef,A1 (by omega),d6 (by omega)];rfl
 |k+1,j,s,mid,hj,hs,U,Y,L,he=>by
  have N:j<D.length:=by omega
  have hq:=M _ (cd N);obtain⟨aF,len,at_⟩:=s;simp only at hs U Y L he;have ha:=hA (q:=D[j]) (mid:=mid) he L hq (by omega) (by constructor<;>omega);have O:=Qtj (MP:=MP) (MG:=MG) (MR:=MR) N T hM hC ha;have hinv:Fb G (Ba aU aZ aX (aF,len,at_) D[j]).1=(Ba aU aZ aX (aF,len,at_) D[j]).2.2/\bd 67108864 (Ba aU aZ aX (aF,len,at_) D[j]).2.2/\
    (Ba aU aZ aX (aF,len,at_) D[j]).1.length<=aF.length+1/\0<=(Ba aU aZ aX (aF,len,at_) D[j]).2.1/\(Ba aU aZ aX (aF,len,at_) D[j]).2.1<=len+268435456:=by
   have hl:=Im L hq;unfold Ba;split
   ·exact⟨he,L,by simp,U,by simp only;omega⟩
   ·refine⟨S0 _ _ _,hq,by simp,?_,?_⟩<;>simp only<;>omega
  rw[A5 O];obtain⟨i1,i2,i3,i4,i5⟩:=hinv;have:=Qgb (MP:=MP) (MG:=MG) (MR:=MR) T X M hM hC hA k (j+1) (Ba aU aZ aX (aF,len,at_) D[j]) (if smI it/\D[j]=A9 it then(Ba aU aZ aX (aF,len,at_) D[j]).2.1 else mid) (by omega) (by omega) i4 (by omega) i2 i1;rw[this,OT D j N,fc];rfl
theorem Zoe {it:Itm} (h:Dw it):∃l,Cj it=Ax it.fr::l:=by
 unfold Cj;by_cases G:it.aP=3
 ·rw[aa G];unfold DK;rw[bc];refine⟨(DN it.dir 16 it.bI (Eu it it.fr) (Eu it it.to)).map (JE it),?_⟩;congr 1;obtain⟨D,-,M,-⟩:=h.2.2.2 G;obtain⟨I,L,N⟩:=Uo it.aG it.ce;unfold JE Eu;simp only[I,L];unfold dU dW;have e1:plU it.aG it.ce*16+(plU it.aG it.fr-plU it.aG it.ce)*16=plU it.aG it.fr*16:=by omega
  have e2:plW it.aG it.ce*16+(plW it.aG it.fr-plW it.aG it.ce)*16=plW it.aG it.fr*16:=by omega
  rw[e1,e2];unfold spP plU plW plH Ax;rcases D with D|D|D<;>rw[D]<;>rfl
 ·rw[ab G];exact⟨_,rfl⟩
theorem Yap {aA:List Itm} (h:Dw (vE aA i)):∃l,CG aA i (-1)=Ax (vE aA i).fr::l:=by
 obtain⟨l,D⟩:=Zoe h;unfold CG;split
 ·unfold Jl;rw[ab,D];exact⟨_,rfl⟩
 ·exact⟨l,D⟩
noncomputable def Fh (aA:List Itm) (i:Nat) (s:BSt) (D:Int):(List Sgm×Int×Pt)×Int:=
 (CG aA i s.frm).foldl (DU (vE aA i) i (H0 (vE aA i) s.aS) (OW (vE aA i))) ((s.aF,s.len,if s.bK=true then s.at_ else Ax (vE aA i).fr),D)
theorem Zc6 (aA:List Itm) (i:Nat) (s:BSt) (D:Int):(Fh aA i s D).1=FC aA i s:=by
 unfold Fh FC;rw[Qpm]
theorem Ycd {aA:List Itm} {s:BSt} {mid:Int} (hi:i<aA.length) (hlen:aA.length<=15) (hv:Dw (vE aA i)) (L:BOK aA i s) (hinv:BInv s)
  (D:(∀p∈CG aA i s.frm,bd 67108864 p)/\(CG aA i s.frm).length<=65537)
  (V:syI (vE aA i)->0<=(vE aA i).aZ/\(vE aA i).aZ<=60000000) (a2:s.bK=false->s.frm= -1)
  (hM:Z (Ah (vE aA i))=some [B (decide (smI (vE aA i)))]) (hC:M (Ah (vE aA i))=some (ptR (A9 (vE aA i))))
  (hG:P (Ah (vE aA i))=some [B (decide (syI (vE aA i)))]) (hR:O (Ah (vE aA i)++[I s.aS])=some [I (H0 (vE aA i) s.aS)])
  (hP:S [.vC Ai (aA.map Ah),I i,I s.frm]=some [.vC kPt ((CG aA i s.frm).map ptR)])
  (hA : ∀ {aF : List Sgm} {q g st at_ : Pt} {gl aU aZ aX len mid : Int}, Fb st aF = at_ -> bd 67108864 at_ -> bd 67108864 q -> aF.length + 1 <= 1048577 -> (0 <= len /\ len <= 4000000000000000000) ->
   W [.vC Ag (aF.map Aw), .vC AD T,I q.x,I q.y,I q.z,I g.x,I g.y,I g.z,I gl,I aU,I aZ,I aX,I st.x,I st.y,I st.z,B true,I len,I s.aS,I mid]=
   some [.vC Ag ((Ba aU aZ aX (aF,len,at_) q).1.map Aw), .vC AD T,I st.x,I st.y,I st.z,B true,I (Ba aU aZ aX (aF,len,at_) q).2.1,I s.aS,I mid])
  (a4 : ∀ {q g st : Pt} {gl aU aZ aX len mid : Int}, W [.vC Ag [], .vC AD T, I q.x, I q.y, I q.z, I g.x, I g.y, I g.z, I gl, I aU, I aZ, I aX, I st.x, I st.y, I st.z, B false, I len, I s.aS, I mid] =
   some [.vC Ag [], .vC AD T,I q.x,I q.y,I q.z,B true,I len,I s.aS,I mid]):
  Qme M Z W S P O (Am (Mf M Z W S P O)) [.vC Ag (s.aF.map Aw), .vC AD T, .vC Ai (aA.map Ah),I i,I s.frm,I s.aQ.x,I s.aQ.y,I s.aQ.z,B s.bK,I s.len,I s.aS,I mid]=
   some [.vC Ag ((Fh aA i s mid).1.1.map Aw), .vC AD T,B true,I (if s.bK=true then s.aQ else Ax (vE aA i).fr).x,I (if s.bK=true then s.aQ else Ax (vE aA i).fr).y,I (if s.bK=true then s.aQ else Ax (vE aA i).fr).z,B true,I (Fh aA i s mid).1.2.1,I s.aS,I (Fh aA i s mid).2]:=by
 have hr:=E_ hi;have a5:(0:Int)<=(i:Int)/\(i:Int)<(aA.length:Int):=by omega
 have a8:=L.aF;have X:=L.len
 have Y:∀aX aZ:Int,Am (Mf M Z W S P O) (.vC Ag (s.aF.map Aw):: .vC AD T:: .vC kPt ((CG aA i s.frm).map ptR)::I (CG aA i s.frm).length::I (0:Nat)::(Ah (vE aA i)++[I (⟨0,0,0⟩:Pt).x,I (⟨0,0,0⟩:Pt).y,I (⟨0,0,0⟩:Pt).z,I 0,I i,I aZ,I aX,I s.aQ.x,I s.aQ.y,I s.aQ.z,B s.bK,I s.len,I s.aS,I mid]))=
   some (1, [.vC Ag (((CG aA i s.frm).foldl (DU (vE aA i) i aZ aX) ((s.aF, s.len, if s.bK = true then s.at_ else Ax (vE aA i).fr), mid)).1.1.map Aw), .vC AD T, I (if s.bK = true then s.aQ else Ax (vE aA i).fr).x, I (if s.bK = true then s.aQ else Ax (vE aA i).fr).y, I (if s.bK = true then s.aQ else Ax (vE aA i).fr).z, B true,
    I ((CG aA i s.frm).foldl (DU (vE aA i) i aZ aX) ((s.aF,s.len,if s.bK=true then s.at_ else Ax (vE aA i).fr),mid)).1.2.1,I s.aS,I ((CG aA i s.frm).foldl (DU (vE aA i) i aZ aX) ((s.aF,s.len,if s.bK=true then s.at_ else Ax (vE aA i).fr),mid)).2]):=by
  intro aX aZ;by_cases hb:s.bK=true
  ·obtain⟨g1,g2⟩:=hinv.bK hb;obtain⟨g3,g4,g5⟩:=g2;rw[aa hb,aa hb,hb];have:=Qgb (MP:=S) (MG:=P) (MR:=O) (g:=⟨0,0,0⟩) (gl:=0) (aU:=i) (aZ:=aZ) (aX:=aX) (by omega) g1 D.1 hM hC (λh1 h2 h3 h4 h5=>hA h1 h2 h3 h4 h5) (CG aA i s.frm).length 0 (s.aF,s.len,s.at_) mid (by omega) (by simp only;omega) X.1 (by simp only;omega) (L.at_ hb) g4;rw[fg]at this;exact this
  ·have a0:s.bK=false:=by simpa using hb
   obtain⟨e1,e2,e3⟩:=hinv.empty a0;obtain⟨l,hl⟩:=Yap hv;have a3:bd 67108864 (Ax (vE aA i).fr):=AR (E7 hv.2.1) (by decide);rw[ab hb,ab hb,a0,e1];rw[a2 a0,hl]at D⊢;have h0:0<(Ax (vE aA i).fr::l).length:=by simp
   have a1:=Qtj (MP:=S) (MG:=P) (MR:=O) h0 (by omega) hM hC (a4 (q:=Ax (vE aA i).fr) (g:=⟨0,0,0⟩) (st:=s.aQ) (gl:=0) (aU:=i) (aZ:=aZ) (aX:=aX) (len:=s.len) (mid:=mid));rw[dq,A5 a1];have:=Qgb (MP:=S) (MG:=P) (MR:=O) (g:=⟨0,0,0⟩) (gl:=0) (aU:=i) (aZ:=aZ) (aX:=aX) (by omega) a3 D.1 hM hC (λh1 h2 h3 h4 h5=>hA h1 h2 h3 h4 h5) l.length 1 ([],s.len,Ax (vE aA i).fr) (if smI (vE aA i)/\Ax (vE aA i).fr=A9 (vE aA i)then s.len else mid) (by simp;omega) (by simp only[cv];simp at D;omega) X.1 (by simp only;simp at D;omega) a3 rfl;rw[List.drop_succ_cons,fg]at this;rw[fc];have e4:DU (vE aA i) i aZ aX (([],s.len,Ax (vE aA i).fr),mid) (Ax (vE aA i).fr)=(([],s.len,Ax (vE aA i).fr),if smI (vE aA i)/\Ax (vE aA i).fr=A9 (vE aA i)then s.len else mid):=by
    unfold DU;rw[show Ba i aZ aX ([],s.len,Ax (vE aA i).fr) (Ax (vE aA i).fr)=([],s.len,Ax (vE aA i).fr)from aa rfl]
   rw[e4];exact this
 have G:∀aX aZ:Int,((CG aA i s.frm).foldl (DU (vE aA i) i aZ aX) ((s.aF,s.len,if s.bK=true then s.at_ else Ax (vE aA i).fr),mid)).1.1.length<=1048576:=by
  intro aX aZ;rw[Qpm];have a6:bd 67108864 (if s.bK=true then s.at_ else Ax (vE aA i).fr):=by
   split
   ·rename_i hb;exact L.at_ hb
   ·exact AR (E7 hv.2.1) (by decide)
  have:=(TN (aU:=i) (aZ:=aZ) (aX:=aX) (CG aA i s.frm) (s.aF,s.len,if s.bK=true then s.at_ else Ax (vE aA i).fr) D.1 a6 X.1).1;simp only at this⊢;omega
 generalize Am (Mf M Z W S P O)=N at*;have U:=λaX aZ=>Y aX aZ;simp only[Ah,ba,ax]at hG hR U;rw[Ydm];simp only[go_sem,ag,al,hr,aa a5,hG,hR,hP];have a7:((0:Nat):Int)=0:=rfl;simp only[a7]at U;unfold Fh OW;by_cases hs:syI (vE aA i)
 ·have hf:=V hs;rw[aa hs];simp only[aa hs];rw[Ae];simp only[U,go_sem,ag];rw[ai (show((_:Nat):Int)<=1048576 from by have:=G (mn ((vE aA i).aZ*16) 16777216) (H0 (vE aA i) s.aS);omega)]
 ·rw[ab hs];simp only[ab hs];simp only[U,go_sem,ag];rw[ai (show((_:Nat):Int)<=1048576 from by have:=G 0 (H0 (vE aA i) s.aS);omega)]
end Go.Bm
