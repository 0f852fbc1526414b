/- laid together -/
import Derived.Test.YtnnpdlgenmnekaaGreatDoorMx3
import Derived.Test.YtnnpdlgenmnekaaGreatDoorBmTy
set_option linter.unusedVariables false
set_option linter.unusedSimpArgs false
set_option maxRecDepth 100000
open Go.IntKind (wrap)
variable {i A y:Nat} {a k b v u r d X Y:Int} {p:Go.Bm.Pth} {M Z W T S P O:Go.Bm.Fn} {l:Go.Bm.Rw} {N:Go.Bm.Lp} {g:Go.Bm.Sgm} {H G:Go.Bm.Pt}
namespace Go.Bm
theorem Ir {x:Int} (h:i64 x):F_ [I x]=some [U (x.natAbs:Int)]:=by
  unfold i64 at h;unfold F_;rw[Zco];by_cases D:x<0
  · rw[DD D,Ae (x:=x+1),Ae (x:=0-(x+1)),Dh (x:=0-(x+1)) (by omega),Dh (x:=0-(x+1)+1) (by omega)]
    rw[show 0-(x+1)+1=(x.natAbs:Int) by omega]
  · rw[AZ D,Dh (x:=x) (by omega)]
    rw[show x=(x.natAbs:Int) by omega];simp
def sgn (a b:Int):Int:=if a=0 then 0 else if b=0 then 0 else if(a<0↔b<0)then 1 else-1
theorem XY (a b:Int):FK [I a,I b]=some [I (sgn a b)]:=by
  unfold FK;rw[Qt6];simp only[go_sem];unfold sgn
  repeat' split
  all_goals rfl
def GG (a b:Nat):Int:=if a<b then-1 else if a=b then 0 else 1
def K7 (a b:Int):Int:=if a<b then-1 else if a=b then 0 else 1
noncomputable def w64:Nat:=Classical.choose (⟨18446744073709551616,rfl⟩:∃n:Nat,n=18446744073709551616)
theorem A6:w64=18446744073709551616:=ez (⟨18446744073709551616,rfl⟩:∃n:Nat,n=18446744073709551616)
theorem M8 {x:Int} (h:i64 x):x.natAbs<w64:=by unfold i64 at h;have:=A6;omega
theorem Q7n {x y:Nat} (G:x<w64) (I:y<w64):H3 [U x,U y]=some [U ((x*y/w64:Nat):Int),U ((x*y%w64:Nat):Int)]:=by
  rw[A6]at G I;have L:∀z:Nat,z<18446744073709551616->inU (z:Int)=true:=by
    intro z M;have D:Fv=18446744073709551616:=rfl;simp only[inU,D,ai,cq];omega
  show RR (x:Int) (y:Int)=_;unfold RR;rw[L x G,L y I,A6];rfl
theorem Q28 {x y:Nat} (D:x<w64) (G:y<w64):Ej [U x,U y]=some [U ((x*y/w64:Nat):Int),U ((x*y%w64:Nat):Int)]:=by
  unfold Ej;rw[Zih,Q7n D G];simp only[go_sem]
theorem Qwl (a b c d:Nat) (hb:b<w64) (D:d<w64):H0 [U a,U b,U c,U d]=some [I (GG (a*w64+b) (c*w64+d))]:=by
  unfold H0;rw[Zja];simp only[go_sem,jd];unfold GG;simp only[A6]at*;by_cases G:a<c
  · rw[ab,ab]
  · rw[aa]
    by_cases L:a=c
    · rw[ab]
      by_cases M:b<d
      · rw[ab,ab]
      · rw[aa]
        by_cases N:b=d
        · rw[ab,aa,ab]
        · rw[aa,aa,aa]
    · rw[aa,aa,aa,aa]
theorem UK (a b:Int):sgn a b*((a.natAbs*b.natAbs:Nat):Int)=a*b:=by
  unfold sgn;by_cases I:a=0
  · subst I;simp
  · by_cases L:b=0
    · subst L;simp
    · rw[aa I,aa L]
      have e:((a.natAbs*b.natAbs:Nat):Int)=(a.natAbs:Int)*(b.natAbs:Int):=by simp
      rw[e];by_cases D:a<0<;>by_cases G:b<0
      · rw[ab (by simp[D,G]),show(a.natAbs:Int)= -a by omega,show(b.natAbs:Int)= -b by omega,Int.neg_mul_neg,jc]
      · rw[aa (by simp[D,G]),show(a.natAbs:Int)= -a by omega,show(b.natAbs:Int)=b by omega,Int.neg_mul,jc,Int.neg_mul,Int.neg_neg]
      · rw[aa (by simp[D,G]),show(a.natAbs:Int)=a by omega,show(b.natAbs:Int)= -b by omega,Int.mul_neg,Int.neg_mul_neg,jc]
      · rw[ab (by simp[D,G]),show(a.natAbs:Int)=a by omega,show(b.natAbs:Int)=b by omega,jc]
theorem Tr (a b:Int):(sgn a b=0/\a*b=0)\/(sgn a b=1/\0<a*b)\/(sgn a b= -1/\a*b<0):=by
  have h:=UK a b;by_cases D:a=0
  · subst D;left;simp[sgn]
  · by_cases G:b=0
    · subst G;left;simp[sgn]
    · have L:0<a.natAbs*b.natAbs:=Nat.mul_pos (by omega) (by omega)
      generalize a.natAbs*b.natAbs=p at*;generalize a*b=x at*;unfold sgn at h⊢;rw[aa D,aa G]at h⊢;by_cases I:(a<0↔b<0)
      · rw[ab I]at h⊢;right;left;exact⟨rfl,by omega⟩
      · rw[aa I]at h⊢;right;right;exact⟨rfl,by omega⟩
theorem Z4t {a b c d:Int}:(if sgn a b≠sgn c d then(if sgn a b<sgn c d then-1 else 1)else sgn a b*GG (a.natAbs*b.natAbs) (c.natAbs*d.natAbs))=K7 (a*b) (c*d):=by
  have I:=UK a b;have L:=UK c d;have D:=Tr a b;have G:=Tr c d;unfold K7 GG;generalize a.natAbs*b.natAbs=p at*;generalize c.natAbs*d.natAbs=q at*;generalize a*b=x at*;generalize c*d=y at*;generalize sgn a b=u at*;generalize sgn c d=v at*;rcases D with⟨rfl,g1⟩|⟨rfl,g1⟩|⟨rfl,g1⟩<;>rcases G with⟨rfl,g2⟩|⟨rfl,g2⟩|⟨rfl,g2⟩
  · rw[aa (by simp),aa (show¬x<y by omega),ab (show x=y by omega)];exact Int.zero_mul _
  · rw[ab (by simp),ab,ab]
  · rw[ab (by simp),aa,aa,aa]
  · rw[ab (by simp),aa,aa,aa]
  · rw[aa (by simp)]
    have e1:(p:Int)=x:=by omega
    have e2:(q:Int)=y:=by omega
    by_cases h:x<y
    · rw[ab,ab h];rfl
    · rw[aa,aa h]
      by_cases h':x=y
      · rw[ab,ab h'];rfl
      · rw[aa,aa h'];rfl
  · rw[ab (by simp),aa,aa,aa]
  · rw[ab (by simp),ab,ab]
  · rw[ab (by simp),ab,ab]
  · rw[aa (by simp)]
    have e1:(p:Int)= -x:=by omega
    have e2:(q:Int)= -y:=by omega
    by_cases h:x<y
    · rw[aa,aa,ab h];rfl
    · rw[aa h]
      by_cases h':x=y
      · rw[aa,ab,ab h'];rfl
      · rw[ab,aa h'];rfl
theorem Q11 (p:Nat):p/w64*w64+p%w64=p:=by have:=gf p w64;rw[d9]at this;exact this
theorem Rv:0<w64:=by rw[A6];omega
theorem Zon (p q:Nat): -1<=GG p q/\GG p q<=1:=by unfold GG;(repeat' split)<;>omega
theorem Zi0 (a b:Int): -1<=sgn a b/\sgn a b<=1:=by unfold sgn;(repeat' split)<;>omega
theorem Z48 (D: -1<=u/\u<=1) (G: -1<=v/\v<=1): -1<=u*v/\u*v<=1:=by
  have:u= -1\/u=0\/u=1:=by omega
  rcases this with rfl|rfl|rfl<;>omega
theorem OK {x y:Nat} (G:x<w64) (I:y<w64):∃D lo:Nat,Ej [U x,U y]=some [U D,U lo]/\D*w64+lo=x*y/\lo<w64:=
  ⟨_,_,Q28 G I,Q11 _,gw _ Rv⟩
theorem Zc1 {a b c d:Int} (O N L S:Fn) (D T G V:Nat)
   (X:L [I a]=some [U a.natAbs]) (Y:L [I b]=some [U b.natAbs]) (kc:L [I c]=some [U c.natAbs]) (kd:L [I d]=some [U d.natAbs])
   (ks:∀a b,S [I a,I b]=some [I (sgn a b)])
   (e1:N [U a.natAbs,U b.natAbs]=some [U D,U T]) (f1:N [U c.natAbs,U d.natAbs]=some [U G,U V])
   (M:O [U D,U T,U G,U V]=some [I (GG (a.natAbs*b.natAbs) (c.natAbs*d.natAbs))]):Qon O N L S [I a,I b,I c,I d]=some [I (K7 (a*b) (c*d))]:=by
  have hm:=Z48 (Zi0 a b) (Zon (a.natAbs*b.natAbs) (c.natAbs*d.natAbs));rw[Zcv];simp only[go_sem,ks,X,Y,kc,kd,e1,f1,M];rw[<-Z4t];rw[Ae];by_cases D:sgn a b≠sgn c d
  · rw[ab D,ab D]
    by_cases G:sgn a b<sgn c d
    · rw[ab G,ab G]
    · rw[aa G,aa G]
  · rw[aa D,aa D]
theorem Z4w {a b c d:Int} (G:i64 a) (hb:i64 b) (L:i64 c) (M:i64 d):OM [I a,I b,I c,I d]=some [I (K7 (a*b) (c*d))]:=by
  obtain⟨N,O,e1,e2,e3⟩:=OK (M8 G) (M8 hb);obtain⟨S,T,U,V,X⟩:=OK (M8 L) (M8 M);have D:=Qwl N O S T e3 X;rw[e2,V]at D;unfold OM;exact Zc1 _ _ _ _ _ _ _ _ (Ir G) (Ir hb) (Ir L) (Ir M) XY e1 U D
theorem eB {α β:Type} {a:Option α} {f:α->Option β} {x:α} {r:Option β} (h:a=some x) (g:f x=r):a.bind f=r:=by rw[h];exact g
theorem eT {α:Type} {c:Bool} {a b r:α} (h:c=true) (g:a=r):cond c a b=r:=by rw[h];exact g
theorem eF {α:Type} {c:Bool} {a b r:α} (h:c=false) (g:b=r):cond c a b=r:=by rw[h];exact g
theorem eC {α:Type} {c:Bool} {a b r:α} (h:c=true->a=r) (g:c=false->b=r):cond c a b=r:=by cases c;exact g rfl;exact h rfl
theorem beF (h:a≠b):(a==b)=false:=by simpa using h
theorem beT (h:a=b):(a==b)=true:=by simpa using h
theorem bnF (h:a=b):(a !=b)=false:=by simpa using h
theorem bnT (h:a≠b):(a !=b)=true:=by simpa using h
theorem Fd {α β:Type} {a:Option α} {f:α->Option β} (h:a.isSome=true) (g:∀o,a=some o->(f o).isSome=true):(a.bind f).isSome=true:=by
 cases a with
 |none=>simp at h
 |some o=>exact g o rfl
theorem BQ {α:Type} {c:Bool} {a b:Option α} (h:c=true->a.isSome=true) (g:c=false->b.isSome=true):(cond c a b).isSome=true:=by
 cases c
 ·exact g rfl
 ·exact h rfl
def Out {α:Type} (p:α->Prop) (a:Option α):Prop:=∃o,a=some o/\p o
theorem Out.is {α:Type} {p:α->Prop} {a:Option α} (h:Out p a):a.isSome=true:=by obtain⟨o,h,_⟩:=h;rw[h];rfl
theorem Out.of {α:Type} {a:Option α} (h:a.isSome=true):Out (λ_=>True) a:=by
 cases a with
 |none=>simp at h
 |some o=>exact⟨o,rfl,trivial⟩
theorem Out.bind {α β:Type} {p:α->Prop} {q:β->Prop} {a:Option α} {f:α->Option β} (h:Out p a) (g:∀o,p o->Out q (f o)):Out q (a.bind f):=by
 obtain⟨o,rfl,h⟩:=h;exact g o h
theorem Out.ibind {α β:Type} {q:β->Prop} {a:Option α} {f:α->Option β} (h:a.isSome=true) (g:∀o,a=some o->Out q (f o)):Out q (a.bind f):=by
 cases a with
 |none=>simp at h
 |some o=>exact g o rfl
theorem Out.cond {α:Type} {p:α->Prop} {c:Bool} {a b:Option α} (h:c=true->Out p a) (g:c=false->Out p b):Out p (cond c a b):=by
 cases c
 ·exact g rfl
 ·exact h rfl
theorem Out.some {α:Type} {p:α->Prop} {o:α} (h:p o):Out p (some o):=⟨o,rfl,h⟩
theorem Out.mono {α:Type} {p q:α->Prop} {a:Option α} (h:Out p a) (g:∀o,p o->q o):Out q a:=by obtain⟨o,h,D⟩:=h;exact⟨o,h,g o D⟩
theorem C1 {S:Type} (enc:S->List AC) (Inv:S->Prop) (m:S->Nat) (Q:Nat×List AC->Prop)
  (h:∀s,Inv s->Out (λo=>(o.1=0/\∃G,o.2=enc G/\Inv G/\m G<m s)\/(o.1≠0/\Q o)) (N (enc s))) (s:S) (L:Inv s):Out Q (Am N (enc s)):=by
 obtain ⟨o, I, _, D⟩ := Qwi (step := N) enc Inv m Q (λs L => by
  obtain⟨o,I,D⟩:=h s L;rcases D with⟨D,G,M,O,T⟩|⟨D,M⟩
  ·refine .inl ⟨G,?_,O,T⟩;rw[I,<-M,<-D]
  ·exact .inr ⟨o,I,D,M⟩) s L
 exact⟨o,I,D⟩
theorem BC {p:Prop} [Decidable p] (h:decide p=true):p:=of_decide_eq_true h
theorem BB {p:Prop} [Decidable p] (h:decide p=false): ¬p:=of_decide_eq_false h
theorem inB {n:Nat} (D:0<=a) (G:a<(n:Int)):(decide (0<=a)&&decide (a<(n:Int)))=false->False:=by
 intro h;rcases Bool.and_eq_false_iff.1 h with c|c
 ·exact BB c D
 ·exact BB c G
theorem Cg (h:i<=A):Nat.ble i A=true:=gh h
theorem Qyn (a b c d:Int):(Hq [I a,I b,I c,I d]).isSome=true:=by
 unfold Hq;rw[Q0q]
 repeat' first|exact rfl|refine BQ (λ_=> ?_) (λ_=> ?_)
 rename_i D G;simp at D G;omega
theorem S4 (a b c:Int):ES [I a,I b,I c]=some [B (decide (1<=a/\a<=65536/\2<=b/\b<=65536/\1<=c/\c<=16777216))]:=by
 unfold ES;rw[Z83];by_cases D:1<=a<;>by_cases G:a<=65536<;>by_cases L:2<=b<;>by_cases M:b<=65536<;>by_cases N:1<=c<;>by_cases O:c<=16777216<;>simp[D,G,L,M,N,O]
theorem Zlm (h:∀a b c d,(M [I a,I b,I c,I d]).isSome=true) (a b c v x:Int):(SU M [I a,I b,I c,I v,I x]).isSome=true:=by
 rw[Qwc]
 repeat' first|exact rfl|exact h _ _ _ _|refine BQ (λ_=> ?_) (λ_=> ?_)|refine Fd ?_ λ_ _=> ?_
theorem Q9u (a b c v x:Int):(Hh [I a,I b,I c,I v,I x]).isSome=true:=Zlm Qyn a b c v x
theorem Z7j (x:Int): -9223372036854775808<=V x/\V x<=9223372036854775807:=by
 simp[V,IntKind.wrap,IntKind.signed,IntKind.bits];omega
theorem Zq9 {ML MV:Fn} (D:∀a b c d,(ML [I a,I b,I c,I d]).isSome=true) {v a b c low aY:Int} (G: -9000000000000<=low/\low<=9000000000000) (L: -9000000000000<=aY/\aY<=9000000000000):
  Out (λo=>o.1=1) (Am (Mb ML MV) [I v,I low,I aY,I a,I b,I c]):=by
 refine C1 (λs:Int×Int=>[I v,I s.1,I s.2,I a,I b,I c]) (λs=>(-9000000000000<=s.1/\s.1<=9000000000000)/\(-9000000000000<=s.2/\s.2<=9000000000000)) (λs=>(s.2-s.1).toNat) _ ?_ (low,aY) ⟨G,L⟩;rintro⟨l,h⟩ ⟨M,N⟩;dsimp only at*;rw[Xk];refine .cond (λc=> ?_) (λc=> ?_)
 ·have c:=BC c;have e:V (h-V ((V (h-l)).tdiv 2))=h-(h-l)/2:=by
   rw[Ae (x:=h-l),bp (by omega),Ae (x:=(h-l)/2),Ae]
  rw[e];refine .ibind (D _ _ _ _) λo _=> ?_;refine .cond (λ_=> ?_) (λ_=> ?_)
  ·exact .some (.inl ⟨rfl,(h-(h-l)/2,h),rfl,by dsimp only;omega,by dsimp only;omega⟩)
  ·refine .some (.inl ⟨rfl,(l,h-(h-l)/2-1),?_,by dsimp only;omega,by dsimp only;omega⟩);rw[Ae (x:=h-(h-l)/2-1)]
 ·exact .some (.inr ⟨by simp,rfl⟩)
theorem Zo9 (L:∀a b c d,(M [I a,I b,I c,I d]).isSome=true) (hV:∀a b c,Z [I a,I b,I c]=some [B (decide (1<=a/\a<=65536/\2<=b/\b<=65536/\1<=c/\c<=16777216))]) (a b c v x:Int):
  (SQ M Z (Am (Mb M Z)) [I a,I b,I c,I v,I x]).isSome=true:=by
 rw[Q9x,hV];simp only[af];refine BQ (λ_=>rfl) λN=>BQ (λ_=>rfl) λD=>BQ (λ_=>rfl) λG=> ?_;simp only[go_sem,Bool.not_eq_false',cq]at N;have D:=BB D;have G:=BB G;have T: -1099511627776<=x/\x<=1099511627776:=by
  unfold mx at D;unfold mn at G;split at D<;>split at G<;>omega
 obtain⟨o,O,S⟩:=Zq9 (MV:=Z) L (v:=v) (a:=a) (b:=b) (c:=c) (low:=V (V (0-x)-b)) (aY:=mn (V (b-x)) a)
  (by rw[Ae (x:=0-x),Ae];omega) (by rw[Ae (x:=b-x)];unfold mn;split<;>omega)
 rw[O];simp only[af,S];rfl
theorem Z9g (a b c v x:Int):(E4 [I a,I b,I c,I v,I x]).isSome=true:=Zo9 Qyn S4 a b c v x
theorem Zt6 (hB:∀a b c v x,(M [I a,I b,I c,I v,I x]).isSome=true) {a b c v x:Int}:
  Out (λo=>o.1=1\/o.1=2/\(wA o.2 0).length<=4096) (Am (JW M Z W) [.vC Aa [],I v,I x,I a,I b,I c]):=by
 refine C1 (λs:Rw×Int×Int=>[.vC Aa s.1,I s.2.1,I s.2.2,I a,I b,I c]) (λs=>s.1.length<=4096) (λs=>4096-s.1.length) _ ?_ ([],v,x) (by simp);rintro⟨l,v,x⟩ h;dsimp only at*;rw[Tb];refine .cond (λ_=> ?_) (λ_=> ?_)
 ·refine .cond (λ_=> ?_) (λD=> ?_)
  ·exact .some (.inr ⟨by simp, .inl rfl⟩)
  ·have D: ¬((l.length:Int)=4096):=by simpa using D
   refine .ibind (hB _ _ _ _ _) λo _=> ?_;refine .cond (λ_=> ?_) (λG=> ?_)
   ·exact .some (.inl ⟨rfl,(_,_,_),rfl,by simp;omega,by simp;omega⟩)
   ·rw[Cg (by simp;omega)]at G;cases G
 ·exact .some (.inr ⟨by simp, .inr ⟨rfl,h⟩⟩)
theorem Zpc (hB:∀a b c v x,(M [I a,I b,I c,I v,I x]).isSome=true) (D:∀a b c v x,(Z [I a,I b,I c,I v,I x]).isSome=true) (hV:∀a b c,W [I a,I b,I c]=some [B (decide (1<=a/\a<=65536/\2<=b/\b<=65536/\1<=c/\c<=16777216))]) (a b c v x:Int):
  Out (λo=>(wA o 0).length<=4096) (To M Z W (Am (JW M Z W)) [I a,I b,I c,I v,I x]):=by
 rw[Qsg,hV];simp only[af];refine .cond (λ_=> .some (by simp[gA,wA,bA,jA,nth,Bq])) λ_=> .ibind (D _ _ _ _ _) λo _=> .cond (λ_=> .some (by simp[gA,wA,bA,jA,nth,Bq])) λ_=> ?_;refine .bind (Zt6 hB) λo h=> ?_;rcases h with h|⟨h,G⟩
 ·rw[h];exact .some (by simp[gA,wA,bA,jA,nth,Bq])
 ·rw[h];exact .some G
theorem Zjs (a b c v x:Int):Out (λo=>(wA o 0).length<=4096) (Ly [I a,I b,I c,I v,I x]):=Zpc Z9g Q9u S4 a b c v x
theorem Q4a {D out:Rw} (G:out.length=D.length) (L:D.length<=4096):
  Out (λo=>o.1=1/\(wA o.2 0).length=D.length) (Am (Qm M) [.vC Aa out,I u, .vC Aa D,I (D.length:Int),I 0]):=by
 refine C1 (λs:Rw×Int×Nat=>[.vC Aa s.1,I s.2.1, .vC Aa D,I (D.length:Int),I (s.2.2:Int)]) (λs=>s.1.length=D.length/\s.2.2<=D.length) (λs=>D.length-s.2.2) _ ?_ (out,u,0) ⟨G,by simp⟩;rintro⟨l,u,i⟩ ⟨g1,g2⟩;dsimp only at*;rw[Zul];refine .cond (λc=> ?_) (λ_=> ?_)
 ·have c:=BC c;refine .cond (λ_=> ?_) (λh=> ?_)
  ·refine .cond (λ_=> ?_) (λh=> ?_)
   ·have e:=Ae (x:=(i:Int)+1);rw[e];generalize V (u+gA (nth [] D (i:Int).toNat) 0)=z;exact .some (.inl ⟨rfl,(l.set (i:Int).toNat [I z],z,i+1),rfl,by simp;omega,by simp;omega⟩)
   ·simp at h;omega
  ·simp at h;omega
 ·exact .some (.inr ⟨by simp,rfl,g1⟩)
theorem Zfu (D:∀a b c v x,Out (λo=>(wA o 0).length<=4096) (M [I a,I b,I c,I v,I x])) (a b c G L N O S T:Int):
  Out (λo=>(wA o 0).length<=4096) (UM M (Am (Qm M)) [I a,I b,I c,I G,I L,I N,I O,I S,I T]):=by
 rw[Q0n];refine .bind (D _ _ _ _ _) λo h=> ?_;generalize wA o 0=U at*;refine .cond (λ_=> .some (by simp[gA,wA,bA,jA,nth,Bq])) λ_=> ?_;refine .cond (λ_=> ?_) λc=>by simp at c
 refine .cond (λ_=> ?_) λc=>by simp at c;omega
 refine .bind (Q4a (by simp) h) λo g=> ?_;rw[g.1];exact .some (by show(wA o.2 0).length<=4096;omega)
theorem Qpo (a b c D G L M N O:Int):Out (λo=>(wA o 0).length<=4096) (FH [I a,I b,I c,I D,I G,I L,I M,I N,I O]):=Zfu Zjs a b c D G L M N O
theorem Z8w (T:∀a b c D G L N O S,Out (λo=>(wA o 0).length<=4096) (M [I a,I b,I c,I D,I G,I L,I N,I O,I S])) (a b c D G L N O S:Int):
  (Po M [I a,I b,I c,I D,I G,I L,I N,I O,I S]).isSome=true:=by
 rw[Zae];obtain⟨o,U,X⟩:=T a b c D G L N O S;rw[U];simp only[af];generalize wA o 0=V at*;refine BQ (λ_=>rfl) λ_=>BQ (λ_=>rfl) λc=>BQ (λ_=>rfl) λd=> ?_;have c: ¬((V.length:Int)=0):=by simpa using c
 rw[Ae]at d;simp at d;omega
theorem Zg6 (a b c D G L M N O:Int):(GB [I a,I b,I c,I D,I G,I L,I M,I N,I O]).isSome=true:=Z8w Qpo a b c D G L M N O
theorem Z5c (h:2^(y+1)*i+2^y<w64):wrap .u64 (((BitVec.ofInt IntKind.u64.bits ((2^(y+1)*i:Nat):Int)|||BitVec.ofInt IntKind.u64.bits ((2^y:Nat):Int)).toNat:Nat):Int)=((2^(y+1)*i+2^y:Nat):Int):=by
 rw[A6]at h;have e:(BitVec.ofInt IntKind.u64.bits ((2^(y+1)*i:Nat):Int)|||BitVec.ofInt IntKind.u64.bits ((2^y:Nat):Int)).toNat=2^(y+1)*i+2^y:=by
  rw[BitVec.toNat_or];have e1:∀v:Nat,v<18446744073709551616->(BitVec.ofInt IntKind.u64.bits (v:Int)).toNat=v:=by
   intro v I;simp only[IntKind.bits,jf];omega
  have D:0<2^y:=fq _;generalize G:2^(y+1)*i=A at*;rw[e1 _ (by omega),e1 _ (by omega),<-G];exact(jo (Nat.pow_lt_pow_right (by omega) (by omega)) i).symm
 rw[e,Dh (by omega)]
theorem Qru (k:Nat):((2^(k+1):Nat):Int).fdiv (2^min (Int.toNat 1) IntKind.u64.bits)=((2^k:Nat):Int):=by
 have e:(2^min (Int.toNat 1) IntKind.u64.bits:Int)=2:=rfl;rw[e,f6 _ (by omega),iy];omega
theorem Q01:(1:Int).fdiv (2^min (Int.toNat 1) IntKind.u64.bits)=0:=rfl
theorem Qvm (S:∀x y:Nat,x<w64->y<w64->∃hi lo:Nat,Z [U x,U y]=some [U hi,U lo]/\hi*w64+lo=x*y/\lo<w64)
  (T:∀a b c d:Nat,b<w64->d<w64->M [U a,U b,U c,U d]=some [I (GG (a*w64+b) (c*w64+d))]) {k m hi lo:Nat} {bit:Int} (L:lo<w64) (hb:((2^k:Nat):Int).fdiv (2^min (Int.toNat 1) IntKind.u64.bits)=bit) (h:2^(k+1)*m+2^k<w64):
  LD M Z [U ((2^(k+1)*m:Nat):Int),U ((2^k:Nat):Int),U hi,U lo]=
   some (0,[U (((if(2^(k+1)*m+2^k)*(2^(k+1)*m+2^k)<=hi*w64+lo then 2^(k+1)*m+2^k else 2^(k+1)*m):Nat):Int),U bit,U hi,U lo]):=by
 obtain⟨G,V,e1,e2,e3⟩:=S _ _ h h;have D:=T G V hi lo e3 L;rw[e2]at D;have N:0<2^k:=fq _;rw[Q9c,Z5c h,hb];simp only[go_sem,e1,D];rw[ab];generalize(2^(k+1)*m+2^k)*(2^(k+1)*m+2^k)=q at*;unfold GG;by_cases G:q<hi*w64+lo
 ·rw[ab G,ab,ab]
 ·rw[aa G];by_cases O:q=hi*w64+lo
  ·rw[ab O,ab,ab]
  ·rw[aa O,aa,aa]
theorem Qb5 {S T:Fn} (M:∀x y:Nat,x<w64->y<w64->∃hi lo:Nat,T [U x,U y]=some [U hi,U lo]/\hi*w64+lo=x*y/\lo<w64)
  (N:∀a b c d:Nat,b<w64->d<w64->S [U a,U b,U c,U d]=some [I (GG (a*w64+b) (c*w64+d))]) {hi lo:Nat} (D:lo<w64):∀(k m:Nat),2^(k+1)*m+2^(k+1)<=w64->
  (2^(k+1)*m)*(2^(k+1)*m)<=hi*w64+lo->hi*w64+lo<(2^(k+1)*m+2^(k+1))*(2^(k+1)*m+2^(k+1))->
  ∃r:Nat,Am (LD S T) [U ((2^(k+1)*m:Nat):Int),U ((2^k:Nat):Int),U hi,U lo]=some (1,[U r])/\r*r<=hi*w64+lo/\hi*w64+lo<(r+1)*(r+1)/\r<w64
 |0,m,Y,O,V=>by
  have X:=Qvm M N (k:=0) (m:=m) (hi:=hi) (bit:=0) D Q01 (by simp at Y⊢;omega);rw[Bc X];have G:∀r:Nat,Am (LD S T) [U (r:Int),U 0,U hi,U lo]=some (1,[U r]):=by
   intro r;refine A1 ?_ (by simp);rw[Q9c];simp only[go_sem];rw[aa]
  simp only[dy,Nat.pow_one,Nat.pow_zero]at*;by_cases h:(2*m+1)*(2*m+1)<=hi*w64+lo
  ·rw[ab h,G];exact⟨_,rfl,h,V,by omega⟩
  ·rw[aa h,G];exact⟨_,rfl,O,by omega,by omega⟩
 |k+1,m,Y,O,V=>by
  have e1:2^(k+1+1)*m=2^(k+1)*(2*m):=by rw[iy 2 (k+1),gz]
  have e2:2^(k+1+1)*m+2^(k+1)=2^(k+1)*(2*m+1):=by rw[e1,Nat.mul_add,Nat.mul_one]
  have e3:2^(k+1+1)=2^(k+1)+2^(k+1):=by rw[iy 2 (k+1)];omega
  have a0:0<2^(k+1):=fq _;have X:=Qvm M N (k:=k+1) (m:=m) (hi:=hi) (bit:=((2^k:Nat):Int)) D (Qru k) (by omega);rw[Bc X];by_cases h:(2^(k+1+1)*m+2^(k+1))*(2^(k+1+1)*m+2^(k+1))<=hi*w64+lo
  ·rw[ab h,e2];rw[e2]at h;refine Qb5 M N D k (2*m+1) ?_ h ?_
   ·rw[<-e2];omega
   ·rw[<-e2];rw[show 2^(k+1+1)*m+2^(k+1)+2^(k+1)=2^(k+1+1)*m+2^(k+1+1) by omega];exact V
  ·rw[aa h];have h3:hi*w64+lo<(2^(k+1+1)*m+2^(k+1))*(2^(k+1+1)*m+2^(k+1)):=by omega
   have L:2^(k+1+1)*m+2^(k+1)<=w64:=by omega
   rw[e1]at O h3 L⊢;exact Qb5 M N D k (2*m) L O h3
theorem Zvo (S:∀x y:Nat,x<w64->y<w64->∃hi lo:Nat,Z [U x,U y]=some [U hi,U lo]/\hi*w64+lo=x*y/\lo<w64)
  (T:∀a b c d:Nat,b<w64->d<w64->M [U a,U b,U c,U d]=some [I (GG (a*w64+b) (c*w64+d))]) {hi lo:Nat} (D:hi<w64) (G:lo<w64):
  ∃r:Nat,Qa9 M Z (Am (LD M Z)) [U hi,U lo]=some [U r]/\r*r<=hi*w64+lo/\hi*w64+lo<(r+1)*(r+1)/\r<w64:=by
 have hb:hi*w64+lo<w64*w64:=by
  have:hi*w64+w64<=w64*w64:=by rw[<-gn];exact be _ D
  omega
 obtain⟨r,O,V,X,Y⟩:=Qb5 S T (hi:=hi) (lo:=lo) G 63 0 (by rw[A6];omega) (by simp) (by rw[Nat.mul_zero,dy,show 2^(63+1)=w64 by rw[A6]];exact hb);refine⟨r,?_,V,X,Y⟩;rw[Nat.mul_zero]at O;generalize Am (LD M Z)=N at*;have L:N [AC.int IntKind.u64 0,AC.int IntKind.u64 9223372036854775808,AC.int IntKind.u64 hi,AC.int IntKind.u64 lo]=some (1,[U r]):=O;rw[Z68,L];simp only[go_sem]
theorem Zca {hi lo:Nat} (D:hi<w64) (G:lo<w64):∃r:Nat,JD [U hi,U lo]=some [U r]/\r*r<=hi*w64+lo/\hi*w64+lo<(r+1)*(r+1)/\r<w64:=
 Zvo (λ_ _ I L=>OK I L) Qwl D G
theorem Qe3 {n:Nat} (h:n<9223372036854775808):EO [U n,B false]=some [I n,B true]:=by
 unfold EO;rw[Qo7];simp only[go_sem];rw[aa (by simp),ab (by simp),ab,Ae]
theorem Zrr {x y b:Nat} (I:x<w64) (L:y<w64) (hb:b=0\/b=1):Ke [U x,U y,U b]=some [U (((x:Int)-y-b)%Fv),U (if x<y+b then 1 else 0)]:=by
 rw[A6]at I L;have D:Fv=18446744073709551616:=rfl;have M:∀z:Nat,z<18446744073709551616->inU (z:Int)=true:=by
  intro z N;simp only[inU,D,ai,cq];omega
 have G:(decide ((b:Int)=0)||decide ((b:Int)=1))=true:=by
  rcases hb with rfl|rfl<;>simp
 unfold Ke;simp only[HQ,L1,LA,HA,gA,jA,wA,bA];rw[M x I,M y L,G];by_cases h:x<y+b
 ·rw[ab h,DD (p:=(x:Int)<y+b) (by omega)];simp
 ·rw[aa h,AZ (p:=(x:Int)<y+b) (by omega)];simp
theorem Q1r {x y:Nat} (G:x<w64) (I:y<=x):Ke [U x,U y,U 0]=some [U ((x-y:Nat):Int),U 0]:=by
 have:=Zrr (x:=x) (y:=y) (b:=0) G (by omega) (.inl rfl);have D:Fv=18446744073709551616:=rfl;rw[A6]at G;rw[aa,D,show((x:Int)-y-((0:Nat):Int))%18446744073709551616=((x-y:Nat):Int) by omega]at this;exact this
theorem Zta {n r:Nat} (hn:n<9223372036854775807) (O:r*r<=n) (S:T [U 0,U n]=some [U r]) (V:W [U r,U r]=some [U 0,U ((r*r:Nat):Int)]) (G:Z [U n,U ((r*r:Nat):Int),U 0]=some [U ((n-r*r:Nat):Int),U 0])
  (L:Z [U 0,U 0,U 0]=some [U 0,U 0]) (N:∀k:Nat,k<9223372036854775808->M [U k,B false]=some [I k,B true]) (D:a=1\/a=2):
  XI M Z W T [U 0,U n,I a]=some [I ((if(a=1/\r*r<n)\/(a=2/\r*r+r<n)then r+1 else r:Nat):Int),B true]:=by
 have X:r<=r*r:=by
  rcases ec r with h|h
  ·subst h;simp
  ·exact Nat.le_mul_of_pos_left r h
 have Y:wrap .u64 ((r:Int)+1)=((r+1:Nat):Int):=by rw[Dh (by omega)];omega
 have s1:=N r (by omega);have s2:=N (r+1) (by omega);rw[Zyo];simp only[go_sem,S,V,G,L,Y,s1,s2];rcases D with rfl|rfl
 ·rw[ab rfl,aa];by_cases h:r*r<n
  ·rw[ab,ab]
  ·rw[aa,aa,aa]
 ·rw[aa,ab rfl,aa];by_cases h:r*r+r<n
  ·rw[ab,ab]
  ·rw[aa,aa]
theorem Zhn {n:Nat} (N:n<9223372036854775807) (D:Z [I a]=some [B true]) (G:M [U 0,U n,I a]=some [I k,B true]):Zo M Z [I n,I a]=some [I k,B true]:=by
 have L:wrap .u64 (n:Int)=(n:Int):=Dh (by omega);rw[Z1u];simp only[go_sem,D,L,G];rw[aa,aa (by simp)]
theorem Qii (h:a=0\/a=1\/a=2):FG [I a]=some [B true]:=by
 unfold FG;rw[Q3i];rcases h with rfl|rfl|rfl<;>rfl
theorem Qv9 {n:Nat} {mode:Int} (S:n<9223372036854775807) (D:mode=1\/mode=2):
  ∃r:Nat,IE [I n,I mode]=some [I ((if(mode=1/\r*r<n)\/(mode=2/\r*r+r<n)then r+1 else r:Nat):Int),B true]/\r*r<=n/\n<(r+1)*(r+1):=by
 have G:n<w64:=by rw[A6];omega
 obtain⟨r,X,M,T,V⟩:=Zca (hi:=0) (lo:=n) Rv G;rw[ik,dy]at M T;obtain⟨L,lo,e1,e2,e3⟩:∃L lo:Nat,H3 [U r,U r]=some [U L,U lo]/\L*w64+lo=r*r/\lo<w64:=⟨_,_,Q7n V V,Q11 _,gw _ Rv⟩;have N:L=0:=by
  rcases ec L with h|h
  ·exact h
  ·have:=be w64 h;omega
 subst N;have O:lo=r*r:=by omega
 subst O;have z:=Q1r (x:=0) (y:=0) Rv (co _);refine⟨r,?_,M,T⟩;exact Zhn S (Qii (.inr D)) (Zta S M X e1 (Q1r G M) z (λk Y=>Qe3 Y) D)
def Bi (a b:Int):Int:=(2*a+b)/(2*b)
theorem Lw (hb:0<b) (D:k*(2*b)<=2*a+b) (G:2*a+b<(k+1)*(2*b)):Bi a b=k:=by
 unfold Bi;have g1:k<=(2*a+b)/(2*b):=(Int.le_ediv_iff_mul_le (by omega)).2 D;have g2:(2*a+b)/(2*b)<k+1:=(Int.ediv_lt_iff_lt_mul (by omega)).2 G;omega
theorem Q8n {p c:Nat} (D:p<w64) (L:0<c):Gz [U 0,U p,U c]=some [U ((p/c:Nat):Int),U ((p%c:Nat):Int)]:=by
 rw[A6]at D;have G:(p:Int).tdiv (c:Int)=((p/c:Nat):Int):=by rw[bp (by omega)];simp
 have I:(p:Int).tmod (c:Int)=((p%c:Nat):Int):=by rw[i8 (by omega)];simp
 have N:p/c<=p:=ie _ _;unfold Gz;generalize Iw=M;generalize Ux=O;generalize Qfv=S;rw[Qzn];rw[Be (by simp;omega),AZ (by omega),By (by simp),AZ (by omega),AZ (by omega),G,I];generalize p/c=q at*;rw[Dh (by omega)]
theorem Zag (more:Int) (some_ neg:Bool):HO [I 2,I more,B some_,B neg]=some [B (if more>0 then true else if more=0 then !neg else false)]:=by
 unfold HO;rw[Qz6];simp only[go_sem];rw[aa,aa]
 repeat' split
 all_goals rfl
theorem Qvg {n:Nat} (h:n<=9223372036854775808):EO [U n,B true]=some [I (-(n:Int)),B true]:=by
 unfold EO;rw[Qo7];simp only[go_sem];rw[ab,Lg,Qap];have:((0-(n:Int))%18446744073709551616+9223372036854775808)%18446744073709551616-9223372036854775808= -(n:Int):=by omega
 rw[this]
def G0 (q r c:Nat) (neg:Bool):Nat:=if r>c-r then q+1 else if r<c-r then q else if neg then q else q+1
theorem Yab {M1 M2 M3 M4 M5 M6 M7:Fn} {a b s:Int} {A C p q r c:Nat} (N:0<c) (O:c<9223372036854775808) (hr:r<c) (hq:q<9223372036854775807)
  (S:M7 [I 2]=some [B true]) (T:M6 [I a]=some [U A]) (V:M6 [I b]=some [U C]) (X:M6 [I c]=some [U c]) (Y:M5 [U A,U C]=some [U 0,U p]) (k6:M4 [U 0,U p,U c]=some [U q,U r]) (k7:M3 [I a,I b]=some [I s])
  (k8:∀(more:Int) (some_ neg:Bool),M2 [I 2,I more,B some_,B neg]=some [B (if more>0 then true else if more=0 then !neg else false)])
  (L:∀k:Nat,k<9223372036854775808->M1 [U k,B false]=some [I k,B true]) (D:∀k:Nat,k<9223372036854775808->M1 [U k,B true]=some [I (-(k:Int)),B true]):
  SM M1 M2 M3 M4 M5 M6 M7 [I a,I b,I c,I 2]=some [I (if s<0 then-(G0 q r c true:Int)else(G0 q r c false:Int)),B true]:=by
 have w1:wrap .u64 ((c:Int)-(r:Int))=((c-r:Nat):Int):=by rw[Dh (by omega)];omega
 have w2:wrap .u64 ((q:Int)+1)=((q+1:Nat):Int):=by rw[Dh (by omega)];omega
 have n1:=L q (by omega);have n2:=L (q+1) (by omega);rw[Q8u];simp only[go_sem,S,T,V,X,Y,k6,k7,k8,w1,w2,n1,n2];rw[aa,aa (by simp),aa];by_cases M:s<0
 ·rw[ab M];rw[ab (show¬(s<0↔(c:Int)<0) by omega)];have G:(s !=0)=true:=by simp;omega
  rw[G];unfold G0;by_cases g1:r>c-r
  ·rw[ab g1];rw[ab (show(r:Int)>((c-r:Nat):Int) by omega),ab (by decide),aa (show¬((q+1:Nat):Int)=0 by omega),D (q+1) (by omega)];simp only[go_sem]
  ·rw[aa g1];rw[aa (show¬(r:Int)>((c-r:Nat):Int) by omega)];by_cases g2:r<c-r
   ·rw[ab g2];rw[ab (show(r:Int)<((c-r:Nat):Int) by omega),aa (by decide),D q (by omega)];simp only[go_sem]
   ·rw[aa g2,ab rfl];rw[aa (show¬(r:Int)<((c-r:Nat):Int) by omega),aa (by decide),D q (by omega)];simp only[go_sem]
 ·rw[aa M];rw[aa (show¬¬(s<0↔(c:Int)<0) by omega)];unfold G0;by_cases g1:r>c-r
  ·rw[ab g1,ab (show(r:Int)>((c-r:Nat):Int) by omega),ab (by decide),aa (show¬((q+1:Nat):Int)=0 by omega)]
  ·rw[aa g1,aa (show¬(r:Int)>((c-r:Nat):Int) by omega)];by_cases g2:r<c-r
   ·rw[ab g2,ab (show(r:Int)<((c-r:Nat):Int) by omega),aa (by decide)]
   ·rw[aa g2,aa (show¬(r:Int)<((c-r:Nat):Int) by omega),ab (by decide),aa (show¬((q+1:Nat):Int)=0 by omega),aa (by decide)]
theorem Z5k (q r c:Nat):G0 q r c false=if r<c-r then q else q+1:=by
 unfold G0;by_cases G:r>c-r
 ·rw[ab G,aa]
 ·rw[aa G];by_cases D:r<c-r
  ·rw[ab D,ab D]
  ·rw[aa D,aa D,aa (by simp)]
theorem Ya3 (q r c:Nat):G0 q r c true=if r>c-r then q+1 else q:=by
 unfold G0;by_cases D:r>c-r
 ·rw[ab D,ab D]
 ·rw[aa D,aa D];by_cases G:r<c-r
  ·rw[ab G]
  ·rw[aa G,ab rfl]
theorem Q6d {p q r c:Nat} (L:0<c) (h:p=c*q+r) (M:r<c):Bi p c=G0 q r c false:=by
 have e:(p:Int)=(c:Int)*q+r:=by rw[h];simp
 have e3:(q:Int)*(2*c)=2*((c:Int)*q):=by grind
 have D:((q+1:Nat):Int)*(2*c)=2*((c:Int)*q)+2*c:=by grind
 have G:((q:Int)+1)*(2*c)=2*((c:Int)*q)+2*c:=by grind
 have I:(((q+1:Nat):Int)+1)*(2*c)=2*((c:Int)*q)+4*c:=by grind
 rw[Z5k];by_cases g:r<c-r
 ·rw[ab g];exact Lw (by omega) (by rw[e3];omega) (by rw[G];omega)
 ·rw[aa g];exact Lw (by omega) (by rw[D];omega) (by rw[I];omega)
theorem Zrv {p q r c:Nat} (L:0<c) (h:p=c*q+r) (M:r<c):Bi (-(p:Int)) c= -(G0 q r c true:Int):=by
 have e:(p:Int)=(c:Int)*q+r:=by rw[h];simp
 have e3: -(q:Int)*(2*c)= -(2*((c:Int)*q)):=by grind
 have D: -((q+1:Nat):Int)*(2*c)= -(2*((c:Int)*q))-2*c:=by grind
 have G:(-(q:Int)+1)*(2*c)= -(2*((c:Int)*q))+2*c:=by grind
 have I:(-((q+1:Nat):Int)+1)*(2*c)= -(2*((c:Int)*q)):=by grind
 rw[Ya3];by_cases g:r>c-r
 ·rw[ab g];exact Lw (by omega) (by rw[D];omega) (by rw[I];omega)
 ·rw[aa g];exact Lw (by omega) (by rw[e3];omega) (by rw[G];omega)
theorem Tf {a b c:Int} (U:i64 a) (hb:i64 b) (hc:0<c/\c<9223372036854775808) (hp:a.natAbs*b.natAbs<9223372036854775807):Bw [I a,I b,I c,I 2]=some [I (Bi (a*b) c),B true]:=by
 obtain⟨V,lo,e1,e2,e3⟩:=OK (M8 U) (M8 hb);have N:=UK a b;have Y:=Tr a b;have hz:a*b=0->a.natAbs*b.natAbs=0:=λh=>by rw[<-Int.natAbs_mul,h];rfl
 generalize a.natAbs*b.natAbs=p at*;have O:V=0:=by
  rcases ec V with h|h
  ·exact h
  ·have:=be w64 h;have:=A6;omega
 subst O;have S:lo=p:=by omega
 subst S;obtain⟨n,rfl⟩:=bq (show 0<=c by omega);have G:0<n:=by omega
 have T:=gf lo n;have M:=gw lo G;have h3:lo/n<=lo:=ie _ _;have hd:=Q8n e3 G;have L:=Ir (x:=(n:Int)) (by unfold i64;omega);rw[gj]at L;generalize lo/n=q at*;generalize lo%n=r at*;have D:=Yab (M1:=EO) (M2:=HO) (M3:=FK) (M4:=Gz) (M5:=Ej) (M6:=F_) (M7:=FG) G (by omega) M (by omega)
  (Qii (.inr (.inr rfl))) (Ir U) (Ir hb) L e1 hd (XY a b) Zag (λk X=>Qe3 X) (λk X=>Qvg (by omega))
 have hv:(if sgn a b<0 then-(G0 q r n true:Int)else(G0 q r n false:Int))=Bi (a*b) n:=by
  rcases Y with⟨g1,g2⟩|⟨g1,g2⟩|⟨g1,g2⟩
  ·rw[aa,g2];rw[g1]at N;have:lo=0:=hz g2;rw[<-Q6d G T.symm M,this];rfl
  ·rw[aa,<-Q6d G T.symm M,<-N,g1,jc]
  ·rw[ab,<-Zrv G T.symm M,<-N,g1,Int.neg_mul,jc]
 rw[hv]at D;exact D
def bd (A:Nat) (p:Pt):Prop:=p.x.natAbs<=A/\p.y.natAbs<=A/\p.z.natAbs<=A
def Jf (a b:Pt):Int:=a.x*b.x+a.y*b.y+a.z*b.z
def G1 (a b:Pt):Pt:=⟨a.x-b.x,a.y-b.y,a.z-b.z⟩
theorem HS {x y:Int} {A B:Nat} (D:x.natAbs<=A) (G:y.natAbs<=B):(x*y).natAbs<=A*B:=by rw[Int.natAbs_mul];exact df D G
theorem AY {A B:Nat} (h:bd A H) (D:A<=B):bd B H:=⟨bz h.1 D,bz h.2.1 D,bz h.2.2 D⟩
theorem Z6f (a b:Pt):Jf (G1 a b) (G1 a b)=Jf (G1 b a) (G1 b a):=by
 simp only[Jf,G1];have h:∀x y:Int,(x-y)*(x-y)=(y-x)*(y-x):=by intro x y;rw[<-Int.neg_mul_neg,Int.neg_sub]
 rw[h a.x,h a.y,h a.z]
theorem Zy1 {x y:Int}:K7 x y<=0↔x<=y:=by
 unfold K7;by_cases h:x<y
 ·rw[ab h];omega
 ·rw[aa h];by_cases h':x=y
  ·rw[ab h'];omega
  ·rw[aa h'];omega
theorem NR (v:Nat) (h:v<w64):wrap .u64 (((BitVec.ofInt IntKind.u64.bits (v:Int)&&&BitVec.ofInt IntKind.u64.bits 4294967295).toNat:Nat):Int)=((v%4294967296:Nat):Int):=by
 rw[A6]at h;have e:(BitVec.ofInt IntKind.u64.bits (v:Int)&&&BitVec.ofInt IntKind.u64.bits 4294967295).toNat=v%4294967296:=by
  rw[BitVec.toNat_and];have e1:(BitVec.ofInt IntKind.u64.bits (v:Int)).toNat=v:=by
   simp only[IntKind.bits,jf];omega
  have e2:(BitVec.ofInt IntKind.u64.bits 4294967295).toNat=2^32-1:=by
   simp only[IntKind.bits,jf];rfl
  rw[e1,e2,Nat.and_two_pow_sub_one_eq_mod]
 rw[e,Dh (by omega)]
theorem Lt (v:Nat):(v:Int).fdiv (2^min (Int.toNat 32) IntKind.u64.bits)=((v/4294967296:Nat):Int):=by
 have e:(2^min (Int.toNat 32) IntKind.u64.bits:Int)=4294967296:=rfl;rw[e,f6 _ (by omega)];omega
theorem Z3h (u v:Nat) (G:u<4294967296) (D:v<4294967296):wrap .u64 (((BitVec.ofInt IntKind.u64.bits ((u*4294967296:Nat):Int)|||BitVec.ofInt IntKind.u64.bits (v:Int)).toNat:Nat):Int)=((u*4294967296+v:Nat):Int):=by
 have e:(BitVec.ofInt IntKind.u64.bits ((u*4294967296:Nat):Int)|||BitVec.ofInt IntKind.u64.bits (v:Int)).toNat=u*4294967296+v:=by
  rw[BitVec.toNat_or];have e1:∀v:Nat,v<18446744073709551616->(BitVec.ofInt IntKind.u64.bits (v:Int)).toNat=v:=by
   intro v D;simp only[IntKind.bits,jf];omega
  rw[e1 _ (by omega),e1 _ (by omega)];have:=jo (i:=32) (b:=v) (by omega) u;rw[show(2:Nat)^32=4294967296 from rfl,d9]at this;exact this.symm
 rw[e,Dh (by omega)]
theorem Zh4 (v:Nat) (h:v<w64):wrap .u64 ((v:Int)*2^min (Int.toNat 32) IntKind.u64.bits)=((v%4294967296*4294967296:Nat):Int):=by
 have e:(2^min (Int.toNat 32) IntKind.u64.bits:Int)=4294967296:=rfl;rw[A6]at h;rw[e,Lg];omega
theorem RE (D:i<4294967296) (hb:A<4294967296):i*A<=18446744065119617025:=by
 have:=df (show i<=4294967295 by omega) (show A<=4294967295 by omega);omega
theorem Zth {x y:Nat} (V:x<w64) (X:y<w64):∃Y lo:Nat,Qey [U x,U y]=some [U Y,U lo]/\Y*w64+lo=x*y/\lo<w64:=by
 unfold Qey;rw[Zq5,NR x V,NR y X,Lt x,Lt y];rw[A6]at V X;have ex:x=x/4294967296*4294967296+x%4294967296:=by omega
 have ey:y=y/4294967296*4294967296+y%4294967296:=by omega
 have I:x/4294967296<4294967296:=by omega
 have L:x%4294967296<4294967296:=by omega
 have M:y/4294967296<4294967296:=by omega
 have N:y%4294967296<4294967296:=by omega
 generalize x/4294967296=a at*;generalize x%4294967296=b at*;generalize y/4294967296=c at*;generalize y%4294967296=d at*;have O:x*y=(a*c)*18446744073709551616+(a*d)*4294967296+(b*c)*4294967296+b*d:=by
  rw[ex,ey];have:(18446744073709551616:Nat)=4294967296*4294967296:=rfl;rw[this];generalize(4294967296:Nat)=H
  grind
 rw[O];have h1:=RE I M;have h2:=RE I N;have h3:=RE L M;have h4:=RE L N;have m1:∀p q:Nat,(p:Int)*(q:Int)=((p*q:Nat):Int):=λp q=>by simp
 have G:∀v:Nat,v<=18446744073709551615->wrap .u64 (v:Int)=(v:Int):=λv hv=>Dh (by omega);simp only[m1];generalize a*c=P at*;generalize a*d=Q at*;generalize b*c=S at*;generalize b*d=T at*;have D:∀v:Nat,v<=18446744073709551615->v<w64:=λv hv=>by rw[A6];omega
 have a1:∀p q:Nat,(p:Int)+(q:Int)=((p+q:Nat):Int):=λp q=>by simp
 rw[G T (by omega),G Q (by omega),G S (by omega),G P (by omega),Lt T,a1,G (Q+T/4294967296) (by omega)];rw[NR _ (D (Q+T/4294967296) (by omega)),Lt (Q+T/4294967296),NR _ (D T (by omega)),a1 S,G (S+_) (by omega),Lt (S+_),a1 P,G (P+_) (by omega),a1 _ ((S+_)/_),G (P+_+_) (by omega),
  Zh4 _ (D (S+(Q+T/4294967296)%4294967296) (by omega)),Z3h _ _ (by omega) (by omega)]
 refine⟨_,_,rfl,?_,?_⟩
 ·rw[A6];omega
 ·rw[A6];omega
theorem Zjj (L:∀{x y:Nat},x<w64->y<w64->∃N lo:Nat,M [U x,U y]=some [U N,U lo]/\N*w64+lo=x*y/\lo<w64) {a b c d:Nat} (T:a<w64) (hb:b<w64) (V:c<w64) (X:d<w64) (s:Bool):
  Qfx M [U a,U b,U c,U d,B s]=some [B (if s=true then decide (a*b<c*d)else decide (a*b<=c*d))]:=by
 obtain⟨G,O,e1,Y,g1⟩:=L T hb;obtain⟨I,S,e2,f2,g2⟩:=L V X;rw[Zfl];simp only[go_sem,e1,e2];rw[<-Y,<-f2];have key:∀p q:Nat,p<q->p*w64+w64<=q*w64:=λp q h=>by rw[<-gn];exact be _ h
 by_cases c1:G<I
 ·rw[ab];have:=key _ _ c1;by_cases D:s=true
  ·rw[ab D,aj (by omega)]
  ·rw[aa D,aj (by omega)]
 ·rw[aa];by_cases c2:G=I
  ·subst c2;rw[ab rfl];by_cases c3:O<S
   ·rw[ab];by_cases D:s=true
    ·rw[ab D,aj (by omega)]
    ·rw[aa D,aj (by omega)]
   ·rw[aa];by_cases c4:O=S
    ·subst c4;rw[ab rfl];by_cases D:s=true
     ·rw[ab D,an (by omega),D];rfl
     ·rw[aa D,aj (by omega)];simp at D;rw[D];rfl
    ·rw[aa];by_cases D:s=true
     ·rw[ab D,an (by omega)]
     ·rw[aa D,an (by omega)]
  ·rw[aa];have:=key I G (by omega);by_cases D:s=true
   ·rw[ab D,an (by omega)]
   ·rw[aa D,an (by omega)]
theorem Zu8 {a b c d:Nat} (D:a<w64) (hb:b<w64) (G:c<w64) (I:d<w64) (s:Bool):
  Qhc [U a,U b,U c,U d,B s]=some [B (if s=true then decide (a*b<c*d)else decide (a*b<=c*d))]:=
 Zjj Zth D hb G I s
def D7 (a n:Nat) (down:Bool) (j:Nat):Prop:=
 (j=0\/if down=true then(2*j-1)*(2*j-1)*n<4*(a*a)else(2*j-1)*(2*j-1)*n<=4*(a*a))/\
 (if down=true then 4*(a*a)<=(2*j+1)*(2*j+1)*n else 4*(a*a)<(2*j+1)*(2*j+1)*n)
theorem Ov {p q n:Nat} (h:p<=q):p*p*n<=q*q*n:=be _ (df h h)
theorem Zgw {a n:Nat} {down:Bool} (I:D7 a n down i) (L:D7 a n down A):i=A:=by
 have key:∀{i A:Nat},D7 a n down i->D7 a n down A-> ¬i<A:=by
  rintro i A ⟨-,G⟩ ⟨D,-⟩ N;have O:=Ov (n:=n) (show 2*i+1<=2*A-1 by omega);rcases D with D|D
  ·omega
  ·by_cases M:down=true
   ·rw[ab M]at G D;omega
   ·rw[aa M]at G D;omega
 have S:=key I L;have G:=key L I;omega
open Classical in
noncomputable def rnd (a n:Nat) (down:Bool):Nat:=if h:∃j,D7 a n down j then Classical.choose h else 0
theorem KL {a n:Nat} {down:Bool} (h:D7 a n down i):rnd a n down=i:=by
 have D:∃i,D7 a n down i:=⟨i,h⟩;unfold rnd;rw[jh D];exact Zgw (ez D) h
noncomputable def Bk (x r n:Int):Int:=if x<0 then-(rnd (x.natAbs*r.natAbs) n.natAbs true:Int)else(rnd (x.natAbs*r.natAbs) n.natAbs false:Int)
theorem Quh {X R n j:Nat} {down:Bool} (G:0<n) (I:X*X<=n) (h:D7 (X*R) n down j):j<=R:=by
 by_cases c:j<=R
 ·exact c
 exfalso;have e:4*(X*R*(X*R))=(2*R)*(2*R)*(X*X):=by grind
 have L:(2*R)*(2*R)*(X*X)<=(2*R)*(2*R)*n:=Nat.mul_le_mul_left _ I;have M:(2*R)*(2*R)*n<(2*R+1)*(2*R+1)*n:=eg (gi (by omega)) G;have N:(2*R+1)*(2*R+1)*n<=(2*j-1)*(2*j-1)*n:=Ov (by omega);obtain⟨D,-⟩:=h;rcases D with D|D
 ·omega
 ·split at D<;>omega
theorem Zol {X R n j:Nat} {down:Bool} (D:0<n) (G:R*R<=n) (h:D7 (X*R) n down j):j<=X:=by
 rw[d9]at h;exact Quh D G h
theorem Q84 (D:∀{a b c d:Nat},a<w64->b<w64->c<w64->d<w64->∀s:Bool,M [U a,U b,U c,U d,B s]=some [B (if s=true then decide (a*b<c*d)else decide (a*b<=c*d))])
  {x:Int} {a d q b:Nat} {bit:Int} (S:a<36028797018963968) (G:d<w64) (T:q+b<268435456+1) (L:0<b) (hb:((b:Nat):Int).fdiv (2^min (Int.toNat 1) IntKind.u64.bits)=bit):
  Mc M [I x,U a,U d,U q,U b]=some (0,[I x,U a,U d,U (((if(q+b)*(q+b)*d<=a*a then q+b else q):Nat):Int),U bit]):=by
 have V:(q+b)*(q+b)<=268435456*268435456:=df (by omega) (by omega);have N:wrap .u64 ((q:Int)+(b:Int))=((q+b:Nat):Int):=by rw[Dh (by omega)];omega
 have O:wrap .u64 (((q+b:Nat):Int)*((q+b:Nat):Int))=(((q+b)*(q+b):Nat):Int):=by
  rw[show((q+b:Nat):Int)*((q+b:Nat):Int)=(((q+b)*(q+b):Nat):Int) by simp,Dh (by omega)]
 rw[Qvl,N,O,hb];generalize(q+b)*(q+b)=s at*;have h:=D (a:=s) (b:=d) (c:=a) (d:=a) (by rw[A6];omega) G (by rw[A6];omega) (by rw[A6];omega) false;rw[aa (by simp)]at h;simp only[go_sem,h];rw[ab];by_cases c:s*d<=a*a
 ·rw[ab c,ab c]
 ·rw[aa c,aa c]
theorem Qeq {M:Fn} (L:∀{a b c d:Nat},a<w64->b<w64->c<w64->d<w64->∀s:Bool,M [U a,U b,U c,U d,B s]=some [B (if s=true then decide (a*b<c*d)else decide (a*b<=c*d))])
  {x:Int} {a d:Nat} (N:a<36028797018963968) (O:d<w64):∀(k q:Nat),q+2^(k+1)<=268435456->q*q*d<=a*a->a*a<(q+2^(k+1))*(q+2^(k+1))*d->
  ∃r:Nat,Am (Mc M) [I x,U a,U d,U q,U ((2^k:Nat):Int)]=some (1,[I x,U a,U d,U r])/\r*r*d<=a*a/\a*a<(r+1)*(r+1)*d/\r<268435456
 |0,q,X,S,T=>by
  have V:=Q84 L (x:=x) (q:=q) (b:=2^0) (bit:=0) N O (by simp at X⊢;omega) (by simp) Q01;rw[Bc V];have D:∀r:Nat,Am (Mc M) [I x,U a,U d,U r,U 0]=some (1,[I x,U a,U d,U r]):=by
   intro r;refine A1 ?_ (by simp);rw[Qvl];simp only[go_sem];rw[aa]
  simp only[dy,Nat.pow_one,Nat.pow_zero]at*;by_cases h:(q+1)*(q+1)*d<=a*a
  ·rw[ab h,D];exact⟨_,rfl,h,T,by omega⟩
  ·rw[aa h,D];exact⟨_,rfl,S,by omega,by omega⟩
 |k+1,q,X,S,T=>by
  have e3:2^(k+1+1)=2^(k+1)+2^(k+1):=by rw[iy 2 (k+1)];omega
  have G:0<2^(k+1):=fq _;have V:=Q84 L (x:=x) (q:=q) (b:=2^(k+1)) (bit:=((2^k:Nat):Int)) N O (by omega) G (Qru k);rw[Bc V];by_cases h:(q+2^(k+1))*(q+2^(k+1))*d<=a*a
  ·rw[ab h];refine Qeq L N O k _ (by omega) h ?_;rw[show q+2^(k+1)+2^(k+1)=q+2^(k+1+1) by omega];exact T
  ·rw[aa h];exact Qeq L N O k q (by omega) S (by omega)
theorem Q5c {a n q:Nat} (down:Bool) (G:q*q*n<=a*a) (I:a*a<(q+1)*(q+1)*n):
  D7 a n down (if(if down=true then(2*q+1)*(2*q+1)*n<2*a*(2*a)else(2*q+1)*(2*q+1)*n<=2*a*(2*a))then q+1 else q):=by
 have L:2*a*(2*a)=4*(a*a):=by grind
 rw[L];have e1:4*(q*q*n)<=4*(a*a):=Nat.mul_le_mul_left _ G;have e2:4*(a*a)<4*((q+1)*(q+1)*n):=by omega
 have N:(2*q-1)*(2*q-1)*n<=(2*q)*(2*q)*n:=Ov (by omega);have O:(2*q)*(2*q)*n=4*(q*q*n):=by grind
 have S:(2*(q+1))*(2*(q+1))*n=4*((q+1)*(q+1)*n):=by grind
 have T:(2*(q+1))*(2*(q+1))*n<=(2*(q+1)+1)*(2*(q+1)+1)*n:=Ov (by omega);have U:n=0\/q=0\/(2*q-1)*(2*q-1)*n<(2*q)*(2*q)*n:=by
  by_cases D:n=0
  ·exact .inl D
  ·by_cases M:q=0
   ·exact .inr (.inl M)
   ·right;right;refine eg ?_ (by omega);exact gi (by omega)
 have D:n≠0:=by rintro rfl;simp at I
 unfold D7;cases down
 ·simp only[dl,gq];by_cases c:(2*q+1)*(2*q+1)*n<=4*(a*a)
  ·rw[ab c];refine⟨.inr ?_,by omega⟩;rw[show 2*(q+1)-1=2*q+1 by omega];exact c
  ·rw[aa c];exact⟨by omega,by omega⟩
 ·simp only[dq];by_cases c:(2*q+1)*(2*q+1)*n<4*(a*a)
  ·rw[ab c];refine⟨.inr ?_,by omega⟩;rw[show 2*(q+1)-1=2*q+1 by omega];exact c
  ·rw[aa c];exact⟨by omega,by omega⟩
theorem OW:∀n:Nat,∃r:Nat,r*r<=n/\n<(r+1)*(r+1)
 |0=>⟨0,by decide,by decide⟩
 |n+1=>by
  obtain⟨r,D,G⟩:=OW n;by_cases c:(r+1)*(r+1)<=n+1
  ·exact⟨r+1,c,by have:=gi (show r+1<r+1+1 by omega);omega⟩
  ·exact⟨r,by omega,by omega⟩
theorem Qp3 {x r n:Int} (hx:x.natAbs<=33554432*4) (M:0<=r/\r<=33554432*4) (hn:0<n/\n<=4611686018427387904) (O:x*x<=n):
  (Bk x r n).natAbs<=268435456/\D7 (x.natAbs*r.natAbs) n.natAbs (decide (x<0)) (Bk x r n).natAbs:=by
 obtain⟨R,rfl⟩:=bq M.1;obtain⟨N,rfl⟩:=bq (show 0<=n by omega);have I:x.natAbs*x.natAbs<=N:=by
  have:((x.natAbs*x.natAbs:Nat):Int)=x*x:=by rw[fm]
  omega
 have S:(x.natAbs*R)*(x.natAbs*R)<268435456*268435456*N:=by
  have e:(x.natAbs*R)*(x.natAbs*R)=(R*R)*(x.natAbs*x.natAbs):=by grind
  rw[e];have T:R*R<=(33554432*4)*(33554432*4):=df (by omega) (by omega);have h2:(R*R)*(x.natAbs*x.natAbs)<=((33554432*4)*(33554432*4))*N:=df T I;omega
 simp only[Bk,gj];generalize x.natAbs*R=A at*;have L:0<N:=by omega
 obtain⟨q,U,V⟩:=OW (A*A/N);have X:=(Nat.le_div_iff_mul_le L).1 U;have Y:=(ew L).1 V;have hq:q<268435456:=by
  apply j4;intro c;have:=Ov (n:=N) (show 268435456<=q by omega);omega
 have G:=Q5c (decide (x<0)) X Y;have hb:∀(p:Prop) [Decidable p],(if p then q+1 else q)<=268435456:=λp _=>by split<;>omega
 by_cases D:x<0
 ·rw[aj D]at G⊢;rw[ab D,KL G,Int.natAbs_neg,gj];exact⟨hb _,G⟩
 ·rw[an D]at G⊢;rw[aa D,KL G,gj];exact⟨hb _,G⟩
theorem Z1f (hM:∀{a b c d:Nat},a<w64->b<w64->c<w64->d<w64->∀s:Bool,M [U a,U b,U c,U d,B s]=some [B (if s=true then decide (a*b<c*d)else decide (a*b<=c*d))])
  {x r n:Int} (hx:x.natAbs<=33554432*4) (L:0<=r/\r<=33554432*4) (hn:0<n/\n<=4611686018427387904) (a0:x*x<=n):
  Qlw M (Am (Mc M)) [I x,I r,I n]=some [I (Bk x r n)]/\(Bk x r n).natAbs<=268435456/\D7 (x.natAbs*r.natAbs) n.natAbs (decide (x<0)) (Bk x r n).natAbs:=by
 obtain⟨R,rfl⟩:=bq L.1;obtain⟨N,rfl⟩:=bq (show 0<=n by omega);have O:mx x (V (0-x))=(x.natAbs:Int):=by
  rw[Ae];unfold mx;split<;>omega
 have hA:x.natAbs*R<=(33554432*4)*(33554432*4):=df hx (by omega);have e1:(x.natAbs:Int)*(R:Int)=((x.natAbs*R:Nat):Int):=by simp
 have S:x.natAbs*x.natAbs<=N:=by
  have:((x.natAbs*x.natAbs:Nat):Int)=x*x:=by rw[fm]
  omega
 have T:(x.natAbs*R)*(x.natAbs*R)<268435456*268435456*N:=by
  have e:(x.natAbs*R)*(x.natAbs*R)=(R*R)*(x.natAbs*x.natAbs):=by grind
  rw[e];have h1:R*R<=(33554432*4)*(33554432*4):=df (by omega) (by omega);have h2:(R*R)*(x.natAbs*x.natAbs)<=((33554432*4)*(33554432*4))*N:=df h1 S;omega
 simp only[Bk,gj];generalize a1:x.natAbs*R=A at*;have X:A<36028797018963968:=by omega
 have hN:N<w64:=by rw[A6];omega
 rw[Zjo,O,e1,Ae (x:=(A:Int)),Dh (x:=(A:Int)) (by omega),Dh (x:=(N:Int)) (by omega)];obtain⟨q,l1,l2,l3,l4⟩:=Qeq hM (x:=x) (a:=A) (d:=N) X hN 27 0 (by decide) (by simp) (by rw[dy];exact T);have Y:Am (Mc M) [I x,U A,U N,AC.int IntKind.u64 0,AC.int IntKind.u64 134217728]=some (1,[I x,U A,U N,U q]):=l1;rw[Y];have a2:(2*q+1)*(2*q+1)<=536870911*536870911:=df (by omega) (by omega);have w1:wrap .u64 (wrap .u64 (2*(q:Int))+1)=((2*q+1:Nat):Int):=by rw[Dh (x:=2*(q:Int)) (by omega),Dh (by omega)];omega
 have w2:wrap .u64 (((2*q+1:Nat):Int)*((2*q+1:Nat):Int))=(((2*q+1)*(2*q+1):Nat):Int):=by
  rw[show((2*q+1:Nat):Int)*((2*q+1:Nat):Int)=(((2*q+1)*(2*q+1):Nat):Int)from(dc _ _).symm,Dh (by omega)]
 have w3:wrap .u64 (2*(A:Int))=((2*A:Nat):Int):=by rw[Dh (by omega)];omega
 have w4:V (wrap .u64 ((q:Int)+1))=((q+1:Nat):Int):=by rw[Dh (by omega),Ae];omega
 have w5:V (q:Int)=(q:Int):=Ae;have h:=hM (a:=(2*q+1)*(2*q+1)) (b:=N) (c:=2*A) (d:=2*A) (by rw[A6];omega) hN (by rw[A6];omega) (by rw[A6];omega) (decide (x<0));have G:=Q5c (decide (x<0)) l2 l3;simp only[go_sem,w1,w2,w3,h,w4,w5];generalize(2*q+1)*(2*q+1)=s at*;by_cases D:x<0
 ·rw[show(if x<0 then-(rnd A N true:Int)else(rnd A N false:Int))= -(rnd A N true:Int)from ab D];rw[aj D]at G⊢;simp only[dq]at G⊢;have L:=KL G;by_cases c:s*N<2*A*(2*A)
  ·rw[ab c]at G L;rw[ab D,ab (aj c),ab D,L,Ae];refine⟨?_,by omega,?_⟩
   ·rw[Int.zero_sub]
   ·rw[Int.natAbs_neg,gj];exact G
  ·rw[aa c]at G L;rw[ab D,aa (by simpa using c),ab D,L,Ae];refine⟨?_,by omega,?_⟩
   ·rw[Int.zero_sub]
   ·rw[Int.natAbs_neg,gj];exact G
 ·rw[show(if x<0 then-(rnd A N true:Int)else(rnd A N false:Int))=(rnd A N false:Int)from aa D];rw[an D]at G⊢;simp only[dl,gq]at G⊢;have L:=KL G;by_cases c:s*N<=2*A*(2*A)
  ·rw[ab c]at G L;rw[aa D,ab (aj c),aa D,L];exact⟨rfl,by omega,G⟩
  ·rw[aa c]at G L;rw[aa D,aa (by simpa using c),aa D,L];exact⟨rfl,by omega,G⟩
theorem Ztc {x r n:Int} (G:x.natAbs<=33554432*4) (L:0<=r/\r<=33554432*4) (M:0<n/\n<=4611686018427387904) (D:x*x<=n):
  TN [I x,I r,I n]=some [I (Bk x r n)]/\(Bk x r n).natAbs<=268435456/\D7 (x.natAbs*r.natAbs) n.natAbs (decide (x<0)) (Bk x r n).natAbs:=
 Z1f Zu8 G L M D
def Ii (n k:Int):Prop:=0<=k/\n<=k*k/\(k=0\/(k-1)*(k-1)<n)
theorem Zed {n i j:Int} (G:Ii n i) (I:Ii n j):i=j:=by
 have key:∀{i j:Int},Ii n i->Ii n j-> ¬i<j:=by
  rintro i j ⟨L,M,-⟩ ⟨O,S,D⟩ N;rcases D with D|D
  ·omega
  ·have:=ij L (show i<=j-1 by omega);omega
 have L:=key G I;have M:=key I G;omega
open Classical in
noncomputable def upR (n:Int):Int:=if h:∃j,Ii n j then Classical.choose h else 0
theorem Zbx {n k:Int} (h:Ii n k):upR n=k:=by
 have D:∃j,Ii n j:=⟨k,h⟩;unfold upR;rw[jh D];exact Zed (ez D) h
theorem Q1t {n r:Nat} (D:r*r<=n) (G:n<(r+1)*(r+1)):Ii n (if r*r<n then r+1 else r:Nat):=by
 unfold Ii;by_cases c:r*r<n
 ·rw[ab c];have e1:((r+1:Nat):Int)*((r+1:Nat):Int)=(((r+1)*(r+1):Nat):Int):=(dc _ _).symm;have e2:(((r+1:Nat):Int)-1)*(((r+1:Nat):Int)-1)=((r*r:Nat):Int):=by
   rw[show((r+1:Nat):Int)-1=(r:Int) by omega];exact(dc _ _).symm
  rw[e1,e2];generalize(r+1)*(r+1)=A at*;generalize r*r=B at*;exact⟨by omega,by omega, .inr (by omega)⟩
 ·rw[aa c];have e1:(r:Int)*(r:Int)=((r*r:Nat):Int):=(dc _ _).symm;rw[e1];refine⟨by omega,by omega,?_⟩;rcases ec r with h|h
  ·left;omega
  ·right;have e2:((r:Int)-1)*((r:Int)-1)=(((r-1)*(r-1):Nat):Int):=by
    rw[show(r:Int)-1=((r-1:Nat):Int) by omega];exact(dc _ _).symm
   have:=gi (show r-1<r by omega);rw[e2];omega
theorem Zfe (k:Nat):((2^(k+1):Nat):Int).fdiv (2^min (Int.toNat 1) IntKind.i64.bits)=((2^k:Nat):Int):=by
 have e:(2^min (Int.toNat 1) IntKind.i64.bits:Int)=2:=rfl;rw[e,f6 _ (by omega),iy];omega
theorem Z60:(1:Int).fdiv (2^min (Int.toNat 1) IntKind.i64.bits)=0:=rfl
def sqD (a b:Pt):Int:=Jf (G1 a b) (G1 a b)
theorem PS (a b:Pt):0<=sqD a b:=by
 unfold sqD Jf;have h:∀u:Int,0<=u*u:=λu=>by rw[<-fm];omega
 have:=h (G1 a b).x;have:=h (G1 a b).y;have:=h (G1 a b).z;omega
theorem Dx {x:Int} (h:x.natAbs<=A):0<=x*x/\x*x<=((A*A:Nat):Int):=by
 have:=df h h;rw[<-fm];omega
theorem Sa (D:bd A H) (hb:bd A G) (I:A<=67108864):sqD H G<=54043195528445952:=by
 have h:∀x y:Int,x.natAbs<=A->y.natAbs<=A->(x-y)*(x-y)<=18014398509481984:=by
  intro x y L M;exact(Dx (x:=x-y) (A:=134217728) (by omega)).2
 have N:=h _ _ D.1 hb.1;have O:=h _ _ D.2.1 hb.2.1;have S:=h _ _ D.2.2 hb.2.2;unfold sqD Jf G1;simp only;omega
noncomputable def AD (a b:Pt):Int:=upR (sqD a b)
theorem WR (_:bd 67108864 H) (_:bd 67108864 G):Ii (sqD H G) (AD H G):=by
 obtain⟨d,I⟩:=bq (PS H G);unfold AD;rw[I];obtain⟨r,L,M⟩:=OW d;have D:=Q1t L M;rw[Zbx D];exact D
theorem H8 (I:bd 67108864 H) (hb:bd 67108864 G):0<=AD H G/\AD H G<=268435456:=by
 obtain⟨L,M,D⟩:=WR I hb;have N:=Sa I hb (co _);refine⟨L,?_⟩;rcases D with D|D
 ·omega
 ·by_cases c:AD H G<=268435456
  ·exact c
  ·have:=ij (a:=268435456) (b:=AD H G-1) (by omega) (by omega);omega
def Jd (n k:Int):Prop:=0<=k/\n<=k*(k+1)/\(k=0\/(k-1)*k<n)
theorem IA {x:Int} (h:x.natAbs<=A) (D:A<=9223372036854775807):V x=x:=Ae
theorem Ib {x y:Int} {A B:Nat} (D:x.natAbs<=A) (G:y.natAbs<=B):(x-y).natAbs<=A+B:=by omega
theorem TE {x y:Int} {A B:Nat} (D:x.natAbs<=A) (G:y.natAbs<=B):(x+y).natAbs<=A+B:=by omega
theorem Wy {c u x:Int} (D:c.natAbs<=A) (G:(c+x).natAbs<=A) (h:(0<=x->0<=u/\u<=x)/\(x<=0->x<=u/\u<=0)):(c+u).natAbs<=A:=by
 rcases Int.le_total 0 x with g|g
 ·have:=h.1 g;omega
 ·have:=h.2 g;omega
theorem YU (a b:Pt):sqD a b=(a.x-b.x)*(a.x-b.x)+(a.y-b.y)*(a.y-b.y)+(a.z-b.z)*(a.z-b.z):=rfl
theorem Fm (u:Int):0<=u*u:=by rw[<-fm];omega
theorem Qdp:sqD H G=0↔H=G:=by
 rw[YU];obtain⟨a1,a2,a3⟩:=H;obtain⟨b1,b2,b3⟩:=G;have N:=Fm (a1-b1);have O:=Fm (a2-b2);have S:=Fm (a3-b3);constructor
 ·intro h;simp only at h;have e1:(a1-b1)*(a1-b1)=0:=by omega
  have e2:(a2-b2)*(a2-b2)=0:=by omega
  have e3:(a3-b3)*(a3-b3)=0:=by omega
  have z:∀u:Int,u*u=0->u=0:=λu D=>by
   rcases Int.mul_eq_zero.1 D with h|h<;>exact h
  have:=z _ e1;have:=z _ e2;have:=z _ e3;rw[Pt.mk.injEq];omega
 ·intro h;injection h with I L M;subst I L M;simp
theorem Q8d (a b:Pt):(a.x-b.x)*(a.x-b.x)<=sqD a b/\(a.y-b.y)*(a.y-b.y)<=sqD a b/\(a.z-b.z)*(a.z-b.z)<=sqD a b:=by
 rw[YU];have D:=Fm (a.x-b.x);have G:=Fm (a.y-b.y);have I:=Fm (a.z-b.z);omega
noncomputable def Bv (c a:Pt) (d:Int):Pt:=⟨c.x+Bk (a.x-c.x) d (sqD a c),c.y+Bk (a.y-c.y) d (sqD a c),c.z+Bk (a.z-c.z) d (sqD a c)⟩
abbrev B24:Nat:=16777216
theorem VC {x r n:Int} (I:x.natAbs<=33554432*4) (L:0<=r/\r<=33554432*4) (M:0<n/\n<=4611686018427387904) (D:x*x<=n) (N:r*r<=n):
  (0<=x->0<=Bk x r n/\Bk x r n<=x)/\(x<=0->x<=Bk x r n/\Bk x r n<=0):=by
 obtain⟨S,O⟩:=Qp3 I L M D;have G := Zol (by omega) (by
  have:((r.natAbs*r.natAbs:Nat):Int)=r*r:=fm;omega) O
 unfold Bk at*;constructor
 ·intro h;rw[aa]at G⊢;omega
 ·intro h;by_cases c:x<0
  ·rw[ab c]at G⊢;omega
  ·rw[aa c]at G⊢;omega
theorem Zip (D:bd B24 H) (hb:bd B24 G):sqD H G<=3377699720527872:=by
 have h:∀x y:Int,x.natAbs<=B24->y.natAbs<=B24->(x-y)*(x-y)<=1125899906842624:=by
  intro x y I L;unfold B24 at*;exact(Dx (x:=x-y) (A:=33554432) (by omega)).2
 have M:=h _ _ D.1 hb.1;have N:=h _ _ D.2.1 hb.2.1;have O:=h _ _ D.2.2 hb.2.2;rw[YU];omega
theorem KG {c a:Pt} (D:bd B24 c) (G:bd B24 a) (M:a≠c) (S:0<=d/\d<AD a c):bd B24 (Bv c a d):=by
 have T:sqD a c≠0:=λh=>M (Qdp.1 h);have U:=PS a c;have V:=Sa (AY G (by decide)) (AY D (by decide)) (show 67108864<=67108864 by omega);obtain⟨g1,g2,g3⟩:=WR (AY G (show B24<=67108864 by decide)) (AY D (show B24<=67108864 by decide));have hl:=H8 (AY G (show B24<=67108864 by decide)) (AY D (show B24<=67108864 by decide));have I:d*d<=sqD a c:=by
  have:=ij S.1 (show d<=AD a c-1 by omega);omega
 have N:d<=33554432*4:=by
  by_cases X:d<=33554432*4
  ·exact X
  ·exfalso;have h3:=ij (a:=33554432*4+1) (b:=d) (by omega) (by omega);have h4:=Zip G D;omega
 obtain⟨Y,q2,q3⟩:=Q8d a c;have O:0<sqD a c/\sqD a c<=4611686018427387904:=⟨Int.lt_iff_le_and_ne.2 ⟨U,λh=>T h.symm⟩,jz V (by decide)⟩;have L:0<=d/\d<=33554432*4:=⟨S.1,N⟩;have k1:=VC (x:=a.x-c.x) (r:=d) (n:=sqD a c) (bz (Ib G.1 D.1) (by decide)) L O Y I;have k2:=VC (x:=a.y-c.y) (r:=d) (n:=sqD a c) (bz (Ib G.2.1 D.2.1) (by decide)) L O q2 I;have k3:=VC (x:=a.z-c.z) (r:=d) (n:=sqD a c) (bz (Ib G.2.2 D.2.2) (by decide)) L O q3 I;have e:∀x y:Int,x+(y-x)=y:=λx y=>by omega
 exact⟨Wy D.1 (by rw[e];exact G.1) k1,Wy D.2.1 (by rw[e];exact G.2.1) k2,Wy D.2.2 (by rw[e];exact G.2.2) k3⟩
def Gb (p c q:Pt):Pt:=⟨p.x-c.x+(q.x-c.x),p.y-c.y+(q.y-c.y),p.z-c.z+(q.z-c.z)⟩
def Hn (p c q:Pt):Int:=Jf (Gb p c q) (Gb p c q)
theorem Zq2 {p c q:Pt} (D:bd B24 p) (G:bd B24 c) (I:bd B24 q):bd 67108864 (Gb p c q):=by
 unfold bd B24 Gb at*;simp only;omega
def G2 (a c b:Pt) (D d:Int):Prop:=d<=mn (AD a c) (AD c b)-2/\Hn (Bv c a d) c (Bv c b d)<=16*D*D
theorem UQ (x y:Int):mn x y<=x/\mn x y<=y:=by unfold mn;split<;>omega
theorem Zga (a b:Pt):sqD a b=sqD b a:=by
 unfold sqD;exact Z6f a b
theorem SW (a b:Pt):AD a b=AD b a:=by unfold AD;rw[Zga]
open Classical in
noncomputable def Fy (P:Int->Prop):Nat->Int->Int
 |0,d=>if P (d+1)then d+1 else d
 |k+1,d=>Fy P k (if P (d+((2^(k+1):Nat):Int))then d+((2^(k+1):Nat):Int)else d)
open Classical in
theorem Q0w {P:Int->Prop}:∀(k:Nat) (d:Int),d<=Fy P k d/\Fy P k d<d+((2^(k+1):Nat):Int)/\(Fy P k d=d\/P (Fy P k d))
 |0,d=>by
  have e:((2^(0+1):Nat):Int)=2:=rfl;rw[e];unfold Fy;split
  ·rename_i h;exact⟨by omega,by omega, .inr h⟩
  ·exact⟨by omega,by omega, .inl rfl⟩
 |k+1,d=>by
  unfold Fy;have M:0<2^(k+1):=fq _;have e3:2^(k+1+1)=2^(k+1)+2^(k+1):=by rw[iy 2 (k+1)];omega
  rw[e3];have D:(if P (d+((2^(k+1):Nat):Int))then d+((2^(k+1):Nat):Int)else d)=d\/((if P (d+((2^(k+1):Nat):Int))then d+((2^(k+1):Nat):Int)else d)=d+((2^(k+1):Nat):Int)/\P (if P (d+((2^(k+1):Nat):Int))then d+((2^(k+1):Nat):Int)else d)):=by
   split
   ·rename_i h;exact .inr ⟨rfl,h⟩
   ·exact .inl rfl
  generalize(if P (d+((2^(k+1):Nat):Int))then d+((2^(k+1):Nat):Int)else d)=I at*;obtain⟨N,O,G⟩:=Q0w (P:=P) k I;generalize Fy P k I=x at*;generalize 2^(k+1)=m at*;rcases D with D|⟨D,L⟩
  ·subst D;exact⟨by omega,by omega,G⟩
  ·refine⟨by omega,by omega, .inr ?_⟩;rcases G with G|G
   ·rw[G];exact L
   ·exact G
open Classical in
noncomputable def Dj (a c b:Pt) (D:Int):Int:=if a=c\/b=c then 0 else if Fy (G2 a c b D) 24 0<16 then 0 else Fy (G2 a c b D) 24 0
theorem Qny {a c b:Pt} (h:Dj a c b k≠0):a≠c/\b≠c/\16<=Dj a c b k/\Dj a c b k<33554432/\G2 a c b k (Dj a c b k):=by
 unfold Dj at*;split at h
 ·exact absurd rfl h
 ·rename_i G;rw[aa G];split at h
  ·exact absurd rfl h
  ·rename_i I;rw[aa I];obtain⟨M,L,D⟩:=Q0w (P:=G2 a c b k) 24 0;have e:((2^(24+1):Nat):Int)=33554432:=rfl;rw[e]at L;refine⟨λh=>G (.inl h),λh=>G (.inr h),by omega,by omega,?_⟩;rcases D with D|D
   ·omega
   ·exact D
theorem DU:H=G↔H.x=G.x/\H.y=G.y/\H.z=G.z:=by
 obtain⟨a1,a2,a3⟩:=H;obtain⟨b1,b2,b3⟩:=G;simp
def Na (D:Int):Nat->Int->Int
 |0,n=>n
 |k+1,n=>if n<64/\D>16*n*n*n*n*4*4 then Na D k (n*2)else n
def J3 (n:Int):Prop:=n=2\/n=4\/n=8\/n=16\/n=32\/n=64
def Lk (p c q:Pt):Int:=Na (Hn p c q) 5 2
theorem Zat (b:Int):∀(k:Nat) (n:Int),J3 n->J3 (Na b k n)
 |0,_,h=>h
 |k+1,n,h=>by
  unfold Na;split
  ·rename_i c;exact Zat b k _ (by unfold J3 at*;omega)
  ·exact h
theorem Qao (p c q:Pt):J3 (Lk p c q):=Zat _ _ _ (.inl rfl)
def Of (n i p c q:Int):Int:=c+Bi ((n-i)*(n-i)*(p-c)+i*i*(q-c)) (n*n)
def NS (n i:Int) (p c q:Pt):Pt:=⟨Of n i p.x c.x q.x,Of n i p.y c.y q.y,Of n i p.z c.z q.z⟩
theorem RV {a b n:Int} (D:0<n) (h:a<=b):Bi a n<=Bi b n:=by
 unfold Bi;exact Int.ediv_le_ediv (by omega) (by omega)
theorem Ui {k n:Int} (D:0<n):Bi (k*n) n=k:=Lw D (by rw[show k*(2*n)=2*(k*n) by grind];omega) (by rw[show(k+1)*(2*n)=2*(k*n)+2*n by grind];omega)
theorem Nk {n i p c q:Int} (I:0<n) (L:0<=i/\i<=n) (hp:p.natAbs<=A) (hc:c.natAbs<=A) (hq:q.natAbs<=A):(Of n i p c q).natAbs<=A:=by
 have D:0<n*n:=Int.mul_pos I I;have M:0<=(n-i)*(n-i):=Fm _;have N:0<=i*i:=Fm _;have O:(n-i)*(n-i)+i*i<=n*n:=by
  have:n*n-((n-i)*(n-i)+i*i)=2*(i*(n-i)):=by grind
  have:0<=i*(n-i):=f8 L.1 (by omega);omega
 have key:∀s:Int,(s=1\/s= -1)->s*((n-i)*(n-i)*(p-c)+i*i*(q-c))<=(A-s*c)*(n*n):=by
  intro s G;have S:s*p<=A:=by rcases G with rfl|rfl<;>omega
  have T:s*c<=A:=by rcases G with rfl|rfl<;>omega
  have U:s*q<=A:=by rcases G with rfl|rfl<;>omega
  have g1:(n-i)*(n-i)*(s*p-s*c)<=(n-i)*(n-i)*(A-s*c):=Int.mul_le_mul_of_nonneg_left (by omega) M;have g2:i*i*(s*q-s*c)<=i*i*(A-s*c):=Int.mul_le_mul_of_nonneg_left (by omega) N;have g3:((n-i)*(n-i)+i*i)*(A-s*c)<=n*n*(A-s*c):=fe O (by omega);have e1:s*((n-i)*(n-i)*(p-c)+i*i*(q-c))=(n-i)*(n-i)*(s*p-s*c)+i*i*(s*q-s*c):=by grind
  have e2:((n-i)*(n-i)+i*i)*(A-s*c)=(n-i)*(n-i)*(A-s*c)+i*i*(A-s*c):=js ..;have e3:(A-s*c)*(n*n)=n*n*(A-s*c):=jk ..;omega
 unfold Of;have V:=RV D (key 1 (.inl rfl)|>λh=>(by rw[jc,jc]at h;exact h));rw[Ui D]at V;have k2:=key (-1) (.inr rfl);have X:(-(A:Int)-c)*(n*n)<=(n-i)*(n-i)*(p-c)+i*i*(q-c):=by
  have e:(-(A:Int)-c)*(n*n)= -((A- -1*c)*(n*n)):=by grind
  omega
 have Y:=RV D X;rw[Ui D]at Y;omega
noncomputable def F3 (a c b:Pt) (D:Int):List Pt:=
 if Dj a c b D=0 then [c]
 else(List.range ((Lk (Bv c a (Dj a c b D)) c (Bv c b (Dj a c b D))).toNat+1)).map fun(i:Nat)=>NS (Lk (Bv c a (Dj a c b D)) c (Bv c b (Dj a c b D))) i (Bv c a (Dj a c b D)) c (Bv c b (Dj a c b D))
theorem Qzx {a c b:Pt} (M:bd B24 a) (D:bd B24 c) (hb:bd B24 b):(∀p∈F3 a c b k,bd B24 p)/\1<=(F3 a c b k).length/\(F3 a c b k).length<=65:=by
 unfold F3;by_cases h:Dj a c b k=0
 ·rw[ab h];simp;exact D
 ·rw[aa h];obtain⟨N,O,T,U,V,-⟩:=Qny h;obtain⟨m1,m2⟩:=UQ (AD a c) (AD c b);generalize Dj a c b k=d at*;have G:bd B24 (Bv c a d):=KG D M N (by omega);have I:bd B24 (Bv c b d):=KG D hb O (by rw[SW b c];omega);have S:=Qao (Bv c a d) c (Bv c b d);generalize Lk (Bv c a d) c (Bv c b d)=n at*;have X:2<=n/\n<=64:=by rcases S with rfl|rfl|rfl|rfl|rfl|rfl<;>omega
  refine⟨?_,by simp,by simp;omega⟩;intro p L;simp only[av,List.mem_range]at L;obtain⟨i,Y,rfl⟩:=L;exact⟨Nk (by omega) (by omega) G.1 D.1 I.1,Nk (by omega) (by omega) G.2.1 D.2.1 I.2.1,Nk (by omega) (by omega) G.2.2 D.2.2 I.2.2⟩
theorem Q3x {v n:Int} (_:i64 v) (D:0<n/\n<=4611686018427387904):IL [I v,I n]=some [I (v%n)]:=by
 unfold IL;rw[Zst,AZ (by omega),AZ (by omega)];have N: -n<v.tmod n/\v.tmod n<n:=by
  have a1:=Int.tmod_lt_of_pos v D.1;have a2:=Int.lt_tmod_of_pos v D.1;omega
 rw[Ae];have G:(v.tmod n+n).tmod n=v%n:=by
  rw[i8 (by omega),Int.add_emod_right];have L:=Int.tmod_add_mul_tdiv v n;have M:v%n=(v.tmod n+n*v.tdiv n)%n:=by rw[L]
  rw[M,Int.add_mul_emod_self_left]
 rw[G]
def Src (l:Rw):Prop:=l.length<=9223372036854775807/\∀c∈l,i64 (Af (nth .vD c 0))
theorem Zrw (h:i<l.length):nth [] l i∈l:=by rw[FC [] l i h];exact cg h
theorem Zye (L:∀v n:Int,i64 v->0<n/\n<=4611686018427387904->M [I v,I n]=some [I (v%n)]) {l:Rw} (G:Src l) {k:Nat} {n:Int} (D:0<n/\n<=4611686018427387904):
  ∃(v:Int) (k':Nat),Qnc M [I n, .vC Aa l,I k]=some [I v, .vC Aa l,I k']/\0<=v/\v<n/\k<=k'/\(k<l.length->k'=k+1)/\(l.length<=k->k'=k):=by
 have N:=G.1;rw[Zxl];by_cases h:k<l.length
 ·have O:=L _ n (G.2 _ (Zrw h)) D;simp only[go_sem,ak,O];rw[aa,ab,Ae];exact⟨_,k+1,rfl,Int.emod_nonneg _ (by omega),Int.emod_lt_of_pos _ D.1,by omega,λ_=>rfl,by omega⟩
 ·simp only[go_sem];rw[ab];exact⟨0,k,rfl,by omega,D.1,by omega,by omega,λ_=>rfl⟩
theorem Z7u (G:Src l) (k:Nat) {n:Int} (D:0<n/\n<=4611686018427387904):
  ∃(v:Int) (k':Nat),BE [I n, .vC Aa l,I k]=some [I v, .vC Aa l,I k']/\0<=v/\v<n/\k<=k'/\(k<l.length->k'=k+1)/\(l.length<=k->k'=k):=
 Zye (λ_ _ L D=>Q3x L D) G D
theorem Qt8 (l:Rw) (k:Nat):FW [.vC Aa l,I k]=some [B (decide (k<l.length)), .vC Aa l,I k]:=by
 unfold FW;rw[Zfc];congr 3;simp
theorem Ql (l:Rw):Cu [.vC Aa l]=some [.vC Aa l,I 0]:=by
 unfold Cu;rw[Zpo]
def AR (r:Int) (k:Int):Int:=if k%4=0 then r else if k%4=2 then-r else 0
def AT (r:Int) (k:Int):Int:=if k%4=1 then r else if k%4=3 then-r else 0
theorem Z99 (L:0<=r/\r<=1000000) (D:0<=k/\k<=1000):OI [I r,I k]=some [I (AR r k),I (AT r k)]:=by
 unfold OI;rw[Zwo,Ae,i8 D.1];have G:k%4=0\/k%4=1\/k%4=2\/k%4=3:=by omega
 unfold AR AT;rcases G with h|h|h|h<;>rw[h]<;>simp[nth,Af]
def plU (pl:Int) (p:Pt):Int:=if pl=17 then p.x else if pl=18 then p.z else p.y
def plW (pl:Int) (p:Pt):Int:=if pl=17 then p.y else if pl=18 then p.x else p.z
def plH (pl:Int) (p:Pt):Int:=if pl=17 then p.z else if pl=18 then p.y else p.x
def spP (pl u w h:Int):Pt:=if pl=17 then⟨u,w,h⟩else if pl=18 then⟨w,h,u⟩else⟨h,u,w⟩
def C4 (pl:Int):Prop:=pl=17\/pl=18\/pl=19
theorem Zyb (h:C4 a):NJ [I H.x,I H.y,I H.z,I a]=some [I (plU a H),I (plW a H),I (plH a H)]:=by
 unfold NJ;rw[Zo5];rcases h with rfl|rfl|rfl<;>rfl
theorem Z9m {u w h pl:Int} (D:C4 pl):NZ [I u,I w,I h,I pl]=some (ptR (spP pl u w h)):=by
 unfold NZ;rw[Z7d];rcases D with rfl|rfl|rfl<;>rfl
theorem ND {pl u w h:Int} (D:C4 pl):plU pl (spP pl u w h)=u/\plW pl (spP pl u w h)=w/\plH pl (spP pl u w h)=h:=by
 rcases D with rfl|rfl|rfl<;>exact⟨rfl,rfl,rfl⟩
structure ArcMade (size : Int) (it : Itm) : Prop where
 aP:it.aP=3
 aG:C4 it.aG
 dir:it.dir=1\/it.dir= -1
 ends:∃r k t g h:Int,8<=r/\r<8+size/\0<=k/\k<=3/\0<=t/\t<=3/\0<=g/\g<=4/\(h=0\/h=7\/h= -12)/\(t=0->g=0)/\it.bG=decide (t=0)/\
  it.ce=spP it.aG (plU it.aG it.fr-AR r k) (plW it.aG it.fr-AT r k) (plH it.aG it.fr)/\
  it.to=spP it.aG (plU it.aG it.fr-AR r k+AR (r+g) (k+t)) (plW it.aG it.fr-AT r k+AT (r+g) (k+t)) (plH it.aG it.fr+h)
theorem Pf (D:0<=r):(-r<=AR r k/\AR r k<=r)/\(-r<=AT r k/\AT r k<=r):=by
 unfold AR AT;constructor<;>constructor<;>split<;>(try split)<;>omega
theorem Zcp (I:1<=r) (k:Int):((AR r k).tdiv r=AR 1 k)/\((AT r k).tdiv r=AT 1 k):=by
 have D:r.tdiv r=1:=Int.tdiv_self (by omega);have G:(-r).tdiv r= -1:=by rw[Int.neg_tdiv,D]
 unfold AR AT;constructor<;>split<;>(try split)<;>simp[D,G]
theorem Z6r (r k e f:Int):∃g,(g=e\/g=f)/\AR r k+AR 1 k*e=AR (r+g) k/\AT r k+AT 1 k*f=AT (r+g) k:=by
 unfold AR AT;by_cases h:k%4=0\/k%4=2
 ·refine⟨e, .inl rfl,?_,?_⟩
  ·rcases h with h|h<;>simp[h]<;>omega
  ·rcases h with h|h<;>simp[h]
 ·have D:k%4=1\/k%4=3:=by omega
  refine⟨f, .inr rfl,?_,?_⟩
  ·rcases D with h|h<;>simp[h]
  ·rcases D with h|h<;>simp[h]<;>omega
theorem HK {pl:Int} (h:bd i H):(plU pl H).natAbs<=i/\(plW pl H).natAbs<=i/\(plH pl H).natAbs<=i:=by
 obtain⟨D,G,I⟩:=h;unfold plU plW plH;refine⟨?_,?_,?_⟩<;>split<;>(try split)<;>assumption
def GH (l:Rw) (M:Fn):Prop:=∀(k:Nat) {n:Int},0<n/\n<=4611686018427387904->
  ∃(v:Int) (k':Nat),M [I n, .vC Aa l,I k]=some [I v, .vC Aa l,I k']/\0<=v/\v<n/\k<=k'/\(k<l.length->k'=k+1)/\(l.length<=k->k'=k)
abbrev F7 (it:Itm):Prop:=it.block=0/\it.side=0/\it.radius=0/\it.aS=0/\it.on=false
theorem Z3y (h:0<=v/\v<3):Af (nth .vD (nth [] [[I 17],[I 18],[I 19]] v.toNat) 0)=17+v:=by
 have D:v=0\/v=1\/v=2:=by omega
 rcases D with rfl|rfl|rfl<;>rfl
theorem Q2q (h:0<=v/\v<4):∃x,Af (nth .vD (nth [] [[I 0],[I 0],[I 7],[I (-12)]] v.toNat) 0)=x/\(x=0\/x=7\/x= -12):=by
 have D:v=0\/v=1\/v=2\/v=3:=by omega
 rcases D with rfl|rfl|rfl|rfl<;>exact⟨_,rfl,by decide⟩
theorem Zd0 (S:GH l T)
  (hP:∀{p:Pt} {pl:Int},C4 pl->W [I p.x,I p.y,I p.z,I pl]=some [I (plU pl p),I (plW pl p),I (plH pl p)])
  (hS:∀{u w h pl:Int},C4 pl->M [I u,I w,I h,I pl]=some (ptR (spP pl u w h)))
  (hT:∀{r k:Int},(0<=r/\r<=1000000)->(0<=k/\k<=1000)->Z [I r,I k]=some [I (AR r k),I (AT r k)])
  {p:Pt} (hp:bd 100000000 p) {size:Int} (hs:0<size/\size<=100000) (k:Nat):
  ∃(it:Itm) (k':Nat),Qik M Z W T [I p.x,I p.y,I p.z,I size, .vC Aa l,I k]=some (Ag it++[.vC Aa l,I k'])/\k<=k'/\it.fr=p/\ArcMade size it/\
   it.aZ=0/\it.perRev=false/\it.bH=0/\it.n=0/\F7 it:=by
 obtain⟨N,k1,e1,a1,b1,c1,-,-⟩:=S k (n:=3) (by omega);obtain⟨v2,k2,e2,a2,b2,c2,-,-⟩:=S k1 (n:=2) (by omega);obtain⟨G,k3,e3,a3,b3,c3,-,-⟩:=S k2 (n:=size) (by omega);obtain⟨D,k4,e4,a4,b4,c4,-,-⟩:=S k3 (n:=4) (by omega);obtain⟨L,k5,e5,a5,b5,c5,-,-⟩:=S k4 (n:=4) (by omega);rw[Zyf];simp only[go_sem,e1,e2,e3,e4,e5];rw[ab (by simp;omega)];have a0:C4 (17+N):=by unfold C4;omega
 have w1:V (8+G)=8+G:=Ae;have w2:V (D+L)=D+L:=Ae;simp only[Z3y ⟨a1,b1⟩,hP a0,go_sem,w1,w2,hT (r:=8+G) (k:=D) (by omega) (by omega),hT (r:=8+G) (k:=D+L) (by omega) (by omega),hS a0];obtain⟨q1,q2,q3⟩:=HK (pl:=17+N) hp;obtain⟨⟨r1,r2⟩,r3,r4⟩:=Pf (r:=8+G) (k:=D) (by omega);obtain⟨⟨r5,r6⟩,r7,r8⟩:=Pf (r:=8+G) (k:=D+L) (by omega);obtain⟨d1,d2⟩:=Zcp (r:=8+G) (by omega) (D+L);obtain⟨⟨r9,f4⟩,f5,g0⟩:=Pf (r:=1) (k:=D+L) (by omega);have w3:V (plU (17+N) p-AR (8+G) D)=plU (17+N) p-AR (8+G) D:=Ae;have w4:V (plW (17+N) p-AT (8+G) D)=plW (17+N) p-AT (8+G) D:=Ae;have w5:V (1-V (v2*2))=1-v2*2:=by rw[Ae (x:=v2*2),Ae]
 have w6:V (plU (17+N) p-AR (8+G) D+AR (8+G) (D+L))=plU (17+N) p-AR (8+G) D+AR (8+G) (D+L):=Ae;have w7:V (plW (17+N) p-AT (8+G) D+AT (8+G) (D+L))=plW (17+N) p-AT (8+G) D+AT (8+G) (D+L):=Ae;rw[w3,w4,w5,w6,w7];have d0:1-v2*2=1\/1-v2*2= -1:=by omega
 have fin:∀(g:Int) (u w:Int) (k8:Nat),k5<=k8->0<=g->g<=4->(L=0->g=0)->u=AR (8+G+g) (D+L)->w=AT (8+G+g) (D+L)->∀O:Int,0<=O/\O<4->
   ∃it:Itm,[I 3,I 0,I p.x,I p.y,I p.z,I (spP (17+N) (plU (17+N) p-AR (8+G) D+u) (plW (17+N) p-AT (8+G) D+w) (plH (17+N) p+Af (nth .vD (nth [] [[I 0],[I 0],[I 7],[I (-12)]] O.toNat) 0))).x,
    I (spP (17+N) (plU (17+N) p-AR (8+G) D+u) (plW (17+N) p-AT (8+G) D+w) (plH (17+N) p+Af (nth .vD (nth [] [[I 0],[I 0],[I 7],[I (-12)]] O.toNat) 0))).y,
    I (spP (17+N) (plU (17+N) p-AR (8+G) D+u) (plW (17+N) p-AT (8+G) D+w) (plH (17+N) p+Af (nth .vD (nth [] [[I 0],[I 0],[I 7],[I (-12)]] O.toNat) 0))).z,
    I (17+N),I (spP (17+N) (plU (17+N) p-AR (8+G) D) (plW (17+N) p-AT (8+G) D) (plH (17+N) p)).x,I (spP (17+N) (plU (17+N) p-AR (8+G) D) (plW (17+N) p-AT (8+G) D) (plH (17+N) p)).y,I (spP (17+N) (plU (17+N) p-AR (8+G) D) (plW (17+N) p-AT (8+G) D) (plH (17+N) p)).z,
    I (1-v2*2),B (decide (L=0)),I 0,B false,I 0,I 0,I 0,I 0,I 0,B false, .vC Aa l,I k8]=Ag it++[.vC Aa l,I k8]/\it.fr=p/\ArcMade size it/\it.aZ=0/\it.perRev=false/\it.bH=0/\it.n=0/\F7 it:=by
  intro g u w k8 g1 f0 f1 f2 hu hw O b0;obtain⟨x,hx,d3⟩:=Q2q b0;rw[hx];refine⟨⟨3,0,p,_,17+N,_,1-v2*2,decide (L=0),0,false,0,0,0,0,0,false⟩,rfl,rfl,⟨rfl,a0,d0,8+G,D,L,g,x,?_⟩,rfl,rfl,rfl,rfl,rfl,rfl,rfl,rfl,rfl⟩;subst hu hw;exact⟨by omega,by omega,by omega,by omega,by omega,by omega,f0,f1,d3,f2,rfl,rfl,rfl⟩
 have c0:∀O:Int,0<=O/\O<4->V (plH (17+N) p+Af (nth .vD (nth [] [[I 0],[I 0],[I 7],[I (-12)]] O.toNat) 0))=plH (17+N) p+Af (nth .vD (nth [] [[I 0],[I 0],[I 7],[I (-12)]] O.toNat) 0):=by
  intro O b0;obtain⟨x,hx,d3⟩:=Q2q b0;rw[hx];exact Ae
 have f3:(L==0)=decide (L=0):=rfl;by_cases d4:L>0
 ·rw[ab d4];obtain⟨v6,k6,e6,a6,b6,c6,-,-⟩:=S k5 (n:=3) (by omega);simp only[go_sem,e6];by_cases d5:v6=0
  ·rw[ab d5,aa];obtain⟨v7,k7,e7,a7,b7,c7,-,-⟩:=S k6 (n:=5) (by omega);obtain⟨v8,k8,e8,a8,b8,c8,-,-⟩:=S k7 (n:=5) (by omega);obtain⟨O,U,e9,X,Y,c9,-,-⟩:=S k8 (n:=4) (by omega);simp only[go_sem,e7,e8,e9];rw[aa,ab (by simp;omega),c0 O ⟨X,Y⟩,d1,d2];obtain⟨g,hg,hu,hw⟩:=Z6r (8+G) (D+L) v7 v8;have mu: -4<=AR 1 (D+L)*v7/\AR 1 (D+L)*v7<=4:=by
    have hc:AR 1 (D+L)= -1\/AR 1 (D+L)=0\/AR 1 (D+L)=1:=by omega
    rcases hc with h|h|h<;>rw[h]<;>omega
   have mw: -4<=AT 1 (D+L)*v8/\AT 1 (D+L)*v8<=4:=by
    have hc:AT 1 (D+L)= -1\/AT 1 (D+L)=0\/AT 1 (D+L)=1:=by omega
    rcases hc with h|h|h<;>rw[h]<;>omega
   rw[Ae (x:=AR 1 (D+L)),Ae (x:=AT 1 (D+L)),Ae (x:=AR 1 (D+L)*v7),Ae (x:=AT 1 (D+L)*v8),
    Ae (x:=AR (8+G) (D+L)+_),Ae (x:=AT (8+G) (D+L)+_),hu,hw]
   obtain⟨⟨s1,s2⟩,s3,s4⟩:=Pf (r:=8+G+g) (k:=D+L) (by omega);rw[Ae (x:=_+AR (8+G+g) (D+L)),Ae (x:=_+AT (8+G+g) (D+L))];obtain⟨it,h1,h2⟩:=fin g _ _ U (by omega) (by omega) (by omega) (by omega) rfl rfl O ⟨X,Y⟩;refine⟨it,U,?_,by omega,h2⟩;exact il some h1
  ·rw[aa d5];obtain⟨O,U,e9,X,Y,c9,-,-⟩:=S k6 (n:=4) (by omega);simp only[go_sem,e9];rw[ab (by simp;omega),c0 O ⟨X,Y⟩];obtain⟨it,h1,h2⟩:=fin 0 _ _ U (by omega) (by omega) (by omega) (by omega) (by rw[jl]) (by rw[jl]) O ⟨X,Y⟩;refine⟨it,U,?_,by omega,h2⟩;exact il some h1
 ·rw[aa d4];obtain⟨O,U,e9,X,Y,c9,-,-⟩:=S k5 (n:=4) (by omega);simp only[go_sem,e9];rw[ab (by simp;omega),c0 O ⟨X,Y⟩];obtain⟨it,h1,h2⟩:=fin 0 _ _ U (by omega) (by omega) (by omega) (by omega) (by rw[jl]) (by rw[jl]) O ⟨X,Y⟩;refine⟨it,U,?_,by omega,h2⟩;exact il some h1
theorem Hg (D:Src l):GH l BE:=λk _ G=>Z7u D k G
theorem Z3n (D:Src l) {p:Pt} (G:bd 100000000 p) {size:Int} (L:0<size/\size<=100000) (k:Nat):
  ∃(it:Itm) (k':Nat),P_ [I p.x,I p.y,I p.z,I size, .vC Aa l,I k]=some (Ag it++[.vC Aa l,I k'])/\k<=k'/\it.fr=p/\ArcMade size it/\
   it.aZ=0/\it.perRev=false/\it.bH=0/\it.n=0/\F7 it:=
 Zd0 (Hg D) Zyb Z9m Z99 G L k
structure Made (it : Itm) : Prop where
 aP:1<=it.aP/\it.aP<=6
 line:it.aP≠3->(it.to.x-it.fr.x).natAbs<=16/\(it.to.y-it.fr.y).natAbs<=16/\(it.to.z-it.fr.z).natAbs<=16
 arc:it.aP=3->ArcMade 8 it
 aZ:it.aP≠1->1<=it.aZ/\it.aZ<=60000000
 bH:0<=it.bH/\it.bH<=9
 sync:it.aP=5\/it.aP=6->it.bH=0/\it.aZ<=60
 free:it.aP<=4->it.perRev=false
 bG:it.aP≠3->it.bG=false
theorem Q78 (h:0<=v/\v<5):∃x,Af (nth .vD (nth [] [[I 300000],[I 1],[I 60000],[I 2000000],[I 60000000]] v.toNat) 0)=x/\1<=x/\x<=60000000:=by
 have D:v=0\/v=1\/v=2\/v=3\/v=4:=by omega
 rcases D with rfl|rfl|rfl|rfl|rfl<;>exact⟨_,rfl,by decide⟩
theorem Q5a (h:0<=v/\v<5):∃x,Af (nth .vD (nth [] [[I 0],[I 1],[I 2],[I 4],[I 9]] v.toNat) 0)=x/\0<=x/\x<=9:=by
 have D:v=0\/v=1\/v=2\/v=3\/v=4:=by omega
 rcases D with rfl|rfl|rfl|rfl|rfl<;>exact⟨_,rfl,by decide⟩
theorem Yar {it:Itm} (h:ArcMade a it) (f b:Int) (pr:Bool) (n:Int):ArcMade a {it with aZ:=f,bH:=b,perRev:=pr,n:=n}:=⟨h.aP,h.aG,h.dir,h.ends⟩
theorem Z0h (D:GH l Z)
  (hA:∀{p:Pt},bd 100000000 p->∀k:Nat,∃(it:Itm) (k':Nat),M [I p.x,I p.y,I p.z,I 8, .vC Aa l,I k]=some (Ag it++[.vC Aa l,I k'])/\k<=k'/\it.fr=p/\ArcMade 8 it/\it.aZ=0/\it.perRev=false/\it.bH=0/\it.n=0/\F7 it)
  {p:Pt} (hp:bd 100000000 p) {aP:Int} (hk:1<=aP/\aP<=6) (k:Nat):
  ∃(it:Itm) (k':Nat),Vu Z M [I p.x,I p.y,I p.z,I aP, .vC Aa l,I k]=some (Ag it++[.vC Aa l,I k'])/\k<=k'/\it.fr=p/\it.aP=aP/\Made it/\F7 it:=by
 rw[Z0q];obtain⟨d1,d2,d3⟩:=hp;by_cases h3:aP=3
 ·subst h3;obtain⟨it,k1,e1,c1,g1,g2,g3,g4,g5,g6,g7,g8,g9,g10,g11⟩:=hA ⟨d1,d2,d3⟩ k;obtain⟨G,k2,e2,a2,b2,c2,-,-⟩:=D k1 (n:=5) (by omega);obtain⟨L,k3,e3,a3,b3,c3,-,-⟩:=D k2 (n:=5) (by omega);simp only[go_sem,e1,Ag,az,bc,e2,e3];rw[aa,ab (by simp;omega),ab (by simp;omega),aa,aa,aa];obtain⟨f,hf,Y,a0⟩:=Q78 ⟨a2,b2⟩;obtain⟨b,hb,b0,c0⟩:=Q5a ⟨a3,b3⟩;rw[hf,hb];have N:=g2.aP;refine⟨{it with aZ:=f,bH:=b,perRev:=it.perRev,n:=it.n},k3,rfl,by omega,g1,N,⟨?_,?_,?_,?_,?_,?_,?_,?_⟩,g7,g8,g9,g10,g11⟩
  ·show 1<=it.aP/\it.aP<=6;omega
  ·exact λh=>absurd N h
  ·exact λ_=>Yar g2 f b _ _
  ·exact λ_=>⟨Y,a0⟩
  ·exact⟨b0,c0⟩
  ·intro h;change it.aP=5\/it.aP=6 at h;omega
  ·exact λ_=>g4
  ·exact λh=>absurd N h
 ·simp only[go_sem];rw[aa h3];obtain⟨O,k1,e1,a1,b1,c1,-,-⟩:=D k (n:=25) (by omega);obtain⟨G,k2,e2,a2,b2,c2,-,-⟩:=D k1 (n:=25) (by omega);obtain⟨L,k3,e3,a3,b3,c3,-,-⟩:=D k2 (n:=3) (by omega);obtain⟨v4,k4,e4,a4,b4,c4,-,-⟩:=D k3 (n:=9) (by omega);obtain⟨S,k5,e5,a5,b5,c5,-,-⟩:=D k4 (n:=2) (by omega);simp only[go_sem,e1,e2,e3,e4,e5];have hm:0<=L*v4/\L*v4<=16:=by
   have hc:L=0\/L=1\/L=2:=by omega
   rcases hc with rfl|rfl|rfl<;>omega
  generalize L*v4=m at hm;have w1:V (V (p.x+O)-12)=p.x+O-12:=by rw[Ae (x:=p.x+O),Ae]
  have w2:V (V (p.y+G)-12)=p.y+G-12:=by rw[Ae (x:=p.y+G),Ae]
  have w3:V (V (p.z+V m)-V (8*S))=p.z+m-8*S:=by
   rw[Ae (x:=m),Ae (x:=p.z+m),Ae (x:=8*S),Ae]
  rw[w1,w2,w3]
  have mk:∀(f b n:Int) (pr:Bool),(aP≠1->1<=f/\f<=60000000)->(0<=b/\b<=9)->(aP=5\/aP=6->b=0/\f<=60)->(aP<=4->pr=false)->
    ∃it:Itm,Ag it=[I aP,I 0,I p.x,I p.y,I p.z,I (p.x+O-12),I (p.y+G-12),I (p.z+m-8*S),I 0,I 0,I 0,I 0,I 0,B false,I f,B pr,I 0,I 0,I b,I n,I 0,B false]/\it.fr=p/\it.aP=aP/\Made it/\F7 it:=by
   intro f b n pr T h2 U X;refine⟨⟨aP,0,p,⟨p.x+O-12,p.y+G-12,p.z+m-8*S⟩,0,⟨0,0,0⟩,0,false,f,pr,0,0,b,n,0,false⟩,rfl,rfl,rfl,⟨hk,λ_=> ?_,λh=>absurd h h3,T,h2,U,X,λ_=>rfl⟩,rfl,rfl,rfl,rfl,rfl⟩;show(p.x+O-12-p.x).natAbs<=16/\(p.y+G-12-p.y).natAbs<=16/\(p.z+m-8*S-p.z).natAbs<=16;omega
  have en:∀(f b n:Int) (pr:Bool) (k':Nat),k<=k'->(aP≠1->1<=f/\f<=60000000)->(0<=b/\b<=9)->(aP=5\/aP=6->b=0/\f<=60)->(aP<=4->pr=false)->
    ∃(it:Itm) (d0:Nat),some [I aP,I 0,I p.x,I p.y,I p.z,I (p.x+O-12),I (p.y+G-12),I (p.z+m-8*S),I 0,I 0,I 0,I 0,I 0,B false,I f,B pr,I 0,I 0,I b,I n,I 0,B false, .vC Aa l,I k']=some (Ag it++[.vC Aa l,I d0])/\k<=d0/\it.fr=p/\it.aP=aP/\Made it/\F7 it:=by
   intro f b n pr k' h0 T h2 U X;obtain⟨it,i1,i2⟩:=mk f b n pr T h2 U X;refine⟨it,k',?_,h0,i2⟩;rw[i1];rfl
  by_cases T:aP=1
  ·rw[ab T];exact en _ _ _ _ _ (by omega) (λh=>absurd T h) (by omega) (by omega) (λ_=>rfl)
  ·rw[aa T];obtain⟨v6,k6,e6,a6,b6,c6,-,-⟩:=D k5 (n:=5) (by omega);obtain⟨v7,k7,e7,a7,b7,c7,-,-⟩:=D k6 (n:=5) (by omega);obtain⟨v8,k8,e8,a8,b8,c8,-,-⟩:=D k7 (n:=60) (by omega);obtain⟨v9,k9,e9,a9,b9,c9,-,-⟩:=D k8 (n:=2) (by omega);simp only[go_sem,e6,e7,e8,e9];rw[ab (by simp;omega),ab (by simp;omega)];obtain⟨f,hf,Y,a0⟩:=Q78 ⟨a6,b6⟩;obtain⟨b,hb,b0,c0⟩:=Q5a ⟨a7,b7⟩;rw[hf,hb,Ae (x:=1+v8),Ae (x:=3+v9)];by_cases X:aP=5
   ·rw[ab X,aa];exact en _ _ _ _ _ (by omega) (by omega) (by omega) (by omega) (by omega)
   ·rw[aa X];by_cases h6:aP=6
    ·rw[ab h6,ab h6];exact en _ _ _ _ _ (by omega) (by omega) (by omega) (by omega) (by omega)
    ·rw[aa h6];by_cases U:aP=4
     ·rw[ab U];exact en _ _ _ _ _ (by omega) (by omega) (by omega) (by omega) (λ_=>rfl)
     ·rw[aa U];exact en _ _ _ _ _ (by omega) (by omega) (by omega) (by omega) (λ_=>rfl)
theorem Zt2 (G:Src l) {p:Pt} (D:bd 100000000 p) {aP:Int} (L:1<=aP/\aP<=6) (k:Nat):
  ∃(it:Itm) (k':Nat),KO [I p.x,I p.y,I p.z,I aP, .vC Aa l,I k]=some (Ag it++[.vC Aa l,I k'])/\k<=k'/\it.fr=p/\it.aP=aP/\Made it/\F7 it:=
 Z0h (Hg G) (λD k=>Z3n G D (by omega) k) D L k
theorem Qjf {it:Itm} (h:ArcMade a it) (M:a<=1000) (hf:bd i it.fr):bd (i+2*(12+a.toNat)) it.to/\bd (i+8+a.toNat) it.ce:=by
 obtain⟨r,k,t,g,x,N,O,S,T,U,V,X,Y,h9,I,L,D,G⟩:=h.ends;obtain⟨q1,q2,q3⟩:=HK (pl:=it.aG) hf;obtain⟨⟨r1,r2⟩,r3,r4⟩:=Pf (r:=r) (k:=k) (by omega);obtain⟨⟨r5,r6⟩,r7,r8⟩:=Pf (r:=r+g) (k:=k+t) (by omega);rw[D,G];unfold bd spP;constructor<;>split<;>(try split)<;>refine⟨?_,?_,?_⟩<;>simp only<;>omega
theorem Qt2 {it:Itm} (h:Made it) (hf:bd i it.fr):bd (i+40) it.to:=by
 by_cases D:it.aP=3
 ·exact AY (Qjf (h.arc D) (by omega) hf).1 (by omega)
 ·obtain⟨G,I,L⟩:=h.line D;obtain⟨g1,g2,M⟩:=hf;exact⟨by omega,by omega,by omega⟩
instance (pl:Int):Decidable (C4 pl):=by unfold C4;infer_instance
instance (A:Nat) (p:Pt):Decidable (bd A p):=by unfold bd;infer_instance
def dU (it:Itm) (p:Pt):Int:=plU it.aG p-plU it.aG it.ce
def dW (it:Itm) (p:Pt):Int:=plW it.aG p-plW it.aG it.ce
def sq2 (u w:Int):Int:=u*u+w*w
def crs (u w x y:Int):Int:=u*y-w*x
def dt2 (u w x y:Int):Int:=u*x+w*y
def qA (it:Itm):Int:=sq2 (dU it it.fr) (dW it it.fr)
def qB (it:Itm):Int:=sq2 (dU it it.to) (dW it it.to)
def cAB (it:Itm):Int:=crs (dU it it.fr) (dW it it.fr) (dU it it.to) (dW it it.to)
def dAB (it:Itm):Int:=dt2 (dU it it.fr) (dW it it.fr) (dU it it.to) (dW it it.to)
def H2 (X Y:Int):Prop:=X+Y-16<=0\/(X+Y-16)*(X+Y-16)<=4*X*Y
def Qha (it:Itm):Prop:=64<=qA it/\64<=qB it/\H2 (qA it) (qB it)/\(it.bG=true->dU it it.fr=dU it it.to/\dW it it.fr=dW it it.to)/\(it.bG=false->cAB it≠0\/dAB it<0)
def Zpw (it:Itm):Prop:=C4 it.aG/\(it.dir=1\/it.dir= -1)/\bd 1048576 it.ce/\Qha it
def Dt (it:Itm):Prop:=(1<=it.aP/\it.aP<=6)/\bd 1048576 it.fr/\bd 1048576 it.to/\(it.aP=3->Zpw it)
theorem Qb3 {it:Itm} {b c:Nat} (D:bd c it.ce) (h:bd b H):(dU it H).natAbs<=b+c/\(dW it H).natAbs<=b+c:=by
 obtain⟨G,I,L⟩:=HK (pl:=it.aG) h;obtain⟨g1,g2,M⟩:=HK (pl:=it.aG) D;unfold dU dW;omega
theorem Q21 (x:Int) {b:Nat} (h:x.natAbs<=b):0<=x*x/\x*x<=((b*b:Nat):Int):=by
 have D:=HS h h;have G:0<=x*x:=by rw[<-fm];omega
 omega
theorem Zbe {u w:Int} (D:u.natAbs<=i) (G:w.natAbs<=i):0<=sq2 u w/\sq2 u w<=((2*(i*i):Nat):Int):=by
 have I:=Q21 u D;have L:=Q21 w G;unfold sq2;omega
theorem Q2h {u w x y:Int} {b c:Nat} (D:u.natAbs<=b) (G:w.natAbs<=b) (I:x.natAbs<=c) (L:y.natAbs<=c):(dt2 u w x y).natAbs<=2*(b*c)/\(crs u w x y).natAbs<=2*(b*c):=by
 have M:=HS D I;have N:=HS G L;have O:=HS D L;have S:=HS G I;unfold dt2 crs;omega
theorem Zer (D:64<=X) (G:64<=Y):H2 X Y↔(max X Y-min X Y-16<=0\/(max X Y-min X Y-16)*(max X Y-min X Y-16)<=64*min X Y):=by
 unfold H2;have key:∀M m:Int,64<=M->64<=m->m<=M->((M+m-16<=0\/(M+m-16)*(M+m-16)<=4*M*m)↔(M-m-16<=0\/(M-m-16)*(M-m-16)<=64*m)):=by
  intro M m L N O;have e:(M-m-16)*(M-m-16)-64*m=(M+m-16)*(M+m-16)-4*M*m:=by grind
  by_cases I:M-m-16<=0
  ·refine iff_of_true (.inr ?_) (.inl I);have S:(16-(M-m))*(M-m+16)>=0:=f8 (by omega) (by omega);have T:(M+m-16)*(M+m-16)-4*M*m=512-(16-(M-m))*(M-m+16)-32*(M+m):=by grind
   omega
  ·constructor
   ·rintro(h|h)
    ·omega
    ·exact .inr (by omega)
   ·rintro(h|h)
    ·omega
    ·exact .inr (by omega)
 by_cases h:X<=Y
 ·rw[Int.max_eq_right h,Int.min_eq_left h,<-key Y X G D h];have e1:X+Y-16=Y+X-16:=by omega
  have e2:4*X*Y=4*Y*X:=by grind
  rw[e1,e2]
 ·rw[Int.max_eq_left (by omega),Int.min_eq_right (by omega),<-key X Y D G (by omega)]
theorem Zns (p:Pt):Nq [I p.x,I p.y,I p.z]=some [B (decide (bd 1048576 p))]:=by
 unfold Nq;rw[Zn6];simp only[go_sem];by_cases h:bd 1048576 p
 ·obtain⟨O,S,T⟩:=h;rw[aa,aa,aa,aa,aa,aa];congr 3;symm;exact aj ⟨O,S,T⟩
 ·have e:decide (bd 1048576 p)=false:=an h;rw[e];unfold bd at h;by_cases D:p.x< -1048576
  ·rw[ab D]
  rw[aa D];by_cases G:p.x>1048576
  ·rw[ab G]
  rw[aa G];by_cases L:p.y< -1048576
  ·rw[ab L]
  rw[aa L];by_cases M:p.y>1048576
  ·rw[ab M]
  rw[aa M];by_cases N:p.z< -1048576
  ·rw[ab N]
  rw[aa N,ab]
def axI (pl:Int):Int×Int×Int:=if pl=17 then(0,1,2)else if pl=18 then(2,0,1)else if pl=19 then(1,2,0)else(0,0,0)
theorem Qfb (pl:Int):Fh [I pl]=some [I (axI pl).1,I (axI pl).2.1,I (axI pl).2.2,B (decide (C4 pl))]:=by
 unfold Fh;rw[Z12];simp only[go_sem];unfold axI C4;by_cases D:pl=17
 ·rw[ab D,ab D];simp[D]
 rw[aa D,aa D];by_cases G:pl=18
 ·rw[ab G,ab G];simp[G]
 rw[aa G,aa G];by_cases L:pl=19
 ·rw[ab L,ab L];simp[L]
 rw[aa L,aa L];simp[D,G,L]
theorem Z7o (G:∀pl:Int,M [I pl]=some [I (axI pl).1,I (axI pl).2.1,I (axI pl).2.2,B (decide (C4 pl))]) {p:Pt} {pl:Int} (D:C4 pl):
  U5 M [I p.x,I p.y,I p.z,I pl]=some [I (plU pl p),I (plW pl p),I (plH pl p)]:=by
 rw[Z9i];simp only[go_sem,G];rw[aa (by simpa using D)];rcases D with rfl|rfl|rfl<;>rfl
theorem Qvu (D:C4 a):HV [I H.x,I H.y,I H.z,I a]=some [I (plU a H),I (plW a H),I (plH a H)]:=Z7o Qfb D
def Aw (p:Pt):Pt:=⟨p.x*16,p.y*16,p.z*16⟩
theorem E3 (h:bd i H):bd (i*16) (Aw H):=by
 obtain⟨D,G,I⟩:=h;unfold Aw;exact⟨by simp only;omega,by simp only;omega,by simp only;omega⟩
theorem TG (pl:Int) (p:Pt):plU pl (Aw p)=plU pl p*16/\plW pl (Aw p)=plW pl p*16/\plH pl (Aw p)=plH pl p*16:=by
 unfold plU plW plH Aw;refine⟨?_,?_,?_⟩<;>split<;>(try split)<;>rfl
theorem Q2l (h:bd 100000000 H):Hm [I H.x,I H.y,I H.z]=some (ptR (Aw H)):=by
 unfold Hm;rw[Zme];obtain⟨D,G,L⟩:=h;rw[Ae,Ae,Ae];rfl
theorem Qio {u w r h x y s g:Int} (D:u.natAbs<=1000000000) (G:w.natAbs<=1000000000) (L:x.natAbs<=1000000000) (M:y.natAbs<=1000000000):Gq [I u,I w,I r,I h,I x,I y,I s,I g]=some [I (dt2 u w x y)]:=by
 unfold Gq;rw[Zxk];have N:=HS D L;have O:=HS G M;unfold dt2;rw[Ae (x:=u*x),Ae (x:=w*y),Ae]
theorem Qly {u w r h x y s g:Int} (D:u.natAbs<=1000000000) (G:w.natAbs<=1000000000) (L:x.natAbs<=1000000000) (M:y.natAbs<=1000000000):GR [I u,I w,I r,I h,I x,I y,I s,I g]=some [I (crs u w x y)]:=by
 unfold GR;rw[Zmh];have N:=HS D M;have O:=HS G L;unfold crs;rw[Ae (x:=u*y),Ae (x:=w*x),Ae]
theorem Zez (N:∀{a b c d:Int},i64 a->i64 b->i64 c->i64 d->M [I a,I b,I c,I d]=some [I (K7 (a*b) (c*d))]) {X Y:Int} (O:64<=X/\X<=1000000000000000) (S:64<=Y/\Y<=1000000000000000):
  ∃v,XV M [I X,I Y]=some [B v]/\(v=true↔H2 X Y):=by
 rw[Zqg,Zer O.1 S.1];have G:mx X Y=max X Y:=by unfold mx;rw[Int.max_def];split<;>split<;>omega
 have L:mn X Y=min X Y:=by unfold mn;rw[Int.min_def];split<;>split<;>omega
 have T:max X Y<=1000000000000000/\64<=max X Y:=by omega
 have U:min X Y<=1000000000000000/\64<=min X Y:=by omega
 rw[G,L];generalize max X Y=a at*;generalize min X Y=b at*;simp only[go_sem];rw[Ae (x:=a-b),Ae (x:=a-b-16)];by_cases D:a-b-16<=0
 ·rw[ab D];exact⟨_,rfl,iff_of_true rfl (.inl D)⟩
 ·rw[aa D,N (by unfold i64;omega) (by unfold i64;omega) (by unfold i64;omega) (by unfold i64;omega)];refine⟨_,rfl,?_⟩;simp only[go_sem,cq,Zy1];exact⟨λh=> .inr h,λh=>h.resolve_left D⟩
theorem Zic (D:64<=X/\X<=1000000000000000) (G:64<=Y/\Y<=1000000000000000):∃v,PT [I X,I Y]=some [B v]/\(v=true↔H2 X Y):=Zez Z4w D G
theorem Z0f {it:Itm} (G:∀p:Pt,M [I p.x,I p.y,I p.z,I it.aG]=some [I (plU it.aG p),I (plW it.aG p),I (plH it.aG p)]) (L:∀{p:Pt},bd 100000000 p->Z [I p.x,I p.y,I p.z]=some (ptR (Aw p)))
  (S:bd 1048576 it.fr) (T:bd 1048576 it.to) (U:bd 1048576 it.ce):
  X5 M Z (Am (Qp2 M Z)) (Ag it)=some [I (dU it it.fr*16),I (dW it it.fr*16),I 0,I (plH it.aG it.fr*16),I (dU it it.to*16),I (dW it it.to*16),I 0,I (plH it.aG it.to*16)]:=by
 rw[Zv2];obtain⟨q1,q2,q3⟩:=HK (pl:=it.aG) S;obtain⟨q4,q5,q6⟩:=HK (pl:=it.aG) T;obtain⟨q7,q8,q9⟩:=HK (pl:=it.aG) U;simp only[L (AY U (by omega)),G,go_sem];have w0:V (0+1)=1:=Ae;have X:V (1+1)=2:=Ae;have N:=TG it.aG it.fr;have O:=TG it.aG it.to;have D:=TG it.aG it.ce;have Y:V (plU it.aG (Aw it.fr)-plU it.aG (Aw it.ce))=dU it it.fr*16:=by rw[N.1,D.1];unfold dU;rw[Ae];omega
 have u2:V (plW it.aG (Aw it.fr)-plW it.aG (Aw it.ce))=dW it it.fr*16:=by rw[N.2.1,D.2.1];unfold dW;rw[Ae];omega
 have u3:V (plU it.aG (Aw it.to)-plU it.aG (Aw it.ce))=dU it it.to*16:=by rw[O.1,D.1];unfold dU;rw[Ae];omega
 have u4:V (plW it.aG (Aw it.to)-plW it.aG (Aw it.ce))=dW it it.to*16:=by rw[O.2.1,D.2.1];unfold dW;rw[Ae];omega
 have b1:bd 100000000 it.fr:=AY S (by omega);have b2:bd 100000000 it.to:=AY T (by omega);have e1:=L b1;have e2:=L b2;rw[Bc (by rw[Qob];simp only[go_sem,e1,e2,G,Y,u2,w0];rfl),Bc (by rw[Qob];simp only[go_sem,e1,e2,G,u3,u4,X];rfl),
  A1 (o:=(1,_)) (by rw[Qob];simp only[go_sem];rfl) (by simp)]
 simp only[go_sem,N.2.2,O.2.2]
theorem Zaz {it:Itm} (D:C4 it.aG) (G:bd 1048576 it.fr) (L:bd 1048576 it.to) (M:bd 1048576 it.ce):
  Kv (Ag it)=some [I (dU it it.fr*16),I (dW it it.fr*16),I 0,I (plH it.aG it.fr*16),I (dU it it.to*16),I (dW it it.to*16),I 0,I (plH it.aG it.to*16)]:=
 Z0f (λ_=>Qvu D) Q2l G L M
theorem Yac {S:Fn} {X Y C D N T O U:Int} {bG:Bool} (hX:0<=X/\X<=1000000000000000) (hY:0<=Y/\Y<=1000000000000000)
  (hN:∀{X Y:Int},(64<=X/\X<=1000000000000000)->(64<=Y/\Y<=1000000000000000)->∃v,S [I X,I Y]=some [B v]/\(v=true↔H2 X Y)):
  ∃ v, (if X * 256 < V (128 * 128) then some [B false] else if Y * 256 < V (128 * 128) then some [B false] else
   (S [I (V ((X*256).tdiv 256)),I (V ((Y*256).tdiv 256))]).bind λo=>
   if¬Dn (nth .vD o 0)=true then some [B false]else if bG=true then if N*16=O*16 then some [B (T*16==U*16)]else some [B false]else if C*256≠0 then some [B true]else some [B (decide (D*256<0))])=some [B v]/\
   (v=true↔64<=X/\64<=Y/\H2 X Y/\(bG=true->N=O/\T=U)/\(bG=false->C≠0\/D<0)):=by
 rw[Ae (x:=128*128),Int.mul_tdiv_cancel _ (by omega),Int.mul_tdiv_cancel _ (by omega),Ae (x:=X),Ae (x:=Y)];by_cases c1:X*256<128*128
 ·rw[ab c1];exact⟨_,rfl,gy (by simp) λh=>by omega⟩
 rw[aa c1];by_cases c2:Y*256<128*128
 ·rw[ab c2];exact⟨_,rfl,gy (by simp) λh=>by omega⟩
 rw[aa c2];obtain⟨v,h1,h2⟩:=hN (X:=X) (Y:=Y) (by omega) (by omega);simp only[h1,go_sem];by_cases M:v=true
 case neg=>rw[ab M];exact⟨_,rfl,gy (by simp) λh=>M (h2.2 h.2.2.1)⟩
 rw[aa (by simpa using M)];have G:=h2.1 M;cases bG with
 |true=>
  rw[ab rfl];by_cases L:N*16=O*16
  ·rw[ab L];refine⟨_,rfl,?_⟩;simp only[beq_iff_eq];exact⟨λh=>⟨by omega,by omega,G,λ_=>⟨by omega,by omega⟩,λh=>by simp at h⟩,λh=>by have:=(h.2.2.2.1 trivial).2;omega⟩
  ·rw[aa L];exact⟨_,rfl,gy (by simp) λh=>L (by have:=(h.2.2.2.1 rfl).1;omega)⟩
 |false=>
  rw[aa (by simp)];by_cases L:C*256≠0
  ·rw[ab L];exact⟨_,rfl,iff_of_true rfl ⟨by omega,by omega,G,λh=>by simp at h,λ_=> .inl (by omega)⟩⟩
  ·rw[aa L];refine⟨_,rfl,?_⟩;simp only[cq];exact⟨λh=>⟨by omega,by omega,G,λh=>by simp at h,λ_=> .inr (by omega)⟩,λh=>by have:=(h.2.2.2.2 trivial);omega⟩
theorem Q4c (a b c d:Int):dt2 (a*16) (b*16) (c*16) (d*16)=dt2 a b c d*256/\crs (a*16) (b*16) (c*16) (d*16)=crs a b c d*256:=by
 unfold dt2 crs;constructor<;>grind
theorem Zkr (hA:∀pl:Int,P [I pl]=some [I (axI pl).1,I (axI pl).2.1,I (axI pl).2.2,B (decide (C4 pl))]) (hW:∀p:Pt,O [I p.x,I p.y,I p.z]=some [B (decide (bd 1048576 p))])
  {it:Itm} (hE:C4 it.aG->bd 1048576 it.fr->bd 1048576 it.to->bd 1048576 it.ce->S (Ag it)=some [I (dU it it.fr*16),I (dW it it.fr*16),I 0,I (plH it.aG it.fr*16),I (dU it it.to*16),I (dW it it.to*16),I 0,I (plH it.aG it.to*16)])
  (hD:∀{u w r h x y s g:Int},u.natAbs<=1000000000->w.natAbs<=1000000000->x.natAbs<=1000000000->y.natAbs<=1000000000->W [I u,I w,I r,I h,I x,I y,I s,I g]=some [I (dt2 u w x y)])
  (hX:∀{u w r h x y s g:Int},u.natAbs<=1000000000->w.natAbs<=1000000000->x.natAbs<=1000000000->y.natAbs<=1000000000->M [I u,I w,I r,I h,I x,I y,I s,I g]=some [I (crs u w x y)])
  (hN:∀{X Y:Int},(64<=X/\X<=1000000000000000)->(64<=Y/\Y<=1000000000000000)->∃v,Z [I X,I Y]=some [B v]/\(v=true↔H2 X Y)):
  ∃v,Qn7 M Z W S P O (Ag it)=some [B v]/\(v=true↔Dt it):=by
 rw[Zwn];simp only[go_sem,hW,hA];by_cases c1:it.aP<1
 ·rw[ab c1];exact⟨_,rfl,gy (by simp) λh=>by have:=h.1;omega⟩
 rw[aa c1];by_cases V:it.aP>6
 ·rw[ab V];exact⟨_,rfl,gy (by simp) λh=>by have:=h.1;omega⟩
 rw[aa V];by_cases G:bd 1048576 it.fr
 case neg=>rw[ab (by simpa using G)];exact⟨_,rfl,gy (by simp) λh=>G h.2.1⟩
 rw[aa (by simpa using G)];by_cases L:bd 1048576 it.to
 case neg=>rw[ab (by simpa using L)];exact⟨_,rfl,gy (by simp) λh=>L h.2.2.1⟩
 rw[aa (by simpa using L)];by_cases N:it.aP=3
 case neg=>rw[ab N];exact⟨_,rfl,iff_of_true rfl ⟨by omega,G,L,λh=>absurd h N⟩⟩
 rw[aa (by simpa using N)];by_cases c5:C4 it.aG
 case neg=>rw[ab (by simpa using c5)];exact⟨_,rfl,gy (by simp) λh=>c5 (h.2.2.2 N).1⟩
 rw[aa (by simpa using c5)];by_cases D:bd 1048576 it.ce
 case neg=>
  refine⟨false,?_,gy (by simp) λh=>D (h.2.2.2 N).2.2.1⟩;split
  ·split
   ·rfl
   ·first|rfl|(rw[ab D])
  ·first|rfl|(rw[ab D])
 by_cases c6:it.dir=1\/it.dir= -1
 case neg=>
  rw[ab (c:=it.dir≠1),ab (c:=it.dir≠-1)];exact⟨false,rfl,gy (by simp) λh=>c6 (h.2.2.2 N).2.1⟩
 have U:=hE c5 G L D;obtain⟨b1,b2⟩:=Qb3 (it:=it) D G;obtain⟨b3,b4⟩:=Qb3 (it:=it) D L;simp only[Ag]at U;have x1:=Zbe b1 b2;have x2:=Zbe b3 b4;have core:Dt it↔64<=qA it/\64<=qB it/\H2 (qA it) (qB it)/\(it.bG=true->dU it it.fr=dU it it.to/\dW it it.fr=dW it it.to)/\(it.bG=false->cAB it≠0\/dAB it<0):=
  ⟨λh=>(h.2.2.2 N).2.2.2,λh=>⟨by omega,G,L,λ_=>⟨c5,c6,D,h⟩⟩⟩
 rw[core];have a0:0<=qA it/\qA it<=1000000000000000:=⟨x1.1,by unfold qA;omega⟩;have a1:0<=qB it/\qB it<=1000000000000000:=⟨x2.1,by unfold qB;omega⟩;have D1:= @hD (dU it it.fr*16) (dW it it.fr*16) 0 (plH it.aG it.fr*16) (dU it it.fr*16) (dW it it.fr*16) 0 (plH it.aG it.fr*16) (by omega) (by omega) (by omega) (by omega);have D2:= @hD (dU it it.to*16) (dW it it.to*16) 0 (plH it.aG it.to*16) (dU it it.to*16) (dW it it.to*16) 0 (plH it.aG it.to*16) (by omega) (by omega) (by omega) (by omega);have D3:= @hD (dU it it.fr*16) (dW it it.fr*16) 0 (plH it.aG it.fr*16) (dU it it.to*16) (dW it it.to*16) 0 (plH it.aG it.to*16) (by omega) (by omega) (by omega) (by omega);have D4:= @hX (dU it it.fr*16) (dW it it.fr*16) 0 (plH it.aG it.fr*16) (dU it it.to*16) (dW it it.to*16) 0 (plH it.aG it.to*16) (by omega) (by omega) (by omega) (by omega);rw[(Q4c _ _ _ _).1]at D1 D2 D3;rw[(Q4c _ _ _ _).2]at D4;have e1:dt2 (dU it it.fr) (dW it it.fr) (dU it it.fr) (dW it it.fr)=qA it:=rfl;have e2:dt2 (dU it it.to) (dW it it.to) (dU it it.to) (dW it it.to)=qB it:=rfl;have e3:dt2 (dU it it.fr) (dW it it.fr) (dU it it.to) (dW it it.to)=dAB it:=rfl;have e4:crs (dU it it.fr) (dW it it.fr) (dU it it.to) (dW it it.to)=cAB it:=rfl;rw[e1]at D1;rw[e2]at D2;rw[e3]at D3;rw[e4]at D4;have T:= @Yac Z (qA it) (qB it) (cAB it) (dAB it) (dU it it.fr) (dW it it.fr) (dU it it.to) (dW it it.to) it.bG a0 a1 hN;have n7: ¬ ¬bd 1048576 it.ce:=λh=>h D;by_cases d1:it.dir=1
 ·rw[aa (c:=it.dir≠1) (λh=>h d1),aa n7];simp only[U,go_sem,D1,D2,D3,D4];exact T
 ·rw[ab (c:=it.dir≠1) d1,aa (c:=it.dir≠-1),aa n7];simp only[U,go_sem,D1,D2,D3,D4];exact T
theorem Qnt (it:Itm):∃v,GD (Ag it)=some [B v]/\(v=true↔Dt it):=
 Zkr Qfb Zns (λD G I L=>Zaz D G I L) Qio Qly Zic
def okS (s:Spk):Prop:=s.u.natAbs<=50000000/\s.w.natAbs<=50000000/\(0<=s.r/\s.r<=50000000)/\s.h.natAbs<=16777216
def hf (a b:Int):Int:=(a+b+1)/2
def Dp (a b:Spk) (dir:Int) (bG:Bool):Int×Int:=
 if bG=true then(-a.u,-a.w)
 else if 0<dt2 a.u a.w b.u b.w/\0<crs a.u a.w b.u b.w*dir then(a.u+b.u,a.w+b.w)
 else if 0<dt2 a.u a.w b.u b.w then(-(a.u+b.u),-(a.w+b.w))
 else(dir*(b.w-a.w),dir*(a.u-b.u))
noncomputable def Ht (a b:Spk) (u w:Int):Spk:=if u=0/\w=0 then⟨0,0,0,0⟩else⟨Bk u (hf a.r b.r) (sq2 u w),Bk w (hf a.r b.r) (sq2 u w),hf a.r b.r,hf a.h b.h⟩
noncomputable def EA (a b:Spk) (dir:Int) (bG:Bool):Spk:=Ht a b (Dp a b dir bG).1 (Dp a b dir bG).2
theorem Oa {a b:Spk} (D:okS a) (hb:okS b) {dir:Int} (G:dir=1\/dir= -1) (bG:Bool):(Dp a b dir bG).1.natAbs<=100000000/\(Dp a b dir bG).2.natAbs<=100000000:=by
 obtain⟨a1,a2,-⟩:=D;obtain⟨b1,b2,-⟩:=hb;unfold Dp;split
 ·exact⟨by simp only;omega,by simp only;omega⟩
 ·split
  ·exact⟨by simp only;omega,by simp only;omega⟩
  ·split
   ·exact⟨by simp only;omega,by simp only;omega⟩
   ·rcases G with rfl|rfl
    ·exact⟨by simp only;omega,by simp only;omega⟩
    ·exact⟨by simp only;omega,by simp only;omega⟩
theorem Q8l (u w:Int):u*u<=sq2 u w/\w*w<=sq2 u w:=by
 have D:=Fm u;have G:=Fm w;unfold sq2;omega
theorem RL {u w:Int} (h: ¬(u=0/\w=0)):0<sq2 u w:=by
 have I:=Fm u;have L:=Fm w;have z:∀u:Int,u*u=0->u=0:=λu G=>by
  rcases Int.mul_eq_zero.1 G with h|h<;>exact h
 have M: ¬(u*u=0/\w*w=0):=λD=>h ⟨z _ D.1,z _ D.2⟩;unfold sq2;omega
theorem Q3r (D:0<=a/\a<=50000000) (hb:0<=b/\b<=50000000):0<=hf a b/\hf a b<=50000000:=by unfold hf;omega
theorem Zgc (D:a.natAbs<=16777216) (hb:b.natAbs<=16777216):(hf a b).natAbs<=16777216:=by unfold hf;omega
theorem Zb5 {u w r:Int} (D:u.natAbs<=100000000) (G:w.natAbs<=100000000) (T:0<=r/\r<=50000000) (h: ¬(u=0/\w=0)):
  (TN [I u,I r,I (sq2 u w)]=some [I (Bk u r (sq2 u w))]/\(Bk u r (sq2 u w)).natAbs<=r.natAbs)/\(TN [I w,I r,I (sq2 u w)]=some [I (Bk w r (sq2 u w))]/\(Bk w r (sq2 u w)).natAbs<=r.natAbs):=by
 have U:=RL h;have V:=Dx D;have X:=Dx G;have Y:sq2 u w<=20000000000000000:=by unfold sq2;omega
 obtain⟨L,M⟩:=Q8l u w;have key:∀x:Int,x.natAbs<=100000000->x*x<=sq2 u w->TN [I x,I r,I (sq2 u w)]=some [I (Bk x r (sq2 u w))]/\(Bk x r (sq2 u w)).natAbs<=r.natAbs:=by
  intro x N O;obtain⟨g1,-,S⟩:=Ztc (x:=x) (r:=r) (n:=sq2 u w) (bz N (by decide)) (by omega) (by omega) O;refine⟨g1,Quh (by omega) ?_ S⟩;have:((x.natAbs*x.natAbs:Nat):Int)=x*x:=fm;omega
 exact⟨key u D L,key w G M⟩
theorem Zfd {a b:Spk} (D:okS a) (hb:okS b) {u w:Int} (I:u.natAbs<=100000000) (L:w.natAbs<=100000000):okS (Ht a b u w):=by
 unfold Ht;split
 ·exact⟨by simp,by simp,by simp,by simp⟩
 ·rename_i h;have G:=Q3r D.2.2.1 hb.2.2.1;obtain⟨⟨-,M⟩,-,N⟩:=Zb5 I L G h;exact⟨by simp only;omega,by simp only;omega,G,Zgc D.2.2.2 hb.2.2.2⟩
theorem Qx8 {a b:Spk} (D:okS a) (hb:okS b) {dir:Int} (G:dir=1\/dir= -1) (bG:Bool):okS (EA a b dir bG):=
 Zfd D hb (Oa D hb G bG).1 (Oa D hb G bG).2
theorem He {x:Int} (h:x.natAbs<=50000000):x.natAbs<=1000000000:=bz h (by decide)
def Ia (a b:Spk) (dir:Int) (bG:Bool):Prop:=bG=false/\0<crs a.u a.w b.u b.w*dir/\sq2 (a.u-b.u) (a.w-b.w)<=32*mn a.r b.r-64
instance {a b:Spk} {dir:Int} {bG:Bool}:Decidable (Ia a b dir bG):=by unfold Ia;infer_instance
noncomputable def DK (dir:Int):Nat->Bool->Spk->Spk->List Spk
 |0,_,_,b=>[b]
 |k+1,bG,a,b=>if Ia a b dir bG then [b]else DK dir k false a (EA a b dir bG)++DK dir k false (EA a b dir bG) b
theorem UP {dir:Int}:∀(k:Nat) (bG:Bool) (a b:Spk),1<=(DK dir k bG a b).length/\(DK dir k bG a b).length<=2^k
 |0,_,_,b=>by simp[DK]
 |k+1,bG,a,b=>by
  have D:0<2^k:=fq _;have e3:2^(k+1)=2^k+2^k:=by rw[iy];omega
  unfold DK;split
  ·simp;omega
  ·have G:=UP k false a (EA a b dir bG) (dir:=dir);have I:=UP k false (EA a b dir bG) b (dir:=dir);rw[ap];omega
theorem Vq {dir:Int} (G:dir=1\/dir= -1):∀(k:Nat) (bG:Bool) {a b:Spk},okS a->okS b->∀s∈DK dir k bG a b,okS s
 |0,_,a,b,_,hb,s,D=>by simp[DK]at D;subst D;exact hb
 |k+1,bG,a,b,I,hb,s,D=>by
  unfold DK at D;have L:=Qx8 I hb G bG;split at D
  ·simp at D;subst D;exact hb
  ·rcases bn.1 D with D|D
   ·exact Vq G k false I L s D
   ·exact Vq G k false L hb s D
theorem Zkp {n i j:Int} (G:Jd n i) (I:Jd n j):i=j:=by
 have key:∀{i j:Int},Jd n i->Jd n j-> ¬i<j:=by
  rintro i j ⟨L,M,-⟩ ⟨O,S,D⟩ N;rcases D with D|D
  ·omega
  ·have T:=fj (show i<=j-1 by omega) (show i+1<=j by omega) (by omega) (by omega);omega
 have L:=key G I;have M:=key I G;omega
open Classical in
noncomputable def Fp (n:Int):Int:=if h:∃j,Jd n j then Classical.choose h else 0
theorem SH {n k:Int} (h:Jd n k):Fp n=k:=by
 have D:∃j,Jd n j:=⟨k,h⟩;unfold Fp;rw[jh D];exact Zkp (ez D) h
theorem Th {n r:Nat} (D:r*r<=n) (G:n<(r+1)*(r+1)):Jd n (if r*r+r<n then r+1 else r:Nat):=by
 have e0:(r+1)*(r+1)=r*r+r+r+1:=by grind
 unfold Jd;by_cases c:r*r+r<n
 ·rw[ab c];have e1:((r+1:Nat):Int)*(((r+1:Nat):Int)+1)=((r*r+r+r+r+2:Nat):Int):=by
   have:((r+1:Nat):Int)+1=((r+2:Nat):Int):=by omega
   rw[this,<-dc];congr 1
   grind
  have e2:(((r+1:Nat):Int)-1)*((r+1:Nat):Int)=((r*r+r:Nat):Int):=by
   rw[show((r+1:Nat):Int)-1=(r:Int) by omega,<-dc];congr 1
  rw[e1,e2];generalize r*r=A at*;exact⟨by omega,by omega, .inr (by omega)⟩
 ·rw[aa c];have e1:(r:Int)*((r:Int)+1)=((r*r+r:Nat):Int):=by
   rw[show(r:Int)+1=((r+1:Nat):Int) by omega,<-dc];congr 1
  rw[e1];refine⟨by omega,by omega,?_⟩;rcases ec r with h|h
  ·left;omega
  ·right;have e2:((r:Int)-1)*(r:Int)=(((r-1)*r:Nat):Int):=by
    rw[show(r:Int)-1=((r-1:Nat):Int) by omega];exact(dc _ _).symm
   have:=eg (show r-1<r by omega) h;rw[e2];omega
noncomputable def Ek (it:Itm) (p:Pt):Spk:=⟨dU it p*16,dW it p*16,Fp (sq2 (dU it p*16) (dW it p*16)),plH it.aG p*16⟩
theorem Zpd {n:Nat} (L:n<=2251799813685248):0<=Fp n/\Fp n<=50000000:=by
 obtain⟨r,D,G⟩:=OW n;have I:=Th D G;rw[SH I];have:r<50000000:=by
  by_cases c:r<50000000
  ·exact c
  ·have:=df (show 50000000<=r by omega) (show 50000000<=r by omega);omega
 split<;>omega
theorem Qw {it:Itm} (I:bd 1048576 it.ce) (L:bd 1048576 H):(dU it H*16).natAbs<=33554432/\(dW it H*16).natAbs<=33554432/\0<=sq2 (dU it H*16) (dW it H*16)/\sq2 (dU it H*16) (dW it H*16)<=2251799813685248:=by
 obtain⟨M,N⟩:=Qb3 I L;have D:(dU it H*16).natAbs<=33554432:=by omega
 have G:(dW it H*16).natAbs<=33554432:=by omega
 have O:=Dx D;have S:=Dx G;refine⟨D,G,?_⟩;unfold sq2;omega
theorem TO {it:Itm} (G:bd 1048576 it.ce) (D:bd 1048576 H):okS (Ek it H):=by
 obtain⟨I,L,M,N⟩:=Qw G D;have S:=(HK (pl:=it.aG) D).2.2;obtain⟨n,O⟩:=bq M;refine⟨bz I (by decide),bz L (by decide),?_,?_⟩
 ·show 0<=Fp _/\Fp _<=_;rw[O]at N⊢;exact Zpd (by omega)
 ·show(plH it.aG H*16).natAbs<=_;omega
noncomputable def DH (it:Itm):List Spk:=Ek it it.fr::DK it.dir 16 it.bG (Ek it it.fr) (Ek it it.to)
theorem Q58 {it:Itm} (h:Dt it) (L:it.aP=3):∀s∈DH it,okS s:=by
 obtain⟨-,I,M,N⟩:=h;obtain⟨S,O,D,-⟩:=N L;intro s G;rcases ax.1 G with rfl|G
 ·exact TO D I
 ·exact Vq O 16 _ (TO D I) (TO D M) s G
theorem Qwx (it:Itm):2<=(DH it).length/\(DH it).length<=65537:=by
 have:=UP (dir:=it.dir) 16 it.bG (Ek it it.fr) (Ek it it.to);have e:(2:Nat)^16=65536:=rfl;rw[e]at this;unfold DH;rw[bm];omega
noncomputable def Ji (it:Itm) (s:Spk):Pt:=spP it.aG (plU it.aG (Aw it.ce)+s.u) (plW it.aG (Aw it.ce)+s.w) s.h
noncomputable def Ch (it:Itm):List Pt:=if it.aP=3 then(DH it).map (Ji it)else [Aw it.fr,Aw it.to]
theorem Q60 {pl u w h:Int} (D:u.natAbs<=i) (G:w.natAbs<=i) (I:h.natAbs<=i):bd i (spP pl u w h):=by
 unfold spP bd;split
 ·exact⟨D,G,I⟩
 ·split
  ·exact⟨G,I,D⟩
  ·exact⟨I,D,G⟩
theorem Zkm {it:Itm} {s:Spk} (D:bd 1048576 it.ce) (G:okS s):bd 67108864 (Ji it s):=by
 obtain⟨I,L,-⟩:=HK (pl:=it.aG) (E3 D);obtain⟨s1,s2,-,M⟩:=G;exact Q60 (by omega) (by omega) (by omega)
theorem Qc7 {it:Itm} (h:Dt it):∀p∈Ch it,bd 67108864 p:=by
 intro p D;unfold Ch at D;split at D
 ·rename_i G;simp only[av]at D;obtain⟨s,I,rfl⟩:=D;exact Zkm (h.2.2.2 G).2.2.1 (Q58 h G s I)
 ·simp at D;rcases D with rfl|rfl
  ·exact AY (E3 h.2.1) (by decide)
  ·exact AY (E3 h.2.2.1) (by decide)
theorem Qx0 (it:Itm):2<=(Ch it).length/\(Ch it).length<=65537:=by
 have:=Qwx it;unfold Ch;split<;>simp<;>omega
def HM (t:Itm) (aS:Int):Int:=if t.aP=1 then 0 else mx (Bi (mn (if t.perRev=true then t.aZ*mx aS 1 else t.aZ) 60000000*4096) 60000) 1
theorem Zl3 {f s:Int} (hf:0<=f/\f<=60000000) (G:0<=s/\s<=30000):0<=f*mx s 1/\f*mx s 1<=1800000000000:=by
 have D:1<=mx s 1/\mx s 1<=30000:=by unfold mx;split<;>omega
 generalize mx s 1=m at*;have I:=fj hf.2 D.2 (by omega) (by omega);have L:=f8 hf.1 (show 0<=m by omega);omega
theorem Q1z {x:Int} (h:0<=x):0<=mn x 60000000/\mn x 60000000<=60000000:=by unfold mn;split<;>omega
theorem Zxz {t:Itm} (hf:0<=t.aZ/\t.aZ<=60000000) (G:0<=k/\k<=30000)
  (D:∀a:Int,0<=a/\a<=60000000->M [I a,I 4096,I 60000,I 2]=some [I (Bi (a*4096) 60000),B true]):Vy M (Ag t++[I k])=some [I (HM t k)]:=by
 have L:=Zl3 hf G;have N:=D _ (Q1z L.1);have O:=D _ (Q1z hf.1);have S:V (t.aZ*mx k 1)=t.aZ*mx k 1:=Ae;simp only[Ag,az,bc];rw[Qxw,S];simp only[go_sem,N,O];unfold HM;by_cases g1:t.aP=1
 ·rw[ab g1,ab g1]
 ·rw[aa g1,aa g1];by_cases g2:t.perRev=true
  ·rw[ab g2,ab g2]
  ·rw[aa g2,aa g2]
theorem Ze1 {t:Itm} (hf:0<=t.aZ/\t.aZ<=60000000) (D:0<=k/\k<=30000):JE (Ag t++[I k])=some [I (HM t k)]:=
 Zxz hf D λa G=>Tf (by unfold i64;omega) (by unfold i64;omega) (by omega) (by have:a.natAbs*(4096:Int).natAbs<=60000000*4096:=df (by omega) (by omega);omega)
def it0:Itm:=⟨0,0,⟨0,0,0⟩,⟨0,0,0⟩,0,⟨0,0,0⟩,0,false,0,false,0,0,0,0,0,false⟩
def vE (aA:List Itm) (i:Nat):Itm:=aA.getD i it0
theorem Qx {aA:List Itm} (h:i<aA.length):vE aA i=aA[i]:=by unfold vE;simp[h]
theorem Zbw {aA:List Itm} (h:i<aA.length):vE aA i∈aA:=by rw[Qx h];exact cg h
theorem E6 {aA:List Itm} (h:i<aA.length):nth [] (aA.map Ag) i=Ag (vE aA i):=by rw[Qx h];exact IR _ _ _ _ h
theorem Qmx {aA:List Itm} (h:i<aA.length):aA.drop i=vE aA i::aA.drop (i+1):=by rw[Qx h];exact Ox _ _ h
def AB (it:Itm):Prop:=1<=it.aP/\it.aP<=6
def smI (it:Itm):Prop:=it.aP=2/\it.fr≠it.to
def syI (it:Itm):Prop:=it.aP=5\/it.aP=6
instance (it:Itm):Decidable (AB it):=by unfold AB;infer_instance
instance (it:Itm):Decidable (smI it):=by unfold smI;infer_instance
instance (it:Itm):Decidable (syI it):=by unfold syI;infer_instance
def A8 (it:Itm):Pt:=⟨(it.fr.x+it.to.x)*8,(it.fr.y+it.to.y)*8,(it.fr.z+it.to.z)*8⟩
theorem K9 {it:Itm} (D:bd 1048576 it.fr) (G:bd 1048576 it.to):bd B24 (A8 it):=by
 unfold bd B24 A8 at*;simp only;omega
def Gr:List Itm->Nat->Int
 |[],_=> -1
 |it::l,k=>if it.aP=10 then Gr l (k+1)else if smI it then k else-1
def B5 (aA:List Itm) (i:Nat):Int:=if smI (vE aA i)/\(vE aA i).bH≠0 then Gr (aA.drop (i+1)) (i+1)else-1
theorem Qtp:∀(l:List Itm) (k:Nat),Gr l k= -1\/∃j:Nat,Gr l k=((k+j:Nat):Int)/\∃h:j<l.length,smI l[j]/\∀i (D:i<l.length),i<j->l[i].aP=10
 |[],_=> .inl rfl
 |it::l,k=>by
  unfold Gr;split
  ·rename_i G;rcases Qtp l (k+1)with h|⟨j,I,S,L,M⟩
   ·exact .inl h
   ·refine .inr ⟨j+1,by rw[I];omega,by simp;omega,by simpa using L,?_⟩;intro i D N;cases i with
    |zero=>simpa using G
    |succ i=>simpa using M i (by simpa using D) (by omega)
  ·split
   ·rename_i O;exact .inr ⟨0,by simp,by simp,by simpa using O,λi _ D=>by omega⟩
   ·exact .inl rfl
theorem Y4 (aA:List Itm) (i:Nat):B5 aA i= -1\/(smI (vE aA i)/\(vE aA i).bH≠0/\∃k:Nat,B5 aA i=k/\i<k/\k<aA.length/\smI (vE aA k)/\∀j,i<j->j<k->(vE aA j).aP=10):=by
 unfold B5;split
 ·rename_i h;rcases Qtp (aA.drop (i+1)) (i+1)with D|⟨j,D,L,G,M⟩
  ·exact .inl D
  ·have I:i+1+j<aA.length:=by rw[dg]at L;omega
   refine .inr ⟨h.1,h.2,i+1+j,D,by omega,I,?_,?_⟩
   ·rw[Qx I];rw[List.getElem_drop]at G;exact G
   ·intro m N O;have:=M (m-(i+1)) (by omega) (by omega);rw[List.getElem_drop]at this;rw[Qx (by omega)];have e:i+1+(m-(i+1))=m:=by omega
    simp only[e]at this;exact this
 ·exact .inl rfl
def SZ (it:Itm):Int:=if it.aP=10 then 5 else if it.aP=13 then 4 else 3
def Hv:List Itm->Int
 |[]=>2
 |it::l=>if AB it then(if syI it then 1 else 2)else Hv l
def Uv (aA:List Itm) (i:Nat):Int:=if(vE aA i).aP=4 then 6 else if(vE aA i).bH=0 then 1 else if syI (vE aA i)then 1 else Hv (aA.drop (i+1))
noncomputable def Hu (aA:List Itm) (i k:Nat):List Pt:=F3 (A8 (vE aA i)) (Aw (vE aA i).to) (A8 (vE aA k)) ((vE aA i).bH*16)
def drawn (it:Itm):Prop:=Dt it/\0<=it.bH/\it.bH<=1000
theorem Le {aA:List Itm} {i k:Nat} (D:drawn (vE aA i)) (G:drawn (vE aA k)):(∀p∈Hu aA i k,bd B24 p)/\1<=(Hu aA i k).length/\(Hu aA i k).length<=65:=
 Qzx (K9 D.1.2.1 D.1.2.2.1) (E3 D.1.2.2.1) (K9 G.1.2.1 G.1.2.2.1)
noncomputable def I1 (aA:List Itm) (i:Nat) (frm:Int):List Pt:=if 0<=frm then(Hu aA frm.toNat i).drop ((Hu aA frm.toNat i).length/2)else(Ch (vE aA i)).take 1
noncomputable def L6 (aA:List Itm) (i:Nat):List Pt:=if 0<=B5 aA i then(Hu aA i (B5 aA i).toNat).take ((Hu aA i (B5 aA i).toNat).length/2+1)else(Ch (vE aA i)).drop 1
noncomputable def CE (aA:List Itm) (i:Nat) (frm:Int):List Pt:=if smI (vE aA i)then I1 aA i frm++[A8 (vE aA i)]++L6 aA i else Ch (vE aA i)
def LF (aA:List Itm) (i:Nat) (frm:Int):Prop:=frm= -1\/∃f:Nat,frm=f/\f<aA.length/\drawn (vE aA f)
theorem Zui {aA:List Itm} (I:drawn (vE aA i)) (hf:LF aA i a):(∀p∈I1 aA i a,bd 67108864 p)/\(I1 aA i a).length<=65:=by
 unfold I1;rcases hf with rfl|⟨f,rfl,L,D⟩
 ·rw[aa];exact⟨λp G=>Qc7 I.1 p (fd G),by rw[gx];omega⟩
 ·rw[ab];obtain⟨M,N,O⟩:=Le (aA:=aA) (i:=(f:Int).toNat) (k:=i) (by simpa using D) I;exact⟨λp G=>AY (M p (dx G)) (by decide),by rw[dg];omega⟩
theorem UZ {aA:List Itm} (D:∀k<aA.length,AB (vE aA k)->drawn (vE aA k)) (M:0<=B5 aA i):∃k:Nat,B5 aA i=k/\k<aA.length/\drawn (vE aA k):=by
 rcases Y4 aA i with h|⟨-,-,k,L,-,G,I,-⟩
 ·omega
 ·exact⟨k,L,G,D k G ⟨by have:=I.1;omega,by have:=I.1;omega⟩⟩
theorem Zsz {aA:List Itm} (L:drawn (vE aA i)) (M:(vE aA i).aP≠3) (D:∀k<aA.length,AB (vE aA k)->drawn (vE aA k)):(∀p∈L6 aA i,bd 67108864 p)/\(L6 aA i).length<=66:=by
 unfold L6;by_cases h:0<=B5 aA i
 ·rw[ab h];obtain⟨k,N,O,G⟩:=UZ D h;obtain⟨S,M,T⟩:=Le (aA:=aA) (i:=i) (k:=(B5 aA i).toNat) L (by rw[N];simpa using G);exact⟨λp I=>AY (S p (fd I)) (by decide),by rw[gx];omega⟩
 ·rw[aa h];refine⟨λp I=>Qc7 L.1 p (dx I),?_⟩;unfold Ch;rw[aa M];simp
theorem Wr {aA:List Itm} (G:drawn (vE aA i)) (hf:LF aA i a) (I:∀k<aA.length,AB (vE aA k)->drawn (vE aA k)):
  (∀p∈CE aA i a,bd 67108864 p)/\(CE aA i a).length<=65537:=by
 unfold CE;by_cases L:smI (vE aA i)
 ·rw[ab L];obtain⟨M,O⟩:=Zui G hf;obtain⟨N,S⟩:=Zsz G (by have:=L.1;omega) I;refine⟨λp D=> ?_,by rw[ap,ap];simp;omega⟩;rcases bn.1 D with D|D
  ·rcases bn.1 D with D|D
   ·exact M p D
   ·simp at D;subst D;exact AY (K9 G.1.2.1 G.1.2.2.1) (by decide)
  ·exact N p D
 ·rw[aa L];exact⟨Qc7 G.1,(Qx0 _).2⟩
theorem Q39 (l:List Pt):List.drop (Int.toNat 1) (l.map ptR)=(l.drop 1).map ptR:=by rw[show Int.toNat 1=1 from rfl,List.map_drop]
theorem R5 (l:List Pt):List.take (Int.toNat 1) (l.map ptR)=(l.take 1).map ptR:=by rw[show Int.toNat 1=1 from rfl,List.map_take]
end Go.Bm
namespace Go.Bm
open Classical
def Cd (it:Itm):Prop:=it.aP<1\/it.aP>14\/(AB it/\(¬Dt it\/(it.aP≠1/\(it.aZ<1\/it.aZ>60000000))\/it.bH<0\/it.bH>1000))\/(¬AB it/\it.aP=8/\(it.n<3\/it.n>5\/it.aS<0\/it.aS>30000))
noncomputable def Gu (aA:List Itm):Nat->Nat->Int->Int
 |0,_,_=>0
 |k+1,i,last=>if Cd (vE aA i)then 1 else if AB (vE aA i)then(if 0<=last/\(vE aA last.toNat).to≠(vE aA i).fr then 13 else Gu aA k (i+1) i)else Gu aA k (i+1) last
noncomputable def CW (aA:List Itm):Int:=if aA.length>20000 then 10 else Gu aA aA.length 0 (-1)
theorem WQ {aA:List Itm}:∀(k i:Nat) (last:Int),i+k=aA.length->Gu aA k i last=0->∀j,i<=j->j<aA.length-> ¬Cd (vE aA j)
 |0,i,last,I,_,j,L,D=>by omega
 |k+1,i,last,I,h,j,L,D=>by
  unfold Gu at h;split at h
  ·omega
  ·rename_i c;by_cases G:j=i
   ·subst G;exact c
   ·split at h
    ·split at h
     ·omega
     ·exact WQ k (i+1) _ (by omega) h j (by omega) D
    ·exact WQ k (i+1) _ (by omega) h j (by omega) D
theorem Pi {aA:List Itm} (h:CW aA=0):aA.length<=20000/\∀j,j<aA.length-> ¬Cd (vE aA j):=by
 unfold CW at h;split at h
 ·omega
 ·exact⟨by omega,λj D=>WQ _ 0 _ (by omega) h j (by omega) D⟩
theorem Ll {it:Itm} (h: ¬Cd it) (D:AB it):drawn it/\(it.aP=1\/1<=it.aZ/\it.aZ<=60000000):=by
 unfold Cd at h;have G:Dt it:=by
  by_cases c:Dt it
  ·exact c
  ·exact absurd (.inr (.inr (.inl ⟨D, .inl c⟩))) h
 have I: ¬((it.aP≠1/\(it.aZ<1\/it.aZ>60000000))\/it.bH<0\/it.bH>1000):=λc=>h (.inr (.inr (.inl ⟨D, .inr c⟩)));exact⟨⟨G,by omega,by omega⟩,by omega⟩
theorem Zwr {it:Itm} (h: ¬Cd it) (D:it.aP=8):0<=it.aS/\it.aS<=30000:=by
 unfold Cd at h;have G: ¬AB it:=λc=>by have:=c.2;omega
 have I: ¬(it.n<3\/it.n>5\/it.aS<0\/it.aS>30000):=λc=>h (.inr (.inr (.inr ⟨G,D,c⟩)));omega
noncomputable def A9 (aU aZ aX:Int) (s:List Sgm×Int×Pt) (q:Pt):List Sgm×Int×Pt:=if q=s.2.2 then s else(s.1++[⟨q,AD s.2.2 q,aU,aZ,aX⟩],s.2.1+AD s.2.2 q,q)
theorem S8 {aU aZ aX:Int}:∀(D:List Pt) (s:List Sgm×Int×Pt),(∀p∈D,bd 67108864 p)->bd 67108864 s.2.2->0<=s.2.1->
  (D.foldl (A9 aU aZ aX) s).1.length<=s.1.length+D.length/\s.2.1<=(D.foldl (A9 aU aZ aX) s).2.1/\(D.foldl (A9 aU aZ aX) s).2.1<=s.2.1+D.length*268435456/\bd 67108864 (D.foldl (A9 aU aZ aX) s).2.2
 |[],s,_,I,N=>⟨by simp,by simp,by simp,I⟩
 |q::D,s,L,I,N=>by
  rw[fh];have O:=L q (by simp);have S:=H8 I O;have G:A9 aU aZ aX s q=s\/A9 aU aZ aX s q=(s.1++[⟨q,AD s.2.2 q,aU,aZ,aX⟩],s.2.1+AD s.2.2 q,q):=by unfold A9;split<;>simp
  rcases G with G|G
  ·rw[G];obtain⟨a,b,c,d⟩:=S8 D s (λp M=>L p (by simp[M])) I N (aU:=aU) (aZ:=aZ) (aX:=aX);exact⟨by simp;omega,b,by simp;omega,d⟩
  ·rw[G];obtain⟨a,b,c,d⟩:=S8 D (s.1++[⟨q,AD s.2.2 q,aU,aZ,aX⟩],s.2.1+AD s.2.2 q,q) (λp M=>L p (by simp[M])) O (by simp only;omega) (aU:=aU) (aZ:=aZ) (aX:=aX);simp only[ap,bm,da]at a b c;exact⟨by simp;omega,by omega,by simp;omega,d⟩
structure BSt where
 aF:List Sgm
 aD:List Mrk
 (len aS frm:Int)
 bI:Bool
 (aQ at_:Pt)
def OA (it:Itm):Int:=if syI it then mn (it.aZ*16) 16777216 else 0
def QQ (it:Itm) (s:Int):Int:=if it.aP=8/\(it.n=3\/it.n=4)then it.aS else s
noncomputable def Ft (aA:List Itm) (i:Nat) (s:BSt):List Sgm×Int×Pt:=
 (CE aA i s.frm).foldl (A9 i (HM (vE aA i) s.aS) (OA (vE aA i))) (s.aF,s.len,if s.bI=true then s.at_ else Aw (vE aA i).fr)
noncomputable def FY (aA:List Itm) (i:Nat) (s:BSt):BSt:=
 if AB (vE aA i)then
  ⟨(Ft aA i s).1,s.aD++[⟨(Ft aA i s).2.1,Uv aA i,i⟩],(Ft aA i s).2.1,s.aS,if 0<=B5 aA i then i else-1,true,if s.bI=true then s.aQ else Aw (vE aA i).fr,(Ft aA i s).2.2⟩
 else⟨s.aF,s.aD++[⟨s.len,SZ (vE aA i),i⟩],s.len,QQ (vE aA i) s.aS,s.frm,s.bI,s.aQ,s.at_⟩
noncomputable def Ax (aA:List Itm):Nat->BSt
 |0=>⟨[],[],0,0,-1,false,⟨0,0,0⟩,⟨0,0,0⟩⟩
 |i+1=>FY aA i (Ax aA i)
structure BOK (aA : List Itm) (i : Nat) (s : BSt) : Prop where
 aF:s.aF.length<=i*65537
 aD:s.aD.length=i
 len:0<=s.len/\s.len<=i*65537*268435456
 aS:0<=s.aS/\s.aS<=30000
 frm:LF aA i s.frm
 at_:s.bI=true->bd 67108864 s.at_
theorem Zaj {aA:List Itm} {s:BSt} (L:i<aA.length) (D:∀j<aA.length,¬Cd (vE aA j)) (h:BOK aA i s):BOK aA (i+1) (FY aA i s):=by
 have G:∀k<aA.length,AB (vE aA k)->drawn (vE aA k):=λk N I=>(Ll (D k N) I).1;unfold FY;by_cases I:AB (vE aA i)
 ·rw[ab I];have M:=G i L I;obtain⟨O,X⟩:=Wr M h.frm G;have S:bd 67108864 (if s.bI=true then s.at_ else Aw (vE aA i).fr):=by
   by_cases hb:s.bI=true
   ·rw[ab hb];exact h.at_ hb
   ·rw[aa hb];exact AY (E3 M.1.2.1) (by decide)
  obtain⟨a1,a2,a3,a4⟩:=S8 (aU:=i) (aZ:=HM (vE aA i) s.aS) (aX:=OA (vE aA i)) (CE aA i s.frm) (s.aF,s.len,if s.bI=true then s.at_ else Aw (vE aA i).fr) O S h.len.1;have Y:=h.aF;have T:=h.len;have e1:(i+1)*65537=i*65537+65537:=by rw[gn]
  refine⟨?_,?_,?_,h.aS,?_,λ_=>a4⟩
  ·simp only at a1;show(Ft aA i s).1.length<=_;unfold Ft;omega
  ·show(s.aD++[_]).length=_;rw[ap,h.aD];rfl
  ·show 0<=(Ft aA i s).2.1/\(Ft aA i s).2.1<=_;unfold Ft;simp only at a2 a3;have e2:(((i+1:Nat):Int))*65537*268435456=(i:Int)*65537*268435456+65537*268435456:=by
    rw[ii,jr,js,js];rfl
   constructor
   ·omega
   ·rw[e2];omega
  ·show LF aA (i+1) (if 0<=B5 aA i then(i:Int)else-1);split
   ·exact .inr ⟨i,rfl,L,M⟩
   ·exact .inl rfl
 ·rw[aa I];have T:=h.len;have U:=h.aF;have e1:(i+1)*65537=i*65537+65537:=by rw[gn]
  refine⟨by show s.aF.length<=_;rw[e1];exact bz U (Nat.le_add_right _ _),?_,?_,?_,h.frm,h.at_⟩
  ·show(s.aD++[_]).length=_;rw[ap,h.aD];rfl
  ·have e2:(((i+1:Nat):Int))*65537*268435456=(i:Int)*65537*268435456+65537*268435456:=by
    rw[ii,jr,js,js];rfl
   show 0<=s.len/\s.len<=_;rw[e2];omega
  ·show 0<=QQ (vE aA i) s.aS/\QQ (vE aA i) s.aS<=30000;unfold QQ;split
   ·rename_i V;exact Zwr (D i L) V.1
   ·exact h.aS
theorem Z8q (aA:List Itm):BOK aA 0 ⟨[],[],0,0,-1,false,⟨0,0,0⟩,⟨0,0,0⟩⟩:=by
 refine⟨Nat.zero_le _,da,⟨dt _,?_⟩,⟨dt _,?_⟩, .inl rfl,λh=>by cases h⟩
 ·show(0:Int)<=((0:Nat):Int)*65537*268435456;rw[show((0:Nat):Int)=0 from rfl,Int.zero_mul,Int.zero_mul];exact dt _
 ·show(0:Int)<=30000;omega
theorem NT {aA:List Itm} (D:∀j<aA.length,¬Cd (vE aA j)):∀i,i<=aA.length->BOK aA i (Ax aA i)
 |0,_=>by rw[Ax];exact Z8q aA
 |i+1,G=>by rw[Ax];exact Zaj (by omega) D (NT D i (by omega))
noncomputable def A_ (aA:List Itm):Pth:=⟨(Ax aA aA.length).aQ,(Ax aA aA.length).aF,(Ax aA aA.length).aD⟩
def E9:Pt->List Sgm->Pt
 |a,[]=>a
 |_,g::l=>E9 g.to l
abbrev B26:Nat:=67108864
def OO:Pt->List Sgm->Prop
 |_,[]=>True
 |a,g::l=>g.len=AD a g.to/\g.to≠a/\bd B26 g.to/\OO g.to l
def AX:List Sgm->Int
 |[]=>0
 |g::l=>g.len+AX l
theorem Su (g:Sgm):∀(a:Pt) (l:List Sgm),E9 a (l++[g])=g.to
 |_,[]=>rfl
 |_,h::l=>by simp only[az,E9];exact Su g h.to l
theorem Q3j {g:Sgm}:∀{a:Pt} {l:List Sgm},OO a l->g.len=AD (E9 a l) g.to->g.to≠E9 a l->bd B26 g.to->OO a (l++[g])
 |a,[],_,D,G,I=>⟨D,G,I,trivial⟩
 |a,k::l,h,D,G,I=>⟨h.1,h.2.1,h.2.2.1,Q3j h.2.2.2 D G I⟩
theorem Qes (g:Sgm):∀(l:List Sgm),AX (l++[g])=AX l+g.len
 |[]=>by simp[AX]
 |k::l=>by simp only[az,AX];rw[Qes g l];omega
def ZM (aQ:Pt) (s:List Sgm×Int×Pt):Prop:=OO aQ s.1/\E9 aQ s.1=s.2.2/\AX s.1=s.2.1
theorem Qo1 {aQ:Pt} {aU aZ aX:Int}:∀(D:List Pt) (s:List Sgm×Int×Pt),(∀p∈D,bd B26 p)->ZM aQ s->ZM aQ (D.foldl (A9 aU aZ aX) s)
 |[],s,_,h=>h
 |q::D,s,I,h=>by
  rw[fh];refine Qo1 D _ (λp G=>I p (by simp[G])) ?_;unfold A9;by_cases c:q=s.2.2
  ·rw[ab c];exact h
  ·rw[aa c];obtain⟨M,L,N⟩:=h;refine⟨Q3j M (by rw[L]) (by rw[L];exact c) (I q (by simp)),Su _ _ _,?_⟩;simp only[Qes,N]
structure BInv (s : BSt) : Prop where
 bI:s.bI=true->bd B26 s.aQ/\ZM s.aQ (s.aF,s.len,s.at_)
 empty:s.bI=false->s.aF=[]/\s.len=0/\s.aQ=⟨0,0,0⟩
theorem Z46 {aA:List Itm} {s:BSt} (O:i<aA.length) (D:∀j<aA.length,¬Cd (vE aA j)) (L:BOK aA i s) (h:BInv s):BInv (FY aA i s):=by
 have G:∀k<aA.length,AB (vE aA k)->drawn (vE aA k):=λk S I=>(Ll (D k S) I).1;unfold FY;by_cases I:AB (vE aA i)
 ·rw[ab I];have M:=G i O I;obtain⟨N,-⟩:=Wr M L.frm G;refine⟨λ_=> ?_,λhb=>(by cases hb)⟩;unfold Ft;by_cases hb:s.bI=true
  ·rw[ab hb,ab hb];obtain⟨g1,g2⟩:=h.bI hb;exact⟨g1,Qo1 _ _ N g2⟩
  ·rw[aa hb,aa hb];obtain⟨g1,g2,T⟩:=h.empty (by simpa using hb);refine⟨AY (E3 M.1.2.1) (by decide),Qo1 _ _ N ?_⟩;rw[g1,g2];exact⟨trivial,rfl,rfl⟩
 ·rw[aa I];exact⟨h.bI,h.empty⟩
theorem SF {aA:List Itm} (D:∀j<aA.length,¬Cd (vE aA j)):∀i,i<=aA.length->BInv (Ax aA i)
 |0,_=>by rw[Ax];exact⟨λh=>(by cases h),λ_=>⟨rfl,rfl,rfl⟩⟩
 |i+1,G=>by rw[Ax];exact Z46 (by omega) D (NT D i (by omega)) (SF D i (by omega))
structure GoodPath (p : Pth) : Prop where
 aQ:bd B26 p.aQ
 aF:OO p.aQ p.aF
 count:p.aF.length<=983055
theorem Qrw {aA:List Itm} (hlen:aA.length<=15) (I:CW aA=0):GoodPath (A_ aA):=by
 have D:=(Pi I).2;have L:=NT D aA.length (co _);have G:=SF D aA.length (co _);have N:=L.aF;unfold A_;by_cases hb:(Ax aA aA.length).bI=true
 ·obtain⟨g1,g2,-⟩:=G.bI hb;exact⟨g1,g2,by simp only;omega⟩
 ·obtain⟨g1,-,M⟩:=G.empty (by simpa using hb);refine⟨?_,?_,?_⟩
  ·simp only[M];unfold bd;simp
  ·simp only[g1];trivial
  ·simp only[g1];simp
theorem Q64 (D:bd B26 H) (hb:bd B26 G) (h:G≠H):1<=AD H G/\AD H G<=268435456:=by
 obtain⟨M,I,-⟩:=WR D hb;have N:sqD H G≠0:=λe=>h (Qdp.1 e).symm;have O:=PS H G;have L:=H8 D hb;refine⟨?_,L.2⟩;by_cases c:AD H G=0
 ·rw[c]at I;omega
 ·omega
theorem Qk5 {l:List Sgm} (I:bd B26 H) (h:OO H l):∀g∈l,1<=g.len/\g.len<=268435456/\bd B26 g.to:=by
 induction l generalizing H with
 |nil=>simp
 |cons k l M=>
  obtain⟨N,L,D,O⟩:=h;intro g G;rcases ax.1 G with rfl|G
  ·rw[N];exact⟨(Q64 I D L).1,(Q64 I D L).2,D⟩
  ·exact M D O g G
theorem Qo0 {l:List Sgm} (h:∀g∈l,1<=g.len/\g.len<=268435456/\bd B26 g.to):(l.length:Int)<=AX l/\AX l<=l.length*268435456:=by
 induction l with
 |nil=>simp[AX]
 |cons k l D=>
  have:=D λg G=>h g (by simp[G]);have:=h k (by simp);simp only[AX,bm];omega
def OQ (a:Pt) (g:Sgm) (d:Int):Pt:=⟨a.x+Bi ((g.to.x-a.x)*d) g.len,a.y+Bi ((g.to.y-a.y)*d) g.len,a.z+Bi ((g.to.z-a.z)*d) g.len⟩
def atL:Pt->List Sgm->Int->Pt
 |a,[],_=>a
 |a,g::l,s=>if s<g.len then OQ a g s else atL g.to l (s-g.len)
def atP (p:Pth) (s:Int):Pt:=atL p.aQ p.aF (max s 0)
def Bf:List Sgm->Int->Nat×Int
 |[],s=>(0,s)
 |[g],s=>if s<g.len then(0,s)else(0,g.len)
 |g::h::l,s=>if s<g.len then(0,s)else((Bf (h::l) (s-g.len)).1+1,(Bf (h::l) (s-g.len)).2)
def EV (a:Pt) (l:List Sgm) (i:Nat):Pt:=E9 a (l.take i)
def sg0:Sgm:=⟨⟨0,0,0⟩,0,0,0,0⟩
def sgA (l:List Sgm) (i:Nat):Sgm:=l.getD i sg0
theorem Od {l:List Sgm} (h:i<l.length):sgA l i=l[i]:=by unfold sgA;simp[h]
theorem KQ {l:List Sgm} (h:i<l.length):nth [] (l.map Ay) i=Ay (sgA l i):=by rw[Od h];exact IR _ _ _ _ h
theorem HR {l:List Sgm} (h:i<l.length):sgA l i∈l:=by rw[Od h];exact cg h
theorem JI (a:Pt) (l:List Sgm):EV a l 0=a:=by unfold EV;simp[E9]
theorem VQ (a:Pt) (g:Sgm) (l:List Sgm) (i:Nat):EV a (g::l) (i+1)=EV g.to l i:=by unfold EV;rw[List.take_succ_cons];rfl
theorem Qg6 (g:Sgm) (l:List Sgm) (i:Nat):sgA (g::l) (i+1)=sgA l i:=by unfold sgA;simp
theorem TL:∀{l:List Sgm} {i:Nat} {a:Pt},i<l.length->EV a l (i+1)=(sgA l i).to
 |g::l,0,a,_=>by rw[VQ,JI];rfl
 |g::l,i+1,a,h=>by rw[VQ,Qg6];exact TL (by simpa using h)
theorem Qjt {x n:Int} (D:0<n):Bi (x*n) n=x:=Ui D
theorem Zey (h:0<g.len):OQ H g g.len=g.to:=by
 unfold OQ;rw[Qjt h,Qjt h,Qjt h];rw[DU];exact⟨by simp only;omega,by simp only;omega,by simp only;omega⟩
theorem Qhp:∀{l:List Sgm} {a:Pt} {s:Int},l≠[]->(∀g∈l,1<=g.len)->0<=s->
  (Bf l s).1<l.length/\0<=(Bf l s).2/\(Bf l s).2<=(sgA l (Bf l s).1).len/\atL a l s=OQ (EV a l (Bf l s).1) (sgA l (Bf l s).1) (Bf l s).2
 |[],_,_,h,_,_=>absurd rfl h
 |[g],a,s,_,D,G=>by
  have L:=D g (by simp);unfold Bf;by_cases c:s<g.len
  ·rw[ab c];refine⟨by simp,G,by show s<=g.len;omega,?_⟩;unfold atL;rw[ab c,JI];rfl
  ·rw[aa c];refine⟨by simp,by simp only;omega,dt _,?_⟩;unfold atL;rw[aa c,JI];show atL g.to [] _=OQ a g g.len;rw[Zey (by omega)];rfl
 |g::h::l,a,s,_,D,G=>by
  have L:=D g (by simp);unfold Bf;by_cases c:s<g.len
  ·rw[ab c];refine⟨by simp,G,by show s<=g.len;omega,?_⟩;unfold atL;rw[ab c,JI];rfl
  ·rw[aa c];obtain⟨M,N,O,S⟩:=Qhp (l:=h::l) (a:=g.to) (s:=s-g.len) (by simp) (λk I=>D k (by simp at I⊢;exact .inr I)) (by omega);refine⟨by simp at M⊢;omega,N,?_,?_⟩
   ·simp only[Qg6];exact O
   ·rw[show atL a (g::h::l) s=atL g.to (h::l) (s-g.len)from by rw[atL,aa c]];simp only[VQ,Qg6];exact S
theorem Qec {x n:Int} (D:0<n) (h: -(A*n)<=x/\x<=A*n):(Bi x n).natAbs<=A:=by
 have m1:=RV D h.2;have m2:=RV D h.1;rw[show-((A:Int)*n)= -(A:Int)*n by rw[Int.neg_mul]]at m2;rw[Ui D]at m1 m2;omega
theorem Qwe {D L d:Int} (I:0<L) (M:D.natAbs<=134217728) (G:0<=d/\d<=L):(Bi (D*d) L).natAbs<=134217728:=by
 refine Qec I ?_;have N:D*d<=134217728*d:=fe (by omega) G.1;have O: -134217728*d<=D*d:=fe (by omega) G.1;have e:((134217728:Nat):Int)=134217728:=rfl;rw[e];omega
structure SegOK (l : List Sgm) : Prop where
 seg:∀g∈l,1<=g.len/\g.len<=268435456/\bd B26 g.to
 count:l.length<=983055
theorem GoodPath.ok (h:GoodPath p):SegOK p.aF:=⟨Qk5 h.aQ h.aF,h.count⟩
theorem Zbo {l:List Sgm} (D:bd B26 H) (h:SegOK l) {i:Nat} (G:i<l.length):bd B26 (EV H l i):=by
 cases i with
 |zero=>rw[JI];exact D
 |succ i=>rw[TL (by omega)];exact(h.seg _ (HR (by omega))).2.2
theorem Qv2 {l:List Sgm} (h:SegOK l):∀(k i:Nat) (v:Int),i+k=l.length->0<=v->v+k*268435456<=4000000000000000000->
  Am RH [I v, .vC Aj (l.map Ay),I l.length,I i]=some (1,[I (v+AX (l.drop i))])
 |0,i,v,L,_,_=>by
  refine A1 ?_ (by simp);rw[Q13,AZ (by omega),ff (by omega)];simp[AX]
 |k+1,i,v,L,N,O=>by
  have D:i<l.length:=by omega
  have M:=h.count;have S:=h.seg _ (HR D);have G:RH [I v, .vC Aj (l.map Ay),I l.length,I i]=some (0,[I (v+(sgA l i).len), .vC Aj (l.map Ay),I l.length,I (i+1:Nat)]):=by
   rw[Q13];simp only[go_sem,ah,ak,KQ D];rw[ab,ab,Ae (x:=v+_),Ae];rfl
  rw[Bc G,Qv2 h k (i+1) _ (by omega) (by omega) (by omega)];have e:l.drop i=sgA l i::l.drop (i+1):=by rw[Od D];exact Ox _ _ D
  rw[e];simp only[AX,Int.add_assoc]
theorem Q7h (h:SegOK p.aF):Js (Bu p)=some [I (AX p.aF)]:=by
 have G:=Qv2 h p.aF.length 0 0 (by omega) (by omega) (by have:=h.count;omega);have D:RW [I 0, .vC Aj (p.aF.map Ay),I p.aF.length,I 0]=some (1,[I (0+AX (p.aF.drop 0))]):=G;rw[fo,Int.zero_add]at D;unfold Js;generalize RW=N at*;rw[Zn2];simp only[go_sem,ah,D]
theorem Q9q {g h:Sgm} {l:List Sgm} {s:Int} (c: ¬s<g.len):Bf (g::h::l) s=((Bf (h::l) (s-g.len)).1+1,(Bf (h::l) (s-g.len)).2):=by rw[Bf,aa c]
theorem Qw2 {p:Pth} (h:SegOK p.aF):∀(k i:Nat) (s:Int),i+k=p.aF.length->1<=k->0<=s/\s<=9223372036854775807->
  Am Sf (I s:: .vC Aj (p.aF.map Ay)::I p.aF.length::I i::Bu p)=some (1,[I (i+(Bf (p.aF.drop i) s).1:Nat),I (Bf (p.aF.drop i) s).2])
 |k+1,i,s,N,_,O=>by
  have G:i<p.aF.length:=by omega
  have M:=h.count;have S:=h.seg _ (HR G);have e:p.aF.drop i=sgA p.aF i::p.aF.drop (i+1):=by rw[Od G];exact Ox _ _ G
  have D:Sf (I s:: .vC Aj (p.aF.map Ay)::I p.aF.length::I i::Bu p)=if s<(sgA p.aF i).len then some (1,[I i,I s])else if k=0 then some (1,[I i,I (sgA p.aF i).len])else some (0,I (s-(sgA p.aF i).len):: .vC Aj (p.aF.map Ay)::I p.aF.length::I (i+1:Nat)::Bu p):=by
   rw[Q7r];simp only[go_sem,ah,ak,KQ G];rw[ab,ab,Ae (x:=(p.aF.length:Int)-1),Ae (x:=(i:Int)+1)];by_cases c:s<(sgA p.aF i).len
   ·rw[ab c,ab c]
   ·rw[aa c,aa c];by_cases L:k=0
    ·rw[ab,ab L]
    ·rw[aa,aa L,Ae];rfl
  by_cases c:s<(sgA p.aF i).len
  ·rw[ab c]at D;rw[A1 D (by simp),e];cases p.aF.drop (i+1)with
   |nil=>rw[Bf,ab c];rfl
   |cons b l=>rw[Bf,ab c];rfl
  ·rw[aa c]at D;by_cases L:k=0
   ·rw[ab L]at D;rw[A1 D (by simp),e,ff (by omega),Bf,aa c];rfl
   ·rw[aa L]at D;rw[Bc D,Qw2 h k (i+1) _ (by omega) (by omega) (by omega),e];have e2:p.aF.drop (i+1)=sgA p.aF (i+1)::p.aF.drop (i+1+1):=by rw[Od (show i+1<p.aF.length by omega)];exact Ox _ _ (by omega)
    rw[e2,Q9q c,<-e2];simp only;rw[show i+1+(Bf (p.aF.drop (i+1)) (s-(sgA p.aF i).len)).1=i+((Bf (p.aF.drop (i+1)) (s-(sgA p.aF i).len)).1+1) by omega]
theorem Vb (h:SegOK p.aF) {s:Int} (hs:i64 s):Ey (Bu p++[I s])=if p.aF=[]then some [I (-1),I 0]else some [I (Bf p.aF (max s 0)).1,I (Bf p.aF (max s 0)).2]:=by
 unfold i64 at hs;have hmx:mx s 0=max s 0:=mx_max' s 0;by_cases c:p.aF=[]
 ·rw[ab c];have hend:M9 (I (max s 0):: .vC Aj []::I 0::I 0::Bu p)=some (2,[]):=by
   refine A1 ?_ (by simp);rw[Q7r,AZ (by omega)]
  unfold Ey;generalize M9=N at*;have he:=Qvp N p.aQ.x p.aQ.y p.aQ.z (p.aF.map Ay) (p.aD.map At) s;refine dh he ?_;rw[hmx,c];have hend':N [I (max s 0), .vC Aj [],I 0,I 0,I p.aQ.x,I p.aQ.y,I p.aQ.z, .vC Aj [], .vC AF (p.aD.map At)]=some (2,[]):=by
   have:=hend;unfold Bu at this;rw[c]at this;exact this
  simp only[go_sem,dp,da];simp only[j7];rw[hend'];simp
 ·rw[aa c];have hpos:0<p.aF.length:=by
   cases hh:p.aF with
   |nil=>exact absurd hh c
   |cons _ _=>simp
  have hL:=Qw2 h p.aF.length 0 (max s 0) (by omega) (by omega) (by omega);have hL':M9 [I (max s 0), .vC Aj (p.aF.map Ay),I p.aF.length,I 0,I p.aQ.x,I p.aQ.y,I p.aQ.z, .vC Aj (p.aF.map Ay), .vC AF (p.aD.map At)]=some (1,[I (0+(Bf (p.aF.drop 0) (max s 0)).1:Nat),I (Bf (p.aF.drop 0) (max s 0)).2]):=hL;rw[fo,dy]at hL';unfold Ey;generalize M9=N at*;have he:=Qvp N p.aQ.x p.aQ.y p.aQ.z (p.aF.map Ay) (p.aD.map At) s;refine dh he ?_;rw[hmx];simp only[go_sem,ah,hL']
 where mx_max' (a b:Int):mx a b=max a b:=by unfold mx;rw[Int.max_def];split<;>split<;>omega
theorem Z0j (h:GoodPath p) {s:Int} (G:Z (Bu p++[I s])=if p.aF=[]then some [I (-1),I 0]else some [I (Bf p.aF (max s 0)).1,I (Bf p.aF (max s 0)).2])
  (hM:∀{a b c:Int},a.natAbs<=134217728->b.natAbs<=268435456->(0<c/\c<=268435456)->M [I a,I b,I c,I 2]=some [I (Bi (a*b) c),B true]):
  Qbl M Z (Bu p++[I s])=some (ptR (atP p s)):=by
 have he:=Zpe (AK:=M) (Do:=Z) p.aQ.x p.aQ.y p.aQ.z (p.aF.map Ay) (p.aD.map At) s;refine dh he ?_;simp only[az,bc,Bu]at G;unfold atP;by_cases c:p.aF=[]
 ·rw[ab c]at G;simp only[G,go_sem];rw[ab,c];rfl
 ·rw[aa c]at G;have D:=h.ok;obtain⟨N,f2,f3,f4⟩:=Qhp (l:=p.aF) (a:=p.aQ) (s:=max s 0) c (λg L=>(D.seg g L).1) (by omega);rw[f4];have L:=D.seg _ (HR N);have O:=Zbo h.aQ D N;have hr:=KQ N;have a1:=D.count;generalize(Bf p.aF (max s 0)).1=i at*;generalize(Bf p.aF (max s 0)).2=d at*;have S:d.natAbs<=268435456:=by omega
  have fin:∀{a:Pt},bd B26 a->(M [I (V ((sgA p.aF i).to.x-a.x)),I d,I (sgA p.aF i).len,I 2]=some [I (Bi (((sgA p.aF i).to.x-a.x)*d) (sgA p.aF i).len),B true]/\V (a.x+Bi (((sgA p.aF i).to.x-a.x)*d) (sgA p.aF i).len)=a.x+Bi (((sgA p.aF i).to.x-a.x)*d) (sgA p.aF i).len)/\
    (M [I (V ((sgA p.aF i).to.y-a.y)),I d,I (sgA p.aF i).len,I 2]=some [I (Bi (((sgA p.aF i).to.y-a.y)*d) (sgA p.aF i).len),B true]/\V (a.y+Bi (((sgA p.aF i).to.y-a.y)*d) (sgA p.aF i).len)=a.y+Bi (((sgA p.aF i).to.y-a.y)*d) (sgA p.aF i).len)/\
    (M [I (V ((sgA p.aF i).to.z-a.z)),I d,I (sgA p.aF i).len,I 2]=some [I (Bi (((sgA p.aF i).to.z-a.z)*d) (sgA p.aF i).len),B true]/\V (a.z+Bi (((sgA p.aF i).to.z-a.z)*d) (sgA p.aF i).len)=a.z+Bi (((sgA p.aF i).to.z-a.z)*d) (sgA p.aF i).len):=by
   intro a T;have key:∀u v:Int,u.natAbs<=B26->v.natAbs<=B26->M [I (V (u-v)),I d,I (sgA p.aF i).len,I 2]=some [I (Bi ((u-v)*d) (sgA p.aF i).len),B true]/\V (v+Bi ((u-v)*d) (sgA p.aF i).len)=v+Bi ((u-v)*d) (sgA p.aF i).len:=by
    intro u v hu O;have U:=Ib hu O;rw[IA U (by decide)];refine⟨hM (bz U (by decide)) S (by omega),?_⟩;exact IA (TE O (Qwe (by omega) (bz U (by decide)) ⟨f2,f3⟩)) (by decide)
   exact⟨key _ _ L.2.2.1 T.1,key _ _ L.2.2.2.1 T.2.1,key _ _ L.2.2.2.2 T.2.2⟩
  have X:(0:Int)<=(i:Int)/\(i:Int)<(p.aF.length:Int):=by omega
  simp only[G,go_sem,ah,ak,hr,ab X];rw[aa];by_cases c0:i=0
  ·subst c0;obtain⟨⟨m1,Y⟩,⟨m2,w2⟩,m3,w3⟩:=fin h.aQ;rw[aa,JI];simp only[m1,m2,m3,go_sem,Y,w2,w3];rfl
  ·obtain⟨j,rfl⟩:∃j,i=j+1:=⟨i-1,by omega⟩;have hj:=KQ (l:=p.aF) (i:=j) (by omega);have a0:=D.seg _ (HR (l:=p.aF) (i:=j) (by omega));obtain⟨⟨m1,Y⟩,⟨m2,w2⟩,m3,w3⟩:=fin a0.2.2;rw[ab,TL (by omega)];have e1:V (((j+1:Nat):Int)-1)=(j:Int):=by rw[Ae];omega
   rw[e1];simp only[ak,hj,go_sem];rw[ab];simp only[m1,m2,m3,go_sem,Y,w2,w3];rfl
theorem Q7y {a b c:Int} (D:a.natAbs<=134217728) (hb:b.natAbs<=268435456) (G:0<c/\c<=268435456):Bw [I a,I b,I c,I 2]=some [I (Bi (a*b) c),B true]:=by
 have:=df D hb;exact Tf (by unfold i64;omega) (by unfold i64;omega) (by omega) (by omega)
theorem Z5p (h:GoodPath p) {s:Int} (D:i64 s):Q_ (Bu p++[I s])=some (ptR (atP p s)):=
 Z0j h (Vb h.ok D) Q7y
theorem Q6l (h:GoodPath p):0<=AX p.aF/\AX p.aF<=263886834032640:=by
 have D:=Qo0 h.ok.seg;have G:=h.count;omega
end Go.Bm
