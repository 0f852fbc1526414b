/- laid together -/
import Derived.Test.YtnnpdlgenmnekaaGreatDoorMx3
import Derived.Test.YtnnpdlgenmnekaaGreatDoorBmTy
set_option linter.unusedVariables false
set_option linter.unusedSimpArgs false
set_option maxRecDepth 100000
open Go.IntKind (wrap)
variable {i A y:Nat} {a k b v u r d X Y:Int} {M Z W S P O:Go.Bm.Fn} {l:Go.Bm.Rw} {q z e:Go.Bm.Pt} {N:Go.Bm.Lp}
namespace Go.Bm
theorem IF {x:Int} (h:i64 x):Gc [I x]=some [U (x.natAbs:Int)]:=by
  unfold i64 at h;unfold Gc;rw[Zev];by_cases D:x<0
  · rw[DG D,Ae (x:=x+1),Ae (x:=0-(x+1)),Dl (x:=0-(x+1)) (by omega),Dl (x:=0-(x+1)+1) (by omega)]
    rw[show 0-(x+1)+1=(x.natAbs:Int) by omega]
  · rw[A1 D,Dl (x:=x) (by omega)]
    rw[show x=(x.natAbs:Int) by omega];simp
def sgn (a b:Int):Int:=if a=0 then 0 else if b=0 then 0 else if(a<0↔b<0)then 1 else-1
theorem YD (a b:Int):FO [I a,I b]=some [I (sgn a b)]:=by
  unfold FO;rw[Qvw];simp only[go_sem];unfold sgn
  repeat' split
  all_goals rfl
def GL (a b:Nat):Int:=if a<b then-1 else if a=b then 0 else 1
def Lq (a b:Int):Int:=if a<b then-1 else if a=b then 0 else 1
noncomputable def w64:Nat:=Classical.choose (⟨18446744073709551616,rfl⟩:∃n:Nat,n=18446744073709551616)
theorem A7:w64=18446744073709551616:=ef (⟨18446744073709551616,rfl⟩:∃n:Nat,n=18446744073709551616)
theorem Nr {x:Int} (h:i64 x):x.natAbs<w64:=by unfold i64 at h;have:=A7;omega
theorem Q9i {x y:Nat} (G:x<w64) (I:y<w64):Ih [U x,U y]=some [U ((x*y/w64:Nat):Int),U ((x*y%w64:Nat):Int)]:=by
  rw[A7]at G I;have L:∀z:Nat,z<18446744073709551616->inU (z:Int)=true:=by
    intro z M;have D:FE=18446744073709551616:=rfl;simp only[inU,D,ak,co];omega
  show So (x:Int) (y:Int)=_;unfold So;rw[L x G,L y I,A7];rfl
theorem Q48 {x y:Nat} (D:x<w64) (G:y<w64):Et [U x,U y]=some [U ((x*y/w64:Nat):Int),U ((x*y%w64:Nat):Int)]:=by
  unfold Et;rw[Zkz,Q9i D G];simp only[go_sem]
theorem Qx9 (a b c d:Nat) (hb:b<w64) (D:d<w64):Ic [U a,U b,U c,U d]=some [I (GL (a*w64+b) (c*w64+d))]:=by
  unfold Ic;rw[Zlt];simp only[go_sem,jh];unfold GL;simp only[A7]at*;by_cases G:a<c
  · rw[aa,aa]
  · rw[ab]
    by_cases L:a=c
    · rw[aa]
      by_cases M:b<d
      · rw[aa,aa]
      · rw[ab]
        by_cases N:b=d
        · rw[aa,ab,aa]
        · rw[ab,ab,ab]
    · rw[ab,ab,ab,ab]
theorem Vl (a b:Int):sgn a b*((a.natAbs*b.natAbs:Nat):Int)=a*b:=by
  unfold sgn;by_cases I:a=0
  · subst I;simp
  · by_cases L:b=0
    · subst L;simp
    · rw[ab I,ab L]
      have e:((a.natAbs*b.natAbs:Nat):Int)=(a.natAbs:Int)*(b.natAbs:Int):=by simp
      rw[e];by_cases D:a<0<;>by_cases G:b<0
      · rw[aa (by simp[D,G]),show(a.natAbs:Int)= -a by omega,show(b.natAbs:Int)= -b by omega,Int.neg_mul_neg,i8]
      · rw[ab (by simp[D,G]),show(a.natAbs:Int)= -a by omega,show(b.natAbs:Int)=b by omega,Int.neg_mul,i8,Int.neg_mul,Int.neg_neg]
      · rw[ab (by simp[D,G]),show(a.natAbs:Int)=a by omega,show(b.natAbs:Int)= -b by omega,Int.mul_neg,Int.neg_mul_neg,i8]
      · rw[aa (by simp[D,G]),show(a.natAbs:Int)=a by omega,show(b.natAbs:Int)=b by omega,i8]
theorem Ub (a b:Int):(sgn a b=0/\a*b=0)\/(sgn a b=1/\0<a*b)\/(sgn a b= -1/\a*b<0):=by
  have h:=Vl a b;by_cases D:a=0
  · subst D;left;simp[sgn]
  · by_cases G:b=0
    · subst G;left;simp[sgn]
    · have L:0<a.natAbs*b.natAbs:=Nat.mul_pos (by omega) (by omega)
      generalize a.natAbs*b.natAbs=p at*;generalize a*b=x at*;unfold sgn at h⊢;rw[ab D,ab G]at h⊢;by_cases I:(a<0↔b<0)
      · rw[aa I]at h⊢;right;left;exact⟨rfl,by omega⟩
      · rw[ab I]at h⊢;right;right;exact⟨rfl,by omega⟩
theorem Z70 {a b c d:Int}:(if sgn a b≠sgn c d then(if sgn a b<sgn c d then-1 else 1)else sgn a b*GL (a.natAbs*b.natAbs) (c.natAbs*d.natAbs))=Lq (a*b) (c*d):=by
  have I:=Vl a b;have L:=Vl c d;have D:=Ub a b;have G:=Ub c d;unfold Lq GL;generalize a.natAbs*b.natAbs=p at*;generalize c.natAbs*d.natAbs=q at*;generalize a*b=x at*;generalize c*d=y at*;generalize sgn a b=u at*;generalize sgn c d=v at*;rcases D with⟨rfl,g1⟩|⟨rfl,g1⟩|⟨rfl,g1⟩<;>rcases G with⟨rfl,g2⟩|⟨rfl,g2⟩|⟨rfl,g2⟩
  · rw[ab (by simp),ab (show¬x<y by omega),aa (show x=y by omega)];exact Int.zero_mul _
  · rw[aa (by simp),aa,aa]
  · rw[aa (by simp),ab,ab,ab]
  · rw[aa (by simp),ab,ab,ab]
  · rw[ab (by simp)]
    have e1:(p:Int)=x:=by omega
    have e2:(q:Int)=y:=by omega
    by_cases h:x<y
    · rw[aa,aa h];rfl
    · rw[ab,ab h]
      by_cases h':x=y
      · rw[aa,aa h'];rfl
      · rw[ab,ab h'];rfl
  · rw[aa (by simp),ab,ab,ab]
  · rw[aa (by simp),aa,aa]
  · rw[aa (by simp),aa,aa]
  · rw[ab (by simp)]
    have e1:(p:Int)= -x:=by omega
    have e2:(q:Int)= -y:=by omega
    by_cases h:x<y
    · rw[ab,ab,aa h];rfl
    · rw[ab h]
      by_cases h':x=y
      · rw[ab,aa,aa h'];rfl
      · rw[aa,ab h'];rfl
theorem Q3z (p:Nat):p/w64*w64+p%w64=p:=by have:=fv p w64;rw[dz]at this;exact this
theorem R4:0<w64:=by rw[A7];omega
theorem Zq4 (p q:Nat): -1<=GL p q/\GL p q<=1:=by unfold GL;(repeat' split)<;>omega
theorem Zli (a b:Int): -1<=sgn a b/\sgn a b<=1:=by unfold sgn;(repeat' split)<;>omega
theorem Z8g (D: -1<=u/\u<=1) (G: -1<=v/\v<=1): -1<=u*v/\u*v<=1:=by
  have:u= -1\/u=0\/u=1:=by omega
  rcases this with rfl|rfl|rfl<;>omega
theorem O5 {x y:Nat} (G:x<w64) (I:y<w64):∃D lo:Nat,Et [U x,U y]=some [U D,U lo]/\D*w64+lo=x*y/\lo<w64:=
  ⟨_,_,Q48 G I,Q3z _,gf _ R4⟩
theorem Zfc {a b c d:Int} (O N L S:Fn) (D T G V:Nat)
   (X:L [I a]=some [U a.natAbs]) (Y:L [I b]=some [U b.natAbs]) (kc:L [I c]=some [U c.natAbs]) (kd:L [I d]=some [U d.natAbs])
   (ks:∀a b,S [I a,I b]=some [I (sgn a b)])
   (e1:N [U a.natAbs,U b.natAbs]=some [U D,U T]) (f1:N [U c.natAbs,U d.natAbs]=some [U G,U V])
   (M:O [U D,U T,U G,U V]=some [I (GL (a.natAbs*b.natAbs) (c.natAbs*d.natAbs))]):Qp4 O N L S [I a,I b,I c,I d]=some [I (Lq (a*b) (c*d))]:=by
  have hm:=Z8g (Zli a b) (Zq4 (a.natAbs*b.natAbs) (c.natAbs*d.natAbs));rw[Ze3];simp only[go_sem,ks,X,Y,kc,kd,e1,f1,M];rw[<-Z70];rw[Ae];by_cases D:sgn a b≠sgn c d
  · rw[aa D,aa D]
    by_cases G:sgn a b<sgn c d
    · rw[aa G,aa G]
    · rw[ab G,ab G]
  · rw[ab D,ab D]
theorem Z73 {a b c d:Int} (G:i64 a) (hb:i64 b) (L:i64 c) (M:i64 d):O7 [I a,I b,I c,I d]=some [I (Lq (a*b) (c*d))]:=by
  obtain⟨N,O,e1,e2,e3⟩:=O5 (Nr G) (Nr hb);obtain⟨S,T,U,V,X⟩:=O5 (Nr L) (Nr M);have D:=Qx9 N O S T e3 X;rw[e2,V]at D;unfold O7;exact Zfc _ _ _ _ _ _ _ _ (IF G) (IF hb) (IF L) (IF M) YD e1 U D
theorem eB {α β:Type} {a:Option α} {f:α->Option β} {x:α} {r:Option β} (h:a=some x) (g:f x=r):a.bind f=r:=by rw[h];exact g
theorem eT {α:Type} {c:Bool} {a b r:α} (h:c=true) (g:a=r):cond c a b=r:=by rw[h];exact g
theorem eF {α:Type} {c:Bool} {a b r:α} (h:c=false) (g:b=r):cond c a b=r:=by rw[h];exact g
theorem eC {α:Type} {c:Bool} {a b r:α} (h:c=true->a=r) (g:c=false->b=r):cond c a b=r:=by cases c;exact g rfl;exact h rfl
theorem beF (h:a≠b):(a==b)=false:=by simpa using h
theorem beT (h:a=b):(a==b)=true:=by simpa using h
theorem bnF (h:a=b):(a !=b)=false:=by simpa using h
theorem bnT (h:a≠b):(a !=b)=true:=by simpa using h
theorem Fl {α β:Type} {a:Option α} {f:α->Option β} (h:a.isSome=true) (g:∀o,a=some o->(f o).isSome=true):(a.bind f).isSome=true:=by
 cases a with
 |none=>simp at h
 |some o=>exact g o rfl
theorem BO {α:Type} {c:Bool} {a b:Option α} (h:c=true->a.isSome=true) (g:c=false->b.isSome=true):(cond c a b).isSome=true:=by
 cases c
 ·exact g rfl
 ·exact h rfl
def Out {α:Type} (p:α->Prop) (a:Option α):Prop:=∃o,a=some o/\p o
theorem Out.is {α:Type} {p:α->Prop} {a:Option α} (h:Out p a):a.isSome=true:=by obtain⟨o,h,_⟩:=h;rw[h];rfl
theorem Out.of {α:Type} {a:Option α} (h:a.isSome=true):Out (λ_=>True) a:=by
 cases a with
 |none=>simp at h
 |some o=>exact⟨o,rfl,trivial⟩
theorem Out.bind {α β:Type} {p:α->Prop} {q:β->Prop} {a:Option α} {f:α->Option β} (h:Out p a) (g:∀o,p o->Out q (f o)):Out q (a.bind f):=by
 obtain⟨o,rfl,h⟩:=h;exact g o h
theorem Out.ibind {α β:Type} {q:β->Prop} {a:Option α} {f:α->Option β} (h:a.isSome=true) (g:∀o,a=some o->Out q (f o)):Out q (a.bind f):=by
 cases a with
 |none=>simp at h
 |some o=>exact g o rfl
theorem Out.cond {α:Type} {p:α->Prop} {c:Bool} {a b:Option α} (h:c=true->Out p a) (g:c=false->Out p b):Out p (cond c a b):=by
 cases c
 ·exact g rfl
 ·exact h rfl
theorem Out.some {α:Type} {p:α->Prop} {o:α} (h:p o):Out p (some o):=⟨o,rfl,h⟩
theorem Out.mono {α:Type} {p q:α->Prop} {a:Option α} (h:Out p a) (g:∀o,p o->q o):Out q a:=by obtain⟨o,h,D⟩:=h;exact⟨o,h,g o D⟩
theorem CJ {S:Type} (enc:S->List AC) (Inv:S->Prop) (m:S->Nat) (Q:Nat×List AC->Prop)
  (h:∀s,Inv s->Out (λo=>(o.1=0/\∃G,o.2=enc G/\Inv G/\m G<m s)\/(o.1≠0/\Q o)) (N (enc s))) (s:S) (L:Inv s):Out Q (Am N (enc s)):=by
 obtain ⟨o, I, _, D⟩ := Qx6 (step := N) enc Inv m Q (λs L => by
  obtain⟨o,I,D⟩:=h s L;rcases D with⟨D,G,M,O,T⟩|⟨D,M⟩
  ·refine .inl ⟨G,?_,O,T⟩;rw[I,<-M,<-D]
  ·exact .inr ⟨o,I,D,M⟩) s L
 exact⟨o,I,D⟩
theorem Bl {p:Prop} [Decidable p] (h:decide p=true):p:=of_decide_eq_true h
theorem Bs {p:Prop} [Decidable p] (h:decide p=false): ¬p:=ig h
theorem inB {n:Nat} (D:0<=a) (G:a<(n:Int)):(decide (0<=a)&&decide (a<(n:Int)))=false->False:=by
 intro h;rcases Bool.and_eq_false_iff.1 h with c|c
 ·exact Bs c D
 ·exact Bs c G
theorem B_ (h:i<=A):Nat.ble i A=true:=fw h
theorem Q0g (a b c d:Int):(HC [I a,I b,I c,I d]).isSome=true:=by
 unfold HC;rw[Q2m]
 repeat' first|exact rfl|refine BO (λ_=> ?_) (λ_=> ?_)
 rename_i D G;simp at D G;omega
theorem TF (a b c:Int):EX [I a,I b,I c]=some [B (decide (1<=a/\a<=65536/\2<=b/\b<=65536/\1<=c/\c<=16777216))]:=by
 unfold EX;rw[Yb2];by_cases D:1<=a<;>by_cases G:a<=65536<;>by_cases L:2<=b<;>by_cases M:b<=65536<;>by_cases N:1<=c<;>by_cases O:c<=16777216<;>simp[D,G,L,M,N,O]
theorem Zn3 (h:∀a b c d,(M [I a,I b,I c,I d]).isSome=true) (a b c v x:Int):(Tt M [I a,I b,I c,I v,I x]).isSome=true:=by
 rw[Qx2]
 repeat' first|exact rfl|exact h _ _ _ _|refine BO (λ_=> ?_) (λ_=> ?_)|refine Fl ?_ λ_ _=> ?_
theorem Zbw (a b c v x:Int):(Hw [I a,I b,I c,I v,I x]).isSome=true:=Zn3 Q0g a b c v x
theorem Yam (x:Int): -9223372036854775808<=V x/\V x<=9223372036854775807:=by
 simp[V,IntKind.wrap,IntKind.signed,IntKind.bits];omega
theorem Ztu {ML MV:Fn} (D:∀a b c d,(ML [I a,I b,I c,I d]).isSome=true) {v a b c low aY:Int} (G: -9000000000000<=low/\low<=9000000000000) (L: -9000000000000<=aY/\aY<=9000000000000):
  Out (λo=>o.1=1) (Am (Mx ML MV) [I v,I low,I aY,I a,I b,I c]):=by
 refine CJ (λs:Int×Int=>[I v,I s.1,I s.2,I a,I b,I c]) (λs=>(-9000000000000<=s.1/\s.1<=9000000000000)/\(-9000000000000<=s.2/\s.2<=9000000000000)) (λs=>(s.2-s.1).toNat) _ ?_ (low,aY) ⟨G,L⟩;rintro⟨l,h⟩ ⟨M,N⟩;dsimp only at*;rw[X2];refine .cond (λc=> ?_) (λc=> ?_)
 ·have c:=Bl c;have e:V (h-V ((V (h-l)).tdiv 2))=h-(h-l)/2:=by
   rw[Ae (x:=h-l),bq (by omega),Ae (x:=(h-l)/2),Ae]
  rw[e];refine .ibind (D _ _ _ _) λo _=> ?_;refine .cond (λ_=> ?_) (λ_=> ?_)
  ·exact .some (.inl ⟨rfl,(h-(h-l)/2,h),rfl,by dsimp only;omega,by dsimp only;omega⟩)
  ·refine .some (.inl ⟨rfl,(l,h-(h-l)/2-1),?_,by dsimp only;omega,by dsimp only;omega⟩);rw[Ae (x:=h-(h-l)/2-1)]
 ·exact .some (.inr ⟨by simp,rfl⟩)
theorem Zrr (L:∀a b c d,(M [I a,I b,I c,I d]).isSome=true) (hV:∀a b c,Z [I a,I b,I c]=some [B (decide (1<=a/\a<=65536/\2<=b/\b<=65536/\1<=c/\c<=16777216))]) (a b c v x:Int):
  (Tq M Z (Am (Mx M Z)) [I a,I b,I c,I v,I x]).isSome=true:=by
 rw[Zb1,hV];simp only[af];refine BO (λ_=>rfl) λN=>BO (λ_=>rfl) λD=>BO (λ_=>rfl) λG=> ?_;simp only[go_sem,Bool.not_eq_false',co]at N;have D:=Bs D;have G:=Bs G;have T: -1099511627776<=x/\x<=1099511627776:=by
  unfold mx at D;unfold mn at G;split at D<;>split at G<;>omega
 obtain⟨o,O,S⟩:=Ztu (MV:=Z) L (v:=v) (a:=a) (b:=b) (c:=c) (low:=V (V (0-x)-b)) (aY:=mn (V (b-x)) a)
  (by rw[Ae (x:=0-x),Ae];omega) (by rw[Ae (x:=b-x)];unfold mn;split<;>omega)
 rw[O];simp only[af,S];rfl
theorem Ycf (a b c v x:Int):(E8 [I a,I b,I c,I v,I x]).isSome=true:=Zrr Q0g TF a b c v x
theorem Zwu (hB:∀a b c v x,(M [I a,I b,I c,I v,I x]).isSome=true) {a b c v x:Int}:
  Out (λo=>o.1=1\/o.1=2/\(wA o.2 0).length<=4096) (Am (Ki M Z W) [.vC Aa [],I v,I x,I a,I b,I c]):=by
 refine CJ (λs:Rw×Int×Int=>[.vC Aa s.1,I s.2.1,I s.2.2,I a,I b,I c]) (λs=>s.1.length<=4096) (λs=>4096-s.1.length) _ ?_ ([],v,x) (by simp);rintro⟨l,v,x⟩ h;dsimp only at*;rw[TT];refine .cond (λ_=> ?_) (λ_=> ?_)
 ·refine .cond (λ_=> ?_) (λD=> ?_)
  ·exact .some (.inr ⟨by simp, .inl rfl⟩)
  ·have D: ¬((l.length:Int)=4096):=by simpa using D
   refine .ibind (hB _ _ _ _ _) λo _=> ?_;refine .cond (λ_=> ?_) (λG=> ?_)
   ·exact .some (.inl ⟨rfl,(_,_,_),rfl,by simp;omega,by simp;omega⟩)
   ·rw[B_ (by simp;omega)]at G;cases G
 ·exact .some (.inr ⟨by simp, .inr ⟨rfl,h⟩⟩)
theorem Zru (hB:∀a b c v x,(M [I a,I b,I c,I v,I x]).isSome=true) (D:∀a b c v x,(Z [I a,I b,I c,I v,I x]).isSome=true) (hV:∀a b c,W [I a,I b,I c]=some [B (decide (1<=a/\a<=65536/\2<=b/\b<=65536/\1<=c/\c<=16777216))]) (a b c v x:Int):
  Out (λo=>(wA o 0).length<=4096) (T8 M Z W (Am (Ki M Z W)) [I a,I b,I c,I v,I x]):=by
 rw[Qt3,hV];simp only[af];refine .cond (λ_=> .some (by simp[gA,wA,bA,jA,nth,Bp])) λ_=> .ibind (D _ _ _ _ _) λo _=> .cond (λ_=> .some (by simp[gA,wA,bA,jA,nth,Bp])) λ_=> ?_;refine .bind (Zwu hB) λo h=> ?_;rcases h with h|⟨h,G⟩
 ·rw[h];exact .some (by simp[gA,wA,bA,jA,nth,Bp])
 ·rw[h];exact .some G
theorem Zma (a b c v x:Int):Out (λo=>(wA o 0).length<=4096) (LP [I a,I b,I c,I v,I x]):=Zru Ycf Zbw TF a b c v x
theorem Q56 {D out:Rw} (G:out.length=D.length) (L:D.length<=4096):
  Out (λo=>o.1=1/\(wA o.2 0).length=D.length) (Am (QN M) [.vC Aa out,I u, .vC Aa D,I (D.length:Int),I 0]):=by
 refine CJ (λs:Rw×Int×Nat=>[.vC Aa s.1,I s.2.1, .vC Aa D,I (D.length:Int),I (s.2.2:Int)]) (λs=>s.1.length=D.length/\s.2.2<=D.length) (λs=>D.length-s.2.2) _ ?_ (out,u,0) ⟨G,by simp⟩;rintro⟨l,u,i⟩ ⟨g1,g2⟩;dsimp only at*;rw[Zxa];refine .cond (λc=> ?_) (λ_=> ?_)
 ·have c:=Bl c;refine .cond (λ_=> ?_) (λh=> ?_)
  ·refine .cond (λ_=> ?_) (λh=> ?_)
   ·have e:=Ae (x:=(i:Int)+1);rw[e];generalize V (u+gA (nth [] D (i:Int).toNat) 0)=z;exact .some (.inl ⟨rfl,(l.set (i:Int).toNat [I z],z,i+1),rfl,by simp;omega,by simp;omega⟩)
   ·simp at h;omega
  ·simp at h;omega
 ·exact .some (.inr ⟨by simp,rfl,g1⟩)
theorem Zh8 (D:∀a b c v x,Out (λo=>(wA o 0).length<=4096) (M [I a,I b,I c,I v,I x])) (a b c G L N O S T:Int):
  Out (λo=>(wA o 0).length<=4096) (Vn M (Am (QN M)) [I a,I b,I c,I G,I L,I N,I O,I S,I T]):=by
 rw[Q2j];refine .bind (D _ _ _ _ _) λo h=> ?_;generalize wA o 0=U at*;refine .cond (λ_=> .some (by simp[gA,wA,bA,jA,nth,Bp])) λ_=> ?_;refine .cond (λ_=> ?_) λc=>by simp at c
 refine .cond (λ_=> ?_) λc=>by simp at c;omega
 refine .bind (Q56 (by simp) h) λo g=> ?_;rw[g.1];exact .some (by show(wA o.2 0).length<=4096;omega)
theorem Qq7 (a b c D G L M N O:Int):Out (λo=>(wA o 0).length<=4096) (FM [I a,I b,I c,I D,I G,I L,I M,I N,I O]):=Zh8 Zma a b c D G L M N O
theorem Ybx (T:∀a b c D G L N O S,Out (λo=>(wA o 0).length<=4096) (M [I a,I b,I c,I D,I G,I L,I N,I O,I S])) (a b c D G L N O S:Int):
  (PM M [I a,I b,I c,I D,I G,I L,I N,I O,I S]).isSome=true:=by
 rw[Zcj];obtain⟨o,U,X⟩:=T a b c D G L N O S;rw[U];simp only[af];generalize wA o 0=V at*;refine BO (λ_=>rfl) λ_=>BO (λ_=>rfl) λc=>BO (λ_=>rfl) λd=> ?_;have c: ¬((V.length:Int)=0):=by simpa using c
 rw[Ae]at d;simp at d;omega
theorem Zji (a b c D G L M N O:Int):(GG [I a,I b,I c,I D,I G,I L,I M,I N,I O]).isSome=true:=Ybx Qq7 a b c D G L M N O
theorem Z8j (h:2^(y+1)*i+2^y<w64):wrap .u64 (((BitVec.ofInt IntKind.u64.bits ((2^(y+1)*i:Nat):Int)|||BitVec.ofInt IntKind.u64.bits ((2^y:Nat):Int)).toNat:Nat):Int)=((2^(y+1)*i+2^y:Nat):Int):=by
 rw[A7]at h;have e:(BitVec.ofInt IntKind.u64.bits ((2^(y+1)*i:Nat):Int)|||BitVec.ofInt IntKind.u64.bits ((2^y:Nat):Int)).toNat=2^(y+1)*i+2^y:=by
  rw[BitVec.toNat_or];have e1:∀v:Nat,v<18446744073709551616->(BitVec.ofInt IntKind.u64.bits (v:Int)).toNat=v:=by
   intro v I;simp only[IntKind.bits,je];omega
  have D:0<2^y:=ez _;generalize G:2^(y+1)*i=A at*;rw[e1 _ (by omega),e1 _ (by omega),<-G];exact(jp (Nat.pow_lt_pow_right (by omega) (by omega)) i).symm
 rw[e,Dl (by omega)]
theorem Qth (k:Nat):((2^(k+1):Nat):Int).fdiv (2^min (Int.toNat 1) IntKind.u64.bits)=((2^k:Nat):Int):=by
 have e:(2^min (Int.toNat 1) IntKind.u64.bits:Int)=2:=rfl;rw[e,fj _ (by omega),ia];omega
theorem Q2y:(1:Int).fdiv (2^min (Int.toNat 1) IntKind.u64.bits)=0:=rfl
theorem Qxc (S:∀x y:Nat,x<w64->y<w64->∃hi lo:Nat,Z [U x,U y]=some [U hi,U lo]/\hi*w64+lo=x*y/\lo<w64)
  (T:∀a b c d:Nat,b<w64->d<w64->M [U a,U b,U c,U d]=some [I (GL (a*w64+b) (c*w64+d))]) {k m hi lo:Nat} {bit:Int} (L:lo<w64) (hb:((2^k:Nat):Int).fdiv (2^min (Int.toNat 1) IntKind.u64.bits)=bit) (h:2^(k+1)*m+2^k<w64):
  LU M Z [U ((2^(k+1)*m:Nat):Int),U ((2^k:Nat):Int),U hi,U lo]=
   some (0,[U (((if(2^(k+1)*m+2^k)*(2^(k+1)*m+2^k)<=hi*w64+lo then 2^(k+1)*m+2^k else 2^(k+1)*m):Nat):Int),U bit,U hi,U lo]):=by
 obtain⟨G,V,e1,e2,e3⟩:=S _ _ h h;have D:=T G V hi lo e3 L;rw[e2]at D;have N:0<2^k:=ez _;rw[Zbe,Z8j h,hb];simp only[go_sem,e1,D];rw[aa];generalize(2^(k+1)*m+2^k)*(2^(k+1)*m+2^k)=q at*;unfold GL;by_cases G:q<hi*w64+lo
 ·rw[aa G,aa,aa]
 ·rw[ab G];by_cases O:q=hi*w64+lo
  ·rw[aa O,aa,aa]
  ·rw[ab O,ab,ab]
theorem Qdo {S T:Fn} (M:∀x y:Nat,x<w64->y<w64->∃hi lo:Nat,T [U x,U y]=some [U hi,U lo]/\hi*w64+lo=x*y/\lo<w64)
  (N:∀a b c d:Nat,b<w64->d<w64->S [U a,U b,U c,U d]=some [I (GL (a*w64+b) (c*w64+d))]) {hi lo:Nat} (D:lo<w64):∀(k m:Nat),2^(k+1)*m+2^(k+1)<=w64->
  (2^(k+1)*m)*(2^(k+1)*m)<=hi*w64+lo->hi*w64+lo<(2^(k+1)*m+2^(k+1))*(2^(k+1)*m+2^(k+1))->
  ∃r:Nat,Am (LU S T) [U ((2^(k+1)*m:Nat):Int),U ((2^k:Nat):Int),U hi,U lo]=some (1,[U r])/\r*r<=hi*w64+lo/\hi*w64+lo<(r+1)*(r+1)/\r<w64
 |0,m,Y,O,V=>by
  have X:=Qxc M N (k:=0) (m:=m) (hi:=hi) (bit:=0) D Q2y (by simp at Y⊢;omega);rw[A5 X];have G:∀r:Nat,Am (LU S T) [U (r:Int),U 0,U hi,U lo]=some (1,[U r]):=by
   intro r;refine AQ ?_ (by simp);rw[Zbe];simp only[go_sem];rw[ab]
  simp only[du,Nat.pow_one,Nat.pow_zero]at*;by_cases h:(2*m+1)*(2*m+1)<=hi*w64+lo
  ·rw[aa h,G];exact⟨_,rfl,h,V,by omega⟩
  ·rw[ab h,G];exact⟨_,rfl,O,by omega,by omega⟩
 |k+1,m,Y,O,V=>by
  have e1:2^(k+1+1)*m=2^(k+1)*(2*m):=by rw[ia 2 (k+1),gi]
  have e2:2^(k+1+1)*m+2^(k+1)=2^(k+1)*(2*m+1):=by rw[e1,Nat.mul_add,Nat.mul_one]
  have e3:2^(k+1+1)=2^(k+1)+2^(k+1):=by rw[ia 2 (k+1)];omega
  have a0:0<2^(k+1):=ez _;have X:=Qxc M N (k:=k+1) (m:=m) (hi:=hi) (bit:=((2^k:Nat):Int)) D (Qth k) (by omega);rw[A5 X];by_cases h:(2^(k+1+1)*m+2^(k+1))*(2^(k+1+1)*m+2^(k+1))<=hi*w64+lo
  ·rw[aa h,e2];rw[e2]at h;refine Qdo M N D k (2*m+1) ?_ h ?_
   ·rw[<-e2];omega
   ·rw[<-e2];rw[show 2^(k+1+1)*m+2^(k+1)+2^(k+1)=2^(k+1+1)*m+2^(k+1+1) by omega];exact V
  ·rw[ab h];have h3:hi*w64+lo<(2^(k+1+1)*m+2^(k+1))*(2^(k+1+1)*m+2^(k+1)):=by omega
   have L:2^(k+1+1)*m+2^(k+1)<=w64:=by omega
   rw[e1]at O h3 L⊢;exact Qdo M N D k (2*m) L O h3
theorem Zyg (S:∀x y:Nat,x<w64->y<w64->∃hi lo:Nat,Z [U x,U y]=some [U hi,U lo]/\hi*w64+lo=x*y/\lo<w64)
  (T:∀a b c d:Nat,b<w64->d<w64->M [U a,U b,U c,U d]=some [I (GL (a*w64+b) (c*w64+d))]) {hi lo:Nat} (D:hi<w64) (G:lo<w64):
  ∃r:Nat,Qcm M Z (Am (LU M Z)) [U hi,U lo]=some [U r]/\r*r<=hi*w64+lo/\hi*w64+lo<(r+1)*(r+1)/\r<w64:=by
 have hb:hi*w64+lo<w64*w64:=by
  have:hi*w64+w64<=w64*w64:=by rw[<-f6];exact be _ D
  omega
 obtain⟨r,O,V,X,Y⟩:=Qdo S T (hi:=hi) (lo:=lo) G 63 0 (by rw[A7];omega) (by simp) (by rw[Nat.mul_zero,du,show 2^(63+1)=w64 by rw[A7]];exact hb);refine⟨r,?_,V,X,Y⟩;rw[Nat.mul_zero]at O;generalize Am (LU M Z)=N at*;have L:N [AC.int IntKind.u64 0,AC.int IntKind.u64 9223372036854775808,AC.int IntKind.u64 hi,AC.int IntKind.u64 lo]=some (1,[U r]):=O;rw[Yab,L];simp only[go_sem]
theorem Zei {hi lo:Nat} (D:hi<w64) (G:lo<w64):∃r:Nat,JW [U hi,U lo]=some [U r]/\r*r<=hi*w64+lo/\hi*w64+lo<(r+1)*(r+1)/\r<w64:=
 Zyg (λ_ _ I L=>O5 I L) Qx9 D G
theorem Qgk {n:Nat} (h:n<9223372036854775808):EU [U n,B false]=some [I n,B true]:=by
 unfold EU;rw[Qqr];simp only[go_sem];rw[ab (by simp),aa (by simp),aa,Ae]
theorem Zud {x y b:Nat} (I:x<w64) (L:y<w64) (hb:b=0\/b=1):KE [U x,U y,U b]=some [U (((x:Int)-y-b)%FE),U (if x<y+b then 1 else 0)]:=by
 rw[A7]at I L;have D:FE=18446744073709551616:=rfl;have M:∀z:Nat,z<18446744073709551616->inU (z:Int)=true:=by
  intro z N;simp only[inU,D,ak,co];omega
 have G:(decide ((b:Int)=0)||decide ((b:Int)=1))=true:=by
  rcases hb with rfl|rfl<;>simp
 unfold KE;simp only[H4,Mm,LR,HN,gA,jA,wA,bA];rw[M x I,M y L,G];by_cases h:x<y+b
 ·rw[aa h,DG (p:=(x:Int)<y+b) (by omega)];simp
 ·rw[ab h,A1 (p:=(x:Int)<y+b) (by omega)];simp
theorem Q3n {x y:Nat} (G:x<w64) (I:y<=x):KE [U x,U y,U 0]=some [U ((x-y:Nat):Int),U 0]:=by
 have:=Zud (x:=x) (y:=y) (b:=0) G (by omega) (.inl rfl);have D:FE=18446744073709551616:=rfl;rw[A7]at G;rw[ab,D,show((x:Int)-y-((0:Nat):Int))%18446744073709551616=((x-y:Nat):Int) by omega]at this;exact this
theorem Zvx {n r:Nat} (hn:n<9223372036854775807) (O:r*r<=n) (T:S [U 0,U n]=some [U r]) (V:W [U r,U r]=some [U 0,U ((r*r:Nat):Int)]) (G:Z [U n,U ((r*r:Nat):Int),U 0]=some [U ((n-r*r:Nat):Int),U 0])
  (L:Z [U 0,U 0,U 0]=some [U 0,U 0]) (N:∀k:Nat,k<9223372036854775808->M [U k,B false]=some [I k,B true]) (D:a=1\/a=2):
  Yp M Z W S [U 0,U n,I a]=some [I ((if(a=1/\r*r<n)\/(a=2/\r*r+r<n)then r+1 else r:Nat):Int),B true]:=by
 have X:r<=r*r:=by
  rcases d7 r with h|h
  ·subst h;simp
  ·exact Nat.le_mul_of_pos_left r h
 have Y:wrap .u64 ((r:Int)+1)=((r+1:Nat):Int):=by rw[Dl (by omega)];omega
 have s1:=N r (by omega);have s2:=N (r+1) (by omega);rw[Z1n];simp only[go_sem,T,V,G,L,Y,s1,s2];rcases D with rfl|rfl
 ·rw[aa rfl,ab];by_cases h:r*r<n
  ·rw[aa,aa]
  ·rw[ab,ab,ab]
 ·rw[ab,aa rfl,ab];by_cases h:r*r+r<n
  ·rw[aa,aa]
  ·rw[ab,ab]
theorem Zj1 {n:Nat} (N:n<9223372036854775807) (D:Z [I a]=some [B true]) (G:M [U 0,U n,I a]=some [I k,B true]):Z9 M Z [I n,I a]=some [I k,B true]:=by
 have L:wrap .u64 (n:Int)=(n:Int):=Dl (by omega);rw[Z4z];simp only[go_sem,D,L,G];rw[ab,ab (by simp)]
theorem Qj6 (h:a=0\/a=1\/a=2):FL [I a]=some [B true]:=by
 unfold FL;rw[Q5j];rcases h with rfl|rfl|rfl<;>rfl
theorem Qxz {n:Nat} {mode:Int} (S:n<9223372036854775807) (D:mode=1\/mode=2):
  ∃r:Nat,IV [I n,I mode]=some [I ((if(mode=1/\r*r<n)\/(mode=2/\r*r+r<n)then r+1 else r:Nat):Int),B true]/\r*r<=n/\n<(r+1)*(r+1):=by
 have G:n<w64:=by rw[A7];omega
 obtain⟨r,X,M,T,V⟩:=Zei (hi:=0) (lo:=n) R4 G;rw[gz,du]at M T;obtain⟨L,lo,e1,e2,e3⟩:∃L lo:Nat,Ih [U r,U r]=some [U L,U lo]/\L*w64+lo=r*r/\lo<w64:=⟨_,_,Q9i V V,Q3z _,gf _ R4⟩;have N:L=0:=by
  rcases d7 L with h|h
  ·exact h
  ·have:=be w64 h;omega
 subst N;have O:lo=r*r:=by omega
 subst O;have z:=Q3n (x:=0) (y:=0) R4 (cm _);refine⟨r,?_,M,T⟩;exact Zj1 S (Qj6 (.inr D)) (Zvx S M X e1 (Q3n G M) z (λk Y=>Qgk Y) D)
def Bh (a b:Int):Int:=(2*a+b)/(2*b)
theorem LM (hb:0<b) (D:k*(2*b)<=2*a+b) (G:2*a+b<(k+1)*(2*b)):Bh a b=k:=by
 unfold Bh;have g1:k<=(2*a+b)/(2*b):=(Int.le_ediv_iff_mul_le (by omega)).2 D;have g2:(2*a+b)/(2*b)<k+1:=(Int.ediv_lt_iff_lt_mul (by omega)).2 G;omega
theorem Zao {p c:Nat} (D:p<w64) (L:0<c):GF [U 0,U p,U c]=some [U ((p/c:Nat):Int),U ((p%c:Nat):Int)]:=by
 rw[A7]at D;have G:(p:Int).tdiv (c:Int)=((p/c:Nat):Int):=by rw[bq (by omega)];simp
 have I:(p:Int).tmod (c:Int)=((p%c:Nat):Int):=by rw[iv (by omega)];simp
 have N:p/c<=p:=gr _ _;unfold GF;generalize IL=M;generalize U7=O;generalize Qhf=S;rw[Q1g];rw[Bj (by simp;omega),A1 (by omega),BG (by simp),A1 (by omega),A1 (by omega),G,I];generalize p/c=q at*;rw[Dl (by omega)]
theorem Zcm (more:Int) (some_ neg:Bool):H2 [I 2,I more,B some_,B neg]=some [B (if more>0 then true else if more=0 then !neg else false)]:=by
 unfold H2;rw[Q10];simp only[go_sem];rw[ab,ab]
 repeat' split
 all_goals rfl
theorem Qw7 {n:Nat} (h:n<=9223372036854775808):EU [U n,B true]=some [I (-(n:Int)),B true]:=by
 unfold EU;rw[Qqr];simp only[go_sem];rw[aa,Ly,Qb1];have:((0-(n:Int))%18446744073709551616+9223372036854775808)%18446744073709551616-9223372036854775808= -(n:Int):=by omega
 rw[this]
def Hd (q r c:Nat) (neg:Bool):Nat:=if r>c-r then q+1 else if r<c-r then q else if neg then q else q+1
theorem Ydb {M1 M2 M3 M4 M5 M6 M7:Fn} {a b s:Int} {A C p q r c:Nat} (N:0<c) (O:c<9223372036854775808) (hr:r<c) (hq:q<9223372036854775807)
  (S:M7 [I 2]=some [B true]) (T:M6 [I a]=some [U A]) (V:M6 [I b]=some [U C]) (X:M6 [I c]=some [U c]) (Y:M5 [U A,U C]=some [U 0,U p]) (k6:M4 [U 0,U p,U c]=some [U q,U r]) (k7:M3 [I a,I b]=some [I s])
  (k8:∀(more:Int) (some_ neg:Bool),M2 [I 2,I more,B some_,B neg]=some [B (if more>0 then true else if more=0 then !neg else false)])
  (L:∀k:Nat,k<9223372036854775808->M1 [U k,B false]=some [I k,B true]) (D:∀k:Nat,k<9223372036854775808->M1 [U k,B true]=some [I (-(k:Int)),B true]):
  Tm M1 M2 M3 M4 M5 M6 M7 [I a,I b,I c,I 2]=some [I (if s<0 then-(Hd q r c true:Int)else(Hd q r c false:Int)),B true]:=by
 have w1:wrap .u64 ((c:Int)-(r:Int))=((c-r:Nat):Int):=by rw[Dl (by omega)];omega
 have w2:wrap .u64 ((q:Int)+1)=((q+1:Nat):Int):=by rw[Dl (by omega)];omega
 have n1:=L q (by omega);have n2:=L (q+1) (by omega);rw[Zaw];simp only[go_sem,S,T,V,X,Y,k6,k7,k8,w1,w2,n1,n2];rw[ab,ab (by simp),ab];by_cases M:s<0
 ·rw[aa M];rw[aa (show¬(s<0↔(c:Int)<0) by omega)];have G:(s !=0)=true:=by simp;omega
  rw[G];unfold Hd;by_cases g1:r>c-r
  ·rw[aa g1];rw[aa (show(r:Int)>((c-r:Nat):Int) by omega),aa (by decide),ab (show¬((q+1:Nat):Int)=0 by omega),D (q+1) (by omega)];simp only[go_sem]
  ·rw[ab g1];rw[ab (show¬(r:Int)>((c-r:Nat):Int) by omega)];by_cases g2:r<c-r
   ·rw[aa g2];rw[aa (show(r:Int)<((c-r:Nat):Int) by omega),ab (by decide),D q (by omega)];simp only[go_sem]
   ·rw[ab g2,aa rfl];rw[ab (show¬(r:Int)<((c-r:Nat):Int) by omega),ab (by decide),D q (by omega)];simp only[go_sem]
 ·rw[ab M];rw[ab (show¬¬(s<0↔(c:Int)<0) by omega)];unfold Hd;by_cases g1:r>c-r
  ·rw[aa g1,aa (show(r:Int)>((c-r:Nat):Int) by omega),aa (by decide),ab (show¬((q+1:Nat):Int)=0 by omega)]
  ·rw[ab g1,ab (show¬(r:Int)>((c-r:Nat):Int) by omega)];by_cases g2:r<c-r
   ·rw[aa g2,aa (show(r:Int)<((c-r:Nat):Int) by omega),ab (by decide)]
   ·rw[ab g2,ab (show¬(r:Int)<((c-r:Nat):Int) by omega),aa (by decide),ab (show¬((q+1:Nat):Int)=0 by omega),ab (by decide)]
theorem Z8p (q r c:Nat):Hd q r c false=if r<c-r then q else q+1:=by
 unfold Hd;by_cases G:r>c-r
 ·rw[aa G,ab]
 ·rw[ab G];by_cases D:r<c-r
  ·rw[aa D,aa D]
  ·rw[ab D,ab D,ab (by simp)]
theorem Yd1 (q r c:Nat):Hd q r c true=if r>c-r then q+1 else q:=by
 unfold Hd;by_cases D:r>c-r
 ·rw[aa D,aa D]
 ·rw[ab D,ab D];by_cases G:r<c-r
  ·rw[aa G]
  ·rw[ab G,aa rfl]
theorem Q77 {p q r c:Nat} (L:0<c) (h:p=c*q+r) (M:r<c):Bh p c=Hd q r c false:=by
 have e:(p:Int)=(c:Int)*q+r:=by rw[h];simp
 have e3:(q:Int)*(2*c)=2*((c:Int)*q):=by grind
 have D:((q+1:Nat):Int)*(2*c)=2*((c:Int)*q)+2*c:=by grind
 have G:((q:Int)+1)*(2*c)=2*((c:Int)*q)+2*c:=by grind
 have I:(((q+1:Nat):Int)+1)*(2*c)=2*((c:Int)*q)+4*c:=by grind
 rw[Z8p];by_cases g:r<c-r
 ·rw[aa g];exact LM (by omega) (by rw[e3];omega) (by rw[G];omega)
 ·rw[ab g];exact LM (by omega) (by rw[D];omega) (by rw[I];omega)
theorem Zuh {p q r c:Nat} (L:0<c) (h:p=c*q+r) (M:r<c):Bh (-(p:Int)) c= -(Hd q r c true:Int):=by
 have e:(p:Int)=(c:Int)*q+r:=by rw[h];simp
 have e3: -(q:Int)*(2*c)= -(2*((c:Int)*q)):=by grind
 have D: -((q+1:Nat):Int)*(2*c)= -(2*((c:Int)*q))-2*c:=by grind
 have G:(-(q:Int)+1)*(2*c)= -(2*((c:Int)*q))+2*c:=by grind
 have I:(-((q+1:Nat):Int)+1)*(2*c)= -(2*((c:Int)*q)):=by grind
 rw[Yd1];by_cases g:r>c-r
 ·rw[aa g];exact LM (by omega) (by rw[D];omega) (by rw[I];omega)
 ·rw[ab g];exact LM (by omega) (by rw[e3];omega) (by rw[G];omega)
theorem TZ {a b c:Int} (U:i64 a) (hb:i64 b) (hc:0<c/\c<9223372036854775808) (hp:a.natAbs*b.natAbs<9223372036854775807):Bt [I a,I b,I c,I 2]=some [I (Bh (a*b) c),B true]:=by
 obtain⟨V,lo,e1,e2,e3⟩:=O5 (Nr U) (Nr hb);have N:=Vl a b;have Y:=Ub a b;have hz:a*b=0->a.natAbs*b.natAbs=0:=λh=>by rw[<-Int.natAbs_mul,h];rfl
 generalize a.natAbs*b.natAbs=p at*;have O:V=0:=by
  rcases d7 V with h|h
  ·exact h
  ·have:=be w64 h;have:=A7;omega
 subst O;have S:lo=p:=by omega
 subst S;obtain⟨n,rfl⟩:=bn (show 0<=c by omega);have G:0<n:=by omega
 have T:=fv lo n;have M:=gf lo G;have h3:lo/n<=lo:=gr _ _;have hd:=Zao e3 G;have L:=IF (x:=(n:Int)) (by unfold i64;omega);rw[jc]at L;generalize lo/n=q at*;generalize lo%n=r at*;have D:=Ydb (M1:=EU) (M2:=H2) (M3:=FO) (M4:=GF) (M5:=Et) (M6:=Gc) (M7:=FL) G (by omega) M (by omega)
  (Qj6 (.inr (.inr rfl))) (IF U) (IF hb) L e1 hd (YD a b) Zcm (λk X=>Qgk X) (λk X=>Qw7 (by omega))
 have hv:(if sgn a b<0 then-(Hd q r n true:Int)else(Hd q r n false:Int))=Bh (a*b) n:=by
  rcases Y with⟨g1,g2⟩|⟨g1,g2⟩|⟨g1,g2⟩
  ·rw[ab,g2];rw[g1]at N;have:lo=0:=hz g2;rw[<-Q77 G T.symm M,this];rfl
  ·rw[ab,<-Q77 G T.symm M,<-N,g1,i8]
  ·rw[aa,<-Zuh G T.symm M,<-N,g1,Int.neg_mul,i8]
 rw[hv]at D;exact D
def bd (A:Nat) (p:Pt):Prop:=p.x.natAbs<=A/\p.y.natAbs<=A/\p.z.natAbs<=A
def ID (a b:Pt):Int:=a.x*b.x+a.y*b.y+a.z*b.z
def B7 (a b:Pt):Pt:=⟨a.x-b.x,a.y-b.y,a.z-b.z⟩
theorem H6 {x y:Int} {A B:Nat} (D:x.natAbs<=A) (G:y.natAbs<=B):(x*y).natAbs<=A*B:=by rw[Int.natAbs_mul];exact dh D G
theorem Qu9 {A B:Nat} (D:bd A q) (hb:bd B z):bd (A+B) (B7 q z):=by
 obtain⟨G,I,L⟩:=D;obtain⟨g1,g2,M⟩:=hb;refine⟨?_,?_,?_⟩<;>simp only[B7]<;>omega
theorem AR {A B:Nat} (h:bd A q) (D:A<=B):bd B q:=⟨bp h.1 D,bp h.2.1 D,bp h.2.2 D⟩
theorem Zw4 (D:bd 33554432 q) (hb:bd 33554432 e):V (q.x-e.x)=(B7 q e).x/\V (q.y-e.y)=(B7 q e).y/\V (q.z-e.z)=(B7 q e).z:=by
 obtain⟨G,I,L⟩:=D;obtain⟨g1,g2,M⟩:=hb;refine⟨?_,?_,?_⟩<;>rw[Ae]<;>rfl
theorem Z7v (D:bd 33554432 q) (hb:bd 33554432 z):Td [I q.x,I q.y,I q.z,I z.x,I z.y,I z.z]=some (ptR (B7 q z)):=by
 unfold Td;obtain⟨G,L,M⟩:=Zw4 D hb;rw[Zih,G,L,M]
theorem Z9i (a b:Pt):ID (B7 a b) (B7 a b)=ID (B7 b a) (B7 b a):=by
 simp only[ID,B7];have h:∀x y:Int,(x-y)*(x-y)=(y-x)*(y-x):=by intro x y;rw[<-Int.neg_mul_neg,Int.neg_sub]
 rw[h a.x,h a.y,h a.z]
theorem Z14 {x y:Int}:Lq x y<=0↔x<=y:=by
 unfold Lq;by_cases h:x<y
 ·rw[aa h];omega
 ·rw[ab h];by_cases h':x=y
  ·rw[aa h'];omega
  ·rw[ab h'];omega
theorem Ol (v:Nat) (h:v<w64):wrap .u64 (((BitVec.ofInt IntKind.u64.bits (v:Int)&&&BitVec.ofInt IntKind.u64.bits 4294967295).toNat:Nat):Int)=((v%4294967296:Nat):Int):=by
 rw[A7]at h;have e:(BitVec.ofInt IntKind.u64.bits (v:Int)&&&BitVec.ofInt IntKind.u64.bits 4294967295).toNat=v%4294967296:=by
  rw[BitVec.toNat_and];have e1:(BitVec.ofInt IntKind.u64.bits (v:Int)).toNat=v:=by
   simp only[IntKind.bits,je];omega
  have e2:(BitVec.ofInt IntKind.u64.bits 4294967295).toNat=2^32-1:=by
   simp only[IntKind.bits,je];rfl
  rw[e1,e2,Nat.and_two_pow_sub_one_eq_mod]
 rw[e,Dl (by omega)]
theorem LJ (v:Nat):(v:Int).fdiv (2^min (Int.toNat 32) IntKind.u64.bits)=((v/4294967296:Nat):Int):=by
 have e:(2^min (Int.toNat 32) IntKind.u64.bits:Int)=4294967296:=rfl;rw[e,fj _ (by omega)];omega
theorem Z6o (u v:Nat) (G:u<4294967296) (D:v<4294967296):wrap .u64 (((BitVec.ofInt IntKind.u64.bits ((u*4294967296:Nat):Int)|||BitVec.ofInt IntKind.u64.bits (v:Int)).toNat:Nat):Int)=((u*4294967296+v:Nat):Int):=by
 have e:(BitVec.ofInt IntKind.u64.bits ((u*4294967296:Nat):Int)|||BitVec.ofInt IntKind.u64.bits (v:Int)).toNat=u*4294967296+v:=by
  rw[BitVec.toNat_or];have e1:∀v:Nat,v<18446744073709551616->(BitVec.ofInt IntKind.u64.bits (v:Int)).toNat=v:=by
   intro v D;simp only[IntKind.bits,je];omega
  rw[e1 _ (by omega),e1 _ (by omega)];have:=jp (i:=32) (b:=v) (by omega) u;rw[show(2:Nat)^32=4294967296 from rfl,dz]at this;exact this.symm
 rw[e,Dl (by omega)]
theorem Zkl (v:Nat) (h:v<w64):wrap .u64 ((v:Int)*2^min (Int.toNat 32) IntKind.u64.bits)=((v%4294967296*4294967296:Nat):Int):=by
 have e:(2^min (Int.toNat 32) IntKind.u64.bits:Int)=4294967296:=rfl;rw[A7]at h;rw[e,Ly];omega
theorem Sd (D:i<4294967296) (hb:A<4294967296):i*A<=18446744065119617025:=by
 have:=dh (show i<=4294967295 by omega) (show A<=4294967295 by omega);omega
theorem Zv3 {x y:Nat} (V:x<w64) (X:y<w64):∃Y lo:Nat,Qgf [U x,U y]=some [U Y,U lo]/\Y*w64+lo=x*y/\lo<w64:=by
 unfold Qgf;rw[Ztq,Ol x V,Ol y X,LJ x,LJ y];rw[A7]at V X;have ex:x=x/4294967296*4294967296+x%4294967296:=by omega
 have ey:y=y/4294967296*4294967296+y%4294967296:=by omega
 have I:x/4294967296<4294967296:=by omega
 have L:x%4294967296<4294967296:=by omega
 have M:y/4294967296<4294967296:=by omega
 have N:y%4294967296<4294967296:=by omega
 generalize x/4294967296=a at*;generalize x%4294967296=b at*;generalize y/4294967296=c at*;generalize y%4294967296=d at*;have O:x*y=(a*c)*18446744073709551616+(a*d)*4294967296+(b*c)*4294967296+b*d:=by
  rw[ex,ey];have:(18446744073709551616:Nat)=4294967296*4294967296:=rfl;rw[this];generalize(4294967296:Nat)=H
  grind
 rw[O];have h1:=Sd I M;have h2:=Sd I N;have h3:=Sd L M;have h4:=Sd L N;have m1:∀p q:Nat,(p:Int)*(q:Int)=((p*q:Nat):Int):=λp q=>by simp
 have G:∀v:Nat,v<=18446744073709551615->wrap .u64 (v:Int)=(v:Int):=λv hv=>Dl (by omega);simp only[m1];generalize a*c=P at*;generalize a*d=Q at*;generalize b*c=S at*;generalize b*d=T at*;have D:∀v:Nat,v<=18446744073709551615->v<w64:=λv hv=>by rw[A7];omega
 have a1:∀p q:Nat,(p:Int)+(q:Int)=((p+q:Nat):Int):=λp q=>by simp
 rw[G T (by omega),G Q (by omega),G S (by omega),G P (by omega),LJ T,a1,G (Q+T/4294967296) (by omega)];rw[Ol _ (D (Q+T/4294967296) (by omega)),LJ (Q+T/4294967296),Ol _ (D T (by omega)),a1 S,G (S+_) (by omega),LJ (S+_),a1 P,G (P+_) (by omega),a1 _ ((S+_)/_),G (P+_+_) (by omega),
  Zkl _ (D (S+(Q+T/4294967296)%4294967296) (by omega)),Z6o _ _ (by omega) (by omega)]
 refine⟨_,_,rfl,?_,?_⟩
 ·rw[A7];omega
 ·rw[A7];omega
theorem Zl1 (L:∀{x y:Nat},x<w64->y<w64->∃N lo:Nat,M [U x,U y]=some [U N,U lo]/\N*w64+lo=x*y/\lo<w64) {a b c d:Nat} (T:a<w64) (hb:b<w64) (V:c<w64) (X:d<w64) (s:Bool):
  Qhh M [U a,U b,U c,U d,B s]=some [B (if s=true then decide (a*b<c*d)else decide (a*b<=c*d))]:=by
 obtain⟨G,O,e1,Y,g1⟩:=L T hb;obtain⟨I,S,e2,f2,g2⟩:=L V X;rw[Zhy];simp only[go_sem,e1,e2];rw[<-Y,<-f2];have key:∀p q:Nat,p<q->p*w64+w64<=q*w64:=λp q h=>by rw[<-f6];exact be _ h
 by_cases c1:G<I
 ·rw[aa];have:=key _ _ c1;by_cases D:s=true
  ·rw[aa D,ai (by omega)]
  ·rw[ab D,ai (by omega)]
 ·rw[ab];by_cases c2:G=I
  ·subst c2;rw[aa rfl];by_cases c3:O<S
   ·rw[aa];by_cases D:s=true
    ·rw[aa D,ai (by omega)]
    ·rw[ab D,ai (by omega)]
   ·rw[ab];by_cases c4:O=S
    ·subst c4;rw[aa rfl];by_cases D:s=true
     ·rw[aa D,aj (by omega),D];rfl
     ·rw[ab D,ai (by omega)];simp at D;rw[D];rfl
    ·rw[ab];by_cases D:s=true
     ·rw[aa D,aj (by omega)]
     ·rw[ab D,aj (by omega)]
  ·rw[ab];have:=key I G (by omega);by_cases D:s=true
   ·rw[aa D,aj (by omega)]
   ·rw[ab D,aj (by omega)]
theorem Zxz {a b c d:Nat} (D:a<w64) (hb:b<w64) (G:c<w64) (I:d<w64) (s:Bool):
  Qix [U a,U b,U c,U d,B s]=some [B (if s=true then decide (a*b<c*d)else decide (a*b<=c*d))]:=
 Zl1 Zv3 D hb G I s
def Ez (a n:Nat) (down:Bool) (j:Nat):Prop:=
 (j=0\/if down=true then(2*j-1)*(2*j-1)*n<4*(a*a)else(2*j-1)*(2*j-1)*n<=4*(a*a))/\
 (if down=true then 4*(a*a)<=(2*j+1)*(2*j+1)*n else 4*(a*a)<(2*j+1)*(2*j+1)*n)
theorem Ro {p q n:Nat} (h:p<=q):p*p*n<=q*q*n:=be _ (dh h h)
theorem Zi8 {a n:Nat} {down:Bool} (I:Ez a n down i) (L:Ez a n down A):i=A:=by
 have key:∀{i A:Nat},Ez a n down i->Ez a n down A-> ¬i<A:=by
  rintro i A ⟨-,G⟩ ⟨D,-⟩ N;have O:=Ro (n:=n) (show 2*i+1<=2*A-1 by omega);rcases D with D|D
  ·omega
  ·by_cases M:down=true
   ·rw[aa M]at G D;omega
   ·rw[ab M]at G D;omega
 have S:=key I L;have G:=key L I;omega
open Classical in
noncomputable def rnd (a n:Nat) (down:Bool):Nat:=if h:∃j,Ez a n down j then Classical.choose h else 0
theorem PL {a n:Nat} {down:Bool} (h:Ez a n down i):rnd a n down=i:=by
 have D:∃i,Ez a n down i:=⟨i,h⟩;unfold rnd;rw[jl D];exact Zi8 (ef D) h
noncomputable def Bv (x r n:Int):Int:=if x<0 then-(rnd (x.natAbs*r.natAbs) n.natAbs true:Int)else(rnd (x.natAbs*r.natAbs) n.natAbs false:Int)
theorem Qv7 {X R n j:Nat} {down:Bool} (G:0<n) (I:X*X<=n) (h:Ez (X*R) n down j):j<=R:=by
 by_cases c:j<=R
 ·exact c
 exfalso;have e:4*(X*R*(X*R))=(2*R)*(2*R)*(X*X):=by grind
 have L:(2*R)*(2*R)*(X*X)<=(2*R)*(2*R)*n:=Nat.mul_le_mul_left _ I;have M:(2*R)*(2*R)*n<(2*R+1)*(2*R+1)*n:=d9 (gq (by omega)) G;have N:(2*R+1)*(2*R+1)*n<=(2*j-1)*(2*j-1)*n:=Ro (by omega);obtain⟨D,-⟩:=h;rcases D with D|D
 ·omega
 ·split at D<;>omega
theorem Zq2 {X R n j:Nat} {down:Bool} (D:0<n) (G:R*R<=n) (h:Ez (X*R) n down j):j<=X:=by
 rw[dz]at h;exact Qv7 D G h
theorem Za8 (D:∀{a b c d:Nat},a<w64->b<w64->c<w64->d<w64->∀s:Bool,M [U a,U b,U c,U d,B s]=some [B (if s=true then decide (a*b<c*d)else decide (a*b<=c*d))])
  {x:Int} {a d q b:Nat} {bit:Int} (S:a<36028797018963968) (G:d<w64) (T:q+b<268435456+1) (L:0<b) (hb:((b:Nat):Int).fdiv (2^min (Int.toNat 1) IntKind.u64.bits)=bit):
  My M [I x,U a,U d,U q,U b]=some (0,[I x,U a,U d,U (((if(q+b)*(q+b)*d<=a*a then q+b else q):Nat):Int),U bit]):=by
 have V:(q+b)*(q+b)<=268435456*268435456:=dh (by omega) (by omega);have N:wrap .u64 ((q:Int)+(b:Int))=((q+b:Nat):Int):=by rw[Dl (by omega)];omega
 have O:wrap .u64 (((q+b:Nat):Int)*((q+b:Nat):Int))=(((q+b)*(q+b):Nat):Int):=by
  rw[show((q+b:Nat):Int)*((q+b:Nat):Int)=(((q+b)*(q+b):Nat):Int) by simp,Dl (by omega)]
 rw[Qxb,N,O,hb];generalize(q+b)*(q+b)=s at*;have h:=D (a:=s) (b:=d) (c:=a) (d:=a) (by rw[A7];omega) G (by rw[A7];omega) (by rw[A7];omega) false;rw[ab (by simp)]at h;simp only[go_sem,h];rw[aa];by_cases c:s*d<=a*a
 ·rw[aa c,aa c]
 ·rw[ab c,ab c]
theorem Qf7 {M:Fn} (L:∀{a b c d:Nat},a<w64->b<w64->c<w64->d<w64->∀s:Bool,M [U a,U b,U c,U d,B s]=some [B (if s=true then decide (a*b<c*d)else decide (a*b<=c*d))])
  {x:Int} {a d:Nat} (N:a<36028797018963968) (O:d<w64):∀(k q:Nat),q+2^(k+1)<=268435456->q*q*d<=a*a->a*a<(q+2^(k+1))*(q+2^(k+1))*d->
  ∃r:Nat,Am (My M) [I x,U a,U d,U q,U ((2^k:Nat):Int)]=some (1,[I x,U a,U d,U r])/\r*r*d<=a*a/\a*a<(r+1)*(r+1)*d/\r<268435456
 |0,q,X,S,T=>by
  have V:=Za8 L (x:=x) (q:=q) (b:=2^0) (bit:=0) N O (by simp at X⊢;omega) (by simp) Q2y;rw[A5 V];have D:∀r:Nat,Am (My M) [I x,U a,U d,U r,U 0]=some (1,[I x,U a,U d,U r]):=by
   intro r;refine AQ ?_ (by simp);rw[Qxb];simp only[go_sem];rw[ab]
  simp only[du,Nat.pow_one,Nat.pow_zero]at*;by_cases h:(q+1)*(q+1)*d<=a*a
  ·rw[aa h,D];exact⟨_,rfl,h,T,by omega⟩
  ·rw[ab h,D];exact⟨_,rfl,S,by omega,by omega⟩
 |k+1,q,X,S,T=>by
  have e3:2^(k+1+1)=2^(k+1)+2^(k+1):=by rw[ia 2 (k+1)];omega
  have G:0<2^(k+1):=ez _;have V:=Za8 L (x:=x) (q:=q) (b:=2^(k+1)) (bit:=((2^k:Nat):Int)) N O (by omega) G (Qth k);rw[A5 V];by_cases h:(q+2^(k+1))*(q+2^(k+1))*d<=a*a
  ·rw[aa h];refine Qf7 L N O k _ (by omega) h ?_;rw[show q+2^(k+1)+2^(k+1)=q+2^(k+1+1) by omega];exact T
  ·rw[ab h];exact Qf7 L N O k q (by omega) S (by omega)
theorem Z2k {a n q:Nat} (down:Bool) (G:q*q*n<=a*a) (I:a*a<(q+1)*(q+1)*n):
  Ez a n down (if(if down=true then(2*q+1)*(2*q+1)*n<2*a*(2*a)else(2*q+1)*(2*q+1)*n<=2*a*(2*a))then q+1 else q):=by
 have L:2*a*(2*a)=4*(a*a):=by grind
 rw[L];have e1:4*(q*q*n)<=4*(a*a):=Nat.mul_le_mul_left _ G;have e2:4*(a*a)<4*((q+1)*(q+1)*n):=by omega
 have N:(2*q-1)*(2*q-1)*n<=(2*q)*(2*q)*n:=Ro (by omega);have O:(2*q)*(2*q)*n=4*(q*q*n):=by grind
 have S:(2*(q+1))*(2*(q+1))*n=4*((q+1)*(q+1)*n):=by grind
 have T:(2*(q+1))*(2*(q+1))*n<=(2*(q+1)+1)*(2*(q+1)+1)*n:=Ro (by omega);have U:n=0\/q=0\/(2*q-1)*(2*q-1)*n<(2*q)*(2*q)*n:=by
  by_cases D:n=0
  ·exact .inl D
  ·by_cases M:q=0
   ·exact .inr (.inl M)
   ·right;right;refine d9 ?_ (by omega);exact gq (by omega)
 have D:n≠0:=by rintro rfl;simp at I
 unfold Ez;cases down
 ·simp only[dm,f8];by_cases c:(2*q+1)*(2*q+1)*n<=4*(a*a)
  ·rw[aa c];refine⟨.inr ?_,by omega⟩;rw[show 2*(q+1)-1=2*q+1 by omega];exact c
  ·rw[ab c];exact⟨by omega,by omega⟩
 ·simp only[dt];by_cases c:(2*q+1)*(2*q+1)*n<4*(a*a)
  ·rw[aa c];refine⟨.inr ?_,by omega⟩;rw[show 2*(q+1)-1=2*q+1 by omega];exact c
  ·rw[ab c];exact⟨by omega,by omega⟩
theorem Z4h (hM:∀{a b c d:Nat},a<w64->b<w64->c<w64->d<w64->∀s:Bool,M [U a,U b,U c,U d,B s]=some [B (if s=true then decide (a*b<c*d)else decide (a*b<=c*d))])
  {x r n:Int} (hx:x.natAbs<=33554432*4) (L:0<=r/\r<=33554432*4) (hn:0<n/\n<=4611686018427387904) (a0:x*x<=n):
  Qnj M (Am (My M)) [I x,I r,I n]=some [I (Bv x r n)]/\(Bv x r n).natAbs<=268435456/\Ez (x.natAbs*r.natAbs) n.natAbs (decide (x<0)) (Bv x r n).natAbs:=by
 obtain⟨R,rfl⟩:=bn L.1;obtain⟨N,rfl⟩:=bn (show 0<=n by omega);have O:mx x (V (0-x))=(x.natAbs:Int):=by
  rw[Ae];unfold mx;split<;>omega
 have hA:x.natAbs*R<=(33554432*4)*(33554432*4):=dh hx (by omega);have e1:(x.natAbs:Int)*(R:Int)=((x.natAbs*R:Nat):Int):=by simp
 have S:x.natAbs*x.natAbs<=N:=by
  have:((x.natAbs*x.natAbs:Nat):Int)=x*x:=by rw[fm]
  omega
 have T:(x.natAbs*R)*(x.natAbs*R)<268435456*268435456*N:=by
  have e:(x.natAbs*R)*(x.natAbs*R)=(R*R)*(x.natAbs*x.natAbs):=by grind
  rw[e];have h1:R*R<=(33554432*4)*(33554432*4):=dh (by omega) (by omega);have h2:(R*R)*(x.natAbs*x.natAbs)<=((33554432*4)*(33554432*4))*N:=dh h1 S;omega
 simp only[Bv,jc];generalize a1:x.natAbs*R=A at*;have X:A<36028797018963968:=by omega
 have hN:N<w64:=by rw[A7];omega
 rw[Zl6,O,e1,Ae (x:=(A:Int)),Dl (x:=(A:Int)) (by omega),Dl (x:=(N:Int)) (by omega)];obtain⟨q,l1,l2,l3,l4⟩:=Qf7 hM (x:=x) (a:=A) (d:=N) X hN 27 0 (by decide) (by simp) (by rw[du];exact T);have Y:Am (My M) [I x,U A,U N,AC.int IntKind.u64 0,AC.int IntKind.u64 134217728]=some (1,[I x,U A,U N,U q]):=l1;rw[Y];have a2:(2*q+1)*(2*q+1)<=536870911*536870911:=dh (by omega) (by omega);have w1:wrap .u64 (wrap .u64 (2*(q:Int))+1)=((2*q+1:Nat):Int):=by rw[Dl (x:=2*(q:Int)) (by omega),Dl (by omega)];omega
 have w2:wrap .u64 (((2*q+1:Nat):Int)*((2*q+1:Nat):Int))=(((2*q+1)*(2*q+1):Nat):Int):=by
  rw[show((2*q+1:Nat):Int)*((2*q+1:Nat):Int)=(((2*q+1)*(2*q+1):Nat):Int)from(da _ _).symm,Dl (by omega)]
 have w3:wrap .u64 (2*(A:Int))=((2*A:Nat):Int):=by rw[Dl (by omega)];omega
 have w4:V (wrap .u64 ((q:Int)+1))=((q+1:Nat):Int):=by rw[Dl (by omega),Ae];omega
 have w5:V (q:Int)=(q:Int):=Ae;have h:=hM (a:=(2*q+1)*(2*q+1)) (b:=N) (c:=2*A) (d:=2*A) (by rw[A7];omega) hN (by rw[A7];omega) (by rw[A7];omega) (decide (x<0));have G:=Z2k (decide (x<0)) l2 l3;simp only[go_sem,w1,w2,w3,h,w4,w5];generalize(2*q+1)*(2*q+1)=s at*;by_cases D:x<0
 ·rw[show(if x<0 then-(rnd A N true:Int)else(rnd A N false:Int))= -(rnd A N true:Int)from aa D];rw[ai D]at G⊢;simp only[dt]at G⊢;have L:=PL G;by_cases c:s*N<2*A*(2*A)
  ·rw[aa c]at G L;rw[aa D,aa (ai c),aa D,L,Ae];refine⟨?_,by omega,?_⟩
   ·rw[Int.zero_sub]
   ·rw[Int.natAbs_neg,jc];exact G
  ·rw[ab c]at G L;rw[aa D,ab (by simpa using c),aa D,L,Ae];refine⟨?_,by omega,?_⟩
   ·rw[Int.zero_sub]
   ·rw[Int.natAbs_neg,jc];exact G
 ·rw[show(if x<0 then-(rnd A N true:Int)else(rnd A N false:Int))=(rnd A N false:Int)from ab D];rw[aj D]at G⊢;simp only[dm,f8]at G⊢;have L:=PL G;by_cases c:s*N<=2*A*(2*A)
  ·rw[aa c]at G L;rw[ab D,aa (ai c),ab D,L];exact⟨rfl,by omega,G⟩
  ·rw[ab c]at G L;rw[ab D,ab (by simpa using c),ab D,L];exact⟨rfl,by omega,G⟩
theorem TL {x r n:Int} (G:x.natAbs<=33554432*4) (L:0<=r/\r<=33554432*4) (M:0<n/\n<=4611686018427387904) (D:x*x<=n):
  Us [I x,I r,I n]=some [I (Bv x r n)]/\(Bv x r n).natAbs<=268435456/\Ez (x.natAbs*r.natAbs) n.natAbs (decide (x<0)) (Bv x r n).natAbs:=
 Z4h Zxz G L M D
def HW (n k:Int):Prop:=0<=k/\n<=k*k/\(k=0\/(k-1)*(k-1)<n)
theorem Zgr {n i j:Int} (G:HW n i) (I:HW n j):i=j:=by
 have key:∀{i j:Int},HW n i->HW n j-> ¬i<j:=by
  rintro i j ⟨L,M,-⟩ ⟨O,S,D⟩ N;rcases D with D|D
  ·omega
  ·have:=gy L (show i<=j-1 by omega);omega
 have L:=key G I;have M:=key I G;omega
open Classical in
noncomputable def upR (n:Int):Int:=if h:∃j,HW n j then Classical.choose h else 0
theorem Zd6 {n k:Int} (h:HW n k):upR n=k:=by
 have D:∃j,HW n j:=⟨k,h⟩;unfold upR;rw[jl D];exact Zgr (ef D) h
theorem Q3p {n r:Nat} (D:r*r<=n) (G:n<(r+1)*(r+1)):HW n (if r*r<n then r+1 else r:Nat):=by
 unfold HW;by_cases c:r*r<n
 ·rw[aa c];have e1:((r+1:Nat):Int)*((r+1:Nat):Int)=(((r+1)*(r+1):Nat):Int):=(da _ _).symm;have e2:(((r+1:Nat):Int)-1)*(((r+1:Nat):Int)-1)=((r*r:Nat):Int):=by
   rw[show((r+1:Nat):Int)-1=(r:Int) by omega];exact(da _ _).symm
  rw[e1,e2];generalize(r+1)*(r+1)=A at*;generalize r*r=B at*;exact⟨by omega,by omega, .inr (by omega)⟩
 ·rw[ab c];have e1:(r:Int)*(r:Int)=((r*r:Nat):Int):=(da _ _).symm;rw[e1];refine⟨by omega,by omega,?_⟩;rcases d7 r with h|h
  ·left;omega
  ·right;have e2:((r:Int)-1)*((r:Int)-1)=(((r-1)*(r-1):Nat):Int):=by
    rw[show(r:Int)-1=((r-1:Nat):Int) by omega];exact(da _ _).symm
   have:=gq (show r-1<r by omega);rw[e2];omega
theorem Qup (k:Nat):((2^(k+1):Nat):Int).fdiv (2^min (Int.toNat 1) IntKind.i64.bits)=((2^k:Nat):Int):=by
 have e:(2^min (Int.toNat 1) IntKind.i64.bits:Int)=2:=rfl;rw[e,fj _ (by omega),ia];omega
theorem Zb4:(1:Int).fdiv (2^min (Int.toNat 1) IntKind.i64.bits)=0:=rfl
theorem Q6b {n q b:Nat} {bit:Int} (D:q+b<=2147483648) (G:0<b) (hb:((b:Nat):Int).fdiv (2^min (Int.toNat 1) IntKind.i64.bits)=bit):
  Me [I n,I q,I b]=some (0,[I n,I (((if(q+b)*(q+b)<=n then q+b else q):Nat):Int),I bit]):=by
 have N:(q+b)*(q+b)<=2147483648*2147483648:=dh D D;have L:V ((q:Int)+(b:Int))=((q+b:Nat):Int):=by rw[Ae];omega
 have M:V (((q+b:Nat):Int)*((q+b:Nat):Int))=(((q+b)*(q+b):Nat):Int):=by
  rw[show((q+b:Nat):Int)*((q+b:Nat):Int)=(((q+b)*(q+b):Nat):Int)from(da _ _).symm,Ae]
 rw[Q29,L,M,hb];generalize(q+b)*(q+b)=s at*;simp only[go_sem];rw[aa];by_cases c:s<=n
 ·rw[aa,aa c]
 ·rw[ab,ab c]
theorem WN {n:Nat}:∀(k q:Nat),q+2^(k+1)<=2147483648->q*q<=n->n<(q+2^(k+1))*(q+2^(k+1))->
  ∃r:Nat,Am Me [I n,I q,I ((2^k:Nat):Int)]=some (1,[I r])/\r*r<=n/\n<(r+1)*(r+1)/\r<2147483648
 |0,q,O,L,M=>by
  have N:=Q6b (n:=n) (q:=q) (b:=2^0) (bit:=0) (by simp at O⊢;omega) (by simp) Zb4;rw[A5 N];have D:∀r:Nat,Am Me [I n,I r,I 0]=some (1,[I r]):=by
   intro r;refine AQ ?_ (by simp);rw[Q29];simp only[go_sem];rw[ab]
  simp only[du,Nat.pow_one,Nat.pow_zero]at*;by_cases h:(q+1)*(q+1)<=n
  ·rw[aa h,D];exact⟨_,rfl,h,M,by omega⟩
  ·rw[ab h,D];exact⟨_,rfl,L,by omega,by omega⟩
 |k+1,q,O,L,M=>by
  have e3:2^(k+1+1)=2^(k+1)+2^(k+1):=by rw[ia 2 (k+1)];omega
  have G:0<2^(k+1):=ez _;have N:=Q6b (n:=n) (q:=q) (b:=2^(k+1)) (bit:=((2^k:Nat):Int)) (by omega) G (Qup k);rw[A5 N];by_cases h:(q+2^(k+1))*(q+2^(k+1))<=n
  ·rw[aa h];refine WN k _ (by omega) h ?_;rw[show q+2^(k+1)+2^(k+1)=q+2^(k+1+1) by omega];exact M
  ·rw[ab h];exact WN k q (by omega) L (by omega)
theorem Vk {n:Nat} (G:n<4611686018427387904):∃r:Nat,Q3v [I n]=some [I r]/\r*r<=n/\n<(r+1)*(r+1)/\r<2147483648:=by
 obtain⟨r,L,M,N,O⟩:=WN (n:=n) 30 0 (by decide) (by simp) (by rw[du];exact G);refine⟨r,?_,M,N,O⟩;have D:Am Me [I n,AC.int IntKind.i64 0,AC.int IntKind.i64 1073741824]=some (1,[I r]):=L;show Qgj (Am Me) [I n]=_;rw[Zr1,D];simp only[go_sem]
def sqD (a b:Pt):Int:=ID (B7 a b) (B7 a b)
theorem Qj (a b:Pt):0<=sqD a b:=by
 unfold sqD ID;have h:∀u:Int,0<=u*u:=λu=>by rw[<-fm];omega
 have:=h (B7 a b).x;have:=h (B7 a b).y;have:=h (B7 a b).z;omega
theorem Dq {x:Int} (h:x.natAbs<=A):0<=x*x/\x*x<=((A*A:Nat):Int):=by
 have:=dh h h;rw[<-fm];omega
theorem P_ (D:bd A q) (hb:bd A z) (G:A<=67108864):sqD q z<=54043195528445952:=by
 have h:∀x y:Int,x.natAbs<=A->y.natAbs<=A->(x-y)*(x-y)<=18014398509481984:=by
  intro x y I L;exact(Dq (x:=x-y) (A:=134217728) (by omega)).2
 have M:=h _ _ D.1 hb.1;have N:=h _ _ D.2.1 hb.2.1;have O:=h _ _ D.2.2 hb.2.2;unfold sqD ID B7;simp only;omega
theorem Zc8 {a b:Pt} (D:bd 67108864 a) (hb:bd 67108864 b):Ue [I a.x,I a.y,I a.z,I b.x,I b.y,I b.z]=some [I (sqD a b)]:=by
 have h:∀x y:Int,x.natAbs<=67108864->y.natAbs<=67108864->0<=(x-y)*(x-y)/\(x-y)*(x-y)<=18014398509481984:=by
  intro x y G L;exact Dq (x:=x-y) (A:=134217728) (by omega)
 have M:=h _ _ D.1 hb.1;have N:=h _ _ D.2.1 hb.2.1;have O:=h _ _ D.2.2 hb.2.2;obtain⟨a1,a2,a3⟩:=D;obtain⟨b1,b2,b3⟩:=hb;unfold Ue;rw[Z8x,Ae (x:=a.x-b.x),Ae (x:=a.y-b.y),Ae (x:=a.z-b.z)];unfold sqD ID B7;simp only;generalize(a.x-b.x)*(a.x-b.x)=u at*;generalize(a.y-b.y)*(a.y-b.y)=v at*;generalize(a.z-b.z)*(a.z-b.z)=w at*;rw[Ae (x:=u),Ae (x:=0+u),Ae (x:=v),Ae (x:=0+u+v),Ae (x:=w),Ae,Int.zero_add]
noncomputable def AB (a b:Pt):Int:=upR (sqD a b)
theorem Zys (G:Z [I q.x,I q.y,I q.z,I z.x,I z.y,I z.z]=some [I i]) (U:i<4611686018427387904)
  (L:∃r:Nat,M [I i]=some [I r]/\r*r<=i/\i<(r+1)*(r+1)/\r<2147483648):YX M Z [I q.x,I q.y,I q.z,I z.x,I z.y,I z.z]=some [I (upR i)]/\HW i (upR i):=by
 obtain⟨r,N,O,S,V⟩:=L;have D:=Q3p O S;rw[Zd6 D];refine⟨?_,D⟩;rw[Zj5];have T:r*r<=2147483648*2147483648:=dh (by omega) (by omega);have e1:(r:Int)*(r:Int)=((r*r:Nat):Int):=(da _ _).symm;simp only[go_sem,G,N,e1];rw[Ae (x:=((r*r:Nat):Int)),Ae];by_cases c:r*r<i
 ·rw[aa,aa c];rfl
 ·rw[ab,ab c]
theorem Y6 (D:bd 67108864 q) (hb:bd 67108864 z):Zt5 [I q.x,I q.y,I q.z,I z.x,I z.y,I z.z]=some [I (AB q z)]/\HW (sqD q z) (AB q z):=by
 have M:=Qj q z;have N:=P_ D hb (cm _);obtain⟨d,G⟩:=bn M;have L:=Zc8 D hb;unfold AB;rw[G]at L;rw[G];exact Zys L (by omega) (Vk (by omega))
theorem Im (G:bd 67108864 q) (hb:bd 67108864 z):0<=AB q z/\AB q z<=268435456:=by
 obtain⟨-,I,L,D⟩:=Y6 G hb;have M:=P_ G hb (cm _);refine⟨I,?_⟩;rcases D with D|D
 ·omega
 ·by_cases c:AB q z<=268435456
  ·exact c
  ·have:=gy (a:=268435456) (b:=AB q z-1) (by omega) (by omega);omega
def JA (n k:Int):Prop:=0<=k/\n<=k*(k+1)/\(k=0\/(k-1)*k<n)
theorem IQ {x:Int} (h:x.natAbs<=A) (D:A<=9223372036854775807):V x=x:=Ae
theorem Iq {x y:Int} {A B:Nat} (D:x.natAbs<=A) (G:y.natAbs<=B):(x-y).natAbs<=A+B:=by omega
theorem Ul {x y:Int} {A B:Nat} (D:x.natAbs<=A) (G:y.natAbs<=B):(x+y).natAbs<=A+B:=by omega
theorem Xb {c u x:Int} (D:c.natAbs<=A) (G:(c+x).natAbs<=A) (h:(0<=x->0<=u/\u<=x)/\(x<=0->x<=u/\u<=0)):(c+u).natAbs<=A:=by
 rcases Int.le_total 0 x with g|g
 ·have:=h.1 g;omega
 ·have:=h.2 g;omega
theorem ZD (a b:Pt):sqD a b=(a.x-b.x)*(a.x-b.x)+(a.y-b.y)*(a.y-b.y)+(a.z-b.z)*(a.z-b.z):=rfl
theorem Fx (u:Int):0<=u*u:=by rw[<-fm];omega
theorem Qe7:sqD q e=0↔q=e:=by
 rw[ZD];obtain⟨a1,a2,a3⟩:=q;obtain⟨b1,b2,b3⟩:=e;have M:=Fx (a1-b1);have N:=Fx (a2-b2);have O:=Fx (a3-b3);constructor
 ·intro h;simp only at h;have e1:(a1-b1)*(a1-b1)=0:=by omega
  have e2:(a2-b2)*(a2-b2)=0:=by omega
  have e3:(a3-b3)*(a3-b3)=0:=by omega
  have z:∀u:Int,u*u=0->u=0:=λu D=>by
   rcases Int.mul_eq_zero.1 D with h|h<;>exact h
  have:=z _ e1;have:=z _ e2;have:=z _ e3;rw[Pt.mk.injEq];omega
 ·intro h;injection h with G I L;subst G I L;simp
theorem Zad (a b:Pt):(a.x-b.x)*(a.x-b.x)<=sqD a b/\(a.y-b.y)*(a.y-b.y)<=sqD a b/\(a.z-b.z)*(a.z-b.z)<=sqD a b:=by
 rw[ZD];have D:=Fx (a.x-b.x);have G:=Fx (a.y-b.y);have I:=Fx (a.z-b.z);omega
noncomputable def BN (c a:Pt) (d:Int):Pt:=⟨c.x+Bv (a.x-c.x) d (sqD a c),c.y+Bv (a.y-c.y) d (sqD a c),c.z+Bv (a.z-c.z) d (sqD a c)⟩
abbrev B24:Nat:=16777216
theorem Wc {x r n:Int} (I:x.natAbs<=33554432*4) (L:0<=r/\r<=33554432*4) (M:0<n/\n<=4611686018427387904) (D:x*x<=n) (N:r*r<=n):
  (0<=x->0<=Bv x r n/\Bv x r n<=x)/\(x<=0->x<=Bv x r n/\Bv x r n<=0):=by
 obtain⟨-,S,O⟩:=TL I L M D;have G := Zq2 (by omega) (by
  have:((r.natAbs*r.natAbs:Nat):Int)=r*r:=fm;omega) O
 unfold Bv at*;constructor
 ·intro h;rw[ab]at G⊢;omega
 ·intro h;by_cases c:x<0
  ·rw[aa c]at G⊢;omega
  ·rw[ab c]at G⊢;omega
theorem Zk6 (D:bd B24 q) (hb:bd B24 z):sqD q z<=3377699720527872:=by
 have h:∀x y:Int,x.natAbs<=B24->y.natAbs<=B24->(x-y)*(x-y)<=1125899906842624:=by
  intro x y G I;unfold B24 at*;exact(Dq (x:=x-y) (A:=33554432) (by omega)).2
 have L:=h _ _ D.1 hb.1;have M:=h _ _ D.2.1 hb.2.1;have N:=h _ _ D.2.2 hb.2.2;rw[ZD];omega
theorem K5 {c a:Pt} (D:bd B24 c) (G:bd B24 a) (M:a≠c) (S:0<=d/\d<AB a c):bd B24 (BN c a d):=by
 have T:sqD a c≠0:=λh=>M (Qe7.1 h);have U:=Qj a c;have V:=P_ (AR G (by decide)) (AR D (by decide)) (show 67108864<=67108864 by omega);obtain⟨-,g1,g2,g3⟩:=Y6 (AR G (show B24<=67108864 by decide)) (AR D (show B24<=67108864 by decide));have hl:=Im (AR G (show B24<=67108864 by decide)) (AR D (show B24<=67108864 by decide));have I:d*d<=sqD a c:=by
  have:=gy S.1 (show d<=AB a c-1 by omega);omega
 have N:d<=33554432*4:=by
  by_cases X:d<=33554432*4
  ·exact X
  ·exfalso;have h3:=gy (a:=33554432*4+1) (b:=d) (by omega) (by omega);have h4:=Zk6 G D;omega
 obtain⟨Y,q2,q3⟩:=Zad a c;have O:0<sqD a c/\sqD a c<=4611686018427387904:=⟨Int.lt_iff_le_and_ne.2 ⟨U,λh=>T h.symm⟩,Int.le_trans V (by decide)⟩;have L:0<=d/\d<=33554432*4:=⟨S.1,N⟩;have k1:=Wc (x:=a.x-c.x) (r:=d) (n:=sqD a c) (bp (Iq G.1 D.1) (by decide)) L O Y I;have k2:=Wc (x:=a.y-c.y) (r:=d) (n:=sqD a c) (bp (Iq G.2.1 D.2.1) (by decide)) L O q2 I;have k3:=Wc (x:=a.z-c.z) (r:=d) (n:=sqD a c) (bp (Iq G.2.2 D.2.2) (by decide)) L O q3 I;have e:∀x y:Int,x+(y-x)=y:=λx y=>by omega
 exact⟨Xb D.1 (by rw[e];exact G.1) k1,Xb D.2.1 (by rw[e];exact G.2.1) k2,Xb D.2.2 (by rw[e];exact G.2.2) k3⟩
def D8 (p c q:Pt):Pt:=⟨p.x-c.x+(q.x-c.x),p.y-c.y+(q.y-c.y),p.z-c.z+(q.z-c.z)⟩
def De (p c q:Pt):Int:=ID (D8 p c q) (D8 p c q)
theorem Q03 {p c q:Pt} (D:bd B24 p) (G:bd B24 c) (I:bd B24 q):bd 67108864 (D8 p c q):=by
 unfold bd B24 D8 at*;simp only;omega
theorem Q1d (D:bd B24 q) (hb:bd B24 z):Td [I q.x,I q.y,I q.z,I z.x,I z.y,I z.z]=some (ptR (B7 q z)):=Z7v (AR D (by decide)) (AR hb (by decide))
theorem Z62 (D:bd 67108864 q) (hb:bd 67108864 z):Qbb [I q.x,I q.y,I q.z,I z.x,I z.y,I z.z]=some (ptR ⟨q.x+z.x,q.y+z.y,q.z+z.z⟩):=by
 unfold Qbb;unfold bd at*;rw[Zfy,Ae (x:=q.x+z.x),Ae (x:=q.y+z.y),Ae (x:=q.z+z.z)]
theorem Z4c {p c q:Pt} (D:W [I p.x,I p.y,I p.z,I c.x,I c.y,I c.z]=some (ptR (B7 p c))) (G:W [I q.x,I q.y,I q.z,I c.x,I c.y,I c.z]=some (ptR (B7 q c)))
  (L:Z [I (B7 p c).x,I (B7 p c).y,I (B7 p c).z,I (B7 q c).x,I (B7 q c).y,I (B7 q c).z]=some (ptR (D8 p c q))) (N:M [I (D8 p c q).x,I (D8 p c q).y,I (D8 p c q).z,I 0,I 0,I 0]=some [I (De p c q)]):
  Qa0 M Z W [I p.x,I p.y,I p.z,I c.x,I c.y,I c.z,I q.x,I q.y,I q.z]=some [I (De p c q)]:=by
 rw[Yc7];simp only[go_sem,D,G,L,N]
theorem Yat {p c q:Pt} (G:bd B24 p) (D:bd B24 c) (L:bd B24 q):UX [I p.x,I p.y,I p.z,I c.x,I c.y,I c.z,I q.x,I q.y,I q.z]=some [I (De p c q)]:=by
 refine Z4c (Q1d G D) (Q1d L D) (Z62 (AR (Qu9 G D) (by decide)) (AR (Qu9 L D) (by decide))) ?_;have h:=Zc8 (a:=D8 p c q) (b:=⟨0,0,0⟩) (Q03 G D L) (by unfold bd;simp);have e:sqD (D8 p c q) ⟨0,0,0⟩=De p c q:=by unfold sqD B7 De;simp
 rw[e]at h;exact h
def He (a c b:Pt) (D d:Int):Prop:=d<=mn (AB a c) (AB c b)-2/\De (BN c a d) c (BN c b d)<=16*D*D
theorem Vr (x y:Int):mn x y<=x/\mn x y<=y:=by unfold mn;split<;>omega
theorem Zin (a b:Pt):sqD a b=sqD b a:=by
 unfold sqD;exact Z9i a b
theorem Tv (a b:Pt):AB a b=AB b a:=by unfold AB;rw[Zin]
open Classical in
noncomputable def FH (P:Int->Prop):Nat->Int->Int
 |0,d=>if P (d+1)then d+1 else d
 |k+1,d=>FH P k (if P (d+((2^(k+1):Nat):Int))then d+((2^(k+1):Nat):Int)else d)
open Classical in
theorem Q2t {P:Int->Prop}:∀(k:Nat) (d:Int),d<=FH P k d/\FH P k d<d+((2^(k+1):Nat):Int)/\(FH P k d=d\/P (FH P k d))
 |0,d=>by
  have e:((2^(0+1):Nat):Int)=2:=rfl;rw[e];unfold FH;split
  ·rename_i h;exact⟨by omega,by omega, .inr h⟩
  ·exact⟨by omega,by omega, .inl rfl⟩
 |k+1,d=>by
  unfold FH;have M:0<2^(k+1):=ez _;have e3:2^(k+1+1)=2^(k+1)+2^(k+1):=by rw[ia 2 (k+1)];omega
  rw[e3];have D:(if P (d+((2^(k+1):Nat):Int))then d+((2^(k+1):Nat):Int)else d)=d\/((if P (d+((2^(k+1):Nat):Int))then d+((2^(k+1):Nat):Int)else d)=d+((2^(k+1):Nat):Int)/\P (if P (d+((2^(k+1):Nat):Int))then d+((2^(k+1):Nat):Int)else d)):=by
   split
   ·rename_i h;exact .inr ⟨rfl,h⟩
   ·exact .inl rfl
  generalize(if P (d+((2^(k+1):Nat):Int))then d+((2^(k+1):Nat):Int)else d)=I at*;obtain⟨N,O,G⟩:=Q2t (P:=P) k I;generalize FH P k I=x at*;generalize 2^(k+1)=m at*;rcases D with D|⟨D,L⟩
  ·subst D;exact⟨by omega,by omega,G⟩
  ·refine⟨by omega,by omega, .inr ?_⟩;rcases G with G|G
   ·rw[G];exact L
   ·exact G
open Classical in
noncomputable def Dn (a c b:Pt) (D:Int):Int:=if a=c\/b=c then 0 else if FH (He a c b D) 24 0<16 then 0 else FH (He a c b D) 24 0
theorem Qph {a c b:Pt} (h:Dn a c b k≠0):a≠c/\b≠c/\16<=Dn a c b k/\Dn a c b k<33554432/\He a c b k (Dn a c b k):=by
 unfold Dn at*;split at h
 ·exact absurd rfl h
 ·rename_i G;rw[ab G];split at h
  ·exact absurd rfl h
  ·rename_i I;rw[ab I];obtain⟨M,L,D⟩:=Q2t (P:=He a c b k) 24 0;have e:((2^(24+1):Nat):Int)=33554432:=rfl;rw[e]at L;refine⟨λh=>G (.inl h),λh=>G (.inr h),by omega,by omega,?_⟩;rcases D with D|D
   ·omega
   ·exact D
theorem D0:q=z↔q.x=z.x/\q.y=z.y/\q.z=z.z:=by
 obtain⟨a1,a2,a3⟩:=q;obtain⟨b1,b2,b3⟩:=z;simp
def Li (D:Int):Nat->Int->Int
 |0,n=>n
 |k+1,n=>if n<64/\D>16*n*n*n*n*4*4 then Li D k (n*2)else n
def I_ (n:Int):Prop:=n=2\/n=4\/n=8\/n=16\/n=32\/n=64
theorem Zfv {p c q:Pt} (U:M [I p.x,I p.y,I p.z,I c.x,I c.y,I c.z,I q.x,I q.y,I q.z]=some [I (De p c q)]):
  ∀(k:Nat) (n:Int),I_ n->64<=n*2^k->Am (PX M) [I n,I p.x,I p.y,I p.z,I c.x,I c.y,I c.z,I q.x,I q.y,I q.z]=some (1,[I (Li (De p c q) k n)])/\I_ (Li (De p c q) k n):=by
 have L:∀n:Int,I_ n->PX M [I n,I p.x,I p.y,I p.z,I c.x,I c.y,I c.z,I q.x,I q.y,I q.z]=if n<64/\De p c q>16*n*n*n*n*4*4 then some (0,[I (n*2),I p.x,I p.y,I p.z,I c.x,I c.y,I c.z,I q.x,I q.y,I q.z])else some (1,[I n]):=by
  intro n D;rw[Zmv];simp only[go_sem,U];have S:V (V (V (V (V (V (16*n)*n)*n)*n)*4)*4)=16*n*n*n*n*4*4/\V (n*2)=n*2:=by
   rcases D with rfl|rfl|rfl|rfl|rfl|rfl<;>decide
  rw[S.1,S.2];by_cases N:n<64
  ·rw[aa N];by_cases O:De p c q>16*n*n*n*n*4*4
   ·rw[aa O,aa ⟨N,O⟩]
   ·rw[ab O,ab (λh=>O h.2)]
  ·rw[ab N,ab (λh=>N h.1)]
 intro k;induction k with
 |zero=>
  intro n D G;have:n=64:=by rcases D with rfl|rfl|rfl|rfl|rfl|rfl<;>simp at G⊢
  subst this;refine⟨AQ ?_ (by simp),D⟩;rw[L _ D,ab];rfl
 |succ k X=>
  intro n D G;unfold Li;by_cases h:n<64/\De p c q>16*n*n*n*n*4*4
  ·rw[aa h];have T:=L n D;rw[aa h]at T;rw[A5 T];refine X (n*2) ?_ ?_
   ·rcases D with rfl|rfl|rfl|rfl|rfl|rfl<;>simp[I_]at h⊢
   ·rw[Int.pow_succ]at G;rw[Int.mul_assoc,ja 2];exact G
  ·rw[ab h];refine⟨AQ ?_ (by simp),D⟩;rw[L _ D,ab h]
def Ks (p c q:Pt):Int:=Li (De p c q) 5 2
theorem WD {p c q:Pt} (D:bd B24 p) (G:bd B24 c) (L:bd B24 q):Zfn [I p.x,I p.y,I p.z,I c.x,I c.y,I c.z,I q.x,I q.y,I q.z]=some [I (Ks p c q)]/\I_ (Ks p c q):=by
 obtain⟨N,O⟩:=Zfv (Yat D G L) 5 2 (.inl rfl) (by decide);refine⟨?_,O⟩;show XQ _ (Am (PX _)) _=_;generalize UX=M at*;rw[Z0n];simp only[go_sem,N];rfl
def OG (n i p c q:Int):Int:=c+Bh ((n-i)*(n-i)*(p-c)+i*i*(q-c)) (n*n)
def On (n i:Int) (p c q:Pt):Pt:=⟨OG n i p.x c.x q.x,OG n i p.y c.y q.y,OG n i p.z c.z q.z⟩
theorem Ss {a b n:Int} (D:0<n) (h:a<=b):Bh a n<=Bh b n:=by
 unfold Bh;exact Int.ediv_le_ediv (by omega) (by omega)
theorem UQ {k n:Int} (D:0<n):Bh (k*n) n=k:=LM D (by rw[show k*(2*n)=2*(k*n) by grind];omega) (by rw[show(k+1)*(2*n)=2*(k*n)+2*n by grind];omega)
theorem NE {n i p c q:Int} (I:0<n) (L:0<=i/\i<=n) (hp:p.natAbs<=A) (hc:c.natAbs<=A) (hq:q.natAbs<=A):(OG n i p c q).natAbs<=A:=by
 have D:0<n*n:=Int.mul_pos I I;have M:0<=(n-i)*(n-i):=Fx _;have N:0<=i*i:=Fx _;have O:(n-i)*(n-i)+i*i<=n*n:=by
  have:n*n-((n-i)*(n-i)+i*i)=2*(i*(n-i)):=by grind
  have:0<=i*(n-i):=fq L.1 (by omega);omega
 have key:∀s:Int,(s=1\/s= -1)->s*((n-i)*(n-i)*(p-c)+i*i*(q-c))<=(A-s*c)*(n*n):=by
  intro s G;have S:s*p<=A:=by rcases G with rfl|rfl<;>omega
  have T:s*c<=A:=by rcases G with rfl|rfl<;>omega
  have U:s*q<=A:=by rcases G with rfl|rfl<;>omega
  have g1:(n-i)*(n-i)*(s*p-s*c)<=(n-i)*(n-i)*(A-s*c):=Int.mul_le_mul_of_nonneg_left (by omega) M;have g2:i*i*(s*q-s*c)<=i*i*(A-s*c):=Int.mul_le_mul_of_nonneg_left (by omega) N;have g3:((n-i)*(n-i)+i*i)*(A-s*c)<=n*n*(A-s*c):=ew O (by omega);have e1:s*((n-i)*(n-i)*(p-c)+i*i*(q-c))=(n-i)*(n-i)*(s*p-s*c)+i*i*(s*q-s*c):=by grind
  have e2:((n-i)*(n-i)+i*i)*(A-s*c)=(n-i)*(n-i)*(A-s*c)+i*i*(A-s*c):=js ..;have e3:(A-s*c)*(n*n)=n*n*(A-s*c):=ja ..;omega
 unfold OG;have V:=Ss D (key 1 (.inl rfl)|>λh=>(by rw[i8,i8]at h;exact h));rw[UQ D]at V;have k2:=key (-1) (.inr rfl);have X:(-(A:Int)-c)*(n*n)<=(n-i)*(n-i)*(p-c)+i*i*(q-c):=by
  have e:(-(A:Int)-c)*(n*n)= -((A- -1*c)*(n*n)):=by grind
  omega
 have Y:=Ss D X;rw[UQ D]at Y;omega
noncomputable def F6 (a c b:Pt) (D:Int):List Pt:=
 if Dn a c b D=0 then [c]
 else(List.range ((Ks (BN c a (Dn a c b D)) c (BN c b (Dn a c b D))).toNat+1)).map fun(i:Nat)=>On (Ks (BN c a (Dn a c b D)) c (BN c b (Dn a c b D))) i (BN c a (Dn a c b D)) c (BN c b (Dn a c b D))
theorem Q1q {a c b:Pt} (M:bd B24 a) (D:bd B24 c) (hb:bd B24 b):(∀p∈F6 a c b k,bd B24 p)/\1<=(F6 a c b k).length/\(F6 a c b k).length<=65:=by
 unfold F6;by_cases h:Dn a c b k=0
 ·rw[aa h];simp;exact D
 ·rw[ab h];obtain⟨N,O,T,U,V,-⟩:=Qph h;obtain⟨m1,m2⟩:=Vr (AB a c) (AB c b);generalize Dn a c b k=d at*;have G:bd B24 (BN c a d):=K5 D M N (by omega);have I:bd B24 (BN c b d):=K5 D hb O (by rw[Tv b c];omega);have S:=(WD G D I).2;generalize Ks (BN c a d) c (BN c b d)=n at*;have X:2<=n/\n<=64:=by rcases S with rfl|rfl|rfl|rfl|rfl|rfl<;>omega
  refine⟨?_,by simp,by simp;omega⟩;intro p L;simp only[av,List.mem_range]at L;obtain⟨i,Y,rfl⟩:=L;exact⟨NE (by omega) (by omega) G.1 D.1 I.1,NE (by omega) (by omega) G.2.1 D.2.1 I.2.1,NE (by omega) (by omega) G.2.2 D.2.2 I.2.2⟩
theorem Ra {v n:Int} (_:i64 v) (D:0<n/\n<=4611686018427387904):GC [I v,I n]=some [I (v%n)]:=by
 unfold GC;rw[Zvh,A1 (by omega),A1 (by omega)];have N: -n<v.tmod n/\v.tmod n<n:=by
  have a1:=Int.tmod_lt_of_pos v D.1;have a2:=Int.lt_tmod_of_pos v D.1;omega
 rw[Ae];have G:(v.tmod n+n).tmod n=v%n:=by
  rw[iv (by omega),Int.add_emod_right];have L:=Int.tmod_add_mul_tdiv v n;have M:v%n=(v.tmod n+n*v.tdiv n)%n:=by rw[L]
  rw[M,Int.add_mul_emod_self_left]
 rw[G]
def Src (l:Rw):Prop:=l.length<=9223372036854775807/\∀c∈l,i64 (Af (nth .vD c 0))
theorem Zui (h:i<l.length):nth [] l i∈l:=by rw[Gb [] l i h];exact cd h
theorem Z1b (L:∀v n:Int,i64 v->0<n/\n<=4611686018427387904->M [I v,I n]=some [I (v%n)]) {l:Rw} (G:Src l) {k:Nat} {n:Int} (D:0<n/\n<=4611686018427387904):
  ∃(v:Int) (k':Nat),Qov M [I n, .vC Aa l,I k]=some [I v, .vC Aa l,I k']/\0<=v/\v<n/\k<=k'/\(k<l.length->k'=k+1)/\(l.length<=k->k'=k):=by
 have N:=G.1;rw[Z0h];by_cases h:k<l.length
 ·have O:=L _ n (G.2 _ (Zui h)) D;simp only[go_sem,al,O];rw[ab,aa,Ae];exact⟨_,k+1,rfl,jd _ (by omega),ij _ D.1,by omega,λ_=>rfl,by omega⟩
 ·simp only[go_sem];rw[aa];exact⟨0,k,rfl,by omega,D.1,by omega,by omega,λ_=>rfl⟩
theorem Yay (G:Src l) (k:Nat) {n:Int} (D:0<n/\n<=4611686018427387904):
  ∃(v:Int) (k':Nat),BD [I n, .vC Aa l,I k]=some [I v, .vC Aa l,I k']/\0<=v/\v<n/\k<=k'/\(k<l.length->k'=k+1)/\(l.length<=k->k'=k):=
 Z1b (λ_ _ L D=>Ra L D) G D
theorem Qvy (l:Rw) (k:Nat):FY [.vC Aa l,I k]=some [B (decide (k<l.length)), .vC Aa l,I k]:=by
 unfold FY;rw[Zhp];congr 3;simp
theorem QM (l:Rw):Cu [.vC Aa l]=some [.vC Aa l,I 0]:=by
 unfold Cu;rw[Zsa]
def AS (r:Int) (k:Int):Int:=if k%4=0 then r else if k%4=2 then-r else 0
def AT (r:Int) (k:Int):Int:=if k%4=1 then r else if k%4=3 then-r else 0
theorem Yc8 (L:0<=r/\r<=1000000) (D:0<=k/\k<=1000):O4 [I r,I k]=some [I (AS r k),I (AT r k)]:=by
 unfold O4;rw[Zzj,Ae,iv D.1];have G:k%4=0\/k%4=1\/k%4=2\/k%4=3:=by omega
 unfold AS AT;rcases G with h|h|h|h<;>rw[h]<;>simp[nth,Af]
def plU (pl:Int) (p:Pt):Int:=if pl=17 then p.x else if pl=18 then p.z else p.y
def plW (pl:Int) (p:Pt):Int:=if pl=17 then p.y else if pl=18 then p.x else p.z
def plH (pl:Int) (p:Pt):Int:=if pl=17 then p.z else if pl=18 then p.y else p.x
def spP (pl u w h:Int):Pt:=if pl=17 then⟨u,w,h⟩else if pl=18 then⟨w,h,u⟩else⟨h,u,w⟩
def C8 (pl:Int):Prop:=pl=17\/pl=18\/pl=19
theorem Z07 (h:C8 a):Od [I q.x,I q.y,I q.z,I a]=some [I (plU a q),I (plW a q),I (plH a q)]:=by
 unfold Od;rw[Zrn];rcases h with rfl|rfl|rfl<;>rfl
theorem Ycl {u w h pl:Int} (D:C8 pl):Oy [I u,I w,I h,I pl]=some (ptR (spP pl u w h)):=by
 unfold Oy;rw[Yag];rcases D with rfl|rfl|rfl<;>rfl
theorem NZ {pl u w h:Int} (D:C8 pl):plU pl (spP pl u w h)=u/\plW pl (spP pl u w h)=w/\plH pl (spP pl u w h)=h:=by
 rcases D with rfl|rfl|rfl<;>exact⟨rfl,rfl,rfl⟩
structure ArcMade (size : Int) (it : Itm) : Prop where
 aP:it.aP=3
 aG:C8 it.aG
 dir:it.dir=1\/it.dir= -1
 ends:∃r k t g h:Int,8<=r/\r<8+size/\0<=k/\k<=3/\0<=t/\t<=3/\0<=g/\g<=4/\(h=0\/h=7\/h= -12)/\(t=0->g=0)/\it.bI=decide (t=0)/\
  it.ce=spP it.aG (plU it.aG it.fr-AS r k) (plW it.aG it.fr-AT r k) (plH it.aG it.fr)/\
  it.to=spP it.aG (plU it.aG it.fr-AS r k+AS (r+g) (k+t)) (plW it.aG it.fr-AT r k+AT (r+g) (k+t)) (plH it.aG it.fr+h)
theorem PC (D:0<=r):(-r<=AS r k/\AS r k<=r)/\(-r<=AT r k/\AT r k<=r):=by
 unfold AS AT;constructor<;>constructor<;>split<;>(try split)<;>omega
theorem Zex (I:1<=r) (k:Int):((AS r k).tdiv r=AS 1 k)/\((AT r k).tdiv r=AT 1 k):=by
 have D:r.tdiv r=1:=Int.tdiv_self (by omega);have G:(-r).tdiv r= -1:=by rw[Int.neg_tdiv,D]
 unfold AS AT;constructor<;>split<;>(try split)<;>simp[D,G]
theorem Z9u (r k e f:Int):∃g,(g=e\/g=f)/\AS r k+AS 1 k*e=AS (r+g) k/\AT r k+AT 1 k*f=AT (r+g) k:=by
 unfold AS AT;by_cases h:k%4=0\/k%4=2
 ·refine⟨e, .inl rfl,?_,?_⟩
  ·rcases h with h|h<;>simp[h]<;>omega
  ·rcases h with h|h<;>simp[h]
 ·have D:k%4=1\/k%4=3:=by omega
  refine⟨f, .inr rfl,?_,?_⟩
  ·rcases D with h|h<;>simp[h]
  ·rcases D with h|h<;>simp[h]<;>omega
theorem HY {pl:Int} (h:bd i q):(plU pl q).natAbs<=i/\(plW pl q).natAbs<=i/\(plH pl q).natAbs<=i:=by
 obtain⟨D,G,I⟩:=h;unfold plU plW plH;refine⟨?_,?_,?_⟩<;>split<;>(try split)<;>assumption
def GN (l:Rw) (M:Fn):Prop:=∀(k:Nat) {n:Int},0<n/\n<=4611686018427387904->
  ∃(v:Int) (k':Nat),M [I n, .vC Aa l,I k]=some [I v, .vC Aa l,I k']/\0<=v/\v<n/\k<=k'/\(k<l.length->k'=k+1)/\(l.length<=k->k'=k)
abbrev F_ (it:Itm):Prop:=it.block=0/\it.side=0/\it.radius=0/\it.aS=0/\it.on=false
theorem Z66 (h:0<=v/\v<3):Af (nth .vD (nth [] [[I 17],[I 18],[I 19]] v.toNat) 0)=17+v:=by
 have D:v=0\/v=1\/v=2:=by omega
 rcases D with rfl|rfl|rfl<;>rfl
theorem Q4q (h:0<=v/\v<4):∃x,Af (nth .vD (nth [] [[I 0],[I 0],[I 7],[I (-12)]] v.toNat) 0)=x/\(x=0\/x=7\/x= -12):=by
 have D:v=0\/v=1\/v=2\/v=3:=by omega
 rcases D with rfl|rfl|rfl|rfl<;>exact⟨_,rfl,by decide⟩
theorem Zgc (T:GN l S)
  (hP:∀{p:Pt} {pl:Int},C8 pl->W [I p.x,I p.y,I p.z,I pl]=some [I (plU pl p),I (plW pl p),I (plH pl p)])
  (hS:∀{u w h pl:Int},C8 pl->M [I u,I w,I h,I pl]=some (ptR (spP pl u w h)))
  (hT:∀{r k:Int},(0<=r/\r<=1000000)->(0<=k/\k<=1000)->Z [I r,I k]=some [I (AS r k),I (AT r k)])
  {p:Pt} (hp:bd 100000000 p) {size:Int} (hs:0<size/\size<=100000) (k:Nat):
  ∃(it:Itm) (k':Nat),Qj8 M Z W S [I p.x,I p.y,I p.z,I size, .vC Aa l,I k]=some (Ah it++[.vC Aa l,I k'])/\k<=k'/\it.fr=p/\ArcMade size it/\
   it.aZ=0/\it.perRev=false/\it.bJ=0/\it.n=0/\F_ it:=by
 obtain⟨N,k1,e1,a1,b1,c1,-,-⟩:=T k (n:=3) (by omega);obtain⟨v2,k2,e2,a2,b2,c2,-,-⟩:=T k1 (n:=2) (by omega);obtain⟨G,k3,e3,a3,b3,c3,-,-⟩:=T k2 (n:=size) (by omega);obtain⟨D,k4,e4,a4,b4,c4,-,-⟩:=T k3 (n:=4) (by omega);obtain⟨L,k5,e5,a5,b5,c5,-,-⟩:=T k4 (n:=4) (by omega);rw[Z1c];simp only[go_sem,e1,e2,e3,e4,e5];rw[aa (by simp;omega)];have a0:C8 (17+N):=by unfold C8;omega
 have w1:V (8+G)=8+G:=Ae;have w2:V (D+L)=D+L:=Ae;simp only[Z66 ⟨a1,b1⟩,hP a0,go_sem,w1,w2,hT (r:=8+G) (k:=D) (by omega) (by omega),hT (r:=8+G) (k:=D+L) (by omega) (by omega),hS a0];obtain⟨q1,q2,q3⟩:=HY (pl:=17+N) hp;obtain⟨⟨r1,r2⟩,r3,r4⟩:=PC (r:=8+G) (k:=D) (by omega);obtain⟨⟨r5,r6⟩,r7,r8⟩:=PC (r:=8+G) (k:=D+L) (by omega);obtain⟨d1,d2⟩:=Zex (r:=8+G) (by omega) (D+L);obtain⟨⟨r9,f4⟩,f5,g0⟩:=PC (r:=1) (k:=D+L) (by omega);have w3:V (plU (17+N) p-AS (8+G) D)=plU (17+N) p-AS (8+G) D:=Ae;have w4:V (plW (17+N) p-AT (8+G) D)=plW (17+N) p-AT (8+G) D:=Ae;have w5:V (1-V (v2*2))=1-v2*2:=by rw[Ae (x:=v2*2),Ae]
 have w6:V (plU (17+N) p-AS (8+G) D+AS (8+G) (D+L))=plU (17+N) p-AS (8+G) D+AS (8+G) (D+L):=Ae;have w7:V (plW (17+N) p-AT (8+G) D+AT (8+G) (D+L))=plW (17+N) p-AT (8+G) D+AT (8+G) (D+L):=Ae;rw[w3,w4,w5,w6,w7];have d0:1-v2*2=1\/1-v2*2= -1:=by omega
 have fin:∀(g:Int) (u w:Int) (k8:Nat),k5<=k8->0<=g->g<=4->(L=0->g=0)->u=AS (8+G+g) (D+L)->w=AT (8+G+g) (D+L)->∀O:Int,0<=O/\O<4->
   ∃it:Itm,[I 3,I 0,I p.x,I p.y,I p.z,I (spP (17+N) (plU (17+N) p-AS (8+G) D+u) (plW (17+N) p-AT (8+G) D+w) (plH (17+N) p+Af (nth .vD (nth [] [[I 0],[I 0],[I 7],[I (-12)]] O.toNat) 0))).x,
    I (spP (17+N) (plU (17+N) p-AS (8+G) D+u) (plW (17+N) p-AT (8+G) D+w) (plH (17+N) p+Af (nth .vD (nth [] [[I 0],[I 0],[I 7],[I (-12)]] O.toNat) 0))).y,
    I (spP (17+N) (plU (17+N) p-AS (8+G) D+u) (plW (17+N) p-AT (8+G) D+w) (plH (17+N) p+Af (nth .vD (nth [] [[I 0],[I 0],[I 7],[I (-12)]] O.toNat) 0))).z,
    I (17+N),I (spP (17+N) (plU (17+N) p-AS (8+G) D) (plW (17+N) p-AT (8+G) D) (plH (17+N) p)).x,I (spP (17+N) (plU (17+N) p-AS (8+G) D) (plW (17+N) p-AT (8+G) D) (plH (17+N) p)).y,I (spP (17+N) (plU (17+N) p-AS (8+G) D) (plW (17+N) p-AT (8+G) D) (plH (17+N) p)).z,
    I (1-v2*2),B (decide (L=0)),I 0,B false,I 0,I 0,I 0,I 0,I 0,B false, .vC Aa l,I k8]=Ah it++[.vC Aa l,I k8]/\it.fr=p/\ArcMade size it/\it.aZ=0/\it.perRev=false/\it.bJ=0/\it.n=0/\F_ it:=by
  intro g u w k8 g1 f0 f1 f2 hu hw O b0;obtain⟨x,hx,d3⟩:=Q4q b0;rw[hx];refine⟨⟨3,0,p,_,17+N,_,1-v2*2,decide (L=0),0,false,0,0,0,0,0,false⟩,rfl,rfl,⟨rfl,a0,d0,8+G,D,L,g,x,?_⟩,rfl,rfl,rfl,rfl,rfl,rfl,rfl,rfl,rfl⟩;subst hu hw;exact⟨by omega,by omega,by omega,by omega,by omega,by omega,f0,f1,d3,f2,rfl,rfl,rfl⟩
 have c0:∀O:Int,0<=O/\O<4->V (plH (17+N) p+Af (nth .vD (nth [] [[I 0],[I 0],[I 7],[I (-12)]] O.toNat) 0))=plH (17+N) p+Af (nth .vD (nth [] [[I 0],[I 0],[I 7],[I (-12)]] O.toNat) 0):=by
  intro O b0;obtain⟨x,hx,d3⟩:=Q4q b0;rw[hx];exact Ae
 have f3:(L==0)=decide (L=0):=rfl;by_cases d4:L>0
 ·rw[aa d4];obtain⟨v6,k6,e6,a6,b6,c6,-,-⟩:=T k5 (n:=3) (by omega);simp only[go_sem,e6];by_cases d5:v6=0
  ·rw[aa d5,ab];obtain⟨v7,k7,e7,a7,b7,c7,-,-⟩:=T k6 (n:=5) (by omega);obtain⟨v8,k8,e8,a8,b8,c8,-,-⟩:=T k7 (n:=5) (by omega);obtain⟨O,U,e9,X,Y,c9,-,-⟩:=T k8 (n:=4) (by omega);simp only[go_sem,e7,e8,e9];rw[ab,aa (by simp;omega),c0 O ⟨X,Y⟩,d1,d2];obtain⟨g,hg,hu,hw⟩:=Z9u (8+G) (D+L) v7 v8;have mu: -4<=AS 1 (D+L)*v7/\AS 1 (D+L)*v7<=4:=by
    have hc:AS 1 (D+L)= -1\/AS 1 (D+L)=0\/AS 1 (D+L)=1:=by omega
    rcases hc with h|h|h<;>rw[h]<;>omega
   have mw: -4<=AT 1 (D+L)*v8/\AT 1 (D+L)*v8<=4:=by
    have hc:AT 1 (D+L)= -1\/AT 1 (D+L)=0\/AT 1 (D+L)=1:=by omega
    rcases hc with h|h|h<;>rw[h]<;>omega
   rw[Ae (x:=AS 1 (D+L)),Ae (x:=AT 1 (D+L)),Ae (x:=AS 1 (D+L)*v7),Ae (x:=AT 1 (D+L)*v8),
    Ae (x:=AS (8+G) (D+L)+_),Ae (x:=AT (8+G) (D+L)+_),hu,hw]
   obtain⟨⟨s1,s2⟩,s3,s4⟩:=PC (r:=8+G+g) (k:=D+L) (by omega);rw[Ae (x:=_+AS (8+G+g) (D+L)),Ae (x:=_+AT (8+G+g) (D+L))];obtain⟨it,h1,h2⟩:=fin g _ _ U (by omega) (by omega) (by omega) (by omega) rfl rfl O ⟨X,Y⟩;refine⟨it,U,?_,by omega,h2⟩;exact ii some h1
  ·rw[ab d5];obtain⟨O,U,e9,X,Y,c9,-,-⟩:=T k6 (n:=4) (by omega);simp only[go_sem,e9];rw[aa (by simp;omega),c0 O ⟨X,Y⟩];obtain⟨it,h1,h2⟩:=fin 0 _ _ U (by omega) (by omega) (by omega) (by omega) (by rw[jk]) (by rw[jk]) O ⟨X,Y⟩;refine⟨it,U,?_,by omega,h2⟩;exact ii some h1
 ·rw[ab d4];obtain⟨O,U,e9,X,Y,c9,-,-⟩:=T k5 (n:=4) (by omega);simp only[go_sem,e9];rw[aa (by simp;omega),c0 O ⟨X,Y⟩];obtain⟨it,h1,h2⟩:=fin 0 _ _ U (by omega) (by omega) (by omega) (by omega) (by rw[jk]) (by rw[jk]) O ⟨X,Y⟩;refine⟨it,U,?_,by omega,h2⟩;exact ii some h1
theorem Hv (D:Src l):GN l BD:=λk _ G=>Yay D k G
theorem Z6u (D:Src l) {p:Pt} (G:bd 100000000 p) {size:Int} (L:0<size/\size<=100000) (k:Nat):
  ∃(it:Itm) (k':Nat),QD [I p.x,I p.y,I p.z,I size, .vC Aa l,I k]=some (Ah it++[.vC Aa l,I k'])/\k<=k'/\it.fr=p/\ArcMade size it/\
   it.aZ=0/\it.perRev=false/\it.bJ=0/\it.n=0/\F_ it:=
 Zgc (Hv D) Z07 Ycl Yc8 G L k
structure Made (it : Itm) : Prop where
 aP:1<=it.aP/\it.aP<=6
 line:it.aP≠3->(it.to.x-it.fr.x).natAbs<=16/\(it.to.y-it.fr.y).natAbs<=16/\(it.to.z-it.fr.z).natAbs<=16
 arc:it.aP=3->ArcMade 8 it
 aZ:it.aP≠1->1<=it.aZ/\it.aZ<=60000000
 bJ:0<=it.bJ/\it.bJ<=9
 sync:it.aP=5\/it.aP=6->it.bJ=0/\it.aZ<=60
 free:it.aP<=4->it.perRev=false
 bI:it.aP≠3->it.bI=false
theorem Q98 (h:0<=v/\v<5):∃x,Af (nth .vD (nth [] [[I 300000],[I 1],[I 60000],[I 2000000],[I 60000000]] v.toNat) 0)=x/\1<=x/\x<=60000000:=by
 have D:v=0\/v=1\/v=2\/v=3\/v=4:=by omega
 rcases D with rfl|rfl|rfl|rfl|rfl<;>exact⟨_,rfl,by decide⟩
theorem Q69 (h:0<=v/\v<5):∃x,Af (nth .vD (nth [] [[I 0],[I 1],[I 2],[I 4],[I 9]] v.toNat) 0)=x/\0<=x/\x<=9:=by
 have D:v=0\/v=1\/v=2\/v=3\/v=4:=by omega
 rcases D with rfl|rfl|rfl|rfl|rfl<;>exact⟨_,rfl,by decide⟩
theorem Ydq {it:Itm} (h:ArcMade a it) (f b:Int) (pr:Bool) (n:Int):ArcMade a {it with aZ:=f,bJ:=b,perRev:=pr,n:=n}:=⟨h.aP,h.aG,h.dir,h.ends⟩
theorem Z3i (D:GN l Z)
  (hA:∀{p:Pt},bd 100000000 p->∀k:Nat,∃(it:Itm) (k':Nat),M [I p.x,I p.y,I p.z,I 8, .vC Aa l,I k]=some (Ah it++[.vC Aa l,I k'])/\k<=k'/\it.fr=p/\ArcMade 8 it/\it.aZ=0/\it.perRev=false/\it.bJ=0/\it.n=0/\F_ it)
  {p:Pt} (hp:bd 100000000 p) {aP:Int} (hk:1<=aP/\aP<=6) (k:Nat):
  ∃(it:Itm) (k':Nat),V5 Z M [I p.x,I p.y,I p.z,I aP, .vC Aa l,I k]=some (Ah it++[.vC Aa l,I k'])/\k<=k'/\it.fr=p/\it.aP=aP/\Made it/\F_ it:=by
 rw[Z3s];obtain⟨d1,d2,d3⟩:=hp;by_cases h3:aP=3
 ·subst h3;obtain⟨it,k1,e1,c1,g1,g2,g3,g4,g5,g6,g7,g8,g9,g10,g11⟩:=hA ⟨d1,d2,d3⟩ k;obtain⟨G,k2,e2,a2,b2,c2,-,-⟩:=D k1 (n:=5) (by omega);obtain⟨L,k3,e3,a3,b3,c3,-,-⟩:=D k2 (n:=5) (by omega);simp only[go_sem,e1,Ah,ba,ax,e2,e3];rw[ab,aa (by simp;omega),aa (by simp;omega),ab,ab,ab];obtain⟨f,hf,Y,a0⟩:=Q98 ⟨a2,b2⟩;obtain⟨b,hb,b0,c0⟩:=Q69 ⟨a3,b3⟩;rw[hf,hb];have N:=g2.aP;refine⟨{it with aZ:=f,bJ:=b,perRev:=it.perRev,n:=it.n},k3,rfl,by omega,g1,N,⟨?_,?_,?_,?_,?_,?_,?_,?_⟩,g7,g8,g9,g10,g11⟩
  ·show 1<=it.aP/\it.aP<=6;omega
  ·exact λh=>absurd N h
  ·exact λ_=>Ydq g2 f b _ _
  ·exact λ_=>⟨Y,a0⟩
  ·exact⟨b0,c0⟩
  ·intro h;change it.aP=5\/it.aP=6 at h;omega
  ·exact λ_=>g4
  ·exact λh=>absurd N h
 ·simp only[go_sem];rw[ab h3];obtain⟨O,k1,e1,a1,b1,c1,-,-⟩:=D k (n:=25) (by omega);obtain⟨G,k2,e2,a2,b2,c2,-,-⟩:=D k1 (n:=25) (by omega);obtain⟨L,k3,e3,a3,b3,c3,-,-⟩:=D k2 (n:=3) (by omega);obtain⟨v4,k4,e4,a4,b4,c4,-,-⟩:=D k3 (n:=9) (by omega);obtain⟨S,k5,e5,a5,b5,c5,-,-⟩:=D k4 (n:=2) (by omega);simp only[go_sem,e1,e2,e3,e4,e5];have hm:0<=L*v4/\L*v4<=16:=by
   have hc:L=0\/L=1\/L=2:=by omega
   rcases hc with rfl|rfl|rfl<;>omega
  generalize L*v4=m at hm;have w1:V (V (p.x+O)-12)=p.x+O-12:=by rw[Ae (x:=p.x+O),Ae]
  have w2:V (V (p.y+G)-12)=p.y+G-12:=by rw[Ae (x:=p.y+G),Ae]
  have w3:V (V (p.z+V m)-V (8*S))=p.z+m-8*S:=by
   rw[Ae (x:=m),Ae (x:=p.z+m),Ae (x:=8*S),Ae]
  rw[w1,w2,w3]
  have mk:∀(f b n:Int) (pr:Bool),(aP≠1->1<=f/\f<=60000000)->(0<=b/\b<=9)->(aP=5\/aP=6->b=0/\f<=60)->(aP<=4->pr=false)->
    ∃it:Itm,Ah it=[I aP,I 0,I p.x,I p.y,I p.z,I (p.x+O-12),I (p.y+G-12),I (p.z+m-8*S),I 0,I 0,I 0,I 0,I 0,B false,I f,B pr,I 0,I 0,I b,I n,I 0,B false]/\it.fr=p/\it.aP=aP/\Made it/\F_ it:=by
   intro f b n pr T h2 U X;refine⟨⟨aP,0,p,⟨p.x+O-12,p.y+G-12,p.z+m-8*S⟩,0,⟨0,0,0⟩,0,false,f,pr,0,0,b,n,0,false⟩,rfl,rfl,rfl,⟨hk,λ_=> ?_,λh=>absurd h h3,T,h2,U,X,λ_=>rfl⟩,rfl,rfl,rfl,rfl,rfl⟩;show(p.x+O-12-p.x).natAbs<=16/\(p.y+G-12-p.y).natAbs<=16/\(p.z+m-8*S-p.z).natAbs<=16;omega
  have en:∀(f b n:Int) (pr:Bool) (k':Nat),k<=k'->(aP≠1->1<=f/\f<=60000000)->(0<=b/\b<=9)->(aP=5\/aP=6->b=0/\f<=60)->(aP<=4->pr=false)->
    ∃(it:Itm) (d0:Nat),some [I aP,I 0,I p.x,I p.y,I p.z,I (p.x+O-12),I (p.y+G-12),I (p.z+m-8*S),I 0,I 0,I 0,I 0,I 0,B false,I f,B pr,I 0,I 0,I b,I n,I 0,B false, .vC Aa l,I k']=some (Ah it++[.vC Aa l,I d0])/\k<=d0/\it.fr=p/\it.aP=aP/\Made it/\F_ it:=by
   intro f b n pr k' h0 T h2 U X;obtain⟨it,i1,i2⟩:=mk f b n pr T h2 U X;refine⟨it,k',?_,h0,i2⟩;rw[i1];rfl
  by_cases T:aP=1
  ·rw[aa T];exact en _ _ _ _ _ (by omega) (λh=>absurd T h) (by omega) (by omega) (λ_=>rfl)
  ·rw[ab T];obtain⟨v6,k6,e6,a6,b6,c6,-,-⟩:=D k5 (n:=5) (by omega);obtain⟨v7,k7,e7,a7,b7,c7,-,-⟩:=D k6 (n:=5) (by omega);obtain⟨v8,k8,e8,a8,b8,c8,-,-⟩:=D k7 (n:=60) (by omega);obtain⟨v9,k9,e9,a9,b9,c9,-,-⟩:=D k8 (n:=2) (by omega);simp only[go_sem,e6,e7,e8,e9];rw[aa (by simp;omega),aa (by simp;omega)];obtain⟨f,hf,Y,a0⟩:=Q98 ⟨a6,b6⟩;obtain⟨b,hb,b0,c0⟩:=Q69 ⟨a7,b7⟩;rw[hf,hb,Ae (x:=1+v8),Ae (x:=3+v9)];by_cases X:aP=5
   ·rw[aa X,ab];exact en _ _ _ _ _ (by omega) (by omega) (by omega) (by omega) (by omega)
   ·rw[ab X];by_cases h6:aP=6
    ·rw[aa h6,aa h6];exact en _ _ _ _ _ (by omega) (by omega) (by omega) (by omega) (by omega)
    ·rw[ab h6];by_cases U:aP=4
     ·rw[aa U];exact en _ _ _ _ _ (by omega) (by omega) (by omega) (by omega) (λ_=>rfl)
     ·rw[ab U];exact en _ _ _ _ _ (by omega) (by omega) (by omega) (by omega) (λ_=>rfl)
theorem Zwq (G:Src l) {p:Pt} (D:bd 100000000 p) {aP:Int} (L:1<=aP/\aP<=6) (k:Nat):
  ∃(it:Itm) (k':Nat),Lb [I p.x,I p.y,I p.z,I aP, .vC Aa l,I k]=some (Ah it++[.vC Aa l,I k'])/\k<=k'/\it.fr=p/\it.aP=aP/\Made it/\F_ it:=
 Z3i (Hv G) (λD k=>Z6u G D (by omega) k) D L k
theorem Qk3 {it:Itm} (h:ArcMade a it) (M:a<=1000) (hf:bd i it.fr):bd (i+2*(12+a.toNat)) it.to/\bd (i+8+a.toNat) it.ce:=by
 obtain⟨r,k,t,g,x,N,O,S,T,U,V,X,Y,h9,I,L,D,G⟩:=h.ends;obtain⟨q1,q2,q3⟩:=HY (pl:=it.aG) hf;obtain⟨⟨r1,r2⟩,r3,r4⟩:=PC (r:=r) (k:=k) (by omega);obtain⟨⟨r5,r6⟩,r7,r8⟩:=PC (r:=r+g) (k:=k+t) (by omega);rw[D,G];unfold bd spP;constructor<;>split<;>(try split)<;>refine⟨?_,?_,?_⟩<;>simp only<;>omega
theorem Qvr {it:Itm} (h:Made it) (hf:bd i it.fr):bd (i+40) it.to:=by
 by_cases D:it.aP=3
 ·exact AR (Qk3 (h.arc D) (by omega) hf).1 (by omega)
 ·obtain⟨G,I,L⟩:=h.line D;obtain⟨g1,g2,M⟩:=hf;exact⟨by omega,by omega,by omega⟩
instance (pl:Int):Decidable (C8 pl):=by unfold C8;infer_instance
instance (A:Nat) (p:Pt):Decidable (bd A p):=by unfold bd;infer_instance
def dU (it:Itm) (p:Pt):Int:=plU it.aG p-plU it.aG it.ce
def dW (it:Itm) (p:Pt):Int:=plW it.aG p-plW it.aG it.ce
def sq2 (u w:Int):Int:=u*u+w*w
def crs (u w x y:Int):Int:=u*y-w*x
def dt2 (u w x y:Int):Int:=u*x+w*y
def qA (it:Itm):Int:=sq2 (dU it it.fr) (dW it it.fr)
def qB (it:Itm):Int:=sq2 (dU it it.to) (dW it it.to)
def cAB (it:Itm):Int:=crs (dU it it.fr) (dW it it.fr) (dU it it.to) (dW it it.to)
def dAB (it:Itm):Int:=dt2 (dU it it.fr) (dW it it.fr) (dU it it.to) (dW it it.to)
def If (X Y:Int):Prop:=X+Y-16<=0\/(X+Y-16)*(X+Y-16)<=4*X*Y
def Qiv (it:Itm):Prop:=64<=qA it/\64<=qB it/\If (qA it) (qB it)/\(it.bI=true->dU it it.fr=dU it it.to/\dW it it.fr=dW it it.to)/\(it.bI=false->cAB it≠0\/dAB it<0)
def Zsh (it:Itm):Prop:=C8 it.aG/\(it.dir=1\/it.dir= -1)/\bd 1048576 it.ce/\Qiv it
def Dw (it:Itm):Prop:=(1<=it.aP/\it.aP<=6)/\bd 1048576 it.fr/\bd 1048576 it.to/\(it.aP=3->Zsh it)
theorem Qdk {it:Itm} {b c:Nat} (D:bd c it.ce) (h:bd b q):(dU it q).natAbs<=b+c/\(dW it q).natAbs<=b+c:=by
 obtain⟨G,I,L⟩:=HY (pl:=it.aG) h;obtain⟨g1,g2,M⟩:=HY (pl:=it.aG) D;unfold dU dW;omega
theorem Q41 (x:Int) {b:Nat} (h:x.natAbs<=b):0<=x*x/\x*x<=((b*b:Nat):Int):=by
 have D:=H6 h h;have G:0<=x*x:=by rw[<-fm];omega
 omega
theorem Zdl {u w:Int} (D:u.natAbs<=i) (G:w.natAbs<=i):0<=sq2 u w/\sq2 u w<=((2*(i*i):Nat):Int):=by
 have I:=Q41 u D;have L:=Q41 w G;unfold sq2;omega
theorem Q4f {u w x y:Int} {b c:Nat} (D:u.natAbs<=b) (G:w.natAbs<=b) (I:x.natAbs<=c) (L:y.natAbs<=c):(dt2 u w x y).natAbs<=2*(b*c)/\(crs u w x y).natAbs<=2*(b*c):=by
 have M:=H6 D I;have N:=H6 G L;have O:=H6 D L;have S:=H6 G I;unfold dt2 crs;omega
theorem Zg6 (D:64<=X) (G:64<=Y):If X Y↔(max X Y-min X Y-16<=0\/(max X Y-min X Y-16)*(max X Y-min X Y-16)<=64*min X Y):=by
 unfold If;have key:∀M m:Int,64<=M->64<=m->m<=M->((M+m-16<=0\/(M+m-16)*(M+m-16)<=4*M*m)↔(M-m-16<=0\/(M-m-16)*(M-m-16)<=64*m)):=by
  intro M m L N O;have e:(M-m-16)*(M-m-16)-64*m=(M+m-16)*(M+m-16)-4*M*m:=by grind
  by_cases I:M-m-16<=0
  ·refine iff_of_true (.inr ?_) (.inl I);have S:(16-(M-m))*(M-m+16)>=0:=fq (by omega) (by omega);have T:(M+m-16)*(M+m-16)-4*M*m=512-(16-(M-m))*(M-m+16)-32*(M+m):=by grind
   omega
  ·constructor
   ·rintro(h|h)
    ·omega
    ·exact .inr (by omega)
   ·rintro(h|h)
    ·omega
    ·exact .inr (by omega)
 by_cases h:X<=Y
 ·rw[Int.max_eq_right h,Int.min_eq_left h,<-key Y X G D h];have e1:X+Y-16=Y+X-16:=by omega
  have e2:4*X*Y=4*Y*X:=by grind
  rw[e1,e2]
 ·rw[Int.max_eq_left (by omega),Int.min_eq_right (by omega),<-key X Y D G (by omega)]
theorem Zp8 (p:Pt):NJ [I p.x,I p.y,I p.z]=some [B (decide (bd 1048576 p))]:=by
 unfold NJ;rw[Zql];simp only[go_sem];by_cases h:bd 1048576 p
 ·obtain⟨O,S,T⟩:=h;rw[ab,ab,ab,ab,ab,ab];congr 3;symm;exact ai ⟨O,S,T⟩
 ·have e:decide (bd 1048576 p)=false:=aj h;rw[e];unfold bd at h;by_cases D:p.x< -1048576
  ·rw[aa D]
  rw[ab D];by_cases G:p.x>1048576
  ·rw[aa G]
  rw[ab G];by_cases L:p.y< -1048576
  ·rw[aa L]
  rw[ab L];by_cases M:p.y>1048576
  ·rw[aa M]
  rw[ab M];by_cases N:p.z< -1048576
  ·rw[aa N]
  rw[ab N,aa]
def axI (pl:Int):Int×Int×Int:=if pl=17 then(0,1,2)else if pl=18 then(2,0,1)else if pl=19 then(1,2,0)else(0,0,0)
theorem Qgu (pl:Int):Fp [I pl]=some [I (axI pl).1,I (axI pl).2.1,I (axI pl).2.2,B (decide (C8 pl))]:=by
 unfold Fp;rw[Z48];simp only[go_sem];unfold axI C8;by_cases D:pl=17
 ·rw[aa D,aa D];simp[D]
 rw[ab D,ab D];by_cases G:pl=18
 ·rw[aa G,aa G];simp[G]
 rw[ab G,ab G];by_cases L:pl=19
 ·rw[aa L,aa L];simp[L]
 rw[ab L,ab L];simp[D,G,L]
theorem Yas (G:∀pl:Int,M [I pl]=some [I (axI pl).1,I (axI pl).2.1,I (axI pl).2.2,B (decide (C8 pl))]) {p:Pt} {pl:Int} (D:C8 pl):
  VG M [I p.x,I p.y,I p.z,I pl]=some [I (plU pl p),I (plW pl p),I (plH pl p)]:=by
 rw[Ych];simp only[go_sem,G];rw[ab (by simpa using D)];rcases D with rfl|rfl|rfl<;>rfl
theorem Qxl (D:C8 a):H8 [I q.x,I q.y,I q.z,I a]=some [I (plU a q),I (plW a q),I (plH a q)]:=Yas Qgu D
def Ax (p:Pt):Pt:=⟨p.x*16,p.y*16,p.z*16⟩
theorem E7 (h:bd i q):bd (i*16) (Ax q):=by
 obtain⟨D,G,I⟩:=h;unfold Ax;exact⟨by simp only;omega,by simp only;omega,by simp only;omega⟩
theorem Uo (pl:Int) (p:Pt):plU pl (Ax p)=plU pl p*16/\plW pl (Ax p)=plW pl p*16/\plH pl (Ax p)=plH pl p*16:=by
 unfold plU plW plH Ax;refine⟨?_,?_,?_⟩<;>split<;>(try split)<;>rfl
theorem Q4l (h:bd 100000000 q):HA [I q.x,I q.y,I q.z]=some (ptR (Ax q)):=by
 unfold HA;rw[Zot];obtain⟨D,G,L⟩:=h;rw[Ae,Ae,Ae];rfl
theorem Qkc {u w r h x y s g:Int} (D:u.natAbs<=1000000000) (G:w.natAbs<=1000000000) (L:x.natAbs<=1000000000) (M:y.natAbs<=1000000000):Gv [I u,I w,I r,I h,I x,I y,I s,I g]=some [I (dt2 u w x y)]:=by
 unfold Gv;rw[Z0g];have N:=H6 D L;have O:=H6 G M;unfold dt2;rw[Ae (x:=u*x),Ae (x:=w*y),Ae]
theorem Qnl {u w r h x y s g:Int} (D:u.natAbs<=1000000000) (G:w.natAbs<=1000000000) (L:x.natAbs<=1000000000) (M:y.natAbs<=1000000000):G0 [I u,I w,I r,I h,I x,I y,I s,I g]=some [I (crs u w x y)]:=by
 unfold G0;rw[Zox];have N:=H6 D M;have O:=H6 G L;unfold crs;rw[Ae (x:=u*y),Ae (x:=w*x),Ae]
theorem Zhe (N:∀{a b c d:Int},i64 a->i64 b->i64 c->i64 d->M [I a,I b,I c,I d]=some [I (Lq (a*b) (c*d))]) {X Y:Int} (O:64<=X/\X<=1000000000000000) (S:64<=Y/\Y<=1000000000000000):
  ∃v,YA M [I X,I Y]=some [B v]/\(v=true↔If X Y):=by
 rw[Zs2,Zg6 O.1 S.1];have G:mx X Y=max X Y:=by unfold mx;rw[Int.max_def];split<;>split<;>omega
 have L:mn X Y=min X Y:=by unfold mn;rw[Int.min_def];split<;>split<;>omega
 have T:max X Y<=1000000000000000/\64<=max X Y:=by omega
 have U:min X Y<=1000000000000000/\64<=min X Y:=by omega
 rw[G,L];generalize max X Y=a at*;generalize min X Y=b at*;simp only[go_sem];rw[Ae (x:=a-b),Ae (x:=a-b-16)];by_cases D:a-b-16<=0
 ·rw[aa D];exact⟨_,rfl,iff_of_true rfl (.inl D)⟩
 ·rw[ab D,N (by unfold i64;omega) (by unfold i64;omega) (by unfold i64;omega) (by unfold i64;omega)];refine⟨_,rfl,?_⟩;simp only[go_sem,co,Z14];exact⟨λh=> .inr h,λh=>h.resolve_left D⟩
theorem Zku (D:64<=X/\X<=1000000000000000) (G:64<=Y/\Y<=1000000000000000):∃v,Qk [I X,I Y]=some [B v]/\(v=true↔If X Y):=Zhe Z73 D G
theorem Z3f {it:Itm} (G:∀p:Pt,M [I p.x,I p.y,I p.z,I it.aG]=some [I (plU it.aG p),I (plW it.aG p),I (plH it.aG p)]) (L:∀{p:Pt},bd 100000000 p->Z [I p.x,I p.y,I p.z]=some (ptR (Ax p)))
  (S:bd 1048576 it.fr) (T:bd 1048576 it.to) (U:bd 1048576 it.ce):
  YK M Z (Am (Qrl M Z)) (Ah it)=some [I (dU it it.fr*16),I (dW it it.fr*16),I 0,I (plH it.aG it.fr*16),I (dU it it.to*16),I (dW it it.to*16),I 0,I (plH it.aG it.to*16)]:=by
 rw[Zyw];obtain⟨q1,q2,q3⟩:=HY (pl:=it.aG) S;obtain⟨q4,q5,q6⟩:=HY (pl:=it.aG) T;obtain⟨q7,q8,q9⟩:=HY (pl:=it.aG) U;simp only[L (AR U (by omega)),G,go_sem];have w0:V (0+1)=1:=Ae;have X:V (1+1)=2:=Ae;have N:=Uo it.aG it.fr;have O:=Uo it.aG it.to;have D:=Uo it.aG it.ce;have Y:V (plU it.aG (Ax it.fr)-plU it.aG (Ax it.ce))=dU it it.fr*16:=by rw[N.1,D.1];unfold dU;rw[Ae];omega
 have u2:V (plW it.aG (Ax it.fr)-plW it.aG (Ax it.ce))=dW it it.fr*16:=by rw[N.2.1,D.2.1];unfold dW;rw[Ae];omega
 have u3:V (plU it.aG (Ax it.to)-plU it.aG (Ax it.ce))=dU it it.to*16:=by rw[O.1,D.1];unfold dU;rw[Ae];omega
 have u4:V (plW it.aG (Ax it.to)-plW it.aG (Ax it.ce))=dW it it.to*16:=by rw[O.2.1,D.2.1];unfold dW;rw[Ae];omega
 have b1:bd 100000000 it.fr:=AR S (by omega);have b2:bd 100000000 it.to:=AR T (by omega);have e1:=L b1;have e2:=L b2;rw[A5 (by rw[Qps];simp only[go_sem,e1,e2,G,Y,u2,w0];rfl),A5 (by rw[Qps];simp only[go_sem,e1,e2,G,u3,u4,X];rfl),
  AQ (o:=(1,_)) (by rw[Qps];simp only[go_sem];rfl) (by simp)]
 simp only[go_sem,N.2.2,O.2.2]
theorem Zc4 {it:Itm} (D:C8 it.aG) (G:bd 1048576 it.fr) (L:bd 1048576 it.to) (M:bd 1048576 it.ce):
  KR (Ah it)=some [I (dU it it.fr*16),I (dW it it.fr*16),I 0,I (plH it.aG it.fr*16),I (dU it it.to*16),I (dW it it.to*16),I 0,I (plH it.aG it.to*16)]:=
 Z3f (λ_=>Qxl D) Q4l G L M
theorem Ydc {S:Fn} {X Y C D N T O U:Int} {bI:Bool} (hX:0<=X/\X<=1000000000000000) (hY:0<=Y/\Y<=1000000000000000)
  (hN:∀{X Y:Int},(64<=X/\X<=1000000000000000)->(64<=Y/\Y<=1000000000000000)->∃v,S [I X,I Y]=some [B v]/\(v=true↔If X Y)):
  ∃ v, (if X * 256 < V (128 * 128) then some [B false] else if Y * 256 < V (128 * 128) then some [B false] else
   (S [I (V ((X*256).tdiv 256)),I (V ((Y*256).tdiv 256))]).bind λo=>
   if¬Df (nth .vD o 0)=true then some [B false]else if bI=true then if N*16=O*16 then some [B (T*16==U*16)]else some [B false]else if C*256≠0 then some [B true]else some [B (decide (D*256<0))])=some [B v]/\
   (v=true↔64<=X/\64<=Y/\If X Y/\(bI=true->N=O/\T=U)/\(bI=false->C≠0\/D<0)):=by
 rw[Ae (x:=128*128),Int.mul_tdiv_cancel _ (by omega),Int.mul_tdiv_cancel _ (by omega),Ae (x:=X),Ae (x:=Y)];by_cases c1:X*256<128*128
 ·rw[aa c1];exact⟨_,rfl,gh (by simp) λh=>by omega⟩
 rw[ab c1];by_cases c2:Y*256<128*128
 ·rw[aa c2];exact⟨_,rfl,gh (by simp) λh=>by omega⟩
 rw[ab c2];obtain⟨v,h1,h2⟩:=hN (X:=X) (Y:=Y) (by omega) (by omega);simp only[h1,go_sem];by_cases M:v=true
 case neg=>rw[aa M];exact⟨_,rfl,gh (by simp) λh=>M (h2.2 h.2.2.1)⟩
 rw[ab (by simpa using M)];have G:=h2.1 M;cases bI with
 |true=>
  rw[aa rfl];by_cases L:N*16=O*16
  ·rw[aa L];refine⟨_,rfl,?_⟩;simp only[beq_iff_eq];exact⟨λh=>⟨by omega,by omega,G,λ_=>⟨by omega,by omega⟩,λh=>by simp at h⟩,λh=>by have:=(h.2.2.2.1 trivial).2;omega⟩
  ·rw[ab L];exact⟨_,rfl,gh (by simp) λh=>L (by have:=(h.2.2.2.1 rfl).1;omega)⟩
 |false=>
  rw[ab (by simp)];by_cases L:C*256≠0
  ·rw[aa L];exact⟨_,rfl,iff_of_true rfl ⟨by omega,by omega,G,λh=>by simp at h,λ_=> .inl (by omega)⟩⟩
  ·rw[ab L];refine⟨_,rfl,?_⟩;simp only[co];exact⟨λh=>⟨by omega,by omega,G,λh=>by simp at h,λ_=> .inr (by omega)⟩,λh=>by have:=(h.2.2.2.2 trivial);omega⟩
theorem Q6a (a b c d:Int):dt2 (a*16) (b*16) (c*16) (d*16)=dt2 a b c d*256/\crs (a*16) (b*16) (c*16) (d*16)=crs a b c d*256:=by
 unfold dt2 crs;constructor<;>grind
theorem Znc (hA:∀pl:Int,P [I pl]=some [I (axI pl).1,I (axI pl).2.1,I (axI pl).2.2,B (decide (C8 pl))]) (hW:∀p:Pt,O [I p.x,I p.y,I p.z]=some [B (decide (bd 1048576 p))])
  {it:Itm} (hE:C8 it.aG->bd 1048576 it.fr->bd 1048576 it.to->bd 1048576 it.ce->S (Ah it)=some [I (dU it it.fr*16),I (dW it it.fr*16),I 0,I (plH it.aG it.fr*16),I (dU it it.to*16),I (dW it it.to*16),I 0,I (plH it.aG it.to*16)])
  (hD:∀{u w r h x y s g:Int},u.natAbs<=1000000000->w.natAbs<=1000000000->x.natAbs<=1000000000->y.natAbs<=1000000000->W [I u,I w,I r,I h,I x,I y,I s,I g]=some [I (dt2 u w x y)])
  (hX:∀{u w r h x y s g:Int},u.natAbs<=1000000000->w.natAbs<=1000000000->x.natAbs<=1000000000->y.natAbs<=1000000000->M [I u,I w,I r,I h,I x,I y,I s,I g]=some [I (crs u w x y)])
  (hN:∀{X Y:Int},(64<=X/\X<=1000000000000000)->(64<=Y/\Y<=1000000000000000)->∃v,Z [I X,I Y]=some [B v]/\(v=true↔If X Y)):
  ∃v,Qpo M Z W S P O (Ah it)=some [B v]/\(v=true↔Dw it):=by
 rw[Zzi];simp only[go_sem,hW,hA];by_cases c1:it.aP<1
 ·rw[aa c1];exact⟨_,rfl,gh (by simp) λh=>by have:=h.1;omega⟩
 rw[ab c1];by_cases V:it.aP>6
 ·rw[aa V];exact⟨_,rfl,gh (by simp) λh=>by have:=h.1;omega⟩
 rw[ab V];by_cases G:bd 1048576 it.fr
 case neg=>rw[aa (by simpa using G)];exact⟨_,rfl,gh (by simp) λh=>G h.2.1⟩
 rw[ab (by simpa using G)];by_cases L:bd 1048576 it.to
 case neg=>rw[aa (by simpa using L)];exact⟨_,rfl,gh (by simp) λh=>L h.2.2.1⟩
 rw[ab (by simpa using L)];by_cases N:it.aP=3
 case neg=>rw[aa N];exact⟨_,rfl,iff_of_true rfl ⟨by omega,G,L,λh=>absurd h N⟩⟩
 rw[ab (by simpa using N)];by_cases c5:C8 it.aG
 case neg=>rw[aa (by simpa using c5)];exact⟨_,rfl,gh (by simp) λh=>c5 (h.2.2.2 N).1⟩
 rw[ab (by simpa using c5)];by_cases D:bd 1048576 it.ce
 case neg=>
  refine⟨false,?_,gh (by simp) λh=>D (h.2.2.2 N).2.2.1⟩;split
  ·split
   ·rfl
   ·first|rfl|(rw[aa D])
  ·first|rfl|(rw[aa D])
 by_cases c6:it.dir=1\/it.dir= -1
 case neg=>
  rw[aa (c:=it.dir≠1),aa (c:=it.dir≠-1)];exact⟨false,rfl,gh (by simp) λh=>c6 (h.2.2.2 N).2.1⟩
 have U:=hE c5 G L D;obtain⟨b1,b2⟩:=Qdk (it:=it) D G;obtain⟨b3,b4⟩:=Qdk (it:=it) D L;simp only[Ah]at U;have x1:=Zdl b1 b2;have x2:=Zdl b3 b4;have core:Dw it↔64<=qA it/\64<=qB it/\If (qA it) (qB it)/\(it.bI=true->dU it it.fr=dU it it.to/\dW it it.fr=dW it it.to)/\(it.bI=false->cAB it≠0\/dAB it<0):=
  ⟨λh=>(h.2.2.2 N).2.2.2,λh=>⟨by omega,G,L,λ_=>⟨c5,c6,D,h⟩⟩⟩
 rw[core];have a0:0<=qA it/\qA it<=1000000000000000:=⟨x1.1,by unfold qA;omega⟩;have a1:0<=qB it/\qB it<=1000000000000000:=⟨x2.1,by unfold qB;omega⟩;have D1:= @hD (dU it it.fr*16) (dW it it.fr*16) 0 (plH it.aG it.fr*16) (dU it it.fr*16) (dW it it.fr*16) 0 (plH it.aG it.fr*16) (by omega) (by omega) (by omega) (by omega);have D2:= @hD (dU it it.to*16) (dW it it.to*16) 0 (plH it.aG it.to*16) (dU it it.to*16) (dW it it.to*16) 0 (plH it.aG it.to*16) (by omega) (by omega) (by omega) (by omega);have D3:= @hD (dU it it.fr*16) (dW it it.fr*16) 0 (plH it.aG it.fr*16) (dU it it.to*16) (dW it it.to*16) 0 (plH it.aG it.to*16) (by omega) (by omega) (by omega) (by omega);have D4:= @hX (dU it it.fr*16) (dW it it.fr*16) 0 (plH it.aG it.fr*16) (dU it it.to*16) (dW it it.to*16) 0 (plH it.aG it.to*16) (by omega) (by omega) (by omega) (by omega);rw[(Q6a _ _ _ _).1]at D1 D2 D3;rw[(Q6a _ _ _ _).2]at D4;have e1:dt2 (dU it it.fr) (dW it it.fr) (dU it it.fr) (dW it it.fr)=qA it:=rfl;have e2:dt2 (dU it it.to) (dW it it.to) (dU it it.to) (dW it it.to)=qB it:=rfl;have e3:dt2 (dU it it.fr) (dW it it.fr) (dU it it.to) (dW it it.to)=dAB it:=rfl;have e4:crs (dU it it.fr) (dW it it.fr) (dU it it.to) (dW it it.to)=cAB it:=rfl;rw[e1]at D1;rw[e2]at D2;rw[e3]at D3;rw[e4]at D4;have T:= @Ydc Z (qA it) (qB it) (cAB it) (dAB it) (dU it it.fr) (dW it it.fr) (dU it it.to) (dW it it.to) it.bI a0 a1 hN;have n7: ¬ ¬bd 1048576 it.ce:=λh=>h D;by_cases d1:it.dir=1
 ·rw[ab (c:=it.dir≠1) (λh=>h d1),ab n7];simp only[U,go_sem,D1,D2,D3,D4];exact T
 ·rw[aa (c:=it.dir≠1) d1,ab (c:=it.dir≠-1),ab n7];simp only[U,go_sem,D1,D2,D3,D4];exact T
theorem Qpd (it:Itm):∃v,GI (Ah it)=some [B v]/\(v=true↔Dw it):=
 Znc Qgu Zp8 (λD G I L=>Zc4 D G I L) Qkc Qnl Zku
def okS (s:Spk):Prop:=s.u.natAbs<=50000000/\s.w.natAbs<=50000000/\(0<=s.r/\s.r<=50000000)/\s.h.natAbs<=16777216
def hf (a b:Int):Int:=(a+b+1)/2
def Du (a b:Spk) (dir:Int) (bI:Bool):Int×Int:=
 if bI=true then(-a.u,-a.w)
 else if 0<dt2 a.u a.w b.u b.w/\0<crs a.u a.w b.u b.w*dir then(a.u+b.u,a.w+b.w)
 else if 0<dt2 a.u a.w b.u b.w then(-(a.u+b.u),-(a.w+b.w))
 else(dir*(b.w-a.w),dir*(a.u-b.u))
noncomputable def HG (a b:Spk) (u w:Int):Spk:=if u=0/\w=0 then⟨0,0,0,0⟩else⟨Bv u (hf a.r b.r) (sq2 u w),Bv w (hf a.r b.r) (sq2 u w),hf a.r b.r,hf a.h b.h⟩
noncomputable def EF (a b:Spk) (dir:Int) (bI:Bool):Spk:=HG a b (Du a b dir bI).1 (Du a b dir bI).2
theorem OB {a b:Spk} (D:okS a) (hb:okS b) {dir:Int} (G:dir=1\/dir= -1) (bI:Bool):(Du a b dir bI).1.natAbs<=100000000/\(Du a b dir bI).2.natAbs<=100000000:=by
 obtain⟨a1,a2,-⟩:=D;obtain⟨b1,b2,-⟩:=hb;unfold Du;split
 ·exact⟨by simp only;omega,by simp only;omega⟩
 ·split
  ·exact⟨by simp only;omega,by simp only;omega⟩
  ·split
   ·exact⟨by simp only;omega,by simp only;omega⟩
   ·rcases G with rfl|rfl
    ·exact⟨by simp only;omega,by simp only;omega⟩
    ·exact⟨by simp only;omega,by simp only;omega⟩
theorem Zam (u w:Int):u*u<=sq2 u w/\w*w<=sq2 u w:=by
 have D:=Fx u;have G:=Fx w;unfold sq2;omega
theorem Sh {u w:Int} (h: ¬(u=0/\w=0)):0<sq2 u w:=by
 have I:=Fx u;have L:=Fx w;have z:∀u:Int,u*u=0->u=0:=λu G=>by
  rcases Int.mul_eq_zero.1 G with h|h<;>exact h
 have M: ¬(u*u=0/\w*w=0):=λD=>h ⟨z _ D.1,z _ D.2⟩;unfold sq2;omega
theorem Q5t (D:0<=a/\a<=50000000) (hb:0<=b/\b<=50000000):0<=hf a b/\hf a b<=50000000:=by unfold hf;omega
theorem Zip (D:a.natAbs<=16777216) (hb:b.natAbs<=16777216):(hf a b).natAbs<=16777216:=by unfold hf;omega
theorem Zed {u w r:Int} (D:u.natAbs<=100000000) (G:w.natAbs<=100000000) (T:0<=r/\r<=50000000) (h: ¬(u=0/\w=0)):
  (Us [I u,I r,I (sq2 u w)]=some [I (Bv u r (sq2 u w))]/\(Bv u r (sq2 u w)).natAbs<=r.natAbs)/\(Us [I w,I r,I (sq2 u w)]=some [I (Bv w r (sq2 u w))]/\(Bv w r (sq2 u w)).natAbs<=r.natAbs):=by
 have U:=Sh h;have V:=Dq D;have X:=Dq G;have Y:sq2 u w<=20000000000000000:=by unfold sq2;omega
 obtain⟨L,M⟩:=Zam u w;have key:∀x:Int,x.natAbs<=100000000->x*x<=sq2 u w->Us [I x,I r,I (sq2 u w)]=some [I (Bv x r (sq2 u w))]/\(Bv x r (sq2 u w)).natAbs<=r.natAbs:=by
  intro x N O;obtain⟨g1,-,S⟩:=TL (x:=x) (r:=r) (n:=sq2 u w) (bp N (by decide)) (by omega) (by omega) O;refine⟨g1,Qv7 (by omega) ?_ S⟩;have:((x.natAbs*x.natAbs:Nat):Int)=x*x:=fm;omega
 exact⟨key u D L,key w G M⟩
theorem Zhq {a b:Spk} (D:okS a) (hb:okS b) {u w:Int} (I:u.natAbs<=100000000) (L:w.natAbs<=100000000):okS (HG a b u w):=by
 unfold HG;split
 ·exact⟨by simp,by simp,by simp,by simp⟩
 ·rename_i h;have G:=Q5t D.2.2.1 hb.2.2.1;obtain⟨⟨-,M⟩,-,N⟩:=Zed I L G h;exact⟨by simp only;omega,by simp only;omega,G,Zip D.2.2.2 hb.2.2.2⟩
theorem Qz2 {a b:Spk} (D:okS a) (hb:okS b) {dir:Int} (G:dir=1\/dir= -1) (bI:Bool):okS (EF a b dir bI):=
 Zhq D hb (OB D hb G bI).1 (OB D hb G bI).2
theorem Ht {x:Int} (h:x.natAbs<=50000000):x.natAbs<=1000000000:=bp h (by decide)
def Io (a b:Spk) (dir:Int) (bI:Bool):Prop:=bI=false/\0<crs a.u a.w b.u b.w*dir/\sq2 (a.u-b.u) (a.w-b.w)<=32*mn a.r b.r-64
instance {a b:Spk} {dir:Int} {bI:Bool}:Decidable (Io a b dir bI):=by unfold Io;infer_instance
noncomputable def DN (dir:Int):Nat->Bool->Spk->Spk->List Spk
 |0,_,_,b=>[b]
 |k+1,bI,a,b=>if Io a b dir bI then [b]else DN dir k false a (EF a b dir bI)++DN dir k false (EF a b dir bI) b
theorem Vq {dir:Int}:∀(k:Nat) (bI:Bool) (a b:Spk),1<=(DN dir k bI a b).length/\(DN dir k bI a b).length<=2^k
 |0,_,_,b=>by simp[DN]
 |k+1,bI,a,b=>by
  have D:0<2^k:=ez _;have e3:2^(k+1)=2^k+2^k:=by rw[ia];omega
  unfold DN;split
  ·simp;omega
  ·have G:=Vq k false a (EF a b dir bI) (dir:=dir);have I:=Vq k false (EF a b dir bI) b (dir:=dir);rw[ap];omega
theorem V1 {dir:Int} (G:dir=1\/dir= -1):∀(k:Nat) (bI:Bool) {a b:Spk},okS a->okS b->∀s∈DN dir k bI a b,okS s
 |0,_,a,b,_,hb,s,D=>by simp[DN]at D;subst D;exact hb
 |k+1,bI,a,b,I,hb,s,D=>by
  unfold DN at D;have L:=Qz2 I hb G bI;split at D
  ·simp at D;subst D;exact hb
  ·rcases bj.1 D with D|D
   ·exact V1 G k false I L s D
   ·exact V1 G k false L hb s D
theorem Zna {n i j:Int} (G:JA n i) (I:JA n j):i=j:=by
 have key:∀{i j:Int},JA n i->JA n j-> ¬i<j:=by
  rintro i j ⟨L,M,-⟩ ⟨O,S,D⟩ N;rcases D with D|D
  ·omega
  ·have T:=fd (show i<=j-1 by omega) (show i+1<=j by omega) (by omega) (by omega);omega
 have L:=key G I;have M:=key I G;omega
open Classical in
noncomputable def Fz (n:Int):Int:=if h:∃j,JA n j then Classical.choose h else 0
theorem Th {n k:Int} (h:JA n k):Fz n=k:=by
 have D:∃j,JA n j:=⟨k,h⟩;unfold Fz;rw[jl D];exact Zna (ef D) h
theorem T1 {n r:Nat} (D:r*r<=n) (G:n<(r+1)*(r+1)):JA n (if r*r+r<n then r+1 else r:Nat):=by
 have e0:(r+1)*(r+1)=r*r+r+r+1:=by grind
 unfold JA;by_cases c:r*r+r<n
 ·rw[aa c];have e1:((r+1:Nat):Int)*(((r+1:Nat):Int)+1)=((r*r+r+r+r+2:Nat):Int):=by
   have:((r+1:Nat):Int)+1=((r+2:Nat):Int):=by omega
   rw[this,<-da];congr 1
   grind
  have e2:(((r+1:Nat):Int)-1)*((r+1:Nat):Int)=((r*r+r:Nat):Int):=by
   rw[show((r+1:Nat):Int)-1=(r:Int) by omega,<-da];congr 1
  rw[e1,e2];generalize r*r=A at*;exact⟨by omega,by omega, .inr (by omega)⟩
 ·rw[ab c];have e1:(r:Int)*((r:Int)+1)=((r*r+r:Nat):Int):=by
   rw[show(r:Int)+1=((r+1:Nat):Int) by omega,<-da];congr 1
  rw[e1];refine⟨by omega,by omega,?_⟩;rcases d7 r with h|h
  ·left;omega
  ·right;have e2:((r:Int)-1)*(r:Int)=(((r-1)*r:Nat):Int):=by
    rw[show(r:Int)-1=((r-1:Nat):Int) by omega];exact(da _ _).symm
   have:=d9 (show r-1<r by omega) h;rw[e2];omega
noncomputable def Eu (it:Itm) (p:Pt):Spk:=⟨dU it p*16,dW it p*16,Fz (sq2 (dU it p*16) (dW it p*16)),plH it.aG p*16⟩
theorem Zrv {n:Nat} (L:n<=2251799813685248):0<=Fz n/\Fz n<=50000000:=by
 obtain⟨r,-,D,G,-⟩:=Vk (n:=n) (by omega);have I:=T1 D G;rw[Th I];have:r<50000000:=by
  by_cases c:r<50000000
  ·exact c
  ·have:=dh (show 50000000<=r by omega) (show 50000000<=r by omega);omega
 split<;>omega
theorem QY {it:Itm} (I:bd 1048576 it.ce) (L:bd 1048576 q):(dU it q*16).natAbs<=33554432/\(dW it q*16).natAbs<=33554432/\0<=sq2 (dU it q*16) (dW it q*16)/\sq2 (dU it q*16) (dW it q*16)<=2251799813685248:=by
 obtain⟨M,N⟩:=Qdk I L;have D:(dU it q*16).natAbs<=33554432:=by omega
 have G:(dW it q*16).natAbs<=33554432:=by omega
 have O:=Dq D;have S:=Dq G;refine⟨D,G,?_⟩;unfold sq2;omega
theorem Ut {it:Itm} (G:bd 1048576 it.ce) (D:bd 1048576 q):okS (Eu it q):=by
 obtain⟨I,L,M,N⟩:=QY G D;have S:=(HY (pl:=it.aG) D).2.2;obtain⟨n,O⟩:=bn M;refine⟨bp I (by decide),bp L (by decide),?_,?_⟩
 ·show 0<=Fz _/\Fz _<=_;rw[O]at N⊢;exact Zrv (by omega)
 ·show(plH it.aG q*16).natAbs<=_;omega
noncomputable def DK (it:Itm):List Spk:=Eu it it.fr::DN it.dir 16 it.bI (Eu it it.fr) (Eu it it.to)
theorem Q72 {it:Itm} (h:Dw it) (L:it.aP=3):∀s∈DK it,okS s:=by
 obtain⟨-,I,M,N⟩:=h;obtain⟨S,O,D,-⟩:=N L;intro s G;rcases ay.1 G with rfl|G
 ·exact Ut D I
 ·exact V1 O 16 _ (Ut D I) (Ut D M) s G
theorem Qyl (it:Itm):2<=(DK it).length/\(DK it).length<=65537:=by
 have:=Vq (dir:=it.dir) 16 it.bI (Eu it it.fr) (Eu it it.to);have e:(2:Nat)^16=65536:=rfl;rw[e]at this;unfold DK;rw[bf];omega
noncomputable def JE (it:Itm) (s:Spk):Pt:=spP it.aG (plU it.aG (Ax it.ce)+s.u) (plW it.aG (Ax it.ce)+s.w) s.h
noncomputable def Cj (it:Itm):List Pt:=if it.aP=3 then(DK it).map (JE it)else [Ax it.fr,Ax it.to]
theorem Q8u {pl u w h:Int} (D:u.natAbs<=i) (G:w.natAbs<=i) (I:h.natAbs<=i):bd i (spP pl u w h):=by
 unfold spP bd;split
 ·exact⟨D,G,I⟩
 ·split
  ·exact⟨G,I,D⟩
  ·exact⟨I,D,G⟩
theorem Zm5 {it:Itm} {s:Spk} (D:bd 1048576 it.ce) (G:okS s):bd 67108864 (JE it s):=by
 obtain⟨I,L,-⟩:=HY (pl:=it.aG) (E7 D);obtain⟨s1,s2,-,M⟩:=G;exact Q8u (by omega) (by omega) (by omega)
theorem Qeq {it:Itm} (h:Dw it):∀p∈Cj it,bd 67108864 p:=by
 intro p D;unfold Cj at D;split at D
 ·rename_i G;simp only[av]at D;obtain⟨s,I,rfl⟩:=D;exact Zm5 (h.2.2.2 G).2.2.1 (Q72 h G s I)
 ·simp at D;rcases D with rfl|rfl
  ·exact AR (E7 h.2.1) (by decide)
  ·exact AR (E7 h.2.2.1) (by decide)
theorem Qzv (it:Itm):2<=(Cj it).length/\(Cj it).length<=65537:=by
 have:=Qyl it;unfold Cj;split<;>simp<;>omega
def H0 (t:Itm) (aS:Int):Int:=if t.aP=1 then 0 else mx (Bh (mn (if t.perRev=true then t.aZ*mx aS 1 else t.aZ) 60000000*4096) 60000) 1
theorem Zoi {f s:Int} (hf:0<=f/\f<=60000000) (G:0<=s/\s<=30000):0<=f*mx s 1/\f*mx s 1<=1800000000000:=by
 have D:1<=mx s 1/\mx s 1<=30000:=by unfold mx;split<;>omega
 generalize mx s 1=m at*;have I:=fd hf.2 D.2 (by omega) (by omega);have L:=fq hf.1 (show 0<=m by omega);omega
theorem Q3x {x:Int} (h:0<=x):0<=mn x 60000000/\mn x 60000000<=60000000:=by unfold mn;split<;>omega
theorem Z0w {t:Itm} (hf:0<=t.aZ/\t.aZ<=60000000) (G:0<=k/\k<=30000)
  (D:∀a:Int,0<=a/\a<=60000000->M [I a,I 4096,I 60000,I 2]=some [I (Bh (a*4096) 60000),B true]):V9 M (Ah t++[I k])=some [I (H0 t k)]:=by
 have L:=Zoi hf G;have N:=D _ (Q3x L.1);have O:=D _ (Q3x hf.1);have S:V (t.aZ*mx k 1)=t.aZ*mx k 1:=Ae;simp only[Ah,ba,ax];rw[Qzr,S];simp only[go_sem,N,O];unfold H0;by_cases g1:t.aP=1
 ·rw[aa g1,aa g1]
 ·rw[ab g1,ab g1];by_cases g2:t.perRev=true
  ·rw[aa g2,aa g2]
  ·rw[ab g2,ab g2]
theorem Zhg {t:Itm} (hf:0<=t.aZ/\t.aZ<=60000000) (D:0<=k/\k<=30000):JX (Ah t++[I k])=some [I (H0 t k)]:=
 Z0w hf D λa G=>TZ (by unfold i64;omega) (by unfold i64;omega) (by omega) (by have:a.natAbs*(4096:Int).natAbs<=60000000*4096:=dh (by omega) (by omega);omega)
def it0:Itm:=⟨0,0,⟨0,0,0⟩,⟨0,0,0⟩,0,⟨0,0,0⟩,0,false,0,false,0,0,0,0,0,false⟩
def vE (aA:List Itm) (i:Nat):Itm:=aA.getD i it0
theorem QZ {aA:List Itm} (h:i<aA.length):vE aA i=aA[i]:=by unfold vE;simp[h]
theorem Zd5 {aA:List Itm} (h:i<aA.length):vE aA i∈aA:=by rw[QZ h];exact cd h
theorem E_ {aA:List Itm} (h:i<aA.length):nth [] (aA.map Ah) i=Ah (vE aA i):=by rw[QZ h];exact Ja _ _ _ _ h
theorem Qof {aA:List Itm} (h:i<aA.length):aA.drop i=vE aA i::aA.drop (i+1):=by rw[QZ h];exact OT _ _ h
def AF (it:Itm):Prop:=1<=it.aP/\it.aP<=6
def smI (it:Itm):Prop:=it.aP=2/\it.fr≠it.to
def syI (it:Itm):Prop:=it.aP=5\/it.aP=6
instance (it:Itm):Decidable (AF it):=by unfold AF;infer_instance
instance (it:Itm):Decidable (smI it):=by unfold smI;infer_instance
instance (it:Itm):Decidable (syI it):=by unfold syI;infer_instance
def A9 (it:Itm):Pt:=⟨(it.fr.x+it.to.x)*8,(it.fr.y+it.to.y)*8,(it.fr.z+it.to.z)*8⟩
theorem Lr {it:Itm} (D:bd 1048576 it.fr) (G:bd 1048576 it.to):bd B24 (A9 it):=by
 unfold bd B24 A9 at*;simp only;omega
def Gw:List Itm->Nat->Int
 |[],_=> -1
 |it::l,k=>if it.aP=10 then Gw l (k+1)else if smI it then k else-1
def B4 (aA:List Itm) (i:Nat):Int:=if smI (vE aA i)/\(vE aA i).bJ≠0 then Gw (aA.drop (i+1)) (i+1)else-1
theorem Qve:∀(l:List Itm) (k:Nat),Gw l k= -1\/∃j:Nat,Gw l k=((k+j:Nat):Int)/\∃h:j<l.length,smI l[j]/\∀i (D:i<l.length),i<j->l[i].aP=10
 |[],_=> .inl rfl
 |it::l,k=>by
  unfold Gw;split
  ·rename_i G;rcases Qve l (k+1)with h|⟨j,I,S,L,M⟩
   ·exact .inl h
   ·refine .inr ⟨j+1,by rw[I];omega,by simp;omega,by simpa using L,?_⟩;intro i D N;cases i with
    |zero=>simpa using G
    |succ i=>simpa using M i (by simpa using D) (by omega)
  ·split
   ·rename_i O;exact .inr ⟨0,by simp,by simp,by simpa using O,λi _ D=>by omega⟩
   ·exact .inl rfl
theorem ZO (aA:List Itm) (i:Nat):B4 aA i= -1\/(smI (vE aA i)/\(vE aA i).bJ≠0/\∃k:Nat,B4 aA i=k/\i<k/\k<aA.length/\smI (vE aA k)/\∀j,i<j->j<k->(vE aA j).aP=10):=by
 unfold B4;split
 ·rename_i h;rcases Qve (aA.drop (i+1)) (i+1)with D|⟨j,D,L,G,M⟩
  ·exact .inl D
  ·have I:i+1+j<aA.length:=by rw[dk]at L;omega
   refine .inr ⟨h.1,h.2,i+1+j,D,by omega,I,?_,?_⟩
   ·rw[QZ I];rw[List.getElem_drop]at G;exact G
   ·intro m N O;have:=M (m-(i+1)) (by omega) (by omega);rw[List.getElem_drop]at this;rw[QZ (by omega)];have e:i+1+(m-(i+1))=m:=by omega
    simp only[e]at this;exact this
 ·exact .inl rfl
def Tx (it:Itm):Int:=if it.aP=10 then 5 else if it.aP=13 then 4 else 3
def HJ:List Itm->Int
 |[]=>2
 |it::l=>if AF it then(if syI it then 1 else 2)else HJ l
def U5 (aA:List Itm) (i:Nat):Int:=if(vE aA i).aP=4 then 6 else if(vE aA i).bJ=0 then 1 else if syI (vE aA i)then 1 else HJ (aA.drop (i+1))
noncomputable def HI (aA:List Itm) (i k:Nat):List Pt:=F6 (A9 (vE aA i)) (Ax (vE aA i).to) (A9 (vE aA k)) ((vE aA i).bJ*16)
def drawn (it:Itm):Prop:=Dw it/\0<=it.bJ/\it.bJ<=1000
theorem Lw {aA:List Itm} {i k:Nat} (D:drawn (vE aA i)) (G:drawn (vE aA k)):(∀p∈HI aA i k,bd B24 p)/\1<=(HI aA i k).length/\(HI aA i k).length<=65:=
 Q1q (Lr D.1.2.1 D.1.2.2.1) (E7 D.1.2.2.1) (Lr G.1.2.1 G.1.2.2.1)
noncomputable def Jl (aA:List Itm) (i:Nat) (frm:Int):List Pt:=if 0<=frm then(HI aA frm.toNat i).drop ((HI aA frm.toNat i).length/2)else(Cj (vE aA i)).take 1
noncomputable def Mq (aA:List Itm) (i:Nat):List Pt:=if 0<=B4 aA i then(HI aA i (B4 aA i).toNat).take ((HI aA i (B4 aA i).toNat).length/2+1)else(Cj (vE aA i)).drop 1
noncomputable def CG (aA:List Itm) (i:Nat) (frm:Int):List Pt:=if smI (vE aA i)then Jl aA i frm++[A9 (vE aA i)]++Mq aA i else Cj (vE aA i)
def LX (aA:List Itm) (i:Nat) (frm:Int):Prop:=frm= -1\/∃f:Nat,frm=f/\f<aA.length/\drawn (vE aA f)
theorem Zw7 {aA:List Itm} (I:drawn (vE aA i)) (hf:LX aA i a):(∀p∈Jl aA i a,bd 67108864 p)/\(Jl aA i a).length<=65:=by
 unfold Jl;rcases hf with rfl|⟨f,rfl,L,D⟩
 ·rw[ab];exact⟨λp G=>Qeq I.1 p (eu G),by rw[ic];omega⟩
 ·rw[aa];obtain⟨M,N,O⟩:=Lw (aA:=aA) (i:=(f:Int).toNat) (k:=i) (by simpa using D) I;exact⟨λp G=>AR (M p (dw G)) (by decide),by rw[dk];omega⟩
theorem Vz {aA:List Itm} (D:∀k<aA.length,AF (vE aA k)->drawn (vE aA k)) (M:0<=B4 aA i):∃k:Nat,B4 aA i=k/\k<aA.length/\drawn (vE aA k):=by
 rcases ZO aA i with h|⟨-,-,k,L,-,G,I,-⟩
 ·omega
 ·exact⟨k,L,G,D k G ⟨by have:=I.1;omega,by have:=I.1;omega⟩⟩
theorem Zvn {aA:List Itm} (L:drawn (vE aA i)) (M:(vE aA i).aP≠3) (D:∀k<aA.length,AF (vE aA k)->drawn (vE aA k)):(∀p∈Mq aA i,bd 67108864 p)/\(Mq aA i).length<=66:=by
 unfold Mq;by_cases h:0<=B4 aA i
 ·rw[aa h];obtain⟨k,N,O,G⟩:=Vz D h;obtain⟨S,M,T⟩:=Lw (aA:=aA) (i:=i) (k:=(B4 aA i).toNat) L (by rw[N];simpa using G);exact⟨λp I=>AR (S p (eu I)) (by decide),by rw[ic];omega⟩
 ·rw[ab h];refine⟨λp I=>Qeq L.1 p (dw I),?_⟩;unfold Cj;rw[ab M];simp
theorem W5 {aA:List Itm} (G:drawn (vE aA i)) (hf:LX aA i a) (I:∀k<aA.length,AF (vE aA k)->drawn (vE aA k)):
  (∀p∈CG aA i a,bd 67108864 p)/\(CG aA i a).length<=65537:=by
 unfold CG;by_cases L:smI (vE aA i)
 ·rw[aa L];obtain⟨M,O⟩:=Zw7 G hf;obtain⟨N,S⟩:=Zvn G (by have:=L.1;omega) I;refine⟨λp D=> ?_,by rw[ap,ap];simp;omega⟩;rcases bj.1 D with D|D
  ·rcases bj.1 D with D|D
   ·exact M p D
   ·simp at D;subst D;exact AR (Lr G.1.2.1 G.1.2.2.1) (by decide)
  ·exact N p D
 ·rw[ab L];exact⟨Qeq G.1,(Qzv _).2⟩
theorem Q55 (l:List Pt):List.drop (Int.toNat 1) (l.map ptR)=(l.drop 1).map ptR:=by rw[show Int.toNat 1=1 from rfl,List.map_drop]
theorem SB (l:List Pt):List.take (Int.toNat 1) (l.map ptR)=(l.take 1).map ptR:=by rw[show Int.toNat 1=1 from rfl,List.map_take]
end Go.Bm
namespace Go.Bm
open Classical
def Ce (it:Itm):Prop:=it.aP<1\/it.aP>14\/(AF it/\(¬Dw it\/(it.aP≠1/\(it.aZ<1\/it.aZ>60000000))\/it.bJ<0\/it.bJ>1000))\/(¬AF it/\it.aP=8/\(it.n<3\/it.n>5\/it.aS<0\/it.aS>30000))
noncomputable def Gy (aA:List Itm):Nat->Nat->Int->Int
 |0,_,_=>0
 |k+1,i,last=>if Ce (vE aA i)then 1 else if AF (vE aA i)then(if 0<=last/\(vE aA last.toNat).to≠(vE aA i).fr then 13 else Gy aA k (i+1) i)else Gy aA k (i+1) last
noncomputable def C1 (aA:List Itm):Int:=if aA.length>20000 then 10 else Gy aA aA.length 0 (-1)
theorem Xw {aA:List Itm}:∀(k i:Nat) (last:Int),i+k=aA.length->Gy aA k i last=0->∀j,i<=j->j<aA.length-> ¬Ce (vE aA j)
 |0,i,last,I,_,j,L,D=>by omega
 |k+1,i,last,I,h,j,L,D=>by
  unfold Gy at h;split at h
  ·omega
  ·rename_i c;by_cases G:j=i
   ·subst G;exact c
   ·split at h
    ·split at h
     ·omega
     ·exact Xw k (i+1) _ (by omega) h j (by omega) D
    ·exact Xw k (i+1) _ (by omega) h j (by omega) D
theorem PF {aA:List Itm} (h:C1 aA=0):aA.length<=20000/\∀j,j<aA.length-> ¬Ce (vE aA j):=by
 unfold C1 at h;split at h
 ·omega
 ·exact⟨by omega,λj D=>Xw _ 0 _ (by omega) h j (by omega) D⟩
theorem LC {it:Itm} (h: ¬Ce it) (D:AF it):drawn it/\(it.aP=1\/1<=it.aZ/\it.aZ<=60000000):=by
 unfold Ce at h;have G:Dw it:=by
  by_cases c:Dw it
  ·exact c
  ·exact absurd (.inr (.inr (.inl ⟨D, .inl c⟩))) h
 have I: ¬((it.aP≠1/\(it.aZ<1\/it.aZ>60000000))\/it.bJ<0\/it.bJ>1000):=λc=>h (.inr (.inr (.inl ⟨D, .inr c⟩)));exact⟨⟨G,by omega,by omega⟩,by omega⟩
theorem Zzm {it:Itm} (h: ¬Ce it) (D:it.aP=8):0<=it.aS/\it.aS<=30000:=by
 unfold Ce at h;have G: ¬AF it:=λc=>by have:=c.2;omega
 have I: ¬(it.n<3\/it.n>5\/it.aS<0\/it.aS>30000):=λc=>h (.inr (.inr (.inr ⟨G,D,c⟩)));omega
noncomputable def Ba (aU aZ aX:Int) (s:List Sgm×Int×Pt) (q:Pt):List Sgm×Int×Pt:=if q=s.2.2 then s else(s.1++[⟨q,AB s.2.2 q,aU,aZ,aX⟩],s.2.1+AB s.2.2 q,q)
theorem TN {aU aZ aX:Int}:∀(D:List Pt) (s:List Sgm×Int×Pt),(∀p∈D,bd 67108864 p)->bd 67108864 s.2.2->0<=s.2.1->
  (D.foldl (Ba aU aZ aX) s).1.length<=s.1.length+D.length/\s.2.1<=(D.foldl (Ba aU aZ aX) s).2.1/\(D.foldl (Ba aU aZ aX) s).2.1<=s.2.1+D.length*268435456/\bd 67108864 (D.foldl (Ba aU aZ aX) s).2.2
 |[],s,_,I,N=>⟨by simp,by simp,by simp,I⟩
 |q::D,s,L,I,N=>by
  rw[fc];have O:=L q (by simp);have S:=Im I O;have G:Ba aU aZ aX s q=s\/Ba aU aZ aX s q=(s.1++[⟨q,AB s.2.2 q,aU,aZ,aX⟩],s.2.1+AB s.2.2 q,q):=by unfold Ba;split<;>simp
  rcases G with G|G
  ·rw[G];obtain⟨a,b,c,d⟩:=TN D s (λp M=>L p (by simp[M])) I N (aU:=aU) (aZ:=aZ) (aX:=aX);exact⟨by simp;omega,b,by simp;omega,d⟩
  ·rw[G];obtain⟨a,b,c,d⟩:=TN D (s.1++[⟨q,AB s.2.2 q,aU,aZ,aX⟩],s.2.1+AB s.2.2 q,q) (λp M=>L p (by simp[M])) O (by simp only;omega) (aU:=aU) (aZ:=aZ) (aX:=aX);simp only[ap,bf,cv]at a b c;exact⟨by simp;omega,by omega,by simp;omega,d⟩
structure BSt where
 aF:List Sgm
 aD:List Mrk
 (len aS frm:Int)
 bK:Bool
 (aQ at_:Pt)
def OW (it:Itm):Int:=if syI it then mn (it.aZ*16) 16777216 else 0
def Rh (it:Itm) (s:Int):Int:=if it.aP=8/\(it.n=3\/it.n=4)then it.aS else s
noncomputable def FC (aA:List Itm) (i:Nat) (s:BSt):List Sgm×Int×Pt:=
 (CG aA i s.frm).foldl (Ba i (H0 (vE aA i) s.aS) (OW (vE aA i))) (s.aF,s.len,if s.bK=true then s.at_ else Ax (vE aA i).fr)
noncomputable def F1 (aA:List Itm) (i:Nat) (s:BSt):BSt:=
 if AF (vE aA i)then
  ⟨(FC aA i s).1,s.aD++[⟨(FC aA i s).2.1,U5 aA i,i⟩],(FC aA i s).2.1,s.aS,if 0<=B4 aA i then i else-1,true,if s.bK=true then s.aQ else Ax (vE aA i).fr,(FC aA i s).2.2⟩
 else⟨s.aF,s.aD++[⟨s.len,Tx (vE aA i),i⟩],s.len,Rh (vE aA i) s.aS,s.frm,s.bK,s.aQ,s.at_⟩
noncomputable def Ay (aA:List Itm):Nat->BSt
 |0=>⟨[],[],0,0,-1,false,⟨0,0,0⟩,⟨0,0,0⟩⟩
 |i+1=>F1 aA i (Ay aA i)
structure BOK (aA : List Itm) (i : Nat) (s : BSt) : Prop where
 aF:s.aF.length<=i*65537
 aD:s.aD.length=i
 len:0<=s.len/\s.len<=i*65537*268435456
 aS:0<=s.aS/\s.aS<=30000
 frm:LX aA i s.frm
 at_:s.bK=true->bd 67108864 s.at_
theorem Zco {aA:List Itm} {s:BSt} (L:i<aA.length) (D:∀j<aA.length,¬Ce (vE aA j)) (h:BOK aA i s):BOK aA (i+1) (F1 aA i s):=by
 have G:∀k<aA.length,AF (vE aA k)->drawn (vE aA k):=λk N I=>(LC (D k N) I).1;unfold F1;by_cases I:AF (vE aA i)
 ·rw[aa I];have M:=G i L I;obtain⟨O,X⟩:=W5 M h.frm G;have S:bd 67108864 (if s.bK=true then s.at_ else Ax (vE aA i).fr):=by
   by_cases hb:s.bK=true
   ·rw[aa hb];exact h.at_ hb
   ·rw[ab hb];exact AR (E7 M.1.2.1) (by decide)
  obtain⟨a1,a2,a3,a4⟩:=TN (aU:=i) (aZ:=H0 (vE aA i) s.aS) (aX:=OW (vE aA i)) (CG aA i s.frm) (s.aF,s.len,if s.bK=true then s.at_ else Ax (vE aA i).fr) O S h.len.1;have Y:=h.aF;have T:=h.len;have e1:(i+1)*65537=i*65537+65537:=by rw[f6]
  refine⟨?_,?_,?_,h.aS,?_,λ_=>a4⟩
  ·simp only at a1;show(FC aA i s).1.length<=_;unfold FC;omega
  ·show(s.aD++[_]).length=_;rw[ap,h.aD];rfl
  ·show 0<=(FC aA i s).2.1/\(FC aA i s).2.1<=_;unfold FC;simp only at a2 a3;have e2:(((i+1:Nat):Int))*65537*268435456=(i:Int)*65537*268435456+65537*268435456:=by
    rw[gx,jr,js,js];rfl
   constructor
   ·omega
   ·rw[e2];omega
  ·show LX aA (i+1) (if 0<=B4 aA i then(i:Int)else-1);split
   ·exact .inr ⟨i,rfl,L,M⟩
   ·exact .inl rfl
 ·rw[ab I];have T:=h.len;have U:=h.aF;have e1:(i+1)*65537=i*65537+65537:=by rw[f6]
  refine⟨by show s.aF.length<=_;rw[e1];exact bp U (Nat.le_add_right _ _),?_,?_,?_,h.frm,h.at_⟩
  ·show(s.aD++[_]).length=_;rw[ap,h.aD];rfl
  ·have e2:(((i+1:Nat):Int))*65537*268435456=(i:Int)*65537*268435456+65537*268435456:=by
    rw[gx,jr,js,js];rfl
   show 0<=s.len/\s.len<=_;rw[e2];omega
  ·show 0<=Rh (vE aA i) s.aS/\Rh (vE aA i) s.aS<=30000;unfold Rh;split
   ·rename_i V;exact Zzm (D i L) V.1
   ·exact h.aS
theorem Ybr (aA:List Itm):BOK aA 0 ⟨[],[],0,0,-1,false,⟨0,0,0⟩,⟨0,0,0⟩⟩:=by
 refine⟨i7 _,cv,⟨iq _,?_⟩,⟨iq _,?_⟩, .inl rfl,λh=>by cases h⟩
 ·show(0:Int)<=((0:Nat):Int)*65537*268435456;rw[show((0:Nat):Int)=0 from rfl,Int.zero_mul,Int.zero_mul];exact iq _
 ·show(0:Int)<=30000;omega
theorem Oo {aA:List Itm} (D:∀j<aA.length,¬Ce (vE aA j)):∀i,i<=aA.length->BOK aA i (Ay aA i)
 |0,_=>by rw[Ay];exact Ybr aA
 |i+1,G=>by rw[Ay];exact Zco (by omega) D (Oo D i (by omega))
noncomputable def Bb (aA:List Itm):Pth:=⟨(Ay aA aA.length).aQ,(Ay aA aA.length).aF,(Ay aA aA.length).aD⟩
def Fb:Pt->List Sgm->Pt
 |a,[]=>a
 |_,g::l=>Fb g.to l
abbrev B26:Nat:=67108864
def O9:Pt->List Sgm->Prop
 |_,[]=>True
 |a,g::l=>g.len=AB a g.to/\g.to≠a/\bd B26 g.to/\O9 g.to l
def AW:List Sgm->Int
 |[]=>0
 |g::l=>g.len+AW l
theorem S0 (g:Sgm):∀(a:Pt) (l:List Sgm),Fb a (l++[g])=g.to
 |_,[]=>rfl
 |_,h::l=>by simp only[ba,Fb];exact S0 g h.to l
theorem Q5k {g:Sgm}:∀{a:Pt} {l:List Sgm},O9 a l->g.len=AB (Fb a l) g.to->g.to≠Fb a l->bd B26 g.to->O9 a (l++[g])
 |a,[],_,D,G,I=>⟨D,G,I,trivial⟩
 |a,k::l,h,D,G,I=>⟨h.1,h.2.1,h.2.2.1,Q5k h.2.2.2 D G I⟩
theorem Qf9 (g:Sgm):∀(l:List Sgm),AW (l++[g])=AW l+g.len
 |[]=>by simp[AW]
 |k::l=>by simp only[ba,AW];rw[Qf9 g l];omega
def Qav (aQ:Pt) (s:List Sgm×Int×Pt):Prop:=O9 aQ s.1/\Fb aQ s.1=s.2.2/\AW s.1=s.2.1
theorem Qql {aQ:Pt} {aU aZ aX:Int}:∀(D:List Pt) (s:List Sgm×Int×Pt),(∀p∈D,bd B26 p)->Qav aQ s->Qav aQ (D.foldl (Ba aU aZ aX) s)
 |[],s,_,h=>h
 |q::D,s,I,h=>by
  rw[fc];refine Qql D _ (λp G=>I p (by simp[G])) ?_;unfold Ba;by_cases c:q=s.2.2
  ·rw[aa c];exact h
  ·rw[ab c];obtain⟨M,L,N⟩:=h;refine⟨Q5k M (by rw[L]) (by rw[L];exact c) (I q (by simp)),S0 _ _ _,?_⟩;simp only[Qf9,N]
structure BInv (s : BSt) : Prop where
 bK:s.bK=true->bd B26 s.aQ/\Qav s.aQ (s.aF,s.len,s.at_)
 empty:s.bK=false->s.aF=[]/\s.len=0/\s.aQ=⟨0,0,0⟩
theorem Z8e {aA:List Itm} {s:BSt} (O:i<aA.length) (D:∀j<aA.length,¬Ce (vE aA j)) (L:BOK aA i s) (h:BInv s):BInv (F1 aA i s):=by
 have G:∀k<aA.length,AF (vE aA k)->drawn (vE aA k):=λk S I=>(LC (D k S) I).1;unfold F1;by_cases I:AF (vE aA i)
 ·rw[aa I];have M:=G i O I;obtain⟨N,-⟩:=W5 M L.frm G;refine⟨λ_=> ?_,λhb=>(by cases hb)⟩;unfold FC;by_cases hb:s.bK=true
  ·rw[aa hb,aa hb];obtain⟨g1,g2⟩:=h.bK hb;exact⟨g1,Qql _ _ N g2⟩
  ·rw[ab hb,ab hb];obtain⟨g1,g2,T⟩:=h.empty (by simpa using hb);refine⟨AR (E7 M.1.2.1) (by decide),Qql _ _ N ?_⟩;rw[g1,g2];exact⟨trivial,rfl,rfl⟩
 ·rw[ab I];exact⟨h.bK,h.empty⟩
theorem Tg {aA:List Itm} (D:∀j<aA.length,¬Ce (vE aA j)):∀i,i<=aA.length->BInv (Ay aA i)
 |0,_=>by rw[Ay];exact⟨λh=>(by cases h),λ_=>⟨rfl,rfl,rfl⟩⟩
 |i+1,G=>by rw[Ay];exact Z8e (by omega) D (Oo D i (by omega)) (Tg D i (by omega))
structure GoodPath (p : Pth) : Prop where
 aQ:bd B26 p.aQ
 aF:O9 p.aQ p.aF
 count:p.aF.length<=983055
theorem Qtk {aA:List Itm} (hlen:aA.length<=15) (I:C1 aA=0):GoodPath (Bb aA):=by
 have D:=(PF I).2;have L:=Oo D aA.length (cm _);have G:=Tg D aA.length (cm _);have N:=L.aF;unfold Bb;by_cases hb:(Ay aA aA.length).bK=true
 ·obtain⟨g1,g2,-⟩:=G.bK hb;exact⟨g1,g2,by simp only;omega⟩
 ·obtain⟨g1,-,M⟩:=G.empty (by simpa using hb);refine⟨?_,?_,?_⟩
  ·simp only[M];unfold bd;simp
  ·simp only[g1];trivial
  ·simp only[g1];simp
theorem Q8z (D:bd B26 q) (hb:bd B26 z) (h:z≠q):1<=AB q z/\AB q z<=268435456:=by
 obtain⟨-,L,G,-⟩:=Y6 D hb;have M:sqD q z≠0:=λe=>h (Qe7.1 e).symm;have N:=Qj q z;have I:=Im D hb;refine⟨?_,I.2⟩;by_cases c:AB q z=0
 ·rw[c]at G;omega
 ·omega
theorem Qmr {l:List Sgm} (I:bd B26 q) (h:O9 q l):∀g∈l,1<=g.len/\g.len<=268435456/\bd B26 g.to:=by
 induction l generalizing q with
 |nil=>simp
 |cons k l M=>
  obtain⟨N,L,D,O⟩:=h;intro g G;rcases ay.1 G with rfl|G
  ·rw[N];exact⟨(Q8z I D L).1,(Q8z I D L).2,D⟩
  ·exact M D O g G
theorem Qqk {l:List Sgm} (h:∀g∈l,1<=g.len/\g.len<=268435456/\bd B26 g.to):(l.length:Int)<=AW l/\AW l<=l.length*268435456:=by
 induction l with
 |nil=>simp[AW]
 |cons k l D=>
  have:=D λg G=>h g (by simp[G]);have:=h k (by simp);simp only[AW,bf];omega
end Go.Bm
