/- laid together -/
import Derived.Test.YtnnpdlgenmnekaaGreatDoorMx3
import Derived.Test.YtnnpdlgenmnekaaGreatDoorBmTy
set_option linter.unusedVariables false
set_option linter.unusedSimpArgs false
set_option maxRecDepth 100000
open Go.IntKind (wrap)
variable {p:Go.Bm.Pth} {i A X:Nat} {a k u b v r:Int} {M Z W T P O H:Go.Bm.Fn} {d q z:Go.Bm.Pt} {l:Go.Bm.Rw} {N:Go.Bm.Lp} {g:Go.Bm.Sgm}
namespace Go.Bm
theorem Jt {x:Int} (h:i64 x):Gf [I x]=some [U (x.natAbs:Int)]:=by
  unfold i64 at h;unfold Gf;rw[Zbr];by_cases D:x<0
  · rw[Ea D,Ad (x:=x+1),Ad (x:=0-(x+1)),HQ (x:=0-(x+1)) (by omega),HQ (x:=0-(x+1)+1) (by omega)]
    rw[show 0-(x+1)+1=(x.natAbs:Int) by omega]
  · rw[Bc D,HQ (x:=x) (by omega)]
    rw[show x=(x.natAbs:Int) by omega];simp
def sgn (a b:Int):Int:=if a=0 then 0 else if b=0 then 0 else if(a<0↔b<0)then 1 else-1
theorem XV (a b:Int):Gr [I a,I b]=some [I (sgn a b)]:=by
  unfold Gr;rw[Zf7];simp only[go_sem];unfold sgn
  repeat' split
  all_goals rfl
def GP (a b:Nat):Int:=if a<b then-1 else if a=b then 0 else 1
def Lj (a b:Int):Int:=if a<b then-1 else if a=b then 0 else 1
noncomputable def w64:Nat:=Classical.choose (⟨18446744073709551616,rfl⟩:∃n:Nat,n=18446744073709551616)
theorem Ca:w64=18446744073709551616:=gj (⟨18446744073709551616,rfl⟩:∃n:Nat,n=18446744073709551616)
theorem Nq {x:Int} (h:i64 x):x.natAbs<w64:=by unfold i64 at h;have:=Ca;omega
theorem Q6d {x y:Nat} (G:x<w64) (I:y<w64):Ib [U x,U y]=some [U ((x*y/w64:Nat):Int),U ((x*y%w64:Nat):Int)]:=by
  rw[Ca]at G I;have L:∀z:Nat,z<18446744073709551616->inU (z:Int)=true:=by
    intro z M;have D:FI=18446744073709551616:=rfl;simp only[inU,D,aj,dl];omega
  show RU (x:Int) (y:Int)=_;unfold RU;rw[L x G,L y I,Ca];rfl
theorem Zu3 {x y:Nat} (D:x<w64) (G:y<w64):EB [U x,U y]=some [U ((x*y/w64:Nat):Int),U ((x*y%w64:Nat):Int)]:=by
  unfold EB;rw[Zhm,Q6d D G];simp only[go_sem]
theorem Quv (a b c d:Nat) (hb:b<w64) (D:d<w64):H6 [U a,U b,U c,U d]=some [I (GP (a*w64+b) (c*w64+d))]:=by
  unfold H6;rw[Zim];simp only[go_sem,jp];unfold GP;simp only[Ca]at*;by_cases G:a<c
  · rw[ab,ab]
  · rw[aa]
    by_cases L:a=c
    · rw[ab]
      by_cases M:b<d
      · rw[ab,ab]
      · rw[aa]
        by_cases N:b=d
        · rw[ab,aa,ab]
        · rw[aa,aa,aa]
    · rw[aa,aa,aa,aa]
theorem UR (a b:Int):sgn a b*((a.natAbs*b.natAbs:Nat):Int)=a*b:=by
  unfold sgn;by_cases I:a=0
  · subst I;simp
  · by_cases L:b=0
    · subst L;simp
    · rw[aa I,aa L]
      have e:((a.natAbs*b.natAbs:Nat):Int)=(a.natAbs:Int)*(b.natAbs:Int):=by simp
      rw[e];by_cases D:a<0<;>by_cases G:b<0
      · rw[ab (by simp[D,G]),show(a.natAbs:Int)= -a by omega,show(b.natAbs:Int)= -b by omega,Int.neg_mul_neg,ex]
      · rw[aa (by simp[D,G]),show(a.natAbs:Int)= -a by omega,show(b.natAbs:Int)=b by omega,jn,ex,jn,Int.neg_neg]
      · rw[aa (by simp[D,G]),show(a.natAbs:Int)=a by omega,show(b.natAbs:Int)= -b by omega,Int.mul_neg,Int.neg_mul_neg,ex]
      · rw[ab (by simp[D,G]),show(a.natAbs:Int)=a by omega,show(b.natAbs:Int)=b by omega,ex]
theorem Tu (a b:Int):(sgn a b=0/\a*b=0)\/(sgn a b=1/\0<a*b)\/(sgn a b= -1/\a*b<0):=by
  have h:=UR a b;by_cases D:a=0
  · subst D;left;simp[sgn]
  · by_cases G:b=0
    · subst G;left;simp[sgn]
    · have L:0<a.natAbs*b.natAbs:=Nat.mul_pos (by omega) (by omega)
      generalize a.natAbs*b.natAbs=p at*;generalize a*b=x at*;unfold sgn at h⊢;rw[aa D,aa G]at h⊢;by_cases I:(a<0↔b<0)
      · rw[ab I]at h⊢;right;left;exact⟨rfl,by omega⟩
      · rw[aa I]at h⊢;right;right;exact⟨rfl,by omega⟩
theorem Z3o {a b c d:Int}:(if sgn a b≠sgn c d then(if sgn a b<sgn c d then-1 else 1)else sgn a b*GP (a.natAbs*b.natAbs) (c.natAbs*d.natAbs))=Lj (a*b) (c*d):=by
  have I:=UR a b;have L:=UR c d;have D:=Tu a b;have G:=Tu c d;unfold Lj GP;generalize a.natAbs*b.natAbs=p at*;generalize c.natAbs*d.natAbs=q at*;generalize a*b=x at*;generalize c*d=y at*;generalize sgn a b=u at*;generalize sgn c d=v at*;rcases D with⟨rfl,g1⟩|⟨rfl,g1⟩|⟨rfl,g1⟩<;>rcases G with⟨rfl,g2⟩|⟨rfl,g2⟩|⟨rfl,g2⟩
  · rw[aa (by simp),aa (show¬x<y by omega),ab (show x=y by omega)];exact jc _
  · rw[ab (by simp),ab,ab]
  · rw[ab (by simp),aa,aa,aa]
  · rw[ab (by simp),aa,aa,aa]
  · rw[aa (by simp)]
    have e1:(p:Int)=x:=by omega
    have e2:(q:Int)=y:=by omega
    by_cases h:x<y
    · rw[ab,ab h];rfl
    · rw[aa,aa h]
      by_cases h':x=y
      · rw[ab,ab h'];rfl
      · rw[aa,aa h'];rfl
  · rw[ab (by simp),aa,aa,aa]
  · rw[ab (by simp),ab,ab]
  · rw[ab (by simp),ab,ab]
  · rw[aa (by simp)]
    have e1:(p:Int)= -x:=by omega
    have e2:(q:Int)= -y:=by omega
    by_cases h:x<y
    · rw[aa,aa,ab h];rfl
    · rw[aa h]
      by_cases h':x=y
      · rw[aa,ab,ab h'];rfl
      · rw[ab,aa h'];rfl
theorem Q0m (p:Nat):p/w64*w64+p%w64=p:=by have:=gf p w64;rw[ff]at this;exact this
theorem RA:0<w64:=by rw[Ca];omega
theorem Zno (p q:Nat): -1<=GP p q/\GP p q<=1:=by unfold GP;(repeat' split)<;>omega
theorem Zib (a b:Int): -1<=sgn a b/\sgn a b<=1:=by unfold sgn;(repeat' split)<;>omega
theorem Z34 (D: -1<=u/\u<=1) (G: -1<=v/\v<=1): -1<=u*v/\u*v<=1:=by
  have:u= -1\/u=0\/u=1:=by omega
  rcases this with rfl|rfl|rfl<;>omega
theorem OY {x y:Nat} (G:x<w64) (I:y<w64):∃D lo:Nat,EB [U x,U y]=some [U D,U lo]/\D*w64+lo=x*y/\lo<w64:=
  ⟨_,_,Zu3 G I,Q0m _,il _ RA⟩
theorem Zb4 {a b c d:Int} (O N L T:Fn) (D V G X:Nat)
   (Y:L [I a]=some [U a.natAbs]) (kb:L [I b]=some [U b.natAbs]) (kc:L [I c]=some [U c.natAbs]) (kd:L [I d]=some [U d.natAbs])
   (ks:∀a b,T [I a,I b]=some [I (sgn a b)])
   (e1:N [U a.natAbs,U b.natAbs]=some [U D,U V]) (f1:N [U c.natAbs,U d.natAbs]=some [U G,U X])
   (M:O [U D,U V,U G,U X]=some [I (GP (a.natAbs*b.natAbs) (c.natAbs*d.natAbs))]):Qmy O N L T [I a,I b,I c,I d]=some [I (Lj (a*b) (c*d))]:=by
  have hm:=Z34 (Zib a b) (Zno (a.natAbs*b.natAbs) (c.natAbs*d.natAbs));rw[Zby];simp only[go_sem,ks,Y,kb,kc,kd,e1,f1,M];rw[<-Z3o];rw[Ad];by_cases D:sgn a b≠sgn c d
  · rw[ab D,ab D]
    by_cases G:sgn a b<sgn c d
    · rw[ab G,ab G]
    · rw[aa G,aa G]
  · rw[aa D,aa D]
theorem Z3r {a b c d:Int} (G:i64 a) (hb:i64 b) (L:i64 c) (M:i64 d):O0 [I a,I b,I c,I d]=some [I (Lj (a*b) (c*d))]:=by
  obtain⟨N,O,e1,e2,e3⟩:=OY (Nq G) (Nq hb);obtain⟨T,U,V,X,Y⟩:=OY (Nq L) (Nq M);have D:=Quv N O T U e3 Y;rw[e2,X]at D;unfold O0;exact Zb4 _ _ _ _ _ _ _ _ (Jt G) (Jt hb) (Jt L) (Jt M) XV e1 V D
theorem eB {α β:Type} {a:Option α} {f:α->Option β} {x:α} {r:Option β} (h:a=some x) (g:f x=r):a.bind f=r:=by rw[h];exact g
theorem eT {α:Type} {c:Bool} {a b r:α} (h:c=true) (g:a=r):cond c a b=r:=by rw[h];exact g
theorem eF {α:Type} {c:Bool} {a b r:α} (h:c=false) (g:b=r):cond c a b=r:=by rw[h];exact g
theorem eC {α:Type} {c:Bool} {a b r:α} (h:c=true->a=r) (g:c=false->b=r):cond c a b=r:=by cases c;exact g rfl;exact h rfl
theorem beF (h:a≠b):(a==b)=false:=by simpa using h
theorem beT (h:a=b):(a==b)=true:=by simpa using h
theorem bnF (h:a=b):(a !=b)=false:=by simpa using h
theorem bnT (h:a≠b):(a !=b)=true:=by simpa using h
theorem KX {α β:Type} {a:Option α} {f:α->Option β} (h:a.isSome=true) (g:∀o,a=some o->(f o).isSome=true):(a.bind f).isSome=true:=by
 cases a with
 |none=>simp at h
 |some o=>exact g o rfl
theorem Fv {α:Type} {c:Bool} {a b:Option α} (h:c=true->a.isSome=true) (g:c=false->b.isSome=true):(cond c a b).isSome=true:=by
 cases c
 ·exact g rfl
 ·exact h rfl
def Out {α:Type} (p:α->Prop) (a:Option α):Prop:=∃o,a=some o/\p o
theorem Out.is {α:Type} {p:α->Prop} {a:Option α} (h:Out p a):a.isSome=true:=by obtain⟨o,h,_⟩:=h;rw[h];rfl
theorem Out.of {α:Type} {a:Option α} (h:a.isSome=true):Out (λ_=>True) a:=by
 cases a with
 |none=>simp at h
 |some o=>exact⟨o,rfl,trivial⟩
theorem Out.bind {α β:Type} {p:α->Prop} {q:β->Prop} {a:Option α} {f:α->Option β} (h:Out p a) (g:∀o,p o->Out q (f o)):Out q (a.bind f):=by
 obtain⟨o,rfl,h⟩:=h;exact g o h
theorem Out.ibind {α β:Type} {q:β->Prop} {a:Option α} {f:α->Option β} (h:a.isSome=true) (g:∀o,a=some o->Out q (f o)):Out q (a.bind f):=by
 cases a with
 |none=>simp at h
 |some o=>exact g o rfl
theorem Out.cond {α:Type} {p:α->Prop} {c:Bool} {a b:Option α} (h:c=true->Out p a) (g:c=false->Out p b):Out p (cond c a b):=by
 cases c
 ·exact g rfl
 ·exact h rfl
theorem Out.some {α:Type} {p:α->Prop} {o:α} (h:p o):Out p (some o):=⟨o,rfl,h⟩
theorem Out.mono {α:Type} {p q:α->Prop} {a:Option α} (h:Out p a) (g:∀o,p o->q o):Out q a:=by obtain⟨o,h,D⟩:=h;exact⟨o,h,g o D⟩
theorem Cd {S:Type} (enc:S->List AC) (Inv:S->Prop) (m:S->Nat) (Q:Nat×List AC->Prop)
  (h:∀s,Inv s->Out (λo=>(o.1=0/\∃G,o.2=enc G/\Inv G/\m G<m s)\/(o.1≠0/\Q o)) (N (enc s))) (s:S) (L:Inv s):Out Q (Am N (enc s)):=by
 obtain ⟨o, I, _, D⟩ := Qut (step := N) enc Inv m Q (λs L => by
  obtain⟨o,I,D⟩:=h s L;rcases D with⟨D,G,M,O,T⟩|⟨D,M⟩
  ·refine .inl ⟨G,?_,O,T⟩;rw[I,<-M,<-D]
  ·exact .inr ⟨o,I,D,M⟩) s L
 exact⟨o,I,D⟩
theorem Bg {p:Prop} [Decidable p] (h:decide p=true):p:=of_decide_eq_true h
theorem Bd {p:Prop} [Decidable p] (h:decide p=false): ¬p:=of_decide_eq_false h
theorem inB {n:Nat} (D:0<=a) (G:a<(n:Int)):(decide (0<=a)&&decide (a<(n:Int)))=false->False:=by
 intro h;rcases Bool.and_eq_false_iff.1 h with c|c
 ·exact Bd c D
 ·exact Bd c G
theorem BF (h:i<=A):Nat.ble i A=true:=gh h
theorem Qw6 (a b c d:Int):(Hx [I a,I b,I c,I d]).isSome=true:=by
 unfold Hx;rw[Qzb]
 repeat' first|exact rfl|refine Fv (λ_=> ?_) (λ_=> ?_)
 rename_i D G;simp at D G;omega
theorem S8 (a b c:Int):EZ [I a,I b,I c]=some [B (decide (1<=a/\a<=65536/\2<=b/\b<=65536/\1<=c/\c<=16777216))]:=by
 unfold EZ;rw[Z7u];by_cases D:1<=a<;>by_cases G:a<=65536<;>by_cases L:2<=b<;>by_cases M:b<=65536<;>by_cases N:1<=c<;>by_cases O:c<=16777216<;>simp[D,G,L,M,N,O]
theorem Zkr (h:∀a b c d,(M [I a,I b,I c,I d]).isSome=true) (a b c v x:Int):(S0 M [I a,I b,I c,I v,I x]).isSome=true:=by
 rw[Qum]
 repeat' first|exact rfl|exact h _ _ _ _|refine Fv (λ_=> ?_) (λ_=> ?_)|refine KX ?_ λ_ _=> ?_
theorem Qma (a b c v x:Int):(Hn [I a,I b,I c,I v,I x]).isSome=true:=Zkr Qw6 a b c v x
theorem Zp6 {ML MV:Fn} (D:∀a b c d,(ML [I a,I b,I c,I d]).isSome=true) {v a b c low aY:Int} (G: -9000000000000<=low/\low<=9000000000000) (L: -9000000000000<=aY/\aY<=9000000000000):
  Out (λo=>o.1=1) (Am (Mt ML MV) [I v,I low,I aY,I a,I b,I c]):=by
 refine Cd (λs:Int×Int=>[I v,I s.1,I s.2,I a,I b,I c]) (λs=>(-9000000000000<=s.1/\s.1<=9000000000000)/\(-9000000000000<=s.2/\s.2<=9000000000000)) (λs=>(s.2-s.1).toNat) _ ?_ (low,aY) ⟨G,L⟩;rintro⟨l,h⟩ ⟨M,N⟩;dsimp only at*;rw[Xo];refine .cond (λc=> ?_) (λc=> ?_)
 ·have c:=Bg c;have e:V (h-V ((V (h-l)).tdiv 2))=h-(h-l)/2:=by
   rw[Ad (x:=h-l),bm (by omega),Ad (x:=(h-l)/2),Ad]
  rw[e];refine .ibind (D _ _ _ _) λo _=> ?_;refine .cond (λ_=> ?_) (λ_=> ?_)
  ·exact .some (.inl ⟨rfl,(h-(h-l)/2,h),rfl,by dsimp only;omega,by dsimp only;omega⟩)
  ·refine .some (.inl ⟨rfl,(l,h-(h-l)/2-1),?_,by dsimp only;omega,by dsimp only;omega⟩);rw[Ad (x:=h-(h-l)/2-1)]
 ·exact .some (.inr ⟨by simp,rfl⟩)
theorem Zof (L:∀a b c d,(M [I a,I b,I c,I d]).isSome=true) (hV:∀a b c,Z [I a,I b,I c]=some [B (decide (1<=a/\a<=65536/\2<=b/\b<=65536/\1<=c/\c<=16777216))]) (a b c v x:Int):
  (SW M Z (Am (Mt M Z)) [I a,I b,I c,I v,I x]).isSome=true:=by
 rw[Q8s,hV];simp only[am];refine Fv (λ_=>rfl) λN=>Fv (λ_=>rfl) λD=>Fv (λ_=>rfl) λG=> ?_;simp only[go_sem,Bool.not_eq_false',dl]at N;have D:=Bd D;have G:=Bd G;have U: -1099511627776<=x/\x<=1099511627776:=by
  unfold mx at D;unfold mn at G;split at D<;>split at G<;>omega
 obtain⟨o,O,T⟩:=Zp6 (MV:=Z) L (v:=v) (a:=a) (b:=b) (c:=c) (low:=V (V (0-x)-b)) (aY:=mn (V (b-x)) a)
  (by rw[Ad (x:=0-x),Ad];omega) (by rw[Ad (x:=b-x)];unfold mn;split<;>omega)
 rw[O];simp only[am,T];rfl
theorem Z8b (a b c v x:Int):(F4 [I a,I b,I c,I v,I x]).isSome=true:=Zof Qw6 S8 a b c v x
theorem Zs5 (hB:∀a b c v x,(M [I a,I b,I c,I v,I x]).isSome=true) {a b c v x:Int}:
  Out (λo=>o.1=1\/o.1=2/\(wA o.2 0).length<=4096) (Am (J1 M Z W) [.vC Aa [],I v,I x,I a,I b,I c]):=by
 refine Cd (λs:Rw×Int×Int=>[.vC Aa s.1,I s.2.1,I s.2.2,I a,I b,I c]) (λs=>s.1.length<=4096) (λs=>4096-s.1.length) _ ?_ ([],v,x) (by simp);rintro⟨l,v,x⟩ h;dsimp only at*;rw[Tg];refine .cond (λ_=> ?_) (λ_=> ?_)
 ·refine .cond (λ_=> ?_) (λD=> ?_)
  ·exact .some (.inr ⟨by simp, .inl rfl⟩)
  ·have D: ¬((l.length:Int)=4096):=by simpa using D
   refine .ibind (hB _ _ _ _ _) λo _=> ?_;refine .cond (λ_=> ?_) (λG=> ?_)
   ·exact .some (.inl ⟨rfl,(_,_,_),rfl,by simp;omega,by simp;omega⟩)
   ·rw[BF (by simp;omega)]at G;cases G
 ·exact .some (.inr ⟨by simp, .inr ⟨rfl,h⟩⟩)
theorem Zoi (hB:∀a b c v x,(M [I a,I b,I c,I v,I x]).isSome=true) (D:∀a b c v x,(Z [I a,I b,I c,I v,I x]).isSome=true) (hV:∀a b c,W [I a,I b,I c]=some [B (decide (1<=a/\a<=65536/\2<=b/\b<=65536/\1<=c/\c<=16777216))]) (a b c v x:Int):
  Out (λo=>(wA o 0).length<=4096) (Tt M Z W (Am (J1 M Z W)) [I a,I b,I c,I v,I x]):=by
 rw[Qqf,hV];simp only[am];refine .cond (λ_=> .some (by simp[gA,wA,bA,jA,nth,BQ])) λ_=> .ibind (D _ _ _ _ _) λo _=> .cond (λ_=> .some (by simp[gA,wA,bA,jA,nth,BQ])) λ_=> ?_;refine .bind (Zs5 hB) λo h=> ?_;rcases h with h|⟨h,G⟩
 ·rw[h];exact .some (by simp[gA,wA,bA,jA,nth,BQ])
 ·rw[h];exact .some G
theorem Zi0 (a b c v x:Int):Out (λo=>(wA o 0).length<=4096) (LN [I a,I b,I c,I v,I x]):=Zoi Z8b Qma S8 a b c v x
theorem Q20 {sp out:Rw} (D:out.length=sp.length) (G:sp.length<=4096):
  Out (λo=>o.1=1/\(wA o.2 0).length=sp.length) (Am (I4 M) [.vC Aa out,I u, .vC Aa sp,I (sp.length:Int),I 0]):=by
 refine Cd (λs:Rw×Int×Nat=>[.vC Aa s.1,I s.2.1, .vC Aa sp,I (sp.length:Int),I (s.2.2:Int)]) (λs=>s.1.length=sp.length/\s.2.2<=sp.length) (λs=>sp.length-s.2.2) _ ?_ (out,u,0) ⟨D,by simp⟩;rintro⟨l,u,i⟩ ⟨g1,g2⟩;dsimp only at*;rw[Q0b];refine .cond (λc=> ?_) (λ_=> ?_)
 ·have c:=Bg c;refine .cond (λ_=> ?_) (λh=> ?_)
  ·refine .cond (λ_=> ?_) (λh=> ?_)
   ·have e:=Ad (x:=(i:Int)+1);rw[e];generalize V (u+gA (nth [] sp (i:Int).toNat) 0)=z;exact .some (.inl ⟨rfl,(l.set (i:Int).toNat [I z],z,i+1),rfl,by simp;omega,by simp;omega⟩)
   ·simp at h;omega
  ·simp at h;omega
 ·exact .some (.inr ⟨by simp,rfl,g1⟩)
theorem Ze1 (D:∀a b c v x,Out (λo=>(wA o 0).length<=4096) (M [I a,I b,I c,I v,I x])) (a b c G L N O T U:Int):
  Out (λo=>(wA o 0).length<=4096) (Rn M (Am (I4 M)) [I a,I b,I c,I G,I L,I N,I O,I T,I U]):=by
 rw[Qcb];refine .bind (D _ _ _ _ _) λo h=> ?_;generalize wA o 0=sp at*;refine .cond (λ_=> .some (by simp[gA,wA,bA,jA,nth,BQ])) λ_=> ?_;refine .cond (λ_=> ?_) λc=>by simp at c
 refine .cond (λ_=> ?_) λc=>by simp at c;omega
 refine .bind (Q20 (by simp) h) λo g=> ?_;rw[g.1];exact .some (by show(wA o.2 0).length<=4096;omega)
theorem Q93 (a b c D G L M N O:Int):Out (λo=>(wA o 0).length<=4096) (EA [I a,I b,I c,I D,I G,I L,I M,I N,I O]):=Ze1 Zi0 a b c D G L M N O
theorem Z37 (h:2^(X+1)*i+2^X<w64):wrap .u64 (((BitVec.ofInt IntKind.u64.bits ((2^(X+1)*i:Nat):Int)|||BitVec.ofInt IntKind.u64.bits ((2^X:Nat):Int)).toNat:Nat):Int)=((2^(X+1)*i+2^X:Nat):Int):=by
 rw[Ca]at h;have e:(BitVec.ofInt IntKind.u64.bits ((2^(X+1)*i:Nat):Int)|||BitVec.ofInt IntKind.u64.bits ((2^X:Nat):Int)).toNat=2^(X+1)*i+2^X:=by
  rw[BitVec.toNat_or];have e1:∀v:Nat,v<18446744073709551616->(BitVec.ofInt IntKind.u64.bits (v:Int)).toNat=v:=by
   intro v I;simp only[IntKind.bits,j9];omega
  have D:0<2^X:=f9 _;generalize G:2^(X+1)*i=A at*;rw[e1 _ (by omega),e1 _ (by omega),<-G];exact(Nat.two_pow_add_eq_or_of_lt (Nat.pow_lt_pow_right (by omega) (by omega)) i).symm
 rw[e,HQ (by omega)]
theorem Zct (k:Nat):((2^(k+1):Nat):Int).fdiv (2^min (Int.toNat 1) IntKind.u64.bits)=((2^k:Nat):Int):=by
 have e:(2^min (Int.toNat 1) IntKind.u64.bits:Int)=2:=rfl;rw[e,fu _ (by omega),ji];omega
theorem Zst:(1:Int).fdiv (2^min (Int.toNat 1) IntKind.u64.bits)=0:=rfl
theorem Qtk (T:∀x y:Nat,x<w64->y<w64->∃hi lo:Nat,Z [U x,U y]=some [U hi,U lo]/\hi*w64+lo=x*y/\lo<w64)
  (V:∀a b c d:Nat,b<w64->d<w64->M [U a,U b,U c,U d]=some [I (GP (a*w64+b) (c*w64+d))]) {k m hi lo:Nat} {bit:Int} (L:lo<w64) (hb:((2^k:Nat):Int).fdiv (2^min (Int.toNat 1) IntKind.u64.bits)=bit) (h:2^(k+1)*m+2^k<w64):
  LT M Z [U ((2^(k+1)*m:Nat):Int),U ((2^k:Nat):Int),U hi,U lo]=
   some (0,[U (((if(2^(k+1)*m+2^k)*(2^(k+1)*m+2^k)<=hi*w64+lo then 2^(k+1)*m+2^k else 2^(k+1)*m):Nat):Int),U bit,U hi,U lo]):=by
 obtain⟨G,X,e1,e2,e3⟩:=T _ _ h h;have D:=V G X hi lo e3 L;rw[e2]at D;have N:0<2^k:=f9 _;rw[Q77,Z37 h,hb];simp only[go_sem,e1,D];rw[ab];generalize(2^(k+1)*m+2^k)*(2^(k+1)*m+2^k)=q at*;unfold GP;by_cases G:q<hi*w64+lo
 ·rw[ab G,ab,ab]
 ·rw[aa G];by_cases O:q=hi*w64+lo
  ·rw[ab O,ab,ab]
  ·rw[aa O,aa,aa]
theorem Qbq {T V:Fn} (M:∀x y:Nat,x<w64->y<w64->∃hi lo:Nat,V [U x,U y]=some [U hi,U lo]/\hi*w64+lo=x*y/\lo<w64)
  (N:∀a b c d:Nat,b<w64->d<w64->T [U a,U b,U c,U d]=some [I (GP (a*w64+b) (c*w64+d))]) {hi lo:Nat} (D:lo<w64):∀(k m:Nat),2^(k+1)*m+2^(k+1)<=w64->
  (2^(k+1)*m)*(2^(k+1)*m)<=hi*w64+lo->hi*w64+lo<(2^(k+1)*m+2^(k+1))*(2^(k+1)*m+2^(k+1))->
  ∃r:Nat,Am (LT T V) [U ((2^(k+1)*m:Nat):Int),U ((2^k:Nat):Int),U hi,U lo]=some (1,[U r])/\r*r<=hi*w64+lo/\hi*w64+lo<(r+1)*(r+1)/\r<w64
 |0,m,hw,O,X=>by
  have Y:=Qtk M N (k:=0) (m:=m) (hi:=hi) (bit:=0) D Zst (by simp at hw⊢;omega);rw[BB Y];have G:∀r:Nat,Am (LT T V) [U (r:Int),U 0,U hi,U lo]=some (1,[U r]):=by
   intro r;refine Bn ?_ (by simp);rw[Q77];simp only[go_sem];rw[aa]
  simp only[fg,Nat.pow_one,Nat.pow_zero]at*;by_cases h:(2*m+1)*(2*m+1)<=hi*w64+lo
  ·rw[ab h,G];exact⟨_,rfl,h,X,by omega⟩
  ·rw[aa h,G];exact⟨_,rfl,O,by omega,by omega⟩
 |k+1,m,hw,O,X=>by
  have e1:2^(k+1+1)*m=2^(k+1)*(2*m):=by rw[ji 2 (k+1),ia]
  have e2:2^(k+1+1)*m+2^(k+1)=2^(k+1)*(2*m+1):=by rw[e1,Nat.mul_add,Nat.mul_one]
  have e3:2^(k+1+1)=2^(k+1)+2^(k+1):=by rw[ji 2 (k+1)];omega
  have a0:0<2^(k+1):=f9 _;have Y:=Qtk M N (k:=k+1) (m:=m) (hi:=hi) (bit:=((2^k:Nat):Int)) D (Zct k) (by omega);rw[BB Y];by_cases h:(2^(k+1+1)*m+2^(k+1))*(2^(k+1+1)*m+2^(k+1))<=hi*w64+lo
  ·rw[ab h,e2];rw[e2]at h;refine Qbq M N D k (2*m+1) ?_ h ?_
   ·rw[<-e2];omega
   ·rw[<-e2];rw[show 2^(k+1+1)*m+2^(k+1)+2^(k+1)=2^(k+1+1)*m+2^(k+1+1) by omega];exact X
  ·rw[aa h];have h3:hi*w64+lo<(2^(k+1+1)*m+2^(k+1))*(2^(k+1+1)*m+2^(k+1)):=by omega
   have L:2^(k+1+1)*m+2^(k+1)<=w64:=by omega
   rw[e1]at O h3 L⊢;exact Qbq M N D k (2*m) L O h3
theorem Zul (T:∀x y:Nat,x<w64->y<w64->∃hi lo:Nat,Z [U x,U y]=some [U hi,U lo]/\hi*w64+lo=x*y/\lo<w64)
  (V:∀a b c d:Nat,b<w64->d<w64->M [U a,U b,U c,U d]=some [I (GP (a*w64+b) (c*w64+d))]) {hi lo:Nat} (D:hi<w64) (G:lo<w64):
  ∃r:Nat,Qax M Z (Am (LT M Z)) [U hi,U lo]=some [U r]/\r*r<=hi*w64+lo/\hi*w64+lo<(r+1)*(r+1)/\r<w64:=by
 have hb:hi*w64+lo<w64*w64:=by
  have:hi*w64+w64<=w64*w64:=by rw[<-iu];exact bq _ D
  omega
 obtain⟨r,O,X,Y,h4⟩:=Qbq T V (hi:=hi) (lo:=lo) G 63 0 (by rw[Ca];omega) (by simp) (by rw[Nat.mul_zero,fg,show 2^(63+1)=w64 by rw[Ca]];exact hb);refine⟨r,?_,X,Y,h4⟩;rw[Nat.mul_zero]at O;generalize Am (LT M Z)=N at*;have L:N [AC.int IntKind.u64 0,AC.int IntKind.u64 9223372036854775808,AC.int IntKind.u64 hi,AC.int IntKind.u64 lo]=some (1,[U r]):=O;rw[Z51,L];simp only[go_sem]
theorem Zbc {hi lo:Nat} (D:hi<w64) (G:lo<w64):∃r:Nat,JH [U hi,U lo]=some [U r]/\r*r<=hi*w64+lo/\hi*w64+lo<(r+1)*(r+1)/\r<w64:=
 Zul (λ_ _ I L=>OY I L) Quv D G
theorem Qef {n:Nat} (h:n<9223372036854775808):Fd [U n,B false]=some [I n,B true]:=by
 unfold Fd;rw[Q9q];simp only[go_sem];rw[aa (by simp),ab (by simp),ab,Ad]
theorem Zqo {x y b:Nat} (I:x<w64) (L:y<w64) (hb:b=0\/b=1):Kn [U x,U y,U b]=some [U (((x:Int)-y-b)%FI),U (if x<y+b then 1 else 0)]:=by
 rw[Ca]at I L;have D:FI=18446744073709551616:=rfl;have M:∀z:Nat,z<18446744073709551616->inU (z:Int)=true:=by
  intro z N;simp only[inU,D,aj,dl];omega
 have G:(decide ((b:Int)=0)||decide ((b:Int)=1))=true:=by
  rcases hb with rfl|rfl<;>simp
 unfold Kn;simp only[HU,Mk,LP,HH,gA,jA,wA,bA];rw[M x I,M y L,G];by_cases h:x<y+b
 ·rw[ab h,Ea (p:=(x:Int)<y+b) (by omega)];simp
 ·rw[aa h,Bc (p:=(x:Int)<y+b) (by omega)];simp
theorem Q0d {x y:Nat} (G:x<w64) (I:y<=x):Kn [U x,U y,U 0]=some [U ((x-y:Nat):Int),U 0]:=by
 have:=Zqo (x:=x) (y:=y) (b:=0) G (by omega) (.inl rfl);have D:FI=18446744073709551616:=rfl;rw[Ca]at G;rw[aa,D,show((x:Int)-y-((0:Nat):Int))%18446744073709551616=((x-y:Nat):Int) by omega]at this;exact this
theorem Zr7 {n r:Nat} (hn:n<9223372036854775807) (O:r*r<=n) (V:T [U 0,U n]=some [U r]) (X:W [U r,U r]=some [U 0,U ((r*r:Nat):Int)]) (G:Z [U n,U ((r*r:Nat):Int),U 0]=some [U ((n-r*r:Nat):Int),U 0])
  (L:Z [U 0,U 0,U 0]=some [U 0,U 0]) (N:∀k:Nat,k<9223372036854775808->M [U k,B false]=some [I k,B true]) (D:a=1\/a=2):
  XI M Z W T [U 0,U n,I a]=some [I ((if(a=1/\r*r<n)\/(a=2/\r*r+r<n)then r+1 else r:Nat):Int),B true]:=by
 have Y:r<=r*r:=by
  rcases ez r with h|h
  ·subst h;simp
  ·exact Nat.le_mul_of_pos_left r h
 have hw:wrap .u64 ((r:Int)+1)=((r+1:Nat):Int):=by rw[HQ (by omega)];omega
 have s1:=N r (by omega);have s2:=N (r+1) (by omega);rw[Zxm];simp only[go_sem,V,X,G,L,hw,s1,s2];rcases D with rfl|rfl
 ·rw[ab rfl,aa];by_cases h:r*r<n
  ·rw[ab,ab]
  ·rw[aa,aa,aa]
 ·rw[aa,ab rfl,aa];by_cases h:r*r+r<n
  ·rw[ab,ab]
  ·rw[aa,aa]
theorem Zgt {n:Nat} (N:n<9223372036854775807) (D:Z [I a]=some [B true]) (G:M [U 0,U n,I a]=some [I k,B true]):Zd M Z [I n,I a]=some [I k,B true]:=by
 have L:wrap .u64 (n:Int)=(n:Int):=HQ (by omega);rw[Z0p];simp only[go_sem,D,L,G];rw[aa,aa (by simp)]
theorem Qhl (h:a=0\/a=1\/a=2):Gk [I a]=some [B true]:=by
 unfold Gk;rw[Zve];rcases h with rfl|rfl|rfl<;>rfl
theorem Qui {n:Nat} {mode:Int} (T:n<9223372036854775807) (D:mode=1\/mode=2):
  ∃r:Nat,IM [I n,I mode]=some [I ((if(mode=1/\r*r<n)\/(mode=2/\r*r+r<n)then r+1 else r:Nat):Int),B true]/\r*r<=n/\n<(r+1)*(r+1):=by
 have G:n<w64:=by rw[Ca];omega
 obtain⟨r,Y,M,V,X⟩:=Zbc (hi:=0) (lo:=n) RA G;rw[Nat.zero_mul,fg]at M V;obtain⟨L,lo,e1,e2,e3⟩:∃L lo:Nat,Ib [U r,U r]=some [U L,U lo]/\L*w64+lo=r*r/\lo<w64:=⟨_,_,Q6d X X,Q0m _,il _ RA⟩;have N:L=0:=by
  rcases ez L with h|h
  ·exact h
  ·have:=bq w64 h;omega
 subst N;have O:lo=r*r:=by omega
 subst O;have z:=Q0d (x:=0) (y:=0) RA (cm _);refine⟨r,?_,M,V⟩;exact Zgt T (Qhl (.inr D)) (Zr7 T M Y e1 (Q0d G M) z (λk hk=>Qef hk) D)
def AP (a b:Int):Int:=(2*a+b)/(2*b)
theorem FH (hb:0<b) (D:k*(2*b)<=2*a+b) (G:2*a+b<(k+1)*(2*b)):AP a b=k:=by
 unfold AP;have g1:k<=(2*a+b)/(2*b):=(Int.le_ediv_iff_mul_le (by omega)).2 D;have g2:(2*a+b)/(2*b)<k+1:=(Int.ediv_lt_iff_lt_mul (by omega)).2 G;omega
theorem S4 (hb:0<b):AP a b*(2*b)<=2*a+b/\2*a+b<(AP a b+1)*(2*b):=by
 unfold AP;exact⟨(Int.le_ediv_iff_mul_le (by omega)).1 (cz _),(Int.ediv_lt_iff_lt_mul (by omega)).1 (Int.lt_add_one_of_le (cz _))⟩
theorem Q7f {p c:Nat} (D:p<w64) (L:0<c):GL [U 0,U p,U c]=some [U ((p/c:Nat):Int),U ((p%c:Nat):Int)]:=by
 rw[Ca]at D;have G:(p:Int).tdiv (c:Int)=((p/c:Nat):Int):=by rw[bm (by omega)];simp
 have I:(p:Int).tmod (c:Int)=((p%c:Nat):Int):=by rw[je (by omega)];simp
 have N:p/c<=p:=ip _ _;unfold GL;generalize IE=M;generalize UB=O;generalize Qe5=T;rw[Qx9];rw[B4 (by simp;omega),Bc (by omega),Cj (by simp),Bc (by omega),Bc (by omega),G,I];generalize p/c=q at*;rw[HQ (by omega)]
theorem Q9e (more:Int) (some_ neg:Bool):Iv [I 2,I more,B some_,B neg]=some [B (if more>0 then true else if more=0 then !neg else false)]:=by
 unfold Iv;rw[Zri];simp only[go_sem];rw[aa,aa]
 repeat' split
 all_goals rfl
theorem Qtf {n:Nat} (h:n<=9223372036854775808):Fd [U n,B true]=some [I (-(n:Int)),B true]:=by
 unfold Fd;rw[Q9q];simp only[go_sem];rw[ab,NI,Z_];have:((0-(n:Int))%18446744073709551616+9223372036854775808)%18446744073709551616-9223372036854775808= -(n:Int):=by omega
 rw[this]
def G8 (q r c:Nat) (neg:Bool):Nat:=if r>c-r then q+1 else if r<c-r then q else if neg then q else q+1
theorem Z84 {M1 M2 M3 M4 M5 M6 M7:Fn} {a b s:Int} {A C p q r c:Nat} (N:0<c) (O:c<9223372036854775808) (hr:r<c) (hq:q<9223372036854775807)
  (T:M7 [I 2]=some [B true]) (V:M6 [I a]=some [U A]) (X:M6 [I b]=some [U C]) (Y:M6 [I c]=some [U c]) (k5:M5 [U A,U C]=some [U 0,U p]) (k6:M4 [U 0,U p,U c]=some [U q,U r]) (k7:M3 [I a,I b]=some [I s])
  (k8:∀(more:Int) (some_ neg:Bool),M2 [I 2,I more,B some_,B neg]=some [B (if more>0 then true else if more=0 then !neg else false)])
  (L:∀k:Nat,k<9223372036854775808->M1 [U k,B false]=some [I k,B true]) (D:∀k:Nat,k<9223372036854775808->M1 [U k,B true]=some [I (-(k:Int)),B true]):
  Qao M1 M2 M3 M4 M5 M6 M7 [I a,I b,I c,I 2]=some [I (if s<0 then-(G8 q r c true:Int)else(G8 q r c false:Int)),B true]:=by
 have w1:wrap .u64 ((c:Int)-(r:Int))=((c-r:Nat):Int):=by rw[HQ (by omega)];omega
 have w2:wrap .u64 ((q:Int)+1)=((q+1:Nat):Int):=by rw[HQ (by omega)];omega
 have n1:=L q (by omega);have n2:=L (q+1) (by omega);rw[Z39];simp only[go_sem,T,V,X,Y,k5,k6,k7,k8,w1,w2,n1,n2];rw[aa,aa (by simp),aa];by_cases M:s<0
 ·rw[ab M];rw[ab (show¬(s<0↔(c:Int)<0) by omega)];have G:(s !=0)=true:=by simp;omega
  rw[G];unfold G8;by_cases g1:r>c-r
  ·rw[ab g1];rw[ab (show(r:Int)>((c-r:Nat):Int) by omega),ab (by decide),aa (show¬((q+1:Nat):Int)=0 by omega),D (q+1) (by omega)];simp only[go_sem]
  ·rw[aa g1];rw[aa (show¬(r:Int)>((c-r:Nat):Int) by omega)];by_cases g2:r<c-r
   ·rw[ab g2];rw[ab (show(r:Int)<((c-r:Nat):Int) by omega),aa (by decide),D q (by omega)];simp only[go_sem]
   ·rw[aa g2,ab rfl];rw[aa (show¬(r:Int)<((c-r:Nat):Int) by omega),aa (by decide),D q (by omega)];simp only[go_sem]
 ·rw[aa M];rw[aa (show¬¬(s<0↔(c:Int)<0) by omega)];unfold G8;by_cases g1:r>c-r
  ·rw[ab g1,ab (show(r:Int)>((c-r:Nat):Int) by omega),ab (by decide),aa (show¬((q+1:Nat):Int)=0 by omega)]
  ·rw[aa g1,aa (show¬(r:Int)>((c-r:Nat):Int) by omega)];by_cases g2:r<c-r
   ·rw[ab g2,ab (show(r:Int)<((c-r:Nat):Int) by omega),aa (by decide)]
   ·rw[aa g2,aa (show¬(r:Int)<((c-r:Nat):Int) by omega),ab (by decide),aa (show¬((q+1:Nat):Int)=0 by omega),aa (by decide)]
theorem Z4g (q r c:Nat):G8 q r c false=if r<c-r then q else q+1:=by
 unfold G8;by_cases G:r>c-r
 ·rw[ab G,aa]
 ·rw[aa G];by_cases D:r<c-r
  ·rw[ab D,ab D]
  ·rw[aa D,aa D,aa (by simp)]
theorem Z91 (q r c:Nat):G8 q r c true=if r>c-r then q+1 else q:=by
 unfold G8;by_cases D:r>c-r
 ·rw[ab D,ab D]
 ·rw[aa D,aa D];by_cases G:r<c-r
  ·rw[ab G]
  ·rw[aa G,ab rfl]
theorem Q41 {p q r c:Nat} (L:0<c) (h:p=c*q+r) (M:r<c):AP p c=G8 q r c false:=by
 have e:(p:Int)=(c:Int)*q+r:=by rw[h];simp
 have e3:(q:Int)*(2*c)=2*((c:Int)*q):=by grind
 have D:((q+1:Nat):Int)*(2*c)=2*((c:Int)*q)+2*c:=by grind
 have G:((q:Int)+1)*(2*c)=2*((c:Int)*q)+2*c:=by grind
 have I:(((q+1:Nat):Int)+1)*(2*c)=2*((c:Int)*q)+4*c:=by grind
 rw[Z4g];by_cases g:r<c-r
 ·rw[ab g];exact FH (by omega) (by rw[e3];omega) (by rw[G];omega)
 ·rw[aa g];exact FH (by omega) (by rw[D];omega) (by rw[I];omega)
theorem Zqt {p q r c:Nat} (L:0<c) (h:p=c*q+r) (M:r<c):AP (-(p:Int)) c= -(G8 q r c true:Int):=by
 have e:(p:Int)=(c:Int)*q+r:=by rw[h];simp
 have e3: -(q:Int)*(2*c)= -(2*((c:Int)*q)):=by grind
 have D: -((q+1:Nat):Int)*(2*c)= -(2*((c:Int)*q))-2*c:=by grind
 have G:(-(q:Int)+1)*(2*c)= -(2*((c:Int)*q))+2*c:=by grind
 have I:(-((q+1:Nat):Int)+1)*(2*c)= -(2*((c:Int)*q)):=by grind
 rw[Z91];by_cases g:r>c-r
 ·rw[ab g];exact FH (by omega) (by rw[D];omega) (by rw[I];omega)
 ·rw[aa g];exact FH (by omega) (by rw[e3];omega) (by rw[G];omega)
theorem Tk {a b c:Int} (V:i64 a) (hb:i64 b) (hc:0<c/\c<9223372036854775808) (hp:a.natAbs*b.natAbs<9223372036854775807):CO [I a,I b,I c,I 2]=some [I (AP (a*b) c),B true]:=by
 obtain⟨X,lo,e1,e2,e3⟩:=OY (Nq V) (Nq hb);have N:=UR a b;have hs:=Tu a b;have hz:a*b=0->a.natAbs*b.natAbs=0:=λh=>by rw[<-Int.natAbs_mul,h];rfl
 generalize a.natAbs*b.natAbs=p at*;have O:X=0:=by
  rcases ez X with h|h
  ·exact h
  ·have:=bq w64 h;have:=Ca;omega
 subst O;have T:lo=p:=by omega
 subst T;obtain⟨n,rfl⟩:=bh (show 0<=c by omega);have G:0<n:=by omega
 have U:=gf lo n;have M:=il lo G;have h3:lo/n<=lo:=ip _ _;have hd:=Q7f e3 G;have L:=Jt (x:=(n:Int)) (by unfold i64;omega);rw[i6]at L;generalize lo/n=q at*;generalize lo%n=r at*;have D:=Z84 (M1:=Fd) (M2:=Iv) (M3:=Gr) (M4:=GL) (M5:=EB) (M6:=Gf) (M7:=Gk) G (by omega) M (by omega)
  (Qhl (.inr (.inr rfl))) (Jt V) (Jt hb) L e1 hd (XV a b) Q9e (λk Y=>Qef Y) (λk Y=>Qtf (by omega))
 have hv:(if sgn a b<0 then-(G8 q r n true:Int)else(G8 q r n false:Int))=AP (a*b) n:=by
  rcases hs with⟨g1,g2⟩|⟨g1,g2⟩|⟨g1,g2⟩
  ·rw[aa,g2];rw[g1]at N;have:lo=0:=hz g2;rw[<-Q41 G U.symm M,this];rfl
  ·rw[aa,<-Q41 G U.symm M,<-N,g1,ex]
  ·rw[ab,<-Zqt G U.symm M,<-N,g1,jn,ex]
 rw[hv]at D;exact D
def bd (A:Nat) (p:Pt):Prop:=p.x.natAbs<=A/\p.y.natAbs<=A/\p.z.natAbs<=A
def Gg (a b:Pt):Int:=a.x*b.x+a.y*b.y+a.z*b.z
def E6 (a b:Pt):Pt:=⟨a.x-b.x,a.y-b.y,a.z-b.z⟩
theorem HV {x y:Int} {A B:Nat} (D:x.natAbs<=A) (G:y.natAbs<=B):(x*y).natAbs<=A*B:=by rw[Int.natAbs_mul];exact eg D G
theorem AR {A B:Nat} (h:bd A d) (D:A<=B):bd B d:=⟨cb h.1 D,cb h.2.1 D,cb h.2.2 D⟩
theorem Z5b (a b:Pt):Gg (E6 a b) (E6 a b)=Gg (E6 b a) (E6 b a):=by
 simp only[Gg,E6];have h:∀x y:Int,(x-y)*(x-y)=(y-x)*(y-x):=by intro x y;rw[<-Int.neg_mul_neg,Int.neg_sub]
 rw[h a.x,h a.y,h a.z]
theorem Zx0 {x y:Int}:Lj x y<=0↔x<=y:=by
 unfold Lj;by_cases h:x<y
 ·rw[ab h];omega
 ·rw[aa h];by_cases h':x=y
  ·rw[ab h'];omega
  ·rw[aa h'];omega
theorem Q1b (v:Nat) (h:v<w64):wrap .u64 (((BitVec.ofInt IntKind.u64.bits (v:Int)&&&BitVec.ofInt IntKind.u64.bits 4294967295).toNat:Nat):Int)=((v%4294967296:Nat):Int):=by
 rw[Ca]at h;have e:(BitVec.ofInt IntKind.u64.bits (v:Int)&&&BitVec.ofInt IntKind.u64.bits 4294967295).toNat=v%4294967296:=by
  rw[BitVec.toNat_and];have e1:(BitVec.ofInt IntKind.u64.bits (v:Int)).toNat=v:=by
   simp only[IntKind.bits,j9];omega
  have e2:(BitVec.ofInt IntKind.u64.bits 4294967295).toNat=2^32-1:=by
   simp only[IntKind.bits,j9];rfl
  rw[e1,e2,Nat.and_two_pow_sub_one_eq_mod]
 rw[e,HQ (by omega)]
theorem Qyi (v:Nat):(v:Int).fdiv (2^min (Int.toNat 32) IntKind.u64.bits)=((v/4294967296:Nat):Int):=by
 have e:(2^min (Int.toNat 32) IntKind.u64.bits:Int)=4294967296:=rfl;rw[e,fu _ (by omega)];omega
def ET (a n:Nat) (down:Bool) (j:Nat):Prop:=
 (j=0\/if down=true then(2*j-1)*(2*j-1)*n<4*(a*a)else(2*j-1)*(2*j-1)*n<=4*(a*a))/\
 (if down=true then 4*(a*a)<=(2*j+1)*(2*j+1)*n else 4*(a*a)<(2*j+1)*(2*j+1)*n)
theorem OO {p q n:Nat} (h:p<=q):p*p*n<=q*q*n:=bq _ (eg h h)
theorem Zf5 {a n:Nat} {down:Bool} (I:ET a n down i) (L:ET a n down A):i=A:=by
 have key:∀{i A:Nat},ET a n down i->ET a n down A-> ¬i<A:=by
  rintro i A ⟨-,G⟩ ⟨D,-⟩ N;have O:=OO (n:=n) (show 2*i+1<=2*A-1 by omega);rcases D with D|D
  ·omega
  ·by_cases M:down=true
   ·rw[ab M]at G D;omega
   ·rw[aa M]at G D;omega
 have T:=key I L;have G:=key L I;omega
open Classical in
noncomputable def rnd (a n:Nat) (down:Bool):Nat:=if h:∃j,ET a n down j then Classical.choose h else 0
theorem Px {a n:Nat} {down:Bool} (h:ET a n down i):rnd a n down=i:=by
 have D:∃i,ET a n down i:=⟨i,h⟩;unfold rnd;rw[jy D];exact Zf5 (gj D) h
noncomputable def AN (x r n:Int):Int:=if x<0 then-(rnd (x.natAbs*r.natAbs) n.natAbs true:Int)else(rnd (x.natAbs*r.natAbs) n.natAbs false:Int)
theorem Xa {X R n j:Nat} {down:Bool} (G:0<n) (I:X*X<=n) (h:ET (X*R) n down j):j<=R:=by
 by_cases c:j<=R
 ·exact c
 exfalso;have e:4*(X*R*(X*R))=(2*R)*(2*R)*(X*X):=by grind
 have L:(2*R)*(2*R)*(X*X)<=(2*R)*(2*R)*n:=jz _ I;have M:(2*R)*(2*R)*n<(2*R+1)*(2*R+1)*n:=fa (gk (by omega)) G;have N:(2*R+1)*(2*R+1)*n<=(2*j-1)*(2*j-1)*n:=OO (by omega);obtain⟨D,-⟩:=h;rcases D with D|D
 ·omega
 ·split at D<;>omega
theorem Znl {X R n j:Nat} {down:Bool} (D:0<n) (G:R*R<=n) (h:ET (X*R) n down j):j<=X:=by
 rw[ff]at h;exact Xa D G h
theorem Zyi {a n q:Nat} (down:Bool) (G:q*q*n<=a*a) (I:a*a<(q+1)*(q+1)*n):
  ET a n down (if(if down=true then(2*q+1)*(2*q+1)*n<2*a*(2*a)else(2*q+1)*(2*q+1)*n<=2*a*(2*a))then q+1 else q):=by
 have L:2*a*(2*a)=4*(a*a):=by grind
 rw[L];have e1:4*(q*q*n)<=4*(a*a):=jz _ G;have e2:4*(a*a)<4*((q+1)*(q+1)*n):=by omega
 have N:(2*q-1)*(2*q-1)*n<=(2*q)*(2*q)*n:=OO (by omega);have O:(2*q)*(2*q)*n=4*(q*q*n):=by grind
 have T:(2*(q+1))*(2*(q+1))*n=4*((q+1)*(q+1)*n):=by grind
 have U:(2*(q+1))*(2*(q+1))*n<=(2*(q+1)+1)*(2*(q+1)+1)*n:=OO (by omega);have V:n=0\/q=0\/(2*q-1)*(2*q-1)*n<(2*q)*(2*q)*n:=by
  by_cases D:n=0
  ·exact .inl D
  ·by_cases M:q=0
   ·exact .inr (.inl M)
   ·right;right;refine fa ?_ (by omega);exact gk (by omega)
 have D:n≠0:=by rintro rfl;simp at I
 unfold ET;cases down
 ·simp only[d8,iy];by_cases c:(2*q+1)*(2*q+1)*n<=4*(a*a)
  ·rw[ab c];refine⟨.inr ?_,by omega⟩;rw[show 2*(q+1)-1=2*q+1 by omega];exact c
  ·rw[aa c];exact⟨by omega,by omega⟩
 ·simp only[fo];by_cases c:(2*q+1)*(2*q+1)*n<4*(a*a)
  ·rw[ab c];refine⟨.inr ?_,by omega⟩;rw[show 2*(q+1)-1=2*q+1 by omega];exact c
  ·rw[aa c];exact⟨by omega,by omega⟩
theorem KR:∀n:Nat,∃r:Nat,r*r<=n/\n<(r+1)*(r+1)
 |0=>⟨0,by decide,by decide⟩
 |n+1=>by
  obtain⟨r,D,G⟩:=KR n;by_cases c:(r+1)*(r+1)<=n+1
  ·exact⟨r+1,c,by have:=gk (show r+1<r+1+1 by omega);omega⟩
  ·exact⟨r,by omega,by omega⟩
theorem Ru {x r n:Int} (hx:x.natAbs<=33554432*4) (M:0<=r/\r<=33554432*4) (hn:0<n/\n<=4611686018427387904) (O:x*x<=n):
  (AN x r n).natAbs<=268435456/\ET (x.natAbs*r.natAbs) n.natAbs (decide (x<0)) (AN x r n).natAbs:=by
 obtain⟨R,rfl⟩:=bh M.1;obtain⟨N,rfl⟩:=bh (show 0<=n by omega);have I:x.natAbs*x.natAbs<=N:=by
  have:((x.natAbs*x.natAbs:Nat):Int)=x*x:=by rw[cq]
  omega
 have T:(x.natAbs*R)*(x.natAbs*R)<268435456*268435456*N:=by
  have e:(x.natAbs*R)*(x.natAbs*R)=(R*R)*(x.natAbs*x.natAbs):=by grind
  rw[e];have U:R*R<=(33554432*4)*(33554432*4):=eg (by omega) (by omega);have h2:(R*R)*(x.natAbs*x.natAbs)<=((33554432*4)*(33554432*4))*N:=eg U I;omega
 simp only[AN,i6];generalize x.natAbs*R=A at*;have L:0<N:=by omega
 obtain⟨q,V,X⟩:=KR (A*A/N);have Y:=(Nat.le_div_iff_mul_le L).1 V;have l3:=(fc L).1 X;have hq:q<268435456:=by
  apply dk;intro c;have:=OO (n:=N) (show 268435456<=q by omega);omega
 have G:=Zyi (decide (x<0)) Y l3;have hb:∀(p:Prop) [Decidable p],(if p then q+1 else q)<=268435456:=λp _=>by split<;>omega
 by_cases D:x<0
 ·rw[ai D]at G⊢;rw[ab D,Px G,Int.natAbs_neg,i6];exact⟨hb _,G⟩
 ·rw[al D]at G⊢;rw[aa D,Px G,i6];exact⟨hb _,G⟩
def Ik (n k:Int):Prop:=0<=k/\n<=k*k/\(k=0\/(k-1)*(k-1)<n)
theorem Zdk {n i j:Int} (G:Ik n i) (I:Ik n j):i=j:=by
 have key:∀{i j:Int},Ik n i->Ik n j-> ¬i<j:=by
  rintro i j ⟨L,M,-⟩ ⟨O,T,D⟩ N;rcases D with D|D
  ·omega
  ·have:=an L (show i<=j-1 by omega);omega
 have L:=key G I;have M:=key I G;omega
open Classical in
noncomputable def upR (n:Int):Int:=if h:∃j,Ik n j then Classical.choose h else 0
theorem Za0 {n k:Int} (h:Ik n k):upR n=k:=by
 have D:∃j,Ik n j:=⟨k,h⟩;unfold upR;rw[jy D];exact Zdk (gj D) h
theorem Q0f {n r:Nat} (D:r*r<=n) (G:n<(r+1)*(r+1)):Ik n (if r*r<n then r+1 else r:Nat):=by
 unfold Ik;by_cases c:r*r<n
 ·rw[ab c];have e1:((r+1:Nat):Int)*((r+1:Nat):Int)=(((r+1)*(r+1):Nat):Int):=(cd _ _).symm;have e2:(((r+1:Nat):Int)-1)*(((r+1:Nat):Int)-1)=((r*r:Nat):Int):=by
   rw[show((r+1:Nat):Int)-1=(r:Int) by omega];exact(cd _ _).symm
  rw[e1,e2];generalize(r+1)*(r+1)=A at*;generalize r*r=B at*;exact⟨by omega,by omega, .inr (by omega)⟩
 ·rw[aa c];have e1:(r:Int)*(r:Int)=((r*r:Nat):Int):=(cd _ _).symm;rw[e1];refine⟨by omega,by omega,?_⟩;rcases ez r with h|h
  ·left;omega
  ·right;have e2:((r:Int)-1)*((r:Int)-1)=(((r-1)*(r-1):Nat):Int):=by
    rw[show(r:Int)-1=((r-1:Nat):Int) by omega];exact(cd _ _).symm
   have:=gk (show r-1<r by omega);rw[e2];omega
theorem Zem (k:Nat):((2^(k+1):Nat):Int).fdiv (2^min (Int.toNat 1) IntKind.i64.bits)=((2^k:Nat):Int):=by
 have e:(2^min (Int.toNat 1) IntKind.i64.bits:Int)=2:=rfl;rw[e,fu _ (by omega),ji];omega
theorem Z5t:(1:Int).fdiv (2^min (Int.toNat 1) IntKind.i64.bits)=0:=rfl
def sqD (a b:Pt):Int:=Gg (E6 a b) (E6 a b)
theorem NB (a b:Pt):0<=sqD a b:=by
 unfold sqD Gg;have h:∀u:Int,0<=u*u:=λu=>by rw[<-cq];omega
 have:=h (E6 a b).x;have:=h (E6 a b).y;have:=h (E6 a b).z;omega
theorem B0 {x:Int} (h:x.natAbs<=A):0<=x*x/\x*x<=((A*A:Nat):Int):=by
 have:=eg h h;rw[<-cq];omega
theorem PW (D:bd A d) (hb:bd A q) (G:A<=67108864):sqD d q<=54043195528445952:=by
 have h:∀x y:Int,x.natAbs<=A->y.natAbs<=A->(x-y)*(x-y)<=18014398509481984:=by
  intro x y I L;exact(B0 (x:=x-y) (A:=134217728) (by omega)).2
 have M:=h _ _ D.1 hb.1;have N:=h _ _ D.2.1 hb.2.1;have O:=h _ _ D.2.2 hb.2.2;unfold sqD Gg E6;simp only;omega
noncomputable def Ay (a b:Pt):Int:=upR (sqD a b)
theorem Ni (_:bd 67108864 q) (_:bd 67108864 z):Ik (sqD q z) (Ay q z):=by
 obtain⟨d,G⟩:=bh (NB q z);unfold Ay;rw[G];obtain⟨r,I,L⟩:=KR d;have D:=Q0f I L;rw[Za0 D];exact D
theorem HF (G:bd 67108864 d) (hb:bd 67108864 q):0<=Ay d q/\Ay d q<=268435456:=by
 obtain⟨I,L,D⟩:=Ni G hb;have M:=PW G hb (cm _);refine⟨I,?_⟩;rcases D with D|D
 ·omega
 ·by_cases c:Ay d q<=268435456
  ·exact c
  ·have:=an (a:=268435456) (b:=Ay d q-1) (by omega) (by omega);omega
def Jp (n k:Int):Prop:=0<=k/\n<=k*(k+1)/\(k=0\/(k-1)*k<n)
theorem II {x:Int} (h:x.natAbs<=A) (D:A<=9223372036854775807):V x=x:=Ad
theorem F7 {x y:Int} {A B:Nat} (D:x.natAbs<=A) (G:y.natAbs<=B):(x-y).natAbs<=A+B:=by omega
theorem TI {x y:Int} {A B:Nat} (D:x.natAbs<=A) (G:y.natAbs<=B):(x+y).natAbs<=A+B:=by omega
theorem WE {c u x:Int} (D:c.natAbs<=A) (G:(c+x).natAbs<=A) (h:(0<=x->0<=u/\u<=x)/\(x<=0->x<=u/\u<=0)):(c+u).natAbs<=A:=by
 rcases Int.le_total 0 x with g|g
 ·have:=h.1 g;omega
 ·have:=h.2 g;omega
theorem YR (a b:Pt):sqD a b=(a.x-b.x)*(a.x-b.x)+(a.y-b.y)*(a.y-b.y)+(a.z-b.z)*(a.z-b.z):=rfl
theorem B3 (u:Int):0<=u*u:=by rw[<-cq];omega
theorem To:sqD d q=0↔d=q:=by
 rw[YR];obtain⟨a1,a2,a3⟩:=d;obtain⟨b1,b2,b3⟩:=q;have M:=B3 (a1-b1);have N:=B3 (a2-b2);have O:=B3 (a3-b3);constructor
 ·intro h;simp only at h;have e1:(a1-b1)*(a1-b1)=0:=by omega
  have e2:(a2-b2)*(a2-b2)=0:=by omega
  have e3:(a3-b3)*(a3-b3)=0:=by omega
  have z:∀u:Int,u*u=0->u=0:=λu D=>by
   rcases Int.mul_eq_zero.1 D with h|h<;>exact h
  have:=z _ e1;have:=z _ e2;have:=z _ e3;rw[Pt.mk.injEq];omega
 ·intro h;injection h with G I L;subst G I L;simp
theorem Uy (a b:Pt):(a.x-b.x)*(a.x-b.x)<=sqD a b/\(a.y-b.y)*(a.y-b.y)<=sqD a b/\(a.z-b.z)*(a.z-b.z)<=sqD a b:=by
 rw[YR];have D:=B3 (a.x-b.x);have G:=B3 (a.y-b.y);have I:=B3 (a.z-b.z);omega
noncomputable def Bj (c a:Pt) (d:Int):Pt:=⟨c.x+AN (a.x-c.x) d (sqD a c),c.y+AN (a.y-c.y) d (sqD a c),c.z+AN (a.z-c.z) d (sqD a c)⟩
abbrev B24:Nat:=16777216
theorem M8 {x r n:Int} (I:x.natAbs<=33554432*4) (L:0<=r/\r<=33554432*4) (M:0<n/\n<=4611686018427387904) (D:x*x<=n) (N:r*r<=n):
  (0<=x->0<=AN x r n/\AN x r n<=x)/\(x<=0->x<=AN x r n/\AN x r n<=0):=by
 obtain⟨T,O⟩:=Ru I L M D;have G := Znl (by omega) (by
  have:((r.natAbs*r.natAbs:Nat):Int)=r*r:=cq;omega) O
 unfold AN at*;constructor
 ·intro h;rw[aa]at G⊢;omega
 ·intro h;by_cases c:x<0
  ·rw[ab c]at G⊢;omega
  ·rw[aa c]at G⊢;omega
theorem Qs7 (D:bd B24 d) (hb:bd B24 q):sqD d q<=3377699720527872:=by
 have h:∀x y:Int,x.natAbs<=B24->y.natAbs<=B24->(x-y)*(x-y)<=1125899906842624:=by
  intro x y G I;unfold B24 at*;exact(B0 (x:=x-y) (A:=33554432) (by omega)).2
 have L:=h _ _ D.1 hb.1;have M:=h _ _ D.2.1 hb.2.1;have N:=h _ _ D.2.2 hb.2.2;rw[YR];omega
theorem IC {c a:Pt} (D:bd B24 c) (G:bd B24 a) (M:a≠c) (T:0<=k/\k<Ay a c):bd B24 (Bj c a k):=by
 have U:sqD a c≠0:=λh=>M (To.1 h);have V:=NB a c;have X:=PW (AR G (by decide)) (AR D (by decide)) (show 67108864<=67108864 by omega);obtain⟨g1,g2,g3⟩:=Ni (AR G (show B24<=67108864 by decide)) (AR D (show B24<=67108864 by decide));have hl:=HF (AR G (show B24<=67108864 by decide)) (AR D (show B24<=67108864 by decide));have I:k*k<=sqD a c:=by
  have:=an T.1 (show k<=Ay a c-1 by omega);omega
 have N:k<=33554432*4:=by
  by_cases Y:k<=33554432*4
  ·exact Y
  ·exfalso;have h3:=an (a:=33554432*4+1) (b:=k) (by omega) (by omega);have h4:=Qs7 G D;omega
 obtain⟨q1,q2,q3⟩:=Uy a c;have O:0<sqD a c/\sqD a c<=4611686018427387904:=⟨Int.lt_iff_le_and_ne.2 ⟨V,λh=>U h.symm⟩,dw X (by decide)⟩;have L:0<=k/\k<=33554432*4:=⟨T.1,N⟩;have k1:=M8 (x:=a.x-c.x) (r:=k) (n:=sqD a c) (cb (F7 G.1 D.1) (by decide)) L O q1 I;have k2:=M8 (x:=a.y-c.y) (r:=k) (n:=sqD a c) (cb (F7 G.2.1 D.2.1) (by decide)) L O q2 I;have k3:=M8 (x:=a.z-c.z) (r:=k) (n:=sqD a c) (cb (F7 G.2.2 D.2.2) (by decide)) L O q3 I;have e:∀x y:Int,x+(y-x)=y:=λx y=>by omega
 exact⟨WE D.1 (by rw[e];exact G.1) k1,WE D.2.1 (by rw[e];exact G.2.1) k2,WE D.2.2 (by rw[e];exact G.2.2) k3⟩
def Gi (p c q:Pt):Pt:=⟨p.x-c.x+(q.x-c.x),p.y-c.y+(q.y-c.y),p.z-c.z+(q.z-c.z)⟩
def Hv (p c q:Pt):Int:=Gg (Gi p c q) (Gi p c q)
theorem Zp0 {p c q:Pt} (D:bd B24 p) (G:bd B24 c) (I:bd B24 q):bd 67108864 (Gi p c q):=by
 unfold bd B24 Gi at*;simp only;omega
def G9 (a c b:Pt) (D d:Int):Prop:=d<=mn (Ay a c) (Ay c b)-2/\Hv (Bj c a d) c (Bj c b d)<=16*D*D
theorem Rp (x y:Int):mn x y<=x/\mn x y<=y:=by unfold mn;split<;>omega
theorem Zfh (a b:Pt):sqD a b=sqD b a:=by
 unfold sqD;exact Z5b a b
theorem NS (a b:Pt):Ay a b=Ay b a:=by unfold Ay;rw[Zfh]
open Classical in
noncomputable def FL (P:Int->Prop):Nat->Int->Int
 |0,d=>if P (d+1)then d+1 else d
 |k+1,d=>FL P k (if P (d+((2^(k+1):Nat):Int))then d+((2^(k+1):Nat):Int)else d)
open Classical in
theorem Qzi {P:Int->Prop}:∀(k:Nat) (d:Int),d<=FL P k d/\FL P k d<d+((2^(k+1):Nat):Int)/\(FL P k d=d\/P (FL P k d))
 |0,d=>by
  have e:((2^(0+1):Nat):Int)=2:=rfl;rw[e];unfold FL;split
  ·rename_i h;exact⟨by omega,by omega, .inr h⟩
  ·exact⟨by omega,by omega, .inl rfl⟩
 |k+1,d=>by
  unfold FL;have M:0<2^(k+1):=f9 _;have e3:2^(k+1+1)=2^(k+1)+2^(k+1):=by rw[ji 2 (k+1)];omega
  rw[e3];have D:(if P (d+((2^(k+1):Nat):Int))then d+((2^(k+1):Nat):Int)else d)=d\/((if P (d+((2^(k+1):Nat):Int))then d+((2^(k+1):Nat):Int)else d)=d+((2^(k+1):Nat):Int)/\P (if P (d+((2^(k+1):Nat):Int))then d+((2^(k+1):Nat):Int)else d)):=by
   split
   ·rename_i h;exact .inr ⟨rfl,h⟩
   ·exact .inl rfl
  generalize(if P (d+((2^(k+1):Nat):Int))then d+((2^(k+1):Nat):Int)else d)=I at*;obtain⟨N,O,G⟩:=Qzi (P:=P) k I;generalize FL P k I=x at*;generalize 2^(k+1)=m at*;rcases D with D|⟨D,L⟩
  ·subst D;exact⟨by omega,by omega,G⟩
  ·refine⟨by omega,by omega, .inr ?_⟩;rcases G with G|G
   ·rw[G];exact L
   ·exact G
open Classical in
noncomputable def C9 (a c b:Pt) (D:Int):Int:=if a=c\/b=c then 0 else if FL (G9 a c b D) 24 0<16 then 0 else FL (G9 a c b D) 24 0
theorem UM {a c b:Pt} (h:C9 a c b k≠0):a≠c/\b≠c/\16<=C9 a c b k/\C9 a c b k<33554432/\G9 a c b k (C9 a c b k):=by
 unfold C9 at*;split at h
 ·exact absurd rfl h
 ·rename_i G;rw[aa G];split at h
  ·exact absurd rfl h
  ·rename_i I;rw[aa I];obtain⟨M,L,D⟩:=Qzi (P:=G9 a c b k) 24 0;have e:((2^(24+1):Nat):Int)=33554432:=rfl;rw[e]at L;refine⟨λh=>G (.inl h),λh=>G (.inr h),by omega,by omega,?_⟩;rcases D with D|D
   ·omega
   ·exact D
theorem DX:d=q↔d.x=q.x/\d.y=q.y/\d.z=q.z:=by
 obtain⟨a1,a2,a3⟩:=d;obtain⟨b1,b2,b3⟩:=q;simp
def Nt (bend:Int):Nat->Int->Int
 |0,n=>n
 |k+1,n=>if n<64/\bend>16*n*n*n*n*4*4 then Nt bend k (n*2)else n
def J_ (n:Int):Prop:=n=2\/n=4\/n=8\/n=16\/n=32\/n=64
def Kc (p c q:Pt):Int:=Nt (Hv p c q) 5 2
theorem Q9s (b:Int):∀(k:Nat) (n:Int),J_ n->J_ (Nt b k n)
 |0,_,h=>h
 |k+1,n,h=>by
  unfold Nt;split
  ·rename_i c;exact Q9s b k _ (by unfold J_ at*;omega)
  ·exact h
theorem SO (p c q:Pt):J_ (Kc p c q):=Q9s _ _ _ (.inl rfl)
def Im (n i p c q:Int):Int:=c+AP ((n-i)*(n-i)*(p-c)+i*i*(q-c)) (n*n)
def Om (n i:Int) (p c q:Pt):Pt:=⟨Im n i p.x c.x q.x,Im n i p.y c.y q.y,Im n i p.z c.z q.z⟩
theorem JV {a b n:Int} (D:0<n) (h:a<=b):AP a n<=AP b n:=by
 unfold AP;exact Int.ediv_le_ediv (by omega) (by omega)
theorem Q5 {k n:Int} (D:0<n):AP (k*n) n=k:=FH D (by rw[show k*(2*n)=2*(k*n) by grind];omega) (by rw[show(k+1)*(2*n)=2*(k*n)+2*n by grind];omega)
theorem Lk {n i p c q:Int} (I:0<n) (L:0<=i/\i<=n) (hp:p.natAbs<=A) (hc:c.natAbs<=A) (hq:q.natAbs<=A):(Im n i p c q).natAbs<=A:=by
 have D:0<n*n:=gp I I;have M:0<=(n-i)*(n-i):=B3 _;have N:0<=i*i:=B3 _;have O:(n-i)*(n-i)+i*i<=n*n:=by
  have:n*n-((n-i)*(n-i)+i*i)=2*(i*(n-i)):=by grind
  have:0<=i*(n-i):=bv L.1 (by omega);omega
 have key:∀s:Int,(s=1\/s= -1)->s*((n-i)*(n-i)*(p-c)+i*i*(q-c))<=(A-s*c)*(n*n):=by
  intro s G;have T:s*p<=A:=by rcases G with rfl|rfl<;>omega
  have U:s*c<=A:=by rcases G with rfl|rfl<;>omega
  have V:s*q<=A:=by rcases G with rfl|rfl<;>omega
  have g1:(n-i)*(n-i)*(s*p-s*c)<=(n-i)*(n-i)*(A-s*c):=cg (by omega) M;have g2:i*i*(s*q-s*c)<=i*i*(A-s*c):=cg (by omega) N;have g3:((n-i)*(n-i)+i*i)*(A-s*c)<=n*n*(A-s*c):=ax O (by omega);have e1:s*((n-i)*(n-i)*(p-c)+i*i*(q-c))=(n-i)*(n-i)*(s*p-s*c)+i*i*(s*q-s*c):=by grind
  have e2:((n-i)*(n-i)+i*i)*(A-s*c)=(n-i)*(n-i)*(A-s*c)+i*i*(A-s*c):=d7 ..;have e3:(A-s*c)*(n*n)=n*n*(A-s*c):=iv ..;omega
 unfold Im;have X:=JV D (key 1 (.inl rfl)|>λh=>(by rw[ex,ex]at h;exact h));rw[Q5 D]at X;have k2:=key (-1) (.inr rfl);have Y:(-(A:Int)-c)*(n*n)<=(n-i)*(n-i)*(p-c)+i*i*(q-c):=by
  have e:(-(A:Int)-c)*(n*n)= -((A- -1*c)*(n*n)):=by grind
  omega
 have k4:=JV D Y;rw[Q5 D]at k4;omega
noncomputable def EK (a c b:Pt) (D:Int):List Pt:=
 if C9 a c b D=0 then [c]
 else(List.range ((Kc (Bj c a (C9 a c b D)) c (Bj c b (C9 a c b D))).toNat+1)).map fun(i:Nat)=>Om (Kc (Bj c a (C9 a c b D)) c (Bj c b (C9 a c b D))) i (Bj c a (C9 a c b D)) c (Bj c b (C9 a c b D))
theorem Qbe {a c b:Pt} (M:bd B24 a) (D:bd B24 c) (hb:bd B24 b):(∀p∈EK a c b k,bd B24 p)/\1<=(EK a c b k).length/\(EK a c b k).length<=65:=by
 unfold EK;by_cases h:C9 a c b k=0
 ·rw[ab h];simp;exact D
 ·rw[aa h];obtain⟨N,O,U,V,X,-⟩:=UM h;obtain⟨m1,m2⟩:=Rp (Ay a c) (Ay c b);generalize C9 a c b k=d at*;have G:bd B24 (Bj c a d):=IC D M N (by omega);have I:bd B24 (Bj c b d):=IC D hb O (by rw[NS b c];omega);have T:=SO (Bj c a d) c (Bj c b d);generalize Kc (Bj c a d) c (Bj c b d)=n at*;have Y:2<=n/\n<=64:=by rcases T with rfl|rfl|rfl|rfl|rfl|rfl<;>omega
  refine⟨?_,by simp,by simp;omega⟩;intro p L;simp only[bc,List.mem_range]at L;obtain⟨i,hi,rfl⟩:=L;exact⟨Lk (by omega) (by omega) G.1 D.1 I.1,Lk (by omega) (by omega) G.2.1 D.2.1 I.2.1,Lk (by omega) (by omega) G.2.2 D.2.2 I.2.2⟩
theorem Q2n {v n:Int} (_:i64 v) (D:0<n/\n<=4611686018427387904):IV [I v,I n]=some [I (v%n)]:=by
 unfold IV;rw[Zru,Bc (by omega),Bc (by omega)];have N: -n<v.tmod n/\v.tmod n<n:=by
  have a1:=Int.tmod_lt_of_pos v D.1;have a2:=Int.lt_tmod_of_pos v D.1;omega
 rw[Ad];have G:(v.tmod n+n).tmod n=v%n:=by
  rw[je (by omega),Int.add_emod_right];have L:=Int.tmod_add_mul_tdiv v n;have M:v%n=(v.tmod n+n*v.tdiv n)%n:=by rw[L]
  rw[M,Int.add_mul_emod_self_left]
 rw[G]
def Src (l:Rw):Prop:=l.length<=9223372036854775807/\∀c∈l,i64 (Ag (nth .vD c 0))
theorem Zqw (h:i<l.length):nth [] l i∈l:=by rw[E1 [] l i h];exact ca h
theorem Zxa (L:∀v n:Int,i64 v->0<n/\n<=4611686018427387904->M [I v,I n]=some [I (v%n)]) {l:Rw} (G:Src l) {k:Nat} {n:Int} (D:0<n/\n<=4611686018427387904):
  ∃(v:Int) (k':Nat),Qlu M [I n, .vC Aa l,I k]=some [I v, .vC Aa l,I k']/\0<=v/\v<n/\k<=k'/\(k<l.length->k'=k+1)/\(l.length<=k->k'=k):=by
 have N:=G.1;rw[Zwh];by_cases h:k<l.length
 ·have O:=L _ n (G.2 _ (Zqw h)) D;simp only[go_sem,af,O];rw[aa,ab,Ad];exact⟨_,k+1,rfl,Int.emod_nonneg _ (by omega),j7 _ D.1,by omega,λ_=>rfl,by omega⟩
 ·simp only[go_sem];rw[ab];exact⟨0,k,rfl,by omega,D.1,by omega,by omega,λ_=>rfl⟩
theorem Z6o (G:Src l) (k:Nat) {n:Int} (D:0<n/\n<=4611686018427387904):
  ∃(v:Int) (k':Nat),Da [I n, .vC Aa l,I k]=some [I v, .vC Aa l,I k']/\0<=v/\v<n/\k<=k'/\(k<l.length->k'=k+1)/\(l.length<=k->k'=k):=
 Zxa (λ_ _ L D=>Q2n L D) G D
theorem Zf9 (l:Rw) (k:Nat):Le [.vC Aa l,I k]=some [B (decide (k<l.length)), .vC Aa l,I k]:=by
 unfold Le;rw[Zel];congr 3;simp
theorem SS (l:Rw):DS [.vC Aa l]=some [.vC Aa l,I 0]:=by
 unfold DS;rw[Zot]
def AX (r:Int) (k:Int):Int:=if k%4=0 then r else if k%4=2 then-r else 0
def AY (r:Int) (k:Int):Int:=if k%4=1 then r else if k%4=3 then-r else 0
theorem Z82 (L:0<=r/\r<=1000000) (D:0<=k/\k<=1000):OX [I r,I k]=some [I (AX r k),I (AY r k)]:=by
 unfold OX;rw[Zvj,Ad,je D.1];have G:k%4=0\/k%4=1\/k%4=2\/k%4=3:=by omega
 unfold AX AY;rcases G with h|h|h|h<;>rw[h]<;>simp[nth,Ag]
def plU (pl:Int) (p:Pt):Int:=if pl=17 then p.x else if pl=18 then p.z else p.y
def plW (pl:Int) (p:Pt):Int:=if pl=17 then p.y else if pl=18 then p.x else p.z
def plH (pl:Int) (p:Pt):Int:=if pl=17 then p.z else if pl=18 then p.y else p.x
def spP (pl u w h:Int):Pt:=if pl=17 then⟨u,w,h⟩else if pl=18 then⟨w,h,u⟩else⟨h,u,w⟩
def Df (pl:Int):Prop:=pl=17\/pl=18\/pl=19
theorem Zw6 (h:Df a):Od [I d.x,I d.y,I d.z,I a]=some [I (plU a d),I (plW a d),I (plH a d)]:=by
 unfold Od;rw[Zoa];rcases h with rfl|rfl|rfl<;>rfl
theorem Z8f {u w h pl:Int} (D:Df pl):Ox [I u,I w,I h,I pl]=some (ptR (spP pl u w h)):=by
 unfold Ox;rw[Z55];rcases D with rfl|rfl|rfl<;>rfl
theorem DD {pl u w h:Int} (D:Df pl):plU pl (spP pl u w h)=u/\plW pl (spP pl u w h)=w/\plH pl (spP pl u w h)=h:=by
 rcases D with rfl|rfl|rfl<;>exact⟨rfl,rfl,rfl⟩
structure ArcMade (size : Int) (it : Itm) : Prop where
 aP:it.aP=3
 aG:Df it.aG
 dir:it.dir=1\/it.dir= -1
 ends:∃r k t g h:Int,8<=r/\r<8+size/\0<=k/\k<=3/\0<=t/\t<=3/\0<=g/\g<=4/\(h=0\/h=7\/h= -12)/\(t=0->g=0)/\it.bG=decide (t=0)/\
  it.ce=spP it.aG (plU it.aG it.fr-AX r k) (plW it.aG it.fr-AY r k) (plH it.aG it.fr)/\
  it.to=spP it.aG (plU it.aG it.fr-AX r k+AX (r+g) (k+t)) (plW it.aG it.fr-AY r k+AY (r+g) (k+t)) (plH it.aG it.fr+h)
theorem KZ (D:0<=r):(-r<=AX r k/\AX r k<=r)/\(-r<=AY r k/\AY r k<=r):=by
 unfold AX AY;constructor<;>constructor<;>split<;>(try split)<;>omega
theorem Zbt (I:1<=r) (k:Int):((AX r k).tdiv r=AX 1 k)/\((AY r k).tdiv r=AY 1 k):=by
 have D:r.tdiv r=1:=Int.tdiv_self (by omega);have G:(-r).tdiv r= -1:=by rw[Int.neg_tdiv,D]
 unfold AX AY;constructor<;>split<;>(try split)<;>simp[D,G]
theorem Z5l (r k e f:Int):∃g,(g=e\/g=f)/\AX r k+AX 1 k*e=AX (r+g) k/\AY r k+AY 1 k*f=AY (r+g) k:=by
 unfold AX AY;by_cases h:k%4=0\/k%4=2
 ·refine⟨e, .inl rfl,?_,?_⟩
  ·rcases h with h|h<;>simp[h]<;>omega
  ·rcases h with h|h<;>simp[h]
 ·have D:k%4=1\/k%4=3:=by omega
  refine⟨f, .inr rfl,?_,?_⟩
  ·rcases D with h|h<;>simp[h]
  ·rcases D with h|h<;>simp[h]<;>omega
theorem FN {pl:Int} (h:bd i d):(plU pl d).natAbs<=i/\(plW pl d).natAbs<=i/\(plH pl d).natAbs<=i:=by
 obtain⟨D,G,I⟩:=h;unfold plU plW plH;refine⟨?_,?_,?_⟩<;>split<;>(try split)<;>assumption
def I3 (l:Rw) (M:Fn):Prop:=∀(k:Nat) {n:Int},0<n/\n<=4611686018427387904->
  ∃(v:Int) (k':Nat),M [I n, .vC Aa l,I k]=some [I v, .vC Aa l,I k']/\0<=v/\v<n/\k<=k'/\(k<l.length->k'=k+1)/\(l.length<=k->k'=k)
abbrev Gc (it:Itm):Prop:=it.block=0/\it.side=0/\it.radius=0/\it.aS=0/\it.on=false
theorem Z2s (h:0<=v/\v<3):Ag (nth .vD (nth [] [[I 17],[I 18],[I 19]] v.toNat) 0)=17+v:=by
 have D:v=0\/v=1\/v=2:=by omega
 rcases D with rfl|rfl|rfl<;>rfl
theorem Q1c (h:0<=v/\v<4):∃x,Ag (nth .vD (nth [] [[I 0],[I 0],[I 7],[I (-12)]] v.toNat) 0)=x/\(x=0\/x=7\/x= -12):=by
 have D:v=0\/v=1\/v=2\/v=3:=by omega
 rcases D with rfl|rfl|rfl|rfl<;>exact⟨_,rfl,by decide⟩
theorem Zc5 (U:I3 l T)
  (hP:∀{p:Pt} {pl:Int},Df pl->W [I p.x,I p.y,I p.z,I pl]=some [I (plU pl p),I (plW pl p),I (plH pl p)])
  (hS:∀{u w h pl:Int},Df pl->M [I u,I w,I h,I pl]=some (ptR (spP pl u w h)))
  (hT:∀{r k:Int},(0<=r/\r<=1000000)->(0<=k/\k<=1000)->Z [I r,I k]=some [I (AX r k),I (AY r k)])
  {p:Pt} (hp:bd 100000000 p) {size:Int} (hs:0<size/\size<=100000) (k:Nat):
  ∃(it:Itm) (k':Nat),Qho M Z W T [I p.x,I p.y,I p.z,I size, .vC Aa l,I k]=some (Af it++[.vC Aa l,I k'])/\k<=k'/\it.fr=p/\ArcMade size it/\
   it.aZ=0/\it.perRev=false/\it.bH=0/\it.n=0/\Gc it:=by
 obtain⟨N,k1,e1,a1,b1,c1,-,-⟩:=U k (n:=3) (by omega);obtain⟨v2,k2,e2,a2,b2,c2,-,-⟩:=U k1 (n:=2) (by omega);obtain⟨G,k3,e3,a3,b3,c3,-,-⟩:=U k2 (n:=size) (by omega);obtain⟨D,k4,e4,a4,b4,c4,-,-⟩:=U k3 (n:=4) (by omega);obtain⟨L,k5,e5,a5,b5,c5,-,-⟩:=U k4 (n:=4) (by omega);rw[Zxc];simp only[go_sem,e1,e2,e3,e4,e5];rw[ab (by simp;omega)];have a0:Df (17+N):=by unfold Df;omega
 have w1:V (8+G)=8+G:=Ad;have w2:V (D+L)=D+L:=Ad;simp only[Z2s ⟨a1,b1⟩,hP a0,go_sem,w1,w2,hT (r:=8+G) (k:=D) (by omega) (by omega),hT (r:=8+G) (k:=D+L) (by omega) (by omega),hS a0];obtain⟨q1,q2,q3⟩:=FN (pl:=17+N) hp;obtain⟨⟨r1,r2⟩,r3,r4⟩:=KZ (r:=8+G) (k:=D) (by omega);obtain⟨⟨r5,r6⟩,r7,r8⟩:=KZ (r:=8+G) (k:=D+L) (by omega);obtain⟨d1,d2⟩:=Zbt (r:=8+G) (by omega) (D+L);obtain⟨⟨r9,f2⟩,f3,f4⟩:=KZ (r:=1) (k:=D+L) (by omega);have w3:V (plU (17+N) p-AX (8+G) D)=plU (17+N) p-AX (8+G) D:=Ad;have w4:V (plW (17+N) p-AY (8+G) D)=plW (17+N) p-AY (8+G) D:=Ad;have w5:V (1-V (v2*2))=1-v2*2:=by rw[Ad (x:=v2*2),Ad]
 have w6:V (plU (17+N) p-AX (8+G) D+AX (8+G) (D+L))=plU (17+N) p-AX (8+G) D+AX (8+G) (D+L):=Ad;have w7:V (plW (17+N) p-AY (8+G) D+AY (8+G) (D+L))=plW (17+N) p-AY (8+G) D+AY (8+G) (D+L):=Ad;rw[w3,w4,w5,w6,w7];have d0:1-v2*2=1\/1-v2*2= -1:=by omega
 have fin:∀(g:Int) (u w:Int) (k8:Nat),k5<=k8->0<=g->g<=4->(L=0->g=0)->u=AX (8+G+g) (D+L)->w=AY (8+G+g) (D+L)->∀O:Int,0<=O/\O<4->
   ∃it:Itm,[I 3,I 0,I p.x,I p.y,I p.z,I (spP (17+N) (plU (17+N) p-AX (8+G) D+u) (plW (17+N) p-AY (8+G) D+w) (plH (17+N) p+Ag (nth .vD (nth [] [[I 0],[I 0],[I 7],[I (-12)]] O.toNat) 0))).x,
    I (spP (17+N) (plU (17+N) p-AX (8+G) D+u) (plW (17+N) p-AY (8+G) D+w) (plH (17+N) p+Ag (nth .vD (nth [] [[I 0],[I 0],[I 7],[I (-12)]] O.toNat) 0))).y,
    I (spP (17+N) (plU (17+N) p-AX (8+G) D+u) (plW (17+N) p-AY (8+G) D+w) (plH (17+N) p+Ag (nth .vD (nth [] [[I 0],[I 0],[I 7],[I (-12)]] O.toNat) 0))).z,
    I (17+N),I (spP (17+N) (plU (17+N) p-AX (8+G) D) (plW (17+N) p-AY (8+G) D) (plH (17+N) p)).x,I (spP (17+N) (plU (17+N) p-AX (8+G) D) (plW (17+N) p-AY (8+G) D) (plH (17+N) p)).y,I (spP (17+N) (plU (17+N) p-AX (8+G) D) (plW (17+N) p-AY (8+G) D) (plH (17+N) p)).z,
    I (1-v2*2),B (decide (L=0)),I 0,B false,I 0,I 0,I 0,I 0,I 0,B false, .vC Aa l,I k8]=Af it++[.vC Aa l,I k8]/\it.fr=p/\ArcMade size it/\it.aZ=0/\it.perRev=false/\it.bH=0/\it.n=0/\Gc it:=by
  intro g u w k8 f5 d6 e0 f0 hu hw O b0;obtain⟨x,hx,d3⟩:=Q1c b0;rw[hx];refine⟨⟨3,0,p,_,17+N,_,1-v2*2,decide (L=0),0,false,0,0,0,0,0,false⟩,rfl,rfl,⟨rfl,a0,d0,8+G,D,L,g,x,?_⟩,rfl,rfl,rfl,rfl,rfl,rfl,rfl,rfl,rfl⟩;subst hu hw;exact⟨by omega,by omega,by omega,by omega,by omega,by omega,d6,e0,d3,f0,rfl,rfl,rfl⟩
 have c0:∀O:Int,0<=O/\O<4->V (plH (17+N) p+Ag (nth .vD (nth [] [[I 0],[I 0],[I 7],[I (-12)]] O.toNat) 0))=plH (17+N) p+Ag (nth .vD (nth [] [[I 0],[I 0],[I 7],[I (-12)]] O.toNat) 0):=by
  intro O b0;obtain⟨x,hx,d3⟩:=Q1c b0;rw[hx];exact Ad
 have f1:(L==0)=decide (L=0):=rfl;by_cases d4:L>0
 ·rw[ab d4];obtain⟨v6,k6,e6,a6,b6,c6,-,-⟩:=U k5 (n:=3) (by omega);simp only[go_sem,e6];by_cases d5:v6=0
  ·rw[ab d5,aa];obtain⟨v7,k7,e7,a7,b7,c7,-,-⟩:=U k6 (n:=5) (by omega);obtain⟨v8,k8,e8,a8,b8,c8,-,-⟩:=U k7 (n:=5) (by omega);obtain⟨O,X,e9,Y,b9,c9,-,-⟩:=U k8 (n:=4) (by omega);simp only[go_sem,e7,e8,e9];rw[aa,ab (by simp;omega),c0 O ⟨Y,b9⟩,d1,d2];obtain⟨g,hg,hu,hw⟩:=Z5l (8+G) (D+L) v7 v8;have mu: -4<=AX 1 (D+L)*v7/\AX 1 (D+L)*v7<=4:=by
    have hc:AX 1 (D+L)= -1\/AX 1 (D+L)=0\/AX 1 (D+L)=1:=by omega
    rcases hc with h|h|h<;>rw[h]<;>omega
   have mw: -4<=AY 1 (D+L)*v8/\AY 1 (D+L)*v8<=4:=by
    have hc:AY 1 (D+L)= -1\/AY 1 (D+L)=0\/AY 1 (D+L)=1:=by omega
    rcases hc with h|h|h<;>rw[h]<;>omega
   rw[Ad (x:=AX 1 (D+L)),Ad (x:=AY 1 (D+L)),Ad (x:=AX 1 (D+L)*v7),Ad (x:=AY 1 (D+L)*v8),
    Ad (x:=AX (8+G) (D+L)+_),Ad (x:=AY (8+G) (D+L)+_),hu,hw]
   obtain⟨⟨s1,s2⟩,s3,s4⟩:=KZ (r:=8+G+g) (k:=D+L) (by omega);rw[Ad (x:=_+AX (8+G+g) (D+L)),Ad (x:=_+AY (8+G+g) (D+L))];obtain⟨it,h1,h2⟩:=fin g _ _ X (by omega) (by omega) (by omega) (by omega) rfl rfl O ⟨Y,b9⟩;refine⟨it,X,?_,by omega,h2⟩;exact iz some h1
  ·rw[aa d5];obtain⟨O,X,e9,Y,b9,c9,-,-⟩:=U k6 (n:=4) (by omega);simp only[go_sem,e9];rw[ab (by simp;omega),c0 O ⟨Y,b9⟩];obtain⟨it,h1,h2⟩:=fin 0 _ _ X (by omega) (by omega) (by omega) (by omega) (by rw[fm]) (by rw[fm]) O ⟨Y,b9⟩;refine⟨it,X,?_,by omega,h2⟩;exact iz some h1
 ·rw[aa d4];obtain⟨O,X,e9,Y,b9,c9,-,-⟩:=U k5 (n:=4) (by omega);simp only[go_sem,e9];rw[ab (by simp;omega),c0 O ⟨Y,b9⟩];obtain⟨it,h1,h2⟩:=fin 0 _ _ X (by omega) (by omega) (by omega) (by omega) (by rw[fm]) (by rw[fm]) O ⟨Y,b9⟩;refine⟨it,X,?_,by omega,h2⟩;exact iz some h1
theorem JG (D:Src l):I3 l Da:=λk _ G=>Z6o D k G
theorem Z2l (D:Src l) {p:Pt} (G:bd 100000000 p) {size:Int} (L:0<size/\size<=100000) (k:Nat):
  ∃(it:Itm) (k':Nat),Qj [I p.x,I p.y,I p.z,I size, .vC Aa l,I k]=some (Af it++[.vC Aa l,I k'])/\k<=k'/\it.fr=p/\ArcMade size it/\
   it.aZ=0/\it.perRev=false/\it.bH=0/\it.n=0/\Gc it:=
 Zc5 (JG D) Zw6 Z8f Z82 G L k
structure Made (it : Itm) : Prop where
 aP:1<=it.aP/\it.aP<=6
 line:it.aP≠3->(it.to.x-it.fr.x).natAbs<=16/\(it.to.y-it.fr.y).natAbs<=16/\(it.to.z-it.fr.z).natAbs<=16
 arc:it.aP=3->ArcMade 8 it
 aZ:it.aP≠1->1<=it.aZ/\it.aZ<=60000000
 bH:0<=it.bH/\it.bH<=9
 sync:it.aP=5\/it.aP=6->it.bH=0/\it.aZ<=60
 free:it.aP<=4->it.perRev=false
 bG:it.aP≠3->it.bG=false
theorem Q6z (h:0<=v/\v<5):∃x,Ag (nth .vD (nth [] [[I 300000],[I 1],[I 60000],[I 2000000],[I 60000000]] v.toNat) 0)=x/\1<=x/\x<=60000000:=by
 have D:v=0\/v=1\/v=2\/v=3\/v=4:=by omega
 rcases D with rfl|rfl|rfl|rfl|rfl<;>exact⟨_,rfl,by decide⟩
theorem Q30 (h:0<=v/\v<5):∃x,Ag (nth .vD (nth [] [[I 0],[I 1],[I 2],[I 4],[I 9]] v.toNat) 0)=x/\0<=x/\x<=9:=by
 have D:v=0\/v=1\/v=2\/v=3\/v=4:=by omega
 rcases D with rfl|rfl|rfl|rfl|rfl<;>exact⟨_,rfl,by decide⟩
theorem Z9q {it:Itm} (h:ArcMade a it) (f b:Int) (pr:Bool) (n:Int):ArcMade a {it with aZ:=f,bH:=b,perRev:=pr,n:=n}:=⟨h.aP,h.aG,h.dir,h.ends⟩
theorem Zze (D:I3 l Z)
  (hA:∀{p:Pt},bd 100000000 p->∀k:Nat,∃(it:Itm) (k':Nat),M [I p.x,I p.y,I p.z,I 8, .vC Aa l,I k]=some (Af it++[.vC Aa l,I k'])/\k<=k'/\it.fr=p/\ArcMade 8 it/\it.aZ=0/\it.perRev=false/\it.bH=0/\it.n=0/\Gc it)
  {p:Pt} (hp:bd 100000000 p) {aP:Int} (hk:1<=aP/\aP<=6) (k:Nat):
  ∃(it:Itm) (k':Nat),VD Z M [I p.x,I p.y,I p.z,I aP, .vC Aa l,I k]=some (Af it++[.vC Aa l,I k'])/\k<=k'/\it.fr=p/\it.aP=aP/\Made it/\Gc it:=by
 rw[Zzm];obtain⟨d2,d3,d4⟩:=hp;by_cases h3:aP=3
 ·subst h3;obtain⟨it,k1,e1,c1,g1,g2,g3,g4,g5,g6,g7,g8,g9,g10,g11⟩:=hA ⟨d2,d3,d4⟩ k;obtain⟨G,k2,e2,a2,b2,c2,-,-⟩:=D k1 (n:=5) (by omega);obtain⟨L,k3,e3,a3,b3,c3,-,-⟩:=D k2 (n:=5) (by omega);simp only[go_sem,e1,Af,az,bf,e2,e3];rw[aa,ab (by simp;omega),ab (by simp;omega),aa,aa,aa];obtain⟨f,hf,a0,b0⟩:=Q6z ⟨a2,b2⟩;obtain⟨b,hb,c0,d0⟩:=Q30 ⟨a3,b3⟩;rw[hf,hb];have N:=g2.aP;refine⟨{it with aZ:=f,bH:=b,perRev:=it.perRev,n:=it.n},k3,rfl,by omega,g1,N,⟨?_,?_,?_,?_,?_,?_,?_,?_⟩,g7,g8,g9,g10,g11⟩
  ·show 1<=it.aP/\it.aP<=6;omega
  ·exact λh=>absurd N h
  ·exact λ_=>Z9q g2 f b _ _
  ·exact λ_=>⟨a0,b0⟩
  ·exact⟨c0,d0⟩
  ·intro h;change it.aP=5\/it.aP=6 at h;omega
  ·exact λ_=>g4
  ·exact λh=>absurd N h
 ·simp only[go_sem];rw[aa h3];obtain⟨O,k1,e1,a1,b1,c1,-,-⟩:=D k (n:=25) (by omega);obtain⟨G,k2,e2,a2,b2,c2,-,-⟩:=D k1 (n:=25) (by omega);obtain⟨L,k3,e3,a3,b3,c3,-,-⟩:=D k2 (n:=3) (by omega);obtain⟨v4,k4,e4,a4,b4,c4,-,-⟩:=D k3 (n:=9) (by omega);obtain⟨T,k5,e5,a5,b5,c5,-,-⟩:=D k4 (n:=2) (by omega);simp only[go_sem,e1,e2,e3,e4,e5];have hm:0<=L*v4/\L*v4<=16:=by
   have hc:L=0\/L=1\/L=2:=by omega
   rcases hc with rfl|rfl|rfl<;>omega
  generalize L*v4=m at hm;have w1:V (V (p.x+O)-12)=p.x+O-12:=by rw[Ad (x:=p.x+O),Ad]
  have w2:V (V (p.y+G)-12)=p.y+G-12:=by rw[Ad (x:=p.y+G),Ad]
  have w3:V (V (p.z+V m)-V (8*T))=p.z+m-8*T:=by
   rw[Ad (x:=m),Ad (x:=p.z+m),Ad (x:=8*T),Ad]
  rw[w1,w2,w3]
  have mk:∀(f b n:Int) (pr:Bool),(aP≠1->1<=f/\f<=60000000)->(0<=b/\b<=9)->(aP=5\/aP=6->b=0/\f<=60)->(aP<=4->pr=false)->
    ∃it:Itm,Af it=[I aP,I 0,I p.x,I p.y,I p.z,I (p.x+O-12),I (p.y+G-12),I (p.z+m-8*T),I 0,I 0,I 0,I 0,I 0,B false,I f,B pr,I 0,I 0,I b,I n,I 0,B false]/\it.fr=p/\it.aP=aP/\Made it/\Gc it:=by
   intro f b n pr U h2 X Y;refine⟨⟨aP,0,p,⟨p.x+O-12,p.y+G-12,p.z+m-8*T⟩,0,⟨0,0,0⟩,0,false,f,pr,0,0,b,n,0,false⟩,rfl,rfl,rfl,⟨hk,λ_=> ?_,λh=>absurd h h3,U,h2,X,Y,λ_=>rfl⟩,rfl,rfl,rfl,rfl,rfl⟩;show(p.x+O-12-p.x).natAbs<=16/\(p.y+G-12-p.y).natAbs<=16/\(p.z+m-8*T-p.z).natAbs<=16;omega
  have en:∀(f b n:Int) (pr:Bool) (k':Nat),k<=k'->(aP≠1->1<=f/\f<=60000000)->(0<=b/\b<=9)->(aP=5\/aP=6->b=0/\f<=60)->(aP<=4->pr=false)->
    ∃(it:Itm) (d1:Nat),some [I aP,I 0,I p.x,I p.y,I p.z,I (p.x+O-12),I (p.y+G-12),I (p.z+m-8*T),I 0,I 0,I 0,I 0,I 0,B false,I f,B pr,I 0,I 0,I b,I n,I 0,B false, .vC Aa l,I k']=some (Af it++[.vC Aa l,I d1])/\k<=d1/\it.fr=p/\it.aP=aP/\Made it/\Gc it:=by
   intro f b n pr k' h0 U h2 X Y;obtain⟨it,i1,i2⟩:=mk f b n pr U h2 X Y;refine⟨it,k',?_,h0,i2⟩;rw[i1];rfl
  by_cases U:aP=1
  ·rw[ab U];exact en _ _ _ _ _ (by omega) (λh=>absurd U h) (by omega) (by omega) (λ_=>rfl)
  ·rw[aa U];obtain⟨v6,k6,e6,a6,b6,c6,-,-⟩:=D k5 (n:=5) (by omega);obtain⟨v7,k7,e7,a7,b7,c7,-,-⟩:=D k6 (n:=5) (by omega);obtain⟨v8,k8,e8,a8,b8,c8,-,-⟩:=D k7 (n:=60) (by omega);obtain⟨v9,k9,e9,a9,b9,c9,-,-⟩:=D k8 (n:=2) (by omega);simp only[go_sem,e6,e7,e8,e9];rw[ab (by simp;omega),ab (by simp;omega)];obtain⟨f,hf,a0,b0⟩:=Q6z ⟨a6,b6⟩;obtain⟨b,hb,c0,d0⟩:=Q30 ⟨a7,b7⟩;rw[hf,hb,Ad (x:=1+v8),Ad (x:=3+v9)];by_cases Y:aP=5
   ·rw[ab Y,aa];exact en _ _ _ _ _ (by omega) (by omega) (by omega) (by omega) (by omega)
   ·rw[aa Y];by_cases h6:aP=6
    ·rw[ab h6,ab h6];exact en _ _ _ _ _ (by omega) (by omega) (by omega) (by omega) (by omega)
    ·rw[aa h6];by_cases X:aP=4
     ·rw[ab X];exact en _ _ _ _ _ (by omega) (by omega) (by omega) (by omega) (λ_=>rfl)
     ·rw[aa X];exact en _ _ _ _ _ (by omega) (by omega) (by omega) (by omega) (λ_=>rfl)
theorem Zs1 (G:Src l) {p:Pt} (D:bd 100000000 p) {aP:Int} (L:1<=aP/\aP<=6) (k:Nat):
  ∃(it:Itm) (k':Nat),Ne [I p.x,I p.y,I p.z,I aP, .vC Aa l,I k]=some (Af it++[.vC Aa l,I k'])/\k<=k'/\it.fr=p/\it.aP=aP/\Made it/\Gc it:=
 Zze (JG G) (λD k=>Z2l G D (by omega) k) D L k
def LJ:Pt->List Itm->Prop
 |_,[]=>True
 |p,it::l=>it.fr=p/\LJ it.to l
def HB:Pt->List Itm->Pt
 |p,[]=>p
 |_,it::l=>HB it.to l
theorem Q23 {p:Pt} {it:Itm}:∀{l:List Itm} {p:Pt},LJ p l->it.fr=HB p l->LJ p (l++[it])
 |[],_,_,h=>⟨h,trivial⟩
 |_::_,_,⟨D,G⟩,h=>⟨D,Q23 (p:=p) G h⟩
theorem Qaj {it:Itm}:∀{l:List Itm} {p:Pt},HB p (l++[it])=it.to
 |[],_=>rfl
 |_::l,_=>Qaj (l:=l)
structure Motions (B : Nat) (p : Pt) (l : List Itm) : Prop where
 chain:LJ p l
 made:∀it∈l,Made it/\Gc it/\it.aP<=3/\bd B it.fr/\bd B it.to
theorem Ue {it:Itm} (h:ArcMade a it) (M:a<=1000) (hf:bd i it.fr):bd (i+2*(12+a.toNat)) it.to/\bd (i+8+a.toNat) it.ce:=by
 obtain⟨r,k,t,g,x,N,O,T,U,V,X,Y,h8,h9,I,L,D,G⟩:=h.ends;obtain⟨q1,q2,q3⟩:=FN (pl:=it.aG) hf;obtain⟨⟨r1,r2⟩,r3,r4⟩:=KZ (r:=r) (k:=k) (by omega);obtain⟨⟨r5,r6⟩,r7,r8⟩:=KZ (r:=r+g) (k:=k+t) (by omega);rw[D,G];unfold bd spP;constructor<;>split<;>(try split)<;>refine⟨?_,?_,?_⟩<;>simp only<;>omega
theorem Qry {it:Itm} (h:Made it) (hf:bd i it.fr):bd (i+40) it.to:=by
 by_cases D:it.aP=3
 ·exact AR (Ue (h.arc D) (by omega) hf).1 (by omega)
 ·obtain⟨G,I,L⟩:=h.line D;obtain⟨g1,g2,M⟩:=hf;exact⟨by omega,by omega,by omega⟩
theorem Zl1 (h:0<=v/\v<5):∃x,Ag (nth .vD (nth [] [[I 2],[I 2],[I 2],[I 3],[I 1]] v.toNat) 0)=x/\1<=x/\x<=3:=by
 have D:v=0\/v=1\/v=2\/v=3\/v=4:=by omega
 rcases D with rfl|rfl|rfl|rfl|rfl<;>exact⟨_,rfl,by decide⟩
theorem Z3m {X ML Y MF:Fn} (hN:I3 l Y)
  (hM : ∀ {p : Pt}, bd 100000000 p -> ∀ {aP : Int}, (1 <= aP /\ aP <= 6) -> ∀ k : Nat,
   ∃(it:Itm) (k':Nat),X [I p.x,I p.y,I p.z,I aP, .vC Aa l,I k]=some (Af it++[.vC Aa l,I k'])/\k<=k'/\it.fr=p/\it.aP=aP/\Made it/\Gc it)
  (hL:∀k:Nat,ML [.vC Aa l,I k]=some [B (decide (k<l.length)), .vC Aa l,I k]) {D:Int} (hm:D<=1000) {p:Pt}:
  ∀s:List Itm×Nat,(Motions (4+40*1000) p s.1/\bd (4+40*s.1.length) (HB p s.1)/\(s.1=[]\/s.1.length<=D))->
   ∃o,Am (Qj7 X ML Y MF) [.vC Ai (s.1.map Af),I D,I (HB p s.1).x,I (HB p s.1).y,I (HB p s.1).z, .vC Aa l,I s.2]=some o/\o.1≠0/\
    ∃aA,o=(1,[.vC Ai (aA.map Af)])/\Motions (4+40*1000) p aA/\(aA=[]\/aA.length<=D):=by
 refine Qut (S:=List Itm×Nat) (λs=>[.vC Ai (s.1.map Af),I D,I (HB p s.1).x,I (HB p s.1).y,I (HB p s.1).z, .vC Aa l,I s.2]) _ (λs=>l.length-s.2) _ ?_;rintro⟨aA,k⟩ ⟨G,M,O⟩;simp only at G M O;simp only;rw[Zxq];simp only[go_sem,hL,ac];by_cases c1:(aA.length:Int)<D
 case neg=>
  rw[aa c1];exact .inr ⟨_,rfl,by simp,aA,rfl,G,O⟩
 rw[ab c1];by_cases T:k<l.length
 case neg=>
  rw[aa (by simpa using T)];exact .inr ⟨_,rfl,by simp,aA,rfl,G,O⟩
 rw[ab (by simpa using T)];obtain⟨v,k1,e1,a1,b1,d1,d2,-⟩:=hN k (n:=5) (by omega);have d3:=d2 T;subst d3;obtain⟨x,hx,a0,a2⟩:=Zl1 ⟨a1,b1⟩;have U:bd 100000000 (HB p aA):=AR M (by omega);obtain⟨it,k2,e2,g1,g2,g3,g4,g5⟩:=hM U (aP:=x) (by omega) (k+1);simp only[go_sem,e1,hx,e2,Af,az,bf];rw[ab (by simp;omega),ab (by simp;omega)];left;have L:=Qry g4 (by rw[g2];exact M);have V:aA.length<1000:=by omega
 refine⟨(aA++[it],k2),?_,⟨⟨Q23 (p:=p) G.chain g2,?_⟩,?_, .inr ?_⟩,?_⟩
 ·simp only[Qaj,bt,bj,dx,Af]
 ·intro i N;simp only[be,de]at N;rcases N with N|rfl
  ·exact G.made i N
  ·exact⟨g4,g5,by omega,by rw[g2];exact AR M (by omega),AR L (by omega)⟩
 ·simp only[Qaj,aq,dh];exact AR L (by omega)
 ·simp only[aq,dh];omega
 ·simp only;omega
theorem Zhy (G:I3 l W) (Y:T [.vC Aa l]=some [.vC Aa l,I 0]) {D:Int}
  (hL:∀(p:Pt) (k:Nat),bd 4 p->∃aA,N [.vC Ai [],I D,I p.x,I p.y,I p.z, .vC Aa l,I k]=some (1,[.vC Ai (aA.map Af)])/\Motions 40004 p aA/\(aA=[]\/aA.length<=D)):
  ∃(p:Pt) (aA:List Itm),Qfv M Z W T N [.vC Aa l,I D]=some [.vC Ai (aA.map Af)]/\Motions 40004 p aA/\(aA=[]\/aA.length<=D):=by
 obtain⟨L,U,e1,a1,b1,c1,-,-⟩:=G 0 (n:=9) (by omega);obtain⟨V,k2,e2,a2,b2,c2,-,-⟩:=G U (n:=9) (by omega);obtain⟨X,k3,e3,a3,b3,c3,-,-⟩:=G k2 (n:=9) (by omega);obtain⟨aA,h1,h2,h3⟩:=hL ⟨L-4,V-4,X-4⟩ k3 ⟨by simp only;omega,by simp only;omega,by simp only;omega⟩;rw[Zia];have O:W [I 9, .vC Aa l,I 0]=some [I L, .vC Aa l,I U]:=e1;simp only[go_sem,Y,O,e2,e3];rw[Ad (x:=L-4),Ad (x:=V-4),Ad (x:=X-4)];simp only[h1,go_sem];exact⟨_,aA,rfl,h2,h3⟩
theorem Z16 (D:Src l) {most:Int} (L:most<=1000):
  ∃(p:Pt) (aA:List Itm),PQ [.vC Aa l,I most]=some [.vC Ai (aA.map Af)]/\Motions 40004 p aA/\(aA=[]\/aA.length<=most):=by
 refine Zhy (JG D) (SS l) λp k G=> ?_;obtain⟨o,M,-,aA,rfl,N,O⟩:=Z3m (MF:=DS) (JG D) (λG _ T k=>Zs1 D G T k) (Zf9 l) L (p:=p) ([],k) ⟨⟨trivial,by simp⟩,G, .inl rfl⟩;exact⟨aA,M,N,O⟩
instance (pl:Int):Decidable (Df pl):=by unfold Df;infer_instance
instance (A:Nat) (p:Pt):Decidable (bd A p):=by unfold bd;infer_instance
def dU (it:Itm) (p:Pt):Int:=plU it.aG p-plU it.aG it.ce
def dW (it:Itm) (p:Pt):Int:=plW it.aG p-plW it.aG it.ce
def sq2 (u w:Int):Int:=u*u+w*w
def crs (u w x y:Int):Int:=u*y-w*x
def dt2 (u w x y:Int):Int:=u*x+w*y
def qA (it:Itm):Int:=sq2 (dU it it.fr) (dW it it.fr)
def qB (it:Itm):Int:=sq2 (dU it it.to) (dW it it.to)
def cAB (it:Itm):Int:=crs (dU it it.fr) (dW it it.fr) (dU it it.to) (dW it it.to)
def dAB (it:Itm):Int:=dt2 (dU it it.fr) (dW it it.fr) (dU it it.to) (dW it it.to)
def H7 (X Y:Int):Prop:=X+Y-16<=0\/(X+Y-16)*(X+Y-16)<=4*X*Y
def Qgj (it:Itm):Prop:=64<=qA it/\64<=qB it/\H7 (qA it) (qB it)/\(it.bG=true->dU it it.fr=dU it it.to/\dW it it.fr=dW it it.to)/\(it.bG=false->cAB it≠0\/dAB it<0)
def Zo0 (it:Itm):Prop:=Df it.aG/\(it.dir=1\/it.dir= -1)/\bd 1048576 it.ce/\Qgj it
def CE (it:Itm):Prop:=(1<=it.aP/\it.aP<=6)/\bd 1048576 it.fr/\bd 1048576 it.to/\(it.aP=3->Zo0 it)
theorem Qbo {it:Itm} {b c:Nat} (D:bd c it.ce) (h:bd b d):(dU it d).natAbs<=b+c/\(dW it d).natAbs<=b+c:=by
 obtain⟨G,I,L⟩:=FN (pl:=it.aG) h;obtain⟨g1,g2,M⟩:=FN (pl:=it.aG) D;unfold dU dW;omega
theorem Q1p (x:Int) {b:Nat} (h:x.natAbs<=b):0<=x*x/\x*x<=((b*b:Nat):Int):=by
 have D:=HV h h;have G:0<=x*x:=by rw[<-cq];omega
 omega
theorem Zaj {u w:Int} (D:u.natAbs<=i) (G:w.natAbs<=i):0<=sq2 u w/\sq2 u w<=((2*(i*i):Nat):Int):=by
 have I:=Q1p u D;have L:=Q1p w G;unfold sq2;omega
theorem Q01 {u w x y:Int} {b c:Nat} (D:u.natAbs<=b) (G:w.natAbs<=b) (I:x.natAbs<=c) (L:y.natAbs<=c):(dt2 u w x y).natAbs<=2*(b*c)/\(crs u w x y).natAbs<=2*(b*c):=by
 have M:=HV D I;have N:=HV G L;have O:=HV D L;have T:=HV G I;unfold dt2 crs;omega
theorem Zdy (D:64<=a) (G:64<=k):H7 a k↔(max a k-min a k-16<=0\/(max a k-min a k-16)*(max a k-min a k-16)<=64*min a k):=by
 unfold H7;have key:∀M m:Int,64<=M->64<=m->m<=M->((M+m-16<=0\/(M+m-16)*(M+m-16)<=4*M*m)↔(M-m-16<=0\/(M-m-16)*(M-m-16)<=64*m)):=by
  intro M m L N O;have e:(M-m-16)*(M-m-16)-64*m=(M+m-16)*(M+m-16)-4*M*m:=by grind
  by_cases I:M-m-16<=0
  ·refine iff_of_true (.inr ?_) (.inl I);have T:(16-(M-m))*(M-m+16)>=0:=bv (by omega) (by omega);have U:(M+m-16)*(M+m-16)-4*M*m=512-(16-(M-m))*(M-m+16)-32*(M+m):=by grind
   omega
  ·constructor
   ·rintro(h|h)
    ·omega
    ·exact .inr (by omega)
   ·rintro(h|h)
    ·omega
    ·exact .inr (by omega)
 by_cases h:a<=k
 ·rw[Int.max_eq_right h,Int.min_eq_left h,<-key k a G D h];have e1:a+k-16=k+a-16:=by omega
  have e2:4*a*k=4*k*a:=by grind
  rw[e1,e2]
 ·rw[Int.max_eq_left (by omega),Int.min_eq_right (by omega),<-key a k D G (by omega)]
theorem Zmv (p:Pt):NG [I p.x,I p.y,I p.z]=some [B (decide (bd 1048576 p))]:=by
 unfold NG;rw[Zm7];simp only[go_sem];by_cases h:bd 1048576 p
 ·obtain⟨O,T,U⟩:=h;rw[aa,aa,aa,aa,aa,aa];congr 3;symm;exact ai ⟨O,T,U⟩
 ·have e:decide (bd 1048576 p)=false:=al h;rw[e];unfold bd at h;by_cases D:p.x< -1048576
  ·rw[ab D]
  rw[aa D];by_cases G:p.x>1048576
  ·rw[ab G]
  rw[aa G];by_cases L:p.y< -1048576
  ·rw[ab L]
  rw[aa L];by_cases M:p.y>1048576
  ·rw[ab M]
  rw[aa M];by_cases N:p.z< -1048576
  ·rw[ab N]
  rw[aa N,ab]
def axI (pl:Int):Int×Int×Int:=if pl=17 then(0,1,2)else if pl=18 then(2,0,1)else if pl=19 then(1,2,0)else(0,0,0)
theorem Qem (pl:Int):Fz [I pl]=some [I (axI pl).1,I (axI pl).2.1,I (axI pl).2.2,B (decide (Df pl))]:=by
 unfold Fz;rw[Z0x];simp only[go_sem];unfold axI Df;by_cases D:pl=17
 ·rw[ab D,ab D];simp[D]
 rw[aa D,aa D];by_cases G:pl=18
 ·rw[ab G,ab G];simp[G]
 rw[aa G,aa G];by_cases L:pl=19
 ·rw[ab L,ab L];simp[L]
 rw[aa L,aa L];simp[D,G,L]
theorem Z6h (G:∀pl:Int,M [I pl]=some [I (axI pl).1,I (axI pl).2.1,I (axI pl).2.2,B (decide (Df pl))]) {p:Pt} {pl:Int} (D:Df pl):
  Vc M [I p.x,I p.y,I p.z,I pl]=some [I (plU pl p),I (plW pl p),I (plH pl p)]:=by
 rw[Z8d];simp only[go_sem,G];rw[aa (by simpa using D)];rcases D with rfl|rfl|rfl<;>rfl
theorem Qtt (D:Df a):HX [I d.x,I d.y,I d.z,I a]=some [I (plU a d),I (plW a d),I (plH a d)]:=Z6h Qem D
def Aq (p:Pt):Pt:=⟨p.x*16,p.y*16,p.z*16⟩
theorem Er (h:bd i d):bd (i*16) (Aq d):=by
 obtain⟨D,G,I⟩:=h;unfold Aq;exact⟨by simp only;omega,by simp only;omega,by simp only;omega⟩
theorem QL (pl:Int) (p:Pt):plU pl (Aq p)=plU pl p*16/\plW pl (Aq p)=plW pl p*16/\plH pl (Aq p)=plH pl p*16:=by
 unfold plU plW plH Aq;refine⟨?_,?_,?_⟩<;>split<;>(try split)<;>rfl
theorem Q06 (h:bd 100000000 d):Hu [I d.x,I d.y,I d.z]=some (ptR (Aq d)):=by
 unfold Hu;rw[Zle];obtain⟨D,G,L⟩:=h;rw[Ad,Ad,Ad];rfl
theorem Qhs {u w r h x y s g:Int} (D:u.natAbs<=1000000000) (G:w.natAbs<=1000000000) (L:x.natAbs<=1000000000) (M:y.natAbs<=1000000000):GC [I u,I w,I r,I h,I x,I y,I s,I g]=some [I (dt2 u w x y)]:=by
 unfold GC;rw[Zwf];have N:=HV D L;have O:=HV G M;unfold dt2;rw[Ad (x:=u*x),Ad (x:=w*y),Ad]
theorem Qkk {u w r h x y s g:Int} (D:u.natAbs<=1000000000) (G:w.natAbs<=1000000000) (L:x.natAbs<=1000000000) (M:y.natAbs<=1000000000):G1 [I u,I w,I r,I h,I x,I y,I s,I g]=some [I (crs u w x y)]:=by
 unfold G1;rw[Zlh];have N:=HV D M;have O:=HV G L;unfold crs;rw[Ad (x:=u*y),Ad (x:=w*x),Ad]
theorem Zd8 (N:∀{a b c d:Int},i64 a->i64 b->i64 c->i64 d->M [I a,I b,I c,I d]=some [I (Lj (a*b) (c*d))]) {X Y:Int} (O:64<=X/\X<=1000000000000000) (T:64<=Y/\Y<=1000000000000000):
  ∃v,XS M [I X,I Y]=some [B v]/\(v=true↔H7 X Y):=by
 rw[Zph,Zdy O.1 T.1];have G:mx X Y=max X Y:=by unfold mx;rw[Int.max_def];split<;>split<;>omega
 have L:mn X Y=min X Y:=by unfold mn;rw[Int.min_def];split<;>split<;>omega
 have U:max X Y<=1000000000000000/\64<=max X Y:=by omega
 have V:min X Y<=1000000000000000/\64<=min X Y:=by omega
 rw[G,L];generalize max X Y=a at*;generalize min X Y=b at*;simp only[go_sem];rw[Ad (x:=a-b),Ad (x:=a-b-16)];by_cases D:a-b-16<=0
 ·rw[ab D];exact⟨_,rfl,iff_of_true rfl (.inl D)⟩
 ·rw[aa D,N (by unfold i64;omega) (by unfold i64;omega) (by unfold i64;omega) (by unfold i64;omega)];refine⟨_,rfl,?_⟩;simp only[go_sem,dl,Zx0];exact⟨λh=> .inr h,λh=>h.resolve_left D⟩
theorem Zhk (D:64<=a/\a<=1000000000000000) (G:64<=k/\k<=1000000000000000):∃v,P8 [I a,I k]=some [B v]/\(v=true↔H7 a k):=Zd8 Z3r D G
theorem Zzb {it:Itm} (G:∀p:Pt,M [I p.x,I p.y,I p.z,I it.aG]=some [I (plU it.aG p),I (plW it.aG p),I (plH it.aG p)]) (L:∀{p:Pt},bd 100000000 p->Z [I p.x,I p.y,I p.z]=some (ptR (Aq p)))
  (T:bd 1048576 it.fr) (U:bd 1048576 it.to) (X:bd 1048576 it.ce):
  X3 M Z (Am (Qn9 M Z)) (Af it)=some [I (dU it it.fr*16),I (dW it it.fr*16),I 0,I (plH it.aG it.fr*16),I (dU it it.to*16),I (dW it it.to*16),I 0,I (plH it.aG it.to*16)]:=by
 rw[Zu2];obtain⟨q1,q2,q3⟩:=FN (pl:=it.aG) T;obtain⟨q4,q5,q6⟩:=FN (pl:=it.aG) U;obtain⟨q7,q8,q9⟩:=FN (pl:=it.aG) X;simp only[L (AR X (by omega)),G,go_sem];have w0:V (0+1)=1:=Ad;have Y:V (1+1)=2:=Ad;have N:=QL it.aG it.fr;have O:=QL it.aG it.to;have D:=QL it.aG it.ce;have u1:V (plU it.aG (Aq it.fr)-plU it.aG (Aq it.ce))=dU it it.fr*16:=by rw[N.1,D.1];unfold dU;rw[Ad];omega
 have u2:V (plW it.aG (Aq it.fr)-plW it.aG (Aq it.ce))=dW it it.fr*16:=by rw[N.2.1,D.2.1];unfold dW;rw[Ad];omega
 have u3:V (plU it.aG (Aq it.to)-plU it.aG (Aq it.ce))=dU it it.to*16:=by rw[O.1,D.1];unfold dU;rw[Ad];omega
 have u4:V (plW it.aG (Aq it.to)-plW it.aG (Aq it.ce))=dW it it.to*16:=by rw[O.2.1,D.2.1];unfold dW;rw[Ad];omega
 have b1:bd 100000000 it.fr:=AR T (by omega);have b2:bd 100000000 it.to:=AR U (by omega);have e1:=L b1;have e2:=L b2;rw[BB (by rw[Qml];simp only[go_sem,e1,e2,G,u1,u2,w0];rfl),BB (by rw[Qml];simp only[go_sem,e1,e2,G,u3,u4,Y];rfl),
  Bn (o:=(1,_)) (by rw[Qml];simp only[go_sem];rfl) (by simp)]
 simp only[go_sem,N.2.2,O.2.2]
theorem Q9y {it:Itm} (D:Df it.aG) (G:bd 1048576 it.fr) (L:bd 1048576 it.to) (M:bd 1048576 it.ce):
  KB (Af it)=some [I (dU it it.fr*16),I (dW it it.fr*16),I 0,I (plH it.aG it.fr*16),I (dU it it.to*16),I (dW it it.to*16),I 0,I (plH it.aG it.to*16)]:=
 Zzb (λ_=>Qtt D) Q06 G L M
theorem Z85 {T:Fn} {X Y C D N U O bw:Int} {bG:Bool} (hX:0<=X/\X<=1000000000000000) (hY:0<=Y/\Y<=1000000000000000)
  (hN:∀{X Y:Int},(64<=X/\X<=1000000000000000)->(64<=Y/\Y<=1000000000000000)->∃v,T [I X,I Y]=some [B v]/\(v=true↔H7 X Y)):
  ∃ v, (if X * 256 < V (128 * 128) then some [B false] else if Y * 256 < V (128 * 128) then some [B false] else
   (T [I (V ((X*256).tdiv 256)),I (V ((Y*256).tdiv 256))]).bind λo=>
   if¬Dz (nth .vD o 0)=true then some [B false]else if bG=true then if N*16=O*16 then some [B (U*16==bw*16)]else some [B false]else if C*256≠0 then some [B true]else some [B (decide (D*256<0))])=some [B v]/\
   (v=true↔64<=X/\64<=Y/\H7 X Y/\(bG=true->N=O/\U=bw)/\(bG=false->C≠0\/D<0)):=by
 rw[Ad (x:=128*128),Int.mul_tdiv_cancel _ (by omega),Int.mul_tdiv_cancel _ (by omega),Ad (x:=X),Ad (x:=Y)];by_cases c1:X*256<128*128
 ·rw[ab c1];exact⟨_,rfl,gz (by simp) λh=>by omega⟩
 rw[aa c1];by_cases c2:Y*256<128*128
 ·rw[ab c2];exact⟨_,rfl,gz (by simp) λh=>by omega⟩
 rw[aa c2];obtain⟨v,h1,h2⟩:=hN (X:=X) (Y:=Y) (by omega) (by omega);simp only[h1,go_sem];by_cases M:v=true
 case neg=>rw[ab M];exact⟨_,rfl,gz (by simp) λh=>M (h2.2 h.2.2.1)⟩
 rw[aa (by simpa using M)];have G:=h2.1 M;cases bG with
 |true=>
  rw[ab rfl];by_cases L:N*16=O*16
  ·rw[ab L];refine⟨_,rfl,?_⟩;simp only[beq_iff_eq];exact⟨λh=>⟨by omega,by omega,G,λ_=>⟨by omega,by omega⟩,λh=>by simp at h⟩,λh=>by have:=(h.2.2.2.1 trivial).2;omega⟩
  ·rw[aa L];exact⟨_,rfl,gz (by simp) λh=>L (by have:=(h.2.2.2.1 rfl).1;omega)⟩
 |false=>
  rw[aa (by simp)];by_cases L:C*256≠0
  ·rw[ab L];exact⟨_,rfl,iff_of_true rfl ⟨by omega,by omega,G,λh=>by simp at h,λ_=> .inl (by omega)⟩⟩
  ·rw[aa L];refine⟨_,rfl,?_⟩;simp only[dl];exact⟨λh=>⟨by omega,by omega,G,λh=>by simp at h,λ_=> .inr (by omega)⟩,λh=>by have:=(h.2.2.2.2 trivial);omega⟩
theorem Q25 (a b c d:Int):dt2 (a*16) (b*16) (c*16) (d*16)=dt2 a b c d*256/\crs (a*16) (b*16) (c*16) (d*16)=crs a b c d*256:=by
 unfold dt2 crs;constructor<;>grind
theorem Zjw (hA:∀pl:Int,O [I pl]=some [I (axI pl).1,I (axI pl).2.1,I (axI pl).2.2,B (decide (Df pl))]) (hW:∀p:Pt,H [I p.x,I p.y,I p.z]=some [B (decide (bd 1048576 p))])
  {it:Itm} (hE:Df it.aG->bd 1048576 it.fr->bd 1048576 it.to->bd 1048576 it.ce->P (Af it)=some [I (dU it it.fr*16),I (dW it it.fr*16),I 0,I (plH it.aG it.fr*16),I (dU it it.to*16),I (dW it it.to*16),I 0,I (plH it.aG it.to*16)])
  (hD:∀{u w r h x y s g:Int},u.natAbs<=1000000000->w.natAbs<=1000000000->x.natAbs<=1000000000->y.natAbs<=1000000000->W [I u,I w,I r,I h,I x,I y,I s,I g]=some [I (dt2 u w x y)])
  (hX:∀{u w r h x y s g:Int},u.natAbs<=1000000000->w.natAbs<=1000000000->x.natAbs<=1000000000->y.natAbs<=1000000000->M [I u,I w,I r,I h,I x,I y,I s,I g]=some [I (crs u w x y)])
  (hN:∀{X Y:Int},(64<=X/\X<=1000000000000000)->(64<=Y/\Y<=1000000000000000)->∃v,Z [I X,I Y]=some [B v]/\(v=true↔H7 X Y)):
  ∃v,Qmh M Z W P O H (Af it)=some [B v]/\(v=true↔CE it):=by
 rw[Zvi];simp only[go_sem,hW,hA];by_cases c1:it.aP<1
 ·rw[ab c1];exact⟨_,rfl,gz (by simp) λh=>by have:=h.1;omega⟩
 rw[aa c1];by_cases V:it.aP>6
 ·rw[ab V];exact⟨_,rfl,gz (by simp) λh=>by have:=h.1;omega⟩
 rw[aa V];by_cases G:bd 1048576 it.fr
 case neg=>rw[ab (by simpa using G)];exact⟨_,rfl,gz (by simp) λh=>G h.2.1⟩
 rw[aa (by simpa using G)];by_cases L:bd 1048576 it.to
 case neg=>rw[ab (by simpa using L)];exact⟨_,rfl,gz (by simp) λh=>L h.2.2.1⟩
 rw[aa (by simpa using L)];by_cases N:it.aP=3
 case neg=>rw[ab N];exact⟨_,rfl,iff_of_true rfl ⟨by omega,G,L,λh=>absurd h N⟩⟩
 rw[aa (by simpa using N)];by_cases c5:Df it.aG
 case neg=>rw[ab (by simpa using c5)];exact⟨_,rfl,gz (by simp) λh=>c5 (h.2.2.2 N).1⟩
 rw[aa (by simpa using c5)];by_cases D:bd 1048576 it.ce
 case neg=>
  refine⟨false,?_,gz (by simp) λh=>D (h.2.2.2 N).2.2.1⟩;split
  ·split
   ·rfl
   ·first|rfl|(rw[ab D])
  ·first|rfl|(rw[ab D])
 by_cases c6:it.dir=1\/it.dir= -1
 case neg=>
  rw[ab (c:=it.dir≠1),ab (c:=it.dir≠-1)];exact⟨false,rfl,gz (by simp) λh=>c6 (h.2.2.2 N).2.1⟩
 have U:=hE c5 G L D;obtain⟨b1,b2⟩:=Qbo (it:=it) D G;obtain⟨b3,b4⟩:=Qbo (it:=it) D L;simp only[Af]at U;have x1:=Zaj b1 b2;have x2:=Zaj b3 b4;have core:CE it↔64<=qA it/\64<=qB it/\H7 (qA it) (qB it)/\(it.bG=true->dU it it.fr=dU it it.to/\dW it it.fr=dW it it.to)/\(it.bG=false->cAB it≠0\/dAB it<0):=
  ⟨λh=>(h.2.2.2 N).2.2.2,λh=>⟨by omega,G,L,λ_=>⟨c5,c6,D,h⟩⟩⟩
 rw[core];have a0:0<=qA it/\qA it<=1000000000000000:=⟨x1.1,by unfold qA;omega⟩;have a1:0<=qB it/\qB it<=1000000000000000:=⟨x2.1,by unfold qB;omega⟩;have D1:= @hD (dU it it.fr*16) (dW it it.fr*16) 0 (plH it.aG it.fr*16) (dU it it.fr*16) (dW it it.fr*16) 0 (plH it.aG it.fr*16) (by omega) (by omega) (by omega) (by omega);have D2:= @hD (dU it it.to*16) (dW it it.to*16) 0 (plH it.aG it.to*16) (dU it it.to*16) (dW it it.to*16) 0 (plH it.aG it.to*16) (by omega) (by omega) (by omega) (by omega);have D3:= @hD (dU it it.fr*16) (dW it it.fr*16) 0 (plH it.aG it.fr*16) (dU it it.to*16) (dW it it.to*16) 0 (plH it.aG it.to*16) (by omega) (by omega) (by omega) (by omega);have D4:= @hX (dU it it.fr*16) (dW it it.fr*16) 0 (plH it.aG it.fr*16) (dU it it.to*16) (dW it it.to*16) 0 (plH it.aG it.to*16) (by omega) (by omega) (by omega) (by omega);rw[(Q25 _ _ _ _).1]at D1 D2 D3;rw[(Q25 _ _ _ _).2]at D4;have e1:dt2 (dU it it.fr) (dW it it.fr) (dU it it.fr) (dW it it.fr)=qA it:=rfl;have e2:dt2 (dU it it.to) (dW it it.to) (dU it it.to) (dW it it.to)=qB it:=rfl;have e3:dt2 (dU it it.fr) (dW it it.fr) (dU it it.to) (dW it it.to)=dAB it:=rfl;have e4:crs (dU it it.fr) (dW it it.fr) (dU it it.to) (dW it it.to)=cAB it:=rfl;rw[e1]at D1;rw[e2]at D2;rw[e3]at D3;rw[e4]at D4;have T:= @Z85 Z (qA it) (qB it) (cAB it) (dAB it) (dU it it.fr) (dW it it.fr) (dU it it.to) (dW it it.to) it.bG a0 a1 hN;have n7: ¬ ¬bd 1048576 it.ce:=λh=>h D;by_cases d1:it.dir=1
 ·rw[aa (c:=it.dir≠1) (λh=>h d1),aa n7];simp only[U,go_sem,D1,D2,D3,D4];exact T
 ·rw[ab (c:=it.dir≠1) d1,aa (c:=it.dir≠-1),aa n7];simp only[U,go_sem,D1,D2,D3,D4];exact T
theorem Ql6 (it:Itm):∃v,GN (Af it)=some [B v]/\(v=true↔CE it):=
 Zjw Qem Zmv (λD G I L=>Q9y D G I L) Qhs Qkk Zhk
def okS (s:Spk):Prop:=s.u.natAbs<=50000000/\s.w.natAbs<=50000000/\(0<=s.r/\s.r<=50000000)/\s.h.natAbs<=16777216
def hf (a b:Int):Int:=(a+b+1)/2
def BN (a b:Spk) (dir:Int) (bG:Bool):Int×Int:=
 if bG=true then(-a.u,-a.w)
 else if 0<dt2 a.u a.w b.u b.w/\0<crs a.u a.w b.u b.w*dir then(a.u+b.u,a.w+b.w)
 else if 0<dt2 a.u a.w b.u b.w then(-(a.u+b.u),-(a.w+b.w))
 else(dir*(b.w-a.w),dir*(a.u-b.u))
noncomputable def Dg (a b:Spk) (u w:Int):Spk:=if u=0/\w=0 then⟨0,0,0,0⟩else⟨AN u (hf a.r b.r) (sq2 u w),AN w (hf a.r b.r) (sq2 u w),hf a.r b.r,hf a.h b.h⟩
noncomputable def AI (a b:Spk) (dir:Int) (bG:Bool):Spk:=Dg a b (BN a b dir bG).1 (BN a b dir bG).2
theorem L2 {a b:Spk} (D:okS a) (hb:okS b) {dir:Int} (G:dir=1\/dir= -1) (bG:Bool):(BN a b dir bG).1.natAbs<=100000000/\(BN a b dir bG).2.natAbs<=100000000:=by
 obtain⟨a1,a2,-⟩:=D;obtain⟨b1,b2,-⟩:=hb;unfold BN;split
 ·exact⟨by simp only;omega,by simp only;omega⟩
 ·split
  ·exact⟨by simp only;omega,by simp only;omega⟩
  ·split
   ·exact⟨by simp only;omega,by simp only;omega⟩
   ·rcases G with rfl|rfl
    ·exact⟨by simp only;omega,by simp only;omega⟩
    ·exact⟨by simp only;omega,by simp only;omega⟩
theorem Iz (u w:Int):u*u<=sq2 u w/\w*w<=sq2 u w:=by
 have D:=B3 u;have G:=B3 w;unfold sq2;omega
theorem JP {u w:Int} (h: ¬(u=0/\w=0)):0<sq2 u w:=by
 have I:=B3 u;have L:=B3 w;have z:∀u:Int,u*u=0->u=0:=λu G=>by
  rcases Int.mul_eq_zero.1 G with h|h<;>exact h
 have M: ¬(u*u=0/\w*w=0):=λD=>h ⟨z _ D.1,z _ D.2⟩;unfold sq2;omega
theorem Qfm (D:0<=a/\a<=50000000) (hb:0<=b/\b<=50000000):0<=hf a b/\hf a b<=50000000:=by unfold hf;omega
theorem Zfk (D:a.natAbs<=16777216) (hb:b.natAbs<=16777216):(hf a b).natAbs<=16777216:=by unfold hf;omega
theorem Qf8 {u w r:Int} (D:u.natAbs<=100000000) (G:w.natAbs<=100000000) (T:0<=r/\r<=50000000) (h: ¬(u=0/\w=0)):(AN u r (sq2 u w)).natAbs<=r.natAbs/\(AN w r (sq2 u w)).natAbs<=r.natAbs:=by
 have U:=JP h;have V:=B0 D;have X:=B0 G;have Y:sq2 u w<=20000000000000000:=by unfold sq2;omega
 obtain⟨I,L⟩:=Iz u w;have key:∀x:Int,x.natAbs<=100000000->x*x<=sq2 u w->(AN x r (sq2 u w)).natAbs<=r.natAbs:=by
  intro x M N;have O:=(Ru (x:=x) (r:=r) (n:=sq2 u w) (cb M (by decide)) (by omega) (by omega) N).2;refine Xa (by omega) ?_ O;have:((x.natAbs*x.natAbs:Nat):Int)=x*x:=cq;omega
 exact⟨key u D I,key w G L⟩
theorem Qqx {a b:Spk} (D:okS a) (hb:okS b) {u w:Int} (I:u.natAbs<=100000000) (L:w.natAbs<=100000000):okS (Dg a b u w):=by
 unfold Dg;split
 ·exact⟨by simp,by simp,by simp,by simp⟩
 ·rename_i h;have G:=Qfm D.2.2.1 hb.2.2.1;obtain⟨M,N⟩:=Qf8 I L G h;exact⟨by simp only;omega,by simp only;omega,G,Zfk D.2.2.2 hb.2.2.2⟩
theorem ZL {a b:Spk} (D:okS a) (hb:okS b) {dir:Int} (G:dir=1\/dir= -1) (bG:Bool):okS (AI a b dir bG):=
 Qqx D hb (L2 D hb G bG).1 (L2 D hb G bG).2
theorem Hl {x:Int} (h:x.natAbs<=50000000):x.natAbs<=1000000000:=cb h (by decide)
def DE (a b:Spk) (dir:Int) (bG:Bool):Prop:=bG=false/\0<crs a.u a.w b.u b.w*dir/\sq2 (a.u-b.u) (a.w-b.w)<=32*mn a.r b.r-64
instance {a b:Spk} {dir:Int} {bG:Bool}:Decidable (DE a b dir bG):=by unfold DE;infer_instance
noncomputable def AK (dir:Int):Nat->Bool->Spk->Spk->List Spk
 |0,_,_,b=>[b]
 |k+1,bG,a,b=>if DE a b dir bG then [b]else AK dir k false a (AI a b dir bG)++AK dir k false (AI a b dir bG) b
theorem Pe {dir:Int}:∀(k:Nat) (bG:Bool) (a b:Spk),1<=(AK dir k bG a b).length/\(AK dir k bG a b).length<=2^k
 |0,_,_,b=>by simp[AK]
 |k+1,bG,a,b=>by
  have D:0<2^k:=f9 _;have e3:2^(k+1)=2^k+2^k:=by rw[ji];omega
  unfold AK;split
  ·simp;omega
  ·have G:=Pe k false a (AI a b dir bG) (dir:=dir);have I:=Pe k false (AI a b dir bG) b (dir:=dir);rw[aq];omega
theorem Vz {dir:Int} (G:dir=1\/dir= -1):∀(k:Nat) (bG:Bool) {a b:Spk},okS a->okS b->∀s∈AK dir k bG a b,okS s
 |0,_,a,b,_,hb,s,D=>by simp[AK]at D;subst D;exact hb
 |k+1,bG,a,b,I,hb,s,D=>by
  unfold AK at D;have L:=ZL I hb G bG;split at D
  ·simp at D;subst D;exact hb
  ·rcases be.1 D with D|D
   ·exact Vz G k false I L s D
   ·exact Vz G k false L hb s D
theorem Zju {n i j:Int} (G:Jp n i) (I:Jp n j):i=j:=by
 have key:∀{i j:Int},Jp n i->Jp n j-> ¬i<j:=by
  rintro i j ⟨L,M,-⟩ ⟨O,T,D⟩ N;rcases D with D|D
  ·omega
  ·have U:=db (show i<=j-1 by omega) (show i+1<=j by omega) (by omega) (by omega);omega
 have L:=key G I;have M:=key I G;omega
open Classical in
noncomputable def EX (n:Int):Int:=if h:∃j,Jp n j then Classical.choose h else 0
theorem NN {n k:Int} (h:Jp n k):EX n=k:=by
 have D:∃j,Jp n j:=⟨k,h⟩;unfold EX;rw[jy D];exact Zju (gj D) h
theorem QC {n r:Nat} (D:r*r<=n) (G:n<(r+1)*(r+1)):Jp n (if r*r+r<n then r+1 else r:Nat):=by
 have e0:(r+1)*(r+1)=r*r+r+r+1:=by grind
 unfold Jp;by_cases c:r*r+r<n
 ·rw[ab c];have e1:((r+1:Nat):Int)*(((r+1:Nat):Int)+1)=((r*r+r+r+r+2:Nat):Int):=by
   have:((r+1:Nat):Int)+1=((r+2:Nat):Int):=by omega
   rw[this,<-cd];congr 1
   grind
  have e2:(((r+1:Nat):Int)-1)*((r+1:Nat):Int)=((r*r+r:Nat):Int):=by
   rw[show((r+1:Nat):Int)-1=(r:Int) by omega,<-cd];congr 1
  rw[e1,e2];generalize r*r=A at*;exact⟨by omega,by omega, .inr (by omega)⟩
 ·rw[aa c];have e1:(r:Int)*((r:Int)+1)=((r*r+r:Nat):Int):=by
   rw[show(r:Int)+1=((r+1:Nat):Int) by omega,<-cd];congr 1
  rw[e1];refine⟨by omega,by omega,?_⟩;rcases ez r with h|h
  ·left;omega
  ·right;have e2:((r:Int)-1)*(r:Int)=(((r-1)*r:Nat):Int):=by
    rw[show(r:Int)-1=((r-1:Nat):Int) by omega];exact(cd _ _).symm
   have:=fa (show r-1<r by omega) h;rw[e2];omega
noncomputable def AE (it:Itm) (p:Pt):Spk:=⟨dU it p*16,dW it p*16,EX (sq2 (dU it p*16) (dW it p*16)),plH it.aG p*16⟩
theorem Zoj {n:Nat} (L:n<=2251799813685248):0<=EX n/\EX n<=50000000:=by
 obtain⟨r,D,G⟩:=KR n;have I:=QC D G;rw[NN I];have:r<50000000:=by
  by_cases c:r<50000000
  ·exact c
  ·have:=eg (show 50000000<=r by omega) (show 50000000<=r by omega);omega
 split<;>omega
theorem N_ {it:Itm} (I:bd 1048576 it.ce) (L:bd 1048576 d):(dU it d*16).natAbs<=33554432/\(dW it d*16).natAbs<=33554432/\0<=sq2 (dU it d*16) (dW it d*16)/\sq2 (dU it d*16) (dW it d*16)<=2251799813685248:=by
 obtain⟨M,N⟩:=Qbo I L;have D:(dU it d*16).natAbs<=33554432:=by omega
 have G:(dW it d*16).natAbs<=33554432:=by omega
 have O:=B0 D;have T:=B0 G;refine⟨D,G,?_⟩;unfold sq2;omega
theorem L0 {it:Itm} (G:bd 1048576 it.ce) (D:bd 1048576 d):okS (AE it d):=by
 obtain⟨I,L,M,N⟩:=N_ G D;have T:=(FN (pl:=it.aG) D).2.2;obtain⟨n,O⟩:=bh M;refine⟨cb I (by decide),cb L (by decide),?_,?_⟩
 ·show 0<=EX _/\EX _<=_;rw[O]at N⊢;exact Zoj (by omega)
 ·show(plH it.aG d*16).natAbs<=_;omega
noncomputable def CJ (it:Itm):List Spk:=AE it it.fr::AK it.dir 16 it.bG (AE it it.fr) (AE it it.to)
theorem Q4y {it:Itm} (h:CE it) (L:it.aP=3):∀s∈CJ it,okS s:=by
 obtain⟨-,I,M,N⟩:=h;obtain⟨T,O,D,-⟩:=N L;intro s G;rcases av.1 G with rfl|G
 ·exact L0 D I
 ·exact Vz O 16 _ (L0 D I) (L0 D M) s G
theorem Qu7 (it:Itm):2<=(CJ it).length/\(CJ it).length<=65537:=by
 have:=Pe (dir:=it.dir) 16 it.bG (AE it it.fr) (AE it it.to);have e:(2:Nat)^16=65536:=rfl;rw[e]at this;unfold CJ;rw[bp];omega
noncomputable def CQ (it:Itm) (s:Spk):Pt:=spP it.aG (plU it.aG (Aq it.ce)+s.u) (plW it.aG (Aq it.ce)+s.w) s.h
noncomputable def Bv (it:Itm):List Pt:=if it.aP=3 then(CJ it).map (CQ it)else [Aq it.fr,Aq it.to]
theorem Qjc {pl u w h:Int} (D:u.natAbs<=i) (G:w.natAbs<=i) (I:h.natAbs<=i):bd i (spP pl u w h):=by
 unfold spP bd;split
 ·exact⟨D,G,I⟩
 ·split
  ·exact⟨G,I,D⟩
  ·exact⟨I,D,G⟩
theorem Zjr {it:Itm} {s:Spk} (D:bd 1048576 it.ce) (G:okS s):bd 67108864 (CQ it s):=by
 obtain⟨I,L,-⟩:=FN (pl:=it.aG) (Er D);obtain⟨s1,s2,-,M⟩:=G;exact Qjc (by omega) (by omega) (by omega)
theorem Tf {it:Itm} (h:CE it):∀p∈Bv it,bd 67108864 p:=by
 intro p D;unfold Bv at D;split at D
 ·rename_i G;simp only[bc]at D;obtain⟨s,I,rfl⟩:=D;exact Zjr (h.2.2.2 G).2.2.1 (Q4y h G s I)
 ·simp at D;rcases D with rfl|rfl
  ·exact AR (Er h.2.1) (by decide)
  ·exact AR (Er h.2.2.1) (by decide)
theorem Qwg (it:Itm):2<=(Bv it).length/\(Bv it).length<=65537:=by
 have:=Qu7 it;unfold Bv;split<;>simp<;>omega
def FQ (t:Itm) (aS:Int):Int:=if t.aP=1 then 0 else mx (AP (mn (if t.perRev=true then t.aZ*mx aS 1 else t.aZ) 60000000*4096) 60000) 1
theorem Zkk {f s:Int} (hf:0<=f/\f<=60000000) (G:0<=s/\s<=30000):0<=f*mx s 1/\f*mx s 1<=1800000000000:=by
 have D:1<=mx s 1/\mx s 1<=30000:=by unfold mx;split<;>omega
 generalize mx s 1=m at*;have I:=db hf.2 D.2 (by omega) (by omega);have L:=bv hf.1 (show 0<=m by omega);omega
theorem Q0k {x:Int} (h:0<=x):0<=mn x 60000000/\mn x 60000000<=60000000:=by unfold mn;split<;>omega
theorem Zwu {t:Itm} (hf:0<=t.aZ/\t.aZ<=60000000) (G:0<=k/\k<=30000)
  (D:∀a:Int,0<=a/\a<=60000000->M [I a,I 4096,I 60000,I 2]=some [I (AP (a*4096) 60000),B true]):VF M (Af t++[I k])=some [I (FQ t k)]:=by
 have L:=Zkk hf G;have N:=D _ (Q0k L.1);have O:=D _ (Q0k hf.1);have T:V (t.aZ*mx k 1)=t.aZ*mx k 1:=Ad;simp only[Af,az,bf];rw[Qwb,T];simp only[go_sem,N,O];unfold FQ;by_cases g1:t.aP=1
 ·rw[ab g1,ab g1]
 ·rw[aa g1,aa g1];by_cases g2:t.perRev=true
  ·rw[ab g2,ab g2]
  ·rw[aa g2,aa g2]
theorem Zea {t:Itm} (hf:0<=t.aZ/\t.aZ<=60000000) (D:0<=k/\k<=30000):JI (Af t++[I k])=some [I (FQ t k)]:=
 Zwu hf D λa G=>Tk (by unfold i64;omega) (by unfold i64;omega) (by omega) (by have:a.natAbs*(4096:Int).natAbs<=60000000*4096:=eg (by omega) (by omega);omega)
def it0:Itm:=⟨0,0,⟨0,0,0⟩,⟨0,0,0⟩,0,⟨0,0,0⟩,0,false,0,false,0,0,0,0,0,false⟩
def vE (aA:List Itm) (i:Nat):Itm:=aA.getD i it0
theorem Ob {aA:List Itm} (h:i<aA.length):vE aA i=aA[i]:=by unfold vE;simp[h]
theorem Qoq {aA:List Itm} (h:i<aA.length):vE aA i∈aA:=by rw[Ob h];exact ca h
theorem Fh {aA:List Itm} (h:i<aA.length):nth [] (aA.map Af) i=Af (vE aA i):=by rw[Ob h];exact GO _ _ _ _ h
theorem Qlg {aA:List Itm} (h:i<aA.length):aA.drop i=vE aA i::aA.drop (i+1):=by rw[Ob h];exact KF _ _ h
def AA (it:Itm):Prop:=1<=it.aP/\it.aP<=6
def smI (it:Itm):Prop:=it.aP=2/\it.fr≠it.to
def syI (it:Itm):Prop:=it.aP=5\/it.aP=6
instance (it:Itm):Decidable (AA it):=by unfold AA;infer_instance
instance (it:Itm):Decidable (smI it):=by unfold smI;infer_instance
instance (it:Itm):Decidable (syI it):=by unfold syI;infer_instance
def A7 (it:Itm):Pt:=⟨(it.fr.x+it.to.x)*8,(it.fr.y+it.to.y)*8,(it.fr.z+it.to.z)*8⟩
theorem Lm {it:Itm} (D:bd 1048576 it.fr) (G:bd 1048576 it.to):bd B24 (A7 it):=by
 unfold bd B24 A7 at*;simp only;omega
def GD:List Itm->Nat->Int
 |[],_=> -1
 |it::l,k=>if it.aP=10 then GD l (k+1)else if smI it then k else-1
def BE (aA:List Itm) (i:Nat):Int:=if smI (vE aA i)/\(vE aA i).bH≠0 then GD (aA.drop (i+1)) (i+1)else-1
theorem Qrl:∀(l:List Itm) (k:Nat),GD l k= -1\/∃j:Nat,GD l k=((k+j:Nat):Int)/\∃h:j<l.length,smI l[j]/\∀i (D:i<l.length),i<j->l[i].aP=10
 |[],_=> .inl rfl
 |it::l,k=>by
  unfold GD;split
  ·rename_i G;rcases Qrl l (k+1)with h|⟨j,I,T,L,M⟩
   ·exact .inl h
   ·refine .inr ⟨j+1,by rw[I];omega,by simp;omega,by simpa using L,?_⟩;intro i D N;cases i with
    |zero=>simpa using G
    |succ i=>simpa using M i (by simpa using D) (by omega)
  ·split
   ·rename_i O;exact .inr ⟨0,by simp,by simp,by simpa using O,λi _ D=>by omega⟩
   ·exact .inl rfl
theorem J4 (aA:List Itm) (i:Nat):BE aA i= -1\/(smI (vE aA i)/\(vE aA i).bH≠0/\∃k:Nat,BE aA i=k/\i<k/\k<aA.length/\smI (vE aA k)/\∀j,i<j->j<k->(vE aA j).aP=10):=by
 unfold BE;split
 ·rename_i h;rcases Qrl (aA.drop (i+1)) (i+1)with D|⟨j,D,L,G,M⟩
  ·exact .inl D
  ·have I:i+1+j<aA.length:=by rw[co]at L;omega
   refine .inr ⟨h.1,h.2,i+1+j,D,by omega,I,?_,?_⟩
   ·rw[Ob I];rw[List.getElem_drop]at G;exact G
   ·intro m N O;have:=M (m-(i+1)) (by omega) (by omega);rw[List.getElem_drop]at this;rw[Ob (by omega)];have e:i+1+(m-(i+1))=m:=by omega
    simp only[e]at this;exact this
 ·exact .inl rfl
def Qv (it:Itm):Int:=if it.aP=10 then 5 else if it.aP=13 then 4 else 3
def FE:List Itm->Int
 |[]=>2
 |it::l=>if AA it then(if syI it then 1 else 2)else FE l
def Iw (aA:List Itm) (i:Nat):Int:=if(vE aA i).aP=4 then 6 else if(vE aA i).bH=0 then 1 else if syI (vE aA i)then 1 else FE (aA.drop (i+1))
noncomputable def DR (aA:List Itm) (i k:Nat):List Pt:=EK (A7 (vE aA i)) (Aq (vE aA i).to) (A7 (vE aA k)) ((vE aA i).bH*16)
def drawn (it:Itm):Prop:=CE it/\0<=it.bH/\it.bH<=1000
theorem Ls {aA:List Itm} {i k:Nat} (D:drawn (vE aA i)) (G:drawn (vE aA k)):(∀p∈DR aA i k,bd B24 p)/\1<=(DR aA i k).length/\(DR aA i k).length<=65:=
 Qbe (Lm D.1.2.1 D.1.2.2.1) (Er D.1.2.2.1) (Lm G.1.2.1 G.1.2.2.1)
noncomputable def GX (aA:List Itm) (i:Nat) (frm:Int):List Pt:=if 0<=frm then(DR aA frm.toNat i).drop ((DR aA frm.toNat i).length/2)else(Bv (vE aA i)).take 1
noncomputable def Gm (aA:List Itm) (i:Nat):List Pt:=if 0<=BE aA i then(DR aA i (BE aA i).toNat).take ((DR aA i (BE aA i).toNat).length/2+1)else(Bv (vE aA i)).drop 1
noncomputable def BY (aA:List Itm) (i:Nat) (frm:Int):List Pt:=if smI (vE aA i)then GX aA i frm++[A7 (vE aA i)]++Gm aA i else Bv (vE aA i)
def LX (aA:List Itm) (i:Nat) (frm:Int):Prop:=frm= -1\/∃f:Nat,frm=f/\f<aA.length/\drawn (vE aA f)
theorem Ztg {aA:List Itm} (I:drawn (vE aA i)) (hf:LX aA i a):(∀p∈GX aA i a,bd 67108864 p)/\(GX aA i a).length<=65:=by
 unfold GX;rcases hf with rfl|⟨f,rfl,L,D⟩
 ·rw[aa];exact⟨λp G=>Tf I.1 p (dy G),by rw[d9];omega⟩
 ·rw[ab];obtain⟨M,N,O⟩:=Ls (aA:=aA) (i:=(f:Int).toNat) (k:=i) (by simpa using D) I;exact⟨λp G=>AR (M p (dt G)) (by decide),by rw[co];omega⟩
theorem U8 {aA:List Itm} (D:∀k<aA.length,AA (vE aA k)->drawn (vE aA k)) (M:0<=BE aA i):∃k:Nat,BE aA i=k/\k<aA.length/\drawn (vE aA k):=by
 rcases J4 aA i with h|⟨-,-,k,L,-,G,I,-⟩
 ·omega
 ·exact⟨k,L,G,D k G ⟨by have:=I.1;omega,by have:=I.1;omega⟩⟩
theorem Zry {aA:List Itm} (L:drawn (vE aA i)) (M:(vE aA i).aP≠3) (D:∀k<aA.length,AA (vE aA k)->drawn (vE aA k)):(∀p∈Gm aA i,bd 67108864 p)/\(Gm aA i).length<=66:=by
 unfold Gm;by_cases h:0<=BE aA i
 ·rw[ab h];obtain⟨k,N,O,G⟩:=U8 D h;obtain⟨T,M,U⟩:=Ls (aA:=aA) (i:=i) (k:=(BE aA i).toNat) L (by rw[N];simpa using G);exact⟨λp I=>AR (T p (dy I)) (by decide),by rw[d9];omega⟩
 ·rw[aa h];refine⟨λp I=>Tf L.1 p (dt I),?_⟩;unfold Bv;rw[aa M];simp
theorem Wy {aA:List Itm} (G:drawn (vE aA i)) (hf:LX aA i a) (I:∀k<aA.length,AA (vE aA k)->drawn (vE aA k)):
  (∀p∈BY aA i a,bd 67108864 p)/\(BY aA i a).length<=65537:=by
 unfold BY;by_cases L:smI (vE aA i)
 ·rw[ab L];obtain⟨M,O⟩:=Ztg G hf;obtain⟨N,T⟩:=Zry G (by have:=L.1;omega) I;refine⟨λp D=> ?_,by rw[aq,aq];simp;omega⟩;rcases be.1 D with D|D
  ·rcases be.1 D with D|D
   ·exact M p D
   ·simp at D;subst D;exact AR (Lm G.1.2.1 G.1.2.2.1) (by decide)
  ·exact N p D
 ·rw[aa L];exact⟨Tf G.1,(Qwg _).2⟩
theorem Q2y (l:List Pt):List.drop (Int.toNat 1) (l.map ptR)=(l.drop 1).map ptR:=by rw[show Int.toNat 1=1 from rfl,List.map_drop]
theorem R8 (l:List Pt):List.take (Int.toNat 1) (l.map ptR)=(l.take 1).map ptR:=by rw[show Int.toNat 1=1 from rfl,List.map_take]
end Go.Bm
namespace Go.Bm
open Classical
def B9 (it:Itm):Prop:=it.aP<1\/it.aP>14\/(AA it/\(¬CE it\/(it.aP≠1/\(it.aZ<1\/it.aZ>60000000))\/it.bH<0\/it.bH>1000))\/(¬AA it/\it.aP=8/\(it.n<3\/it.n>5\/it.aS<0\/it.aS>30000))
noncomputable def GF (aA:List Itm):Nat->Nat->Int->Int
 |0,_,_=>0
 |k+1,i,last=>if B9 (vE aA i)then 1 else if AA (vE aA i)then(if 0<=last/\(vE aA last.toNat).to≠(vE aA i).fr then 13 else GF aA k (i+1) i)else GF aA k (i+1) last
noncomputable def C4 (aA:List Itm):Int:=if aA.length>20000 then 10 else GF aA aA.length 0 (-1)
theorem WV {aA:List Itm}:∀(k i:Nat) (last:Int),i+k=aA.length->GF aA k i last=0->∀j,i<=j->j<aA.length-> ¬B9 (vE aA j)
 |0,i,last,I,_,j,L,D=>by omega
 |k+1,i,last,I,h,j,L,D=>by
  unfold GF at h;split at h
  ·omega
  ·rename_i c;by_cases G:j=i
   ·subst G;exact c
   ·split at h
    ·split at h
     ·omega
     ·exact WV k (i+1) _ (by omega) h j (by omega) D
    ·exact WV k (i+1) _ (by omega) h j (by omega) D
theorem JF {aA:List Itm} (h:C4 aA=0):aA.length<=20000/\∀j,j<aA.length-> ¬B9 (vE aA j):=by
 unfold C4 at h;split at h
 ·omega
 ·exact⟨by omega,λj D=>WV _ 0 _ (by omega) h j (by omega) D⟩
theorem Lx {it:Itm} (h: ¬B9 it) (D:AA it):drawn it/\(it.aP=1\/1<=it.aZ/\it.aZ<=60000000):=by
 unfold B9 at h;have G:CE it:=by
  by_cases c:CE it
  ·exact c
  ·exact absurd (.inr (.inr (.inl ⟨D, .inl c⟩))) h
 have I: ¬((it.aP≠1/\(it.aZ<1\/it.aZ>60000000))\/it.bH<0\/it.bH>1000):=λc=>h (.inr (.inr (.inl ⟨D, .inr c⟩)));exact⟨⟨G,by omega,by omega⟩,by omega⟩
theorem Zvm {it:Itm} (h: ¬B9 it) (D:it.aP=8):0<=it.aS/\it.aS<=30000:=by
 unfold B9 at h;have G: ¬AA it:=λc=>by have:=c.2;omega
 have I: ¬(it.n<3\/it.n>5\/it.aS<0\/it.aS>30000):=λc=>h (.inr (.inr (.inr ⟨G,D,c⟩)));omega
noncomputable def AU (aU aZ aX:Int) (s:List Sgm×Int×Pt) (q:Pt):List Sgm×Int×Pt:=if q=s.2.2 then s else(s.1++[⟨q,Ay s.2.2 q,aU,aZ,aX⟩],s.2.1+Ay s.2.2 q,q)
theorem Tc {aU aZ aX:Int}:∀(D:List Pt) (s:List Sgm×Int×Pt),(∀p∈D,bd 67108864 p)->bd 67108864 s.2.2->0<=s.2.1->
  (D.foldl (AU aU aZ aX) s).1.length<=s.1.length+D.length/\s.2.1<=(D.foldl (AU aU aZ aX) s).2.1/\(D.foldl (AU aU aZ aX) s).2.1<=s.2.1+D.length*268435456/\bd 67108864 (D.foldl (AU aU aZ aX) s).2.2
 |[],s,_,I,N=>⟨by simp,by simp,by simp,I⟩
 |q::D,s,L,I,N=>by
  rw[dv];have O:=L q (by simp);have T:=HF I O;have G:AU aU aZ aX s q=s\/AU aU aZ aX s q=(s.1++[⟨q,Ay s.2.2 q,aU,aZ,aX⟩],s.2.1+Ay s.2.2 q,q):=by unfold AU;split<;>simp
  rcases G with G|G
  ·rw[G];obtain⟨a,b,c,d⟩:=Tc D s (λp M=>L p (by simp[M])) I N (aU:=aU) (aZ:=aZ) (aX:=aX);exact⟨by simp;omega,b,by simp;omega,d⟩
  ·rw[G];obtain⟨a,b,c,d⟩:=Tc D (s.1++[⟨q,Ay s.2.2 q,aU,aZ,aX⟩],s.2.1+Ay s.2.2 q,q) (λp M=>L p (by simp[M])) O (by simp only;omega) (aU:=aU) (aZ:=aZ) (aX:=aX);simp only[aq,bp,dg]at a b c;exact⟨by simp;omega,by omega,by simp;omega,d⟩
structure BSt where
 aF:List Sgm
 aD:List Mrk
 (len aS frm:Int)
 bI:Bool
 (aQ at_:Pt)
def HO (it:Itm):Int:=if syI it then mn (it.aZ*16) 16777216 else 0
def QQ (it:Itm) (s:Int):Int:=if it.aP=8/\(it.n=3\/it.n=4)then it.aS else s
noncomputable def DC (aA:List Itm) (i:Nat) (s:BSt):List Sgm×Int×Pt:=
 (BY aA i s.frm).foldl (AU i (FQ (vE aA i) s.aS) (HO (vE aA i))) (s.aF,s.len,if s.bI=true then s.at_ else Aq (vE aA i).fr)
noncomputable def Dh (aA:List Itm) (i:Nat) (s:BSt):BSt:=
 if AA (vE aA i)then
  ⟨(DC aA i s).1,s.aD++[⟨(DC aA i s).2.1,Iw aA i,i⟩],(DC aA i s).2.1,s.aS,if 0<=BE aA i then i else-1,true,if s.bI=true then s.aQ else Aq (vE aA i).fr,(DC aA i s).2.2⟩
 else⟨s.aF,s.aD++[⟨s.len,Qv (vE aA i),i⟩],s.len,QQ (vE aA i) s.aS,s.frm,s.bI,s.aQ,s.at_⟩
noncomputable def At (aA:List Itm):Nat->BSt
 |0=>⟨[],[],0,0,-1,false,⟨0,0,0⟩,⟨0,0,0⟩⟩
 |i+1=>Dh aA i (At aA i)
structure BOK (aA : List Itm) (i : Nat) (s : BSt) : Prop where
 aF:s.aF.length<=i*65537
 aD:s.aD.length=i
 len:0<=s.len/\s.len<=i*65537*268435456
 aS:0<=s.aS/\s.aS<=30000
 frm:LX aA i s.frm
 at_:s.bI=true->bd 67108864 s.at_
theorem Q9h {aA:List Itm} {s:BSt} (L:i<aA.length) (D:∀j<aA.length,¬B9 (vE aA j)) (h:BOK aA i s):BOK aA (i+1) (Dh aA i s):=by
 have G:∀k<aA.length,AA (vE aA k)->drawn (vE aA k):=λk N I=>(Lx (D k N) I).1;unfold Dh;by_cases I:AA (vE aA i)
 ·rw[ab I];have M:=G i L I;obtain⟨O,Y⟩:=Wy M h.frm G;have T:bd 67108864 (if s.bI=true then s.at_ else Aq (vE aA i).fr):=by
   by_cases hb:s.bI=true
   ·rw[ab hb];exact h.at_ hb
   ·rw[aa hb];exact AR (Er M.1.2.1) (by decide)
  obtain⟨a1,a2,a3,a4⟩:=Tc (aU:=i) (aZ:=FQ (vE aA i) s.aS) (aX:=HO (vE aA i)) (BY aA i s.frm) (s.aF,s.len,if s.bI=true then s.at_ else Aq (vE aA i).fr) O T h.len.1;have h1:=h.aF;have U:=h.len;have e1:(i+1)*65537=i*65537+65537:=by rw[iu]
  refine⟨?_,?_,?_,h.aS,?_,λ_=>a4⟩
  ·simp only at a1;show(DC aA i s).1.length<=_;unfold DC;omega
  ·show(s.aD++[_]).length=_;rw[aq,h.aD];rfl
  ·show 0<=(DC aA i s).2.1/\(DC aA i s).2.1<=_;unfold DC;simp only at a2 a3;have e2:(((i+1:Nat):Int))*65537*268435456=(i:Int)*65537*268435456+65537*268435456:=by
    rw[gi,j4,d7,d7];rfl
   constructor
   ·omega
   ·rw[e2];omega
  ·show LX aA (i+1) (if 0<=BE aA i then(i:Int)else-1);split
   ·exact .inr ⟨i,rfl,L,M⟩
   ·exact .inl rfl
 ·rw[aa I];have U:=h.len;have V:=h.aF;have e1:(i+1)*65537=i*65537+65537:=by rw[iu]
  refine⟨by show s.aF.length<=_;rw[e1];exact cb V (Nat.le_add_right _ _),?_,?_,?_,h.frm,h.at_⟩
  ·show(s.aD++[_]).length=_;rw[aq,h.aD];rfl
  ·have e2:(((i+1:Nat):Int))*65537*268435456=(i:Int)*65537*268435456+65537*268435456:=by
    rw[gi,j4,d7,d7];rfl
   show 0<=s.len/\s.len<=_;rw[e2];omega
  ·show 0<=QQ (vE aA i) s.aS/\QQ (vE aA i) s.aS<=30000;unfold QQ;split
   ·rename_i X;exact Zvm (D i L) X.1
   ·exact h.aS
theorem Z7j (aA:List Itm):BOK aA 0 ⟨[],[],0,0,-1,false,⟨0,0,0⟩,⟨0,0,0⟩⟩:=by
 refine⟨Nat.zero_le _,dg,⟨cz _,?_⟩,⟨cz _,?_⟩, .inl rfl,λh=>by cases h⟩
 ·show(0:Int)<=((0:Nat):Int)*65537*268435456;rw[show((0:Nat):Int)=0 from rfl,jc,jc];exact cz _
 ·show(0:Int)<=30000;omega
theorem On {aA:List Itm} (D:∀j<aA.length,¬B9 (vE aA j)):∀i,i<=aA.length->BOK aA i (At aA i)
 |0,_=>by rw[At];exact Z7j aA
 |i+1,G=>by rw[At];exact Q9h (by omega) D (On D i (by omega))
noncomputable def AF (aA:List Itm):Pth:=⟨(At aA aA.length).aQ,(At aA aA.length).aF,(At aA aA.length).aD⟩
def Fj:Pt->List Sgm->Pt
 |a,[]=>a
 |_,g::l=>Fj g.to l
abbrev B26:Nat:=67108864
def Mn:Pt->List Sgm->Prop
 |_,[]=>True
 |a,g::l=>g.len=Ay a g.to/\g.to≠a/\bd B26 g.to/\Mn g.to l
def As:List Sgm->Int
 |[]=>0
 |g::l=>g.len+As l
theorem Sv (g:Sgm):∀(a:Pt) (l:List Sgm),Fj a (l++[g])=g.to
 |_,[]=>rfl
 |_,h::l=>by simp only[az,Fj];exact Sv g h.to l
theorem Q19 {g:Sgm}:∀{a:Pt} {l:List Sgm},Mn a l->g.len=Ay (Fj a l) g.to->g.to≠Fj a l->bd B26 g.to->Mn a (l++[g])
 |a,[],_,D,G,I=>⟨D,G,I,trivial⟩
 |a,k::l,h,D,G,I=>⟨h.1,h.2.1,h.2.2.1,Q19 h.2.2.2 D G I⟩
theorem Qd6 (g:Sgm):∀(l:List Sgm),As (l++[g])=As l+g.len
 |[]=>by simp[As]
 |k::l=>by simp only[az,As];rw[Qd6 g l];omega
def ZC (aQ:Pt) (s:List Sgm×Int×Pt):Prop:=Mn aQ s.1/\Fj aQ s.1=s.2.2/\As s.1=s.2.1
theorem Qnc {aQ:Pt} {aU aZ aX:Int}:∀(D:List Pt) (s:List Sgm×Int×Pt),(∀p∈D,bd B26 p)->ZC aQ s->ZC aQ (D.foldl (AU aU aZ aX) s)
 |[],s,_,h=>h
 |q::D,s,I,h=>by
  rw[dv];refine Qnc D _ (λp G=>I p (by simp[G])) ?_;unfold AU;by_cases c:q=s.2.2
  ·rw[ab c];exact h
  ·rw[aa c];obtain⟨M,L,N⟩:=h;refine⟨Q19 M (by rw[L]) (by rw[L];exact c) (I q (by simp)),Sv _ _ _,?_⟩;simp only[Qd6,N]
structure BInv (s : BSt) : Prop where
 bI:s.bI=true->bd B26 s.aQ/\ZC s.aQ (s.aF,s.len,s.at_)
 empty:s.bI=false->s.aF=[]/\s.len=0/\s.aQ=⟨0,0,0⟩
theorem Z32 {aA:List Itm} {s:BSt} (O:i<aA.length) (D:∀j<aA.length,¬B9 (vE aA j)) (L:BOK aA i s) (h:BInv s):BInv (Dh aA i s):=by
 have G:∀k<aA.length,AA (vE aA k)->drawn (vE aA k):=λk T I=>(Lx (D k T) I).1;unfold Dh;by_cases I:AA (vE aA i)
 ·rw[ab I];have M:=G i O I;obtain⟨N,-⟩:=Wy M L.frm G;refine⟨λ_=> ?_,λhb=>(by cases hb)⟩;unfold DC;by_cases hb:s.bI=true
  ·rw[ab hb,ab hb];obtain⟨g1,g2⟩:=h.bI hb;exact⟨g1,Qnc _ _ N g2⟩
  ·rw[aa hb,aa hb];obtain⟨g1,g2,U⟩:=h.empty (by simpa using hb);refine⟨AR (Er M.1.2.1) (by decide),Qnc _ _ N ?_⟩;rw[g1,g2];exact⟨trivial,rfl,rfl⟩
 ·rw[aa I];exact⟨h.bI,h.empty⟩
theorem Ia {aA:List Itm} (D:∀j<aA.length,¬B9 (vE aA j)):∀i,i<=aA.length->BInv (At aA i)
 |0,_=>by rw[At];exact⟨λh=>(by cases h),λ_=>⟨rfl,rfl,rfl⟩⟩
 |i+1,G=>by rw[At];exact Z32 (by omega) D (On D i (by omega)) (Ia D i (by omega))
structure GoodPath (p : Pth) : Prop where
 aQ:bd B26 p.aQ
 aF:Mn p.aQ p.aF
 count:p.aF.length<=983055
theorem M0 {aA:List Itm} (hlen:aA.length<=15) (I:C4 aA=0):GoodPath (AF aA):=by
 have D:=(JF I).2;have L:=On D aA.length (cm _);have G:=Ia D aA.length (cm _);have N:=L.aF;unfold AF;by_cases hb:(At aA aA.length).bI=true
 ·obtain⟨g1,g2,-⟩:=G.bI hb;exact⟨g1,g2,by simp only;omega⟩
 ·obtain⟨g1,-,M⟩:=G.empty (by simpa using hb);refine⟨?_,?_,?_⟩
  ·simp only[M];unfold bd;simp
  ·simp only[g1];trivial
  ·simp only[g1];simp
theorem Zje (D:bd B26 d) (hb:bd B26 q):(q.x-d.x).natAbs<=(Ay d q).natAbs/\(q.y-d.y).natAbs<=(Ay d q).natAbs/\(q.z-d.z).natAbs<=(Ay d q).natAbs:=by
 obtain⟨N,O,-⟩:=Ni D hb;obtain⟨G,I,L⟩:=Uy d q;have key:∀x y:Int,(x-y)*(x-y)<=sqD d q->(y-x).natAbs<=(Ay d q).natAbs:=by
  intro x y h;have M:(y-x).natAbs*(y-x).natAbs<=(Ay d q).natAbs*(Ay d q).natAbs:=by
   have e1:(((y-x).natAbs*(y-x).natAbs:Nat):Int)=(y-x)*(y-x):=cq;have e2:(((Ay d q).natAbs*(Ay d q).natAbs:Nat):Int)=Ay d q*Ay d q:=cq;have e3:(y-x)*(y-x)=(x-y)*(x-y):=by grind
   omega
  exact jx.1 M
 exact⟨key _ _ G,key _ _ I,key _ _ L⟩
theorem Qji (D:bd B26 d) (hb:bd B26 q) (h:q≠d):1<=Ay d q/\Ay d q<=268435456:=by
 obtain⟨L,G,-⟩:=Ni D hb;have M:sqD d q≠0:=λe=>h (To.1 e).symm;have N:=NB d q;have I:=HF D hb;refine⟨?_,I.2⟩;by_cases c:Ay d q=0
 ·rw[c]at G;omega
 ·omega
theorem Q6 {l:List Sgm} (I:bd B26 d) (h:Mn d l):∀g∈l,1<=g.len/\g.len<=268435456/\bd B26 g.to:=by
 induction l generalizing d with
 |nil=>simp
 |cons k l M=>
  obtain⟨N,L,D,O⟩:=h;intro g G;rcases av.1 G with rfl|G
  ·rw[N];exact⟨(Qji I D L).1,(Qji I D L).2,D⟩
  ·exact M D O g G
theorem Qnb {l:List Sgm} (h:∀g∈l,1<=g.len/\g.len<=268435456/\bd B26 g.to):(l.length:Int)<=As l/\As l<=l.length*268435456:=by
 induction l with
 |nil=>simp[As]
 |cons k l D=>
  have:=D λg G=>h g (by simp[G]);have:=h k (by simp);simp only[As,bp];omega
def HR (a:Pt) (g:Sgm) (d:Int):Pt:=⟨a.x+AP ((g.to.x-a.x)*d) g.len,a.y+AP ((g.to.y-a.y)*d) g.len,a.z+AP ((g.to.z-a.z)*d) g.len⟩
def atL:Pt->List Sgm->Int->Pt
 |a,[],_=>a
 |a,g::l,s=>if s<g.len then HR a g s else atL g.to l (s-g.len)
def atP (p:Pth) (s:Int):Pt:=atL p.aQ p.aF (max s 0)
def Br:List Sgm->Int->Nat×Int
 |[],s=>(0,s)
 |[g],s=>if s<g.len then(0,s)else(0,g.len)
 |g::h::l,s=>if s<g.len then(0,s)else((Br (h::l) (s-g.len)).1+1,(Br (h::l) (s-g.len)).2)
def Ez (a:Pt) (l:List Sgm) (i:Nat):Pt:=Fj a (l.take i)
def sg0:Sgm:=⟨⟨0,0,0⟩,0,0,0,0⟩
def sgA (l:List Sgm) (i:Nat):Sgm:=l.getD i sg0
theorem L3 {l:List Sgm} (h:i<l.length):sgA l i=l[i]:=by unfold sgA;simp[h]
theorem JO {l:List Sgm} (h:i<l.length):nth [] (l.map AB) i=AB (sgA l i):=by rw[L3 h];exact GO _ _ _ _ h
theorem Gp {l:List Sgm} (h:i<l.length):sgA l i∈l:=by rw[L3 h];exact ca h
theorem JQ (a:Pt) (l:List Sgm):Ez a l 0=a:=by unfold Ez;simp[Fj]
theorem VX (a:Pt) (g:Sgm) (l:List Sgm) (i:Nat):Ez a (g::l) (i+1)=Ez g.to l i:=by unfold Ez;rw[List.take_succ_cons];rfl
theorem Qgf (g:Sgm) (l:List Sgm) (i:Nat):sgA (g::l) (i+1)=sgA l i:=by unfold sgA;simp
theorem TL:∀{l:List Sgm} {i:Nat} {a:Pt},i<l.length->Ez a l (i+1)=(sgA l i).to
 |g::l,0,a,_=>by rw[VX,JQ];rfl
 |g::l,i+1,a,h=>by rw[VX,Qgf];exact TL (by simpa using h)
theorem Qir {x n:Int} (D:0<n):AP (x*n) n=x:=Q5 D
theorem Qqp {a:Pt} (h:0<g.len):HR a g g.len=g.to:=by
 unfold HR;rw[Qir h,Qir h,Qir h];rw[DX];exact⟨by simp only;omega,by simp only;omega,by simp only;omega⟩
theorem Zgs (h:0<g.len):HR d g 0=d:=by
 unfold HR;have e:AP 0 g.len=0:=FH h (by omega) (by omega);rw[jr,jr,jr,e];rw[DX];exact⟨by simp,by simp,by simp⟩
theorem Z6m {l:List Sgm} (h:∀g∈l,1<=g.len):atL d l 0=d:=by
 cases l with
 |nil=>rfl
 |cons g l=>
  have:=h g (by simp);unfold atL;rw[ab,Zgs (by omega)]
theorem Qgu:∀{l:List Sgm} {a:Pt} {s:Int},l≠[]->(∀g∈l,1<=g.len)->0<=s->
  (Br l s).1<l.length/\0<=(Br l s).2/\(Br l s).2<=(sgA l (Br l s).1).len/\atL a l s=HR (Ez a l (Br l s).1) (sgA l (Br l s).1) (Br l s).2
 |[],_,_,h,_,_=>absurd rfl h
 |[g],a,s,_,D,G=>by
  have L:=D g (by simp);unfold Br;by_cases c:s<g.len
  ·rw[ab c];refine⟨by simp,G,by show s<=g.len;omega,?_⟩;unfold atL;rw[ab c,JQ];rfl
  ·rw[aa c];refine⟨by simp,by simp only;omega,cz _,?_⟩;unfold atL;rw[aa c,JQ];show atL g.to [] _=HR a g g.len;rw[Qqp (by omega)];rfl
 |g::h::l,a,s,_,D,G=>by
  have L:=D g (by simp);unfold Br;by_cases c:s<g.len
  ·rw[ab c];refine⟨by simp,G,by show s<=g.len;omega,?_⟩;unfold atL;rw[ab c,JQ];rfl
  ·rw[aa c];obtain⟨M,N,O,T⟩:=Qgu (l:=h::l) (a:=g.to) (s:=s-g.len) (by simp) (λk I=>D k (by simp at I⊢;exact .inr I)) (by omega);refine⟨by simp at M⊢;omega,N,?_,?_⟩
   ·simp only[Qgf];exact O
   ·rw[show atL a (g::h::l) s=atL g.to (h::l) (s-g.len)from by rw[atL,aa c]];simp only[VX,Qgf];exact T
theorem O3 {D L d:Int} (G:0<L) (I: -L<=D/\D<=L): -1<=AP (D*(d+1)) L-AP (D*d) L/\AP (D*(d+1)) L-AP (D*d) L<=1:=by
 have e:D*(d+1)=D*d+D:=by rw[jo,Int.mul_one]
 have up:AP (D*d+L) L=AP (D*d) L+1:=by
  obtain⟨a,b⟩:=S4 (a:=D*d) G;refine FH G ?_ ?_
  ·rw[d7];omega
  ·rw[d7,d7]at*;omega
 have dn:AP (D*d-L) L=AP (D*d) L-1:=by
  obtain⟨a,b⟩:=S4 (a:=D*d) G;refine FH G ?_ ?_
  ·rw[kg];omega
  ·rw[d7]at b;rw[d7,kg];omega
 have m1:=JV G (show D*(d+1)<=D*d+L by omega);have m2:=JV G (show D*d-L<=D*(d+1) by omega);omega
def E0 (a b:Pt):Prop:=(-1<=b.x-a.x/\b.x-a.x<=1)/\(-1<=b.y-a.y/\b.y-a.y<=1)/\(-1<=b.z-a.z/\b.z-a.z<=1)
theorem Z4b (D:bd B26 d) (G:bd B26 g.to) (I:g.len=Ay d g.to):(-g.len<=g.to.x-d.x/\g.to.x-d.x<=g.len)/\(-g.len<=g.to.y-d.y/\g.to.y-d.y<=g.len)/\(-g.len<=g.to.z-d.z/\g.to.z-d.z<=g.len):=by
 obtain⟨L,M,N⟩:=Zje D G;have:=HF D G;rw[<-I]at*;omega
theorem Qs4 (G:bd B26 q) (I:bd B26 g.to) (L:g.len=Ay q g.to) (D:0<g.len):E0 (HR q g k) (HR q g (k+1)):=by
 obtain⟨M,N,O⟩:=Z4b G I L;have s1:=O3 (d:=k) D M;have s2:=O3 (d:=k) D N;have s3:=O3 (d:=k) D O;unfold E0 HR;simp only;omega
theorem Qq3:∀{l:List Sgm} {a:Pt} {s:Int},bd B26 a->Mn a l->0<=s->E0 (atL a l s) (atL a l (s+1))
 |[],a,s,_,_,_=>by unfold E0 atL;simp
 |g::l,a,s,G,N,V=>by
  obtain⟨I,O,D,L⟩:=N;have T:=(Qji G D O).1;rw[<-I]at T;unfold atL;by_cases c:s<g.len
  ·rw[ab c];by_cases M:s+1<g.len
   ·rw[ab M];exact Qs4 G D I (by omega)
   ·rw[aa M];have e:s+1=g.len:=by omega
    have e2:s+1-g.len=0:=by omega
    rw[e2,Z6m λk U=>(Q6 D L k U).1,<-Qqp (a:=a) (g:=g) (by omega),<-e];exact Qs4 G D I (by omega)
  ·rw[aa c,aa,show s+1-g.len=(s-g.len)+1 by omega];exact Qq3 D L (by omega)
theorem Zlr (h:GoodPath p) (s:Int):E0 (atP p s) (atP p (s+1)):=by
 unfold atP;by_cases c:0<=s
 ·rw[Int.max_eq_left c,Int.max_eq_left (by omega)];exact Qq3 h.aQ h.aF c
 ·rw[Int.max_eq_right (by omega),Int.max_eq_right (by omega)];unfold E0;simp
theorem Qdt {x n:Int} (D:0<n) (h: -(A*n)<=x/\x<=A*n):(AP x n).natAbs<=A:=by
 have m1:=JV D h.2;have m2:=JV D h.1;rw[show-((A:Int)*n)= -(A:Int)*n by rw[jn]]at m2;rw[Q5 D]at m1 m2;omega
theorem Qup {D L d:Int} (I:0<L) (M:D.natAbs<=134217728) (G:0<=d/\d<=L):(AP (D*d) L).natAbs<=134217728:=by
 refine Qdt I ?_;have N:D*d<=134217728*d:=ax (by omega) G.1;have O: -134217728*d<=D*d:=ax (by omega) G.1;have e:((134217728:Nat):Int)=134217728:=rfl;rw[e];omega
structure SegOK (l : List Sgm) : Prop where
 seg:∀g∈l,1<=g.len/\g.len<=268435456/\bd B26 g.to
 count:l.length<=983055
theorem GoodPath.ok (h:GoodPath p):SegOK p.aF:=⟨Q6 h.aQ h.aF,h.count⟩
theorem Zar {l:List Sgm} (D:bd B26 d) (h:SegOK l) {i:Nat} (G:i<l.length):bd B26 (Ez d l i):=by
 cases i with
 |zero=>rw[JQ];exact D
 |succ i=>rw[TL (by omega)];exact(h.seg _ (Gp (by omega))).2.2
theorem Qt6 {l:List Sgm} (h:SegOK l):∀(k i:Nat) (v:Int),i+k=l.length->0<=v->v+k*268435456<=4000000000000000000->
  Am RL [I v, .vC Ah (l.map AB),I l.length,I i]=some (1,[I (v+As (l.drop i))])
 |0,i,v,L,_,_=>by
  refine Bn ?_ (by simp);rw[Q0o,Bc (by omega),eu (by omega)];simp[As]
 |k+1,i,v,L,N,O=>by
  have D:i<l.length:=by omega
  have M:=h.count;have T:=h.seg _ (Gp D);have G:RL [I v, .vC Ah (l.map AB),I l.length,I i]=some (0,[I (v+(sgA l i).len), .vC Ah (l.map AB),I l.length,I (i+1:Nat)]):=by
   rw[Q0o];simp only[go_sem,ac,af,JO D];rw[ab,ab,Ad (x:=v+_),Ad];rfl
  rw[BB G,Qt6 h k (i+1) _ (by omega) (by omega) (by omega)];have e:l.drop i=sgA l i::l.drop (i+1):=by rw[L3 D];exact KF _ _ D
  rw[e];simp only[As,Int.add_assoc]
theorem Qjz (h:SegOK p.aF):Hi (Bl p)=some [I (As p.aF)]:=by
 have G:=Qt6 h p.aF.length 0 0 (by omega) (by omega) (by have:=h.count;omega);have D:RY [I 0, .vC Ah (p.aF.map AB),I p.aF.length,I 0]=some (1,[I (0+As (p.aF.drop 0))]):=G;rw[f8,Int.zero_add]at D;unfold Hi;generalize RY=N at*;rw[Zm4];simp only[go_sem,ac,D]
theorem Q8l {g h:Sgm} {l:List Sgm} {s:Int} (c: ¬s<g.len):Br (g::h::l) s=((Br (h::l) (s-g.len)).1+1,(Br (h::l) (s-g.len)).2):=by rw[Br,aa c]
theorem Qvc {p:Pth} (h:SegOK p.aF):∀(k i:Nat) (s:Int),i+k=p.aF.length->1<=k->0<=s/\s<=9223372036854775807->
  Am Sh (I s:: .vC Ah (p.aF.map AB)::I p.aF.length::I i::Bl p)=some (1,[I (i+(Br (p.aF.drop i) s).1:Nat),I (Br (p.aF.drop i) s).2])
 |k+1,i,s,N,_,O=>by
  have G:i<p.aF.length:=by omega
  have M:=h.count;have T:=h.seg _ (Gp G);have e:p.aF.drop i=sgA p.aF i::p.aF.drop (i+1):=by rw[L3 G];exact KF _ _ G
  have D:Sh (I s:: .vC Ah (p.aF.map AB)::I p.aF.length::I i::Bl p)=if s<(sgA p.aF i).len then some (1,[I i,I s])else if k=0 then some (1,[I i,I (sgA p.aF i).len])else some (0,I (s-(sgA p.aF i).len):: .vC Ah (p.aF.map AB)::I p.aF.length::I (i+1:Nat)::Bl p):=by
   rw[Q6g];simp only[go_sem,ac,af,JO G];rw[ab,ab,Ad (x:=(p.aF.length:Int)-1),Ad (x:=(i:Int)+1)];by_cases c:s<(sgA p.aF i).len
   ·rw[ab c,ab c]
   ·rw[aa c,aa c];by_cases L:k=0
    ·rw[ab,ab L]
    ·rw[aa,aa L,Ad];rfl
  by_cases c:s<(sgA p.aF i).len
  ·rw[ab c]at D;rw[Bn D (by simp),e];cases p.aF.drop (i+1)with
   |nil=>rw[Br,ab c];rfl
   |cons b l=>rw[Br,ab c];rfl
  ·rw[aa c]at D;by_cases L:k=0
   ·rw[ab L]at D;rw[Bn D (by simp),e,eu (by omega),Br,aa c];rfl
   ·rw[aa L]at D;rw[BB D,Qvc h k (i+1) _ (by omega) (by omega) (by omega),e];have e2:p.aF.drop (i+1)=sgA p.aF (i+1)::p.aF.drop (i+1+1):=by rw[L3 (show i+1<p.aF.length by omega)];exact KF _ _ (by omega)
    rw[e2,Q8l c,<-e2];simp only;rw[show i+1+(Br (p.aF.drop (i+1)) (s-(sgA p.aF i).len)).1=i+((Br (p.aF.drop (i+1)) (s-(sgA p.aF i).len)).1+1) by omega]
theorem Vj (h:SegOK p.aF) {s:Int} (hs:i64 s):EJ (Bl p++[I s])=if p.aF=[]then some [I (-1),I 0]else some [I (Br p.aF (max s 0)).1,I (Br p.aF (max s 0)).2]:=by
 unfold i64 at hs;have hmx:mx s 0=max s 0:=mx_max' s 0;by_cases c:p.aF=[]
 ·rw[ab c];have hend:Nr (I (max s 0):: .vC Ah []::I 0::I 0::Bl p)=some (2,[]):=by
   refine Bn ?_ (by simp);rw[Q6g,Bc (by omega)]
  unfold EJ;generalize Nr=N at*;have he:=Qtn N p.aQ.x p.aQ.y p.aQ.z (p.aF.map AB) (p.aD.map Av) s;refine dp he ?_;rw[hmx,c];have hend':N [I (max s 0), .vC Ah [],I 0,I 0,I p.aQ.x,I p.aQ.y,I p.aQ.z, .vC Ah [], .vC AL (p.aD.map Av)]=some (2,[]):=by
   have:=hend;unfold Bl at this;rw[c]at this;exact this
  simp only[go_sem,dx,dg];simp only[kj];rw[hend'];simp
 ·rw[aa c];have hpos:0<p.aF.length:=by
   cases hh:p.aF with
   |nil=>exact absurd hh c
   |cons _ _=>simp
  have hL:=Qvc h p.aF.length 0 (max s 0) (by omega) (by omega) (by omega);have hL':Nr [I (max s 0), .vC Ah (p.aF.map AB),I p.aF.length,I 0,I p.aQ.x,I p.aQ.y,I p.aQ.z, .vC Ah (p.aF.map AB), .vC AL (p.aD.map Av)]=some (1,[I (0+(Br (p.aF.drop 0) (max s 0)).1:Nat),I (Br (p.aF.drop 0) (max s 0)).2]):=hL;rw[f8,fg]at hL';unfold EJ;generalize Nr=N at*;have he:=Qtn N p.aQ.x p.aQ.y p.aQ.z (p.aF.map AB) (p.aD.map Av) s;refine dp he ?_;rw[hmx];simp only[go_sem,ac,hL']
 where mx_max' (a b:Int):mx a b=max a b:=by unfold mx;rw[Int.max_def];split<;>split<;>omega
theorem Zzh (h:GoodPath p) {s:Int} (G:Z (Bl p++[I s])=if p.aF=[]then some [I (-1),I 0]else some [I (Br p.aF (max s 0)).1,I (Br p.aF (max s 0)).2])
  (hM:∀{a b c:Int},a.natAbs<=134217728->b.natAbs<=268435456->(0<c/\c<=268435456)->M [I a,I b,I c,I 2]=some [I (AP (a*b) c),B true]):
  Qa8 M Z (Bl p++[I s])=some (ptR (atP p s)):=by
 have he:=Zok (A9:=M) (DA:=Z) p.aQ.x p.aQ.y p.aQ.z (p.aF.map AB) (p.aD.map Av) s;refine dp he ?_;simp only[az,bf,Bl]at G;unfold atP;by_cases c:p.aF=[]
 ·rw[ab c]at G;simp only[G,go_sem];rw[ab,c];rfl
 ·rw[aa c]at G;have D:=h.ok;obtain⟨N,f2,f3,f4⟩:=Qgu (l:=p.aF) (a:=p.aQ) (s:=max s 0) c (λg L=>(D.seg g L).1) (by omega);rw[f4];have L:=D.seg _ (Gp N);have O:=Zar h.aQ D N;have hr:=JO N;have a1:=D.count;generalize(Br p.aF (max s 0)).1=i at*;generalize(Br p.aF (max s 0)).2=d at*;have T:d.natAbs<=268435456:=by omega
  have fin:∀{a:Pt},bd B26 a->(M [I (V ((sgA p.aF i).to.x-a.x)),I d,I (sgA p.aF i).len,I 2]=some [I (AP (((sgA p.aF i).to.x-a.x)*d) (sgA p.aF i).len),B true]/\V (a.x+AP (((sgA p.aF i).to.x-a.x)*d) (sgA p.aF i).len)=a.x+AP (((sgA p.aF i).to.x-a.x)*d) (sgA p.aF i).len)/\
    (M [I (V ((sgA p.aF i).to.y-a.y)),I d,I (sgA p.aF i).len,I 2]=some [I (AP (((sgA p.aF i).to.y-a.y)*d) (sgA p.aF i).len),B true]/\V (a.y+AP (((sgA p.aF i).to.y-a.y)*d) (sgA p.aF i).len)=a.y+AP (((sgA p.aF i).to.y-a.y)*d) (sgA p.aF i).len)/\
    (M [I (V ((sgA p.aF i).to.z-a.z)),I d,I (sgA p.aF i).len,I 2]=some [I (AP (((sgA p.aF i).to.z-a.z)*d) (sgA p.aF i).len),B true]/\V (a.z+AP (((sgA p.aF i).to.z-a.z)*d) (sgA p.aF i).len)=a.z+AP (((sgA p.aF i).to.z-a.z)*d) (sgA p.aF i).len):=by
   intro a U;have key:∀u v:Int,u.natAbs<=B26->v.natAbs<=B26->M [I (V (u-v)),I d,I (sgA p.aF i).len,I 2]=some [I (AP ((u-v)*d) (sgA p.aF i).len),B true]/\V (v+AP ((u-v)*d) (sgA p.aF i).len)=v+AP ((u-v)*d) (sgA p.aF i).len:=by
    intro u v hu O;have X:=F7 hu O;rw[II X (by decide)];refine⟨hM (cb X (by decide)) T (by omega),?_⟩;exact II (TI O (Qup (by omega) (cb X (by decide)) ⟨f2,f3⟩)) (by decide)
   exact⟨key _ _ L.2.2.1 U.1,key _ _ L.2.2.2.1 U.2.1,key _ _ L.2.2.2.2 U.2.2⟩
  have Y:(0:Int)<=(i:Int)/\(i:Int)<(p.aF.length:Int):=by omega
  simp only[G,go_sem,ac,af,hr,ab Y];rw[aa];by_cases c0:i=0
  ·subst c0;obtain⟨⟨m1,w1⟩,⟨m2,w2⟩,m3,w3⟩:=fin h.aQ;rw[aa,JQ];simp only[m1,m2,m3,go_sem,w1,w2,w3];rfl
  ·obtain⟨j,rfl⟩:∃j,i=j+1:=⟨i-1,by omega⟩;have hj:=JO (l:=p.aF) (i:=j) (by omega);have a0:=D.seg _ (Gp (l:=p.aF) (i:=j) (by omega));obtain⟨⟨m1,w1⟩,⟨m2,w2⟩,m3,w3⟩:=fin a0.2.2;rw[ab,TL (by omega)];have e1:V (((j+1:Nat):Int)-1)=(j:Int):=by rw[Ad];omega
   rw[e1];simp only[af,hj,go_sem];rw[ab];simp only[m1,m2,m3,go_sem,w1,w2,w3];rfl
theorem Q6m {a b c:Int} (D:a.natAbs<=134217728) (hb:b.natAbs<=268435456) (G:0<c/\c<=268435456):CO [I a,I b,I c,I 2]=some [I (AP (a*b) c),B true]:=by
 have:=eg D hb;exact Tk (by unfold i64;omega) (by unfold i64;omega) (by omega) (by omega)
theorem Z4l (h:GoodPath p) {s:Int} (D:i64 s):Ra (Bl p++[I s])=some (ptR (atP p s)):=
 Zzh h (Vj h.ok D) Q6m
theorem Qvt {l:List Sgm} (h:SegOK l):∀(k i:Nat) (v:Int),i+k=l.length->0<=v->v+k*268435456<=4000000000000000000->
  Am UQ [I v, .vC Ah (l.map AB),I l.length,I i]=some (1,[I (v+As (l.drop i))])
 |0,i,v,L,_,_=>by
  refine Bn ?_ (by simp);rw[Q3w,Bc (by omega),eu (by omega)];simp[As]
 |k+1,i,v,L,N,O=>by
  have D:i<l.length:=by omega
  have M:=h.count;have T:=h.seg _ (Gp D);have G:UQ [I v, .vC Ah (l.map AB),I l.length,I i]=some (0,[I (v+(sgA l i).len), .vC Ah (l.map AB),I l.length,I (i+1:Nat)]):=by
   rw[Q3w];simp only[go_sem,ac,af,JO D];rw[ab,ab,Ad (x:=v+_),Ad];rfl
  rw[BB G,Qvt h k (i+1) _ (by omega) (by omega) (by omega)];have e:l.drop i=sgA l i::l.drop (i+1):=by rw[L3 D];exact KF _ _ D
  rw[e];simp only[As,Int.add_assoc]
theorem Zpa (h:SegOK p.aF):LD (Bl p)=some [I (As p.aF)]:=by
 have G:=Qvt h p.aF.length 0 0 (by omega) (by omega) (by have:=h.count;omega);have D:Sj [I 0, .vC Ah (p.aF.map AB),I p.aF.length,I 0]=some (1,[I (0+As (p.aF.drop 0))]):=G;rw[f8,Int.zero_add]at D;unfold LD;generalize Sj=N at*;rw[Z6i];simp only[go_sem,ac,D]
theorem Md (h:GoodPath p):0<=As p.aF/\As p.aF<=263886834032640:=by
 have D:=Qnb h.ok.seg;have G:=h.count;omega
end Go.Bm
