/- laid together -/
import Derived.Test.YtnnpdlgenmnekaaGreatDoorMx3
import Derived.Test.YtnnpdlgenmnekaaGreatDoorBmTy
set_option linter.unusedVariables false
set_option linter.unusedSimpArgs false
set_option maxRecDepth 100000
open Go.IntKind (wrap)
variable {i A j:Nat} {M Z W V S H:Go.Bm.Fn} {a b:Go.Bm.Pt} {u d r v k X Y:Int} {l:Go.Bm.Rw} {N:Go.Bm.Lp}
namespace Go.Bm
theorem JB {x:Int} (h:i64 x):Gr [I x]=some [U (x.natAbs:Int)]:=by
  unfold i64 at h;unfold Gr;rw[Zj6];by_cases D:x<0
  · rw[Cz D,Ad (x:=x+1),Ad (x:=0-(x+1)),B6 (x:=0-(x+1)) (by omega),B6 (x:=0-(x+1)+1) (by omega)]
    rw[show 0-(x+1)+1=(x.natAbs:Int) by omega]
  · rw[AR D,B6 (x:=x) (by omega)]
    rw[show x=(x.natAbs:Int) by omega];simp
theorem Q03 {x:Int} (h:i64 x):O1 [I x]=some [U (x.natAbs:Int)]:=by
  unfold i64 at h;unfold O1;rw[Zsk];by_cases D:x<0
  · rw[Cz D,Ad (x:=x+1),Ad (x:=0-(x+1)),B6 (x:=0-(x+1)) (by omega),B6 (x:=0-(x+1)+1) (by omega)]
    rw[show 0-(x+1)+1=(x.natAbs:Int) by omega]
  · rw[AR D,B6 (x:=x) (by omega)]
    rw[show x=(x.natAbs:Int) by omega];simp
def sgn (a b:Int):Int:=if a=0 then 0 else if b=0 then 0 else if(a<0↔b<0)then 1 else-1
theorem Y6 (a b:Int):GB [I a,I b]=some [I (sgn a b)]:=by
  unfold GB;rw[Zoy];simp only[go_sem];unfold sgn
  repeat' split
  all_goals rfl
theorem Yis (a b:Int):NN [I a,I b]=some [I (sgn a b)]:=by
  unfold NN;rw[Yau];simp only[go_sem];unfold sgn
  repeat' split
  all_goals rfl
def DN (a b:Nat):Int:=if a<b then-1 else if a=b then 0 else 1
def FF (a b:Int):Int:=if a<b then-1 else if a=b then 0 else 1
noncomputable def w64:Nat:=Classical.choose (⟨18446744073709551616,rfl⟩:∃n:Nat,n=18446744073709551616)
theorem Ba:w64=18446744073709551616:=fm (⟨18446744073709551616,rfl⟩:∃n:Nat,n=18446744073709551616)
theorem Ic {x:Int} (h:i64 x):x.natAbs<w64:=by unfold i64 at h;have:=Ba;omega
theorem Zd1 {x y:Nat} (G:x<w64) (I:y<w64):Ih [U x,U y]=some [U ((x*y/w64:Nat):Int),U ((x*y%w64:Nat):Int)]:=by
  rw[Ba]at G I;have L:∀z:Nat,z<18446744073709551616->inU (z:Int)=true:=by
    intro z M;have D:FQ=18446744073709551616:=rfl;simp only[inU,D,ak,cg];omega
  show SF (x:Int) (y:Int)=_;unfold SF;rw[L x G,L y I,Ba];rfl
theorem Z47 {x y:Nat} (D:x<w64) (G:y<w64):Ew [U x,U y]=some [U ((x*y/w64:Nat):Int),U ((x*y%w64:Nat):Int)]:=by
  unfold Ew;rw[Zqf,Zd1 D G];simp only[go_sem]
theorem Q1h (a b c d:Nat) (hb:b<w64) (D:d<w64):If [U a,U b,U c,U d]=some [I (DN (a*w64+b) (c*w64+d))]:=by
  unfold If;rw[Zrh];simp only[go_sem,iz];unfold DN;simp only[Ba]at*;by_cases G:a<c
  · rw[aa,aa]
  · rw[ab]
    by_cases L:a=c
    · rw[aa]
      by_cases M:b<d
      · rw[aa,aa]
      · rw[ab]
        by_cases N:b=d
        · rw[aa,ab,aa]
        · rw[ab,ab,ab]
    · rw[ab,ab,ab,ab]
theorem Vs (a b:Int):sgn a b*((a.natAbs*b.natAbs:Nat):Int)=a*b:=by
  unfold sgn;by_cases I:a=0
  · subst I;simp
  · by_cases L:b=0
    · subst L;simp
    · rw[ab I,ab L]
      have e:((a.natAbs*b.natAbs:Nat):Int)=(a.natAbs:Int)*(b.natAbs:Int):=by simp
      rw[e];by_cases D:a<0<;>by_cases G:b<0
      · rw[aa (by simp[D,G]),show(a.natAbs:Int)= -a by omega,show(b.natAbs:Int)= -b by omega,Int.neg_mul_neg,iy]
      · rw[ab (by simp[D,G]),show(a.natAbs:Int)= -a by omega,show(b.natAbs:Int)=b by omega,Int.neg_mul,iy,Int.neg_mul,Int.neg_neg]
      · rw[ab (by simp[D,G]),show(a.natAbs:Int)=a by omega,show(b.natAbs:Int)= -b by omega,Int.mul_neg,Int.neg_mul_neg,iy]
      · rw[aa (by simp[D,G]),show(a.natAbs:Int)=a by omega,show(b.natAbs:Int)=b by omega,iy]
theorem Uf (a b:Int):(sgn a b=0/\a*b=0)\/(sgn a b=1/\0<a*b)\/(sgn a b= -1/\a*b<0):=by
  have h:=Vs a b;by_cases D:a=0
  · subst D;left;simp[sgn]
  · by_cases G:b=0
    · subst G;left;simp[sgn]
    · have L:0<a.natAbs*b.natAbs:=Nat.mul_pos (by omega) (by omega)
      generalize a.natAbs*b.natAbs=p at*;generalize a*b=x at*;unfold sgn at h⊢;rw[ab D,ab G]at h⊢;by_cases I:(a<0↔b<0)
      · rw[aa I]at h⊢;right;left;exact⟨rfl,by omega⟩
      · rw[ab I]at h⊢;right;right;exact⟨rfl,by omega⟩
theorem Ze0 {a b c d:Int}:(if sgn a b≠sgn c d then(if sgn a b<sgn c d then-1 else 1)else sgn a b*DN (a.natAbs*b.natAbs) (c.natAbs*d.natAbs))=FF (a*b) (c*d):=by
  have I:=Vs a b;have L:=Vs c d;have D:=Uf a b;have G:=Uf c d;unfold FF DN;generalize a.natAbs*b.natAbs=p at*;generalize c.natAbs*d.natAbs=q at*;generalize a*b=x at*;generalize c*d=y at*;generalize sgn a b=u at*;generalize sgn c d=v at*;rcases D with⟨rfl,g1⟩|⟨rfl,g1⟩|⟨rfl,g1⟩<;>rcases G with⟨rfl,g2⟩|⟨rfl,g2⟩|⟨rfl,g2⟩
  · rw[ab (by simp),ab (show¬x<y by omega),aa (show x=y by omega)];exact jk _
  · rw[aa (by simp),aa,aa]
  · rw[aa (by simp),ab,ab,ab]
  · rw[aa (by simp),ab,ab,ab]
  · rw[ab (by simp)]
    have e1:(p:Int)=x:=by omega
    have e2:(q:Int)=y:=by omega
    by_cases h:x<y
    · rw[aa,aa h];rfl
    · rw[ab,ab h]
      by_cases h':x=y
      · rw[aa,aa h'];rfl
      · rw[ab,ab h'];rfl
  · rw[aa (by simp),ab,ab,ab]
  · rw[aa (by simp),aa,aa]
  · rw[aa (by simp),aa,aa]
  · rw[ab (by simp)]
    have e1:(p:Int)= -x:=by omega
    have e2:(q:Int)= -y:=by omega
    by_cases h:x<y
    · rw[ab,ab,aa h];rfl
    · rw[ab h]
      by_cases h':x=y
      · rw[ab,aa,aa h'];rfl
      · rw[aa,ab h'];rfl
theorem Q7v (p:Nat):p/w64*w64+p%w64=p:=by have:=fc p w64;rw[cx]at this;exact this
theorem Sb:0<w64:=by rw[Ba];omega
theorem Q3a (p q:Nat): -1<=DN p q/\DN p q<=1:=by unfold DN;(repeat' split)<;>omega
theorem Qzw (a b:Int): -1<=sgn a b/\sgn a b<=1:=by unfold sgn;(repeat' split)<;>omega
theorem Zfb (D: -1<=u/\u<=1) (G: -1<=v/\v<=1): -1<=u*v/\u*v<=1:=by
  have:u= -1\/u=0\/u=1:=by omega
  rcases this with rfl|rfl|rfl<;>omega
theorem Po {x y:Nat} (G:x<w64) (I:y<w64):∃D lo:Nat,Ew [U x,U y]=some [U D,U lo]/\D*w64+lo=x*y/\lo<w64:=
  ⟨_,_,Z47 G I,Q7v _,gd _ Sb⟩
theorem Zki {a b c d:Int} (O N L S:Fn) (D T G V:Nat)
   (X:L [I a]=some [U a.natAbs]) (Y:L [I b]=some [U b.natAbs]) (kc:L [I c]=some [U c.natAbs]) (kd:L [I d]=some [U d.natAbs])
   (ks:∀a b,S [I a,I b]=some [I (sgn a b)])
   (e1:N [U a.natAbs,U b.natAbs]=some [U D,U T]) (f1:N [U c.natAbs,U d.natAbs]=some [U G,U V])
   (M:O [U D,U T,U G,U V]=some [I (DN (a.natAbs*b.natAbs) (c.natAbs*d.natAbs))]):Qsv O N L S [I a,I b,I c,I d]=some [I (FF (a*b) (c*d))]:=by
  have hm:=Zfb (Qzw a b) (Q3a (a.natAbs*b.natAbs) (c.natAbs*d.natAbs));rw[Zkc];simp only[go_sem,ks,X,Y,kc,kd,e1,f1,M];rw[<-Ze0];rw[Ad];by_cases D:sgn a b≠sgn c d
  · rw[aa D,aa D]
    by_cases G:sgn a b<sgn c d
    · rw[aa G,aa G]
    · rw[ab G,ab G]
  · rw[ab D,ab D]
theorem Yeb {a b c d:Int} (G:i64 a) (hb:i64 b) (L:i64 c) (M:i64 d):Pr [I a,I b,I c,I d]=some [I (FF (a*b) (c*d))]:=by
  obtain⟨N,O,e1,e2,e3⟩:=Po (Ic G) (Ic hb);obtain⟨S,T,U,V,X⟩:=Po (Ic L) (Ic M);have D:=Q1h N O S T e3 X;rw[e2,V]at D;unfold Pr;exact Zki _ _ _ _ _ _ _ _ (JB G) (JB hb) (JB L) (JB M) Y6 e1 U D
theorem eB {α β:Type} {a:Option α} {f:α->Option β} {x:α} {r:Option β} (h:a=some x) (g:f x=r):a.bind f=r:=by rw[h];exact g
theorem eT {α:Type} {c:Bool} {a b r:α} (h:c=true) (g:a=r):cond c a b=r:=by rw[h];exact g
theorem eF {α:Type} {c:Bool} {a b r:α} (h:c=false) (g:b=r):cond c a b=r:=by rw[h];exact g
theorem eC {α:Type} {c:Bool} {a b r:α} (h:c=true->a=r) (g:c=false->b=r):cond c a b=r:=by cases c;exact g rfl;exact h rfl
theorem beF (h:u≠d):(u==d)=false:=by simpa using h
theorem beT (h:u=d):(u==d)=true:=by simpa using h
theorem bnF (h:u=d):(u !=d)=false:=by simpa using h
theorem bnT (h:u≠d):(u !=d)=true:=by simpa using h
theorem PV {α β:Type} {a:Option α} {f:α->Option β} (h:a.isSome=true) (g:∀o,a=some o->(f o).isSome=true):(a.bind f).isSome=true:=by
 cases a with
 |none=>simp at h
 |some o=>exact g o rfl
theorem Ec {α:Type} {c:Bool} {a b:Option α} (h:c=true->a.isSome=true) (g:c=false->b.isSome=true):(cond c a b).isSome=true:=by
 cases c
 ·exact g rfl
 ·exact h rfl
def Out {α:Type} (p:α->Prop) (a:Option α):Prop:=∃o,a=some o/\p o
theorem Out.is {α:Type} {p:α->Prop} {a:Option α} (h:Out p a):a.isSome=true:=by obtain⟨o,h,_⟩:=h;rw[h];rfl
theorem Out.bind {α β:Type} {p:α->Prop} {q:β->Prop} {a:Option α} {f:α->Option β} (h:Out p a) (g:∀o,p o->Out q (f o)):Out q (a.bind f):=by
 obtain⟨o,rfl,h⟩:=h;exact g o h
theorem Out.ibind {α β:Type} {q:β->Prop} {a:Option α} {f:α->Option β} (h:a.isSome=true) (g:∀o,a=some o->Out q (f o)):Out q (a.bind f):=by
 cases a with
 |none=>simp at h
 |some o=>exact g o rfl
theorem Out.cond {α:Type} {p:α->Prop} {c:Bool} {a b:Option α} (h:c=true->Out p a) (g:c=false->Out p b):Out p (cond c a b):=by
 cases c
 ·exact g rfl
 ·exact h rfl
theorem Out.some {α:Type} {p:α->Prop} {o:α} (h:p o):Out p (some o):=⟨o,rfl,h⟩
theorem DD {S:Type} (enc:S->List AC) (Inv:S->Prop) (m:S->Nat) (Q:Nat×List AC->Prop)
  (h:∀s,Inv s->Out (λo=>(o.1=0/\∃G,o.2=enc G/\Inv G/\m G<m s)\/(o.1≠0/\Q o)) (N (enc s))) (s:S) (L:Inv s):Out Q (Al N (enc s)):=by
 obtain ⟨o, I, _, D⟩ := Q1f (step := N) enc Inv m Q (λs L => by
  obtain⟨o,I,D⟩:=h s L;rcases D with⟨D,G,M,O,T⟩|⟨D,M⟩
  ·refine .inl ⟨G,?_,O,T⟩;rw[I,<-M,<-D]
  ·exact .inr ⟨o,I,D,M⟩) s L
 exact⟨o,I,D⟩
theorem Cs {p:Prop} [Decidable p] (h:decide p=true):p:=of_decide_eq_true h
theorem B3 {p:Prop} [Decidable p] (h:decide p=false): ¬p:=of_decide_eq_false h
theorem inB {n:Nat} (D:0<=u) (G:u<(n:Int)):(decide (0<=u)&&decide (u<(n:Int)))=false->False:=by
 intro h;rcases Bool.and_eq_false_iff.1 h with c|c
 ·exact B3 c D
 ·exact B3 c G
theorem Dp (h:i<=A):Nat.ble i A=true:=ez h
theorem Q3y (a b c d:Int):(GW [I a,I b,I c,I d]).isSome=true:=by
 unfold GW;rw[Qfx]
 repeat' first|exact rfl|refine Ec (λ_=> ?_) (λ_=> ?_)
 rename_i D G;simp at D G;omega
theorem TU (a b c:Int):Fm [I a,I b,I c]=some [B (decide (1<=a/\a<=65536/\2<=b/\b<=65536/\1<=c/\c<=16777216))]:=by
 unfold Fm;rw[Yh9];by_cases D:1<=a<;>by_cases G:a<=65536<;>by_cases L:2<=b<;>by_cases M:b<=65536<;>by_cases N:1<=c<;>by_cases O:c<=16777216<;>simp[D,G,L,M,N,O]
theorem Ztu (h:∀a b c d,(M [I a,I b,I c,I d]).isSome=true) (a b c v x:Int):(Qeh M [I a,I b,I c,I v,I x]).isSome=true:=by
 rw[Zs0]
 repeat' first|exact rfl|exact h _ _ _ _|refine Ec (λ_=> ?_) (λ_=> ?_)|refine PV ?_ λ_ _=> ?_
theorem Zgl (a b c v x:Int):(H8 [I a,I b,I c,I v,I x]).isSome=true:=Ztu Q3y a b c v x
theorem Zz1 {ML MV:Fn} (D:∀a b c d,(ML [I a,I b,I c,I d]).isSome=true) {v a b c low aY:Int} (G: -9000000000000<=low/\low<=9000000000000) (L: -9000000000000<=aY/\aY<=9000000000000):
  Out (λo=>o.1=1) (Al (PJ ML MV) [I v,I low,I aY,I a,I b,I c]):=by
 refine DD (λs:Int×Int=>[I v,I s.1,I s.2,I a,I b,I c]) (λs=>(-9000000000000<=s.1/\s.1<=9000000000000)/\(-9000000000000<=s.2/\s.2<=9000000000000)) (λs=>(s.2-s.1).toNat) _ ?_ (low,aY) ⟨G,L⟩;rintro⟨l,h⟩ ⟨M,N⟩;dsimp only at*;rw[Qzc];refine .cond (λc=> ?_) (λc=> ?_)
 ·have c:=Cs c;have e:O (h-O ((O (h-l)).tdiv 2))=h-(h-l)/2:=by
   rw[Ad (x:=h-l),co (by omega),Ad (x:=(h-l)/2),Ad]
  rw[e];refine .ibind (D _ _ _ _) λo _=> ?_;refine .cond (λ_=> ?_) (λ_=> ?_)
  ·exact .some (.inl ⟨rfl,(h-(h-l)/2,h),rfl,by dsimp only;omega,by dsimp only;omega⟩)
  ·refine .some (.inl ⟨rfl,(l,h-(h-l)/2-1),?_,by dsimp only;omega,by dsimp only;omega⟩);rw[Ad (x:=h-(h-l)/2-1)]
 ·exact .some (.inr ⟨by simp,rfl⟩)
theorem Zxu (L:∀a b c d,(M [I a,I b,I c,I d]).isSome=true) (hV:∀a b c,Z [I a,I b,I c]=some [B (decide (1<=a/\a<=65536/\2<=b/\b<=65536/\1<=c/\c<=16777216))]) (a b c v x:Int):
  (TA M Z (Al (PJ M Z)) [I a,I b,I c,I v,I x]).isSome=true:=by
 rw[Zgp,hV];simp only[am];refine Ec (λ_=>rfl) λN=>Ec (λ_=>rfl) λD=>Ec (λ_=>rfl) λG=> ?_;simp only[go_sem,Bool.not_eq_false',cg]at N;have D:=B3 D;have G:=B3 G;have U: -1099511627776<=x/\x<=1099511627776:=by
  unfold mx at D;unfold mn at G;split at D<;>split at G<;>omega
 obtain⟨o,S,T⟩:=Zz1 (MV:=Z) L (v:=v) (a:=a) (b:=b) (c:=c) (low:=O (O (0-x)-b)) (aY:=mn (O (b-x)) a)
  (by rw[Ad (x:=0-x),Ad];omega) (by rw[Ad (x:=b-x)];unfold mn;split<;>omega)
 rw[S];simp only[am,T];rfl
theorem Yio (a b c v x:Int):(HP [I a,I b,I c,I v,I x]).isSome=true:=Zxu Q3y TU a b c v x
theorem Z28 (hB:∀a b c v x,(M [I a,I b,I c,I v,I x]).isSome=true) {a b c v x:Int}:
  Out (λo=>o.1=1\/o.1=2/\(wA o.2 0).length<=4096) (Al (S_ M Z W) [.vC Aa [],I v,I x,I a,I b,I c]):=by
 refine DD (λs:Rw×Int×Int=>[.vC Aa s.1,I s.2.1,I s.2.2,I a,I b,I c]) (λs=>s.1.length<=4096) (λs=>4096-s.1.length) _ ?_ ([],v,x) (by simp);rintro⟨l,v,x⟩ h;dsimp only at*;rw[Z2r];refine .cond (λ_=> ?_) (λ_=> ?_)
 ·refine .cond (λ_=> ?_) (λD=> ?_)
  ·exact .some (.inr ⟨by simp, .inl rfl⟩)
  ·have D: ¬((l.length:Int)=4096):=by simpa using D
   refine .ibind (hB _ _ _ _ _) λo _=> ?_;refine .cond (λ_=> ?_) (λG=> ?_)
   ·exact .some (.inl ⟨rfl,(_,_,_),rfl,by simp;omega,by simp;omega⟩)
   ·rw[Dp (by simp;omega)]at G;cases G
 ·exact .some (.inr ⟨by simp, .inr ⟨rfl,h⟩⟩)
theorem Zxy (hB:∀a b c v x,(M [I a,I b,I c,I v,I x]).isSome=true) (D:∀a b c v x,(Z [I a,I b,I c,I v,I x]).isSome=true) (hV:∀a b c,W [I a,I b,I c]=some [B (decide (1<=a/\a<=65536/\2<=b/\b<=65536/\1<=c/\c<=16777216))]) (a b c v x:Int):
  Out (λo=>(wA o 0).length<=4096) (Qhl M Z W (Al (S_ M Z W)) [I a,I b,I c,I v,I x]):=by
 rw[Zl8,hV];simp only[am];refine .cond (λ_=> .some (by simp[gA,wA,bA,jA,nth,AX])) λ_=> .ibind (D _ _ _ _ _) λo _=> .cond (λ_=> .some (by simp[gA,wA,bA,jA,nth,AX])) λ_=> ?_;refine .bind (Z28 hB) λo h=> ?_;rcases h with h|⟨h,G⟩
 ·rw[h];exact .some (by simp[gA,wA,bA,jA,nth,AX])
 ·rw[h];exact .some G
theorem Zrw (a b c v x:Int):Out (λo=>(wA o 0).length<=4096) (Ov [I a,I b,I c,I v,I x]):=Zxy Yio Zgl TU a b c v x
theorem Z65 {D out:Rw} (G:out.length=D.length) (L:D.length<=4096):
  Out (λo=>o.1=1/\(wA o.2 0).length=D.length) (Al (Tz M) [.vC Aa out,I u, .vC Aa D,I (D.length:Int),I 0]):=by
 refine DD (λs:Rw×Int×Nat=>[.vC Aa s.1,I s.2.1, .vC Aa D,I (D.length:Int),I (s.2.2:Int)]) (λs=>s.1.length=D.length/\s.2.2<=D.length) (λs=>D.length-s.2.2) _ ?_ (out,u,0) ⟨G,by simp⟩;rintro⟨l,u,i⟩ ⟨g1,g2⟩;dsimp only at*;rw[Z3m];refine .cond (λc=> ?_) (λ_=> ?_)
 ·have c:=Cs c;refine .cond (λ_=> ?_) (λh=> ?_)
  ·refine .cond (λ_=> ?_) (λh=> ?_)
   ·have e:=Ad (x:=(i:Int)+1);rw[e];generalize O (u+gA (nth [] D (i:Int).toNat) 0)=z;exact .some (.inl ⟨rfl,(l.set (i:Int).toNat [I z],z,i+1),rfl,by simp;omega,by simp;omega⟩)
   ·simp at h;omega
  ·simp at h;omega
 ·exact .some (.inr ⟨by simp,rfl,g1⟩)
theorem Znp (D:∀a b c v x,Out (λo=>(wA o 0).length<=4096) (M [I a,I b,I c,I v,I x])) (a b c G L N O S T:Int):
  Out (λo=>(wA o 0).length<=4096) (Qtb M (Al (Tz M)) [I a,I b,I c,I G,I L,I N,I O,I S,I T]):=by
 rw[Z18];refine .bind (D _ _ _ _ _) λo h=> ?_;generalize wA o 0=U at*;refine .cond (λ_=> .some (by simp[gA,wA,bA,jA,nth,AX])) λ_=> ?_;refine .cond (λ_=> ?_) λc=>by simp at c
 refine .cond (λ_=> ?_) λc=>by simp at c;omega
 refine .bind (Z65 (by simp) h) λo g=> ?_;rw[g.1];exact .some (by show(wA o.2 0).length<=4096;omega)
theorem Qtu (a b c D G L M N O:Int):Out (λo=>(wA o 0).length<=4096) (Gx [I a,I b,I c,I D,I G,I L,I M,I N,I O]):=Znp Zrw a b c D G L M N O
theorem Yeq (h:2^(j+1)*i+2^j<w64):wrap .u64 (((BitVec.ofInt IntKind.u64.bits ((2^(j+1)*i:Nat):Int)|||BitVec.ofInt IntKind.u64.bits ((2^j:Nat):Int)).toNat:Nat):Int)=((2^(j+1)*i+2^j:Nat):Int):=by
 rw[Ba]at h;have e:(BitVec.ofInt IntKind.u64.bits ((2^(j+1)*i:Nat):Int)|||BitVec.ofInt IntKind.u64.bits ((2^j:Nat):Int)).toNat=2^(j+1)*i+2^j:=by
  rw[BitVec.toNat_or];have e1:∀v:Nat,v<18446744073709551616->(BitVec.ofInt IntKind.u64.bits (v:Int)).toNat=v:=by
   intro v I;simp only[IntKind.bits,gk];omega
  have D:0<2^j:=dv _;generalize G:2^(j+1)*i=A at*;rw[e1 _ (by omega),e1 _ (by omega),<-G];exact(jc (Nat.pow_lt_pow_right (by omega) (by omega)) i).symm
 rw[e,B6 (by omega)]
theorem Qv4 (k:Nat):((2^(k+1):Nat):Int).fdiv (2^min (Int.toNat 1) IntKind.u64.bits)=((2^k:Nat):Int):=by
 have e:(2^min (Int.toNat 1) IntKind.u64.bits:Int)=2:=rfl;rw[e,dq _ (by omega),dw];omega
theorem Q6p:(1:Int).fdiv (2^min (Int.toNat 1) IntKind.u64.bits)=0:=rfl
theorem Qz6 (S:∀x y:Nat,x<w64->y<w64->∃hi lo:Nat,Z [U x,U y]=some [U hi,U lo]/\hi*w64+lo=x*y/\lo<w64)
  (T:∀a b c d:Nat,b<w64->d<w64->M [U a,U b,U c,U d]=some [I (DN (a*w64+b) (c*w64+d))]) {k m hi lo:Nat} {bit:Int} (L:lo<w64) (hb:((2^k:Nat):Int).fdiv (2^min (Int.toNat 1) IntKind.u64.bits)=bit) (h:2^(k+1)*m+2^k<w64):
  L0 M Z [U ((2^(k+1)*m:Nat):Int),U ((2^k:Nat):Int),U hi,U lo]=
   some (0,[U (((if(2^(k+1)*m+2^k)*(2^(k+1)*m+2^k)<=hi*w64+lo then 2^(k+1)*m+2^k else 2^(k+1)*m):Nat):Int),U bit,U hi,U lo]):=by
 obtain⟨G,V,e1,e2,e3⟩:=S _ _ h h;have D:=T G V hi lo e3 L;rw[e2]at D;have N:0<2^k:=dv _;rw[Zfy,Yeq h,hb];simp only[go_sem,e1,D];rw[aa];generalize(2^(k+1)*m+2^k)*(2^(k+1)*m+2^k)=q at*;unfold DN;by_cases G:q<hi*w64+lo
 ·rw[aa G,aa,aa]
 ·rw[ab G];by_cases O:q=hi*w64+lo
  ·rw[aa O,aa,aa]
  ·rw[ab O,ab,ab]
theorem Qfb {S T:Fn} (M:∀x y:Nat,x<w64->y<w64->∃hi lo:Nat,T [U x,U y]=some [U hi,U lo]/\hi*w64+lo=x*y/\lo<w64)
  (N:∀a b c d:Nat,b<w64->d<w64->S [U a,U b,U c,U d]=some [I (DN (a*w64+b) (c*w64+d))]) {hi lo:Nat} (D:lo<w64):∀(k m:Nat),2^(k+1)*m+2^(k+1)<=w64->
  (2^(k+1)*m)*(2^(k+1)*m)<=hi*w64+lo->hi*w64+lo<(2^(k+1)*m+2^(k+1))*(2^(k+1)*m+2^(k+1))->
  ∃r:Nat,Al (L0 S T) [U ((2^(k+1)*m:Nat):Int),U ((2^k:Nat):Int),U hi,U lo]=some (1,[U r])/\r*r<=hi*w64+lo/\hi*w64+lo<(r+1)*(r+1)/\r<w64
 |0,m,Y,O,V=>by
  have X:=Qz6 M N (k:=0) (m:=m) (hi:=hi) (bit:=0) D Q6p (by simp at Y⊢;omega);rw[AS X];have G:∀r:Nat,Al (L0 S T) [U (r:Int),U 0,U hi,U lo]=some (1,[U r]):=by
   intro r;refine AJ ?_ (by simp);rw[Zfy];simp only[go_sem];rw[ab]
  simp only[dh,Nat.pow_one,Nat.pow_zero]at*;by_cases h:(2*m+1)*(2*m+1)<=hi*w64+lo
  ·rw[aa h,G];exact⟨_,rfl,h,V,by omega⟩
  ·rw[ab h,G];exact⟨_,rfl,O,by omega,by omega⟩
 |k+1,m,Y,O,V=>by
  have e1:2^(k+1+1)*m=2^(k+1)*(2*m):=by rw[dw 2 (k+1),dt]
  have e2:2^(k+1+1)*m+2^(k+1)=2^(k+1)*(2*m+1):=by rw[e1,iw,Nat.mul_one]
  have e3:2^(k+1+1)=2^(k+1)+2^(k+1):=by rw[dw 2 (k+1)];omega
  have a0:0<2^(k+1):=dv _;have X:=Qz6 M N (k:=k+1) (m:=m) (hi:=hi) (bit:=((2^k:Nat):Int)) D (Qv4 k) (by omega);rw[AS X];by_cases h:(2^(k+1+1)*m+2^(k+1))*(2^(k+1+1)*m+2^(k+1))<=hi*w64+lo
  ·rw[aa h,e2];rw[e2]at h;refine Qfb M N D k (2*m+1) ?_ h ?_
   ·rw[<-e2];omega
   ·rw[<-e2];rw[show 2^(k+1+1)*m+2^(k+1)+2^(k+1)=2^(k+1+1)*m+2^(k+1+1) by omega];exact V
  ·rw[ab h];have h3:hi*w64+lo<(2^(k+1+1)*m+2^(k+1))*(2^(k+1+1)*m+2^(k+1)):=by omega
   have L:2^(k+1+1)*m+2^(k+1)<=w64:=by omega
   rw[e1]at O h3 L⊢;exact Qfb M N D k (2*m) L O h3
theorem Z4q (S:∀x y:Nat,x<w64->y<w64->∃hi lo:Nat,Z [U x,U y]=some [U hi,U lo]/\hi*w64+lo=x*y/\lo<w64)
  (T:∀a b c d:Nat,b<w64->d<w64->M [U a,U b,U c,U d]=some [I (DN (a*w64+b) (c*w64+d))]) {hi lo:Nat} (D:hi<w64) (G:lo<w64):
  ∃r:Nat,Qee M Z (Al (L0 M Z)) [U hi,U lo]=some [U r]/\r*r<=hi*w64+lo/\hi*w64+lo<(r+1)*(r+1)/\r<w64:=by
 have hb:hi*w64+lo<w64*w64:=by
  have:hi*w64+w64<=w64*w64:=by rw[<-gi];exact bg _ D
  omega
 obtain⟨r,O,V,X,Y⟩:=Qfb S T (hi:=hi) (lo:=lo) G 63 0 (by rw[Ba];omega) (by simp) (by rw[Nat.mul_zero,dh,show 2^(63+1)=w64 by rw[Ba]];exact hb);refine⟨r,?_,V,X,Y⟩;rw[Nat.mul_zero]at O;generalize Al (L0 M Z)=N at*;have L:N [AC.int IntKind.u64 0,AC.int IntKind.u64 9223372036854775808,AC.int IntKind.u64 hi,AC.int IntKind.u64 lo]=some (1,[U r]):=O;rw[Ygg,L];simp only[go_sem]
theorem Zjr {hi lo:Nat} (D:hi<w64) (G:lo<w64):∃r:Nat,JS [U hi,U lo]=some [U r]/\r*r<=hi*w64+lo/\hi*w64+lo<(r+1)*(r+1)/\r<w64:=
 Z4q (λ_ _ I L=>Po I L) Q1h D G
theorem Qim {n:Nat} (h:n<9223372036854775808):Fg [U n,B false]=some [I n,B true]:=by
 unfold Fg;rw[Zhs];simp only[go_sem];rw[ab (by simp),aa (by simp),aa,Ad]
theorem Z0n {x y b:Nat} (I:x<w64) (L:y<w64) (hb:b=0\/b=1):Kt [U x,U y,U b]=some [U (((x:Int)-y-b)%FQ),U (if x<y+b then 1 else 0)]:=by
 rw[Ba]at I L;have D:FQ=18446744073709551616:=rfl;have M:∀z:Nat,z<18446744073709551616->inU (z:Int)=true:=by
  intro z N;simp only[inU,D,ak,cg];omega
 have G:(decide ((b:Int)=0)||decide ((b:Int)=1))=true:=by
  rcases hb with rfl|rfl<;>simp
 unfold Kt;simp only[F1,KU,Kw,FP,gA,jA,wA,bA];rw[M x I,M y L,G];by_cases h:x<y+b
 ·rw[aa h,Cz (p:=(x:Int)<y+b) (by omega)];simp
 ·rw[ab h,AR (p:=(x:Int)<y+b) (by omega)];simp
theorem Q7o {x y:Nat} (G:x<w64) (I:y<=x):Kt [U x,U y,U 0]=some [U ((x-y:Nat):Int),U 0]:=by
 have:=Z0n (x:=x) (y:=y) (b:=0) G (by omega) (.inl rfl);have D:FQ=18446744073709551616:=rfl;rw[Ba]at G;rw[ab,D,show((x:Int)-y-((0:Nat):Int))%18446744073709551616=((x-y:Nat):Int) by omega]at this;exact this
theorem Ykt {n r:Nat} (hn:n<9223372036854775807) (O:r*r<=n) (S:V [U 0,U n]=some [U r]) (T:W [U r,U r]=some [U 0,U ((r*r:Nat):Int)]) (G:Z [U n,U ((r*r:Nat):Int),U 0]=some [U ((n-r*r:Nat):Int),U 0])
  (L:Z [U 0,U 0,U 0]=some [U 0,U 0]) (N:∀k:Nat,k<9223372036854775808->M [U k,B false]=some [I k,B true]) (D:u=1\/u=2):
  YN M Z W V [U 0,U n,I u]=some [I ((if(u=1/\r*r<n)\/(u=2/\r*r+r<n)then r+1 else r:Nat):Int),B true]:=by
 have X:r<=r*r:=by
  rcases dp r with h|h
  ·subst h;simp
  ·exact Nat.le_mul_of_pos_left r h
 have Y:wrap .u64 ((r:Int)+1)=((r+1:Nat):Int):=by rw[B6 (by omega)];omega
 have s1:=N r (by omega);have s2:=N (r+1) (by omega);rw[Z7w];simp only[go_sem,S,T,G,L,Y,s1,s2];rcases D with rfl|rfl
 ·rw[aa rfl,ab];by_cases h:r*r<n
  ·rw[aa,aa]
  ·rw[ab,ab,ab]
 ·rw[ab,aa rfl,ab];by_cases h:r*r+r<n
  ·rw[aa,aa]
  ·rw[ab,ab]
theorem Zpj {n:Nat} (N:n<9223372036854775807) (D:Z [I u]=some [B true]) (G:M [U 0,U n,I u]=some [I k,B true]):Qbi M Z [I n,I u]=some [I k,B true]:=by
 have L:wrap .u64 (n:Int)=(n:Int):=B6 (by omega);rw[Ya5];simp only[go_sem,D,L,G];rw[ab,ab (by simp)]
theorem Qmi (h:u=0\/u=1\/u=2):Gw [I u]=some [B true]:=by
 unfold Gw;rw[Z5l];rcases h with rfl|rfl|rfl<;>rfl
theorem Q02 {n:Nat} {mode:Int} (S:n<9223372036854775807) (D:mode=1\/mode=2):
  ∃r:Nat,IW [I n,I mode]=some [I ((if(mode=1/\r*r<n)\/(mode=2/\r*r+r<n)then r+1 else r:Nat):Int),B true]/\r*r<=n/\n<(r+1)*(r+1):=by
 have G:n<w64:=by rw[Ba];omega
 obtain⟨r,X,M,T,V⟩:=Zjr (hi:=0) (lo:=n) Sb G;rw[Nat.zero_mul,dh]at M T;obtain⟨L,lo,e1,e2,e3⟩:∃L lo:Nat,Ih [U r,U r]=some [U L,U lo]/\L*w64+lo=r*r/\lo<w64:=⟨_,_,Zd1 V V,Q7v _,gd _ Sb⟩;have N:L=0:=by
  rcases dp L with h|h
  ·exact h
  ·have:=bg w64 h;omega
 subst N;have O:lo=r*r:=by omega
 subst O;have z:=Q7o (x:=0) (y:=0) Sb (bt _);refine⟨r,?_,M,T⟩;exact Zpj S (Qmi (.inr D)) (Ykt S M X e1 (Q7o G M) z (λk Y=>Qim Y) D)
def Bb (a b:Int):Int:=(2*a+b)/(2*b)
theorem Ji (hb:0<d) (D:k*(2*d)<=2*u+d) (G:2*u+d<(k+1)*(2*d)):Bb u d=k:=by
 unfold Bb;have g1:k<=(2*u+d)/(2*d):=(Int.le_ediv_iff_mul_le (by omega)).2 D;have g2:(2*u+d)/(2*d)<k+1:=(Int.ediv_lt_iff_lt_mul (by omega)).2 G;omega
theorem Zdz (hb:0<d/\d<=1152921504606846976) (D:u.natAbs<=2305843009213693952):F3 [I u,I d]=some [I (Bb u d)]:=by
 unfold F3;rw[Zo7,Ad (x:=2*u),Ad (x:=2*u+d),Ad (x:=2*d)];have G:=Int.tmod_add_mul_tdiv (2*u+d) (2*d);have L:=Int.tmod_lt_of_pos (2*u+d) (show 0<2*d by omega);have M:=Int.lt_tmod_of_pos (2*u+d) (show 0<2*d by omega);have N:((2*u+d).tdiv (2*d)).natAbs<=(2*u+d).natAbs:=by rw[Int.natAbs_tdiv];exact f8 _ _
 generalize O:(2*u+d).tdiv (2*d)=q at*;generalize(2*u+d).tmod (2*d)=r at*;have e1:2*d*q=q*(2*d):=il _ _;rw[AR (by omega),AR (by omega),Ad (x:=q)];by_cases h:r<0
 ·rw[Cz h,Ad,Ji (k:=q-1) hb.1]
  ·rw[Int.sub_mul];omega
  ·rw[Int.sub_add_cancel];omega
 ·rw[AR h,Ji (k:=q) hb.1]
  ·omega
  ·rw[jh];omega
theorem Ze6 {p c:Nat} (D:p<w64) (L:0<c):GZ [U 0,U p,U c]=some [U ((p/c:Nat):Int),U ((p%c:Nat):Int)]:=by
 rw[Ba]at D;have G:(p:Int).tdiv (c:Int)=((p/c:Nat):Int):=by rw[co (by omega)];simp
 have I:(p:Int).tmod (c:Int)=((p%c:Nat):Int):=by rw[ii (by omega)];simp
 have N:p/c<=p:=f8 _ _;unfold GZ;generalize IN=M;generalize Vd=O;generalize Qjk=S;rw[Q41];rw[BZ (by simp;omega),AR (by omega),BO (by simp),AR (by omega),AR (by omega),G,I];generalize p/c=q at*;rw[B6 (by omega)]
theorem Zhd (more:Int) (some_ neg:Bool):IJ [I 2,I more,B some_,B neg]=some [B (if more>0 then true else if more=0 then !neg else false)]:=by
 unfold IJ;rw[Z1h];simp only[go_sem];rw[ab,ab]
 repeat' split
 all_goals rfl
theorem Qzz {n:Nat} (h:n<=9223372036854775808):Fg [U n,B true]=some [I (-(n:Int)),B true]:=by
 unfold Fg;rw[Zhs];simp only[go_sem];rw[aa,LB,Qdn];have:((0-(n:Int))%18446744073709551616+9223372036854775808)%18446744073709551616-9223372036854775808= -(n:Int):=by omega
 rw[this]
def Ho (q r c:Nat) (neg:Bool):Nat:=if r>c-r then q+1 else if r<c-r then q else if neg then q else q+1
theorem Yje {M1 M2 M3 M4 M5 M6 M7:Fn} {a b s:Int} {A C p q r c:Nat} (N:0<c) (O:c<9223372036854775808) (hr:r<c) (hq:q<9223372036854775807)
  (S:M7 [I 2]=some [B true]) (T:M6 [I a]=some [U A]) (V:M6 [I b]=some [U C]) (X:M6 [I c]=some [U c]) (Y:M5 [U A,U C]=some [U 0,U p]) (k6:M4 [U 0,U p,U c]=some [U q,U r]) (k7:M3 [I a,I b]=some [I s])
  (k8:∀(more:Int) (some_ neg:Bool),M2 [I 2,I more,B some_,B neg]=some [B (if more>0 then true else if more=0 then !neg else false)])
  (L:∀k:Nat,k<9223372036854775808->M1 [U k,B false]=some [I k,B true]) (D:∀k:Nat,k<9223372036854775808->M1 [U k,B true]=some [I (-(k:Int)),B true]):
  Qd4 M1 M2 M3 M4 M5 M6 M7 [I a,I b,I c,I 2]=some [I (if s<0 then-(Ho q r c true:Int)else(Ho q r c false:Int)),B true]:=by
 have w1:wrap .u64 ((c:Int)-(r:Int))=((c-r:Nat):Int):=by rw[B6 (by omega)];omega
 have w2:wrap .u64 ((q:Int)+1)=((q+1:Nat):Int):=by rw[B6 (by omega)];omega
 have n1:=L q (by omega);have n2:=L (q+1) (by omega);rw[Yet];simp only[go_sem,S,T,V,X,Y,k6,k7,k8,w1,w2,n1,n2];rw[ab,ab (by simp),ab];by_cases M:s<0
 ·rw[aa M];rw[aa (show¬(s<0↔(c:Int)<0) by omega)];have G:(s !=0)=true:=by simp;omega
  rw[G];unfold Ho;by_cases g1:r>c-r
  ·rw[aa g1];rw[aa (show(r:Int)>((c-r:Nat):Int) by omega),aa (by decide),ab (show¬((q+1:Nat):Int)=0 by omega),D (q+1) (by omega)];simp only[go_sem]
  ·rw[ab g1];rw[ab (show¬(r:Int)>((c-r:Nat):Int) by omega)];by_cases g2:r<c-r
   ·rw[aa g2];rw[aa (show(r:Int)<((c-r:Nat):Int) by omega),ab (by decide),D q (by omega)];simp only[go_sem]
   ·rw[ab g2,aa rfl];rw[ab (show¬(r:Int)<((c-r:Nat):Int) by omega),ab (by decide),D q (by omega)];simp only[go_sem]
 ·rw[ab M];rw[ab (show¬¬(s<0↔(c:Int)<0) by omega)];unfold Ho;by_cases g1:r>c-r
  ·rw[aa g1,aa (show(r:Int)>((c-r:Nat):Int) by omega),aa (by decide),ab (show¬((q+1:Nat):Int)=0 by omega)]
  ·rw[ab g1,ab (show¬(r:Int)>((c-r:Nat):Int) by omega)];by_cases g2:r<c-r
   ·rw[aa g2,aa (show(r:Int)<((c-r:Nat):Int) by omega),ab (by decide)]
   ·rw[ab g2,ab (show¬(r:Int)<((c-r:Nat):Int) by omega),aa (by decide),ab (show¬((q+1:Nat):Int)=0 by omega),ab (by decide)]
theorem Ye0 (q r c:Nat):Ho q r c false=if r<c-r then q else q+1:=by
 unfold Ho;by_cases G:r>c-r
 ·rw[aa G,ab]
 ·rw[ab G];by_cases D:r<c-r
  ·rw[aa D,aa D]
  ·rw[ab D,ab D,ab (by simp)]
theorem Yke (q r c:Nat):Ho q r c true=if r>c-r then q+1 else q:=by
 unfold Ho;by_cases D:r>c-r
 ·rw[aa D,aa D]
 ·rw[ab D,ab D];by_cases G:r<c-r
  ·rw[aa G]
  ·rw[ab G,aa rfl]
theorem Zcl {p q r c:Nat} (L:0<c) (h:p=c*q+r) (M:r<c):Bb p c=Ho q r c false:=by
 have e:(p:Int)=(c:Int)*q+r:=by rw[h];simp
 have e3:(q:Int)*(2*c)=2*((c:Int)*q):=by grind
 have D:((q+1:Nat):Int)*(2*c)=2*((c:Int)*q)+2*c:=by grind
 have G:((q:Int)+1)*(2*c)=2*((c:Int)*q)+2*c:=by grind
 have I:(((q+1:Nat):Int)+1)*(2*c)=2*((c:Int)*q)+4*c:=by grind
 rw[Ye0];by_cases g:r<c-r
 ·rw[aa g];exact Ji (by omega) (by rw[e3];omega) (by rw[G];omega)
 ·rw[ab g];exact Ji (by omega) (by rw[D];omega) (by rw[I];omega)
theorem Z0r {p q r c:Nat} (L:0<c) (h:p=c*q+r) (M:r<c):Bb (-(p:Int)) c= -(Ho q r c true:Int):=by
 have e:(p:Int)=(c:Int)*q+r:=by rw[h];simp
 have e3: -(q:Int)*(2*c)= -(2*((c:Int)*q)):=by grind
 have D: -((q+1:Nat):Int)*(2*c)= -(2*((c:Int)*q))-2*c:=by grind
 have G:(-(q:Int)+1)*(2*c)= -(2*((c:Int)*q))+2*c:=by grind
 have I:(-((q+1:Nat):Int)+1)*(2*c)= -(2*((c:Int)*q)):=by grind
 rw[Yke];by_cases g:r>c-r
 ·rw[aa g];exact Ji (by omega) (by rw[D];omega) (by rw[I];omega)
 ·rw[ab g];exact Ji (by omega) (by rw[e3];omega) (by rw[G];omega)
theorem T5 {a b c:Int} (U:i64 a) (hb:i64 b) (hc:0<c/\c<9223372036854775808) (hp:a.natAbs*b.natAbs<9223372036854775807):CU [I a,I b,I c,I 2]=some [I (Bb (a*b) c),B true]:=by
 obtain⟨V,lo,e1,e2,e3⟩:=Po (Ic U) (Ic hb);have N:=Vs a b;have Y:=Uf a b;have hz:a*b=0->a.natAbs*b.natAbs=0:=λh=>by rw[<-Int.natAbs_mul,h];rfl
 generalize a.natAbs*b.natAbs=p at*;have O:V=0:=by
  rcases dp V with h|h
  ·exact h
  ·have:=bg w64 h;have:=Ba;omega
 subst O;have S:lo=p:=by omega
 subst S;obtain⟨n,rfl⟩:=bc (show 0<=c by omega);have G:0<n:=by omega
 have T:=fc lo n;have M:=gd lo G;have h3:lo/n<=lo:=f8 _ _;have hd:=Ze6 e3 G;have L:=JB (x:=(n:Int)) (by unfold i64;omega);rw[fu]at L;generalize lo/n=q at*;generalize lo%n=r at*;have D:=Yje (M1:=Fg) (M2:=IJ) (M3:=GB) (M4:=GZ) (M5:=Ew) (M6:=Gr) (M7:=Gw) G (by omega) M (by omega)
  (Qmi (.inr (.inr rfl))) (JB U) (JB hb) L e1 hd (Y6 a b) Zhd (λk X=>Qim X) (λk X=>Qzz (by omega))
 have hv:(if sgn a b<0 then-(Ho q r n true:Int)else(Ho q r n false:Int))=Bb (a*b) n:=by
  rcases Y with⟨g1,g2⟩|⟨g1,g2⟩|⟨g1,g2⟩
  ·rw[ab,g2];rw[g1]at N;have:lo=0:=hz g2;rw[<-Zcl G T.symm M,this];rfl
  ·rw[ab,<-Zcl G T.symm M,<-N,g1,iy]
  ·rw[aa,<-Z0r G T.symm M,<-N,g1,Int.neg_mul,iy]
 rw[hv]at D;exact D
abbrev uR (n:Nat):List AC:=[U n]
abbrev kUs:List Kd:=[kU]
def val:List Nat->Nat
 |[]=>0
 |d::l=>d+65536*val l
def Dig (l:List Nat):Prop:=∀d∈l,d<65536
def Cut (l:List Nat):Prop:=∀h:l≠[],l.getLast h≠0
theorem Zb5 (v:Nat) (h:v<w64):wrap .u64 (((BitVec.ofInt IntKind.u64.bits (v:Int)&&&BitVec.ofInt IntKind.u64.bits 65535).toNat:Nat):Int)=((v%65536:Nat):Int):=by
 rw[Ba]at h;have e:(BitVec.ofInt IntKind.u64.bits (v:Int)&&&BitVec.ofInt IntKind.u64.bits 65535).toNat=v%65536:=by
  rw[BitVec.toNat_and];have e1:(BitVec.ofInt IntKind.u64.bits (v:Int)).toNat=v:=by
   simp only[IntKind.bits,gk];omega
  have e2:(BitVec.ofInt IntKind.u64.bits 65535).toNat=2^16-1:=by
   simp only[IntKind.bits,gk];rfl
  rw[e1,e2,Nat.and_two_pow_sub_one_eq_mod]
 rw[e,B6 (by omega)]
theorem Q3u (v:Nat):(v:Int).fdiv (2^min (Int.toNat 16) IntKind.u64.bits)=((v/65536:Nat):Int):=by
 have e:(2^min (Int.toNat 16) IntKind.u64.bits:Int)=65536:=rfl;rw[e,dq _ (by omega)];omega
def G2 (n:Nat):List Nat:=if h:n=0 then []else n%65536::G2 (n/65536)
termination_by n
decreasing_by omega
theorem Qb:G2 0=[]:=by unfold G2;simp
theorem UE {n:Nat} (h:n≠0):G2 n=n%65536::G2 (n/65536):=by rw[G2,dif_neg h]
theorem Qwm (n:Nat):val (G2 n)=n:=by
 induction n using Nat.strongRecOn with
 |_ n D=>
  by_cases h:n=0
  ·subst h;rw[Qb];rfl
  ·rw[UE h,val,D _ (by omega)];omega
theorem Qzh (n:Nat):Dig (G2 n):=by
 induction n using Nat.strongRecOn with
 |_ n G=>
  by_cases h:n=0
  ·subst h;rw[Qb];intro d D;simp at D
  ·rw[UE h];intro d D;simp only[av]at D;rcases D with rfl|D
   ·omega
   ·exact G _ (by omega) d D
theorem Que (k:Nat):∀n,n<65536^k->(G2 n).length<=k:=by
 induction k with
 |zero=>intro n h;simp at h;subst h;rw[Qb];simp
 |succ k G=>
  intro n h;by_cases D:n=0
  ·subst D;rw[Qb];simp
  ·rw[UE D];have:=G (n/65536) (by rw[dw]at h;exact Nat.div_lt_of_lt_mul (by rw[cx];exact h));simp;omega
theorem Yby (l:List Nat) (d:Nat):l.map uR++[[AC.int IntKind.u64 (d:Int)]]=(l++[d]).map uR:=by simp
theorem Ygr (n:Nat):∀(acc:List Nat),n<w64->acc.length+(G2 n).length<=1000->Q5 [.vC kUs (acc.map uR),U n]=some (1,[.vC kUs ((acc++G2 n).map uR)]):=by
 induction n using Nat.strongRecOn with
 |_ n I=>
  intro acc L G;unfold Q5;by_cases h:n=0
  ·subst h;rw[Qb,gr];refine AJ ?_ (by simp);rw[Zc8];simp
  ·rw[UE h]at G⊢;have D:Qe8 [.vC kUs (acc.map uR),U n]=some (0,[.vC kUs ((acc++[n%65536]).map uR),U ((n/65536:Nat):Int)]):=by
    rw[Zc8,Zb5 n L,Q3u];simp only[go_sem];rw[aa,Yby,aa (by simp at G⊢;omega)]
   rw[AS D];have:=I (n/65536) (by omega) (acc++[n%65536]) (by omega) (by simp at G⊢;omega);unfold Q5 at this;rw[this,d9];rfl
theorem Qrt:w64=65536^4:=by rw[Ba]
theorem Zew {n:Nat} (h:n<w64):NU [U n]=some [.vC kUs ((G2 n).map uR)]:=by
 have D:=Que 4 n (by rw[<-Qrt];exact h);have:=Ygr n [] h (by simp;omega);unfold NU;rw[Zk0];simp only[da,ay]at this;rw[this];rfl
theorem Qb9:∀(a b:List Nat),val (a++b)=val a+65536^a.length*val b
 |[],b=>by simp[val]
 |d::a,b=>by
  simp only[ax,val,bf,dw,Qb9 a b];rw[iw,cx (65536^a.length) 65536,dt];omega
theorem Yp:∀{l:List Nat},Dig l->val l<65536^l.length
 |[],_=>by simp[val]
 |d::l,h=>by
  have G:=h d (by simp);have I:=Yp (l:=l) λx D=>h x (by simp[D]);simp only[val,bf,dw];omega
theorem Q1a:∀{l:List Nat},Cut l->(h:l≠[])->65536^(l.length-1)<=val l
 |[],_,h=>absurd rfl h
 |[d],D,_=>by have:=D (by simp);simp[val]at this⊢;omega
 |d::e::l,D,_=>by
  have:=Q1a (l:=e::l) (λh=>by have:=D (by simp);rw[List.getLast_cons h]at this;exact this) (by simp);simp only[val,bf]at this⊢;simp only[Nat.add_sub_cancel]at this⊢;rw[dw];omega
theorem Dig.sub {l m:List Nat} (h:Dig l) (D:∀d∈m,d∈l):Dig m:=λd G=>h d (D d G)
theorem Qwj:∀(n:Nat) (l:List Nat),l.length=n->n<=1000->Dig l->∃c:List Nat,OJ [.vC kUs (l.map uR)]=some (1,[.vC kUs (c.map uR)])/\val c=val l/\Dig c/\Cut c/\c.length<=l.length
 |0,l,S,_,M=>by
  have:l=[]:=fy S;subst this;refine⟨[],?_,rfl,M,λh=>absurd rfl h,bt _⟩;unfold OJ;refine AJ ?_ (by simp);rw[Zii];simp
 |n+1,l,S,hn,M=>by
  have U:O ((l.map uR).length-1:Int)=(n:Int):=by rw[Ad (by simp;omega)];simp;omega
  have I:nth [] (l.map uR) n=uR (l[n]'(by omega)):=Em uR [] l n (by omega);have G:l=l.take n++[l[n]'(by omega)]:=by
   have:=i7 n l;rw[KM l n (by omega),cz (by omega)]at this;exact this.symm
  have D:Qo2 [.vC kUs (l.map uR)]=if l[n]'(by omega)=0 then some (0,[.vC kUs ((l.take n).map uR)])else some (1,[.vC kUs (l.map uR)]):=by
   rw[Zii,U];simp only[af,I];simp only[go_sem,jp];rw[aa (by simp;omega),aa (by simp;omega)];by_cases L:l[n]'(by omega)=0
   ·rw[aa,aa (by simp;omega),aa L]
   ·rw[ab,ab L]
  by_cases L:l[n]'(by omega)=0
  ·rw[aa L]at D;obtain⟨c,T,V,X,Y,h5⟩:=Qwj n (l.take n) (by simp;omega) (by omega) (M.sub λd h=>dk h);refine⟨c,?_,?_,X,Y,by simp at h5;omega⟩
   ·unfold OJ at T⊢;rw[AS D];exact T
   ·rw[V]
    conv=>rhs;rw[G,Qb9,L]
    simp[val]
  ·rw[ab L]at D;refine⟨l,?_,rfl,M,λN=> ?_,bt _⟩
   ·unfold OJ;exact AJ D (by simp)
   ·have:l.getLast N=l[n]'(by omega):=by rw[List.getLast_eq_getElem];congr 1;omega
    rw[this];exact L
theorem Ydj {l:List Nat} (D:l.length<=1000) (G:Dig l):∃c:List Nat,KP [.vC kUs (l.map uR)]=some [.vC kUs (c.map uR)]/\val c=val l/\Dig c/\Cut c/\c.length<=l.length:=by
 obtain⟨c,I,L⟩:=Qwj _ l rfl D G;refine⟨c,?_,L⟩;unfold KP;rw[Zro,I];rfl
theorem Td (l:List Nat) (k:Nat) (h:k<l.length):val (l.take (k+1))=val (l.take k)+65536^k*l[k]:=by
 rw[List.take_succ_eq_append_getElem h,Qb9];simp[val,Nat.min_eq_left (Nat.le_of_lt h)]
theorem Q05 {l:List Nat} (D:Dig l) (k:Nat) (h:k<=l.length):val (l.take k)<65536^k:=by
 have:=Yp (D.sub (m:=l.take k) λd h=>dk h);simpa [Nat.min_eq_left h]using this
theorem Zhl {p q a b P:Nat} (I:p<P) (D:a<b):p+P*a<q+P*b:=by
 have G:P*(a+1)<=P*b:=jd P D;rw[iw]at G;omega
theorem Q6x {a b:List Nat} (M:a.length=b.length) (O:Dig a) (hb:Dig b) (U:a.length<=1000):∀k,k<=a.length->
  Ro [.vC kUs (a.map uR), .vC kUs (b.map uR),I ((k:Int)-1)]=if val (a.take k)=val (b.take k)then some (2,[])else some (1,[I (DN (val (a.take k)) (val (b.take k)))])
 |0,_=>by
  unfold Ro;rw[aa (by simp)];refine AJ ?_ (by simp);rw[Zhb];simp only[go_sem];rw[ab]
 |k+1,hk=>by
  have e1:nth [] (a.map uR) k=uR (a[k]'(by omega)):=Em uR [] a k (by omega);have e2:nth [] (b.map uR) k=uR (b[k]'(by omega)):=Em uR [] b k (by omega);have D:VK [.vC kUs (a.map uR), .vC kUs (b.map uR),I (((k+1:Nat):Int)-1)]=
    if a[k]'(by omega)<b[k]'(by omega)then some (1,[I (-1)])else if a[k]'(by omega)>b[k]'(by omega)then some (1,[I 1])else some (0,[.vC kUs (a.map uR), .vC kUs (b.map uR),I ((k:Int)-1)]):=by
   rw[show(((k+1:Nat):Int)-1)=(k:Int) by omega,Zhb];simp only[af,e1,e2];simp only[go_sem];rw[aa,aa (by simp;omega),aa (by simp;omega),Ad];by_cases G:a[k]'(by omega)<b[k]'(by omega)
   ·rw[aa,aa G]
   ·rw[ab,ab G,aa (by simp;omega),aa (by simp;omega)];by_cases L:a[k]'(by omega)>b[k]'(by omega)
    ·rw[aa,aa L]
    ·rw[ab,ab L]
  have S:=Q6x M O hb U k (by omega);unfold Ro at S⊢;rw[Td a k (by omega),Td b k (by omega)];have V:=Q05 O k (by omega);have X:=Q05 hb k (by omega);by_cases G:a[k]'(by omega)<b[k]'(by omega)
  ·rw[aa G]at D;have:=Zhl (q:=val (b.take k)) V G;rw[AJ D (by simp),ab];unfold DN;rw[aa this]
  ·rw[ab G]at D;by_cases L:a[k]'(by omega)>b[k]'(by omega)
   ·rw[aa L]at D;have:=Zhl (q:=val (a.take k)) X L;rw[AJ D (by simp),ab];unfold DN;rw[ab,ab]
   ·rw[ab L]at D;have Y:a[k]'(by omega)=b[k]'(by omega):=by omega
    rw[AS D,S,Y];by_cases N:val (a.take k)=val (b.take k)
    ·rw[aa N,aa]
    ·rw[ab N,ab];unfold DN;by_cases T:val (a.take k)<val (b.take k)
     ·rw[aa T,aa]
     ·rw[ab T,ab N,ab,ab]
theorem Zvs {a b:List Nat} (G:Dig a) (hb:Dig b) (M:Cut a) (L:Cut b) (N:a.length<=1000):
  Nf [.vC kUs (a.map uR), .vC kUs (b.map uR)]=some [I (DN (val a) (val b))]:=by
 unfold Nf;rw[Z2x];by_cases D:a.length=b.length
 ·have:=Q6x D G hb N a.length (bt _);rw[gf,D,gf]at this;have S:O (((a.map uR).length:Int)-1)=(b.length:Int)-1:=by rw[Ad (by simp;omega)];simp;omega
  rw[S,this];simp only[go_sem];rw[ab (by simp;omega)];by_cases h:val a=val b
  ·rw[aa h];simp[DN,h]
  ·rw[ab h];simp only[go_sem,ew]
 ·simp only[go_sem];rw[aa (by simp;omega)];have key:∀{a b:List Nat},Dig a->Cut b->a.length<b.length->val a<val b:=by
   intro a b G L h;have T:=Yp G;have U:=Q1a L (by intro e;subst e;simp at h);have V:65536^a.length<=65536^(b.length-1):=Nat.pow_le_pow_right (by omega) (by omega);omega
  unfold DN;by_cases h:a.length<b.length
  ·have:=key G L h;rw[aa (by simp;omega),aa this]
  ·have:=key hb M (by omega);rw[ab (by simp;omega),ab,ab]
theorem Wo:∀(l:List Nat) (j:Nat) (h:j<l.length) (d:Nat),val (l.set j d)+65536^j*l[j]=val l+65536^j*d
 |[],j,h,d=>by simp at h
 |x::l,0,h,d=>by simp[val];omega
 |x::l,j+1,h,d=>by
  have:=Wo l j (by simpa using h) d;simp only[List.set_cons_succ,val,js,dw];have e:∀z,65536^j*65536*z=65536*(65536^j*z):=λz=>by rw[cx (65536^j) 65536,dt]
  rw[e,e];omega
theorem Dig.set {l:List Nat} (h:Dig l) (j d:Nat) (D:d<65536):Dig (l.set j d):=by
 intro x G;rcases ff G with h'|rfl
 ·exact h x h'
 ·exact D
theorem Qzo (l:List Nat) (j d:Nat):(l.map uR).set j [AC.int IntKind.u64 (d:Int)]=(l.set j d).map uR:=by rw[List.map_set]
theorem Zt6 {out a b:List Nat} {i k c:Nat} (G:Dig out) (L:Dig a) (hb:Dig b) (X:c<65536) (N:i<a.length) (S:k<b.length) (Y:out.length=a.length+b.length) (hn:a.length+b.length<=1000):
  HA M [.vC kUs (out.map uR), .vC kUs (a.map uR), .vC kUs (b.map uR),I i,U c,I k]=
   some (0,[.vC kUs ((out.set (i+k) ((out[i+k]'(by omega)+a[i]*b[k]+c)%65536)).map uR), .vC kUs (a.map uR), .vC kUs (b.map uR),I i,U (((out[i+k]'(by omega)+a[i]*b[k]+c)/65536:Nat):Int),I ((k+1:Nat):Int)]):=by
 have h1:=G (out[i+k]'(by omega)) (bh _);have h2:=L a[i] (bh _);have h3:=hb b[k] (bh _);have e1:nth [] (out.map uR) (i+k)=uR (out[i+k]'(by omega)):=Em uR [] out _ (by omega);have e2:nth [] (a.map uR) i=uR a[i]:=Em uR [] a _ N;have e3:nth [] (b.map uR) k=uR b[k]:=Em uR [] b _ S;have h4:a[i]*b[k]<=65535*65535:=cd (by omega) (by omega);have T:O ((i:Int)+(k:Int))=((i+k:Nat):Int):=by rw[Ad];omega
 have V:wrap .u64 (wrap .u64 ((out[i+k]'(by omega):Int)+wrap .u64 ((a[i]:Int)*(b[k]:Int)))+(c:Int))=((out[i+k]'(by omega)+a[i]*b[k]+c:Nat):Int):=by
  have e:((a[i]:Int)*(b[k]:Int))=((a[i]*b[k]:Nat):Int):=by simp
  rw[e];generalize a[i]*b[k]=p at*;rw[B6 (x:=(p:Int)) (by omega),B6 (x:=(out[i+k]'(by omega):Int)+(p:Int)) (by omega),B6 (by omega)];omega
 rw[Qze,T];simp only[af,e1,e2,e3];have D:∀n:Nat,Ah (nth AC.vD (uR n) 0)=(n:Int):=λn=>rfl;rw[D,D,D,V,Zb5 _ (by rw[Ba];omega),Q3u];simp only[go_sem];rw[aa (by simp;omega),aa (by simp;omega),aa (by simp;omega),aa (by simp;omega),aa (by simp;omega),Ad,Qzo];rfl
theorem Q4n {M:Fn} {a b:List Nat} {i:Nat} (O:Dig a) (hb:Dig b) (hi:i<a.length) (hn:a.length+b.length<=1000) (P:Nat):∀(m k:Nat) (out:List Nat) (c:Nat),m=b.length-k->k<=b.length->Dig out->c<65536->out.length=a.length+b.length->
  (∀j (h:j<out.length),i+b.length<=j->out[j]=0)->val out+c*65536^(i+k)=P+a[i]*65536^i*val (b.take k)->
  ∃(D:List Nat) (c':Nat),Al (HA M) [.vC kUs (out.map uR), .vC kUs (a.map uR), .vC kUs (b.map uR),I i,U c,I k]=some (1,[.vC kUs (D.map uR), .vC kUs (a.map uR), .vC kUs (b.map uR),I i,U c'])/\
   Dig D/\c'<65536/\D.length=a.length+b.length/\(∀j (h:j<D.length),i+b.length<=j->D[j]=0)/\val D+c'*65536^(i+b.length)=P+a[i]*65536^i*val b
 |0,k,out,c,hm,hk,L,S,N,T,X=>by
  have G:k=b.length:=by omega
  subst G;rw[gf]at X;refine⟨out,c,?_,L,S,N,T,X⟩;refine AJ ?_ (by simp);rw[Qze];simp only[go_sem];rw[ab (by simp)]
 |m+1,k,out,c,hm,hk,L,S,N,T,X=>by
  have G:k<b.length:=by omega
  rw[AS (Zt6 L O hb S hi G N hn)];have h1:=L (out[i+k]'(by omega)) (bh _);have h2:=O a[i] (bh _);have h3:=hb b[k] (bh _);have h4:a[i]*b[k]<=65535*65535:=cd (by omega) (by omega);refine Q4n O hb hi hn P m (k+1) _ _ (by omega) (by omega) (L.set _ _ (gd _ (by omega))) (by generalize a[i]*b[k]=p at*;omega) (by simpa using N) ?_ ?_
  ·intro j hj Y;rw[List.getElem_set_ne (by omega)];exact T j (by simpa using hj) Y
  ·have hs:=Wo out (i+k) (by omega) ((out[i+k]'(by omega)+a[i]*b[k]+c)%65536);rw[Td b k G];have a0:=fc (out[i+k]'(by omega)+a[i]*b[k]+c) 65536;generalize(out[i+k]'(by omega)+a[i]*b[k]+c)%65536=r at*;generalize(out[i+k]'(by omega)+a[i]*b[k]+c)/65536=q at*;generalize val (out.set (i+k) r)=V at*;generalize out[i+k]'(by omega)=x at*;have e1:65536^(i+(k+1))=65536^(i+k)*65536:=by rw[<-gy,dw]
   have e2:a[i]*65536^i*(val (b.take k)+65536^k*b[k])=a[i]*65536^i*val (b.take k)+65536^(i+k)*(a[i]*b[k]):=by
    rw[iw,Nat.pow_add];congr 1;rw[cx a[i],dt,dt];congr 1;rw[<-dt,cx a[i],dt]
   rw[e1,e2];generalize a[i]*65536^i*val (b.take k)=A at*;generalize a[i]*b[k]=p at*;generalize 65536^(i+k)=B at*;have h5:B*(x+p+c)=B*(65536*q+r):=by rw[a0]
   simp only[iw]at h5;have h6:q*(B*65536)=B*(65536*q):=by rw[cx q,dt]
   have h7:c*B=B*c:=cx _ _;omega
theorem Zcg {M:Fn} {a b:List Nat} (ha:Dig a) (hb:Dig b) (hn:a.length+b.length<=1000):∀(m i:Nat) (out:List Nat),m=a.length-i->i<=a.length->Dig out->out.length=a.length+b.length->
  (∀j (h:j<out.length),i+b.length<=j->out[j]=0)->val out=val (a.take i)*val b->
  ∃G:List Nat,Al (Ne M (Al (HA M))) [.vC kUs (out.map uR), .vC kUs (a.map uR), .vC kUs (b.map uR),I i]=some (1,[.vC kUs (G.map uR)])/\
   Dig G/\G.length=a.length+b.length/\val G=val a*val b
 |0,i,out,hm,hi,X,Y,hz,V=>by
  have L:i=a.length:=by omega
  subst L;rw[gf]at V;refine⟨out,?_,X,Y,V⟩;refine AJ ?_ (by simp);rw[Q6c];simp only[go_sem];rw[ab (by simp)]
 |m+1,i,out,hm,hi,X,Y,hz,V=>by
  have L:i<a.length:=by omega
  obtain⟨D,T,h1,h2,h3,h4,h5,h6⟩:=Q4n (M:=M) ha hb L hn (val out) b.length 0 out 0 (by omega) (by omega) X (by omega) Y hz (by simp[val]);have U:=h5 (i+b.length) (by omega) (bt _);have e1:nth [] (D.map uR) (i+b.length)=uR (D[i+b.length]'(by omega)):=Em uR [] D _ (by omega);have S:Ne M (Al (HA M)) [.vC kUs (out.map uR), .vC kUs (a.map uR), .vC kUs (b.map uR),I i]=
    some (0,[.vC kUs ((D.set (i+b.length) T).map uR), .vC kUs (a.map uR), .vC kUs (b.map uR),I ((i+1:Nat):Int)]):=by
   generalize Al (HA M)=N at*;rw[Q6c];rw[show(N [AC.vC [Kd.int IntKind.u64] (out.map uR),AC.vC [Kd.int IntKind.u64] (a.map uR),AC.vC [Kd.int IntKind.u64] (b.map uR),AC.int IntKind.i64 (i:Int),AC.int IntKind.u64 0,AC.int IntKind.i64 0])=_ from h1];have hw:O ((i:Int)+((b.map uR).length:Int))=((i+b.length:Nat):Int):=by rw[Ad (by simp;omega)];simp
   simp only[go_sem,hw,af,e1,U];rw[aa (by simp;omega),aa (by simp;omega),aa (by simp;omega),Ad];have:wrap .u64 (((0:Nat):Int)+(T:Int))=(T:Int):=by rw[B6 (by omega)];simp
   rw[this,Qzo];rfl
  rw[AS S];refine Zcg ha hb hn m (i+1) _ (by omega) (by omega) (h2.set _ _ h3) (by simpa using h4) ?_ ?_
  ·intro j hj a0;rw[List.getElem_set_ne (by omega)];exact h5 j (by simpa using hj) (by omega)
  ·have hs:=Wo D (i+b.length) (by omega) T;rw[U]at hs;rw[Td a i L,gx,<-V];have e2:a[i]*65536^i*val b=65536^i*a[i]*val b:=by rw[cx a[i]]
   have e3:T*65536^(i+b.length)=65536^(i+b.length)*T:=cx _ _;omega
theorem Zr1 (I:∀l:List Nat,l.length<=1000->Dig l->∃c:List Nat,M [.vC kUs (l.map uR)]=some [.vC kUs (c.map uR)]/\val c=val l/\Dig c/\Cut c/\c.length<=l.length)
  {a b:List Nat} (L:Dig a) (hb:Dig b) (N:a.length+b.length<=1000):
  ∃c:List Nat,Qlx M (Al (HA M)) (Al (Ne M (Al (HA M)))) [.vC kUs (a.map uR), .vC kUs (b.map uR)]=some [.vC kUs (c.map uR)]/\val c=val a*val b/\Dig c/\Cut c/\c.length<=a.length+b.length:=by
 have D:∀n,val (List.replicate n 0)=0:=by
  intro n;induction n with
  |zero=>rfl
  |succ n S=>simp[je,val,S]
 obtain⟨out,T,U,h3,V⟩:=Zcg (M:=M) L hb N a.length 0 (List.replicate (a.length+b.length) 0) (by omega) (by omega) (λd X=>by simp at X;omega) (by simp) (λj h _=>by simp) (by rw[D];simp[val]);obtain⟨c,g1,g2,Y,g4,g5⟩:=I out (by omega) U;refine⟨c,?_,by rw[g2,V],Y,g4,by omega⟩;generalize Al (Ne M (Al (HA M)))=N3 at*;generalize Al (HA M)=N7 at*;rw[Zn9];have hw:O (((a.map uR).length:Int)+((b.map uR).length:Int))=((a.length+b.length:Nat):Int):=by rw[Ad (by simp;omega)];simp
 have G:List.replicate (a.length+b.length) [AC.int IntKind.u64 0]=(List.replicate (a.length+b.length) 0).map uR:=by simp
 simp only[hw,af,G];rw[show(N3 [AC.vC [Kd.int IntKind.u64] ((List.replicate (a.length+b.length) 0).map uR),AC.vC [Kd.int IntKind.u64] (a.map uR),AC.vC [Kd.int IntKind.u64] (b.map uR),AC.int IntKind.i64 0])=_ from T];simp only[go_sem];rw[aa,show M [AC.vC [Kd.int IntKind.u64] (out.map uR)]=_ from g1];simp only[go_sem]
theorem Zyt {a b:List Nat} (D:Dig a) (hb:Dig b) (G:a.length+b.length<=1000):
  ∃c:List Nat,QO [.vC kUs (a.map uR), .vC kUs (b.map uR)]=some [.vC kUs (c.map uR)]/\val c=val a*val b/\Dig c/\Cut c/\c.length<=a.length+b.length:=
 Zr1 (λ_ I L=>Ydj I L) D hb G
theorem Z4r {x y:Int} {a b c:List Nat} (D:W [I x]=some [U x.natAbs]) (G:W [I y]=some [U y.natAbs]) (L:Z [U x.natAbs]=some [.vC kUs (a.map uR)]) (N:Z [U y.natAbs]=some [.vC kUs (b.map uR)])
  (O:M [.vC kUs (a.map uR), .vC kUs (b.map uR)]=some [.vC kUs (c.map uR)]):Qaf M Z W [I x,I y]=some [.vC kUs (c.map uR)]:=by
 rw[Znr];simp only[go_sem,D,G,L,N,O]
theorem Zh3 {x y:Int} (D:i64 x) (G:i64 y):∃c:List Nat,Q1 [I x,I y]=some [.vC kUs (c.map uR)]/\val c=x.natAbs*y.natAbs/\Dig c/\Cut c/\c.length<=8:=by
 have S:=Que 4 x.natAbs (by rw[<-Qrt];exact Ic D);have T:=Que 4 y.natAbs (by rw[<-Qrt];exact Ic G);obtain⟨c,M,L,N,O,U⟩:=Zyt (Qzh x.natAbs) (Qzh y.natAbs) (by omega);rw[Qwm,Qwm]at L;exact⟨c,Z4r (Q03 D) (Q03 G) (Zew (Ic D)) (Zew (Ic G)) M,L,N,O,by omega⟩
theorem Zx6 {a b c d:Int} {p q:List Nat} (ks:∀a b,W [I a,I b]=some [I (sgn a b)]) (D:Z [I a,I b]=some [.vC kUs (p.map uR)]) (G:Z [I c,I d]=some [.vC kUs (q.map uR)])
  (L:M [.vC kUs (p.map uR), .vC kUs (q.map uR)]=some [I (DN (a.natAbs*b.natAbs) (c.natAbs*d.natAbs))]):Zc M Z W [I a,I b,I c,I d]=some [I (FF (a*b) (c*d))]:=by
 have N:=Zfb (Qzw a b) (Q3a (a.natAbs*b.natAbs) (c.natAbs*d.natAbs));rw[Zlo];simp only[go_sem,ks,D,G,L];rw[<-Ze0,Ad];by_cases g1:sgn a b<sgn c d
 ·rw[aa g1,aa,aa g1]
 ·rw[ab g1];by_cases g2:sgn a b>sgn c d
  ·rw[aa g2,aa,ab g1]
  ·rw[ab g2,ab]
theorem Z51 {a b c d:Int} (D:i64 a) (hb:i64 b) (G:i64 c) (L:i64 d):Q6 [I a,I b,I c,I d]=some [I (FF (a*b) (c*d))]:=by
 obtain⟨p,M,N,O,S,Y⟩:=Zh3 D hb;obtain⟨q,T,U,V,X,q5⟩:=Zh3 G L;refine Zx6 Yis M T ?_;rw[<-N,<-U];exact Zvs O V S X (by omega)
def bd (A:Nat) (p:Pt):Prop:=p.x.natAbs<=A/\p.y.natAbs<=A/\p.z.natAbs<=A
def IF (a b:Pt):Int:=a.x*b.x+a.y*b.y+a.z*b.z
def Ce (a b:Pt):Pt:=⟨a.x-b.x,a.y-b.y,a.z-b.z⟩
theorem ER {x y:Int} {A B:Nat} (D:x.natAbs<=A) (G:y.natAbs<=B):(x*y).natAbs<=A*B:=by rw[Int.natAbs_mul];exact cd D G
theorem Qxu {A B:Nat} (D:bd A a) (hb:bd B b):bd (A+B) (Ce a b):=by
 obtain⟨G,I,L⟩:=D;obtain⟨g1,g2,M⟩:=hb;refine⟨?_,?_,?_⟩<;>simp only[Ce]<;>omega
theorem AI {A B:Nat} (h:bd A a) (D:A<=B):bd B a:=⟨bj h.1 D,bj h.2.1 D,bj h.2.2 D⟩
theorem Z3g (D:bd 33554432 a) (hb:bd 33554432 b):O (a.x-b.x)=(Ce a b).x/\O (a.y-b.y)=(Ce a b).y/\O (a.z-b.z)=(Ce a b).z:=by
 obtain⟨G,I,L⟩:=D;obtain⟨g1,g2,M⟩:=hb;refine⟨?_,?_,?_⟩<;>rw[Ad]<;>rfl
theorem Yd1 (D:bd 33554432 a) (hb:bd 33554432 b):LC [I a.x,I a.y,I a.z,I b.x,I b.y,I b.z]=some (ptR (Ce a b)):=by
 unfold LC;obtain⟨G,L,M⟩:=Z3g D hb;rw[Zn0,G,L,M]
theorem Yfw (a b:Pt):IF (Ce a b) (Ce a b)=IF (Ce b a) (Ce b a):=by
 simp only[IF,Ce];have h:∀x y:Int,(x-y)*(x-y)=(y-x)*(y-x):=by intro x y;rw[<-Int.neg_mul_neg,Int.neg_sub]
 rw[h a.x,h a.y,h a.z]
theorem Za7 {x y:Int}:FF x y<=0↔x<=y:=by
 unfold FF;by_cases h:x<y
 ·rw[aa h];omega
 ·rw[ab h];by_cases h':x=y
  ·rw[aa h'];omega
  ·rw[ab h'];omega
theorem OD (v:Nat) (h:v<w64):wrap .u64 (((BitVec.ofInt IntKind.u64.bits (v:Int)&&&BitVec.ofInt IntKind.u64.bits 4294967295).toNat:Nat):Int)=((v%4294967296:Nat):Int):=by
 rw[Ba]at h;have e:(BitVec.ofInt IntKind.u64.bits (v:Int)&&&BitVec.ofInt IntKind.u64.bits 4294967295).toNat=v%4294967296:=by
  rw[BitVec.toNat_and];have e1:(BitVec.ofInt IntKind.u64.bits (v:Int)).toNat=v:=by
   simp only[IntKind.bits,gk];omega
  have e2:(BitVec.ofInt IntKind.u64.bits 4294967295).toNat=2^32-1:=by
   simp only[IntKind.bits,gk];rfl
  rw[e1,e2,Nat.and_two_pow_sub_one_eq_mod]
 rw[e,B6 (by omega)]
theorem LN (v:Nat):(v:Int).fdiv (2^min (Int.toNat 32) IntKind.u64.bits)=((v/4294967296:Nat):Int):=by
 have e:(2^min (Int.toNat 32) IntKind.u64.bits:Int)=4294967296:=rfl;rw[e,dq _ (by omega)];omega
theorem Ycz (u v:Nat) (G:u<4294967296) (D:v<4294967296):wrap .u64 (((BitVec.ofInt IntKind.u64.bits ((u*4294967296:Nat):Int)|||BitVec.ofInt IntKind.u64.bits (v:Int)).toNat:Nat):Int)=((u*4294967296+v:Nat):Int):=by
 have e:(BitVec.ofInt IntKind.u64.bits ((u*4294967296:Nat):Int)|||BitVec.ofInt IntKind.u64.bits (v:Int)).toNat=u*4294967296+v:=by
  rw[BitVec.toNat_or];have e1:∀v:Nat,v<18446744073709551616->(BitVec.ofInt IntKind.u64.bits (v:Int)).toNat=v:=by
   intro v D;simp only[IntKind.bits,gk];omega
  rw[e1 _ (by omega),e1 _ (by omega)];have:=jc (i:=32) (b:=v) (by omega) u;rw[show(2:Nat)^32=4294967296 from rfl,cx]at this;exact this.symm
 rw[e,B6 (by omega)]
theorem Zp1 (v:Nat) (h:v<w64):wrap .u64 ((v:Int)*2^min (Int.toNat 32) IntKind.u64.bits)=((v%4294967296*4294967296:Nat):Int):=by
 have e:(2^min (Int.toNat 32) IntKind.u64.bits:Int)=4294967296:=rfl;rw[Ba]at h;rw[e,LB];omega
theorem Sn (D:i<4294967296) (hb:A<4294967296):i*A<=18446744065119617025:=by
 have:=cd (show i<=4294967295 by omega) (show A<=4294967295 by omega);omega
theorem Z2e {x y:Nat} (V:x<w64) (X:y<w64):∃Y lo:Nat,OB [U x,U y]=some [U Y,U lo]/\Y*w64+lo=x*y/\lo<w64:=by
 unfold OB;rw[Zzx,OD x V,OD y X,LN x,LN y];rw[Ba]at V X;have ex:x=x/4294967296*4294967296+x%4294967296:=by omega
 have ey:y=y/4294967296*4294967296+y%4294967296:=by omega
 have I:x/4294967296<4294967296:=by omega
 have L:x%4294967296<4294967296:=by omega
 have M:y/4294967296<4294967296:=by omega
 have N:y%4294967296<4294967296:=by omega
 generalize x/4294967296=a at*;generalize x%4294967296=b at*;generalize y/4294967296=c at*;generalize y%4294967296=d at*;have O:x*y=(a*c)*18446744073709551616+(a*d)*4294967296+(b*c)*4294967296+b*d:=by
  rw[ex,ey];have:(18446744073709551616:Nat)=4294967296*4294967296:=rfl;rw[this];generalize(4294967296:Nat)=H
  grind
 rw[O];have h1:=Sn I M;have h2:=Sn I N;have h3:=Sn L M;have h4:=Sn L N;have m1:∀p q:Nat,(p:Int)*(q:Int)=((p*q:Nat):Int):=λp q=>by simp
 have G:∀v:Nat,v<=18446744073709551615->wrap .u64 (v:Int)=(v:Int):=λv hv=>B6 (by omega);simp only[m1];generalize a*c=P at*;generalize a*d=Q at*;generalize b*c=S at*;generalize b*d=T at*;have D:∀v:Nat,v<=18446744073709551615->v<w64:=λv hv=>by rw[Ba];omega
 have a1:∀p q:Nat,(p:Int)+(q:Int)=((p+q:Nat):Int):=λp q=>by simp
 rw[G T (by omega),G Q (by omega),G S (by omega),G P (by omega),LN T,a1,G (Q+T/4294967296) (by omega)];rw[OD _ (D (Q+T/4294967296) (by omega)),LN (Q+T/4294967296),OD _ (D T (by omega)),a1 S,G (S+_) (by omega),LN (S+_),a1 P,G (P+_) (by omega),a1 _ ((S+_)/_),G (P+_+_) (by omega),
  Zp1 _ (D (S+(Q+T/4294967296)%4294967296) (by omega)),Ycz _ _ (by omega) (by omega)]
 refine⟨_,_,rfl,?_,?_⟩
 ·rw[Ba];omega
 ·rw[Ba];omega
theorem Zrp (L:∀{x y:Nat},x<w64->y<w64->∃N lo:Nat,M [U x,U y]=some [U N,U lo]/\N*w64+lo=x*y/\lo<w64) {a b c d:Nat} (T:a<w64) (hb:b<w64) (V:c<w64) (X:d<w64) (s:Bool):
  Qjj M [U a,U b,U c,U d,B s]=some [B (if s=true then decide (a*b<c*d)else decide (a*b<=c*d))]:=by
 obtain⟨G,O,e1,Y,g1⟩:=L T hb;obtain⟨I,S,e2,f2,g2⟩:=L V X;rw[Znf];simp only[go_sem,e1,e2];rw[<-Y,<-f2];have key:∀p q:Nat,p<q->p*w64+w64<=q*w64:=λp q h=>by rw[<-gi];exact bg _ h
 by_cases c1:G<I
 ·rw[aa];have:=key _ _ c1;by_cases D:s=true
  ·rw[aa D,ah (by omega)]
  ·rw[ab D,ah (by omega)]
 ·rw[ab];by_cases c2:G=I
  ·subst c2;rw[aa rfl];by_cases c3:O<S
   ·rw[aa];by_cases D:s=true
    ·rw[aa D,ah (by omega)]
    ·rw[ab D,ah (by omega)]
   ·rw[ab];by_cases c4:O=S
    ·subst c4;rw[aa rfl];by_cases D:s=true
     ·rw[aa D,al (by omega),D];rfl
     ·rw[ab D,ah (by omega)];simp at D;rw[D];rfl
    ·rw[ab];by_cases D:s=true
     ·rw[aa D,al (by omega)]
     ·rw[ab D,al (by omega)]
  ·rw[ab];have:=key I G (by omega);by_cases D:s=true
   ·rw[aa D,al (by omega)]
   ·rw[ab D,al (by omega)]
theorem Z35 {a b c d:Nat} (D:a<w64) (hb:b<w64) (G:c<w64) (I:d<w64) (s:Bool):
  OS [U a,U b,U c,U d,B s]=some [B (if s=true then decide (a*b<c*d)else decide (a*b<=c*d))]:=
 Zrp Z2e D hb G I s
def Eh (a n:Nat) (down:Bool) (j:Nat):Prop:=
 (j=0\/if down=true then(2*j-1)*(2*j-1)*n<4*(a*a)else(2*j-1)*(2*j-1)*n<=4*(a*a))/\
 (if down=true then 4*(a*a)<=(2*j+1)*(2*j+1)*n else 4*(a*a)<(2*j+1)*(2*j+1)*n)
theorem O7 {p q n:Nat} (h:p<=q):p*p*n<=q*q*n:=bg _ (cd h h)
theorem Zow {a n:Nat} {down:Bool} (I:Eh a n down i) (L:Eh a n down j):i=j:=by
 have key:∀{i j:Nat},Eh a n down i->Eh a n down j-> ¬i<j:=by
  rintro i j ⟨-,G⟩ ⟨D,-⟩ N;have O:=O7 (n:=n) (show 2*i+1<=2*j-1 by omega);rcases D with D|D
  ·omega
  ·by_cases M:down=true
   ·rw[aa M]at G D;omega
   ·rw[ab M]at G D;omega
 have S:=key I L;have G:=key L I;omega
open Classical in
noncomputable def rnd (a n:Nat) (down:Bool):Nat:=if h:∃j,Eh a n down j then Classical.choose h else 0
theorem K5 {a n:Nat} {down:Bool} (h:Eh a n down j):rnd a n down=j:=by
 have D:∃j,Eh a n down j:=⟨j,h⟩;unfold rnd;rw[jb D];exact Zow (fm D) h
noncomputable def A9 (x r n:Int):Int:=if x<0 then-(rnd (x.natAbs*r.natAbs) n.natAbs true:Int)else(rnd (x.natAbs*r.natAbs) n.natAbs false:Int)
theorem X4 {X R n j:Nat} {down:Bool} (G:0<n) (I:X*X<=n) (h:Eh (X*R) n down j):j<=R:=by
 by_cases c:j<=R
 ·exact c
 exfalso;have e:4*(X*R*(X*R))=(2*R)*(2*R)*(X*X):=by grind
 have L:(2*R)*(2*R)*(X*X)<=(2*R)*(2*R)*n:=jd _ I;have M:(2*R)*(2*R)*n<(2*R+1)*(2*R+1)*n:=dx (fo (by omega)) G;have N:(2*R+1)*(2*R+1)*n<=(2*j-1)*(2*j-1)*n:=O7 (by omega);obtain⟨D,-⟩:=h;rcases D with D|D
 ·omega
 ·split at D<;>omega
theorem Zw1 {X R n j:Nat} {down:Bool} (D:0<n) (G:R*R<=n) (h:Eh (X*R) n down j):j<=X:=by
 rw[cx]at h;exact X4 D G h
theorem Zfr (D:∀{a b c d:Nat},a<w64->b<w64->c<w64->d<w64->∀s:Bool,M [U a,U b,U c,U d,B s]=some [B (if s=true then decide (a*b<c*d)else decide (a*b<=c*d))])
  {x:Int} {a d q b:Nat} {bit:Int} (S:a<36028797018963968) (G:d<w64) (T:q+b<268435456+1) (L:0<b) (hb:((b:Nat):Int).fdiv (2^min (Int.toNat 1) IntKind.u64.bits)=bit):
  Mw M [I x,U a,U d,U q,U b]=some (0,[I x,U a,U d,U (((if(q+b)*(q+b)*d<=a*a then q+b else q):Nat):Int),U bit]):=by
 have V:(q+b)*(q+b)<=268435456*268435456:=cd (by omega) (by omega);have N:wrap .u64 ((q:Int)+(b:Int))=((q+b:Nat):Int):=by rw[B6 (by omega)];omega
 have O:wrap .u64 (((q+b:Nat):Int)*((q+b:Nat):Int))=(((q+b)*(q+b):Nat):Int):=by
  rw[show((q+b:Nat):Int)*((q+b:Nat):Int)=(((q+b)*(q+b):Nat):Int) by simp,B6 (by omega)]
 rw[Qz4,N,O,hb];generalize(q+b)*(q+b)=s at*;have h:=D (a:=s) (b:=d) (c:=a) (d:=a) (by rw[Ba];omega) G (by rw[Ba];omega) (by rw[Ba];omega) false;rw[ab (by simp)]at h;simp only[go_sem,h];rw[aa];by_cases c:s*d<=a*a
 ·rw[aa c,aa c]
 ·rw[ab c,ab c]
theorem Qh9 {M:Fn} (L:∀{a b c d:Nat},a<w64->b<w64->c<w64->d<w64->∀s:Bool,M [U a,U b,U c,U d,B s]=some [B (if s=true then decide (a*b<c*d)else decide (a*b<=c*d))])
  {x:Int} {a d:Nat} (N:a<36028797018963968) (O:d<w64):∀(k q:Nat),q+2^(k+1)<=268435456->q*q*d<=a*a->a*a<(q+2^(k+1))*(q+2^(k+1))*d->
  ∃r:Nat,Al (Mw M) [I x,U a,U d,U q,U ((2^k:Nat):Int)]=some (1,[I x,U a,U d,U r])/\r*r*d<=a*a/\a*a<(r+1)*(r+1)*d/\r<268435456
 |0,q,X,S,T=>by
  have V:=Zfr L (x:=x) (q:=q) (b:=2^0) (bit:=0) N O (by simp at X⊢;omega) (by simp) Q6p;rw[AS V];have D:∀r:Nat,Al (Mw M) [I x,U a,U d,U r,U 0]=some (1,[I x,U a,U d,U r]):=by
   intro r;refine AJ ?_ (by simp);rw[Qz4];simp only[go_sem];rw[ab]
  simp only[dh,Nat.pow_one,Nat.pow_zero]at*;by_cases h:(q+1)*(q+1)*d<=a*a
  ·rw[aa h,D];exact⟨_,rfl,h,T,by omega⟩
  ·rw[ab h,D];exact⟨_,rfl,S,by omega,by omega⟩
 |k+1,q,X,S,T=>by
  have e3:2^(k+1+1)=2^(k+1)+2^(k+1):=by rw[dw 2 (k+1)];omega
  have G:0<2^(k+1):=dv _;have V:=Zfr L (x:=x) (q:=q) (b:=2^(k+1)) (bit:=((2^k:Nat):Int)) N O (by omega) G (Qv4 k);rw[AS V];by_cases h:(q+2^(k+1))*(q+2^(k+1))*d<=a*a
  ·rw[aa h];refine Qh9 L N O k _ (by omega) h ?_;rw[show q+2^(k+1)+2^(k+1)=q+2^(k+1+1) by omega];exact T
  ·rw[ab h];exact Qh9 L N O k q (by omega) S (by omega)
theorem Zbh {a n q:Nat} (down:Bool) (G:q*q*n<=a*a) (I:a*a<(q+1)*(q+1)*n):
  Eh a n down (if(if down=true then(2*q+1)*(2*q+1)*n<2*a*(2*a)else(2*q+1)*(2*q+1)*n<=2*a*(2*a))then q+1 else q):=by
 have L:2*a*(2*a)=4*(a*a):=by grind
 rw[L];have e1:4*(q*q*n)<=4*(a*a):=jd _ G;have e2:4*(a*a)<4*((q+1)*(q+1)*n):=by omega
 have N:(2*q-1)*(2*q-1)*n<=(2*q)*(2*q)*n:=O7 (by omega);have O:(2*q)*(2*q)*n=4*(q*q*n):=by grind
 have S:(2*(q+1))*(2*(q+1))*n=4*((q+1)*(q+1)*n):=by grind
 have T:(2*(q+1))*(2*(q+1))*n<=(2*(q+1)+1)*(2*(q+1)+1)*n:=O7 (by omega);have U:n=0\/q=0\/(2*q-1)*(2*q-1)*n<(2*q)*(2*q)*n:=by
  by_cases D:n=0
  ·exact .inl D
  ·by_cases M:q=0
   ·exact .inr (.inl M)
   ·right;right;refine dx ?_ (by omega);exact fo (by omega)
 have D:n≠0:=by rintro rfl;simp at I
 unfold Eh;cases down
 ·simp only[de,f9];by_cases c:(2*q+1)*(2*q+1)*n<=4*(a*a)
  ·rw[aa c];refine⟨.inr ?_,by omega⟩;rw[show 2*(q+1)-1=2*q+1 by omega];exact c
  ·rw[ab c];exact⟨by omega,by omega⟩
 ·simp only[ew];by_cases c:(2*q+1)*(2*q+1)*n<4*(a*a)
  ·rw[aa c];refine⟨.inr ?_,by omega⟩;rw[show 2*(q+1)-1=2*q+1 by omega];exact c
  ·rw[ab c];exact⟨by omega,by omega⟩
theorem Mu:∀n:Nat,∃r:Nat,r*r<=n/\n<(r+1)*(r+1)
 |0=>⟨0,by decide,by decide⟩
 |n+1=>by
  obtain⟨r,D,G⟩:=Mu n;by_cases c:(r+1)*(r+1)<=n+1
  ·exact⟨r+1,c,by have:=fo (show r+1<r+1+1 by omega);omega⟩
  ·exact⟨r,by omega,by omega⟩
theorem VA {x r n:Int} (hx:x.natAbs<=33554432*4) (M:0<=r/\r<=33554432*4) (hn:0<n/\n<=4611686018427387904) (O:x*x<=n):
  (A9 x r n).natAbs<=268435456/\Eh (x.natAbs*r.natAbs) n.natAbs (decide (x<0)) (A9 x r n).natAbs:=by
 obtain⟨R,rfl⟩:=bc M.1;obtain⟨N,rfl⟩:=bc (show 0<=n by omega);have I:x.natAbs*x.natAbs<=N:=by
  have:((x.natAbs*x.natAbs:Nat):Int)=x*x:=by rw[d7]
  omega
 have S:(x.natAbs*R)*(x.natAbs*R)<268435456*268435456*N:=by
  have e:(x.natAbs*R)*(x.natAbs*R)=(R*R)*(x.natAbs*x.natAbs):=by grind
  rw[e];have T:R*R<=(33554432*4)*(33554432*4):=cd (by omega) (by omega);have h2:(R*R)*(x.natAbs*x.natAbs)<=((33554432*4)*(33554432*4))*N:=cd T I;omega
 simp only[A9,fu];generalize x.natAbs*R=A at*;have L:0<N:=by omega
 obtain⟨q,U,V⟩:=Mu (A*A/N);have X:=(Nat.le_div_iff_mul_le L).1 U;have Y:=(dy L).1 V;have hq:q<268435456:=by
  apply Decidable.byContradiction;intro c;have:=O7 (n:=N) (show 268435456<=q by omega);omega
 have G:=Zbh (decide (x<0)) X Y;have hb:∀(p:Prop) [Decidable p],(if p then q+1 else q)<=268435456:=λp _=>by split<;>omega
 by_cases D:x<0
 ·rw[ah D]at G⊢;rw[aa D,K5 G,Int.natAbs_neg,fu];exact⟨hb _,G⟩
 ·rw[al D]at G⊢;rw[ab D,K5 G,fu];exact⟨hb _,G⟩
theorem Yap (hM:∀{a b c d:Nat},a<w64->b<w64->c<w64->d<w64->∀s:Bool,M [U a,U b,U c,U d,B s]=some [B (if s=true then decide (a*b<c*d)else decide (a*b<=c*d))])
  {x r n:Int} (hx:x.natAbs<=33554432*4) (L:0<=r/\r<=33554432*4) (hn:0<n/\n<=4611686018427387904) (a0:x*x<=n):
  Qp4 M (Al (Mw M)) [I x,I r,I n]=some [I (A9 x r n)]/\(A9 x r n).natAbs<=268435456/\Eh (x.natAbs*r.natAbs) n.natAbs (decide (x<0)) (A9 x r n).natAbs:=by
 obtain⟨R,rfl⟩:=bc L.1;obtain⟨N,rfl⟩:=bc (show 0<=n by omega);have S:mx x (O (0-x))=(x.natAbs:Int):=by
  rw[Ad];unfold mx;split<;>omega
 have hA:x.natAbs*R<=(33554432*4)*(33554432*4):=cd hx (by omega);have e1:(x.natAbs:Int)*(R:Int)=((x.natAbs*R:Nat):Int):=by simp
 have T:x.natAbs*x.natAbs<=N:=by
  have:((x.natAbs*x.natAbs:Nat):Int)=x*x:=by rw[d7]
  omega
 have V:(x.natAbs*R)*(x.natAbs*R)<268435456*268435456*N:=by
  have e:(x.natAbs*R)*(x.natAbs*R)=(R*R)*(x.natAbs*x.natAbs):=by grind
  rw[e];have h1:R*R<=(33554432*4)*(33554432*4):=cd (by omega) (by omega);have h2:(R*R)*(x.natAbs*x.natAbs)<=((33554432*4)*(33554432*4))*N:=cd h1 T;omega
 simp only[A9,fu];generalize a1:x.natAbs*R=A at*;have X:A<36028797018963968:=by omega
 have hN:N<w64:=by rw[Ba];omega
 rw[Zru,S,e1,Ad (x:=(A:Int)),B6 (x:=(A:Int)) (by omega),B6 (x:=(N:Int)) (by omega)];obtain⟨q,l1,l2,l3,l4⟩:=Qh9 hM (x:=x) (a:=A) (d:=N) X hN 27 0 (by decide) (by simp) (by rw[dh];exact V);have Y:Al (Mw M) [I x,U A,U N,AC.int IntKind.u64 0,AC.int IntKind.u64 134217728]=some (1,[I x,U A,U N,U q]):=l1;rw[Y];have a2:(2*q+1)*(2*q+1)<=536870911*536870911:=cd (by omega) (by omega);have w1:wrap .u64 (wrap .u64 (2*(q:Int))+1)=((2*q+1:Nat):Int):=by rw[B6 (x:=2*(q:Int)) (by omega),B6 (by omega)];omega
 have w2:wrap .u64 (((2*q+1:Nat):Int)*((2*q+1:Nat):Int))=(((2*q+1)*(2*q+1):Nat):Int):=by
  rw[show((2*q+1:Nat):Int)*((2*q+1:Nat):Int)=(((2*q+1)*(2*q+1):Nat):Int)from(cm _ _).symm,B6 (by omega)]
 have w3:wrap .u64 (2*(A:Int))=((2*A:Nat):Int):=by rw[B6 (by omega)];omega
 have w4:O (wrap .u64 ((q:Int)+1))=((q+1:Nat):Int):=by rw[B6 (by omega),Ad];omega
 have w5:O (q:Int)=(q:Int):=Ad;have h:=hM (a:=(2*q+1)*(2*q+1)) (b:=N) (c:=2*A) (d:=2*A) (by rw[Ba];omega) hN (by rw[Ba];omega) (by rw[Ba];omega) (decide (x<0));have G:=Zbh (decide (x<0)) l2 l3;simp only[go_sem,w1,w2,w3,h,w4,w5];generalize(2*q+1)*(2*q+1)=s at*;by_cases D:x<0
 ·rw[show(if x<0 then-(rnd A N true:Int)else(rnd A N false:Int))= -(rnd A N true:Int)from aa D];rw[ah D]at G⊢;simp only[ew]at G⊢;have L:=K5 G;by_cases c:s*N<2*A*(2*A)
  ·rw[aa c]at G L;rw[aa D,aa (ah c),aa D,L,Ad];refine⟨?_,by omega,?_⟩
   ·rw[Int.zero_sub]
   ·rw[Int.natAbs_neg,fu];exact G
  ·rw[ab c]at G L;rw[aa D,ab (by simpa using c),aa D,L,Ad];refine⟨?_,by omega,?_⟩
   ·rw[Int.zero_sub]
   ·rw[Int.natAbs_neg,fu];exact G
 ·rw[show(if x<0 then-(rnd A N true:Int)else(rnd A N false:Int))=(rnd A N false:Int)from ab D];rw[al D]at G⊢;simp only[de,f9]at G⊢;have L:=K5 G;by_cases c:s*N<=2*A*(2*A)
  ·rw[aa c]at G L;rw[ab D,aa (ah c),ab D,L];exact⟨rfl,by omega,G⟩
  ·rw[ab c]at G L;rw[ab D,ab (by simpa using c),ab D,L];exact⟨rfl,by omega,G⟩
theorem Q6b {x r n:Int} (G:x.natAbs<=33554432*4) (L:0<=r/\r<=33554432*4) (M:0<n/\n<=4611686018427387904) (D:x*x<=n):
  HX [I x,I r,I n]=some [I (A9 x r n)]/\(A9 x r n).natAbs<=268435456/\Eh (x.natAbs*r.natAbs) n.natAbs (decide (x<0)) (A9 x r n).natAbs:=
 Yap Z35 G L M D
def Hi (n k:Int):Prop:=0<=k/\n<=k*k/\(k=0\/(k-1)*(k-1)<n)
theorem Zl0 {n i j:Int} (G:Hi n i) (I:Hi n j):i=j:=by
 have key:∀{i j:Int},Hi n i->Hi n j-> ¬i<j:=by
  rintro i j ⟨L,M,-⟩ ⟨O,S,D⟩ N;rcases D with D|D
  ·omega
  ·have:=gw L (show i<=j-1 by omega);omega
 have L:=key G I;have M:=key I G;omega
open Classical in
noncomputable def upR (n:Int):Int:=if h:∃j,Hi n j then Classical.choose h else 0
theorem Qur {n k:Int} (h:Hi n k):upR n=k:=by
 have D:∃j,Hi n j:=⟨k,h⟩;unfold upR;rw[jb D];exact Zl0 (fm D) h
theorem Qhm {n r:Nat} (D:r*r<=n) (G:n<(r+1)*(r+1)):Hi n (if r*r<n then r+1 else r:Nat):=by
 unfold Hi;by_cases c:r*r<n
 ·rw[aa c];have e1:((r+1:Nat):Int)*((r+1:Nat):Int)=(((r+1)*(r+1):Nat):Int):=(cm _ _).symm;have e2:(((r+1:Nat):Int)-1)*(((r+1:Nat):Int)-1)=((r*r:Nat):Int):=by
   rw[show((r+1:Nat):Int)-1=(r:Int) by omega];exact(cm _ _).symm
  rw[e1,e2];generalize(r+1)*(r+1)=A at*;generalize r*r=B at*;exact⟨by omega,by omega, .inr (by omega)⟩
 ·rw[ab c];have e1:(r:Int)*(r:Int)=((r*r:Nat):Int):=(cm _ _).symm;rw[e1];refine⟨by omega,by omega,?_⟩;rcases dp r with h|h
  ·left;omega
  ·right;have e2:((r:Int)-1)*((r:Int)-1)=(((r-1)*(r-1):Nat):Int):=by
    rw[show(r:Int)-1=((r-1:Nat):Int) by omega];exact(cm _ _).symm
   have:=fo (show r-1<r by omega);rw[e2];omega
theorem Xj (k:Nat):((2^(k+1):Nat):Int).fdiv (2^min (Int.toNat 1) IntKind.i64.bits)=((2^k:Nat):Int):=by
 have e:(2^min (Int.toNat 1) IntKind.i64.bits:Int)=2:=rfl;rw[e,dq _ (by omega),dw];omega
theorem Qse:(1:Int).fdiv (2^min (Int.toNat 1) IntKind.i64.bits)=0:=rfl
theorem Zal {n q b:Nat} {bit:Int} (D:q+b<=2147483648) (G:0<b) (hb:((b:Nat):Int).fdiv (2^min (Int.toNat 1) IntKind.i64.bits)=bit):
  Mj [I n,I q,I b]=some (0,[I n,I (((if(q+b)*(q+b)<=n then q+b else q):Nat):Int),I bit]):=by
 have N:(q+b)*(q+b)<=2147483648*2147483648:=cd D D;have L:O ((q:Int)+(b:Int))=((q+b:Nat):Int):=by rw[Ad];omega
 have M:O (((q+b:Nat):Int)*((q+b:Nat):Int))=(((q+b)*(q+b):Nat):Int):=by
  rw[show((q+b:Nat):Int)*((q+b:Nat):Int)=(((q+b)*(q+b):Nat):Int)from(cm _ _).symm,Ad]
 rw[Q62,L,M,hb];generalize(q+b)*(q+b)=s at*;simp only[go_sem];rw[aa];by_cases c:s<=n
 ·rw[aa,aa c]
 ·rw[ab,ab c]
theorem W1 {n:Nat}:∀(k q:Nat),q+2^(k+1)<=2147483648->q*q<=n->n<(q+2^(k+1))*(q+2^(k+1))->
  ∃r:Nat,Al Mj [I n,I q,I ((2^k:Nat):Int)]=some (1,[I r])/\r*r<=n/\n<(r+1)*(r+1)/\r<2147483648
 |0,q,O,L,M=>by
  have N:=Zal (n:=n) (q:=q) (b:=2^0) (bit:=0) (by simp at O⊢;omega) (by simp) Qse;rw[AS N];have D:∀r:Nat,Al Mj [I n,I r,I 0]=some (1,[I r]):=by
   intro r;refine AJ ?_ (by simp);rw[Q62];simp only[go_sem];rw[ab]
  simp only[dh,Nat.pow_one,Nat.pow_zero]at*;by_cases h:(q+1)*(q+1)<=n
  ·rw[aa h,D];exact⟨_,rfl,h,M,by omega⟩
  ·rw[ab h,D];exact⟨_,rfl,L,by omega,by omega⟩
 |k+1,q,O,L,M=>by
  have e3:2^(k+1+1)=2^(k+1)+2^(k+1):=by rw[dw 2 (k+1)];omega
  have G:0<2^(k+1):=dv _;have N:=Zal (n:=n) (q:=q) (b:=2^(k+1)) (bit:=((2^k:Nat):Int)) (by omega) G (Xj k);rw[AS N];by_cases h:(q+2^(k+1))*(q+2^(k+1))<=n
  ·rw[aa h];refine W1 k _ (by omega) h ?_;rw[show q+2^(k+1)+2^(k+1)=q+2^(k+1+1) by omega];exact M
  ·rw[ab h];exact W1 k q (by omega) L (by omega)
theorem Zg0 {n:Nat} (G:n<4611686018427387904):∃r:Nat,Jn [I n]=some [I r]/\r*r<=n/\n<(r+1)*(r+1)/\r<2147483648:=by
 obtain⟨r,L,M,N,O⟩:=W1 (n:=n) 30 0 (by decide) (by simp) (by rw[dh];exact G);refine⟨r,?_,M,N,O⟩;have D:Al Mj [I n,AC.int IntKind.i64 0,AC.int IntKind.i64 1073741824]=some (1,[I r]):=L;show Qil (Al Mj) [I n]=_;rw[Zx5,D];simp only[go_sem]
def sqD (a b:Pt):Int:=IF (Ce a b) (Ce a b)
theorem Lt (a b:Pt):0<=sqD a b:=by
 unfold sqD IF;have h:∀u:Int,0<=u*u:=λu=>by rw[<-d7];omega
 have:=h (Ce a b).x;have:=h (Ce a b).y;have:=h (Ce a b).z;omega
theorem B7 {x:Int} (h:x.natAbs<=A):0<=x*x/\x*x<=((A*A:Nat):Int):=by
 have:=cd h h;rw[<-d7];omega
theorem NG (D:bd A a) (hb:bd A b) (G:A<=67108864):sqD a b<=54043195528445952:=by
 have h:∀x y:Int,x.natAbs<=A->y.natAbs<=A->(x-y)*(x-y)<=18014398509481984:=by
  intro x y I L;exact(B7 (x:=x-y) (A:=134217728) (by omega)).2
 have M:=h _ _ D.1 hb.1;have N:=h _ _ D.2.1 hb.2.1;have O:=h _ _ D.2.2 hb.2.2;unfold sqD IF Ce;simp only;omega
theorem Qtv (D:bd 67108864 a) (hb:bd 67108864 b):Hd [I a.x,I a.y,I a.z,I b.x,I b.y,I b.z]=some [I (sqD a b)]:=by
 have h:∀x y:Int,x.natAbs<=67108864->y.natAbs<=67108864->0<=(x-y)*(x-y)/\(x-y)*(x-y)<=18014398509481984:=by
  intro x y G L;exact B7 (x:=x-y) (A:=134217728) (by omega)
 have M:=h _ _ D.1 hb.1;have N:=h _ _ D.2.1 hb.2.1;have O:=h _ _ D.2.2 hb.2.2;obtain⟨a1,a2,a3⟩:=D;obtain⟨b1,b2,b3⟩:=hb;unfold Hd;rw[Yfc,Ad (x:=a.x-b.x),Ad (x:=a.y-b.y),Ad (x:=a.z-b.z)];unfold sqD IF Ce;simp only;generalize(a.x-b.x)*(a.x-b.x)=u at*;generalize(a.y-b.y)*(a.y-b.y)=v at*;generalize(a.z-b.z)*(a.z-b.z)=w at*;rw[Ad (x:=u),Ad (x:=0+u),Ad (x:=v),Ad (x:=0+u+v),Ad (x:=w),Ad,Int.zero_add]
noncomputable def Au (a b:Pt):Int:=upR (sqD a b)
theorem Z42 (G:Z [I a.x,I a.y,I a.z,I b.x,I b.y,I b.z]=some [I i]) (U:i<4611686018427387904)
  (L:∃r:Nat,M [I i]=some [I r]/\r*r<=i/\i<(r+1)*(r+1)/\r<2147483648):Zw M Z [I a.x,I a.y,I a.z,I b.x,I b.y,I b.z]=some [I (upR i)]/\Hi i (upR i):=by
 obtain⟨r,N,O,S,V⟩:=L;have D:=Qhm O S;rw[Qur D];refine⟨?_,D⟩;rw[Zpl];have T:r*r<=2147483648*2147483648:=cd (by omega) (by omega);have e1:(r:Int)*(r:Int)=((r*r:Nat):Int):=(cm _ _).symm;simp only[go_sem,G,N,e1];rw[Ad (x:=((r*r:Nat):Int)),Ad];by_cases c:r*r<i
 ·rw[aa,aa c];rfl
 ·rw[ab,ab c]
theorem ZK (D:bd 67108864 a) (hb:bd 67108864 b):Gg [I a.x,I a.y,I a.z,I b.x,I b.y,I b.z]=some [I (Au a b)]/\Hi (sqD a b) (Au a b):=by
 have M:=Lt a b;have N:=NG D hb (bt _);obtain⟨d,G⟩:=bc M;have L:=Qtv D hb;unfold Au;rw[G]at L;rw[G];exact Z42 L (by omega) (Zg0 (by omega))
theorem XM (_:bd 67108864 a) (_:bd 67108864 b):Hi (sqD a b) (Au a b):=by
 obtain⟨d,G⟩:=bc (Lt a b);unfold Au;rw[G];obtain⟨r,I,L⟩:=Mu d;have D:=Qhm I L;rw[Qur D];exact D
theorem Gf (G:bd 67108864 a) (hb:bd 67108864 b):0<=Au a b/\Au a b<=268435456:=by
 obtain⟨I,L,D⟩:=XM G hb;have M:=NG G hb (bt _);refine⟨I,?_⟩;rcases D with D|D
 ·omega
 ·by_cases c:Au a b<=268435456
  ·exact c
  ·have:=gw (a:=268435456) (b:=Au a b-1) (by omega) (by omega);omega
def Jx (n k:Int):Prop:=0<=k/\n<=k*(k+1)/\(k=0\/(k-1)*k<n)
theorem Ey {x:Int} (h:x.natAbs<=A) (D:A<=9223372036854775807):O x=x:=Ad
theorem Fk {x y:Int} {A B:Nat} (D:x.natAbs<=A) (G:y.natAbs<=B):(x-y).natAbs<=A+B:=by omega
theorem L3 {x y:Int} {A B:Nat} (D:x.natAbs<=A) (G:y.natAbs<=B):(x+y).natAbs<=A+B:=by omega
theorem Xq {c u x:Int} (D:c.natAbs<=A) (G:(c+x).natAbs<=A) (h:(0<=x->0<=u/\u<=x)/\(x<=0->x<=u/\u<=0)):(c+u).natAbs<=A:=by
 rcases Int.le_total 0 x with g|g
 ·have:=h.1 g;omega
 ·have:=h.2 g;omega
theorem Qak (a b:Pt):sqD a b=(a.x-b.x)*(a.x-b.x)+(a.y-b.y)*(a.y-b.y)+(a.z-b.z)*(a.z-b.z):=rfl
theorem EY (u:Int):0<=u*u:=by rw[<-d7];omega
theorem Rd:sqD a b=0↔a=b:=by
 rw[Qak];obtain⟨a1,a2,a3⟩:=a;obtain⟨b1,b2,b3⟩:=b;have M:=EY (a1-b1);have N:=EY (a2-b2);have O:=EY (a3-b3);constructor
 ·intro h;simp only at h;have e1:(a1-b1)*(a1-b1)=0:=by omega
  have e2:(a2-b2)*(a2-b2)=0:=by omega
  have e3:(a3-b3)*(a3-b3)=0:=by omega
  have z:∀u:Int,u*u=0->u=0:=λu D=>by
   rcases Int.mul_eq_zero.1 D with h|h<;>exact h
  have:=z _ e1;have:=z _ e2;have:=z _ e3;rw[Pt.mk.injEq];omega
 ·intro h;injection h with G I L;subst G I L;simp
theorem Qq1 (a b:Pt):(a.x-b.x)*(a.x-b.x)<=sqD a b/\(a.y-b.y)*(a.y-b.y)<=sqD a b/\(a.z-b.z)*(a.z-b.z)<=sqD a b:=by
 rw[Qak];have D:=EY (a.x-b.x);have G:=EY (a.y-b.y);have I:=EY (a.z-b.z);omega
noncomputable def A4 (c a:Pt) (d:Int):Pt:=⟨c.x+A9 (a.x-c.x) d (sqD a c),c.y+A9 (a.y-c.y) d (sqD a c),c.z+A9 (a.z-c.z) d (sqD a c)⟩
abbrev B24:Nat:=16777216
theorem Wp {x r n:Int} (I:x.natAbs<=33554432*4) (L:0<=r/\r<=33554432*4) (M:0<n/\n<=4611686018427387904) (D:x*x<=n) (N:r*r<=n):
  (0<=x->0<=A9 x r n/\A9 x r n<=x)/\(x<=0->x<=A9 x r n/\A9 x r n<=0):=by
 obtain⟨S,O⟩:=VA I L M D;have G := Zw1 (by omega) (by
  have:((r.natAbs*r.natAbs:Nat):Int)=r*r:=d7;omega) O
 unfold A9 at*;constructor
 ·intro h;rw[ab]at G⊢;omega
 ·intro h;by_cases c:x<0
  ·rw[aa c]at G⊢;omega
  ·rw[ab c]at G⊢;omega
theorem Z57 {c a:Pt} (D:bd B24 c) (G:bd B24 a) (L:a≠c) (O:0<=d/\d<=33554432)
  (V:Z [I a.x,I a.y,I a.z,I c.x,I c.y,I c.z]=some [I (sqD a c)]) (N:∀{x:Int},x.natAbs<=33554432*4->x*x<=sqD a c->M [I x,I d,I (sqD a c)]=some [I (A9 x d (sqD a c))]/\(A9 x d (sqD a c)).natAbs<=268435456):
  Qcy M Z [I c.x,I c.y,I c.z,I a.x,I a.y,I a.z,I d]=some (ptR (A4 c a d)++[B true]):=by
 have X:sqD a c≠0:=λh=>L (Rd.1 h);obtain⟨Y,q2,q3⟩:=Qq1 a c;have S:=Fk G.1 D.1;have T:=Fk G.2.1 D.2.1;have U:=Fk G.2.2 D.2.2;obtain⟨n1,b1⟩:=N (x:=a.x-c.x) (bj S (by decide)) Y;obtain⟨n2,b2⟩:=N (x:=a.y-c.y) (bj T (by decide)) q2;obtain⟨n3,b3⟩:=N (x:=a.z-c.z) (bj U (by decide)) q3;have h6: ¬d<0:=Int.not_lt.2 O.1;have h7: ¬d>33554432:=Int.not_lt.2 O.2;rw[Z2s];simp only[go_sem,V];rw[ab X,ab h6,ab h7,Ey S (by decide),Ey T (by decide),Ey U (by decide)];simp only[go_sem,n1,n2,n3];rw[Ey (L3 D.1 b1) (by decide),Ey (L3 D.2.1 b2) (by decide),Ey (L3 D.2.2 b3) (by decide)];rfl
theorem Ua {c a:Pt} (G:bd B24 c) (L:bd B24 a) (D:a≠c) (M:0<=d/\d<=33554432):
  HJ [I c.x,I c.y,I c.z,I a.x,I a.y,I a.z,I d]=some (ptR (A4 c a d)++[B true]):=by
 have S:sqD a c≠0:=λh=>D (Rd.1 h);have T:=Lt a c;have U:=NG (AI L (by decide)) (AI G (by decide)) (show 67108864<=67108864 by omega);refine Z57 G L D M (Qtv (AI L (by decide)) (AI G (by decide))) λN O=> ?_;obtain⟨g1,g2,-⟩:=Q6b N (r:=d) (by omega) (n:=sqD a c) (by omega) O;exact⟨g1,g2⟩
theorem Zqm (D:bd B24 a) (hb:bd B24 b):sqD a b<=3377699720527872:=by
 have h:∀x y:Int,x.natAbs<=B24->y.natAbs<=B24->(x-y)*(x-y)<=1125899906842624:=by
  intro x y G I;unfold B24 at*;exact(B7 (x:=x-y) (A:=33554432) (by omega)).2
 have L:=h _ _ D.1 hb.1;have M:=h _ _ D.2.1 hb.2.1;have N:=h _ _ D.2.2 hb.2.2;rw[Qak];omega
theorem Hv {c a:Pt} (D:bd B24 c) (G:bd B24 a) (M:a≠c) (S:0<=d/\d<Au a c):bd B24 (A4 c a d):=by
 have T:sqD a c≠0:=λh=>M (Rd.1 h);have U:=Lt a c;have V:=NG (AI G (by decide)) (AI D (by decide)) (show 67108864<=67108864 by omega);obtain⟨g1,g2,g3⟩:=XM (AI G (show B24<=67108864 by decide)) (AI D (show B24<=67108864 by decide));have hl:=Gf (AI G (show B24<=67108864 by decide)) (AI D (show B24<=67108864 by decide));have I:d*d<=sqD a c:=by
  have:=gw S.1 (show d<=Au a c-1 by omega);omega
 have N:d<=33554432*4:=by
  by_cases X:d<=33554432*4
  ·exact X
  ·exfalso;have h3:=gw (a:=33554432*4+1) (b:=d) (by omega) (by omega);have h4:=Zqm G D;omega
 obtain⟨Y,q2,q3⟩:=Qq1 a c;have O:0<sqD a c/\sqD a c<=4611686018427387904:=⟨Int.lt_iff_le_and_ne.2 ⟨U,λh=>T h.symm⟩,Int.le_trans V (by decide)⟩;have L:0<=d/\d<=33554432*4:=⟨S.1,N⟩;have k1:=Wp (x:=a.x-c.x) (r:=d) (n:=sqD a c) (bj (Fk G.1 D.1) (by decide)) L O Y I;have k2:=Wp (x:=a.y-c.y) (r:=d) (n:=sqD a c) (bj (Fk G.2.1 D.2.1) (by decide)) L O q2 I;have k3:=Wp (x:=a.z-c.z) (r:=d) (n:=sqD a c) (bj (Fk G.2.2 D.2.2) (by decide)) L O q3 I;have e:∀x y:Int,x+(y-x)=y:=λx y=>by omega
 exact⟨Xq D.1 (by rw[e];exact G.1) k1,Xq D.2.1 (by rw[e];exact G.2.1) k2,Xq D.2.2 (by rw[e];exact G.2.2) k3⟩
def Ea (p c q:Pt):Pt:=⟨p.x-c.x+(q.x-c.x),p.y-c.y+(q.y-c.y),p.z-c.z+(q.z-c.z)⟩
def C4 (p c q:Pt):Int:=IF (Ea p c q) (Ea p c q)
theorem Q4q {p c q:Pt} (D:bd B24 p) (G:bd B24 c) (I:bd B24 q):bd 67108864 (Ea p c q):=by
 unfold bd B24 Ea at*;simp only;omega
theorem Q4z (D:bd B24 a) (hb:bd B24 b):LC [I a.x,I a.y,I a.z,I b.x,I b.y,I b.z]=some (ptR (Ce a b)):=Yd1 (AI D (by decide)) (AI hb (by decide))
theorem Yda (D:bd 67108864 a) (hb:bd 67108864 b):NX [I a.x,I a.y,I a.z,I b.x,I b.y,I b.z]=some (ptR ⟨a.x+b.x,a.y+b.y,a.z+b.z⟩):=by
 unfold NX;unfold bd at*;rw[Zk4,Ad (x:=a.x+b.x),Ad (x:=a.y+b.y),Ad (x:=a.z+b.z)]
theorem Yak {p c q:Pt} (D:W [I p.x,I p.y,I p.z,I c.x,I c.y,I c.z]=some (ptR (Ce p c))) (G:W [I q.x,I q.y,I q.z,I c.x,I c.y,I c.z]=some (ptR (Ce q c)))
  (L:Z [I (Ce p c).x,I (Ce p c).y,I (Ce p c).z,I (Ce q c).x,I (Ce q c).y,I (Ce q c).z]=some (ptR (Ea p c q))) (N:M [I (Ea p c q).x,I (Ea p c q).y,I (Ea p c q).z,I 0,I 0,I 0]=some [I (C4 p c q)]):
  Qcl M Z W [I p.x,I p.y,I p.z,I c.x,I c.y,I c.z,I q.x,I q.y,I q.z]=some [I (C4 p c q)]:=by
 rw[Yi9];simp only[go_sem,D,G,L,N]
theorem Zg1 {p c q:Pt} (G:bd B24 p) (D:bd B24 c) (L:bd B24 q):IH [I p.x,I p.y,I p.z,I c.x,I c.y,I c.z,I q.x,I q.y,I q.z]=some [I (C4 p c q)]:=by
 refine Yak (Q4z G D) (Q4z L D) (Yda (AI (Qxu G D) (by decide)) (AI (Qxu L D) (by decide))) ?_;have h:=Qtv (a:=Ea p c q) (b:=⟨0,0,0⟩) (Q4q G D L) (by unfold bd;simp);have e:sqD (Ea p c q) ⟨0,0,0⟩=C4 p c q:=by unfold sqD Ce C4;simp
 rw[e]at h;exact h
def CV (a c b:Pt) (D d:Int):Prop:=d<=mn (Au a c) (Au c b)-2/\C4 (A4 c a d) c (A4 c b d)<=16*D*D
theorem PS (x y:Int):mn x y<=x/\mn x y<=y:=by unfold mn;split<;>omega
theorem Zn7 (a b:Pt):sqD a b=sqD b a:=by
 unfold sqD;exact Yfw a b
theorem Oe (a b:Pt):Au a b=Au b a:=by unfold Au;rw[Zn7]
open Classical in
theorem Zzr {a c b:Pt} (V:bd B24 a) (S:bd B24 c) (hb:bd B24 b) (G:a≠c) (L:b≠c) (hd:0<=d/\d<=33554432) (N:0<=u/\u<=16000)
  (X:W [I a.x,I a.y,I a.z,I c.x,I c.y,I c.z]=some [I (Au a c)]) (Y:W [I c.x,I c.y,I c.z,I b.x,I b.y,I b.z]=some [I (Au c b)])
  (l3:0<=Au a c/\Au a c<=268435456) (l4:0<=Au c b/\Au c b<=268435456)
  (T:Z [I c.x,I c.y,I c.z,I a.x,I a.y,I a.z,I d]=some (ptR (A4 c a d)++[B true])) (U:Z [I c.x,I c.y,I c.z,I b.x,I b.y,I b.z,I d]=some (ptR (A4 c b d)++[B true]))
  (hB:∀{p q:Pt},bd B24 p->bd B24 q->M [I p.x,I p.y,I p.z,I c.x,I c.y,I c.z,I q.x,I q.y,I q.z]=some [I (C4 p c q)]):
  Qci M Z W [I a.x,I a.y,I a.z,I c.x,I c.y,I c.z,I b.x,I b.y,I b.z,I u,I d]=some [B (decide (CV a c b u d))]:=by
 rw[Z24];obtain⟨m1,m2⟩:=PS (Au a c) (Au c b);have m3:0<=mn (Au a c) (Au c b):=by unfold mn;split<;>omega
 simp only[go_sem,X,Y];rw[Ad];have a0:0<=16*u*u/\16*u*u<=4096000000:=by
  have:=d8 (show 16*u<=256000 by omega) N.2 N.1 (by omega);exact⟨gz (by omega) N.1,by omega⟩
 by_cases h:d>mn (Au a c) (Au c b)-2
 ·rw[aa h,al (λO:CV a c b u d=>by have:=O.1;omega)]
 ·rw[ab h];have k1:bd B24 (A4 c a d):=Hv S V G (by omega);have k2:bd B24 (A4 c b d):=Hv S hb L (by rw[Oe b c];omega);simp only[ax,ay,ptR]at T U;simp only[T,U,go_sem,hB k1 k2];rw[Ad (x:=16*u),Ad (x:=16*u*u)];by_cases D:C4 (A4 c a d) c (A4 c b d)<=16*u*u
  ·rw[ah D,ah (show CV a c b u d from⟨by omega,D⟩)]
  ·rw[al D,al (λO:CV a c b u d=>D O.2)]
open Classical in
theorem Zst {a c b:Pt} (N:bd B24 a) (G:bd B24 c) (hb:bd B24 b) (L:a≠c) (M:b≠c) (O:0<=d/\d<=33554432) (S:0<=u/\u<=16000):
  Jg [I a.x,I a.y,I a.z,I c.x,I c.y,I c.z,I b.x,I b.y,I b.z,I u,I d]=some [B (decide (CV a c b u d))]:=
 have A:=AI N (show B24<=67108864 by decide);have C:=AI G (show B24<=67108864 by decide);have D:=AI hb (show B24<=67108864 by decide)
 Zzr N G hb L M O S (ZK A C).1 (ZK C D).1 (Gf A C) (Gf C D) (Ua G N L O) (Ua G hb M O) λT U=>Zg1 T G U
open Classical in
noncomputable def EL (P:Int->Prop):Nat->Int->Int
 |0,d=>if P (d+1)then d+1 else d
 |k+1,d=>EL P k (if P (d+((2^(k+1):Nat):Int))then d+((2^(k+1):Nat):Int)else d)
open Classical in
theorem Q6k {P:Int->Prop}:∀(k:Nat) (d:Int),d<=EL P k d/\EL P k d<d+((2^(k+1):Nat):Int)/\(EL P k d=d\/P (EL P k d))
 |0,d=>by
  have e:((2^(0+1):Nat):Int)=2:=rfl;rw[e];unfold EL;split
  ·rename_i h;exact⟨by omega,by omega, .inr h⟩
  ·exact⟨by omega,by omega, .inl rfl⟩
 |k+1,d=>by
  unfold EL;have M:0<2^(k+1):=dv _;have e3:2^(k+1+1)=2^(k+1)+2^(k+1):=by rw[dw 2 (k+1)];omega
  rw[e3];have D:(if P (d+((2^(k+1):Nat):Int))then d+((2^(k+1):Nat):Int)else d)=d\/((if P (d+((2^(k+1):Nat):Int))then d+((2^(k+1):Nat):Int)else d)=d+((2^(k+1):Nat):Int)/\P (if P (d+((2^(k+1):Nat):Int))then d+((2^(k+1):Nat):Int)else d)):=by
   split
   ·rename_i h;exact .inr ⟨rfl,h⟩
   ·exact .inl rfl
  generalize(if P (d+((2^(k+1):Nat):Int))then d+((2^(k+1):Nat):Int)else d)=I at*;obtain⟨N,O,G⟩:=Q6k (P:=P) k I;generalize EL P k I=x at*;generalize 2^(k+1)=m at*;rcases D with D|⟨D,L⟩
  ·subst D;exact⟨by omega,by omega,G⟩
  ·refine⟨by omega,by omega, .inr ?_⟩;rcases G with G|G
   ·rw[G];exact L
   ·exact G
open Classical in
theorem Q3r {M:Fn} {a c b:Pt} {tol:Int} (G:∀{d:Int},0<=d/\d<=33554432->M [I a.x,I a.y,I a.z,I c.x,I c.y,I c.z,I b.x,I b.y,I b.z,I tol,I d]=some [B (decide (CV a c b tol d))]):
  ∀(k:Nat) (d:Int),0<=d/\d+((2^(k+1):Nat):Int)<=33554432->
  Al (J9 M) [I tol,I d,I ((2^k:Nat):Int),I a.x,I a.y,I a.z,I c.x,I c.y,I c.z,I b.x,I b.y,I b.z]=some (1,[I (EL (CV a c b tol) k d)])
 |0,d,N=>by
  simp only[dh,Nat.pow_one]at N;have D:∀d:Int,Al (J9 M) [I tol,I d,I 0,I a.x,I a.y,I a.z,I c.x,I c.y,I c.z,I b.x,I b.y,I b.z]=some (1,[I d]):=by
   intro d;refine AJ ?_ (by simp);rw[W0];simp only[go_sem];rw[ab]
  have L:J9 M [I tol,I d,I ((2^0:Nat):Int),I a.x,I a.y,I a.z,I c.x,I c.y,I c.z,I b.x,I b.y,I b.z]=some (0,[I tol,I (if CV a c b tol (d+1)then d+1 else d),I 0,I a.x,I a.y,I a.z,I c.x,I c.y,I c.z,I b.x,I b.y,I b.z]):=by
   rw[W0];have e:((2^0:Nat):Int)=1:=rfl;rw[e,Ad (x:=d+1),Qse];simp only[go_sem,G (d:=d+1) (by omega)];rw[aa];by_cases h:CV a c b tol (d+1)
   ·rw[aa h,aa h]
   ·rw[ab h,ab h]
  rw[AS L,D];rfl
 |k+1,d,N=>by
  have O:0<2^(k+1):=dv _;have e3:2^(k+1+1)=2^(k+1)+2^(k+1):=by rw[dw 2 (k+1)];omega
  have L:J9 M [I tol,I d,I ((2^(k+1):Nat):Int),I a.x,I a.y,I a.z,I c.x,I c.y,I c.z,I b.x,I b.y,I b.z]=
    some (0,[I tol,I (if CV a c b tol (d+((2^(k+1):Nat):Int))then d+((2^(k+1):Nat):Int)else d),I ((2^k:Nat):Int),I a.x,I a.y,I a.z,I c.x,I c.y,I c.z,I b.x,I b.y,I b.z]):=by
   rw[W0,Ad (x:=d+((2^(k+1):Nat):Int)) (by omega),Xj];simp only[go_sem,G (d:=d+((2^(k+1):Nat):Int)) (by omega)];rw[aa];by_cases h:CV a c b tol (d+((2^(k+1):Nat):Int))
   ·rw[aa h,aa h]
   ·rw[ab h,ab h]
  rw[AS L];refine(Q3r G k _ ?_).trans rfl;split<;>omega
open Classical in
noncomputable def Cu (a c b:Pt) (D:Int):Int:=if a=c\/b=c then 0 else if EL (CV a c b D) 24 0<16 then 0 else EL (CV a c b D) 24 0
theorem Vo {a c b:Pt} (h:Cu a c b u≠0):a≠c/\b≠c/\16<=Cu a c b u/\Cu a c b u<33554432/\CV a c b u (Cu a c b u):=by
 unfold Cu at*;split at h
 ·exact absurd rfl h
 ·rename_i G;rw[ab G];split at h
  ·exact absurd rfl h
  ·rename_i I;rw[ab I];obtain⟨M,L,D⟩:=Q6k (P:=CV a c b u) 24 0;have e:((2^(24+1):Nat):Int)=33554432:=rfl;rw[e]at L;refine⟨λh=>G (.inl h),λh=>G (.inr h),by omega,by omega,?_⟩;rcases D with D|D
   ·omega
   ·exact D
theorem B2:a=b↔a.x=b.x/\a.y=b.y/\a.z=b.z:=by
 obtain⟨a1,a2,a3⟩:=a;obtain⟨b1,b2,b3⟩:=b;simp
theorem Ycm {a c b:Pt} (O:bd B24 a) (S:bd B24 c) (hb:bd B24 b) (T:0<=u/\u<=16000):
  Lh [I a.x,I a.y,I a.z,I c.x,I c.y,I c.z,I b.x,I b.y,I b.z,I u]=some [I (Cu a c b u)]:=by
 show Qmo _ (Al (J9 _)) _=_;rw[Ycp];unfold Cu;by_cases L:a=c
 ·rw[aa (.inl L)];have D:=B2.1 L;simp only[go_sem];rw[aa ⟨D.1,D.2.1,D.2.2,trivial⟩]
 ·by_cases D:b=c
  ·rw[aa (.inr D)];have G:=B2.1 D;simp only[go_sem];rw[ab (λh=>L (B2.2 ⟨h.1,h.2.1,h.2.2.1⟩)),aa ⟨G.1,G.2.1,G.2.2,trivial⟩]
  ·have U:=Q3r (M:=Jg) (a:=a) (c:=c) (b:=b) (tol:=u) (λV=>Zst O S hb L D V T) 24 0 (by decide);have N:Al (J9 Jg) [I u,I 0,AC.int IntKind.i64 16777216,I a.x,I a.y,I a.z,I c.x,I c.y,I c.z,I b.x,I b.y,I b.z]=some (1,[I (EL (CV a c b u) 24 0)]):=U;generalize Jg=M at*;simp only[go_sem,N];rw[ab (λh=>L (B2.2 ⟨h.1,h.2.1,h.2.2.1⟩)),ab (λh=>D (B2.2 ⟨h.1,h.2.1,h.2.2.1⟩)),ab (show¬(a=c\/b=c)from λh=>h.elim L D)];by_cases G:EL (CV a c b u) 24 0<16
   ·rw[aa G,aa G]
   ·rw[ab G,ab G]
def I1 (bend:Int):Nat->Int->Int
 |0,n=>n
 |k+1,n=>if n<64/\bend>16*n*n*n*n*4*4 then I1 bend k (n*2)else n
def FL (n:Int):Prop:=n=2\/n=4\/n=8\/n=16\/n=32\/n=64
theorem Zk1 {p c q:Pt} (V:M [I p.x,I p.y,I p.z,I c.x,I c.y,I c.z,I q.x,I q.y,I q.z]=some [I (C4 p c q)]):
  ∀(k:Nat) (n:Int),FL n->64<=n*2^k->Al (Qm M) [I n,I p.x,I p.y,I p.z,I c.x,I c.y,I c.z,I q.x,I q.y,I q.z]=some (1,[I (I1 (C4 p c q) k n)])/\FL (I1 (C4 p c q) k n):=by
 have L:∀n:Int,FL n->Qm M [I n,I p.x,I p.y,I p.z,I c.x,I c.y,I c.z,I q.x,I q.y,I q.z]=if n<64/\C4 p c q>16*n*n*n*n*4*4 then some (0,[I (n*2),I p.x,I p.y,I p.z,I c.x,I c.y,I c.z,I q.x,I q.y,I q.z])else some (1,[I n]):=by
  intro n D;rw[Zsh];simp only[go_sem,V];have T:O (O (O (O (O (O (16*n)*n)*n)*n)*4)*4)=16*n*n*n*n*4*4/\O (n*2)=n*2:=by
   rcases D with rfl|rfl|rfl|rfl|rfl|rfl<;>decide
  rw[T.1,T.2];by_cases N:n<64
  ·rw[aa N];by_cases S:C4 p c q>16*n*n*n*n*4*4
   ·rw[aa S,aa ⟨N,S⟩]
   ·rw[ab S,ab (λh=>S h.2)]
  ·rw[ab N,ab (λh=>N h.1)]
 intro k;induction k with
 |zero=>
  intro n D G;have:n=64:=by rcases D with rfl|rfl|rfl|rfl|rfl|rfl<;>simp at G⊢
  subst this;refine⟨AJ ?_ (by simp),D⟩;rw[L _ D,ab];rfl
 |succ k X=>
  intro n D G;unfold I1;by_cases h:n<64/\C4 p c q>16*n*n*n*n*4*4
  ·rw[aa h];have U:=L n D;rw[aa h]at U;rw[AS U];refine X (n*2) ?_ ?_
   ·rcases D with rfl|rfl|rfl|rfl|rfl|rfl<;>simp[FL]at h⊢
   ·rw[Int.pow_succ]at G;rw[Int.mul_assoc,il 2];exact G
  ·rw[ab h];refine⟨AJ ?_ (by simp),D⟩;rw[L _ D,ab h]
def Ij (p c q:Pt):Int:=I1 (C4 p c q) 5 2
theorem Zhu (b:Int):∀(k:Nat) (n:Int),FL n->FL (I1 b k n)
 |0,_,h=>h
 |k+1,n,h=>by
  unfold I1;split
  ·rename_i c;exact Zhu b k _ (by unfold FL at*;omega)
  ·exact h
theorem Qdm (p c q:Pt):FL (Ij p c q):=Zhu _ _ _ (.inl rfl)
theorem Zl4 {p c q:Pt} (D:bd B24 p) (G:bd B24 c) (L:bd B24 q):JQ [I p.x,I p.y,I p.z,I c.x,I c.y,I c.z,I q.x,I q.y,I q.z]=some [I (Ij p c q)]/\FL (Ij p c q):=by
 obtain⟨N,O⟩:=Zk1 (Zg1 D G L) 5 2 (.inl rfl) (by decide);refine⟨?_,O⟩;show Ya _ (Al (Qm _)) _=_;generalize IH=M at*;rw[Z6y];simp only[go_sem,N];rfl
def Mb (n i p c q:Int):Int:=c+Bb ((n-i)*(n-i)*(p-c)+i*i*(q-c)) (n*n)
def FT (n i:Int) (p c q:Pt):Pt:=⟨Mb n i p.x c.x q.x,Mb n i p.y c.y q.y,Mb n i p.z c.z q.z⟩
theorem SI {a b n:Int} (D:0<n) (h:a<=b):Bb a n<=Bb b n:=by
 unfold Bb;exact Int.ediv_le_ediv (by omega) (by omega)
theorem U2 {k n:Int} (D:0<n):Bb (k*n) n=k:=Ji D (by rw[show k*(2*n)=2*(k*n) by grind];omega) (by rw[show(k+1)*(2*n)=2*(k*n)+2*n by grind];omega)
theorem I7 {n i p c q:Int} (I:0<n) (L:0<=i/\i<=n) (hp:p.natAbs<=A) (hc:c.natAbs<=A) (hq:q.natAbs<=A):(Mb n i p c q).natAbs<=A:=by
 have D:0<n*n:=Int.mul_pos I I;have M:0<=(n-i)*(n-i):=EY _;have N:0<=i*i:=EY _;have O:(n-i)*(n-i)+i*i<=n*n:=by
  have:n*n-((n-i)*(n-i)+i*i)=2*(i*(n-i)):=by grind
  have:0<=i*(n-i):=gz L.1 (by omega);omega
 have key:∀s:Int,(s=1\/s= -1)->s*((n-i)*(n-i)*(p-c)+i*i*(q-c))<=(A-s*c)*(n*n):=by
  intro s G;have S:s*p<=A:=by rcases G with rfl|rfl<;>omega
  have T:s*c<=A:=by rcases G with rfl|rfl<;>omega
  have U:s*q<=A:=by rcases G with rfl|rfl<;>omega
  have g1:(n-i)*(n-i)*(s*p-s*c)<=(n-i)*(n-i)*(A-s*c):=Int.mul_le_mul_of_nonneg_left (by omega) M;have g2:i*i*(s*q-s*c)<=i*i*(A-s*c):=Int.mul_le_mul_of_nonneg_left (by omega) N;have g3:((n-i)*(n-i)+i*i)*(A-s*c)<=n*n*(A-s*c):=fj O (by omega);have e1:s*((n-i)*(n-i)*(p-c)+i*i*(q-c))=(n-i)*(n-i)*(s*p-s*c)+i*i*(s*q-s*c):=by grind
  have e2:((n-i)*(n-i)+i*i)*(A-s*c)=(n-i)*(n-i)*(A-s*c)+i*i*(A-s*c):=jh ..;have e3:(A-s*c)*(n*n)=n*n*(A-s*c):=il ..;omega
 unfold Mb;have V:=SI D (key 1 (.inl rfl)|>λh=>(by rw[iy,iy]at h;exact h));rw[U2 D]at V;have k2:=key (-1) (.inr rfl);have X:(-(A:Int)-c)*(n*n)<=(n-i)*(n-i)*(p-c)+i*i*(q-c):=by
  have e:(-(A:Int)-c)*(n*n)= -((A- -1*c)*(n*n)):=by grind
  omega
 have Y:=SI D X;rw[U2 D]at Y;omega
noncomputable def Fl (a c b:Pt) (D:Int):List Pt:=
 if Cu a c b D=0 then [c]
 else(List.range ((Ij (A4 c a (Cu a c b D)) c (A4 c b (Cu a c b D))).toNat+1)).map fun(i:Nat)=>FT (Ij (A4 c a (Cu a c b D)) c (A4 c b (Cu a c b D))) i (A4 c a (Cu a c b D)) c (A4 c b (Cu a c b D))
theorem Q5d {a c b:Pt} (M:bd B24 a) (D:bd B24 c) (hb:bd B24 b):(∀p∈Fl a c b u,bd B24 p)/\1<=(Fl a c b u).length/\(Fl a c b u).length<=65:=by
 unfold Fl;by_cases h:Cu a c b u=0
 ·rw[aa h];simp;exact D
 ·rw[ab h];obtain⟨N,O,T,U,V,-⟩:=Vo h;obtain⟨m1,m2⟩:=PS (Au a c) (Au c b);generalize Cu a c b u=d at*;have G:bd B24 (A4 c a d):=Hv D M N (by omega);have I:bd B24 (A4 c b d):=Hv D hb O (by rw[Oe b c];omega);have S:=Qdm (A4 c a d) c (A4 c b d);generalize Ij (A4 c a d) c (A4 c b d)=n at*;have X:2<=n/\n<=64:=by rcases S with rfl|rfl|rfl|rfl|rfl|rfl<;>omega
  refine⟨?_,by simp,by simp;omega⟩;intro p L;simp only[ba,List.mem_range]at L;obtain⟨i,Y,rfl⟩:=L;exact⟨I7 (by omega) (by omega) G.1 D.1 I.1,I7 (by omega) (by omega) G.2.1 D.2.1 I.2.1,I7 (by omega) (by omega) G.2.2 D.2.2 I.2.2⟩
theorem Ybk {n i p c q:Int} (D:2<=n/\n<=64) (G:0<=i/\i<=n) (L:p.natAbs<=B24) (M:c.natAbs<=B24) (N:q.natAbs<=B24):
  F3 [I (O (O (O (O (n-i)*O (n-i))*O (p-c))+O (O (i*i)*O (q-c)))),I (O (n*n))]=some [I (Bb ((n-i)*(n-i)*(p-c)+i*i*(q-c)) (n*n))]:=by
 have S:0<n*n/\n*n<=4096:=⟨Int.mul_pos (by omega) (by omega),by have:=d8 D.2 D.2 (by omega) (by omega);omega⟩;have T:0<=(n-i)*(n-i)/\(n-i)*(n-i)<=4096:=⟨EY _,by have:=d8 (show n-i<=64 by omega) (show n-i<=64 by omega) (by omega) (by omega);omega⟩;have U:0<=i*i/\i*i<=4096:=⟨EY _,by have:=d8 (show i<=64 by omega) (show i<=64 by omega) (by omega) (by omega);omega⟩;unfold B24 at*;rw[Ad (x:=n-i),Ad (x:=(n-i)*(n-i)),Ad (x:=p-c),Ad (x:=i*i),Ad (x:=q-c),Ad (x:=n*n)];have m1:=ER (x:=(n-i)*(n-i)) (y:=p-c) (A:=4096) (B:=33554432) (by omega) (by omega);have m2:=ER (x:=i*i) (y:=q-c) (A:=4096) (B:=33554432) (by omega) (by omega);generalize(n-i)*(n-i)*(p-c)=u at*;generalize i*i*(q-c)=v at*;rw[Ad (x:=u),Ad (x:=v),Ad];exact Zdz (by omega) (by omega)
theorem Q94 {MR MP MT MC:Fn} {p c q:Pt} {N:Nat} (T:2<=N/\N<=64) (D:bd B24 p) (G:bd B24 c) (L:bd B24 q)
  (S:∀{i p c q:Int},(0<=i/\i<=N)->p.natAbs<=B24->c.natAbs<=B24->q.natAbs<=B24->MR [I (O (O (O (O ((N:Int)-i)*O ((N:Int)-i))*O (p-c))+O (O (i*i)*O (q-c)))),I (O ((N:Int)*(N:Int)))]=some [I (Bb (((N:Int)-i)*((N:Int)-i)*(p-c)+i*i*(q-c)) ((N:Int)*(N:Int)))]):
  ∀(k i:Nat),i+k=N+1->Al (Ny MR MP MT MC) [.vC kPt (((List.range i).map fun(i:Nat)=>FT N i p c q).map ptR),I N,I i,I c.x,I c.y,I c.z,I p.x,I p.y,I p.z,I q.x,I q.y,I q.z]=
   some (1,[.vC kPt (((List.range (N+1)).map fun(i:Nat)=>FT N i p c q).map ptR)])
 |0,i,U=>by
  obtain rfl:i=N+1:=by omega
  refine AJ ?_ (by simp);rw[Q8j];simp only[go_sem];rw[ab]
 |k+1,i,U=>by
  have b1:=I7 (n:=N) (i:=i) (A:=B24) (by omega) (by omega) D.1 G.1 L.1;have b2:=I7 (n:=N) (i:=i) (A:=B24) (by omega) (by omega) D.2.1 G.2.1 L.2.1;have b3:=I7 (n:=N) (i:=i) (A:=B24) (by omega) (by omega) D.2.2 G.2.2 L.2.2;have V:=S (i:=i) (by omega) D.1 G.1 L.1;have X:=S (i:=i) (by omega) D.2.1 G.2.1 L.2.1;have Y:=S (i:=i) (by omega) D.2.2 G.2.2 L.2.2;have hs:Ny MR MP MT MC [.vC kPt (((List.range i).map fun(i:Nat)=>FT N i p c q).map ptR),I N,I i,I c.x,I c.y,I c.z,I p.x,I p.y,I p.z,I q.x,I q.y,I q.z]=
    some (0,[.vC kPt (((List.range (i+1)).map fun(i:Nat)=>FT N i p c q).map ptR),I N,I (i+1:Nat),I c.x,I c.y,I c.z,I p.x,I p.y,I p.z,I q.x,I q.y,I q.z]):=by
   rw[Q8j];simp only[go_sem,V,X,Y];rw[aa];unfold Mb B24 at b1 b2 b3;rw[Ad (x:=c.x+_),Ad (x:=c.y+_),Ad (x:=c.z+_),Ad (x:=(i:Int)+1)];have M:((List.range i++[i]).map fun(i:Nat)=>FT N i p c q).map ptR=((List.range i).map fun(i:Nat)=>FT N i p c q).map ptR++[ptR (FT N i p c q)]:=by simp
   rw[M,aa (by simp only[ap,ac,List.length_range,bf,bv];omega)];rfl
  rw[AS hs];exact Q94 T D G L S k (i+1) (by omega)
theorem Zk2 {a c b:Pt} (G:bd B24 a) (D:bd B24 c) (hb:bd B24 b) (ht:0<=u/\u<=16000):
  Qu [I a.x,I a.y,I a.z,I c.x,I c.y,I c.z,I b.x,I b.y,I b.z,I u]=some [.vC kPt ((Fl a c b u).map ptR)]:=by
 show Qmn _ _ _ _ (Al (Ny _ _ _ _)) _=_;have e1:=Ycm G D hb ht;have hR:= @Ybk;generalize Lh=M at*;unfold Fl;by_cases h:Cu a c b u=0
 ·rw[aa h];rw[Qy1];simp only[go_sem,e1];rw[aa h];rfl
 ·rw[ab h];obtain⟨O,S,h3,h4,h5,-⟩:=Vo h;obtain⟨m1,m2⟩:=PS (Au a c) (Au c b);have h0: ¬Cu a c b u=0:=h;generalize Cu a c b u=d at*;have T:bd B24 (A4 c a d):=Hv D G O (by omega);have U:bd B24 (A4 c b d):=Hv D hb S (by rw[Oe b c];omega);have V:=Ua D G O (d:=d) (by omega);have X:=Ua D hb S (d:=d) (by omega);obtain⟨p1,Y⟩:=Zl4 T D U;generalize Ij (A4 c a d) c (A4 c b d)=n at*;obtain⟨N,rfl⟩:∃N:Nat,n=N:=⟨n.toNat,by rcases Y with rfl|rfl|rfl|rfl|rfl|rfl<;>rfl⟩;have hN:2<=N/\N<=64:=by unfold FL at Y;omega
  have hl:=Q94 (MR:=F3) (MP:=JQ) (MT:=HJ) (MC:=M) hN T D U (λhi hp D hq=>hR (by omega) hi hp D hq) (N+1) 0 (by omega);generalize F3=MR at*;generalize JQ=MP at*;generalize HJ=MT at*;generalize A4 c a d=p at*;generalize A4 c b d=q at*;rw[Qy1];simp only[ax,ay,ptR]at V X;have L:Al (Ny MR MP MT M) [.vC kPt [],I N,I 0,I c.x,I c.y,I c.z,I p.x,I p.y,I p.z,I q.x,I q.y,I q.z]=some (1,[.vC kPt (((List.range (N+1)).map fun(i:Nat)=>FT N i p c q).map ptR)]):=hl;simp only[go_sem,e1,V,X,p1,L];rw[ab h0,af]
theorem Zm8 (p:Pt) (l:Int) (S:0<=l/\l<=1000000000):∃r,OU [I p.x,I p.y,I p.z,I l]=some [B r]/\(r=true↔bd l.toNat p):=by
 unfold OU;rw[Zuy];simp only[go_sem];rw[Ad];unfold bd;by_cases D:p.x<0-l
 ·rw[aa D];exact⟨_,rfl,by simp;omega⟩
 rw[ab D];by_cases G:p.x>l
 ·rw[aa G];exact⟨_,rfl,by simp;omega⟩
 rw[ab G];by_cases L:p.y<0-l
 ·rw[aa L];exact⟨_,rfl,by simp;omega⟩
 rw[ab L];by_cases M:p.y>l
 ·rw[aa M];exact⟨_,rfl,by simp;omega⟩
 rw[ab M];by_cases N:p.z<0-l
 ·rw[aa N];exact⟨_,rfl,by simp;omega⟩
 rw[ab N];by_cases O:p.z>l
 ·rw[aa O];exact⟨_,rfl,by simp;omega⟩
 rw[ab O];exact⟨_,rfl,by simp;omega⟩
theorem Qj3 {v n:Int} (_:i64 v) (D:0<n/\n<=4611686018427387904):HF [I v,I n]=some [I (v%n)]:=by
 unfold HF;rw[Z1s,AR (by omega),AR (by omega)];have N: -n<v.tmod n/\v.tmod n<n:=by
  have a1:=Int.tmod_lt_of_pos v D.1;have a2:=Int.lt_tmod_of_pos v D.1;omega
 rw[Ad];have G:(v.tmod n+n).tmod n=v%n:=by
  rw[ii (by omega),Int.add_emod_right];have L:=Int.tmod_add_mul_tdiv v n;have M:v%n=(v.tmod n+n*v.tdiv n)%n:=by rw[L]
  rw[M,Int.add_mul_emod_self_left]
 rw[G]
def Src (l:Rw):Prop:=l.length<=9223372036854775807/\∀c∈l,i64 (Ah (nth .vD c 0))
theorem Z0t (h:i<l.length):nth [] l i∈l:=by rw[Fs [] l i h];exact bh h
theorem Z7j (L:∀v n:Int,i64 v->0<n/\n<=4611686018427387904->M [I v,I n]=some [I (v%n)]) {l:Rw} (G:Src l) {k:Nat} {n:Int} (D:0<n/\n<=4611686018427387904):
  ∃(v:Int) (k':Nat),Qro M [I n, .vC Aa l,I k]=some [I v, .vC Aa l,I k']/\0<=v/\v<n/\k<=k'/\(k<l.length->k'=k+1)/\(l.length<=k->k'=k):=by
 have N:=G.1;rw[Z6t];by_cases h:k<l.length
 ·have O:=L _ n (G.2 _ (Z0t h)) D;simp only[go_sem,af,O];rw[ab,aa,Ad];exact⟨_,k+1,rfl,Int.emod_nonneg _ (by omega),jl _ D.1,by omega,λ_=>rfl,by omega⟩
 ·simp only[go_sem];rw[aa];exact⟨0,k,rfl,by omega,D.1,by omega,by omega,λ_=>rfl⟩
theorem Yg2 (G:Src l) (k:Nat) {n:Int} (D:0<n/\n<=4611686018427387904):
  ∃(v:Int) (k':Nat),Db [I n, .vC Aa l,I k]=some [I v, .vC Aa l,I k']/\0<=v/\v<n/\k<=k'/\(k<l.length->k'=k+1)/\(l.length<=k->k'=k):=
 Z7j (λ_ _ L D=>Qj3 L D) G D
theorem Zoz (l:Rw) (k:Nat):Lo [.vC Aa l,I k]=some [B (decide (k<l.length)), .vC Aa l,I k]:=by
 unfold Lo;rw[Zm5];congr 3;simp
theorem Tw (l:Rw):DM [.vC Aa l]=some [.vC Aa l,I 0]:=by
 unfold DM;rw[Zye]
def AY (r:Int) (k:Int):Int:=if k%4=0 then r else if k%4=2 then-r else 0
def A0 (r:Int) (k:Int):Int:=if k%4=1 then r else if k%4=3 then-r else 0
theorem Yja (L:0<=r/\r<=1000000) (D:0<=k/\k<=1000):Pm [I r,I k]=some [I (AY r k),I (A0 r k)]:=by
 unfold Pm;rw[Z5s,Ad,ii D.1];have G:k%4=0\/k%4=1\/k%4=2\/k%4=3:=by omega
 unfold AY A0;rcases G with h|h|h|h<;>rw[h]<;>simp[nth,Ah]
def plU (pl:Int) (p:Pt):Int:=if pl=17 then p.x else if pl=18 then p.z else p.y
def plW (pl:Int) (p:Pt):Int:=if pl=17 then p.y else if pl=18 then p.x else p.z
def plH (pl:Int) (p:Pt):Int:=if pl=17 then p.z else if pl=18 then p.y else p.x
def spP (pl u w h:Int):Pt:=if pl=17 then⟨u,w,h⟩else if pl=18 then⟨w,h,u⟩else⟨h,u,w⟩
def BX (pl:Int):Prop:=pl=17\/pl=18\/pl=19
theorem Qkz (h:BX u):Gl [I a.x,I a.y,I a.z,I u]=some [I (plU u a),I (plW u a),I (plH u a)]:=by
 unfold Gl;rw[Zxq];rcases h with rfl|rfl|rfl<;>rfl
theorem Zij {u w h pl:Int} (D:BX pl):Ix [I u,I w,I h,I pl]=some (ptR (spP pl u w h)):=by
 unfold Ix;rw[Ygl];rcases D with rfl|rfl|rfl<;>rfl
theorem G9 {pl u w h:Int} (D:BX pl):plU pl (spP pl u w h)=u/\plW pl (spP pl u w h)=w/\plH pl (spP pl u w h)=h:=by
 rcases D with rfl|rfl|rfl<;>exact⟨rfl,rfl,rfl⟩
structure ArcMade (size : Int) (it : Itm) : Prop where
 aP:it.aP=3
 aG:BX it.aG
 dir:it.dir=1\/it.dir= -1
 ends:∃r k t g h:Int,8<=r/\r<8+size/\0<=k/\k<=3/\0<=t/\t<=3/\0<=g/\g<=4/\(h=0\/h=7\/h= -12)/\(t=0->g=0)/\it.bG=decide (t=0)/\
  it.ce=spP it.aG (plU it.aG it.fr-AY r k) (plW it.aG it.fr-A0 r k) (plH it.aG it.fr)/\
  it.to=spP it.aG (plU it.aG it.fr-AY r k+AY (r+g) (k+t)) (plW it.aG it.fr-A0 r k+A0 (r+g) (k+t)) (plH it.aG it.fr+h)
theorem K3 (D:0<=r):(-r<=AY r k/\AY r k<=r)/\(-r<=A0 r k/\A0 r k<=r):=by
 unfold AY A0;constructor<;>constructor<;>split<;>(try split)<;>omega
theorem Zj7 (I:1<=r) (k:Int):((AY r k).tdiv r=AY 1 k)/\((A0 r k).tdiv r=A0 1 k):=by
 have D:r.tdiv r=1:=Int.tdiv_self (by omega);have G:(-r).tdiv r= -1:=by rw[Int.neg_tdiv,D]
 unfold AY A0;constructor<;>split<;>(try split)<;>simp[D,G]
theorem Yf5 (r k e f:Int):∃g,(g=e\/g=f)/\AY r k+AY 1 k*e=AY (r+g) k/\A0 r k+A0 1 k*f=A0 (r+g) k:=by
 unfold AY A0;by_cases h:k%4=0\/k%4=2
 ·refine⟨e, .inl rfl,?_,?_⟩
  ·rcases h with h|h<;>simp[h]<;>omega
  ·rcases h with h|h<;>simp[h]
 ·have D:k%4=1\/k%4=3:=by omega
  refine⟨f, .inr rfl,?_,?_⟩
  ·rcases D with h|h<;>simp[h]
  ·rcases D with h|h<;>simp[h]<;>omega
theorem D8 {pl:Int} (h:bd i a):(plU pl a).natAbs<=i/\(plW pl a).natAbs<=i/\(plH pl a).natAbs<=i:=by
 obtain⟨D,G,I⟩:=h;unfold plU plW plH;refine⟨?_,?_,?_⟩<;>split<;>(try split)<;>assumption
def Je (l:Rw) (M:Fn):Prop:=∀(k:Nat) {n:Int},0<n/\n<=4611686018427387904->
  ∃(v:Int) (k':Nat),M [I n, .vC Aa l,I k]=some [I v, .vC Aa l,I k']/\0<=v/\v<n/\k<=k'/\(k<l.length->k'=k+1)/\(l.length<=k->k'=k)
abbrev Hj (it:Itm):Prop:=it.block=0/\it.side=0/\it.radius=0/\it.aS=0/\it.on=false
theorem Ydd (h:0<=v/\v<3):Ah (nth .vD (nth [] [[I 17],[I 18],[I 19]] v.toNat) 0)=17+v:=by
 have D:v=0\/v=1\/v=2:=by omega
 rcases D with rfl|rfl|rfl<;>rfl
theorem Q8v (h:0<=v/\v<4):∃x,Ah (nth .vD (nth [] [[I 0],[I 0],[I 7],[I (-12)]] v.toNat) 0)=x/\(x=0\/x=7\/x= -12):=by
 have D:v=0\/v=1\/v=2\/v=3:=by omega
 rcases D with rfl|rfl|rfl|rfl<;>exact⟨_,rfl,by decide⟩
theorem Zll (T:Je l V)
  (hP:∀{p:Pt} {pl:Int},BX pl->W [I p.x,I p.y,I p.z,I pl]=some [I (plU pl p),I (plW pl p),I (plH pl p)])
  (hS:∀{u w h pl:Int},BX pl->M [I u,I w,I h,I pl]=some (ptR (spP pl u w h)))
  (hT:∀{r k:Int},(0<=r/\r<=1000000)->(0<=k/\k<=1000)->Z [I r,I k]=some [I (AY r k),I (A0 r k)])
  {p:Pt} (hp:bd 100000000 p) {size:Int} (hs:0<size/\size<=100000) (k:Nat):
  ∃(it:Itm) (k':Nat),Qmk M Z W V [I p.x,I p.y,I p.z,I size, .vC Aa l,I k]=some (Af it++[.vC Aa l,I k'])/\k<=k'/\it.fr=p/\ArcMade size it/\
   it.aZ=0/\it.perRev=false/\it.bH=0/\it.n=0/\Hj it:=by
 obtain⟨N,k1,e1,a1,b1,c1,-,-⟩:=T k (n:=3) (by omega);obtain⟨v2,k2,e2,a2,b2,c2,-,-⟩:=T k1 (n:=2) (by omega);obtain⟨G,k3,e3,a3,b3,c3,-,-⟩:=T k2 (n:=size) (by omega);obtain⟨D,k4,e4,a4,b4,c4,-,-⟩:=T k3 (n:=4) (by omega);obtain⟨L,k5,e5,a5,b5,c5,-,-⟩:=T k4 (n:=4) (by omega);rw[Z7k];simp only[go_sem,e1,e2,e3,e4,e5];rw[aa (by simp;omega)];have a0:BX (17+N):=by unfold BX;omega
 have w1:O (8+G)=8+G:=Ad;have w2:O (D+L)=D+L:=Ad;simp only[Ydd ⟨a1,b1⟩,hP a0,go_sem,w1,w2,hT (r:=8+G) (k:=D) (by omega) (by omega),hT (r:=8+G) (k:=D+L) (by omega) (by omega),hS a0];obtain⟨q1,q2,q3⟩:=D8 (pl:=17+N) hp;obtain⟨⟨r1,r2⟩,r3,r4⟩:=K3 (r:=8+G) (k:=D) (by omega);obtain⟨⟨r5,r6⟩,r7,r8⟩:=K3 (r:=8+G) (k:=D+L) (by omega);obtain⟨d1,d2⟩:=Zj7 (r:=8+G) (by omega) (D+L);obtain⟨⟨r9,f3⟩,f4,f5⟩:=K3 (r:=1) (k:=D+L) (by omega);have w3:O (plU (17+N) p-AY (8+G) D)=plU (17+N) p-AY (8+G) D:=Ad;have w4:O (plW (17+N) p-A0 (8+G) D)=plW (17+N) p-A0 (8+G) D:=Ad;have w5:O (1-O (v2*2))=1-v2*2:=by rw[Ad (x:=v2*2),Ad]
 have w6:O (plU (17+N) p-AY (8+G) D+AY (8+G) (D+L))=plU (17+N) p-AY (8+G) D+AY (8+G) (D+L):=Ad;have w7:O (plW (17+N) p-A0 (8+G) D+A0 (8+G) (D+L))=plW (17+N) p-A0 (8+G) D+A0 (8+G) (D+L):=Ad;rw[w3,w4,w5,w6,w7];have d0:1-v2*2=1\/1-v2*2= -1:=by omega
 have fin:∀(g:Int) (u w:Int) (k8:Nat),k5<=k8->0<=g->g<=4->(L=0->g=0)->u=AY (8+G+g) (D+L)->w=A0 (8+G+g) (D+L)->∀S:Int,0<=S/\S<4->
   ∃it:Itm,[I 3,I 0,I p.x,I p.y,I p.z,I (spP (17+N) (plU (17+N) p-AY (8+G) D+u) (plW (17+N) p-A0 (8+G) D+w) (plH (17+N) p+Ah (nth .vD (nth [] [[I 0],[I 0],[I 7],[I (-12)]] S.toNat) 0))).x,
    I (spP (17+N) (plU (17+N) p-AY (8+G) D+u) (plW (17+N) p-A0 (8+G) D+w) (plH (17+N) p+Ah (nth .vD (nth [] [[I 0],[I 0],[I 7],[I (-12)]] S.toNat) 0))).y,
    I (spP (17+N) (plU (17+N) p-AY (8+G) D+u) (plW (17+N) p-A0 (8+G) D+w) (plH (17+N) p+Ah (nth .vD (nth [] [[I 0],[I 0],[I 7],[I (-12)]] S.toNat) 0))).z,
    I (17+N),I (spP (17+N) (plU (17+N) p-AY (8+G) D) (plW (17+N) p-A0 (8+G) D) (plH (17+N) p)).x,I (spP (17+N) (plU (17+N) p-AY (8+G) D) (plW (17+N) p-A0 (8+G) D) (plH (17+N) p)).y,I (spP (17+N) (plU (17+N) p-AY (8+G) D) (plW (17+N) p-A0 (8+G) D) (plH (17+N) p)).z,
    I (1-v2*2),B (decide (L=0)),I 0,B false,I 0,I 0,I 0,I 0,I 0,B false, .vC Aa l,I k8]=Af it++[.vC Aa l,I k8]/\it.fr=p/\ArcMade size it/\it.aZ=0/\it.perRev=false/\it.bH=0/\it.n=0/\Hj it:=by
  intro g u w k8 g0 e0 f0 f1 hu hw S b0;obtain⟨x,hx,d3⟩:=Q8v b0;rw[hx];refine⟨⟨3,0,p,_,17+N,_,1-v2*2,decide (L=0),0,false,0,0,0,0,0,false⟩,rfl,rfl,⟨rfl,a0,d0,8+G,D,L,g,x,?_⟩,rfl,rfl,rfl,rfl,rfl,rfl,rfl,rfl,rfl⟩;subst hu hw;exact⟨by omega,by omega,by omega,by omega,by omega,by omega,e0,f0,d3,f1,rfl,rfl,rfl⟩
 have c0:∀S:Int,0<=S/\S<4->O (plH (17+N) p+Ah (nth .vD (nth [] [[I 0],[I 0],[I 7],[I (-12)]] S.toNat) 0))=plH (17+N) p+Ah (nth .vD (nth [] [[I 0],[I 0],[I 7],[I (-12)]] S.toNat) 0):=by
  intro S b0;obtain⟨x,hx,d3⟩:=Q8v b0;rw[hx];exact Ad
 have f2:(L==0)=decide (L=0):=rfl;by_cases d4:L>0
 ·rw[aa d4];obtain⟨v6,k6,e6,a6,b6,c6,-,-⟩:=T k5 (n:=3) (by omega);simp only[go_sem,e6];by_cases d5:v6=0
  ·rw[aa d5,ab];obtain⟨v7,k7,e7,a7,b7,c7,-,-⟩:=T k6 (n:=5) (by omega);obtain⟨v8,k8,e8,a8,b8,c8,-,-⟩:=T k7 (n:=5) (by omega);obtain⟨S,U,e9,X,Y,c9,-,-⟩:=T k8 (n:=4) (by omega);simp only[go_sem,e7,e8,e9];rw[ab,aa (by simp;omega),c0 S ⟨X,Y⟩,d1,d2];obtain⟨g,hg,hu,hw⟩:=Yf5 (8+G) (D+L) v7 v8;have mu: -4<=AY 1 (D+L)*v7/\AY 1 (D+L)*v7<=4:=by
    have hc:AY 1 (D+L)= -1\/AY 1 (D+L)=0\/AY 1 (D+L)=1:=by omega
    rcases hc with h|h|h<;>rw[h]<;>omega
   have mw: -4<=A0 1 (D+L)*v8/\A0 1 (D+L)*v8<=4:=by
    have hc:A0 1 (D+L)= -1\/A0 1 (D+L)=0\/A0 1 (D+L)=1:=by omega
    rcases hc with h|h|h<;>rw[h]<;>omega
   rw[Ad (x:=AY 1 (D+L)),Ad (x:=A0 1 (D+L)),Ad (x:=AY 1 (D+L)*v7),Ad (x:=A0 1 (D+L)*v8),
    Ad (x:=AY (8+G) (D+L)+_),Ad (x:=A0 (8+G) (D+L)+_),hu,hw]
   obtain⟨⟨s1,s2⟩,s3,s4⟩:=K3 (r:=8+G+g) (k:=D+L) (by omega);rw[Ad (x:=_+AY (8+G+g) (D+L)),Ad (x:=_+A0 (8+G+g) (D+L))];obtain⟨it,h1,h2⟩:=fin g _ _ U (by omega) (by omega) (by omega) (by omega) rfl rfl S ⟨X,Y⟩;refine⟨it,U,?_,by omega,h2⟩;exact ie some h1
  ·rw[ab d5];obtain⟨S,U,e9,X,Y,c9,-,-⟩:=T k6 (n:=4) (by omega);simp only[go_sem,e9];rw[aa (by simp;omega),c0 S ⟨X,Y⟩];obtain⟨it,h1,h2⟩:=fin 0 _ _ U (by omega) (by omega) (by omega) (by omega) (by rw[ip]) (by rw[ip]) S ⟨X,Y⟩;refine⟨it,U,?_,by omega,h2⟩;exact ie some h1
 ·rw[ab d4];obtain⟨S,U,e9,X,Y,c9,-,-⟩:=T k5 (n:=4) (by omega);simp only[go_sem,e9];rw[aa (by simp;omega),c0 S ⟨X,Y⟩];obtain⟨it,h1,h2⟩:=fin 0 _ _ U (by omega) (by omega) (by omega) (by omega) (by rw[ip]) (by rw[ip]) S ⟨X,Y⟩;refine⟨it,U,?_,by omega,h2⟩;exact ie some h1
theorem JR (D:Src l):Je l Db:=λk _ G=>Yg2 D k G
theorem Yc4 (D:Src l) {p:Pt} (G:bd 100000000 p) {size:Int} (L:0<size/\size<=100000) (k:Nat):
  ∃(it:Itm) (k':Nat),QU [I p.x,I p.y,I p.z,I size, .vC Aa l,I k]=some (Af it++[.vC Aa l,I k'])/\k<=k'/\it.fr=p/\ArcMade size it/\
   it.aZ=0/\it.perRev=false/\it.bH=0/\it.n=0/\Hj it:=
 Zll (JR D) Qkz Zij Yja G L k
structure Made (it : Itm) : Prop where
 aP:1<=it.aP/\it.aP<=6
 line:it.aP≠3->(it.to.x-it.fr.x).natAbs<=16/\(it.to.y-it.fr.y).natAbs<=16/\(it.to.z-it.fr.z).natAbs<=16
 arc:it.aP=3->ArcMade 8 it
 aZ:it.aP≠1->1<=it.aZ/\it.aZ<=60000000
 bH:0<=it.bH/\it.bH<=9
 sync:it.aP=5\/it.aP=6->it.bH=0/\it.aZ<=60
 free:it.aP<=4->it.perRev=false
 bG:it.aP≠3->it.bG=false
theorem Zem (h:0<=v/\v<5):∃x,Ah (nth .vD (nth [] [[I 300000],[I 1],[I 60000],[I 2000000],[I 60000000]] v.toNat) 0)=x/\1<=x/\x<=60000000:=by
 have D:v=0\/v=1\/v=2\/v=3\/v=4:=by omega
 rcases D with rfl|rfl|rfl|rfl|rfl<;>exact⟨_,rfl,by decide⟩
theorem Zbf (h:0<=v/\v<5):∃x,Ah (nth .vD (nth [] [[I 0],[I 1],[I 2],[I 4],[I 9]] v.toNat) 0)=x/\0<=x/\x<=9:=by
 have D:v=0\/v=1\/v=2\/v=3\/v=4:=by omega
 rcases D with rfl|rfl|rfl|rfl|rfl<;>exact⟨_,rfl,by decide⟩
theorem Yj4 {it:Itm} (h:ArcMade u it) (f b:Int) (pr:Bool) (n:Int):ArcMade u {it with aZ:=f,bH:=b,perRev:=pr,n:=n}:=⟨h.aP,h.aG,h.dir,h.ends⟩
theorem Z9r (D:Je l Z)
  (hA:∀{p:Pt},bd 100000000 p->∀k:Nat,∃(it:Itm) (k':Nat),M [I p.x,I p.y,I p.z,I 8, .vC Aa l,I k]=some (Af it++[.vC Aa l,I k'])/\k<=k'/\it.fr=p/\ArcMade 8 it/\it.aZ=0/\it.perRev=false/\it.bH=0/\it.n=0/\Hj it)
  {p:Pt} (hp:bd 100000000 p) {aP:Int} (hk:1<=aP/\aP<=6) (k:Nat):
  ∃(it:Itm) (k':Nat),Wh Z M [I p.x,I p.y,I p.z,I aP, .vC Aa l,I k]=some (Af it++[.vC Aa l,I k'])/\k<=k'/\it.fr=p/\it.aP=aP/\Made it/\Hj it:=by
 rw[Z92];obtain⟨d1,d2,d3⟩:=hp;by_cases h3:aP=3
 ·subst h3;obtain⟨it,k1,e1,c1,g1,g2,g3,g4,g5,g6,g7,g8,g9,g10,g11⟩:=hA ⟨d1,d2,d3⟩ k;obtain⟨G,k2,e2,a2,b2,c2,-,-⟩:=D k1 (n:=5) (by omega);obtain⟨L,k3,e3,a3,b3,c3,-,-⟩:=D k2 (n:=5) (by omega);simp only[go_sem,e1,Af,ax,ay,e2,e3];rw[ab,aa (by simp;omega),aa (by simp;omega),ab,ab,ab];obtain⟨f,hf,Y,a0⟩:=Zem ⟨a2,b2⟩;obtain⟨b,hb,b0,c0⟩:=Zbf ⟨a3,b3⟩;rw[hf,hb];have N:=g2.aP;refine⟨{it with aZ:=f,bH:=b,perRev:=it.perRev,n:=it.n},k3,rfl,by omega,g1,N,⟨?_,?_,?_,?_,?_,?_,?_,?_⟩,g7,g8,g9,g10,g11⟩
  ·show 1<=it.aP/\it.aP<=6;omega
  ·exact λh=>absurd N h
  ·exact λ_=>Yj4 g2 f b _ _
  ·exact λ_=>⟨Y,a0⟩
  ·exact⟨b0,c0⟩
  ·intro h;change it.aP=5\/it.aP=6 at h;omega
  ·exact λ_=>g4
  ·exact λh=>absurd N h
 ·simp only[go_sem];rw[ab h3];obtain⟨S,k1,e1,a1,b1,c1,-,-⟩:=D k (n:=25) (by omega);obtain⟨G,k2,e2,a2,b2,c2,-,-⟩:=D k1 (n:=25) (by omega);obtain⟨L,k3,e3,a3,b3,c3,-,-⟩:=D k2 (n:=3) (by omega);obtain⟨v4,k4,e4,a4,b4,c4,-,-⟩:=D k3 (n:=9) (by omega);obtain⟨T,k5,e5,a5,b5,c5,-,-⟩:=D k4 (n:=2) (by omega);simp only[go_sem,e1,e2,e3,e4,e5];have hm:0<=L*v4/\L*v4<=16:=by
   have hc:L=0\/L=1\/L=2:=by omega
   rcases hc with rfl|rfl|rfl<;>omega
  generalize L*v4=m at hm;have w1:O (O (p.x+S)-12)=p.x+S-12:=by rw[Ad (x:=p.x+S),Ad]
  have w2:O (O (p.y+G)-12)=p.y+G-12:=by rw[Ad (x:=p.y+G),Ad]
  have w3:O (O (p.z+O m)-O (8*T))=p.z+m-8*T:=by
   rw[Ad (x:=m),Ad (x:=p.z+m),Ad (x:=8*T),Ad]
  rw[w1,w2,w3]
  have mk:∀(f b n:Int) (pr:Bool),(aP≠1->1<=f/\f<=60000000)->(0<=b/\b<=9)->(aP=5\/aP=6->b=0/\f<=60)->(aP<=4->pr=false)->
    ∃it:Itm,Af it=[I aP,I 0,I p.x,I p.y,I p.z,I (p.x+S-12),I (p.y+G-12),I (p.z+m-8*T),I 0,I 0,I 0,I 0,I 0,B false,I f,B pr,I 0,I 0,I b,I n,I 0,B false]/\it.fr=p/\it.aP=aP/\Made it/\Hj it:=by
   intro f b n pr U h2 V X;refine⟨⟨aP,0,p,⟨p.x+S-12,p.y+G-12,p.z+m-8*T⟩,0,⟨0,0,0⟩,0,false,f,pr,0,0,b,n,0,false⟩,rfl,rfl,rfl,⟨hk,λ_=> ?_,λh=>absurd h h3,U,h2,V,X,λ_=>rfl⟩,rfl,rfl,rfl,rfl,rfl⟩;show(p.x+S-12-p.x).natAbs<=16/\(p.y+G-12-p.y).natAbs<=16/\(p.z+m-8*T-p.z).natAbs<=16;omega
  have en:∀(f b n:Int) (pr:Bool) (k':Nat),k<=k'->(aP≠1->1<=f/\f<=60000000)->(0<=b/\b<=9)->(aP=5\/aP=6->b=0/\f<=60)->(aP<=4->pr=false)->
    ∃(it:Itm) (d0:Nat),some [I aP,I 0,I p.x,I p.y,I p.z,I (p.x+S-12),I (p.y+G-12),I (p.z+m-8*T),I 0,I 0,I 0,I 0,I 0,B false,I f,B pr,I 0,I 0,I b,I n,I 0,B false, .vC Aa l,I k']=some (Af it++[.vC Aa l,I d0])/\k<=d0/\it.fr=p/\it.aP=aP/\Made it/\Hj it:=by
   intro f b n pr k' h0 U h2 V X;obtain⟨it,i1,i2⟩:=mk f b n pr U h2 V X;refine⟨it,k',?_,h0,i2⟩;rw[i1];rfl
  by_cases U:aP=1
  ·rw[aa U];exact en _ _ _ _ _ (by omega) (λh=>absurd U h) (by omega) (by omega) (λ_=>rfl)
  ·rw[ab U];obtain⟨v6,k6,e6,a6,b6,c6,-,-⟩:=D k5 (n:=5) (by omega);obtain⟨v7,k7,e7,a7,b7,c7,-,-⟩:=D k6 (n:=5) (by omega);obtain⟨v8,k8,e8,a8,b8,c8,-,-⟩:=D k7 (n:=60) (by omega);obtain⟨v9,k9,e9,a9,b9,c9,-,-⟩:=D k8 (n:=2) (by omega);simp only[go_sem,e6,e7,e8,e9];rw[aa (by simp;omega),aa (by simp;omega)];obtain⟨f,hf,Y,a0⟩:=Zem ⟨a6,b6⟩;obtain⟨b,hb,b0,c0⟩:=Zbf ⟨a7,b7⟩;rw[hf,hb,Ad (x:=1+v8),Ad (x:=3+v9)];by_cases X:aP=5
   ·rw[aa X,ab];exact en _ _ _ _ _ (by omega) (by omega) (by omega) (by omega) (by omega)
   ·rw[ab X];by_cases h6:aP=6
    ·rw[aa h6,aa h6];exact en _ _ _ _ _ (by omega) (by omega) (by omega) (by omega) (by omega)
    ·rw[ab h6];by_cases V:aP=4
     ·rw[aa V];exact en _ _ _ _ _ (by omega) (by omega) (by omega) (by omega) (λ_=>rfl)
     ·rw[ab V];exact en _ _ _ _ _ (by omega) (by omega) (by omega) (by omega) (λ_=>rfl)
theorem Z25 (G:Src l) {p:Pt} (D:bd 100000000 p) {aP:Int} (L:1<=aP/\aP<=6) (k:Nat):
  ∃(it:Itm) (k':Nat),Nk [I p.x,I p.y,I p.z,I aP, .vC Aa l,I k]=some (Af it++[.vC Aa l,I k'])/\k<=k'/\it.fr=p/\it.aP=aP/\Made it/\Hj it:=
 Z9r (JR G) (λD k=>Yc4 G D (by omega) k) D L k
def LR:Pt->List Itm->Prop
 |_,[]=>True
 |p,it::l=>it.fr=p/\LR it.to l
def HK:Pt->List Itm->Pt
 |p,[]=>p
 |_,it::l=>HK it.to l
theorem Zai {p:Pt} {it:Itm}:∀{l:List Itm} {p:Pt},LR p l->it.fr=HK p l->LR p (l++[it])
 |[],_,_,h=>⟨h,trivial⟩
 |_::_,_,⟨D,G⟩,h=>⟨D,Zai (p:=p) G h⟩
theorem Qdz {it:Itm}:∀{l:List Itm} {p:Pt},HK p (l++[it])=it.to
 |[],_=>rfl
 |_::l,_=>Qdz (l:=l)
structure Motions (B : Nat) (p : Pt) (l : List Itm) : Prop where
 chain:LR p l
 made:∀it∈l,Made it/\Hj it/\it.aP<=3/\bd B it.fr/\bd B it.to
theorem UU {it:Itm} (h:ArcMade u it) (M:u<=1000) (hf:bd i it.fr):bd (i+2*(12+u.toNat)) it.to/\bd (i+8+u.toNat) it.ce:=by
 obtain⟨r,k,t,g,x,N,O,S,T,U,V,X,Y,h9,I,L,D,G⟩:=h.ends;obtain⟨q1,q2,q3⟩:=D8 (pl:=it.aG) hf;obtain⟨⟨r1,r2⟩,r3,r4⟩:=K3 (r:=r) (k:=k) (by omega);obtain⟨⟨r5,r6⟩,r7,r8⟩:=K3 (r:=r+g) (k:=k+t) (by omega);rw[D,G];unfold bd spP;constructor<;>split<;>(try split)<;>refine⟨?_,?_,?_⟩<;>simp only<;>omega
theorem Qyg {it:Itm} (h:Made it) (hf:bd i it.fr):bd (i+40) it.to:=by
 by_cases D:it.aP=3
 ·exact AI (UU (h.arc D) (by omega) hf).1 (by omega)
 ·obtain⟨G,I,L⟩:=h.line D;obtain⟨g1,g2,M⟩:=hf;exact⟨by omega,by omega,by omega⟩
theorem Zvd (h:0<=v/\v<5):∃x,Ah (nth .vD (nth [] [[I 2],[I 2],[I 2],[I 3],[I 1]] v.toNat) 0)=x/\1<=x/\x<=3:=by
 have D:v=0\/v=1\/v=2\/v=3\/v=4:=by omega
 rcases D with rfl|rfl|rfl|rfl|rfl<;>exact⟨_,rfl,by decide⟩
theorem Yd5 {X ML Y MF:Fn} (hN:Je l Y)
  (hM : ∀ {p : Pt}, bd 100000000 p -> ∀ {aP : Int}, (1 <= aP /\ aP <= 6) -> ∀ k : Nat,
   ∃(it:Itm) (k':Nat),X [I p.x,I p.y,I p.z,I aP, .vC Aa l,I k]=some (Af it++[.vC Aa l,I k'])/\k<=k'/\it.fr=p/\it.aP=aP/\Made it/\Hj it)
  (hL:∀k:Nat,ML [.vC Aa l,I k]=some [B (decide (k<l.length)), .vC Aa l,I k]) {D:Int} (hm:D<=1000) {p:Pt}:
  ∀s:List Itm×Nat,(Motions (4+40*1000) p s.1/\bd (4+40*s.1.length) (HK p s.1)/\(s.1=[]\/s.1.length<=D))->
   ∃o,Al (Qpr X ML Y MF) [.vC Ae (s.1.map Af),I D,I (HK p s.1).x,I (HK p s.1).y,I (HK p s.1).z, .vC Aa l,I s.2]=some o/\o.1≠0/\
    ∃aA,o=(1,[.vC Ae (aA.map Af)])/\Motions (4+40*1000) p aA/\(aA=[]\/aA.length<=D):=by
 refine Q1f (S:=List Itm×Nat) (λs=>[.vC Ae (s.1.map Af),I D,I (HK p s.1).x,I (HK p s.1).y,I (HK p s.1).z, .vC Aa l,I s.2]) _ (λs=>l.length-s.2) _ ?_;rintro⟨aA,k⟩ ⟨G,M,O⟩;simp only at G M O;simp only;rw[Z70];simp only[go_sem,hL,ac];by_cases c1:(aA.length:Int)<D
 case neg=>
  rw[ab c1];exact .inr ⟨_,rfl,by simp,aA,rfl,G,O⟩
 rw[aa c1];by_cases T:k<l.length
 case neg=>
  rw[ab (by simpa using T)];exact .inr ⟨_,rfl,by simp,aA,rfl,G,O⟩
 rw[aa (by simpa using T)];obtain⟨v,k1,e1,a1,b1,d1,d2,-⟩:=hN k (n:=5) (by omega);have d3:=d2 T;subst d3;obtain⟨x,hx,a0,a2⟩:=Zvd ⟨a1,b1⟩;have U:bd 100000000 (HK p aA):=AI M (by omega);obtain⟨it,k2,e2,g1,g2,g3,g4,g5⟩:=hM U (aP:=x) (by omega) (k+1);simp only[go_sem,e1,hx,e2,Af,ax,ay];rw[aa (by simp;omega),aa (by simp;omega)];left;have L:=Qyg g4 (by rw[g2];exact M);have V:aA.length<1000:=by omega
 refine⟨(aA++[it],k2),?_,⟨⟨Zai (p:=p) G.chain g2,?_⟩,?_, .inr ?_⟩,?_⟩
 ·simp only[Qdz,bp,be,da,Af]
 ·intro i N;simp only[bq,eu]at N;rcases N with N|rfl
  ·exact G.made i N
  ·exact⟨g4,g5,by omega,by rw[g2];exact AI M (by omega),AI L (by omega)⟩
 ·simp only[Qdz,ap,fa];exact AI L (by omega)
 ·simp only[ap,fa];omega
 ·simp only;omega
theorem Zqo (G:Je l W) (X:V [.vC Aa l]=some [.vC Aa l,I 0]) {D:Int}
  (Y:∀(p:Pt) (k:Nat),bd 4 p->∃aA,N [.vC Ae [],I D,I p.x,I p.y,I p.z, .vC Aa l,I k]=some (1,[.vC Ae (aA.map Af)])/\Motions 40004 p aA/\(aA=[]\/aA.length<=D)):
  ∃(p:Pt) (aA:List Itm),Qkb M Z W V N [.vC Aa l,I D]=some [.vC Ae (aA.map Af)]/\Motions 40004 p aA/\(aA=[]\/aA.length<=D):=by
 obtain⟨L,S,e1,a1,b1,c1,-,-⟩:=G 0 (n:=9) (by omega);obtain⟨T,k2,e2,a2,b2,c2,-,-⟩:=G S (n:=9) (by omega);obtain⟨U,k3,e3,a3,b3,c3,-,-⟩:=G k2 (n:=9) (by omega);obtain⟨aA,h1,h2,h3⟩:=Y ⟨L-4,T-4,U-4⟩ k3 ⟨by simp only;omega,by simp only;omega,by simp only;omega⟩;rw[Zqz];have O:W [I 9, .vC Aa l,I 0]=some [I L, .vC Aa l,I S]:=e1;simp only[go_sem,X,O,e2,e3];rw[Ad (x:=L-4),Ad (x:=T-4),Ad (x:=U-4)];simp only[h1,go_sem];exact⟨_,aA,rfl,h2,h3⟩
theorem Yck (D:Src l) {most:Int} (L:most<=1000):
  ∃(p:Pt) (aA:List Itm),Nz [.vC Aa l,I most]=some [.vC Ae (aA.map Af)]/\Motions 40004 p aA/\(aA=[]\/aA.length<=most):=by
 refine Zqo (JR D) (Tw l) λp k G=> ?_;obtain⟨o,M,-,aA,rfl,N,O⟩:=Yd5 (MF:=DM) (JR D) (λG _ S k=>Z25 D G S k) (Zoz l) L (p:=p) ([],k) ⟨⟨trivial,by simp⟩,G, .inl rfl⟩;exact⟨aA,M,N,O⟩
instance (pl:Int):Decidable (BX pl):=by unfold BX;infer_instance
instance (A:Nat) (p:Pt):Decidable (bd A p):=by unfold bd;infer_instance
def dU (it:Itm) (p:Pt):Int:=plU it.aG p-plU it.aG it.ce
def dW (it:Itm) (p:Pt):Int:=plW it.aG p-plW it.aG it.ce
def sq2 (u w:Int):Int:=u*u+w*w
def crs (u w x y:Int):Int:=u*y-w*x
def dt2 (u w x y:Int):Int:=u*x+w*y
def qA (it:Itm):Int:=sq2 (dU it it.fr) (dW it it.fr)
def qB (it:Itm):Int:=sq2 (dU it it.to) (dW it it.to)
def cAB (it:Itm):Int:=crs (dU it it.fr) (dW it it.fr) (dU it it.to) (dW it it.to)
def dAB (it:Itm):Int:=dt2 (dU it it.fr) (dW it it.fr) (dU it it.to) (dW it it.to)
def Ff (X Y:Int):Prop:=X+Y-16<=0\/(X+Y-16)*(X+Y-16)<=4*X*Y
def Qk2 (it:Itm):Prop:=64<=qA it/\64<=qB it/\Ff (qA it) (qB it)/\(it.bG=true->dU it it.fr=dU it it.to/\dW it it.fr=dW it it.to)/\(it.bG=false->cAB it≠0\/dAB it<0)
def Zyn (it:Itm):Prop:=BX it.aG/\(it.dir=1\/it.dir= -1)/\bd 1048576 it.ce/\Qk2 it
def BI (it:Itm):Prop:=(1<=it.aP/\it.aP<=6)/\bd 1048576 it.fr/\bd 1048576 it.to/\(it.aP=3->Zyn it)
theorem Oi {it:Itm} {b c:Nat} (D:bd c it.ce) (h:bd b a):(dU it a).natAbs<=b+c/\(dW it a).natAbs<=b+c:=by
 obtain⟨G,I,L⟩:=D8 (pl:=it.aG) h;obtain⟨g1,g2,M⟩:=D8 (pl:=it.aG) D;unfold dU dW;omega
theorem Q89 (x:Int) {b:Nat} (h:x.natAbs<=b):0<=x*x/\x*x<=((b*b:Nat):Int):=by
 have D:=ER h h;have G:0<=x*x:=by rw[<-d7];omega
 omega
theorem VB {u w:Int} (D:u.natAbs<=i) (G:w.natAbs<=i):0<=sq2 u w/\sq2 u w<=((2*(i*i):Nat):Int):=by
 have I:=Q89 u D;have L:=Q89 w G;unfold sq2;omega
theorem Ui {u w x y:Int} {b c:Nat} (D:u.natAbs<=b) (G:w.natAbs<=b) (I:x.natAbs<=c) (L:y.natAbs<=c):(dt2 u w x y).natAbs<=2*(b*c)/\(crs u w x y).natAbs<=2*(b*c):=by
 have M:=ER D I;have N:=ER G L;have O:=ER D L;have S:=ER G I;unfold dt2 crs;omega
theorem Zmk (D:64<=X) (G:64<=Y):Ff X Y↔(max X Y-min X Y-16<=0\/(max X Y-min X Y-16)*(max X Y-min X Y-16)<=64*min X Y):=by
 unfold Ff;have key:∀M m:Int,64<=M->64<=m->m<=M->((M+m-16<=0\/(M+m-16)*(M+m-16)<=4*M*m)↔(M-m-16<=0\/(M-m-16)*(M-m-16)<=64*m)):=by
  intro M m L N O;have e:(M-m-16)*(M-m-16)-64*m=(M+m-16)*(M+m-16)-4*M*m:=by grind
  by_cases I:M-m-16<=0
  ·refine fv (.inr ?_) (.inl I);have S:(16-(M-m))*(M-m+16)>=0:=gz (by omega) (by omega);have T:(M+m-16)*(M+m-16)-4*M*m=512-(16-(M-m))*(M-m+16)-32*(M+m):=by grind
   omega
  ·constructor
   ·rintro(h|h)
    ·omega
    ·exact .inr (by omega)
   ·rintro(h|h)
    ·omega
    ·exact .inr (by omega)
 by_cases h:X<=Y
 ·rw[Int.max_eq_right h,Int.min_eq_left h,<-key Y X G D h];have e1:X+Y-16=Y+X-16:=by omega
  have e2:4*X*Y=4*Y*X:=by grind
  rw[e1,e2]
 ·rw[Int.max_eq_left (by omega),Int.min_eq_right (by omega),<-key X Y D G (by omega)]
theorem RR (k:Int):CT [I k]=some [B (decide (1<=k/\k<=6))]:=by
 unfold CT;rw[Yhw];simp only[go_sem];by_cases h:k>=1
 ·rw[aa h];congr 3;simp;omega
 ·rw[ab h];congr 3;simp;omega
theorem Zkw {r:Bool} (h:M [I a.x,I a.y,I a.z,I 1048576]=some [B r]) (D:r=true↔bd 1048576 a):Qaq M [I a.x,I a.y,I a.z]=some [B (decide (bd 1048576 a))]:=by
 rw[Z5x];simp only[go_sem,h];congr 3;rw[Bool.eq_iff_iff,D];simp
theorem Z6f (p:Pt):Qi [I p.x,I p.y,I p.z]=some [B (decide (bd 1048576 p))]:=by
 obtain⟨r,D,G⟩:=Zm8 p 1048576 (by omega);exact Zkw D G
theorem Qog {u w r h x y s g:Int} (D:u.natAbs<=1000000000) (G:w.natAbs<=1000000000) (L:x.natAbs<=1000000000) (M:y.natAbs<=1000000000):Ga [I u,I w,I r,I h,I x,I y,I s,I g]=some [I (dt2 u w x y)]:=by
 unfold Ga;rw[Zsb];have N:=ER D L;have O:=ER G M;unfold dt2;rw[Ad (x:=u*x),Ad (x:=w*y),Ad]
theorem Qfu {u w r h x y s g:Int} (D:u.natAbs<=1000000000) (G:w.natAbs<=1000000000) (L:x.natAbs<=1000000000) (M:y.natAbs<=1000000000):GM [I u,I w,I r,I h,I x,I y,I s,I g]=some [I (crs u w x y)]:=by
 unfold GM;rw[Yh0];have N:=ER D M;have O:=ER G L;unfold crs;rw[Ad (x:=u*y),Ad (x:=w*x),Ad]
theorem Ycx {it:Itm} (D:∀p:Pt,M [I p.x,I p.y,I p.z,I it.aG]=some [I (plU it.aG p),I (plW it.aG p),I (plH it.aG p)]) {b:Nat} (hb:b<=1000000000) (G:bd b it.fr) (L:bd b it.to) (N:bd b it.ce):
  Yt M (Af it)=some [I (dU it it.fr),I (dW it it.fr),I 0,I (plH it.aG it.fr),I (dU it it.to),I (dW it it.to),I 0,I (plH it.aG it.to)]:=by
 rw[Zlv];simp only[D,go_sem];obtain⟨O,S,T⟩:=D8 (pl:=it.aG) G;obtain⟨U,V,X⟩:=D8 (pl:=it.aG) L;obtain⟨Y,q8,q9⟩:=D8 (pl:=it.aG) N;unfold dU dW;rw[Ad,Ad,Ad,Ad]
theorem Q09 {it:Itm} (D:BX it.aG) {b:Nat} (hb:b<=1000000000) (G:bd b it.fr) (L:bd b it.to) (M:bd b it.ce):
  Kq (Af it)=some [I (dU it it.fr),I (dW it it.fr),I 0,I (plH it.aG it.fr),I (dU it it.to),I (dW it it.to),I 0,I (plH it.aG it.to)]:=
 Ycx (λ_=>Qkz D) hb G L M
theorem Zlj {X Y C D L S M T:Int} {bG:Bool} (hX:0<=X/\X<=1000000000000000) (hY:0<=Y/\Y<=1000000000000000):
  ∃ v, (if X < 64 then some [B false] else if Y < 64 then some [B false] else if O (O (X + Y) - 16) > 0 then
   if FF (O (O (X+Y)-16)*O (O (X+Y)-16)) (O (4*X)*Y)>0 then some [B false]else if bG=true then if L=M then some [B (S==T)]else some [B false]else if C≠0 then some [B true]else some [B (decide (D<0))]
   else if bG=true then if L=M then some [B (S==T)]else some [B false]else if C≠0 then some [B true]else some [B (decide (D<0))])=some [B v]/\
   (v=true↔64<=X/\64<=Y/\Ff X Y/\(bG=true->L=M/\S=T)/\(bG=false->C≠0\/D<0)):=by
 rw[Ad (x:=X+Y),Ad (x:=X+Y-16),Ad (x:=4*X)];by_cases U:X<64
 ·rw[aa U];exact⟨_,rfl,dg (by simp) λh=>by omega⟩
 rw[ab U];by_cases V:Y<64
 ·rw[aa V];exact⟨_,rfl,dg (by simp) λh=>by omega⟩
 rw[ab V,aa];have hn:Ff X Y↔ ¬FF ((X+Y-16)*(X+Y-16)) (4*X*Y)>0:=by
  have:= @Za7 ((X+Y-16)*(X+Y-16)) (4*X*Y);unfold Ff;omega
 by_cases N:FF ((X+Y-16)*(X+Y-16)) (4*X*Y)>0
 ·rw[aa N];exact⟨_,rfl,dg (by simp) λh=>hn.1 h.2.2.1 N⟩
 rw[ab N];have I:=hn.2 N;cases bG with
 |true=>
  rw[aa rfl];by_cases G:L=M
  ·rw[aa G];refine⟨_,rfl,?_⟩;simp only[beq_iff_eq];exact⟨λh=>⟨by omega,by omega,I,λ_=>⟨G,h⟩,λh=>by simp at h⟩,λh=>(h.2.2.2.1 trivial).2⟩
  ·rw[ab G];exact⟨_,rfl,dg (by simp) λh=>G (h.2.2.2.1 rfl).1⟩
 |false=>
  rw[ab (by simp)];by_cases G:C≠0
  ·rw[aa G];exact⟨_,rfl,fv rfl ⟨by omega,by omega,I,λh=>by simp at h,λ_=> .inl G⟩⟩
  ·rw[ab G];refine⟨_,rfl,?_⟩;simp only[cg];exact⟨λh=>⟨by omega,by omega,I,λh=>by simp at h,λ_=> .inr h⟩,λh=>(h.2.2.2.2 trivial).resolve_left G⟩
theorem Z90 (hM:∀k:Int,H [I k]=some [B (decide (1<=k/\k<=6))]) (hW:∀p:Pt,S [I p.x,I p.y,I p.z]=some [B (decide (bd 1048576 p))])
  {it:Itm} (hE:BX it.aG->bd 1048576 it.fr->bd 1048576 it.to->bd 1048576 it.ce->V (Af it)=some [I (dU it it.fr),I (dW it it.fr),I 0,I (plH it.aG it.fr),I (dU it it.to),I (dW it it.to),I 0,I (plH it.aG it.to)])
  (hD:∀{u w r h x y s g:Int},u.natAbs<=1000000000->w.natAbs<=1000000000->x.natAbs<=1000000000->y.natAbs<=1000000000->W [I u,I w,I r,I h,I x,I y,I s,I g]=some [I (dt2 u w x y)])
  (hX:∀{u w r h x y s g:Int},u.natAbs<=1000000000->w.natAbs<=1000000000->x.natAbs<=1000000000->y.natAbs<=1000000000->Z [I u,I w,I r,I h,I x,I y,I s,I g]=some [I (crs u w x y)])
  (hC:∀{a b c d:Int},i64 a->i64 b->i64 c->i64 d->M [I a,I b,I c,I d]=some [I (FF (a*b) (c*d))]):
  ∃v,Qia Z M W V S H (Af it)=some [B v]/\(v=true↔BI it):=by
 rw[Zko];simp only[go_sem,hM,hW];by_cases c1:1<=it.aP/\it.aP<=6
 case neg=>rw[aa (by simpa using c1)];exact⟨_,rfl,dg (by simp) λh=>c1 h.1⟩
 rw[ab (by simpa using c1)];by_cases L:bd 1048576 it.fr
 case neg=>rw[aa (by simpa using L)];exact⟨_,rfl,dg (by simp) λh=>L h.2.1⟩
 rw[ab (by simpa using L)];by_cases N:bd 1048576 it.to
 case neg=>rw[aa (by simpa using N)];exact⟨_,rfl,dg (by simp) λh=>N h.2.2.1⟩
 rw[ab (by simpa using N)];by_cases U:it.aP=3
 case neg=>rw[aa U];exact⟨_,rfl,fv rfl ⟨c1,L,N,λh=>absurd h U⟩⟩
 rw[ab (by simpa using U)];by_cases X:BX it.aG
 case neg=>
  unfold BX at X;rw[aa,aa,aa];exact⟨_,rfl,dg (by simp) λh=>X (h.2.2.2 U).1⟩
 by_cases c6:it.dir=1\/it.dir= -1
 case neg=>
  rw[aa (c:=it.dir≠1),aa (c:=it.dir≠-1)];refine⟨false,?_,dg (by simp) λh=>c6 (h.2.2.2 U).2.1⟩;split
  ·split
   ·split<;>rfl
   ·rfl
  ·rfl
 by_cases Y:bd 1048576 it.ce
 case neg=>
  refine⟨false,?_,dg (by simp) λh=>Y (h.2.2.2 U).2.2.1⟩;rcases X with h|h|h<;>rcases c6 with g|g<;>simp only[h,g,Y,ne_eq,Int.reduceEq,Int.reduceNeg,iu,iv,ew,f9]
 have D:=hE X L N Y;obtain⟨b1,b2⟩:=Oi (it:=it) Y L;obtain⟨b3,b4⟩:=Oi (it:=it) Y N;simp only[Af]at D;have x1:=VB b1 b2;have x2:=VB b3 b4;have core:BI it↔64<=qA it/\64<=qB it/\Ff (qA it) (qB it)/\(it.bG=true->dU it it.fr=dU it it.to/\dW it it.fr=dW it it.to)/\(it.bG=false->cAB it≠0\/dAB it<0):=
  ⟨λh=>(h.2.2.2 U).2.2.2,λh=>⟨c1,L,N,λ_=>⟨X,c6,Y,h⟩⟩⟩
 rw[core];have e1:dt2 (dU it it.fr) (dW it it.fr) (dU it it.fr) (dW it it.fr)=qA it:=rfl;have e2:dt2 (dU it it.to) (dW it it.to) (dU it it.to) (dW it it.to)=qB it:=rfl;have e3:dt2 (dU it it.fr) (dW it it.fr) (dU it it.to) (dW it it.to)=dAB it:=rfl;have e4:crs (dU it it.fr) (dW it it.fr) (dU it it.to) (dW it it.to)=cAB it:=rfl;have a0:0<=qA it/\qA it<=1000000000000000:=⟨x1.1,by unfold qA;omega⟩;have a1:0<=qB it/\qB it<=1000000000000000:=⟨x2.1,by unfold qB;omega⟩;have hY:i64 (qB it):=by unfold i64;omega
 have D1:= @hD (dU it it.fr) (dW it it.fr) 0 (plH it.aG it.fr) (dU it it.fr) (dW it it.fr) 0 (plH it.aG it.fr) (by omega) (by omega) (by omega) (by omega);have D2:= @hD (dU it it.to) (dW it it.to) 0 (plH it.aG it.to) (dU it it.to) (dW it it.to) 0 (plH it.aG it.to) (by omega) (by omega) (by omega) (by omega);have D3:= @hD (dU it it.fr) (dW it it.fr) 0 (plH it.aG it.fr) (dU it it.to) (dW it it.to) 0 (plH it.aG it.to) (by omega) (by omega) (by omega) (by omega);have D4:= @hX (dU it it.fr) (dW it it.fr) 0 (plH it.aG it.fr) (dU it it.to) (dW it it.to) 0 (plH it.aG it.to) (by omega) (by omega) (by omega) (by omega);have D5:= @hC (O (O (qA it+qB it)-16)) (O (O (qA it+qB it)-16)) (O (4*qA it)) (qB it) (Tr _) (Tr _) (Tr _) hY;rw[e1]at D1;rw[e2]at D2;rw[e3]at D3;rw[e4]at D4;have T:= @Zlj (qA it) (qB it) (cAB it) (dAB it) (dU it it.fr) (dW it it.fr) (dU it it.to) (dW it it.to) it.bG a0 a1;have n7: ¬ ¬bd 1048576 it.ce:=λh=>h Y;have fin : ∀ {t : Option (List AC)}, t = (if qA it < 64 then some [B false] else if qB it < 64 then some [B false] else if O (O (qA it + qB it) - 16) > 0 then
   if FF (O (O (qA it+qB it)-16)*O (O (qA it+qB it)-16)) (O (4*qA it)*qB it)>0 then some [B false]else if it.bG=true then if dU it it.fr=dU it it.to then some [B (dW it it.fr==dW it it.to)]else some [B false]else if cAB it≠0 then some [B true]else some [B (decide (dAB it<0))]
   else if it.bG=true then if dU it it.fr=dU it it.to then some [B (dW it it.fr==dW it it.to)]else some [B false]else if cAB it≠0 then some [B true]else some [B (decide (dAB it<0))])->
   ∃v,t=some [B v]/\(v=true↔64<=qA it/\64<=qB it/\Ff (qA it) (qB it)/\(it.bG=true->dU it it.fr=dU it it.to/\dW it it.fr=dW it it.to)/\(it.bG=false->cAB it≠0\/dAB it<0)):=by
  intro t ht;rw[ht];exact T
 have a2:BX it.aG:=X;rcases X with h|h|h
 ·rw[ab (c:=it.aG≠17)];by_cases G:it.dir=1
  ·rw[ab (c:=it.dir≠1) (λh=>h G),ab (c:= ¬bd 1048576 it.ce) n7];apply fin;simp only[D,go_sem,D1,D2,D3,D4,D5]
  ·rw[aa (c:=it.dir≠1) G,ab (c:=it.dir≠-1),ab (c:= ¬bd 1048576 it.ce) n7];apply fin;simp only[D,go_sem,D1,D2,D3,D4,D5]
 ·rw[aa (c:=it.aG≠17),ab (c:=it.aG≠18)];by_cases G:it.dir=1
  ·rw[ab (c:=it.dir≠1) (λh=>h G),ab (c:= ¬bd 1048576 it.ce) n7];apply fin;simp only[D,go_sem,D1,D2,D3,D4,D5]
  ·rw[aa (c:=it.dir≠1) G,ab (c:=it.dir≠-1),ab (c:= ¬bd 1048576 it.ce) n7];apply fin;simp only[D,go_sem,D1,D2,D3,D4,D5]
 ·rw[aa (c:=it.aG≠17),aa (c:=it.aG≠18),ab (c:=it.aG≠19)];by_cases G:it.dir=1
  ·rw[ab (c:=it.dir≠1) (λh=>h G),ab (c:= ¬bd 1048576 it.ce) n7];apply fin;simp only[D,go_sem,D1,D2,D3,D4,D5]
  ·rw[aa (c:=it.dir≠1) G,ab (c:=it.dir≠-1),ab (c:= ¬bd 1048576 it.ce) n7];apply fin;simp only[D,go_sem,D1,D2,D3,D4,D5]
theorem Yq (it:Itm):∃v,GE (Af it)=some [B v]/\(v=true↔BI it):=
 Z90 RR Z6f (λD G I L=>Q09 D (by omega) G I L) Qog Qfu Z51
end Go.Bm
