/- laid together -/
import Derived.Test.YtommijghjlikkaaGreatMx3
import Derived.Test.YtommijghjlikkaaGreatBmTy
set_option linter.unusedVariables false
set_option linter.unusedSimpArgs false
set_option maxRecDepth 100000
open Go.IntKind (wrap)
variable {a k b u v r X:Int} {p:Go.Bm.Pth} {t:Go.Bm.Trk} {i A R:Nat} {M Z W T S P O:Go.Bm.Fn} {l:Go.Bm.Rw} {q:Go.Bm.Pt} {N:Go.Bm.Lp} {g:Go.Bm.Sgm}
namespace Go.Bm
theorem Jo {x:Int} (h:i64 x):GS [I x]=some [U (x.natAbs:Int)]:=by
  unfold i64 at h;unfold GS;rw[Zgb];by_cases D:x<0
  · rw[Eo D,Ae (x:=x+1),Ae (x:=0-(x+1)),IB (x:=0-(x+1)) (by omega),IB (x:=0-(x+1)+1) (by omega)]
    rw[show 0-(x+1)+1=(x.natAbs:Int) by omega]
  · rw[Bi D,IB (x:=x) (by omega)]
    rw[show x=(x.natAbs:Int) by omega];simp
def sgn (a b:Int):Int:=if a=0 then 0 else if b=0 then 0 else if(a<0↔b<0)then 1 else-1
theorem Zi (a b:Int):Gy [I a,I b]=some [I (sgn a b)]:=by
  unfold Gy;rw[Qwt];simp only[go_sem];unfold sgn
  repeat' split
  all_goals rfl
def Hq (a b:Nat):Int:=if a<b then-1 else if a=b then 0 else 1
def L4 (a b:Int):Int:=if a<b then-1 else if a=b then 0 else 1
noncomputable def w64:Nat:=Classical.choose (⟨18446744073709551616,rfl⟩:∃n:Nat,n=18446744073709551616)
theorem B8:w64=18446744073709551616:=fj (⟨18446744073709551616,rfl⟩:∃n:Nat,n=18446744073709551616)
theorem Og {x:Int} (h:i64 x):x.natAbs<w64:=by unfold i64 at h;have:=B8;omega
theorem Za3 {x y:Nat} (E:x<w64) (G:y<w64):I2 [U x,U y]=some [U ((x*y/w64:Nat):Int),U ((x*y%w64:Nat):Int)]:=by
  rw[B8]at E G;have I:∀z:Nat,z<18446744073709551616->inU (z:Int)=true:=by
    intro z J;have D:Gq=18446744073709551616:=rfl;simp only[inU,D,ak,cz];omega
  show S1 (x:Int) (y:Int)=_;unfold S1;rw[I x E,I y G,B8];rfl
theorem Q6d {x y:Nat} (D:x<w64) (E:y<w64):Ff [U x,U y]=some [U ((x*y/w64:Nat):Int),U ((x*y%w64:Nat):Int)]:=by
  unfold Ff;rw[Zma,Za3 D E];simp only[go_sem]
theorem Qzf (a b c d:Nat) (hb:b<w64) (D:d<w64):IT [U a,U b,U c,U d]=some [I (Hq (a*w64+b) (c*w64+d))]:=by
  unfold IT;rw[Zm3];simp only[go_sem,and_true];unfold Hq;simp only[B8]at*;by_cases E:a<c
  · rw[aa,aa]
  · rw[ab]
    by_cases G:a=c
    · rw[aa]
      by_cases J:b<d
      · rw[aa,aa]
      · rw[ab]
        by_cases L:b=d
        · rw[aa,ab,aa]
        · rw[ab,ab,ab]
    · rw[ab,ab,ab,ab]
theorem VU (a b:Int):sgn a b*((a.natAbs*b.natAbs:Nat):Int)=a*b:=by
  unfold sgn;by_cases G:a=0
  · subst G;simp
  · by_cases I:b=0
    · subst I;simp
    · rw[ab G,ab I]
      have e:((a.natAbs*b.natAbs:Nat):Int)=(a.natAbs:Int)*(b.natAbs:Int):=by simp
      rw[e];by_cases D:a<0<;>by_cases E:b<0
      · rw[aa (by simp[D,E]),show(a.natAbs:Int)= -a by omega,show(b.natAbs:Int)= -b by omega,Int.neg_mul_neg,jp]
      · rw[ab (by simp[D,E]),show(a.natAbs:Int)= -a by omega,show(b.natAbs:Int)=b by omega,Int.neg_mul,jp,Int.neg_mul,Int.neg_neg]
      · rw[ab (by simp[D,E]),show(a.natAbs:Int)=a by omega,show(b.natAbs:Int)= -b by omega,Int.mul_neg,Int.neg_mul_neg,jp]
      · rw[aa (by simp[D,E]),show(a.natAbs:Int)=a by omega,show(b.natAbs:Int)=b by omega,jp]
theorem UG (a b:Int):(sgn a b=0/\a*b=0)\/(sgn a b=1/\0<a*b)\/(sgn a b= -1/\a*b<0):=by
  have h:=VU a b;by_cases D:a=0
  · subst D;left;simp[sgn]
  · by_cases E:b=0
    · subst E;left;simp[sgn]
    · have I:0<a.natAbs*b.natAbs:=Nat.mul_pos (by omega) (by omega)
      generalize a.natAbs*b.natAbs=p at*;generalize a*b=x at*;unfold sgn at h⊢;rw[ab D,ab E]at h⊢;by_cases G:(a<0↔b<0)
      · rw[aa G]at h⊢;right;left;exact⟨rfl,by omega⟩
      · rw[ab G]at h⊢;right;right;exact⟨rfl,by omega⟩
theorem Z6p {a b c d:Int}:(if sgn a b≠sgn c d then(if sgn a b<sgn c d then-1 else 1)else sgn a b*Hq (a.natAbs*b.natAbs) (c.natAbs*d.natAbs))=L4 (a*b) (c*d):=by
  have G:=VU a b;have I:=VU c d;have D:=UG a b;have E:=UG c d;unfold L4 Hq;generalize a.natAbs*b.natAbs=p at*;generalize c.natAbs*d.natAbs=q at*;generalize a*b=x at*;generalize c*d=y at*;generalize sgn a b=u at*;generalize sgn c d=v at*;rcases D with⟨rfl,g1⟩|⟨rfl,g1⟩|⟨rfl,g1⟩<;>rcases E with⟨rfl,g2⟩|⟨rfl,g2⟩|⟨rfl,g2⟩
  · rw[ab (by simp),ab (show¬x<y by omega),aa (show x=y by omega)];exact kv _
  · rw[aa (by simp),aa,aa]
  · rw[aa (by simp),ab,ab,ab]
  · rw[aa (by simp),ab,ab,ab]
  · rw[ab (by simp)]
    have e1:(p:Int)=x:=by omega
    have e2:(q:Int)=y:=by omega
    by_cases h:x<y
    · rw[aa,aa h];rfl
    · rw[ab,ab h]
      by_cases h':x=y
      · rw[aa,aa h'];rfl
      · rw[ab,ab h'];rfl
  · rw[aa (by simp),ab,ab,ab]
  · rw[aa (by simp),aa,aa]
  · rw[aa (by simp),aa,aa]
  · rw[ab (by simp)]
    have e1:(p:Int)= -x:=by omega
    have e2:(q:Int)= -y:=by omega
    by_cases h:x<y
    · rw[ab,ab,aa h];rfl
    · rw[ab h]
      by_cases h':x=y
      · rw[ab,aa,aa h'];rfl
      · rw[aa,ab h'];rfl
theorem Q44 (p:Nat):p/w64*w64+p%w64=p:=by have:=gw p w64;rw[ff]at this;exact this
theorem SE:0<w64:=by rw[B8];omega
theorem Zrn (p q:Nat): -1<=Hq p q/\Hq p q<=1:=by unfold Hq;(repeat' split)<;>omega
theorem Zmu (a b:Int): -1<=sgn a b/\sgn a b<=1:=by unfold sgn;(repeat' split)<;>omega
theorem Z62 (D: -1<=u/\u<=1) (E: -1<=v/\v<=1): -1<=u*v/\u*v<=1:=by
  have:u= -1\/u=0\/u=1:=by omega
  rcases this with rfl|rfl|rfl<;>omega
theorem PM {x y:Nat} (G:x<w64) (I:y<w64):∃E D:Nat,Ff [U x,U y]=some [U E,U D]/\E*w64+D=x*y/\D<w64:=
  ⟨_,_,Q6d G I,Q44 _,iq _ SE⟩
theorem Zgt {a b c d:Int} (M L G N:Fn) (D O E S:Nat)
   (T:G [I a]=some [U a.natAbs]) (V:G [I b]=some [U b.natAbs]) (X:G [I c]=some [U c.natAbs]) (Y:G [I d]=some [U d.natAbs])
   (ks:∀a b,N [I a,I b]=some [I (sgn a b)])
   (e1:L [U a.natAbs,U b.natAbs]=some [U D,U O]) (f1:L [U c.natAbs,U d.natAbs]=some [U E,U S])
   (J:M [U D,U O,U E,U S]=some [I (Hq (a.natAbs*b.natAbs) (c.natAbs*d.natAbs))]):Qq5 M L G N [I a,I b,I c,I d]=some [I (L4 (a*b) (c*d))]:=by
  have hm:=Z62 (Zmu a b) (Zrn (a.natAbs*b.natAbs) (c.natAbs*d.natAbs));rw[Zgk];simp only[go_sem,ks,T,V,X,Y,e1,f1,J];rw[<-Z6p];rw[Ae];by_cases D:sgn a b≠sgn c d
  · rw[aa D,aa D]
    by_cases E:sgn a b<sgn c d
    · rw[aa E,aa E]
    · rw[ab E,ab E]
  · rw[ab D,ab D]
theorem Z6q {a b c d:Int} (E:i64 a) (hb:i64 b) (G:i64 c) (J:i64 d):PN [I a,I b,I c,I d]=some [I (L4 (a*b) (c*d))]:=by
  obtain⟨L,M,e1,e2,e3⟩:=PM (Og E) (Og hb);obtain⟨N,O,S,T,U⟩:=PM (Og G) (Og J);have D:=Qzf L M N O e3 U;rw[e2,T]at D;unfold PN;exact Zgt _ _ _ _ _ _ _ _ (Jo E) (Jo hb) (Jo G) (Jo J) Zi e1 S D
theorem eB {α β:Type} {a:Option α} {f:α->Option β} {x:α} {r:Option β} (h:a=some x) (g:f x=r):a.bind f=r:=by rw[h];exact g
theorem eT {α:Type} {c:Bool} {a b r:α} (h:c=true) (g:a=r):cond c a b=r:=by rw[h];exact g
theorem eF {α:Type} {c:Bool} {a b r:α} (h:c=false) (g:b=r):cond c a b=r:=by rw[h];exact g
theorem eC {α:Type} {c:Bool} {a b r:α} (h:c=true->a=r) (g:c=false->b=r):cond c a b=r:=by cases c;exact g rfl;exact h rfl
theorem beF (h:a≠b):(a==b)=false:=by simpa using h
theorem beT (h:a=b):(a==b)=true:=by simpa using h
theorem bnF (h:a=b):(a !=b)=false:=by simpa using h
theorem bnT (h:a≠b):(a !=b)=true:=by simpa using h
theorem Gc {α β:Type} {a:Option α} {f:α->Option β} (h:a.isSome=true) (g:∀o,a=some o->(f o).isSome=true):(a.bind f).isSome=true:=by
 cases a with
 |none=>simp at h
 |some o=>exact g o rfl
theorem Ce {α:Type} {c:Bool} {a b:Option α} (h:c=true->a.isSome=true) (g:c=false->b.isSome=true):(cond c a b).isSome=true:=by
 cases c
 ·exact g rfl
 ·exact h rfl
def Out {α:Type} (p:α->Prop) (a:Option α):Prop:=∃o,a=some o/\p o
theorem Out.is {α:Type} {p:α->Prop} {a:Option α} (h:Out p a):a.isSome=true:=by obtain⟨o,h,_⟩:=h;rw[h];rfl
theorem Out.of {α:Type} {a:Option α} (h:a.isSome=true):Out (λ_=>True) a:=by
 cases a with
 |none=>simp at h
 |some o=>exact⟨o,rfl,trivial⟩
theorem Out.bind {α β:Type} {p:α->Prop} {q:β->Prop} {a:Option α} {f:α->Option β} (h:Out p a) (g:∀o,p o->Out q (f o)):Out q (a.bind f):=by
 obtain⟨o,rfl,h⟩:=h;exact g o h
theorem Out.ibind {α β:Type} {q:β->Prop} {a:Option α} {f:α->Option β} (h:a.isSome=true) (g:∀o,a=some o->Out q (f o)):Out q (a.bind f):=by
 cases a with
 |none=>simp at h
 |some o=>exact g o rfl
theorem Out.cond {α:Type} {p:α->Prop} {c:Bool} {a b:Option α} (h:c=true->Out p a) (g:c=false->Out p b):Out p (cond c a b):=by
 cases c
 ·exact g rfl
 ·exact h rfl
theorem Out.some {α:Type} {p:α->Prop} {o:α} (h:p o):Out p (some o):=⟨o,rfl,h⟩
theorem Out.mono {α:Type} {p q:α->Prop} {a:Option α} (h:Out p a) (g:∀o,p o->q o):Out q a:=by obtain⟨o,h,D⟩:=h;exact⟨o,h,g o D⟩
theorem BZ {S:Type} (enc:S->List AC) (Inv:S->Prop) (m:S->Nat) (Q:Nat×List AC->Prop)
  (h:∀s,Inv s->Out (λo=>(o.1=0/\∃E,o.2=enc E/\Inv E/\m E<m s)\/(o.1≠0/\Q o)) (N (enc s))) (s:S) (I:Inv s):Out Q (Am N (enc s)):=by
 obtain ⟨o, G, _, D⟩ := Qzc (step := N) enc Inv m Q (λs I => by
  obtain⟨o,G,D⟩:=h s I;rcases D with⟨D,E,J,L,M⟩|⟨D,J⟩
  ·refine .inl ⟨E,?_,L,M⟩;rw[G,<-J,<-D]
  ·exact .inr ⟨o,G,D,J⟩) s I
 exact⟨o,G,D⟩
theorem A0 {p:Prop} [Decidable p] (h:decide p=true):p:=of_decide_eq_true h
theorem AU {p:Prop} [Decidable p] (h:decide p=false): ¬p:=of_decide_eq_false h
theorem inB {n:Nat} (D:0<=a) (E:a<(n:Int)):(decide (0<=a)&&decide (a<(n:Int)))=false->False:=by
 intro h;rcases Bool.and_eq_false_iff.1 h with c|c
 ·exact AU c D
 ·exact AU c E
theorem BM (h:i<=A):Nat.ble i A=true:=gx h
theorem Q1q (a b c d:Int):(Hg [I a,I b,I c,I d]).isSome=true:=by
 unfold Hg;rw[Qfg]
 repeat' first|exact rfl|refine Ce (λ_=> ?_) (λ_=> ?_)
 rename_i D E;simp at D E;omega
theorem Rp (a b c:Int):FO [I a,I b,I c]=some [B (decide (1<=a/\a<=65536/\2<=b/\b<=65536/\1<=c/\c<=16777216))]:=by
 unfold FO;rw[Yaf];by_cases D:1<=a<;>by_cases E:a<=65536<;>by_cases G:2<=b<;>by_cases J:b<=65536<;>by_cases L:1<=c<;>by_cases M:c<=16777216<;>simp[D,E,G,J,L,M]
theorem Zo0 (h:∀a b c d,(M [I a,I b,I c,I d]).isSome=true) (a b c v x:Int):(Rj M [I a,I b,I c,I v,I x]).isSome=true:=by
 rw[ZM]
 repeat' first|exact rfl|exact h _ _ _ _|refine Ce (λ_=> ?_) (λ_=> ?_)|refine Gc ?_ λ_ _=> ?_
theorem Sq (a b c v x:Int):(G6 [I a,I b,I c,I v,I x]).isSome=true:=Zo0 Q1q a b c v x
theorem Z86 (x:Int): -9223372036854775808<=V x/\V x<=9223372036854775807:=by
 simp[V,IntKind.wrap,IntKind.signed,IntKind.bits];omega
theorem Zt7 {D MV:Fn} (E:∀a b c d,(D [I a,I b,I c,I d]).isSome=true) {v a b c low aY:Int} (G: -9000000000000<=low/\low<=9000000000000) (J: -9000000000000<=aY/\aY<=9000000000000):
  Out (λo=>o.1=1) (Am (NH D MV) [I v,I low,I aY,I a,I b,I c]):=by
 refine BZ (λs:Int×Int=>[I v,I s.1,I s.2,I a,I b,I c]) (λs=>(-9000000000000<=s.1/\s.1<=9000000000000)/\(-9000000000000<=s.2/\s.2<=9000000000000)) (λs=>(s.2-s.1).toNat) _ ?_ (low,aY) ⟨G,J⟩;rintro⟨l,h⟩ ⟨L,M⟩;dsimp only at*;rw[YD];refine .cond (λc=> ?_) (λc=> ?_)
 ·have c:=A0 c;have e:V (h-V ((V (h-l)).tdiv 2))=h-(h-l)/2:=by
   rw[Ae (x:=h-l),ap (by omega),Ae (x:=(h-l)/2),Ae]
  rw[e];refine .ibind (E _ _ _ _) λo _=> ?_;refine .cond (λ_=> ?_) (λ_=> ?_)
  ·exact .some (.inl ⟨rfl,(h-(h-l)/2,h),rfl,by dsimp only;omega,by dsimp only;omega⟩)
  ·refine .some (.inl ⟨rfl,(l,h-(h-l)/2-1),?_,by dsimp only;omega,by dsimp only;omega⟩);rw[Ae (x:=h-(h-l)/2-1)]
 ·exact .some (.inr ⟨by simp,rfl⟩)
theorem Zr8 (G:∀a b c d,(M [I a,I b,I c,I d]).isSome=true) (J:∀a b c,Z [I a,I b,I c]=some [B (decide (1<=a/\a<=65536/\2<=b/\b<=65536/\1<=c/\c<=16777216))]) (a b c v x:Int):
  (T9 M Z (Am (NH M Z)) [I a,I b,I c,I v,I x]).isSome=true:=by
 rw[Zdf,J];simp only[ah];refine Ce (λ_=>rfl) λL=>Ce (λ_=>rfl) λD=>Ce (λ_=>rfl) λE=> ?_;simp only[go_sem,Bool.not_eq_false',cz]at L;have D:=AU D;have E:=AU E;have S: -1099511627776<=x/\x<=1099511627776:=by
  unfold mx at D;unfold mn at E;split at D<;>split at E<;>omega
 obtain⟨o,N,O⟩:=Zt7 (MV:=Z) G (v:=v) (a:=a) (b:=b) (c:=c) (low:=V (V (0-x)-b)) (aY:=mn (V (b-x)) a)
  (by rw[Ae (x:=0-x),Ae];omega) (by rw[Ae (x:=b-x)];unfold mn;split<;>omega)
 rw[N];simp only[ah,O];rfl
theorem Yar (a b c v x:Int):(FX [I a,I b,I c,I v,I x]).isSome=true:=Zr8 Q1q Rp a b c v x
theorem Zw4 (G:∀a b c v x,(M [I a,I b,I c,I v,I x]).isSome=true) {a b c v x:Int}:
  Out (λo=>o.1=1\/o.1=2/\(wA o.2 0).length<=4096) (Am (IV M Z W) [.vC Aa [],I v,I x,I a,I b,I c]):=by
 refine BZ (λs:Rw×Int×Int=>[.vC Aa s.1,I s.2.1,I s.2.2,I a,I b,I c]) (λs=>s.1.length<=4096) (λs=>4096-s.1.length) _ ?_ ([],v,x) (by simp);rintro⟨l,v,x⟩ h;dsimp only at*;rw[Rv];refine .cond (λ_=> ?_) (λ_=> ?_)
 ·refine .cond (λ_=> ?_) (λD=> ?_)
  ·exact .some (.inr ⟨by simp, .inl rfl⟩)
  ·have D: ¬((l.length:Int)=4096):=by simpa using D
   refine .ibind (G _ _ _ _ _) λo _=> ?_;refine .cond (λ_=> ?_) (λE=> ?_)
   ·exact .some (.inl ⟨rfl,(_,_,_),rfl,by simp;omega,by simp;omega⟩)
   ·rw[BM (by simp;omega)]at E;cases E
 ·exact .some (.inr ⟨by simp, .inr ⟨rfl,h⟩⟩)
theorem Zsa (D:∀a b c v x,(M [I a,I b,I c,I v,I x]).isSome=true) (E:∀a b c v x,(Z [I a,I b,I c,I v,I x]).isSome=true) (G:∀a b c,W [I a,I b,I c]=some [B (decide (1<=a/\a<=65536/\2<=b/\b<=65536/\1<=c/\c<=16777216))]) (a b c v x:Int):
  Out (λo=>(wA o 0).length<=4096) (RE M Z W (Am (IV M Z W)) [I a,I b,I c,I v,I x]):=by
 rw[Xe,G];simp only[ah];refine .cond (λ_=> .some (by simp[gA,wA,bA,jA,nth,B_])) λ_=> .ibind (E _ _ _ _ _) λo _=> .cond (λ_=> .some (by simp[gA,wA,bA,jA,nth,B_])) λ_=> ?_;refine .bind (Zw4 D) λo h=> ?_;rcases h with h|⟨h,J⟩
 ·rw[h];exact .some (by simp[gA,wA,bA,jA,nth,B_])
 ·rw[h];exact .some J
theorem Znf (a b c v x:Int):Out (λo=>(wA o 0).length<=4096) (K9 [I a,I b,I c,I v,I x]):=Zsa Yar Sq Rp a b c v x
theorem Q7j {sp out:Rw} (D:out.length=sp.length) (E:sp.length<=4096):
  Out (λo=>o.1=1/\(wA o.2 0).length=sp.length) (Am (Il M) [.vC Aa out,I u, .vC Aa sp,I (sp.length:Int),I 0]):=by
 refine BZ (λs:Rw×Int×Nat=>[.vC Aa s.1,I s.2.1, .vC Aa sp,I (sp.length:Int),I (s.2.2:Int)]) (λs=>s.1.length=sp.length/\s.2.2<=sp.length) (λs=>sp.length-s.2.2) _ ?_ (out,u,0) ⟨D,by simp⟩;rintro⟨l,u,i⟩ ⟨g1,g2⟩;dsimp only at*;rw[Qgx];refine .cond (λc=> ?_) (λ_=> ?_)
 ·have c:=A0 c;refine .cond (λ_=> ?_) (λh=> ?_)
  ·refine .cond (λ_=> ?_) (λh=> ?_)
   ·have e:=Ae (x:=(i:Int)+1);rw[e];generalize V (u+gA (nth [] sp (i:Int).toNat) 0)=z;exact .some (.inl ⟨rfl,(l.set (i:Int).toNat [I z],z,i+1),rfl,by simp;omega,by simp;omega⟩)
   ·simp at h;omega
  ·simp at h;omega
 ·exact .some (.inr ⟨by simp,rfl,g1⟩)
theorem Zjm (D:∀a b c v x,Out (λo=>(wA o 0).length<=4096) (M [I a,I b,I c,I v,I x])) (a b c E G J L N O:Int):
  Out (λo=>(wA o 0).length<=4096) (PX M (Am (Il M)) [I a,I b,I c,I E,I G,I J,I L,I N,I O]):=by
 rw[Um];refine .bind (D _ _ _ _ _) λo h=> ?_;generalize wA o 0=sp at*;refine .cond (λ_=> .some (by simp[gA,wA,bA,jA,nth,B_])) λ_=> ?_;refine .cond (λ_=> ?_) λc=>by simp at c
 refine .cond (λ_=> ?_) λc=>by simp at c;omega
 refine .bind (Q7j (by simp) h) λo g=> ?_;rw[g.1];exact .some (by show(wA o.2 0).length<=4096;omega)
theorem V3 (a b c D E G J L M:Int):Out (λo=>(wA o 0).length<=4096) (Fc [I a,I b,I c,I D,I E,I G,I J,I L,I M]):=Zjm Znf a b c D E G J L M
theorem Yab (O:∀a b c D E G J L N,Out (λo=>(wA o 0).length<=4096) (M [I a,I b,I c,I D,I E,I G,I J,I L,I N])) (a b c D E G J L N:Int):
  (LI M [I a,I b,I c,I D,I E,I G,I J,I L,I N]).isSome=true:=by
 rw[VV];obtain⟨o,S,T⟩:=O a b c D E G J L N;rw[S];simp only[ah];generalize wA o 0=sp at*;refine Ce (λ_=>rfl) λ_=>Ce (λ_=>rfl) λc=>Ce (λ_=>rfl) λd=> ?_;have c: ¬((sp.length:Int)=0):=by simpa using c
 rw[Ae]at d;simp at d;omega
theorem Yl (a b c D E G J L M:Int):(Gj [I a,I b,I c,I D,I E,I G,I J,I L,I M]).isSome=true:=Yab V3 a b c D E G J L M
theorem Z64 (h:2^(R+1)*i+2^R<w64):wrap .u64 (((BitVec.ofInt IntKind.u64.bits ((2^(R+1)*i:Nat):Int)|||BitVec.ofInt IntKind.u64.bits ((2^R:Nat):Int)).toNat:Nat):Int)=((2^(R+1)*i+2^R:Nat):Int):=by
 rw[B8]at h;have e:(BitVec.ofInt IntKind.u64.bits ((2^(R+1)*i:Nat):Int)|||BitVec.ofInt IntKind.u64.bits ((2^R:Nat):Int)).toNat=2^(R+1)*i+2^R:=by
  rw[BitVec.toNat_or];have e1:∀v:Nat,v<18446744073709551616->(BitVec.ofInt IntKind.u64.bits (v:Int)).toNat=v:=by
   intro v G;simp only[IntKind.bits,kw];omega
  have D:0<2^R:=gv _;generalize E:2^(R+1)*i=A at*;rw[e1 _ (by omega),e1 _ (by omega),<-E];exact(Nat.two_pow_add_eq_or_of_lt (Nat.pow_lt_pow_right (by omega) (by omega)) i).symm
 rw[e,IB (by omega)]
theorem Zhg (k:Nat):((2^(k+1):Nat):Int).fdiv (2^min (Int.toNat 1) IntKind.u64.bits)=((2^k:Nat):Int):=by
 have e:(2^min (Int.toNat 1) IntKind.u64.bits:Int)=2:=rfl;rw[e,gk _ (by omega),jr];omega
theorem Zwt:(1:Int).fdiv (2^min (Int.toNat 1) IntKind.u64.bits)=0:=rfl
theorem Qya (O:∀x y:Nat,x<w64->y<w64->∃hi D:Nat,Z [U x,U y]=some [U hi,U D]/\hi*w64+D=x*y/\D<w64)
  (S:∀a b c d:Nat,b<w64->d<w64->M [U a,U b,U c,U d]=some [I (Hq (a*w64+b) (c*w64+d))]) {k m hi D:Nat} {bit:Int} (J:D<w64) (hb:((2^k:Nat):Int).fdiv (2^min (Int.toNat 1) IntKind.u64.bits)=bit) (h:2^(k+1)*m+2^k<w64):
  Na M Z [U ((2^(k+1)*m:Nat):Int),U ((2^k:Nat):Int),U hi,U D]=
   some (0,[U (((if(2^(k+1)*m+2^k)*(2^(k+1)*m+2^k)<=hi*w64+D then 2^(k+1)*m+2^k else 2^(k+1)*m):Nat):Int),U bit,U hi,U D]):=by
 obtain⟨G,T,e1,e2,e3⟩:=O _ _ h h;have E:=S G T hi D e3 J;rw[e2]at E;have L:0<2^k:=gv _;rw[Zcv,Z64 h,hb];simp only[go_sem,e1,E];rw[aa];generalize(2^(k+1)*m+2^k)*(2^(k+1)*m+2^k)=q at*;unfold Hq;by_cases G:q<hi*w64+D
 ·rw[aa G,aa,aa]
 ·rw[ab G];by_cases N:q=hi*w64+D
  ·rw[aa N,aa,aa]
  ·rw[ab N,ab,ab]
theorem Qew {N O:Fn} (J:∀x y:Nat,x<w64->y<w64->∃hi lo:Nat,O [U x,U y]=some [U hi,U lo]/\hi*w64+lo=x*y/\lo<w64)
  (L:∀a b c d:Nat,b<w64->d<w64->N [U a,U b,U c,U d]=some [I (Hq (a*w64+b) (c*w64+d))]) {hi lo:Nat} (D:lo<w64):∀(k m:Nat),2^(k+1)*m+2^(k+1)<=w64->
  (2^(k+1)*m)*(2^(k+1)*m)<=hi*w64+lo->hi*w64+lo<(2^(k+1)*m+2^(k+1))*(2^(k+1)*m+2^(k+1))->
  ∃r:Nat,Am (Na N O) [U ((2^(k+1)*m:Nat):Int),U ((2^k:Nat):Int),U hi,U lo]=some (1,[U r])/\r*r<=hi*w64+lo/\hi*w64+lo<(r+1)*(r+1)/\r<w64
 |0,m,V,M,S=>by
  have T:=Qya J L (k:=0) (m:=m) (hi:=hi) (bit:=0) D Zwt (by simp at V⊢;omega);rw[BE T];have E:∀r:Nat,Am (Na N O) [U (r:Int),U 0,U hi,U lo]=some (1,[U r]):=by
   intro r;refine Bg ?_ (by simp);rw[Zcv];simp only[go_sem];rw[ab]
  simp only[fc,Nat.pow_one,Nat.pow_zero]at*;by_cases h:(2*m+1)*(2*m+1)<=hi*w64+lo
  ·rw[aa h,E];exact⟨_,rfl,h,S,by omega⟩
  ·rw[ab h,E];exact⟨_,rfl,M,by omega,by omega⟩
 |k+1,m,V,M,S=>by
  have e1:2^(k+1+1)*m=2^(k+1)*(2*m):=by rw[jr 2 (k+1),iy]
  have e2:2^(k+1+1)*m+2^(k+1)=2^(k+1)*(2*m+1):=by rw[e1,Nat.mul_add,Nat.mul_one]
  have e3:2^(k+1+1)=2^(k+1)+2^(k+1):=by rw[jr 2 (k+1)];omega
  have X:0<2^(k+1):=gv _;have T:=Qya J L (k:=k+1) (m:=m) (hi:=hi) (bit:=((2^k:Nat):Int)) D (Zhg k) (by omega);rw[BE T];by_cases h:(2^(k+1+1)*m+2^(k+1))*(2^(k+1+1)*m+2^(k+1))<=hi*w64+lo
  ·rw[aa h,e2];rw[e2]at h;refine Qew J L D k (2*m+1) ?_ h ?_
   ·rw[<-e2];omega
   ·rw[<-e2];rw[show 2^(k+1+1)*m+2^(k+1)+2^(k+1)=2^(k+1+1)*m+2^(k+1+1) by omega];exact S
  ·rw[ab h];have Y:hi*w64+lo<(2^(k+1+1)*m+2^(k+1))*(2^(k+1+1)*m+2^(k+1)):=by omega
   have G:2^(k+1+1)*m+2^(k+1)<=w64:=by omega
   rw[e1]at M Y G⊢;exact Qew J L D k (2*m) G M Y
theorem Zyj (L:∀x y:Nat,x<w64->y<w64->∃hi lo:Nat,Z [U x,U y]=some [U hi,U lo]/\hi*w64+lo=x*y/\lo<w64)
  (O:∀a b c d:Nat,b<w64->d<w64->M [U a,U b,U c,U d]=some [I (Hq (a*w64+b) (c*w64+d))]) {hi lo:Nat} (D:hi<w64) (E:lo<w64):
  ∃r:Nat,Qdr M Z (Am (Na M Z)) [U hi,U lo]=some [U r]/\r*r<=hi*w64+lo/\hi*w64+lo<(r+1)*(r+1)/\r<w64:=by
 have hb:hi*w64+lo<w64*w64:=by
  have:hi*w64+w64<=w64*w64:=by rw[<-iw];exact bt _ D
  omega
 obtain⟨r,J,S,T,V⟩:=Qew L O (hi:=hi) (lo:=lo) E 63 0 (by rw[B8];omega) (by simp) (by rw[Nat.mul_zero,fc,show 2^(63+1)=w64 by rw[B8]];exact hb);refine⟨r,?_,S,T,V⟩;rw[Nat.mul_zero]at J;generalize Am (Na M Z)=N at*;have G:N [AC.int IntKind.u64 0,AC.int IntKind.u64 9223372036854775808,AC.int IntKind.u64 hi,AC.int IntKind.u64 lo]=some (1,[U r]):=J;rw[Z8x,G];simp only[go_sem]
theorem Zfz {hi lo:Nat} (D:hi<w64) (E:lo<w64):∃r:Nat,Kk [U hi,U lo]=some [U r]/\r*r<=hi*w64+lo/\hi*w64+lo<(r+1)*(r+1)/\r<w64:=
 Zyj (λ_ _ G I=>PM G I) Qzf D E
theorem Qhn {n:Nat} (h:n<9223372036854775808):FK [U n,B false]=some [I n,B true]:=by
 unfold FK;rw[Qrw];simp only[go_sem];rw[ab (by simp),aa (by simp),aa,Ae]
theorem Zun {x y b:Nat} (G:x<w64) (I:y<w64) (hb:b=0\/b=1):K5 [U x,U y,U b]=some [U (((x:Int)-y-b)%Gq),U (if x<y+b then 1 else 0)]:=by
 rw[B8]at G I;have D:Gq=18446744073709551616:=rfl;have J:∀z:Nat,z<18446744073709551616->inU (z:Int)=true:=by
  intro z L;simp only[inU,D,ak,cz];omega
 have E:(decide ((b:Int)=0)||decide ((b:Int)=1))=true:=by
  rcases hb with rfl|rfl<;>simp
 unfold K5;simp only[IF,Nv,My,In,gA,jA,wA,bA];rw[J x G,J y I,E];by_cases h:x<y+b
 ·rw[aa h,Eo (p:=(x:Int)<y+b) (by omega)];simp
 ·rw[ab h,Bi (p:=(x:Int)<y+b) (by omega)];simp
theorem Q4v {x y:Nat} (E:x<w64) (G:y<=x):K5 [U x,U y,U 0]=some [U ((x-y:Nat):Int),U 0]:=by
 have:=Zun (x:=x) (y:=y) (b:=0) E (by omega) (.inl rfl);have D:Gq=18446744073709551616:=rfl;rw[B8]at E;rw[ab,D,show((x:Int)-y-((0:Nat):Int))%18446744073709551616=((x-y:Nat):Int) by omega]at this;exact this
theorem Zv7 {n r:Nat} (X:n<9223372036854775807) (L:r*r<=n) (N:T [U 0,U n]=some [U r]) (O:W [U r,U r]=some [U 0,U ((r*r:Nat):Int)]) (E:Z [U n,U ((r*r:Nat):Int),U 0]=some [U ((n-r*r:Nat):Int),U 0])
  (G:Z [U 0,U 0,U 0]=some [U 0,U 0]) (J:∀k:Nat,k<9223372036854775808->M [U k,B false]=some [I k,B true]) (D:a=1\/a=2):
  Y6 M Z W T [U 0,U n,I a]=some [I ((if(a=1/\r*r<n)\/(a=2/\r*r+r<n)then r+1 else r:Nat):Int),B true]:=by
 have S:r<=r*r:=by
  rcases ez r with h|h
  ·subst h;simp
  ·exact Nat.le_mul_of_pos_left r h
 have V:wrap .u64 ((r:Int)+1)=((r+1:Nat):Int):=by rw[IB (by omega)];omega
 have s1:=J r (by omega);have s2:=J (r+1) (by omega);rw[Z1b];simp only[go_sem,N,O,E,G,V,s1,s2];rcases D with rfl|rfl
 ·rw[aa rfl,ab];by_cases h:r*r<n
  ·rw[aa,aa]
  ·rw[ab,ab,ab]
 ·rw[ab,aa rfl,ab];by_cases h:r*r+r<n
  ·rw[aa,aa]
  ·rw[ab,ab]
theorem Zlb {n:Nat} (J:n<9223372036854775807) (D:Z [I a]=some [B true]) (E:M [U 0,U n,I a]=some [I k,B true]):Qbd M Z [I n,I a]=some [I k,B true]:=by
 have G:wrap .u64 (n:Int)=(n:Int):=IB (by omega);rw[Z3w];simp only[go_sem,D,G,E];rw[ab,ab (by simp)]
theorem Qk1 (h:a=0\/a=1\/a=2):Gw [I a]=some [B true]:=by
 unfold Gw;rw[Q6r];rcases h with rfl|rfl|rfl<;>rfl
theorem Qy2 {n:Nat} {mode:Int} (O:n<9223372036854775807) (D:mode=1\/mode=2):
  ∃r:Nat,Jw [I n,I mode]=some [I ((if(mode=1/\r*r<n)\/(mode=2/\r*r+r<n)then r+1 else r:Nat):Int),B true]/\r*r<=n/\n<(r+1)*(r+1):=by
 have E:n<w64:=by rw[B8];omega
 obtain⟨r,V,L,S,T⟩:=Zfz (hi:=0) (lo:=n) SE E;rw[jd,fc]at L S;obtain⟨G,J,e1,e2,e3⟩:∃G J:Nat,I2 [U r,U r]=some [U G,U J]/\G*w64+J=r*r/\J<w64:=⟨_,_,Za3 T T,Q44 _,iq _ SE⟩;have M:G=0:=by
  rcases ez G with h|h
  ·exact h
  ·have:=bt w64 h;omega
 subst M;have N:J=r*r:=by omega
 subst N;have z:=Q4v (x:=0) (y:=0) SE (cx _);refine⟨r,?_,L,S⟩;exact Zlb O (Qk1 (.inr D)) (Zv7 O L V e1 (Q4v E L) z (λk X=>Qhn X) D)
def BF (a b:Int):Int:=(2*a+b)/(2*b)
theorem Mv (hb:0<b) (D:k*(2*b)<=2*a+b) (E:2*a+b<(k+1)*(2*b)):BF a b=k:=by
 unfold BF;have g1:k<=(2*a+b)/(2*b):=(Int.le_ediv_iff_mul_le (by omega)).2 D;have g2:(2*a+b)/(2*b)<k+1:=(Int.ediv_lt_iff_lt_mul (by omega)).2 E;omega
theorem Zb5 {p c:Nat} (D:p<w64) (I:0<c):Hl [U 0,U p,U c]=some [U ((p/c:Nat):Int),U ((p%c:Nat):Int)]:=by
 rw[B8]at D;have E:(p:Int).tdiv (c:Int)=((p/c:Nat):Int):=by rw[ap (by omega)];simp
 have G:(p:Int).tmod (c:Int)=((p%c:Nat):Int):=by rw[jh (by omega)];simp
 have J:p/c<=p:=i7 _ _;unfold Hl;generalize Jt=M;generalize VD=L;generalize Qij=N;rw[Q2s];rw[BG (by simp;omega),Bi (by omega),BX (by simp),Bi (by omega),Bi (by omega),E,G];generalize p/c=q at*;rw[IB (by omega)]
theorem Zd0 (more:Int) (some_ neg:Bool):ID [I 2,I more,B some_,B neg]=some [B (if more>0 then true else if more=0 then !neg else false)]:=by
 unfold ID;rw[Q3e];simp only[go_sem];rw[ab,ab]
 repeat' split
 all_goals rfl
theorem Qx5 {n:Nat} (h:n<=9223372036854775808):FK [U n,B true]=some [I (-(n:Int)),B true]:=by
 unfold FK;rw[Qrw];simp only[go_sem];rw[aa,OF,Qc6];have:((0-(n:Int))%18446744073709551616+9223372036854775808)%18446744073709551616-9223372036854775808= -(n:Int):=by omega
 rw[this]
def HM (q r c:Nat) (neg:Bool):Nat:=if r>c-r then q+1 else if r<c-r then q else if neg then q else q+1
theorem Ybm {M1 M2 M3 M4 M5 M6 M7:Fn} {a b s:Int} {A C p q r c:Nat} (L:0<c) (M:c<9223372036854775808) (hr:r<c) (hq:q<9223372036854775807)
  (N:M7 [I 2]=some [B true]) (O:M6 [I a]=some [U A]) (S:M6 [I b]=some [U C]) (T:M6 [I c]=some [U c]) (V:M5 [U A,U C]=some [U 0,U p]) (X:M4 [U 0,U p,U c]=some [U q,U r]) (Y:M3 [I a,I b]=some [I s])
  (k8:∀(more:Int) (some_ neg:Bool),M2 [I 2,I more,B some_,B neg]=some [B (if more>0 then true else if more=0 then !neg else false)])
  (G:∀k:Nat,k<9223372036854775808->M1 [U k,B false]=some [I k,B true]) (D:∀k:Nat,k<9223372036854775808->M1 [U k,B true]=some [I (-(k:Int)),B true]):
  T6 M1 M2 M3 M4 M5 M6 M7 [I a,I b,I c,I 2]=some [I (if s<0 then-(HM q r c true:Int)else(HM q r c false:Int)),B true]:=by
 have w1:wrap .u64 ((c:Int)-(r:Int))=((c-r:Nat):Int):=by rw[IB (by omega)];omega
 have w2:wrap .u64 ((q:Int)+1)=((q+1:Nat):Int):=by rw[IB (by omega)];omega
 have n1:=G q (by omega);have n2:=G (q+1) (by omega);rw[Zcd];simp only[go_sem,N,O,S,T,V,X,Y,k8,w1,w2,n1,n2];rw[ab,ab (by simp),ab];by_cases J:s<0
 ·rw[aa J];rw[aa (show¬(s<0↔(c:Int)<0) by omega)];have E:(s !=0)=true:=by simp;omega
  rw[E];unfold HM;by_cases g1:r>c-r
  ·rw[aa g1];rw[aa (show(r:Int)>((c-r:Nat):Int) by omega),aa (by decide),ab (show¬((q+1:Nat):Int)=0 by omega),D (q+1) (by omega)];simp only[go_sem]
  ·rw[ab g1];rw[ab (show¬(r:Int)>((c-r:Nat):Int) by omega)];by_cases g2:r<c-r
   ·rw[aa g2];rw[aa (show(r:Int)<((c-r:Nat):Int) by omega),ab (by decide),D q (by omega)];simp only[go_sem]
   ·rw[ab g2,aa rfl];rw[ab (show¬(r:Int)<((c-r:Nat):Int) by omega),ab (by decide),D q (by omega)];simp only[go_sem]
 ·rw[ab J];rw[ab (show¬¬(s<0↔(c:Int)<0) by omega)];unfold HM;by_cases g1:r>c-r
  ·rw[aa g1,aa (show(r:Int)>((c-r:Nat):Int) by omega),aa (by decide),ab (show¬((q+1:Nat):Int)=0 by omega)]
  ·rw[ab g1,ab (show¬(r:Int)>((c-r:Nat):Int) by omega)];by_cases g2:r<c-r
   ·rw[aa g2,aa (show(r:Int)<((c-r:Nat):Int) by omega),ab (by decide)]
   ·rw[ab g2,ab (show¬(r:Int)<((c-r:Nat):Int) by omega),aa (by decide),ab (show¬((q+1:Nat):Int)=0 by omega),ab (by decide)]
theorem Z69 (q r c:Nat):HM q r c false=if r<c-r then q else q+1:=by
 unfold HM;by_cases E:r>c-r
 ·rw[aa E,ab]
 ·rw[ab E];by_cases D:r<c-r
  ·rw[aa D,aa D]
  ·rw[ab D,ab D,ab (by simp)]
theorem Ycd (q r c:Nat):HM q r c true=if r>c-r then q+1 else q:=by
 unfold HM;by_cases D:r>c-r
 ·rw[aa D,aa D]
 ·rw[ab D,ab D];by_cases E:r<c-r
  ·rw[aa E]
  ·rw[ab E,aa rfl]
theorem Q9u {p q r c:Nat} (I:0<c) (h:p=c*q+r) (J:r<c):BF p c=HM q r c false:=by
 have e:(p:Int)=(c:Int)*q+r:=by rw[h];simp
 have e3:(q:Int)*(2*c)=2*((c:Int)*q):=by grind
 have D:((q+1:Nat):Int)*(2*c)=2*((c:Int)*q)+2*c:=by grind
 have E:((q:Int)+1)*(2*c)=2*((c:Int)*q)+2*c:=by grind
 have G:(((q+1:Nat):Int)+1)*(2*c)=2*((c:Int)*q)+4*c:=by grind
 rw[Z69];by_cases g:r<c-r
 ·rw[aa g];exact Mv (by omega) (by rw[e3];omega) (by rw[E];omega)
 ·rw[ab g];exact Mv (by omega) (by rw[D];omega) (by rw[G];omega)
theorem Zuq {p q r c:Nat} (I:0<c) (h:p=c*q+r) (J:r<c):BF (-(p:Int)) c= -(HM q r c true:Int):=by
 have e:(p:Int)=(c:Int)*q+r:=by rw[h];simp
 have e3: -(q:Int)*(2*c)= -(2*((c:Int)*q)):=by grind
 have D: -((q+1:Nat):Int)*(2*c)= -(2*((c:Int)*q))-2*c:=by grind
 have E:(-(q:Int)+1)*(2*c)= -(2*((c:Int)*q))+2*c:=by grind
 have G:(-((q+1:Nat):Int)+1)*(2*c)= -(2*((c:Int)*q)):=by grind
 rw[Ycd];by_cases g:r>c-r
 ·rw[aa g];exact Mv (by omega) (by rw[D];omega) (by rw[G];omega)
 ·rw[ab g];exact Mv (by omega) (by rw[e3];omega) (by rw[E];omega)
theorem Uv {a b c:Int} (T:i64 a) (hb:i64 b) (hc:0<c/\c<9223372036854775808) (hp:a.natAbs*b.natAbs<9223372036854775807):BO [I a,I b,I c,I 2]=some [I (BF (a*b) c),B true]:=by
 obtain⟨U,E,e1,e2,e3⟩:=PM (Og T) (Og hb);have M:=VU a b;have X:=UG a b;have Y:a*b=0->a.natAbs*b.natAbs=0:=λh=>by rw[<-Int.natAbs_mul,h];rfl
 generalize a.natAbs*b.natAbs=p at*;have N:U=0:=by
  rcases ez U with h|h
  ·exact h
  ·have:=bt w64 h;have:=B8;omega
 subst N;have O:E=p:=by omega
 subst O;obtain⟨n,rfl⟩:=cg (show 0<=c by omega);have G:0<n:=by omega
 have S:=gw E n;have L:=iq E G;have h3:E/n<=E:=i7 _ _;have hd:=Zb5 e3 G;have J:=Jo (x:=(n:Int)) (by unfold i64;omega);rw[jx]at J;generalize E/n=q at*;generalize E%n=r at*;have D:=Ybm (M1:=FK) (M2:=ID) (M3:=Gy) (M4:=Hl) (M5:=Ff) (M6:=GS) (M7:=Gw) G (by omega) L (by omega)
  (Qk1 (.inr (.inr rfl))) (Jo T) (Jo hb) J e1 hd (Zi a b) Zd0 (λk V=>Qhn V) (λk V=>Qx5 (by omega))
 have hv:(if sgn a b<0 then-(HM q r n true:Int)else(HM q r n false:Int))=BF (a*b) n:=by
  rcases X with⟨g1,g2⟩|⟨g1,g2⟩|⟨g1,g2⟩
  ·rw[ab,g2];rw[g1]at M;have:E=0:=Y g2;rw[<-Q9u G S.symm L,this];rfl
  ·rw[ab,<-Q9u G S.symm L,<-M,g1,jp]
  ·rw[aa,<-Zuq G S.symm L,<-M,g1,Int.neg_mul,jp]
 rw[hv]at D;exact D
def val:List Nat->Nat
 |[]=>0
 |d::l=>d+65536*val l
def Dig (l:List Nat):Prop:=∀d∈l,d<65536
theorem Dig.sub {l m:List Nat} (h:Dig l) (D:∀d∈m,d∈l):Dig m:=λd E=>h d (D d E)
theorem Dig.set {l:List Nat} (h:Dig l) (j d:Nat) (D:d<65536):Dig (l.set j d):=by
 intro x E;rcases d6 E with h'|rfl
 ·exact h x h'
 ·exact D
def bd (A:Nat) (p:Pt):Prop:=p.x.natAbs<=A/\p.y.natAbs<=A/\p.z.natAbs<=A
def J1 (a b:Pt):Int:=a.x*b.x+a.y*b.y+a.z*b.z
def HN (a b:Pt):Pt:=⟨a.x-b.x,a.y-b.y,a.z-b.z⟩
theorem IH {x y:Int} {A B:Nat} (D:x.natAbs<=A) (E:y.natAbs<=B):(x*y).natAbs<=A*B:=by rw[Int.natAbs_mul];exact fv D E
theorem Bf {A B:Nat} (h:bd A q) (D:A<=B):bd B q:=⟨cq h.1 D,cq h.2.1 D,cq h.2.2 D⟩
theorem Z71 (a b:Pt):J1 (HN a b) (HN a b)=J1 (HN b a) (HN b a):=by
 simp only[J1,HN];have h:∀x y:Int,(x-y)*(x-y)=(y-x)*(y-x):=by intro x y;rw[<-Int.neg_mul_neg,Int.neg_sub]
 rw[h a.x,h a.y,h a.z]
theorem Z1q {x y:Int}:L4 x y<=0↔x<=y:=by
 unfold L4;by_cases h:x<y
 ·rw[aa h];omega
 ·rw[ab h];by_cases h':x=y
  ·rw[aa h'];omega
  ·rw[ab h'];omega
theorem Q5t (v:Nat) (h:v<w64):wrap .u64 (((BitVec.ofInt IntKind.u64.bits (v:Int)&&&BitVec.ofInt IntKind.u64.bits 4294967295).toNat:Nat):Int)=((v%4294967296:Nat):Int):=by
 rw[B8]at h;have e:(BitVec.ofInt IntKind.u64.bits (v:Int)&&&BitVec.ofInt IntKind.u64.bits 4294967295).toNat=v%4294967296:=by
  rw[BitVec.toNat_and];have e1:(BitVec.ofInt IntKind.u64.bits (v:Int)).toNat=v:=by
   simp only[IntKind.bits,kw];omega
  have e2:(BitVec.ofInt IntKind.u64.bits 4294967295).toNat=2^32-1:=by
   simp only[IntKind.bits,kw];rfl
  rw[e1,e2,Nat.and_two_pow_sub_one_eq_mod]
 rw[e,IB (by omega)]
theorem Q23 (v:Nat):(v:Int).fdiv (2^min (Int.toNat 32) IntKind.u64.bits)=((v/4294967296:Nat):Int):=by
 have e:(2^min (Int.toNat 32) IntKind.u64.bits:Int)=4294967296:=rfl;rw[e,gk _ (by omega)];omega
def Fj (a n:Nat) (down:Bool) (j:Nat):Prop:=
 (j=0\/if down=true then(2*j-1)*(2*j-1)*n<4*(a*a)else(2*j-1)*(2*j-1)*n<=4*(a*a))/\
 (if down=true then 4*(a*a)<=(2*j+1)*(2*j+1)*n else 4*(a*a)<(2*j+1)*(2*j+1)*n)
theorem RX {p q n:Nat} (h:p<=q):p*p*n<=q*q*n:=bt _ (fv h h)
theorem Zkk {a n:Nat} {down:Bool} (G:Fj a n down i) (I:Fj a n down A):i=A:=by
 have key:∀{i A:Nat},Fj a n down i->Fj a n down A-> ¬i<A:=by
  rintro i A ⟨-,E⟩ ⟨D,-⟩ L;have M:=RX (n:=n) (show 2*i+1<=2*A-1 by omega);rcases D with D|D
  ·omega
  ·by_cases J:down=true
   ·rw[aa J]at E D;omega
   ·rw[ab J]at E D;omega
 have N:=key G I;have E:=key I G;omega
open Classical in
noncomputable def rnd (a n:Nat) (down:Bool):Nat:=if h:∃j,Fj a n down j then Classical.choose h else 0
theorem SQ {a n:Nat} {down:Bool} (h:Fj a n down i):rnd a n down=i:=by
 have D:∃i,Fj a n down i:=⟨i,h⟩;unfold rnd;rw[kz D];exact Zkk (fj D) h
noncomputable def Cu (x r n:Int):Int:=if x<0 then-(rnd (x.natAbs*r.natAbs) n.natAbs true:Int)else(rnd (x.natAbs*r.natAbs) n.natAbs false:Int)
theorem Yo {X R n j:Nat} {down:Bool} (E:0<n) (G:X*X<=n) (h:Fj (X*R) n down j):j<=R:=by
 by_cases c:j<=R
 ·exact c
 exfalso;have e:4*(X*R*(X*R))=(2*R)*(2*R)*(X*X):=by grind
 have I:(2*R)*(2*R)*(X*X)<=(2*R)*(2*R)*n:=Nat.mul_le_mul_left _ G;have J:(2*R)*(2*R)*n<(2*R+1)*(2*R+1)*n:=fd (i6 (by omega)) E;have L:(2*R+1)*(2*R+1)*n<=(2*j-1)*(2*j-1)*n:=RX (by omega);obtain⟨D,-⟩:=h;rcases D with D|D
 ·omega
 ·split at D<;>omega
theorem Zrl {X R n j:Nat} {down:Bool} (D:0<n) (E:R*R<=n) (h:Fj (X*R) n down j):j<=X:=by
 rw[ff]at h;exact Yo D E h
theorem Z10 {a n q:Nat} (down:Bool) (E:q*q*n<=a*a) (G:a*a<(q+1)*(q+1)*n):
  Fj a n down (if(if down=true then(2*q+1)*(2*q+1)*n<2*a*(2*a)else(2*q+1)*(2*q+1)*n<=2*a*(2*a))then q+1 else q):=by
 have I:2*a*(2*a)=4*(a*a):=by grind
 rw[I];have e1:4*(q*q*n)<=4*(a*a):=Nat.mul_le_mul_left _ E;have e2:4*(a*a)<4*((q+1)*(q+1)*n):=by omega
 have L:(2*q-1)*(2*q-1)*n<=(2*q)*(2*q)*n:=RX (by omega);have M:(2*q)*(2*q)*n=4*(q*q*n):=by grind
 have e7:(2*(q+1))*(2*(q+1))*n=4*((q+1)*(q+1)*n):=by grind
 have N:(2*(q+1))*(2*(q+1))*n<=(2*(q+1)+1)*(2*(q+1)+1)*n:=RX (by omega);have O:n=0\/q=0\/(2*q-1)*(2*q-1)*n<(2*q)*(2*q)*n:=by
  by_cases D:n=0
  ·exact .inl D
  ·by_cases J:q=0
   ·exact .inr (.inl J)
   ·right;right;refine fd ?_ (by omega);exact i6 (by omega)
 have D:n≠0:=by rintro rfl;simp at G
 unfold Fj;cases down
 ·simp only[du,iv];by_cases c:(2*q+1)*(2*q+1)*n<=4*(a*a)
  ·rw[aa c];refine⟨.inr ?_,by omega⟩;rw[show 2*(q+1)-1=2*q+1 by omega];exact c
  ·rw[ab c];exact⟨by omega,by omega⟩
 ·simp only[dv];by_cases c:(2*q+1)*(2*q+1)*n<4*(a*a)
  ·rw[aa c];refine⟨.inr ?_,by omega⟩;rw[show 2*(q+1)-1=2*q+1 by omega];exact c
  ·rw[ab c];exact⟨by omega,by omega⟩
theorem Zvk {A N:Nat} (D:0<N):∃q:Nat,q*q*N<=A*A/\A*A<(q+1)*(q+1)*N:=by
 have key:∀n:Nat,∃r:Nat,r*r<=n/\n<(r+1)*(r+1):=by
  intro n;induction n with
  |zero=>exact⟨0,by simp,by simp⟩
  |succ n I=>
   obtain⟨r,E,G⟩:=I;by_cases h:n+1<(r+1)*(r+1)
   ·exact⟨r,by omega,h⟩
   ·refine⟨r+1,by omega,?_⟩;have:(r+1+1)*(r+1+1)=(r+1)*(r+1)+2*(r+1)+1:=by grind
    omega
 obtain⟨q,E,G⟩:=key (A*A/N);exact⟨q,(Nat.le_div_iff_mul_le D).1 E,(fg D).1 G⟩
theorem Un {x r n:Int} (S:x.natAbs<=33554432*4) (J:0<=r/\r<=33554432*4) (T:0<n/\n<=4611686018427387904) (L:x*x<=n):
  True/\(Cu x r n).natAbs<=268435456/\Fj (x.natAbs*r.natAbs) n.natAbs (decide (x<0)) (Cu x r n).natAbs:=by
 obtain⟨R,rfl⟩:=cg J.1;obtain⟨N,rfl⟩:=cg (show 0<=n by omega);have I:x.natAbs*x.natAbs<=N:=by
  have:((x.natAbs*x.natAbs:Nat):Int)=x*x:=by rw[gn]
  omega
 simp only[Cu,jx];obtain⟨q,M,O⟩:=Zvk (A:=x.natAbs*R) (N:=N) (by omega);obtain⟨j,G⟩:∃j,Fj (x.natAbs*R) N (decide (x<0)) j:=⟨_,Z10 (decide (x<0)) M O⟩;have hle:=Yo (X:=x.natAbs) (R:=R) (by omega) I G;have D:=SQ G;by_cases E:x<0
 ·have e:=al E;rw[e]at G D⊢;rw[aa E,D,Int.natAbs_neg,jx];exact⟨trivial,by omega,G⟩
 ·have e:=am E;rw[e]at G D⊢;rw[ab E,D,jx];exact⟨trivial,by omega,G⟩
def Jd (n k:Int):Prop:=0<=k/\n<=k*k/\(k=0\/(k-1)*(k-1)<n)
theorem Zh7 {n i j:Int} (E:Jd n i) (G:Jd n j):i=j:=by
 have key:∀{i j:Int},Jd n i->Jd n j-> ¬i<j:=by
  rintro i j ⟨I,J,-⟩ ⟨M,N,D⟩ L;rcases D with D|D
  ·omega
  ·have:=i9 I (show i<=j-1 by omega);omega
 have I:=key E G;have J:=key G E;omega
open Classical in
noncomputable def upR (n:Int):Int:=if h:∃j,Jd n j then Classical.choose h else 0
theorem Zfi {n k:Int} (h:Jd n k):upR n=k:=by
 have D:∃j,Jd n j:=⟨k,h⟩;unfold upR;rw[kz D];exact Zh7 (fj D) h
theorem Q4x {n r:Nat} (D:r*r<=n) (E:n<(r+1)*(r+1)):Jd n (if r*r<n then r+1 else r:Nat):=by
 unfold Jd;by_cases c:r*r<n
 ·rw[aa c];have e1:((r+1:Nat):Int)*((r+1:Nat):Int)=(((r+1)*(r+1):Nat):Int):=(dg _ _).symm;have e2:(((r+1:Nat):Int)-1)*(((r+1:Nat):Int)-1)=((r*r:Nat):Int):=by
   rw[show((r+1:Nat):Int)-1=(r:Int) by omega];exact(dg _ _).symm
  rw[e1,e2];generalize(r+1)*(r+1)=A at*;generalize r*r=B at*;exact⟨by omega,by omega, .inr (by omega)⟩
 ·rw[ab c];have e1:(r:Int)*(r:Int)=((r*r:Nat):Int):=(dg _ _).symm;rw[e1];refine⟨by omega,by omega,?_⟩;rcases ez r with h|h
  ·left;omega
  ·right;have e2:((r:Int)-1)*((r:Int)-1)=(((r-1)*(r-1):Nat):Int):=by
    rw[show(r:Int)-1=((r-1:Nat):Int) by omega];exact(dg _ _).symm
   have:=i6 (show r-1<r by omega);rw[e2];omega
theorem Zi7 (k:Nat):((2^(k+1):Nat):Int).fdiv (2^min (Int.toNat 1) IntKind.i64.bits)=((2^k:Nat):Int):=by
 have e:(2^min (Int.toNat 1) IntKind.i64.bits:Int)=2:=rfl;rw[e,gk _ (by omega),jr];omega
theorem Z8p:(1:Int).fdiv (2^min (Int.toNat 1) IntKind.i64.bits)=0:=rfl
theorem Zhv:∀n:Nat,∃r:Nat,r*r<=n/\n<(r+1)*(r+1):=by
 intro n;induction n with
 |zero=>exact⟨0,by simp,by simp⟩
 |succ n D=>
  obtain⟨r,E,G⟩:=D;by_cases h:n+1<(r+1)*(r+1)
  ·exact⟨r,by omega,h⟩
  ·refine⟨r+1,by omega,?_⟩;have:(r+1+1)*(r+1+1)=(r+1)*(r+1)+2*(r+1)+1:=by grind
   omega
theorem VT {n:Nat} (G:n<4611686018427387904):∃r:Nat,True/\r*r<=n/\n<(r+1)*(r+1)/\r<2147483648:=by
 obtain⟨r,D,E⟩:=Zhv n;refine⟨r,trivial,D,E,?_⟩;by_cases c:r<2147483648
 ·exact c
 ·have:=fv (show 2147483648<=r by omega) (show 2147483648<=r by omega);omega
def sqD (a b:Pt):Int:=J1 (HN a b) (HN a b)
theorem QR (a b:Pt):0<=sqD a b:=by
 unfold sqD J1;have h:∀u:Int,0<=u*u:=λu=>by rw[<-gn];omega
 have:=h (HN a b).x;have:=h (HN a b).y;have:=h (HN a b).z;omega
theorem Eg {x:Int} (h:x.natAbs<=A):0<=x*x/\x*x<=((A*A:Nat):Int):=by
 have:=fv h h;rw[<-gn];omega
theorem QH {a b:Pt} (D:bd A a) (hb:bd A b) (E:A<=67108864):sqD a b<=54043195528445952:=by
 have h:∀x y:Int,x.natAbs<=A->y.natAbs<=A->(x-y)*(x-y)<=18014398509481984:=by
  intro x y G I;exact(Eg (x:=x-y) (A:=134217728) (by omega)).2
 have J:=h _ _ D.1 hb.1;have L:=h _ _ D.2.1 hb.2.1;have M:=h _ _ D.2.2 hb.2.2;unfold sqD J1 HN;simp only;omega
noncomputable def AK (a b:Pt):Int:=upR (sqD a b)
theorem ZK {a b:Pt} (E:bd 67108864 a) (hb:bd 67108864 b):True/\Jd (sqD a b) (AK a b):=by
 have G:=QR a b;have I:=QH E hb (cx _);obtain⟨d,J⟩:=cg G;unfold AK;rw[J]at I⊢;obtain⟨r,-,L,M,N⟩:=VT (n:=d) (by omega);have D:=Q4x L M;rw[Zfi D];exact⟨trivial,D⟩
theorem I5 {a b:Pt} (E:bd 67108864 a) (hb:bd 67108864 b):0<=AK a b/\AK a b<=268435456:=by
 obtain⟨-,G,I,D⟩:=ZK E hb;have J:=QH E hb (cx _);refine⟨G,?_⟩;rcases D with D|D
 ·omega
 ·by_cases c:AK a b<=268435456
  ·exact c
  ·have:=i9 (a:=268435456) (b:=AK a b-1) (by omega) (by omega);omega
def JY (n k:Int):Prop:=0<=k/\n<=k*(k+1)/\(k=0\/(k-1)*k<n)
theorem Ju {x:Int} (h:x.natAbs<=A) (D:A<=9223372036854775807):V x=x:=Ae
theorem I8 {x y:Int} {A B:Nat} (D:x.natAbs<=A) (E:y.natAbs<=B):(x-y).natAbs<=A+B:=by omega
theorem UP {x y:Int} {A B:Nat} (D:x.natAbs<=A) (E:y.natAbs<=B):(x+y).natAbs<=A+B:=by omega
theorem XO {c u x:Int} (D:c.natAbs<=A) (E:(c+x).natAbs<=A) (h:(0<=x->0<=u/\u<=x)/\(x<=0->x<=u/\u<=0)):(c+u).natAbs<=A:=by
 rcases Int.le_total 0 x with g|g
 ·have:=h.1 g;omega
 ·have:=h.2 g;omega
theorem Qai (a b:Pt):sqD a b=(a.x-b.x)*(a.x-b.x)+(a.y-b.y)*(a.y-b.y)+(a.z-b.z)*(a.z-b.z):=rfl
theorem Gk (u:Int):0<=u*u:=by rw[<-gn];omega
theorem Qgc {a b:Pt}:sqD a b=0↔a=b:=by
 rw[Qai];obtain⟨a1,a2,a3⟩:=a;obtain⟨b1,b2,b3⟩:=b;have J:=Gk (a1-b1);have L:=Gk (a2-b2);have M:=Gk (a3-b3);constructor
 ·intro h;simp only at h;have e1:(a1-b1)*(a1-b1)=0:=by omega
  have e2:(a2-b2)*(a2-b2)=0:=by omega
  have e3:(a3-b3)*(a3-b3)=0:=by omega
  have z:∀u:Int,u*u=0->u=0:=λu D=>by
   rcases Int.mul_eq_zero.1 D with h|h<;>exact h
  have:=z _ e1;have:=z _ e2;have:=z _ e3;rw[Pt.mk.injEq];omega
 ·intro h;injection h with E G I;subst E G I;simp
theorem Zbw (a b:Pt):(a.x-b.x)*(a.x-b.x)<=sqD a b/\(a.y-b.y)*(a.y-b.y)<=sqD a b/\(a.z-b.z)*(a.z-b.z)<=sqD a b:=by
 rw[Qai];have D:=Gk (a.x-b.x);have E:=Gk (a.y-b.y);have G:=Gk (a.z-b.z);omega
noncomputable def Cd (c a:Pt) (d:Int):Pt:=⟨c.x+Cu (a.x-c.x) d (sqD a c),c.y+Cu (a.y-c.y) d (sqD a c),c.z+Cu (a.z-c.z) d (sqD a c)⟩
abbrev B24:Nat:=16777216
theorem WM {x r n:Int} (G:x.natAbs<=33554432*4) (I:0<=r/\r<=33554432*4) (J:0<n/\n<=4611686018427387904) (D:x*x<=n) (L:r*r<=n):
  (0<=x->0<=Cu x r n/\Cu x r n<=x)/\(x<=0->x<=Cu x r n/\Cu x r n<=0):=by
 obtain⟨-,N,M⟩:=Un G I J D;have E := Zrl (by omega) (by
  have:((r.natAbs*r.natAbs:Nat):Int)=r*r:=gn;omega) M
 unfold Cu at*;constructor
 ·intro h;rw[ab]at E⊢;omega
 ·intro h;by_cases c:x<0
  ·rw[aa c]at E⊢;omega
  ·rw[ab c]at E⊢;omega
theorem Zmj {a b:Pt} (D:bd B24 a) (hb:bd B24 b):sqD a b<=3377699720527872:=by
 have h:∀x y:Int,x.natAbs<=B24->y.natAbs<=B24->(x-y)*(x-y)<=1125899906842624:=by
  intro x y E G;unfold B24 at*;exact(Eg (x:=x-y) (A:=33554432) (by omega)).2
 have I:=h _ _ D.1 hb.1;have J:=h _ _ D.2.1 hb.2.1;have L:=h _ _ D.2.2 hb.2.2;rw[Qai];omega
theorem LB {c a:Pt} (D:bd B24 c) (E:bd B24 a) (J:a≠c) (N:0<=k/\k<AK a c):bd B24 (Cd c a k):=by
 have O:sqD a c≠0:=λh=>J (Qgc.1 h);have S:=QR a c;have T:=QH (Bf E (by decide)) (Bf D (by decide)) (show 67108864<=67108864 by omega);obtain⟨-,g1,g2,g3⟩:=ZK (Bf E (show B24<=67108864 by decide)) (Bf D (show B24<=67108864 by decide));have hl:=I5 (Bf E (show B24<=67108864 by decide)) (Bf D (show B24<=67108864 by decide));have G:k*k<=sqD a c:=by
  have:=i9 N.1 (show k<=AK a c-1 by omega);omega
 have L:k<=33554432*4:=by
  by_cases U:k<=33554432*4
  ·exact U
  ·exfalso;have h3:=i9 (a:=33554432*4+1) (b:=k) (by omega) (by omega);have h4:=Zmj E D;omega
 obtain⟨V,X,Y⟩:=Zbw a c;have M:0<sqD a c/\sqD a c<=4611686018427387904:=⟨Int.lt_iff_le_and_ne.2 ⟨S,λh=>O h.symm⟩,Int.le_trans T (by decide)⟩;have I:0<=k/\k<=33554432*4:=⟨N.1,L⟩;have k1:=WM (x:=a.x-c.x) (r:=k) (n:=sqD a c) (cq (I8 E.1 D.1) (by decide)) I M V G;have k2:=WM (x:=a.y-c.y) (r:=k) (n:=sqD a c) (cq (I8 E.2.1 D.2.1) (by decide)) I M X G;have k3:=WM (x:=a.z-c.z) (r:=k) (n:=sqD a c) (cq (I8 E.2.2 D.2.2) (by decide)) I M Y G;have e:∀x y:Int,x+(y-x)=y:=λx y=>by omega
 exact⟨XO D.1 (by rw[e];exact E.1) k1,XO D.2.1 (by rw[e];exact E.2.1) k2,XO D.2.2 (by rw[e];exact E.2.2) k3⟩
def GX (p c q:Pt):Pt:=⟨p.x-c.x+(q.x-c.x),p.y-c.y+(q.y-c.y),p.z-c.z+(q.z-c.z)⟩
def H8 (p c q:Pt):Int:=J1 (GX p c q) (GX p c q)
theorem Ztz {p c q:Pt} (D:bd B24 p) (E:bd B24 c) (G:bd B24 q):bd 67108864 (GX p c q):=by
 unfold bd B24 GX at*;simp only;omega
def HO (a c b:Pt) (D d:Int):Prop:=d<=mn (AK a c) (AK c b)-2/\H8 (Cd c a d) c (Cd c b d)<=16*D*D
theorem V2 (x y:Int):mn x y<=x/\mn x y<=y:=by unfold mn;split<;>omega
theorem Zjz (a b:Pt):sqD a b=sqD b a:=by
 unfold sqD;exact Z71 a b
theorem Ub (a b:Pt):AK a b=AK b a:=by unfold AK;rw[Zjz]
open Classical in
noncomputable def Gt (P:Int->Prop):Nat->Int->Int
 |0,d=>if P (d+1)then d+1 else d
 |k+1,d=>Gt P k (if P (d+((2^(k+1):Nat):Int))then d+((2^(k+1):Nat):Int)else d)
open Classical in
theorem Q33 {P:Int->Prop}:∀(k:Nat) (d:Int),d<=Gt P k d/\Gt P k d<d+((2^(k+1):Nat):Int)/\(Gt P k d=d\/P (Gt P k d))
 |0,d=>by
  have e:((2^(0+1):Nat):Int)=2:=rfl;rw[e];unfold Gt;split
  ·rename_i h;exact⟨by omega,by omega, .inr h⟩
  ·exact⟨by omega,by omega, .inl rfl⟩
 |k+1,d=>by
  unfold Gt;have J:0<2^(k+1):=gv _;have e3:2^(k+1+1)=2^(k+1)+2^(k+1):=by rw[jr 2 (k+1)];omega
  rw[e3];have D:(if P (d+((2^(k+1):Nat):Int))then d+((2^(k+1):Nat):Int)else d)=d\/((if P (d+((2^(k+1):Nat):Int))then d+((2^(k+1):Nat):Int)else d)=d+((2^(k+1):Nat):Int)/\P (if P (d+((2^(k+1):Nat):Int))then d+((2^(k+1):Nat):Int)else d)):=by
   split
   ·rename_i h;exact .inr ⟨rfl,h⟩
   ·exact .inl rfl
  generalize(if P (d+((2^(k+1):Nat):Int))then d+((2^(k+1):Nat):Int)else d)=G at*;obtain⟨L,M,E⟩:=Q33 (P:=P) k G;generalize Gt P k G=x at*;generalize 2^(k+1)=m at*;rcases D with D|⟨D,I⟩
  ·subst D;exact⟨by omega,by omega,E⟩
  ·refine⟨by omega,by omega, .inr ?_⟩;rcases E with E|E
   ·rw[E];exact I
   ·exact E
open Classical in
noncomputable def DQ (a c b:Pt) (D:Int):Int:=if a=c\/b=c then 0 else if Gt (HO a c b D) 24 0<16 then 0 else Gt (HO a c b D) 24 0
theorem Qqg {a c b:Pt} (h:DQ a c b k≠0):a≠c/\b≠c/\16<=DQ a c b k/\DQ a c b k<33554432/\HO a c b k (DQ a c b k):=by
 unfold DQ at*;split at h
 ·exact absurd rfl h
 ·rename_i E;rw[ab E];split at h
  ·exact absurd rfl h
  ·rename_i G;rw[ab G];obtain⟨J,I,D⟩:=Q33 (P:=HO a c b k) 24 0;have e:((2^(24+1):Nat):Int)=33554432:=rfl;rw[e]at I;refine⟨λh=>E (.inl h),λh=>E (.inr h),by omega,by omega,?_⟩;rcases D with D|D
   ·omega
   ·exact D
theorem D6 {a b:Pt}:a=b↔a.x=b.x/\a.y=b.y/\a.z=b.z:=by
 obtain⟨a1,a2,a3⟩:=a;obtain⟨b1,b2,b3⟩:=b;simp
def LU (D:Int):Nat->Int->Int
 |0,n=>n
 |k+1,n=>if n<64/\D>16*n*n*n*n*4*4 then LU D k (n*2)else n
def KQ (n:Int):Prop:=n=2\/n=4\/n=8\/n=16\/n=32\/n=64
def Mf (p c q:Pt):Int:=LU (H8 p c q) 5 2
theorem Zeb (b:Int):∀(k:Nat) (n:Int),KQ n->KQ (LU b k n)
 |0,n,h=>by unfold LU;exact h
 |k+1,n,h=>by
  unfold LU;split
  ·rename_i c;refine Zeb b k (n*2) ?_;rcases h with rfl|rfl|rfl|rfl|rfl|rfl<;>simp[KQ]at c⊢
  ·exact h
theorem Xc {p c q:Pt} (D:bd B24 p) (E:bd B24 c) (G:bd B24 q):True/\KQ (Mf p c q):=⟨trivial,Zeb _ 5 2 (.inl rfl)⟩
def Pk (n i p c q:Int):Int:=c+BF ((n-i)*(n-i)*(p-c)+i*i*(q-c)) (n*n)
def O6 (n i:Int) (p c q:Pt):Pt:=⟨Pk n i p.x c.x q.x,Pk n i p.y c.y q.y,Pk n i p.z c.z q.z⟩
theorem S6 {a b n:Int} (D:0<n) (h:a<=b):BF a n<=BF b n:=by
 unfold BF;exact Int.ediv_le_ediv (by omega) (by omega)
theorem Vq {k n:Int} (D:0<n):BF (k*n) n=k:=Mv D (by rw[show k*(2*n)=2*(k*n) by grind];omega) (by rw[show(k+1)*(2*n)=2*(k*n)+2*n by grind];omega)
theorem Ov {n i p c q:Int} (G:0<n) (I:0<=i/\i<=n) (X:p.natAbs<=A) (Y:c.natAbs<=A) (hq:q.natAbs<=A):(Pk n i p c q).natAbs<=A:=by
 have D:0<n*n:=Int.mul_pos G G;have J:0<=(n-i)*(n-i):=Gk _;have L:0<=i*i:=Gk _;have M:(n-i)*(n-i)+i*i<=n*n:=by
  have:n*n-((n-i)*(n-i)+i*i)=2*(i*(n-i)):=by grind
  have:0<=i*(n-i):=gq I.1 (by omega);omega
 have key:∀s:Int,(s=1\/s= -1)->s*((n-i)*(n-i)*(p-c)+i*i*(q-c))<=(A-s*c)*(n*n):=by
  intro s E;have N:s*p<=A:=by rcases E with rfl|rfl<;>omega
  have O:s*c<=A:=by rcases E with rfl|rfl<;>omega
  have S:s*q<=A:=by rcases E with rfl|rfl<;>omega
  have g1:(n-i)*(n-i)*(s*p-s*c)<=(n-i)*(n-i)*(A-s*c):=Int.mul_le_mul_of_nonneg_left (by omega) J;have g2:i*i*(s*q-s*c)<=i*i*(A-s*c):=Int.mul_le_mul_of_nonneg_left (by omega) L;have g3:((n-i)*(n-i)+i*i)*(A-s*c)<=n*n*(A-s*c):=fu M (by omega);have e1:s*((n-i)*(n-i)*(p-c)+i*i*(q-c))=(n-i)*(n-i)*(s*p-s*c)+i*i*(s*q-s*c):=by grind
  have e2:((n-i)*(n-i)+i*i)*(A-s*c)=(n-i)*(n-i)*(A-s*c)+i*i*(A-s*c):=j0 ..;have e3:(A-s*c)*(n*n)=n*n*(A-s*c):=j9 ..;omega
 unfold Pk;have T:=S6 D (key 1 (.inl rfl)|>λh=>(by rw[jp,jp]at h;exact h));rw[Vq D]at T;have k2:=key (-1) (.inr rfl);have U:(-(A:Int)-c)*(n*n)<=(n-i)*(n-i)*(p-c)+i*i*(q-c):=by
  have e:(-(A:Int)-c)*(n*n)= -((A- -1*c)*(n*n)):=by grind
  omega
 have V:=S6 D U;rw[Vq D]at V;omega
noncomputable def GO (a c b:Pt) (D:Int):List Pt:=
 if DQ a c b D=0 then [c]
 else(List.range ((Mf (Cd c a (DQ a c b D)) c (Cd c b (DQ a c b D))).toNat+1)).map fun(i:Nat)=>O6 (Mf (Cd c a (DQ a c b D)) c (Cd c b (DQ a c b D))) i (Cd c a (DQ a c b D)) c (Cd c b (DQ a c b D))
theorem Q22 {a c b:Pt} (J:bd B24 a) (D:bd B24 c) (hb:bd B24 b):(∀p∈GO a c b k,bd B24 p)/\1<=(GO a c b k).length/\(GO a c b k).length<=65:=by
 unfold GO;by_cases h:DQ a c b k=0
 ·rw[aa h];simp;exact D
 ·rw[ab h];obtain⟨L,M,O,S,T,-⟩:=Qqg h;obtain⟨m1,m2⟩:=V2 (AK a c) (AK c b);generalize DQ a c b k=d at*;have E:bd B24 (Cd c a d):=LB D J L (by omega);have G:bd B24 (Cd c b d):=LB D hb M (by rw[Ub b c];omega);have N:=(Xc E D G).2;generalize Mf (Cd c a d) c (Cd c b d)=n at*;have U:2<=n/\n<=64:=by rcases N with rfl|rfl|rfl|rfl|rfl|rfl<;>omega
  refine⟨?_,by simp,by simp;omega⟩;intro p I;simp only[bc,List.mem_range]at I;obtain⟨i,V,rfl⟩:=I;exact⟨Ov (by omega) (by omega) E.1 D.1 G.1,Ov (by omega) (by omega) E.2.1 D.2.1 G.2.1,Ov (by omega) (by omega) E.2.2 D.2.2 G.2.2⟩
theorem Q68 {v n:Int} (_:i64 v) (D:0<n/\n<=4611686018427387904):H_ [I v,I n]=some [I (v%n)]:=by
 unfold H_;rw[Zvu,Bi (by omega),Bi (by omega)];have L: -n<v.tmod n/\v.tmod n<n:=by
  have a1:=Int.tmod_lt_of_pos v D.1;have a2:=Int.lt_tmod_of_pos v D.1;omega
 rw[Ae];have E:(v.tmod n+n).tmod n=v%n:=by
  rw[jh (by omega),Int.add_emod_right];have G:=Int.tmod_add_mul_tdiv v n;have J:v%n=(v.tmod n+n*v.tdiv n)%n:=by rw[G]
  rw[J,Int.add_mul_emod_self_left]
 rw[E]
def Src (l:Rw):Prop:=l.length<=9223372036854775807/\∀c∈l,i64 (Af (nth .vD c 0))
theorem Zuu (h:i<l.length):nth [] l i∈l:=by rw[HH [] l i h];exact bf h
theorem Z02 (G:∀v n:Int,i64 v->0<n/\n<=4611686018427387904->M [I v,I n]=some [I (v%n)]) {l:Rw} (E:Src l) {k:Nat} {n:Int} (D:0<n/\n<=4611686018427387904):
  ∃(v:Int) (k':Nat),Qpu M [I n, .vC Aa l,I k]=some [I v, .vC Aa l,I k']/\0<=v/\v<n/\k<=k'/\(k<l.length->k'=k+1)/\(l.length<=k->k'=k):=by
 have J:=E.1;rw[Zz8];by_cases h:k<l.length
 ·have L:=G _ n (E.2 _ (Zuu h)) D;simp only[go_sem,aj,L];rw[ab,aa,Ae];exact⟨_,k+1,rfl,Int.emod_nonneg _ (by omega),Int.emod_lt_of_pos _ D.1,by omega,λ_=>rfl,by omega⟩
 ·simp only[go_sem];rw[aa];exact⟨0,k,rfl,by omega,D.1,by omega,by omega,λ_=>rfl⟩
theorem Z9g (E:Src l) (k:Nat) {n:Int} (D:0<n/\n<=4611686018427387904):
  ∃(v:Int) (k':Nat),BY [I n, .vC Aa l,I k]=some [I v, .vC Aa l,I k']/\0<=v/\v<n/\k<=k'/\(k<l.length->k'=k+1)/\(l.length<=k->k'=k):=
 Z02 (λ_ _ G D=>Q68 G D) E D
theorem Qwv (l:Rw) (k:Nat):GH [.vC Aa l,I k]=some [B (decide (k<l.length)), .vC Aa l,I k]:=by
 unfold GH;rw[Zi5];congr 3;simp
theorem Rh (l:Rw):C6 [.vC Aa l]=some [.vC Aa l,I 0]:=by
 unfold C6;rw[Zsn]
def A_ (r:Int) (k:Int):Int:=if k%4=0 then r else if k%4=2 then-r else 0
def Ba (r:Int) (k:Int):Int:=if k%4=1 then r else if k%4=3 then-r else 0
theorem Ybh (G:0<=r/\r<=1000000) (D:0<=k/\k<=1000):PL [I r,I k]=some [I (A_ r k),I (Ba r k)]:=by
 unfold PL;rw[Zzf,Ae,jh D.1];have E:k%4=0\/k%4=1\/k%4=2\/k%4=3:=by omega
 unfold A_ Ba;rcases E with h|h|h|h<;>rw[h]<;>simp[nth,Af]
def plU (pl:Int) (p:Pt):Int:=if pl=17 then p.x else if pl=18 then p.z else p.y
def plW (pl:Int) (p:Pt):Int:=if pl=17 then p.y else if pl=18 then p.x else p.z
def plH (pl:Int) (p:Pt):Int:=if pl=17 then p.z else if pl=18 then p.y else p.x
def spP (pl u w h:Int):Pt:=if pl=17 then⟨u,w,h⟩else if pl=18 then⟨w,h,u⟩else⟨h,u,w⟩
def DB (pl:Int):Prop:=pl=17\/pl=18\/pl=19
theorem Z0y (h:DB a):OX [I q.x,I q.y,I q.z,I a]=some [I (plU a q),I (plW a q),I (plH a q)]:=by
 unfold OX;rw[Zr5];rcases h with rfl|rfl|rfl<;>rfl
theorem Yax {u w h pl:Int} (D:DB pl):Pc [I u,I w,I h,I pl]=some (ptR (spP pl u w h)):=by
 unfold Pc;rw[Z81];rcases D with rfl|rfl|rfl<;>rfl
theorem OR {pl u w h:Int} (D:DB pl):plU pl (spP pl u w h)=u/\plW pl (spP pl u w h)=w/\plH pl (spP pl u w h)=h:=by
 rcases D with rfl|rfl|rfl<;>exact⟨rfl,rfl,rfl⟩
structure ArcMade (size : Int) (it : Itm) : Prop where
 aP:it.aP=3
 aG:DB it.aG
 dir:it.dir=1\/it.dir= -1
 ends:∃r k t g h:Int,8<=r/\r<8+size/\0<=k/\k<=3/\0<=t/\t<=3/\0<=g/\g<=4/\(h=0\/h=7\/h= -12)/\(t=0->g=0)/\it.bI=decide (t=0)/\
  it.ce=spP it.aG (plU it.aG it.fr-A_ r k) (plW it.aG it.fr-Ba r k) (plH it.aG it.fr)/\
  it.to=spP it.aG (plU it.aG it.fr-A_ r k+A_ (r+g) (k+t)) (plW it.aG it.fr-Ba r k+Ba (r+g) (k+t)) (plH it.aG it.fr+h)
theorem Qg (D:0<=r):(-r<=A_ r k/\A_ r k<=r)/\(-r<=Ba r k/\Ba r k<=r):=by
 unfold A_ Ba;constructor<;>constructor<;>split<;>(try split)<;>omega
theorem Zgd (G:1<=r) (k:Int):((A_ r k).tdiv r=A_ 1 k)/\((Ba r k).tdiv r=Ba 1 k):=by
 have D:r.tdiv r=1:=Int.tdiv_self (by omega);have E:(-r).tdiv r= -1:=by rw[Int.neg_tdiv,D]
 unfold A_ Ba;constructor<;>split<;>(try split)<;>simp[D,E]
theorem Z8f (r k e f:Int):∃g,(g=e\/g=f)/\A_ r k+A_ 1 k*e=A_ (r+g) k/\Ba r k+Ba 1 k*f=Ba (r+g) k:=by
 unfold A_ Ba;by_cases h:k%4=0\/k%4=2
 ·refine⟨e, .inl rfl,?_,?_⟩
  ·rcases h with h|h<;>simp[h]<;>omega
  ·rcases h with h|h<;>simp[h]
 ·have D:k%4=1\/k%4=3:=by omega
  refine⟨f, .inr rfl,?_,?_⟩
  ·rcases D with h|h<;>simp[h]
  ·rcases D with h|h<;>simp[h]<;>omega
theorem Iz {pl:Int} (h:bd i q):(plU pl q).natAbs<=i/\(plW pl q).natAbs<=i/\(plH pl q).natAbs<=i:=by
 obtain⟨D,E,G⟩:=h;unfold plU plW plH;refine⟨?_,?_,?_⟩<;>split<;>(try split)<;>assumption
def Ht (l:Rw) (M:Fn):Prop:=∀(k:Nat) {n:Int},0<n/\n<=4611686018427387904->
  ∃(v:Int) (k':Nat),M [I n, .vC Aa l,I k]=some [I v, .vC Aa l,I k']/\0<=v/\v<n/\k<=k'/\(k<l.length->k'=k+1)/\(l.length<=k->k'=k)
abbrev Gv (it:Itm):Prop:=it.block=0/\it.side=0/\it.radius=0/\it.aS=0/\it.on=false
theorem Z5v (h:0<=v/\v<3):Af (nth .vD (nth [] [[I 17],[I 18],[I 19]] v.toNat) 0)=17+v:=by
 have D:v=0\/v=1\/v=2:=by omega
 rcases D with rfl|rfl|rfl<;>rfl
theorem Q5u (h:0<=v/\v<4):∃x,Af (nth .vD (nth [] [[I 0],[I 0],[I 7],[I (-12)]] v.toNat) 0)=x/\(x=0\/x=7\/x= -12):=by
 have D:v=0\/v=1\/v=2\/v=3:=by omega
 rcases D with rfl|rfl|rfl|rfl<;>exact⟨_,rfl,by decide⟩
theorem Zht (N:Ht l T)
  (hP:∀{p:Pt} {pl:Int},DB pl->W [I p.x,I p.y,I p.z,I pl]=some [I (plU pl p),I (plW pl p),I (plH pl p)])
  (hS:∀{u w h pl:Int},DB pl->M [I u,I w,I h,I pl]=some (ptR (spP pl u w h)))
  (hT:∀{r k:Int},(0<=r/\r<=1000000)->(0<=k/\k<=1000)->Z [I r,I k]=some [I (A_ r k),I (Ba r k)])
  {p:Pt} (hp:bd 100000000 p) {size:Int} (hs:0<size/\size<=100000) (k:Nat):
  ∃(it:Itm) (k':Nat),Qk4 M Z W T [I p.x,I p.y,I p.z,I size, .vC Aa l,I k]=some (Ah it++[.vC Aa l,I k'])/\k<=k'/\it.fr=p/\ArcMade size it/\
   it.aZ=0/\it.perRev=false/\it.bJ=0/\it.n=0/\Gv it:=by
 obtain⟨J,k1,e1,a1,b1,c1,-,-⟩:=N k (n:=3) (by omega);obtain⟨X,k2,e2,a2,b2,c2,-,-⟩:=N k1 (n:=2) (by omega);obtain⟨E,k3,e3,a3,b3,c3,-,-⟩:=N k2 (n:=size) (by omega);obtain⟨D,k4,e4,a4,b4,c4,-,-⟩:=N k3 (n:=4) (by omega);obtain⟨G,k5,e5,a5,b5,c5,-,-⟩:=N k4 (n:=4) (by omega);rw[Z04];simp only[go_sem,e1,e2,e3,e4,e5];rw[aa (by simp;omega)];have Y:DB (17+J):=by unfold DB;omega
 have w1:V (8+E)=8+E:=Ae;have w2:V (D+G)=D+G:=Ae;simp only[Z5v ⟨a1,b1⟩,hP Y,go_sem,w1,w2,hT (r:=8+E) (k:=D) (by omega) (by omega),hT (r:=8+E) (k:=D+G) (by omega) (by omega),hS Y];obtain⟨q1,q2,q3⟩:=Iz (pl:=17+J) hp;obtain⟨⟨r1,r2⟩,r3,r4⟩:=Qg (r:=8+E) (k:=D) (by omega);obtain⟨⟨r5,r6⟩,r7,r8⟩:=Qg (r:=8+E) (k:=D+G) (by omega);obtain⟨d1,d2⟩:=Zgd (r:=8+E) (by omega) (D+G);obtain⟨⟨r9,f3⟩,f4,f5⟩:=Qg (r:=1) (k:=D+G) (by omega);have w3:V (plU (17+J) p-A_ (8+E) D)=plU (17+J) p-A_ (8+E) D:=Ae;have w4:V (plW (17+J) p-Ba (8+E) D)=plW (17+J) p-Ba (8+E) D:=Ae;have w5:V (1-V (X*2))=1-X*2:=by rw[Ae (x:=X*2),Ae]
 have w6:V (plU (17+J) p-A_ (8+E) D+A_ (8+E) (D+G))=plU (17+J) p-A_ (8+E) D+A_ (8+E) (D+G):=Ae;have w7:V (plW (17+J) p-Ba (8+E) D+Ba (8+E) (D+G))=plW (17+J) p-Ba (8+E) D+Ba (8+E) (D+G):=Ae;rw[w3,w4,w5,w6,w7];have c0:1-X*2=1\/1-X*2= -1:=by omega
 have fin:∀(g:Int) (u w:Int) (k8:Nat),k5<=k8->0<=g->g<=4->(G=0->g=0)->u=A_ (8+E+g) (D+G)->w=Ba (8+E+g) (D+G)->∀L:Int,0<=L/\L<4->
   ∃it:Itm,[I 3,I 0,I p.x,I p.y,I p.z,I (spP (17+J) (plU (17+J) p-A_ (8+E) D+u) (plW (17+J) p-Ba (8+E) D+w) (plH (17+J) p+Af (nth .vD (nth [] [[I 0],[I 0],[I 7],[I (-12)]] L.toNat) 0))).x,
    I (spP (17+J) (plU (17+J) p-A_ (8+E) D+u) (plW (17+J) p-Ba (8+E) D+w) (plH (17+J) p+Af (nth .vD (nth [] [[I 0],[I 0],[I 7],[I (-12)]] L.toNat) 0))).y,
    I (spP (17+J) (plU (17+J) p-A_ (8+E) D+u) (plW (17+J) p-Ba (8+E) D+w) (plH (17+J) p+Af (nth .vD (nth [] [[I 0],[I 0],[I 7],[I (-12)]] L.toNat) 0))).z,
    I (17+J),I (spP (17+J) (plU (17+J) p-A_ (8+E) D) (plW (17+J) p-Ba (8+E) D) (plH (17+J) p)).x,I (spP (17+J) (plU (17+J) p-A_ (8+E) D) (plW (17+J) p-Ba (8+E) D) (plH (17+J) p)).y,I (spP (17+J) (plU (17+J) p-A_ (8+E) D) (plW (17+J) p-Ba (8+E) D) (plH (17+J) p)).z,
    I (1-X*2),B (decide (G=0)),I 0,B false,I 0,I 0,I 0,I 0,I 0,B false, .vC Aa l,I k8]=Ah it++[.vC Aa l,I k8]/\it.fr=p/\ArcMade size it/\it.aZ=0/\it.perRev=false/\it.bJ=0/\it.n=0/\Gv it:=by
  intro g u w k8 g0 d5 f0 f1 hu hw L a0;obtain⟨x,hx,d0⟩:=Q5u a0;rw[hx];refine⟨⟨3,0,p,_,17+J,_,1-X*2,decide (G=0),0,false,0,0,0,0,0,false⟩,rfl,rfl,⟨rfl,Y,c0,8+E,D,G,g,x,?_⟩,rfl,rfl,rfl,rfl,rfl,rfl,rfl,rfl,rfl⟩;subst hu hw;exact⟨by omega,by omega,by omega,by omega,by omega,by omega,d5,f0,d0,f1,rfl,rfl,rfl⟩
 have b0:∀L:Int,0<=L/\L<4->V (plH (17+J) p+Af (nth .vD (nth [] [[I 0],[I 0],[I 7],[I (-12)]] L.toNat) 0))=plH (17+J) p+Af (nth .vD (nth [] [[I 0],[I 0],[I 7],[I (-12)]] L.toNat) 0):=by
  intro L a0;obtain⟨x,hx,d0⟩:=Q5u a0;rw[hx];exact Ae
 have f2:(G==0)=decide (G=0):=rfl;by_cases d3:G>0
 ·rw[aa d3];obtain⟨v6,k6,e6,a6,b6,c6,-,-⟩:=N k5 (n:=3) (by omega);simp only[go_sem,e6];by_cases d4:v6=0
  ·rw[aa d4,ab];obtain⟨v7,k7,e7,a7,b7,c7,-,-⟩:=N k6 (n:=5) (by omega);obtain⟨v8,k8,e8,a8,b8,c8,-,-⟩:=N k7 (n:=5) (by omega);obtain⟨L,O,e9,S,U,c9,-,-⟩:=N k8 (n:=4) (by omega);simp only[go_sem,e7,e8,e9];rw[ab,aa (by simp;omega),b0 L ⟨S,U⟩,d1,d2];obtain⟨g,hg,hu,hw⟩:=Z8f (8+E) (D+G) v7 v8;have mu: -4<=A_ 1 (D+G)*v7/\A_ 1 (D+G)*v7<=4:=by
    have hc:A_ 1 (D+G)= -1\/A_ 1 (D+G)=0\/A_ 1 (D+G)=1:=by omega
    rcases hc with h|h|h<;>rw[h]<;>omega
   have mw: -4<=Ba 1 (D+G)*v8/\Ba 1 (D+G)*v8<=4:=by
    have hc:Ba 1 (D+G)= -1\/Ba 1 (D+G)=0\/Ba 1 (D+G)=1:=by omega
    rcases hc with h|h|h<;>rw[h]<;>omega
   rw[Ae (x:=A_ 1 (D+G)),Ae (x:=Ba 1 (D+G)),Ae (x:=A_ 1 (D+G)*v7),Ae (x:=Ba 1 (D+G)*v8),
    Ae (x:=A_ (8+E) (D+G)+_),Ae (x:=Ba (8+E) (D+G)+_),hu,hw]
   obtain⟨⟨s1,s2⟩,s3,s4⟩:=Qg (r:=8+E+g) (k:=D+G) (by omega);rw[Ae (x:=_+A_ (8+E+g) (D+G)),Ae (x:=_+Ba (8+E+g) (D+G))];obtain⟨it,h1,h2⟩:=fin g _ _ O (by omega) (by omega) (by omega) (by omega) rfl rfl L ⟨S,U⟩;refine⟨it,O,?_,by omega,h2⟩;exact ik some h1
  ·rw[ab d4];obtain⟨L,O,e9,S,U,c9,-,-⟩:=N k6 (n:=4) (by omega);simp only[go_sem,e9];rw[aa (by simp;omega),b0 L ⟨S,U⟩];obtain⟨it,h1,h2⟩:=fin 0 _ _ O (by omega) (by omega) (by omega) (by omega) (by rw[ja]) (by rw[ja]) L ⟨S,U⟩;refine⟨it,O,?_,by omega,h2⟩;exact ik some h1
 ·rw[ab d3];obtain⟨L,O,e9,S,U,c9,-,-⟩:=N k5 (n:=4) (by omega);simp only[go_sem,e9];rw[aa (by simp;omega),b0 L ⟨S,U⟩];obtain⟨it,h1,h2⟩:=fin 0 _ _ O (by omega) (by omega) (by omega) (by omega) (by rw[ja]) (by rw[ja]) L ⟨S,U⟩;refine⟨it,O,?_,by omega,h2⟩;exact ik some h1
theorem H0 (D:Src l):Ht l BY:=λk _ E=>Z9g D k E
theorem Z5l (D:Src l) {p:Pt} (E:bd 100000000 p) {size:Int} (G:0<size/\size<=100000) (k:Nat):
  ∃(it:Itm) (k':Nat),Q8 [I p.x,I p.y,I p.z,I size, .vC Aa l,I k]=some (Ah it++[.vC Aa l,I k'])/\k<=k'/\it.fr=p/\ArcMade size it/\
   it.aZ=0/\it.perRev=false/\it.bJ=0/\it.n=0/\Gv it:=
 Zht (H0 D) Z0y Yax Ybh E G k
structure Made (it : Itm) : Prop where
 aP:1<=it.aP/\it.aP<=6
 line:it.aP≠3->(it.to.x-it.fr.x).natAbs<=16/\(it.to.y-it.fr.y).natAbs<=16/\(it.to.z-it.fr.z).natAbs<=16
 arc:it.aP=3->ArcMade 8 it
 aZ:it.aP≠1->1<=it.aZ/\it.aZ<=60000000
 bJ:0<=it.bJ/\it.bJ<=9
 sync:it.aP=5\/it.aP=6->it.bJ=0/\it.aZ<=60
 free:it.aP<=4->it.perRev=false
 bI:it.aP≠3->it.bI=false
theorem Zbp (h:0<=v/\v<5):∃x,Af (nth .vD (nth [] [[I 300000],[I 1],[I 60000],[I 2000000],[I 60000000]] v.toNat) 0)=x/\1<=x/\x<=60000000:=by
 have D:v=0\/v=1\/v=2\/v=3\/v=4:=by omega
 rcases D with rfl|rfl|rfl|rfl|rfl<;>exact⟨_,rfl,by decide⟩
theorem Q8p (h:0<=v/\v<5):∃x,Af (nth .vD (nth [] [[I 0],[I 1],[I 2],[I 4],[I 9]] v.toNat) 0)=x/\0<=x/\x<=9:=by
 have D:v=0\/v=1\/v=2\/v=3\/v=4:=by omega
 rcases D with rfl|rfl|rfl|rfl|rfl<;>exact⟨_,rfl,by decide⟩
theorem Yb3 {it:Itm} (h:ArcMade a it) (f b:Int) (pr:Bool) (n:Int):ArcMade a {it with aZ:=f,bJ:=b,perRev:=pr,n:=n}:=⟨h.aP,h.aG,h.dir,h.ends⟩
theorem Z2r (D:Ht l Z)
  (hA:∀{p:Pt},bd 100000000 p->∀k:Nat,∃(it:Itm) (k':Nat),M [I p.x,I p.y,I p.z,I 8, .vC Aa l,I k]=some (Ah it++[.vC Aa l,I k'])/\k<=k'/\it.fr=p/\ArcMade 8 it/\it.aZ=0/\it.perRev=false/\it.bJ=0/\it.n=0/\Gv it)
  {p:Pt} (hp:bd 100000000 p) {aP:Int} (hk:1<=aP/\aP<=6) (k:Nat):
  ∃(it:Itm) (k':Nat),WE Z M [I p.x,I p.y,I p.z,I aP, .vC Aa l,I k]=some (Ah it++[.vC Aa l,I k'])/\k<=k'/\it.fr=p/\it.aP=aP/\Made it/\Gv it:=by
 rw[Z2y];obtain⟨c0,d0,d1⟩:=hp;by_cases h3:aP=3
 ·subst h3;obtain⟨it,k1,e1,c1,g1,g2,g3,g4,g5,g6,g7,g8,g9,g10,g11⟩:=hA ⟨c0,d0,d1⟩ k;obtain⟨E,k2,e2,a2,b2,c2,-,-⟩:=D k1 (n:=5) (by omega);obtain⟨G,k3,e3,a3,b3,c3,-,-⟩:=D k2 (n:=5) (by omega);simp only[go_sem,e1,Ah,ay,az,e2,e3];rw[ab,aa (by simp;omega),aa (by simp;omega),ab,ab,ab];obtain⟨f,hf,U,X⟩:=Zbp ⟨a2,b2⟩;obtain⟨b,hb,Y,a0⟩:=Q8p ⟨a3,b3⟩;rw[hf,hb];have J:=g2.aP;refine⟨{it with aZ:=f,bJ:=b,perRev:=it.perRev,n:=it.n},k3,rfl,by omega,g1,J,⟨?_,?_,?_,?_,?_,?_,?_,?_⟩,g7,g8,g9,g10,g11⟩
  ·show 1<=it.aP/\it.aP<=6;omega
  ·exact λh=>absurd J h
  ·exact λ_=>Yb3 g2 f b _ _
  ·exact λ_=>⟨U,X⟩
  ·exact⟨Y,a0⟩
  ·intro h;change it.aP=5\/it.aP=6 at h;omega
  ·exact λ_=>g4
  ·exact λh=>absurd J h
 ·simp only[go_sem];rw[ab h3];obtain⟨L,k1,e1,a1,b1,c1,-,-⟩:=D k (n:=25) (by omega);obtain⟨E,k2,e2,a2,b2,c2,-,-⟩:=D k1 (n:=25) (by omega);obtain⟨G,k3,e3,a3,b3,c3,-,-⟩:=D k2 (n:=3) (by omega);obtain⟨v4,k4,e4,a4,b4,c4,-,-⟩:=D k3 (n:=9) (by omega);obtain⟨N,k5,e5,a5,b5,c5,-,-⟩:=D k4 (n:=2) (by omega);simp only[go_sem,e1,e2,e3,e4,e5];have hm:0<=G*v4/\G*v4<=16:=by
   have hc:G=0\/G=1\/G=2:=by omega
   rcases hc with rfl|rfl|rfl<;>omega
  generalize G*v4=m at hm;have w1:V (V (p.x+L)-12)=p.x+L-12:=by rw[Ae (x:=p.x+L),Ae]
  have w2:V (V (p.y+E)-12)=p.y+E-12:=by rw[Ae (x:=p.y+E),Ae]
  have w3:V (V (p.z+V m)-V (8*N))=p.z+m-8*N:=by
   rw[Ae (x:=m),Ae (x:=p.z+m),Ae (x:=8*N),Ae]
  rw[w1,w2,w3]
  have mk:∀(f b n:Int) (pr:Bool),(aP≠1->1<=f/\f<=60000000)->(0<=b/\b<=9)->(aP=5\/aP=6->b=0/\f<=60)->(aP<=4->pr=false)->
    ∃it:Itm,Ah it=[I aP,I 0,I p.x,I p.y,I p.z,I (p.x+L-12),I (p.y+E-12),I (p.z+m-8*N),I 0,I 0,I 0,I 0,I 0,B false,I f,B pr,I 0,I 0,I b,I n,I 0,B false]/\it.fr=p/\it.aP=aP/\Made it/\Gv it:=by
   intro f b n pr O h2 S T;refine⟨⟨aP,0,p,⟨p.x+L-12,p.y+E-12,p.z+m-8*N⟩,0,⟨0,0,0⟩,0,false,f,pr,0,0,b,n,0,false⟩,rfl,rfl,rfl,⟨hk,λ_=> ?_,λh=>absurd h h3,O,h2,S,T,λ_=>rfl⟩,rfl,rfl,rfl,rfl,rfl⟩;show(p.x+L-12-p.x).natAbs<=16/\(p.y+E-12-p.y).natAbs<=16/\(p.z+m-8*N-p.z).natAbs<=16;omega
  have en:∀(f b n:Int) (pr:Bool) (k':Nat),k<=k'->(aP≠1->1<=f/\f<=60000000)->(0<=b/\b<=9)->(aP=5\/aP=6->b=0/\f<=60)->(aP<=4->pr=false)->
    ∃(it:Itm) (b0:Nat),some [I aP,I 0,I p.x,I p.y,I p.z,I (p.x+L-12),I (p.y+E-12),I (p.z+m-8*N),I 0,I 0,I 0,I 0,I 0,B false,I f,B pr,I 0,I 0,I b,I n,I 0,B false, .vC Aa l,I k']=some (Ah it++[.vC Aa l,I b0])/\k<=b0/\it.fr=p/\it.aP=aP/\Made it/\Gv it:=by
   intro f b n pr k' h0 O h2 S T;obtain⟨it,i1,i2⟩:=mk f b n pr O h2 S T;refine⟨it,k',?_,h0,i2⟩;rw[i1];rfl
  by_cases O:aP=1
  ·rw[aa O];exact en _ _ _ _ _ (by omega) (λh=>absurd O h) (by omega) (by omega) (λ_=>rfl)
  ·rw[ab O];obtain⟨v6,k6,e6,a6,b6,c6,-,-⟩:=D k5 (n:=5) (by omega);obtain⟨v7,k7,e7,a7,b7,c7,-,-⟩:=D k6 (n:=5) (by omega);obtain⟨v8,k8,e8,a8,b8,c8,-,-⟩:=D k7 (n:=60) (by omega);obtain⟨v9,k9,e9,a9,b9,c9,-,-⟩:=D k8 (n:=2) (by omega);simp only[go_sem,e6,e7,e8,e9];rw[aa (by simp;omega),aa (by simp;omega)];obtain⟨f,hf,U,X⟩:=Zbp ⟨a6,b6⟩;obtain⟨b,hb,Y,a0⟩:=Q8p ⟨a7,b7⟩;rw[hf,hb,Ae (x:=1+v8),Ae (x:=3+v9)];by_cases T:aP=5
   ·rw[aa T,ab];exact en _ _ _ _ _ (by omega) (by omega) (by omega) (by omega) (by omega)
   ·rw[ab T];by_cases h6:aP=6
    ·rw[aa h6,aa h6];exact en _ _ _ _ _ (by omega) (by omega) (by omega) (by omega) (by omega)
    ·rw[ab h6];by_cases S:aP=4
     ·rw[aa S];exact en _ _ _ _ _ (by omega) (by omega) (by omega) (by omega) (λ_=>rfl)
     ·rw[ab S];exact en _ _ _ _ _ (by omega) (by omega) (by omega) (by omega) (λ_=>rfl)
theorem Zw1 (E:Src l) {p:Pt} (D:bd 100000000 p) {aP:Int} (G:1<=aP/\aP<=6) (k:Nat):
  ∃(it:Itm) (k':Nat),LK [I p.x,I p.y,I p.z,I aP, .vC Aa l,I k]=some (Ah it++[.vC Aa l,I k'])/\k<=k'/\it.fr=p/\it.aP=aP/\Made it/\Gv it:=
 Z2r (H0 E) (λD k=>Z5l E D (by omega) k) D G k
def Q4g:Pt->List Itm->Prop
 |_,[]=>True
 |p,it::l=>it.fr=p/\Q4g it.to l
structure Motions (B : Nat) (p : Pt) (l : List Itm) : Prop where
 Dm:Q4g p l
 made:∀it∈l,Made it/\Gv it/\it.aP<=3/\bd B it.fr/\bd B it.to
theorem Ql2 {it:Itm} (h:ArcMade a it) (J:a<=1000) (hf:bd i it.fr):bd (i+2*(12+a.toNat)) it.to/\bd (i+8+a.toNat) it.ce:=by
 obtain⟨r,k,t,g,x,L,M,N,O,S,T,U,V,X,G,I,D,E⟩:=h.ends;obtain⟨Y,q2,q3⟩:=Iz (pl:=it.aG) hf;obtain⟨⟨r1,r2⟩,r3,r4⟩:=Qg (r:=r) (k:=k) (by omega);obtain⟨⟨r5,r6⟩,r7,r8⟩:=Qg (r:=r+g) (k:=k+t) (by omega);rw[D,E];unfold bd spP;constructor<;>split<;>(try split)<;>refine⟨?_,?_,?_⟩<;>simp only<;>omega
theorem Qwo {it:Itm} (h:Made it) (hf:bd i it.fr):bd (i+40) it.to:=by
 by_cases D:it.aP=3
 ·exact Bf (Ql2 (h.arc D) (by omega) hf).1 (by omega)
 ·obtain⟨E,G,I⟩:=h.line D;obtain⟨g1,g2,J⟩:=hf;exact⟨by omega,by omega,by omega⟩
instance (pl:Int):Decidable (DB pl):=by unfold DB;infer_instance
instance (A:Nat) (p:Pt):Decidable (bd A p):=by unfold bd;infer_instance
def dU (it:Itm) (p:Pt):Int:=plU it.aG p-plU it.aG it.ce
def dW (it:Itm) (p:Pt):Int:=plW it.aG p-plW it.aG it.ce
def sq2 (u w:Int):Int:=u*u+w*w
def crs (u w x y:Int):Int:=u*y-w*x
def dt2 (u w x y:Int):Int:=u*x+w*y
def qA (it:Itm):Int:=sq2 (dU it it.fr) (dW it it.fr)
def qB (it:Itm):Int:=sq2 (dU it it.to) (dW it it.to)
def cAB (it:Itm):Int:=crs (dU it it.fr) (dW it it.fr) (dU it it.to) (dW it it.to)
def dAB (it:Itm):Int:=dt2 (dU it it.fr) (dW it it.fr) (dU it it.to) (dW it it.to)
def IW (X Y:Int):Prop:=X+Y-16<=0\/(X+Y-16)*(X+Y-16)<=4*X*Y
def Qjw (it:Itm):Prop:=64<=qA it/\64<=qB it/\IW (qA it) (qB it)/\(it.bI=true->dU it it.fr=dU it it.to/\dW it it.fr=dW it it.to)/\(it.bI=false->cAB it≠0\/dAB it<0)
def Zst (it:Itm):Prop:=DB it.aG/\(it.dir=1\/it.dir= -1)/\bd 1048576 it.ce/\Qjw it
def Ed (it:Itm):Prop:=(1<=it.aP/\it.aP<=6)/\bd 1048576 it.fr/\bd 1048576 it.to/\(it.aP=3->Zst it)
theorem Qer {it:Itm} {b c:Nat} (D:bd c it.ce) (h:bd b q):(dU it q).natAbs<=b+c/\(dW it q).natAbs<=b+c:=by
 obtain⟨E,G,I⟩:=Iz (pl:=it.aG) h;obtain⟨g1,g2,J⟩:=Iz (pl:=it.aG) D;unfold dU dW;omega
theorem Q55 (x:Int) {b:Nat} (h:x.natAbs<=b):0<=x*x/\x*x<=((b*b:Nat):Int):=by
 have D:=IH h h;have E:0<=x*x:=by rw[<-gn];omega
 omega
theorem Ze0 {u w:Int} (D:u.natAbs<=i) (E:w.natAbs<=i):0<=sq2 u w/\sq2 u w<=((2*(i*i):Nat):Int):=by
 have G:=Q55 u D;have I:=Q55 w E;unfold sq2;omega
theorem Q5l {u w x y:Int} {b c:Nat} (D:u.natAbs<=b) (E:w.natAbs<=b) (G:x.natAbs<=c) (I:y.natAbs<=c):(dt2 u w x y).natAbs<=2*(b*c)/\(crs u w x y).natAbs<=2*(b*c):=by
 have J:=IH D G;have L:=IH E I;have M:=IH D I;have N:=IH E G;unfold dt2 crs;omega
theorem Zil (D:64<=X) (E:64<=a):IW X a↔(max X a-min X a-16<=0\/(max X a-min X a-16)*(max X a-min X a-16)<=64*min X a):=by
 unfold IW;have key:∀M m:Int,64<=M->64<=m->m<=M->((M+m-16<=0\/(M+m-16)*(M+m-16)<=4*M*m)↔(M-m-16<=0\/(M-m-16)*(M-m-16)<=64*m)):=by
  intro M m I J L;have e:(M-m-16)*(M-m-16)-64*m=(M+m-16)*(M+m-16)-4*M*m:=by grind
  by_cases G:M-m-16<=0
  ·refine iff_of_true (.inr ?_) (.inl G);have N:(16-(M-m))*(M-m+16)>=0:=gq (by omega) (by omega);have O:(M+m-16)*(M+m-16)-4*M*m=512-(16-(M-m))*(M-m+16)-32*(M+m):=by grind
   omega
  ·constructor
   ·rintro(h|h)
    ·omega
    ·exact .inr (by omega)
   ·rintro(h|h)
    ·omega
    ·exact .inr (by omega)
 by_cases h:X<=a
 ·rw[Int.max_eq_right h,Int.min_eq_left h,<-key a X E D h];have e1:X+a-16=a+X-16:=by omega
  have e2:4*X*a=4*a*X:=by grind
  rw[e1,e2]
 ·rw[kj (by omega),Int.min_eq_right (by omega),<-key X a D E (by omega)]
theorem Zqx (p:Pt):OC [I p.x,I p.y,I p.z]=some [B (decide (bd 1048576 p))]:=by
 unfold OC;rw[Zq9];simp only[go_sem];by_cases h:bd 1048576 p
 ·obtain⟨M,N,O⟩:=h;rw[ab,ab,ab,ab,ab,ab];congr 3;symm;exact al ⟨M,N,O⟩
 ·have e:decide (bd 1048576 p)=false:=am h;rw[e];unfold bd at h;by_cases D:p.x< -1048576
  ·rw[aa D]
  rw[ab D];by_cases E:p.x>1048576
  ·rw[aa E]
  rw[ab E];by_cases G:p.y< -1048576
  ·rw[aa G]
  rw[ab G];by_cases J:p.y>1048576
  ·rw[aa J]
  rw[ab J];by_cases L:p.z< -1048576
  ·rw[aa L]
  rw[ab L,aa]
def axI (pl:Int):Int×Int×Int:=if pl=17 then(0,1,2)else if pl=18 then(2,0,1)else if pl=19 then(1,2,0)else(0,0,0)
theorem Qhw (pl:Int):Gf [I pl]=some [I (axI pl).1,I (axI pl).2.1,I (axI pl).2.2,B (decide (DB pl))]:=by
 unfold Gf;rw[Z35];simp only[go_sem];unfold axI DB;by_cases D:pl=17
 ·rw[aa D,aa D];simp[D]
 rw[ab D,ab D];by_cases E:pl=18
 ·rw[aa E,aa E];simp[E]
 rw[ab E,ab E];by_cases G:pl=19
 ·rw[aa G,aa G];simp[G]
 rw[ab G,ab G];simp[D,E,G]
theorem Z9b (E:∀pl:Int,M [I pl]=some [I (axI pl).1,I (axI pl).2.1,I (axI pl).2.2,B (decide (DB pl))]) {p:Pt} {pl:Int} (D:DB pl):
  We M [I p.x,I p.y,I p.z,I pl]=some [I (plU pl p),I (plW pl p),I (plH pl p)]:=by
 rw[Yat];simp only[go_sem,E];rw[ab (by simpa using D)];rcases D with rfl|rfl|rfl<;>rfl
theorem Qyl (D:DB a):IK [I q.x,I q.y,I q.z,I a]=some [I (plU a q),I (plW a q),I (plH a q)]:=Z9b Qhw D
def AE (p:Pt):Pt:=⟨p.x*16,p.y*16,p.z*16⟩
theorem FW (h:bd i q):bd (i*16) (AE q):=by
 obtain⟨D,E,G⟩:=h;unfold AE;exact⟨by simp only;omega,by simp only;omega,by simp only;omega⟩
theorem US (pl:Int) (p:Pt):plU pl (AE p)=plU pl p*16/\plW pl (AE p)=plW pl p*16/\plH pl (AE p)=plH pl p*16:=by
 unfold plU plW plH AE;refine⟨?_,?_,?_⟩<;>split<;>(try split)<;>rfl
theorem Q5o (h:bd 100000000 q):H6 [I q.x,I q.y,I q.z]=some (ptR (AE q)):=by
 unfold H6;rw[Zpo];obtain⟨D,E,G⟩:=h;rw[Ae,Ae,Ae];rfl
theorem Qla {u w r h x y s g:Int} (D:u.natAbs<=1000000000) (E:w.natAbs<=1000000000) (G:x.natAbs<=1000000000) (J:y.natAbs<=1000000000):G_ [I u,I w,I r,I h,I x,I y,I s,I g]=some [I (dt2 u w x y)]:=by
 unfold G_;rw[Zz7];have L:=IH D G;have M:=IH E J;unfold dt2;rw[Ae (x:=u*x),Ae (x:=w*y),Ae]
theorem Qod {u w r h x y s g:Int} (D:u.natAbs<=1000000000) (E:w.natAbs<=1000000000) (G:x.natAbs<=1000000000) (J:y.natAbs<=1000000000):HD [I u,I w,I r,I h,I x,I y,I s,I g]=some [I (crs u w x y)]:=by
 unfold HD;rw[Zpr];have L:=IH D J;have M:=IH E G;unfold crs;rw[Ae (x:=u*y),Ae (x:=w*x),Ae]
theorem Zit (J:∀{a b c d:Int},i64 a->i64 b->i64 c->i64 d->M [I a,I b,I c,I d]=some [I (L4 (a*b) (c*d))]) {X Y:Int} (L:64<=X/\X<=1000000000000000) (N:64<=Y/\Y<=1000000000000000):
  ∃v,Ze M [I X,I Y]=some [B v]/\(v=true↔IW X Y):=by
 rw[Zte,Zil L.1 N.1];have E:mx X Y=max X Y:=by unfold mx;rw[Int.max_def];split<;>split<;>omega
 have G:mn X Y=min X Y:=by unfold mn;rw[Int.min_def];split<;>split<;>omega
 have O:max X Y<=1000000000000000/\64<=max X Y:=by omega
 have S:min X Y<=1000000000000000/\64<=min X Y:=by omega
 rw[E,G];generalize max X Y=a at*;generalize min X Y=b at*;simp only[go_sem];rw[Ae (x:=a-b),Ae (x:=a-b-16)];by_cases D:a-b-16<=0
 ·rw[aa D];exact⟨_,rfl,iff_of_true rfl (.inl D)⟩
 ·rw[ab D,J (by unfold i64;omega) (by unfold i64;omega) (by unfold i64;omega) (by unfold i64;omega)];refine⟨_,rfl,?_⟩;simp only[go_sem,cz,Z1q];exact⟨λh=> .inr h,λh=>h.resolve_left D⟩
theorem Zl1 (D:64<=X/\X<=1000000000000000) (E:64<=a/\a<=1000000000000000):∃v,QS [I X,I a]=some [B v]/\(v=true↔IW X a):=Zit Z6q D E
theorem Z2o {it:Itm} (E:∀p:Pt,M [I p.x,I p.y,I p.z,I it.aG]=some [I (plU it.aG p),I (plW it.aG p),I (plH it.aG p)]) (G:∀{p:Pt},bd 100000000 p->Z [I p.x,I p.y,I p.z]=some (ptR (AE p)))
  (N:bd 1048576 it.fr) (O:bd 1048576 it.to) (S:bd 1048576 it.ce):
  Zp M Z (Am (Qst M Z)) (Ah it)=some [I (dU it it.fr*16),I (dW it it.fr*16),I 0,I (plH it.aG it.fr*16),I (dU it it.to*16),I (dW it it.to*16),I 0,I (plH it.aG it.to*16)]:=by
 rw[Zyv];obtain⟨q1,q2,q3⟩:=Iz (pl:=it.aG) N;obtain⟨q4,q5,q6⟩:=Iz (pl:=it.aG) O;obtain⟨q7,q8,q9⟩:=Iz (pl:=it.aG) S;simp only[G (Bf S (by omega)),E,go_sem];have w0:V (0+1)=1:=Ae;have T:V (1+1)=2:=Ae;have J:=US it.aG it.fr;have L:=US it.aG it.to;have D:=US it.aG it.ce;have U:V (plU it.aG (AE it.fr)-plU it.aG (AE it.ce))=dU it it.fr*16:=by rw[J.1,D.1];unfold dU;rw[Ae];omega
 have X:V (plW it.aG (AE it.fr)-plW it.aG (AE it.ce))=dW it it.fr*16:=by rw[J.2.1,D.2.1];unfold dW;rw[Ae];omega
 have Y:V (plU it.aG (AE it.to)-plU it.aG (AE it.ce))=dU it it.to*16:=by rw[L.1,D.1];unfold dU;rw[Ae];omega
 have u4:V (plW it.aG (AE it.to)-plW it.aG (AE it.ce))=dW it it.to*16:=by rw[L.2.1,D.2.1];unfold dW;rw[Ae];omega
 have b1:bd 100000000 it.fr:=Bf N (by omega);have b2:bd 100000000 it.to:=Bf O (by omega);have e1:=G b1;have e2:=G b2;rw[BE (by rw[Qqs];simp only[go_sem,e1,e2,E,U,X,w0];rfl),BE (by rw[Qqs];simp only[go_sem,e1,e2,E,Y,u4,T];rfl),
  Bg (o:=(1,_)) (by rw[Qqs];simp only[go_sem];rfl) (by simp)]
 simp only[go_sem,J.2.2,L.2.2]
theorem Zei {it:Itm} (D:DB it.aG) (E:bd 1048576 it.fr) (G:bd 1048576 it.to) (J:bd 1048576 it.ce):
  Ln (Ah it)=some [I (dU it it.fr*16),I (dW it it.fr*16),I 0,I (plH it.aG it.fr*16),I (dU it it.to*16),I (dW it it.to*16),I 0,I (plH it.aG it.to*16)]:=
 Z2o (λ_=>Qyl D) Q5o E G J
theorem Ybn {N:Fn} {X Y C D L O M S:Int} {bI:Bool} (hX:0<=X/\X<=1000000000000000) (hY:0<=Y/\Y<=1000000000000000)
  (hN:∀{X Y:Int},(64<=X/\X<=1000000000000000)->(64<=Y/\Y<=1000000000000000)->∃v,N [I X,I Y]=some [B v]/\(v=true↔IW X Y)):
  ∃ v, (if X * 256 < V (128 * 128) then some [B false] else if Y * 256 < V (128 * 128) then some [B false] else
   (N [I (V ((X*256).tdiv 256)),I (V ((Y*256).tdiv 256))]).bind λo=>
   if¬CU (nth .vD o 0)=true then some [B false]else if bI=true then if L*16=M*16 then some [B (O*16==S*16)]else some [B false]else if C*256≠0 then some [B true]else some [B (decide (D*256<0))])=some [B v]/\
   (v=true↔64<=X/\64<=Y/\IW X Y/\(bI=true->L=M/\O=S)/\(bI=false->C≠0\/D<0)):=by
 rw[Ae (x:=128*128),Int.mul_tdiv_cancel _ (by omega),Int.mul_tdiv_cancel _ (by omega),Ae (x:=X),Ae (x:=Y)];by_cases T:X*256<128*128
 ·rw[aa T];exact⟨_,rfl,iu (by simp) λh=>by omega⟩
 rw[ab T];by_cases U:Y*256<128*128
 ·rw[aa U];exact⟨_,rfl,iu (by simp) λh=>by omega⟩
 rw[ab U];obtain⟨v,h1,h2⟩:=hN (X:=X) (Y:=Y) (by omega) (by omega);simp only[h1,go_sem];by_cases J:v=true
 case neg=>rw[aa J];exact⟨_,rfl,iu (by simp) λh=>J (h2.2 h.2.2.1)⟩
 rw[ab (by simpa using J)];have E:=h2.1 J;cases bI with
 |true=>
  rw[aa rfl];by_cases G:L*16=M*16
  ·rw[aa G];refine⟨_,rfl,?_⟩;simp only[beq_iff_eq];exact⟨λh=>⟨by omega,by omega,E,λ_=>⟨by omega,by omega⟩,λh=>by simp at h⟩,λh=>by have:=(h.2.2.2.1 trivial).2;omega⟩
  ·rw[ab G];exact⟨_,rfl,iu (by simp) λh=>G (by have:=(h.2.2.2.1 rfl).1;omega)⟩
 |false=>
  rw[ab (by simp)];by_cases G:C*256≠0
  ·rw[aa G];exact⟨_,rfl,iff_of_true rfl ⟨by omega,by omega,E,λh=>by simp at h,λ_=> .inl (by omega)⟩⟩
  ·rw[ab G];refine⟨_,rfl,?_⟩;simp only[cz];exact⟨λh=>⟨by omega,by omega,E,λh=>by simp at h,λ_=> .inr (by omega)⟩,λh=>by have:=(h.2.2.2.2 trivial);omega⟩
theorem Q7p (a b c d:Int):dt2 (a*16) (b*16) (c*16) (d*16)=dt2 a b c d*256/\crs (a*16) (b*16) (c*16) (d*16)=crs a b c d*256:=by
 unfold dt2 crs;constructor<;>grind
theorem Zod (hA:∀pl:Int,P [I pl]=some [I (axI pl).1,I (axI pl).2.1,I (axI pl).2.2,B (decide (DB pl))]) (hW:∀p:Pt,O [I p.x,I p.y,I p.z]=some [B (decide (bd 1048576 p))])
  {it:Itm} (hE:DB it.aG->bd 1048576 it.fr->bd 1048576 it.to->bd 1048576 it.ce->S (Ah it)=some [I (dU it it.fr*16),I (dW it it.fr*16),I 0,I (plH it.aG it.fr*16),I (dU it it.to*16),I (dW it it.to*16),I 0,I (plH it.aG it.to*16)])
  (hD:∀{u w r h x y s g:Int},u.natAbs<=1000000000->w.natAbs<=1000000000->x.natAbs<=1000000000->y.natAbs<=1000000000->W [I u,I w,I r,I h,I x,I y,I s,I g]=some [I (dt2 u w x y)])
  (hX:∀{u w r h x y s g:Int},u.natAbs<=1000000000->w.natAbs<=1000000000->x.natAbs<=1000000000->y.natAbs<=1000000000->M [I u,I w,I r,I h,I x,I y,I s,I g]=some [I (crs u w x y)])
  (hN:∀{X Y:Int},(64<=X/\X<=1000000000000000)->(64<=Y/\Y<=1000000000000000)->∃v,Z [I X,I Y]=some [B v]/\(v=true↔IW X Y)):
  ∃v,Qqn M Z W S P O (Ah it)=some [B v]/\(v=true↔Ed it):=by
 rw[Zze];simp only[go_sem,hW,hA];by_cases c1:it.aP<1
 ·rw[aa c1];exact⟨_,rfl,iu (by simp) λh=>by have:=h.1;omega⟩
 rw[ab c1];by_cases N:it.aP>6
 ·rw[aa N];exact⟨_,rfl,iu (by simp) λh=>by have:=h.1;omega⟩
 rw[ab N];by_cases E:bd 1048576 it.fr
 case neg=>rw[aa (by simpa using E)];exact⟨_,rfl,iu (by simp) λh=>E h.2.1⟩
 rw[ab (by simpa using E)];by_cases G:bd 1048576 it.to
 case neg=>rw[aa (by simpa using G)];exact⟨_,rfl,iu (by simp) λh=>G h.2.2.1⟩
 rw[ab (by simpa using G)];by_cases J:it.aP=3
 case neg=>rw[aa J];exact⟨_,rfl,iff_of_true rfl ⟨by omega,E,G,λh=>absurd h J⟩⟩
 rw[ab (by simpa using J)];by_cases U:DB it.aG
 case neg=>rw[aa (by simpa using U)];exact⟨_,rfl,iu (by simp) λh=>U (h.2.2.2 J).1⟩
 rw[ab (by simpa using U)];by_cases D:bd 1048576 it.ce
 case neg=>
  refine⟨false,?_,iu (by simp) λh=>D (h.2.2.2 J).2.2.1⟩;split
  ·split
   ·rfl
   ·first|rfl|(rw[aa D])
  ·first|rfl|(rw[aa D])
 by_cases c6:it.dir=1\/it.dir= -1
 case neg=>
  rw[aa (c:=it.dir≠1),aa (c:=it.dir≠-1)];exact⟨false,rfl,iu (by simp) λh=>c6 (h.2.2.2 J).2.1⟩
 have L:=hE U E G D;obtain⟨b1,b2⟩:=Qer (it:=it) D E;obtain⟨b3,b4⟩:=Qer (it:=it) D G;simp only[Ah]at L;have x1:=Ze0 b1 b2;have x2:=Ze0 b3 b4;have core:Ed it↔64<=qA it/\64<=qB it/\IW (qA it) (qB it)/\(it.bI=true->dU it it.fr=dU it it.to/\dW it it.fr=dW it it.to)/\(it.bI=false->cAB it≠0\/dAB it<0):=
  ⟨λh=>(h.2.2.2 J).2.2.2,λh=>⟨by omega,E,G,λ_=>⟨U,c6,D,h⟩⟩⟩
 rw[core];have a0:0<=qA it/\qA it<=1000000000000000:=⟨x1.1,by unfold qA;omega⟩;have a1:0<=qB it/\qB it<=1000000000000000:=⟨x2.1,by unfold qB;omega⟩;have V:= @hD (dU it it.fr*16) (dW it it.fr*16) 0 (plH it.aG it.fr*16) (dU it it.fr*16) (dW it it.fr*16) 0 (plH it.aG it.fr*16) (by omega) (by omega) (by omega) (by omega);have D2:= @hD (dU it it.to*16) (dW it it.to*16) 0 (plH it.aG it.to*16) (dU it it.to*16) (dW it it.to*16) 0 (plH it.aG it.to*16) (by omega) (by omega) (by omega) (by omega);have D3:= @hD (dU it it.fr*16) (dW it it.fr*16) 0 (plH it.aG it.fr*16) (dU it it.to*16) (dW it it.to*16) 0 (plH it.aG it.to*16) (by omega) (by omega) (by omega) (by omega);have D4:= @hX (dU it it.fr*16) (dW it it.fr*16) 0 (plH it.aG it.fr*16) (dU it it.to*16) (dW it it.to*16) 0 (plH it.aG it.to*16) (by omega) (by omega) (by omega) (by omega);rw[(Q7p _ _ _ _).1]at V D2 D3;rw[(Q7p _ _ _ _).2]at D4;have e1:dt2 (dU it it.fr) (dW it it.fr) (dU it it.fr) (dW it it.fr)=qA it:=rfl;have e2:dt2 (dU it it.to) (dW it it.to) (dU it it.to) (dW it it.to)=qB it:=rfl;have e3:dt2 (dU it it.fr) (dW it it.fr) (dU it it.to) (dW it it.to)=dAB it:=rfl;have e4:crs (dU it it.fr) (dW it it.fr) (dU it it.to) (dW it it.to)=cAB it:=rfl;rw[e1]at V;rw[e2]at D2;rw[e3]at D3;rw[e4]at D4;have T:= @Ybn Z (qA it) (qB it) (cAB it) (dAB it) (dU it it.fr) (dW it it.fr) (dU it it.to) (dW it it.to) it.bI a0 a1 hN;have n7: ¬ ¬bd 1048576 it.ce:=λh=>h D;by_cases d1:it.dir=1
 ·rw[ab (c:=it.dir≠1) (λh=>h d1),ab n7];simp only[L,go_sem,V,D2,D3,D4];exact T
 ·rw[aa (c:=it.dir≠1) d1,ab (c:=it.dir≠-1),ab n7];simp only[L,go_sem,V,D2,D3,D4];exact T
theorem Qqa (it:Itm):∃v,Hn (Ah it)=some [B v]/\(v=true↔Ed it):=
 Zod Qhw Zqx (λD E G I=>Zei D E G I) Qla Qod Zl1
def okS (s:Spk):Prop:=s.u.natAbs<=50000000/\s.w.natAbs<=50000000/\(0<=s.r/\s.r<=50000000)/\s.h.natAbs<=16777216
def hf (a b:Int):Int:=(a+b+1)/2
def DZ (a b:Spk) (dir:Int) (bI:Bool):Int×Int:=
 if bI=true then(-a.u,-a.w)
 else if 0<dt2 a.u a.w b.u b.w/\0<crs a.u a.w b.u b.w*dir then(a.u+b.u,a.w+b.w)
 else if 0<dt2 a.u a.w b.u b.w then(-(a.u+b.u),-(a.w+b.w))
 else(dir*(b.w-a.w),dir*(a.u-b.u))
noncomputable def Id (a b:Spk) (u w:Int):Spk:=if u=0/\w=0 then⟨0,0,0,0⟩else⟨Cu u (hf a.r b.r) (sq2 u w),Cu w (hf a.r b.r) (sq2 u w),hf a.r b.r,hf a.h b.h⟩
noncomputable def Ft (a b:Spk) (dir:Int) (bI:Bool):Spk:=Id a b (DZ a b dir bI).1 (DZ a b dir bI).2
theorem Pf {a b:Spk} (D:okS a) (hb:okS b) {dir:Int} (E:dir=1\/dir= -1) (bI:Bool):(DZ a b dir bI).1.natAbs<=100000000/\(DZ a b dir bI).2.natAbs<=100000000:=by
 obtain⟨a1,a2,-⟩:=D;obtain⟨b1,b2,-⟩:=hb;unfold DZ;split
 ·exact⟨by simp only;omega,by simp only;omega⟩
 ·split
  ·exact⟨by simp only;omega,by simp only;omega⟩
  ·split
   ·exact⟨by simp only;omega,by simp only;omega⟩
   ·rcases E with rfl|rfl
    ·exact⟨by simp only;omega,by simp only;omega⟩
    ·exact⟨by simp only;omega,by simp only;omega⟩
theorem Zb3 (u w:Int):u*u<=sq2 u w/\w*w<=sq2 u w:=by
 have D:=Gk u;have E:=Gk w;unfold sq2;omega
theorem SV {u w:Int} (h: ¬(u=0/\w=0)):0<sq2 u w:=by
 have G:=Gk u;have I:=Gk w;have z:∀u:Int,u*u=0->u=0:=λu E=>by
  rcases Int.mul_eq_zero.1 E with h|h<;>exact h
 have J: ¬(u*u=0/\w*w=0):=λD=>h ⟨z _ D.1,z _ D.2⟩;unfold sq2;omega
theorem Q63 (D:0<=a/\a<=50000000) (hb:0<=b/\b<=50000000):0<=hf a b/\hf a b<=50000000:=by unfold hf;omega
theorem Zj2 (D:a.natAbs<=16777216) (hb:b.natAbs<=16777216):(hf a b).natAbs<=16777216:=by unfold hf;omega
theorem Zfu {u w r:Int} (D:u.natAbs<=100000000) (E:w.natAbs<=100000000) (N:0<=r/\r<=50000000) (h: ¬(u=0/\w=0)):
  (True/\(Cu u r (sq2 u w)).natAbs<=r.natAbs)/\(True/\(Cu w r (sq2 u w)).natAbs<=r.natAbs):=by
 have O:=SV h;have S:=Eg D;have T:=Eg E;have U:sq2 u w<=20000000000000000:=by unfold sq2;omega
 obtain⟨G,I⟩:=Zb3 u w;have key:∀x:Int,x.natAbs<=100000000->x*x<=sq2 u w->True/\(Cu x r (sq2 u w)).natAbs<=r.natAbs:=by
  intro x J L;obtain⟨g1,-,M⟩:=Un (x:=x) (r:=r) (n:=sq2 u w) (cq J (by decide)) (by omega) (by omega) L;refine⟨g1,Yo (by omega) ?_ M⟩;have:((x.natAbs*x.natAbs:Nat):Int)=x*x:=gn;omega
 exact⟨key u D G,key w E I⟩
theorem Zi6 {a b:Spk} (D:okS a) (hb:okS b) {u w:Int} (G:u.natAbs<=100000000) (I:w.natAbs<=100000000):okS (Id a b u w):=by
 unfold Id;split
 ·exact⟨by simp,by simp,by simp,by simp⟩
 ·rename_i h;have E:=Q63 D.2.2.1 hb.2.2.1;obtain⟨⟨-,J⟩,-,L⟩:=Zfu G I E h;exact⟨by simp only;omega,by simp only;omega,E,Zj2 D.2.2.2 hb.2.2.2⟩
theorem Q04 {a b:Spk} (D:okS a) (hb:okS b) {dir:Int} (E:dir=1\/dir= -1) (bI:Bool):okS (Ft a b dir bI):=
 Zi6 D hb (Pf D hb E bI).1 (Pf D hb E bI).2
theorem HW {x:Int} (h:x.natAbs<=50000000):x.natAbs<=1000000000:=cq h (by decide)
def I7 (a b:Spk) (dir:Int) (bI:Bool):Prop:=bI=false/\0<crs a.u a.w b.u b.w*dir/\sq2 (a.u-b.u) (a.w-b.w)<=32*mn a.r b.r-64
instance {a b:Spk} {dir:Int} {bI:Bool}:Decidable (I7 a b dir bI):=by unfold I7;infer_instance
noncomputable def Ev (dir:Int):Nat->Bool->Spk->Spk->List Spk
 |0,_,_,b=>[b]
 |k+1,bI,a,b=>if I7 a b dir bI then [b]else Ev dir k false a (Ft a b dir bI)++Ev dir k false (Ft a b dir bI) b
theorem VZ {dir:Int}:∀(k:Nat) (bI:Bool) (a b:Spk),1<=(Ev dir k bI a b).length/\(Ev dir k bI a b).length<=2^k
 |0,_,_,b=>by simp[Ev]
 |k+1,bI,a,b=>by
  have D:0<2^k:=gv _;have e3:2^(k+1)=2^k+2^k:=by rw[jr];omega
  unfold Ev;split
  ·simp;omega
  ·have E:=VZ k false a (Ft a b dir bI) (dir:=dir);have G:=VZ k false (Ft a b dir bI) b (dir:=dir);rw[an];omega
theorem WA {dir:Int} (E:dir=1\/dir= -1):∀(k:Nat) (bI:Bool) {a b:Spk},okS a->okS b->∀s∈Ev dir k bI a b,okS s
 |0,_,a,b,_,hb,s,D=>by simp[Ev]at D;subst D;exact hb
 |k+1,bI,a,b,G,hb,s,D=>by
  unfold Ev at D;have I:=Q04 G hb E bI;split at D
  ·simp at D;subst D;exact hb
  ·rcases ba.1 D with D|D
   ·exact WA E k false G I s D
   ·exact WA E k false I hb s D
theorem Zob {n i j:Int} (E:JY n i) (G:JY n j):i=j:=by
 have key:∀{i j:Int},JY n i->JY n j-> ¬i<j:=by
  rintro i j ⟨I,J,-⟩ ⟨M,N,D⟩ L;rcases D with D|D
  ·omega
  ·have O:=f6 (show i<=j-1 by omega) (show i+1<=j by omega) (by omega) (by omega);omega
 have I:=key E G;have J:=key G E;omega
open Classical in
noncomputable def Gm (n:Int):Int:=if h:∃j,JY n j then Classical.choose h else 0
theorem T1 {n k:Int} (h:JY n k):Gm n=k:=by
 have D:∃j,JY n j:=⟨k,h⟩;unfold Gm;rw[kz D];exact Zob (fj D) h
theorem Ux {n r:Nat} (D:r*r<=n) (E:n<(r+1)*(r+1)):JY n (if r*r+r<n then r+1 else r:Nat):=by
 have e0:(r+1)*(r+1)=r*r+r+r+1:=by grind
 unfold JY;by_cases c:r*r+r<n
 ·rw[aa c];have e1:((r+1:Nat):Int)*(((r+1:Nat):Int)+1)=((r*r+r+r+r+2:Nat):Int):=by
   have:((r+1:Nat):Int)+1=((r+2:Nat):Int):=by omega
   rw[this,<-dg];congr 1
   grind
  have e2:(((r+1:Nat):Int)-1)*((r+1:Nat):Int)=((r*r+r:Nat):Int):=by
   rw[show((r+1:Nat):Int)-1=(r:Int) by omega,<-dg];congr 1
  rw[e1,e2];generalize r*r=A at*;exact⟨by omega,by omega, .inr (by omega)⟩
 ·rw[ab c];have e1:(r:Int)*((r:Int)+1)=((r*r+r:Nat):Int):=by
   rw[show(r:Int)+1=((r+1:Nat):Int) by omega,<-dg];congr 1
  rw[e1];refine⟨by omega,by omega,?_⟩;rcases ez r with h|h
  ·left;omega
  ·right;have e2:((r:Int)-1)*(r:Int)=(((r-1)*r:Nat):Int):=by
    rw[show(r:Int)-1=((r-1:Nat):Int) by omega];exact(dg _ _).symm
   have:=fd (show r-1<r by omega) h;rw[e2];omega
noncomputable def Fg (it:Itm) (p:Pt):Spk:=⟨dU it p*16,dW it p*16,Gm (sq2 (dU it p*16) (dW it p*16)),plH it.aG p*16⟩
theorem Zsb {n:Nat} (I:n<=2251799813685248):0<=Gm n/\Gm n<=50000000:=by
 obtain⟨r,-,D,E,-⟩:=VT (n:=n) (by omega);have G:=Ux D E;rw[T1 G];have:r<50000000:=by
  by_cases c:r<50000000
  ·exact c
  ·have:=fv (show 50000000<=r by omega) (show 50000000<=r by omega);omega
 split<;>omega
theorem Rz {it:Itm} (G:bd 1048576 it.ce) (I:bd 1048576 q):(dU it q*16).natAbs<=33554432/\(dW it q*16).natAbs<=33554432/\0<=sq2 (dU it q*16) (dW it q*16)/\sq2 (dU it q*16) (dW it q*16)<=2251799813685248:=by
 obtain⟨J,L⟩:=Qer G I;have D:(dU it q*16).natAbs<=33554432:=by omega
 have E:(dW it q*16).natAbs<=33554432:=by omega
 have M:=Eg D;have N:=Eg E;refine⟨D,E,?_⟩;unfold sq2;omega
theorem UZ {it:Itm} (E:bd 1048576 it.ce) (D:bd 1048576 q):okS (Fg it q):=by
 obtain⟨G,I,J,L⟩:=Rz E D;have N:=(Iz (pl:=it.aG) D).2.2;obtain⟨n,M⟩:=cg J;refine⟨cq G (by decide),cq I (by decide),?_,?_⟩
 ·show 0<=Gm _/\Gm _<=_;rw[M]at L⊢;exact Zsb (by omega)
 ·show(plH it.aG q*16).natAbs<=_;omega
noncomputable def Es (it:Itm):List Spk:=Fg it it.fr::Ev it.dir 16 it.bI (Fg it it.fr) (Fg it it.to)
theorem Q9o {it:Itm} (h:Ed it) (I:it.aP=3):∀s∈Es it,okS s:=by
 obtain⟨-,G,J,L⟩:=h;obtain⟨N,M,D,-⟩:=L I;intro s E;rcases ao.1 E with rfl|E
 ·exact UZ D G
 ·exact WA M 16 _ (UZ D G) (UZ D J) s E
theorem Qzq (it:Itm):2<=(Es it).length/\(Es it).length<=65537:=by
 have:=VZ (dir:=it.dir) 16 it.bI (Fg it it.fr) (Fg it it.to);have e:(2:Nat)^16=65536:=rfl;rw[e]at this;unfold Es;rw[bh];omega
noncomputable def J5 (it:Itm) (s:Spk):Pt:=spP it.aG (plU it.aG (AE it.ce)+s.u) (plW it.aG (AE it.ce)+s.w) s.h
noncomputable def CV (it:Itm):List Pt:=if it.aP=3 then(Es it).map (J5 it)else [AE it.fr,AE it.to]
theorem Zag {pl u w h:Int} (D:u.natAbs<=i) (E:w.natAbs<=i) (G:h.natAbs<=i):bd i (spP pl u w h):=by
 unfold spP bd;split
 ·exact⟨D,E,G⟩
 ·split
  ·exact⟨E,G,D⟩
  ·exact⟨G,D,E⟩
theorem Zn7 {it:Itm} {s:Spk} (D:bd 1048576 it.ce) (E:okS s):bd 67108864 (J5 it s):=by
 obtain⟨G,I,-⟩:=Iz (pl:=it.aG) (FW D);obtain⟨s1,s2,-,J⟩:=E;exact Zag (by omega) (by omega) (by omega)
theorem Qfy {it:Itm} (h:Ed it):∀p∈CV it,bd 67108864 p:=by
 intro p D;unfold CV at D;split at D
 ·rename_i E;simp only[bc]at D;obtain⟨s,G,rfl⟩:=D;exact Zn7 (h.2.2.2 E).2.2.1 (Q9o h E s G)
 ·simp at D;rcases D with rfl|rfl
  ·exact Bf (FW h.2.1) (by decide)
  ·exact Bf (FW h.2.2.1) (by decide)
theorem Q0x (it:Itm):2<=(CV it).length/\(CV it).length<=65537:=by
 have:=Qzq it;unfold CV;split<;>simp<;>omega
def HL (t:Itm) (aS:Int):Int:=if t.aP=1 then 0 else mx (BF (mn (if t.perRev=true then t.aZ*mx aS 1 else t.aZ) 60000000*4096) 60000) 1
theorem Zot {f s:Int} (hf:0<=f/\f<=60000000) (E:0<=s/\s<=30000):0<=f*mx s 1/\f*mx s 1<=1800000000000:=by
 have D:1<=mx s 1/\mx s 1<=30000:=by unfold mx;split<;>omega
 generalize mx s 1=m at*;have G:=f6 hf.2 D.2 (by omega) (by omega);have I:=gq hf.1 (show 0<=m by omega);omega
theorem Q42 {x:Int} (h:0<=x):0<=mn x 60000000/\mn x 60000000<=60000000:=by unfold mn;split<;>omega
theorem Z0m {t:Itm} (hf:0<=t.aZ/\t.aZ<=60000000) (E:0<=k/\k<=30000)
  (D:∀a:Int,0<=a/\a<=60000000->M [I a,I 4096,I 60000,I 2]=some [I (BF (a*4096) 60000),B true]):WH M (Ah t++[I k])=some [I (HL t k)]:=by
 have G:=Zot hf E;have J:=D _ (Q42 G.1);have L:=D _ (Q42 hf.1);have N:V (t.aZ*mx k 1)=t.aZ*mx k 1:=Ae;simp only[Ah,ay,az];rw[Q0s,N];simp only[go_sem,J,L];unfold HL;by_cases g1:t.aP=1
 ·rw[aa g1,aa g1]
 ·rw[ab g1,ab g1];by_cases g2:t.perRev=true
  ·rw[aa g2,aa g2]
  ·rw[ab g2,ab g2]
theorem Ziv {t:Itm} (hf:0<=t.aZ/\t.aZ<=60000000) (D:0<=k/\k<=30000):Kl (Ah t++[I k])=some [I (HL t k)]:=
 Z0m hf D λa E=>Uv (by unfold i64;omega) (by unfold i64;omega) (by omega) (by have:a.natAbs*(4096:Int).natAbs<=60000000*4096:=fv (by omega) (by omega);omega)
def it0:Itm:=⟨0,0,⟨0,0,0⟩,⟨0,0,0⟩,0,⟨0,0,0⟩,0,false,0,false,0,0,0,0,0,false⟩
def vE (aA:List Itm) (i:Nat):Itm:=aA.getD i it0
theorem RA {aA:List Itm} (h:i<aA.length):vE aA i=aA[i]:=by unfold vE;simp[h]
theorem Zfh {aA:List Itm} (h:i<aA.length):vE aA i∈aA:=by rw[RA h];exact bf h
theorem F0 {aA:List Itm} (h:i<aA.length):nth [] (aA.map Ah) i=Ah (vE aA i):=by rw[RA h];exact GK _ _ _ _ h
theorem Sh {aA:List Itm} (h:i<aA.length):aA.drop i=vE aA i::aA.drop (i+1):=by rw[RA h];exact Py _ _ h
def AF (it:Itm):Prop:=1<=it.aP/\it.aP<=6
def smI (it:Itm):Prop:=it.aP=2/\it.fr≠it.to
def syI (it:Itm):Prop:=it.aP=5\/it.aP=6
instance (it:Itm):Decidable (AF it):=by unfold AF;infer_instance
instance (it:Itm):Decidable (smI it):=by unfold smI;infer_instance
instance (it:Itm):Decidable (syI it):=by unfold syI;infer_instance
def Bu (it:Itm):Pt:=⟨(it.fr.x+it.to.x)*8,(it.fr.y+it.to.y)*8,(it.fr.z+it.to.z)*8⟩
theorem L5 {it:Itm} (D:bd 1048576 it.fr) (E:bd 1048576 it.to):bd B24 (Bu it):=by
 unfold bd B24 Bu at*;simp only;omega
def Ha:List Itm->Nat->Int
 |[],_=> -1
 |it::l,k=>if it.aP=10 then Ha l (k+1)else if smI it then k else-1
def CA (aA:List Itm) (i:Nat):Int:=if smI (vE aA i)/\(vE aA i).bJ≠0 then Ha (aA.drop (i+1)) (i+1)else-1
theorem Qwc:∀(l:List Itm) (k:Nat),Ha l k= -1\/∃j:Nat,Ha l k=((k+j:Nat):Int)/\∃h:j<l.length,smI l[j]/\∀i (D:i<l.length),i<j->l[i].aP=10
 |[],_=> .inl rfl
 |it::l,k=>by
  unfold Ha;split
  ·rename_i E;rcases Qwc l (k+1)with h|⟨j,G,N,I,J⟩
   ·exact .inl h
   ·refine .inr ⟨j+1,by rw[G];omega,by simp;omega,by simpa using I,?_⟩;intro i D L;cases i with
    |zero=>simpa using E
    |succ i=>simpa using J i (by simpa using D) (by omega)
  ·split
   ·rename_i M;exact .inr ⟨0,by simp,by simp,by simpa using M,λi _ D=>by omega⟩
   ·exact .inl rfl
theorem Qau (aA:List Itm) (i:Nat):CA aA i= -1\/(smI (vE aA i)/\(vE aA i).bJ≠0/\∃k:Nat,CA aA i=k/\i<k/\k<aA.length/\smI (vE aA k)/\∀j,i<j->j<k->(vE aA j).aP=10):=by
 unfold CA;split
 ·rename_i h;rcases Qwc (aA.drop (i+1)) (i+1)with D|⟨j,D,I,E,J⟩
  ·exact .inl D
  ·have G:i+1+j<aA.length:=by rw[bq]at I;omega
   refine .inr ⟨h.1,h.2,i+1+j,D,by omega,G,?_,?_⟩
   ·rw[RA G];rw[jf]at E;exact E
   ·intro m L M;have:=J (m-(i+1)) (by omega) (by omega);rw[jf]at this;rw[RA (by omega)];have e:i+1+(m-(i+1))=m:=by omega
    simp only[e]at this;exact this
 ·exact .inl rfl
def I6 (it:Itm):Int:=if it.aP=10 then 5 else if it.aP=13 then 4 else 3
def Fk:List Itm->Int
 |[]=>2
 |it::l=>if AF it then(if syI it then 1 else 2)else Fk l
def GY (aA:List Itm) (i:Nat):Int:=if(vE aA i).aP=4 then 6 else if(vE aA i).bJ=0 then 1 else if syI (vE aA i)then 1 else Fk (aA.drop (i+1))
noncomputable def Ig (aA:List Itm) (i k:Nat):List Pt:=GO (Bu (vE aA i)) (AE (vE aA i).to) (Bu (vE aA k)) ((vE aA i).bJ*16)
def drawn (it:Itm):Prop:=Ed it/\0<=it.bJ/\it.bJ<=1000
theorem Ma {aA:List Itm} {i k:Nat} (D:drawn (vE aA i)) (E:drawn (vE aA k)):(∀p∈Ig aA i k,bd B24 p)/\1<=(Ig aA i k).length/\(Ig aA i k).length<=65:=
 Q22 (L5 D.1.2.1 D.1.2.2.1) (FW D.1.2.2.1) (L5 E.1.2.1 E.1.2.2.1)
noncomputable def JN (aA:List Itm) (i:Nat) (frm:Int):List Pt:=if 0<=frm then(Ig aA frm.toNat i).drop ((Ig aA frm.toNat i).length/2)else(CV (vE aA i)).take 1
noncomputable def NB (aA:List Itm) (i:Nat):List Pt:=if 0<=CA aA i then(Ig aA i (CA aA i).toNat).take ((Ig aA i (CA aA i).toNat).length/2+1)else(CV (vE aA i)).drop 1
noncomputable def C3 (aA:List Itm) (i:Nat) (frm:Int):List Pt:=if smI (vE aA i)then JN aA i frm++[Bu (vE aA i)]++NB aA i else CV (vE aA i)
def Ne (aA:List Itm) (i:Nat) (frm:Int):Prop:=frm= -1\/∃f:Nat,frm=f/\f<aA.length/\drawn (vE aA f)
theorem Zxe {aA:List Itm} (G:drawn (vE aA i)) (hf:Ne aA i a):(∀p∈JN aA i a,bd 67108864 p)/\(JN aA i a).length<=65:=by
 unfold JN;rcases hf with rfl|⟨f,rfl,I,D⟩
 ·rw[ab];exact⟨λp E=>Qfy G.1 p (dx E),by rw[dl];omega⟩
 ·rw[aa];obtain⟨J,L,M⟩:=Ma (aA:=aA) (i:=(f:Int).toNat) (k:=i) (by simpa using D) G;exact⟨λp E=>Bf (J p (dp E)) (by decide),by rw[bq];omega⟩
theorem V8 {aA:List Itm} (D:∀k<aA.length,AF (vE aA k)->drawn (vE aA k)) (J:0<=CA aA i):∃k:Nat,CA aA i=k/\k<aA.length/\drawn (vE aA k):=by
 rcases Qau aA i with h|⟨-,-,k,I,-,E,G,-⟩
 ·omega
 ·exact⟨k,I,E,D k E ⟨by have:=G.1;omega,by have:=G.1;omega⟩⟩
theorem Zvy {aA:List Itm} (I:drawn (vE aA i)) (J:(vE aA i).aP≠3) (D:∀k<aA.length,AF (vE aA k)->drawn (vE aA k)):(∀p∈NB aA i,bd 67108864 p)/\(NB aA i).length<=66:=by
 unfold NB;by_cases h:0<=CA aA i
 ·rw[aa h];obtain⟨k,L,M,E⟩:=V8 D h;obtain⟨N,J,O⟩:=Ma (aA:=aA) (i:=i) (k:=(CA aA i).toNat) I (by rw[L];simpa using E);exact⟨λp G=>Bf (N p (dx G)) (by decide),by rw[dl];omega⟩
 ·rw[ab h];refine⟨λp G=>Qfy I.1 p (dp G),?_⟩;unfold CV;rw[ab J];simp
theorem XH {aA:List Itm} (E:drawn (vE aA i)) (hf:Ne aA i a) (G:∀k<aA.length,AF (vE aA k)->drawn (vE aA k)):
  (∀p∈C3 aA i a,bd 67108864 p)/\(C3 aA i a).length<=65537:=by
 unfold C3;by_cases I:smI (vE aA i)
 ·rw[aa I];obtain⟨J,M⟩:=Zxe E hf;obtain⟨L,N⟩:=Zvy E (by have:=I.1;omega) G;refine⟨λp D=> ?_,by rw[an,an];simp;omega⟩;rcases ba.1 D with D|D
  ·rcases ba.1 D with D|D
   ·exact J p D
   ·simp at D;subst D;exact Bf (L5 E.1.2.1 E.1.2.2.1) (by decide)
  ·exact L p D
 ·rw[ab I];exact⟨Qfy E.1,(Q0x _).2⟩
theorem Q7i (l:List Pt):List.drop (Int.toNat 1) (l.map ptR)=(l.drop 1).map ptR:=by rw[show Int.toNat 1=1 from rfl,ld]
theorem Tg (l:List Pt):List.take (Int.toNat 1) (l.map ptR)=(l.take 1).map ptR:=by rw[show Int.toNat 1=1 from rfl,List.map_take]
end Go.Bm
namespace Go.Bm
open Classical
def B6 (it:Itm):Prop:=it.aP<1\/it.aP>14\/(AF it/\(¬Ed it\/(it.aP≠1/\(it.aZ<1\/it.aZ>60000000))\/it.bJ<0\/it.bJ>1000))\/(¬AF it/\it.aP=8/\(it.n<3\/it.n>5\/it.aS<0\/it.aS>30000))
noncomputable def Hd (aA:List Itm):Nat->Nat->Int->Int
 |0,_,_=>0
 |k+1,i,last=>if B6 (vE aA i)then 1 else if AF (vE aA i)then(if 0<=last/\(vE aA last.toNat).to≠(vE aA i).fr then 13 else Hd aA k (i+1) i)else Hd aA k (i+1) last
noncomputable def Du (aA:List Itm):Int:=if aA.length>20000 then 10 else Hd aA aA.length 0 (-1)
theorem X8 {aA:List Itm}:∀(k i:Nat) (last:Int),i+k=aA.length->Hd aA k i last=0->∀j,i<=j->j<aA.length-> ¬B6 (vE aA j)
 |0,i,last,G,_,j,I,D=>by omega
 |k+1,i,last,G,h,j,I,D=>by
  unfold Hd at h;split at h
  ·omega
  ·rename_i c;by_cases E:j=i
   ·subst E;exact c
   ·split at h
    ·split at h
     ·omega
     ·exact X8 k (i+1) _ (by omega) h j (by omega) D
    ·exact X8 k (i+1) _ (by omega) h j (by omega) D
theorem NQ {aA:List Itm} (h:Du aA=0):aA.length<=20000/\∀j,j<aA.length-> ¬B6 (vE aA j):=by
 unfold Du at h;split at h
 ·omega
 ·exact⟨by omega,λj D=>X8 _ 0 _ (by omega) h j (by omega) D⟩
theorem Mg {it:Itm} (h: ¬B6 it) (D:AF it):drawn it/\(it.aP=1\/1<=it.aZ/\it.aZ<=60000000):=by
 unfold B6 at h;have E:Ed it:=by
  by_cases c:Ed it
  ·exact c
  ·exact absurd (.inr (.inr (.inl ⟨D, .inl c⟩))) h
 have G: ¬((it.aP≠1/\(it.aZ<1\/it.aZ>60000000))\/it.bJ<0\/it.bJ>1000):=λc=>h (.inr (.inr (.inl ⟨D, .inr c⟩)));exact⟨⟨E,by omega,by omega⟩,by omega⟩
theorem Zzi {it:Itm} (h: ¬B6 it) (D:it.aP=8):0<=it.aS/\it.aS<=30000:=by
 unfold B6 at h;have E: ¬AF it:=λc=>by have:=c.2;omega
 have G: ¬(it.n<3\/it.n>5\/it.aS<0\/it.aS>30000):=λc=>h (.inr (.inr (.inr ⟨E,D,c⟩)));omega
noncomputable def Bc (aU aZ aX:Int) (s:List Sgm×Int×Pt) (q:Pt):List Sgm×Int×Pt:=if q=s.2.2 then s else(s.1++[⟨q,AK s.2.2 q,aU,aZ,aX⟩],s.2.1+AK s.2.2 q,q)
theorem Uo {aU aZ aX:Int}:∀(D:List Pt) (s:List Sgm×Int×Pt),(∀p∈D,bd 67108864 p)->bd 67108864 s.2.2->0<=s.2.1->
  (D.foldl (Bc aU aZ aX) s).1.length<=s.1.length+D.length/\s.2.1<=(D.foldl (Bc aU aZ aX) s).2.1/\(D.foldl (Bc aU aZ aX) s).2.1<=s.2.1+D.length*268435456/\bd 67108864 (D.foldl (Bc aU aZ aX) s).2.2
 |[],s,_,G,L=>⟨by simp,by simp,by simp,G⟩
 |q::D,s,I,G,L=>by
  rw[fh];have M:=I q (by simp);have N:=I5 G M;have E:Bc aU aZ aX s q=s\/Bc aU aZ aX s q=(s.1++[⟨q,AK s.2.2 q,aU,aZ,aX⟩],s.2.1+AK s.2.2 q,q):=by unfold Bc;split<;>simp
  rcases E with E|E
  ·rw[E];obtain⟨a,b,c,d⟩:=Uo D s (λp J=>I p (by simp[J])) G L (aU:=aU) (aZ:=aZ) (aX:=aX);exact⟨by simp;omega,b,by simp;omega,d⟩
  ·rw[E];obtain⟨a,b,c,d⟩:=Uo D (s.1++[⟨q,AK s.2.2 q,aU,aZ,aX⟩],s.2.1+AK s.2.2 q,q) (λp J=>I p (by simp[J])) M (by simp only;omega) (aU:=aU) (aZ:=aZ) (aX:=aX);simp only[an,bh,da]at a b c;exact⟨by simp;omega,by omega,by simp;omega,d⟩
structure BSt where
 aF:List Sgm
 aD:List Mrk
 (len aS frm:Int)
 bK:Bool
 (aQ at_:Pt)
def Jl (it:Itm):Int:=if syI it then mn (it.aZ*16) 16777216 else 0
def RR (it:Itm) (s:Int):Int:=if it.aP=8/\(it.n=3\/it.n=4)then it.aS else s
noncomputable def Gp (aA:List Itm) (i:Nat) (s:BSt):List Sgm×Int×Pt:=
 (C3 aA i s.frm).foldl (Bc i (HL (vE aA i) s.aS) (Jl (vE aA i))) (s.aF,s.len,if s.bK=true then s.at_ else AE (vE aA i).fr)
noncomputable def Dv (aA:List Itm) (i:Nat) (s:BSt):BSt:=
 if AF (vE aA i)then
  ⟨(Gp aA i s).1,s.aD++[⟨(Gp aA i s).2.1,GY aA i,i⟩],(Gp aA i s).2.1,s.aS,if 0<=CA aA i then i else-1,true,if s.bK=true then s.aQ else AE (vE aA i).fr,(Gp aA i s).2.2⟩
 else⟨s.aF,s.aD++[⟨s.len,I6 (vE aA i),i⟩],s.len,RR (vE aA i) s.aS,s.frm,s.bK,s.aQ,s.at_⟩
noncomputable def Aq (aA:List Itm):Nat->BSt
 |0=>⟨[],[],0,0,-1,false,⟨0,0,0⟩,⟨0,0,0⟩⟩
 |i+1=>Dv aA i (Aq aA i)
structure BOK (aA : List Itm) (i : Nat) (s : BSt) : Prop where
 aF:s.aF.length<=i*65537
 aD:s.aD.length=i
 len:0<=s.len/\s.len<=i*65537*268435456
 aS:0<=s.aS/\s.aS<=30000
 frm:Ne aA i s.frm
 at_:s.bK=true->bd 67108864 s.at_
theorem Zd2 {aA:List Itm} {s:BSt} (I:i<aA.length) (D:∀j<aA.length,¬B6 (vE aA j)) (h:BOK aA i s):BOK aA (i+1) (Dv aA i s):=by
 have E:∀k<aA.length,AF (vE aA k)->drawn (vE aA k):=λk L G=>(Mg (D k L) G).1;unfold Dv;by_cases G:AF (vE aA i)
 ·rw[aa G];have J:=E i I G;obtain⟨M,U⟩:=XH J h.frm E;have N:bd 67108864 (if s.bK=true then s.at_ else AE (vE aA i).fr):=by
   by_cases hb:s.bK=true
   ·rw[aa hb];exact h.at_ hb
   ·rw[ab hb];exact Bf (FW J.1.2.1) (by decide)
  obtain⟨a1,a2,a3,a4⟩:=Uo (aU:=i) (aZ:=HL (vE aA i) s.aS) (aX:=Jl (vE aA i)) (C3 aA i s.frm) (s.aF,s.len,if s.bK=true then s.at_ else AE (vE aA i).fr) M N h.len.1;have V:=h.aF;have O:=h.len;have e1:(i+1)*65537=i*65537+65537:=by rw[iw]
  refine⟨?_,?_,?_,h.aS,?_,λ_=>a4⟩
  ·simp only at a1;show(Gp aA i s).1.length<=_;unfold Gp;omega
  ·show(s.aD++[_]).length=_;rw[an,h.aD];rfl
  ·show 0<=(Gp aA i s).2.1/\(Gp aA i s).2.1<=_;unfold Gp;simp only at a2 a3;have e2:(((i+1:Nat):Int))*65537*268435456=(i:Int)*65537*268435456+65537*268435456:=by
    rw[ii,ki,j0,j0];rfl
   constructor
   ·omega
   ·rw[e2];omega
  ·show Ne aA (i+1) (if 0<=CA aA i then(i:Int)else-1);split
   ·exact .inr ⟨i,rfl,I,J⟩
   ·exact .inl rfl
 ·rw[ab G];have O:=h.len;have S:=h.aF;have e1:(i+1)*65537=i*65537+65537:=by rw[iw]
  refine⟨by show s.aF.length<=_;rw[e1];exact cq S (Nat.le_add_right _ _),?_,?_,?_,h.frm,h.at_⟩
  ·show(s.aD++[_]).length=_;rw[an,h.aD];rfl
  ·have e2:(((i+1:Nat):Int))*65537*268435456=(i:Int)*65537*268435456+65537*268435456:=by
    rw[ii,ki,j0,j0];rfl
   show 0<=s.len/\s.len<=_;rw[e2];omega
  ·show 0<=RR (vE aA i) s.aS/\RR (vE aA i) s.aS<=30000;unfold RR;split
   ·rename_i T;exact Zzi (D i I) T.1
   ·exact h.aS
theorem Z95 (aA:List Itm):BOK aA 0 ⟨[],[],0,0,-1,false,⟨0,0,0⟩,⟨0,0,0⟩⟩:=by
 refine⟨jz _,da,⟨bz _,?_⟩,⟨bz _,?_⟩, .inl rfl,λh=>by cases h⟩
 ·show(0:Int)<=((0:Nat):Int)*65537*268435456;rw[show((0:Nat):Int)=0 from rfl,kv,kv];exact bz _
 ·show(0:Int)<=30000;omega
theorem O7 {aA:List Itm} (D:∀j<aA.length,¬B6 (vE aA j)):∀i,i<=aA.length->BOK aA i (Aq aA i)
 |0,_=>by rw[Aq];exact Z95 aA
 |i+1,E=>by rw[Aq];exact Zd2 (by omega) D (O7 D i (by omega))
noncomputable def AQ (aA:List Itm):Pth:=⟨(Aq aA aA.length).aQ,(Aq aA aA.length).aF,(Aq aA aA.length).aD⟩
def F3:Pt->List Sgm->Pt
 |a,[]=>a
 |_,g::l=>F3 g.to l
abbrev B26:Nat:=67108864
def PP:Pt->List Sgm->Prop
 |_,[]=>True
 |a,g::l=>g.len=AK a g.to/\g.to≠a/\bd B26 g.to/\PP g.to l
def Av:List Sgm->Int
 |[]=>0
 |g::l=>g.len+Av l
theorem TG (g:Sgm):∀(a:Pt) (l:List Sgm),F3 a (l++[g])=g.to
 |_,[]=>rfl
 |_,h::l=>by simp only[ay,F3];exact TG g h.to l
theorem Q6s {g:Sgm}:∀{a:Pt} {l:List Sgm},PP a l->g.len=AK (F3 a l) g.to->g.to≠F3 a l->bd B26 g.to->PP a (l++[g])
 |a,[],_,D,E,G=>⟨D,E,G,trivial⟩
 |a,k::l,h,D,E,G=>⟨h.1,h.2.1,h.2.2.1,Q6s h.2.2.2 D E G⟩
theorem Qhe (g:Sgm):∀(l:List Sgm),Av (l++[g])=Av l+g.len
 |[]=>by simp[Av]
 |k::l=>by simp only[ay,Av];rw[Qhe g l];omega
def Qb3 (aQ:Pt) (s:List Sgm×Int×Pt):Prop:=PP aQ s.1/\F3 aQ s.1=s.2.2/\Av s.1=s.2.1
theorem Qrq {aQ:Pt} {aU aZ aX:Int}:∀(D:List Pt) (s:List Sgm×Int×Pt),(∀p∈D,bd B26 p)->Qb3 aQ s->Qb3 aQ (D.foldl (Bc aU aZ aX) s)
 |[],s,_,h=>h
 |q::D,s,G,h=>by
  rw[fh];refine Qrq D _ (λp E=>G p (by simp[E])) ?_;unfold Bc;by_cases c:q=s.2.2
  ·rw[aa c];exact h
  ·rw[ab c];obtain⟨J,I,L⟩:=h;refine⟨Q6s J (by rw[I]) (by rw[I];exact c) (G q (by simp)),TG _ _ _,?_⟩;simp only[Qhe,L]
structure BInv (s : BSt) : Prop where
 bK:s.bK=true->bd B26 s.aQ/\Qb3 s.aQ (s.aF,s.len,s.at_)
 empty:s.bK=false->s.aF=[]/\s.len=0/\s.aQ=⟨0,0,0⟩
theorem Z60 {aA:List Itm} {s:BSt} (M:i<aA.length) (D:∀j<aA.length,¬B6 (vE aA j)) (I:BOK aA i s) (h:BInv s):BInv (Dv aA i s):=by
 have E:∀k<aA.length,AF (vE aA k)->drawn (vE aA k):=λk N G=>(Mg (D k N) G).1;unfold Dv;by_cases G:AF (vE aA i)
 ·rw[aa G];have J:=E i M G;obtain⟨L,-⟩:=XH J I.frm E;refine⟨λ_=> ?_,λhb=>(by cases hb)⟩;unfold Gp;by_cases hb:s.bK=true
  ·rw[aa hb,aa hb];obtain⟨g1,g2⟩:=h.bK hb;exact⟨g1,Qrq _ _ L g2⟩
  ·rw[ab hb,ab hb];obtain⟨g1,g2,O⟩:=h.empty (by simpa using hb);refine⟨Bf (FW J.1.2.1) (by decide),Qrq _ _ L ?_⟩;rw[g1,g2];exact⟨trivial,rfl,rfl⟩
 ·rw[ab G];exact⟨h.bK,h.empty⟩
theorem IY {aA:List Itm} (D:∀j<aA.length,¬B6 (vE aA j)):∀i,i<=aA.length->BInv (Aq aA i)
 |0,_=>by rw[Aq];exact⟨λh=>(by cases h),λ_=>⟨rfl,rfl,rfl⟩⟩
 |i+1,E=>by rw[Aq];exact Z60 (by omega) D (O7 D i (by omega)) (IY D i (by omega))
structure GoodPath (p : Pth) : Prop where
 aQ:bd B26 p.aQ
 aF:PP p.aQ p.aF
 count:p.aF.length<=983055
theorem WJ {aA:List Itm} (hlen:aA.length<=15) (G:Du aA=0):GoodPath (AQ aA):=by
 have D:=(NQ G).2;have I:=O7 D aA.length (cx _);have E:=IY D aA.length (cx _);have L:=I.aF;unfold AQ;by_cases hb:(Aq aA aA.length).bK=true
 ·obtain⟨g1,g2,-⟩:=E.bK hb;exact⟨g1,g2,by simp only;omega⟩
 ·obtain⟨g1,-,J⟩:=E.empty (by simpa using hb);refine⟨?_,?_,?_⟩
  ·simp only[J];unfold bd;simp
  ·simp only[g1];trivial
  ·simp only[g1];simp
theorem Zal {a b:Pt} (D:bd B26 a) (hb:bd B26 b) (h:b≠a):1<=AK a b/\AK a b<=268435456:=by
 obtain⟨-,I,E,-⟩:=ZK D hb;have J:sqD a b≠0:=λe=>h (Qgc.1 e).symm;have L:=QR a b;have G:=I5 D hb;refine⟨?_,G.2⟩;by_cases c:AK a b=0
 ·rw[c]at E;omega
 ·omega
theorem Vv {l:List Sgm} (G:bd B26 q) (h:PP q l):∀g∈l,1<=g.len/\g.len<=268435456/\bd B26 g.to:=by
 induction l generalizing q with
 |nil=>simp
 |cons k l J=>
  obtain⟨L,I,D,M⟩:=h;intro g E;rcases ao.1 E with rfl|E
  ·rw[L];exact⟨(Zal G D I).1,(Zal G D I).2,D⟩
  ·exact J D M g E
theorem Qrp {l:List Sgm} (h:∀g∈l,1<=g.len/\g.len<=268435456/\bd B26 g.to):(l.length:Int)<=Av l/\Av l<=l.length*268435456:=by
 induction l with
 |nil=>simp[Av]
 |cons k l D=>
  have:=D λg E=>h g (by simp[E]);have:=h k (by simp);simp only[Av,bh];omega
def PQ (a:Pt) (g:Sgm) (d:Int):Pt:=⟨a.x+BF ((g.to.x-a.x)*d) g.len,a.y+BF ((g.to.y-a.y)*d) g.len,a.z+BF ((g.to.z-a.z)*d) g.len⟩
def atL:Pt->List Sgm->Int->Pt
 |a,[],_=>a
 |a,g::l,s=>if s<g.len then PQ a g s else atL g.to l (s-g.len)
def atP (p:Pth) (s:Int):Pt:=atL p.aQ p.aF (max s 0)
def A5:List Sgm->Int->Nat×Int
 |[],s=>(0,s)
 |[g],s=>if s<g.len then(0,s)else(0,g.len)
 |g::h::l,s=>if s<g.len then(0,s)else((A5 (h::l) (s-g.len)).1+1,(A5 (h::l) (s-g.len)).2)
def Fz (a:Pt) (l:List Sgm) (i:Nat):Pt:=F3 a (l.take i)
def sg0:Sgm:=⟨⟨0,0,0⟩,0,0,0,0⟩
def sgA (l:List Sgm) (i:Nat):Sgm:=l.getD i sg0
theorem Pi {l:List Sgm} (h:i<l.length):sgA l i=l[i]:=by unfold sgA;simp[h]
theorem LM {l:List Sgm} (h:i<l.length):nth [] (l.map Ax) i=Ax (sgA l i):=by rw[Pi h];exact GK _ _ _ _ h
theorem IG {l:List Sgm} (h:i<l.length):sgA l i∈l:=by rw[Pi h];exact bf h
theorem Lg (a:Pt) (l:List Sgm):Fz a l 0=a:=by unfold Fz;simp[F3]
theorem WZ (a:Pt) (g:Sgm) (l:List Sgm) (i:Nat):Fz a (g::l) (i+1)=Fz g.to l i:=by unfold Fz;rw[List.take_succ_cons];rfl
theorem Qjs (g:Sgm) (l:List Sgm) (i:Nat):sgA (g::l) (i+1)=sgA l i:=by unfold sgA;simp
theorem UW:∀{l:List Sgm} {i:Nat} {a:Pt},i<l.length->Fz a l (i+1)=(sgA l i).to
 |g::l,0,a,_=>by rw[WZ,Lg];rfl
 |g::l,i+1,a,h=>by rw[WZ,Qjs];exact UW (by simpa using h)
theorem Qme {x n:Int} (D:0<n):BF (x*n) n=x:=Vq D
theorem Zis (h:0<g.len):PQ q g g.len=g.to:=by
 unfold PQ;rw[Qme h,Qme h,Qme h];rw[D6];exact⟨by simp only;omega,by simp only;omega,by simp only;omega⟩
theorem Qj7:∀{l:List Sgm} {a:Pt} {s:Int},l≠[]->(∀g∈l,1<=g.len)->0<=s->
  (A5 l s).1<l.length/\0<=(A5 l s).2/\(A5 l s).2<=(sgA l (A5 l s).1).len/\atL a l s=PQ (Fz a l (A5 l s).1) (sgA l (A5 l s).1) (A5 l s).2
 |[],_,_,h,_,_=>absurd rfl h
 |[g],a,s,_,D,E=>by
  have I:=D g (by simp);unfold A5;by_cases c:s<g.len
  ·rw[aa c];refine⟨by simp,E,by show s<=g.len;omega,?_⟩;unfold atL;rw[aa c,Lg];rfl
  ·rw[ab c];refine⟨by simp,by simp only;omega,bz _,?_⟩;unfold atL;rw[ab c,Lg];show atL g.to [] _=PQ a g g.len;rw[Zis (by omega)];rfl
 |g::h::l,a,s,_,D,E=>by
  have I:=D g (by simp);unfold A5;by_cases c:s<g.len
  ·rw[aa c];refine⟨by simp,E,by show s<=g.len;omega,?_⟩;unfold atL;rw[aa c,Lg];rfl
  ·rw[ab c];obtain⟨J,L,M,N⟩:=Qj7 (l:=h::l) (a:=g.to) (s:=s-g.len) (by simp) (λk G=>D k (by simp at G⊢;exact .inr G)) (by omega);refine⟨by simp at J⊢;omega,L,?_,?_⟩
   ·simp only[Qjs];exact M
   ·rw[show atL a (g::h::l) s=atL g.to (h::l) (s-g.len)from by rw[atL,ab c]];simp only[WZ,Qjs];exact N
theorem Qg3 {x n:Int} (D:0<n) (h: -(A*n)<=x/\x<=A*n):(BF x n).natAbs<=A:=by
 have m1:=S6 D h.2;have m2:=S6 D h.1;rw[show-((A:Int)*n)= -(A:Int)*n by rw[Int.neg_mul]]at m2;rw[Vq D]at m1 m2;omega
theorem Qy9 {D L d:Int} (G:0<L) (I:D.natAbs<=134217728) (E:0<=d/\d<=L):(BF (D*d) L).natAbs<=134217728:=by
 refine Qg3 G ?_;have J:D*d<=134217728*d:=fu (by omega) E.1;have M: -134217728*d<=D*d:=fu (by omega) E.1;have e:((134217728:Nat):Int)=134217728:=rfl;rw[e];omega
structure SegOK (l : List Sgm) : Prop where
 seg:∀g∈l,1<=g.len/\g.len<=268435456/\bd B26 g.to
 count:l.length<=983055
theorem GoodPath.ok (h:GoodPath p):SegOK p.aF:=⟨Vv h.aQ h.aF,h.count⟩
theorem Zfb {l:List Sgm} (D:bd B26 q) (h:SegOK l) {i:Nat} (E:i<l.length):bd B26 (Fz q l i):=by
 cases i with
 |zero=>rw[Lg];exact D
 |succ i=>rw[UW (by omega)];exact(h.seg _ (IG (by omega))).2.2
theorem Qys {l:List Sgm} (h:SegOK l):∀(k i:Nat) (v:Int),i+k=l.length->0<=v->v+k*268435456<=4000000000000000000->
  Am SS [I v, .vC Ag (l.map Ax),I l.length,I i]=some (1,[I (v+Av (l.drop i))])
 |0,i,v,G,_,_=>by
  refine Bg ?_ (by simp);rw[Q46,Bi (by omega),d9 (by omega)];simp[Av]
 |k+1,i,v,G,L,M=>by
  have D:i<l.length:=by omega
  have J:=h.count;have N:=h.seg _ (IG D);have E:SS [I v, .vC Ag (l.map Ax),I l.length,I i]=some (0,[I (v+(sgA l i).len), .vC Ag (l.map Ax),I l.length,I (i+1:Nat)]):=by
   rw[Q46];simp only[go_sem,ac,aj,LM D];rw[aa,aa,Ae (x:=v+_),Ae];rfl
  rw[BE E,Qys h k (i+1) _ (by omega) (by omega) (by omega)];have e:l.drop i=sgA l i::l.drop (i+1):=by rw[Pi D];exact Py _ _ D
  rw[e];simp only[Av,Int.add_assoc]
theorem Zay (h:SegOK p.aF):J_ (Bv p)=some [I (Av p.aF)]:=by
 have E:=Qys h p.aF.length 0 0 (by omega) (by omega) (by have:=h.count;omega);have D:S7 [I 0, .vC Ag (p.aF.map Ax),I p.aF.length,I 0]=some (1,[I (0+Av (p.aF.drop 0))]):=E;rw[f9,Int.zero_add]at D;unfold J_;generalize S7=N at*;rw[Zq7];simp only[go_sem,ac,D]
theorem Zc7 {g h:Sgm} {l:List Sgm} {s:Int} (c: ¬s<g.len):A5 (g::h::l) s=((A5 (h::l) (s-g.len)).1+1,(A5 (h::l) (s-g.len)).2):=by rw[A5,ab c]
theorem Qzw {p:Pth} (h:SegOK p.aF):∀(k i:Nat) (s:Int),i+k=p.aF.length->1<=k->0<=s/\s<=9223372036854775807->
  Am Tv (I s:: .vC Ag (p.aF.map Ax)::I p.aF.length::I i::Bv p)=some (1,[I (i+(A5 (p.aF.drop i) s).1:Nat),I (A5 (p.aF.drop i) s).2])
 |k+1,i,s,L,_,M=>by
  have E:i<p.aF.length:=by omega
  have J:=h.count;have N:=h.seg _ (IG E);have e:p.aF.drop i=sgA p.aF i::p.aF.drop (i+1):=by rw[Pi E];exact Py _ _ E
  have D:Tv (I s:: .vC Ag (p.aF.map Ax)::I p.aF.length::I i::Bv p)=if s<(sgA p.aF i).len then some (1,[I i,I s])else if k=0 then some (1,[I i,I (sgA p.aF i).len])else some (0,I (s-(sgA p.aF i).len):: .vC Ag (p.aF.map Ax)::I p.aF.length::I (i+1:Nat)::Bv p):=by
   rw[Za7];simp only[go_sem,ac,aj,LM E];rw[aa,aa,Ae (x:=(p.aF.length:Int)-1),Ae (x:=(i:Int)+1)];by_cases c:s<(sgA p.aF i).len
   ·rw[aa c,aa c]
   ·rw[ab c,ab c];by_cases G:k=0
    ·rw[aa,aa G]
    ·rw[ab,ab G,Ae];rfl
  by_cases c:s<(sgA p.aF i).len
  ·rw[aa c]at D;rw[Bg D (by simp),e];cases p.aF.drop (i+1)with
   |nil=>rw[A5,aa c];rfl
   |cons b l=>rw[A5,aa c];rfl
  ·rw[ab c]at D;by_cases G:k=0
   ·rw[aa G]at D;rw[Bg D (by simp),e,d9 (by omega),A5,ab c];rfl
   ·rw[ab G]at D;rw[BE D,Qzw h k (i+1) _ (by omega) (by omega) (by omega),e];have e2:p.aF.drop (i+1)=sgA p.aF (i+1)::p.aF.drop (i+1+1):=by rw[Pi (show i+1<p.aF.length by omega)];exact Py _ _ (by omega)
    rw[e2,Zc7 c,<-e2];simp only;rw[show i+1+(A5 (p.aF.drop (i+1)) (s-(sgA p.aF i).len)).1=i+((A5 (p.aF.drop (i+1)) (s-(sgA p.aF i).len)).1+1) by omega]
theorem Wl (h:SegOK p.aF) {s:Int} (hs:i64 s):Fq (Bv p++[I s])=if p.aF=[]then some [I (-1),I 0]else some [I (A5 p.aF (max s 0)).1,I (A5 p.aF (max s 0)).2]:=by
 unfold i64 at hs;have hmx:mx s 0=max s 0:=mx_max' s 0;by_cases c:p.aF=[]
 ·rw[aa c];have hend:Oh (I (max s 0):: .vC Ag []::I 0::I 0::Bv p)=some (2,[]):=by
   refine Bg ?_ (by simp);rw[Za7,Bi (by omega)]
  unfold Fq;generalize Oh=N at*;have he:=Qye N p.aQ.x p.aQ.y p.aQ.z (p.aF.map Ax) (p.aD.map Aw) s;refine co he ?_;rw[hmx,c];have hend':N [I (max s 0), .vC Ag [],I 0,I 0,I p.aQ.x,I p.aQ.y,I p.aQ.z, .vC Ag [], .vC AN (p.aD.map Aw)]=some (2,[]):=by
   have:=hend;unfold Bv at this;rw[c]at this;exact this
  simp only[go_sem,d8,da];simp only[lh];rw[hend'];simp
 ·rw[ab c];have hpos:0<p.aF.length:=by
   cases hh:p.aF with
   |nil=>exact absurd hh c
   |cons _ _=>simp
  have hL:=Qzw h p.aF.length 0 (max s 0) (by omega) (by omega) (by omega);have hL':Oh [I (max s 0), .vC Ag (p.aF.map Ax),I p.aF.length,I 0,I p.aQ.x,I p.aQ.y,I p.aQ.z, .vC Ag (p.aF.map Ax), .vC AN (p.aD.map Aw)]=some (1,[I (0+(A5 (p.aF.drop 0) (max s 0)).1:Nat),I (A5 (p.aF.drop 0) (max s 0)).2]):=hL;rw[f9,fc]at hL';unfold Fq;generalize Oh=N at*;have he:=Qye N p.aQ.x p.aQ.y p.aQ.z (p.aF.map Ax) (p.aD.map Aw) s;refine co he ?_;rw[hmx];simp only[go_sem,ac,hL']
 where mx_max' (a b:Int):mx a b=max a b:=by unfold mx;rw[Int.max_def];split<;>split<;>omega
theorem Z2s (h:GoodPath p) {s:Int} (E:Z (Bv p++[I s])=if p.aF=[]then some [I (-1),I 0]else some [I (A5 p.aF (max s 0)).1,I (A5 p.aF (max s 0)).2])
  (hM:∀{a b c:Int},a.natAbs<=134217728->b.natAbs<=268435456->(0<c/\c<=268435456)->M [I a,I b,I c,I 2]=some [I (BF (a*b) c),B true]):
  Qd7 M Z (Bv p++[I s])=some (ptR (atP p s)):=by
 have he:=Zsd (AS:=M) (DX:=Z) p.aQ.x p.aQ.y p.aQ.z (p.aF.map Ax) (p.aD.map Aw) s;refine co he ?_;simp only[ay,az,Bv]at E;unfold atP;by_cases c:p.aF=[]
 ·rw[aa c]at E;simp only[E,go_sem];rw[aa,c];rfl
 ·rw[ab c]at E;have D:=h.ok;obtain⟨J,f2,f3,f4⟩:=Qj7 (l:=p.aF) (a:=p.aQ) (s:=max s 0) c (λg G=>(D.seg g G).1) (by omega);rw[f4];have G:=D.seg _ (IG J);have L:=Zfb h.aQ D J;have hr:=LM J;have a0:=D.count;generalize(A5 p.aF (max s 0)).1=i at*;generalize(A5 p.aF (max s 0)).2=d at*;have N:d.natAbs<=268435456:=by omega
  have fin:∀{a:Pt},bd B26 a->(M [I (V ((sgA p.aF i).to.x-a.x)),I d,I (sgA p.aF i).len,I 2]=some [I (BF (((sgA p.aF i).to.x-a.x)*d) (sgA p.aF i).len),B true]/\V (a.x+BF (((sgA p.aF i).to.x-a.x)*d) (sgA p.aF i).len)=a.x+BF (((sgA p.aF i).to.x-a.x)*d) (sgA p.aF i).len)/\
    (M [I (V ((sgA p.aF i).to.y-a.y)),I d,I (sgA p.aF i).len,I 2]=some [I (BF (((sgA p.aF i).to.y-a.y)*d) (sgA p.aF i).len),B true]/\V (a.y+BF (((sgA p.aF i).to.y-a.y)*d) (sgA p.aF i).len)=a.y+BF (((sgA p.aF i).to.y-a.y)*d) (sgA p.aF i).len)/\
    (M [I (V ((sgA p.aF i).to.z-a.z)),I d,I (sgA p.aF i).len,I 2]=some [I (BF (((sgA p.aF i).to.z-a.z)*d) (sgA p.aF i).len),B true]/\V (a.z+BF (((sgA p.aF i).to.z-a.z)*d) (sgA p.aF i).len)=a.z+BF (((sgA p.aF i).to.z-a.z)*d) (sgA p.aF i).len):=by
   intro a O;have key:∀u v:Int,u.natAbs<=B26->v.natAbs<=B26->M [I (V (u-v)),I d,I (sgA p.aF i).len,I 2]=some [I (BF ((u-v)*d) (sgA p.aF i).len),B true]/\V (v+BF ((u-v)*d) (sgA p.aF i).len)=v+BF ((u-v)*d) (sgA p.aF i).len:=by
    intro u v hu L;have S:=I8 hu L;rw[Ju S (by decide)];refine⟨hM (cq S (by decide)) N (by omega),?_⟩;exact Ju (UP L (Qy9 (by omega) (cq S (by decide)) ⟨f2,f3⟩)) (by decide)
   exact⟨key _ _ G.2.2.1 O.1,key _ _ G.2.2.2.1 O.2.1,key _ _ G.2.2.2.2 O.2.2⟩
  have T:(0:Int)<=(i:Int)/\(i:Int)<(p.aF.length:Int):=by omega
  simp only[E,go_sem,ac,aj,hr,aa T];rw[ab];by_cases c0:i=0
  ·subst c0;obtain⟨⟨m1,U⟩,⟨m2,X⟩,m3,w3⟩:=fin h.aQ;rw[ab,Lg];simp only[m1,m2,m3,go_sem,U,X,w3];rfl
  ·obtain⟨j,rfl⟩:∃j,i=j+1:=⟨i-1,by omega⟩;have hj:=LM (l:=p.aF) (i:=j) (by omega);have Y:=D.seg _ (IG (l:=p.aF) (i:=j) (by omega));obtain⟨⟨m1,U⟩,⟨m2,X⟩,m3,w3⟩:=fin Y.2.2;rw[aa,UW (by omega)];have e1:V (((j+1:Nat):Int)-1)=(j:Int):=by rw[Ae];omega
   rw[e1];simp only[aj,hj,go_sem];rw[aa];simp only[m1,m2,m3,go_sem,U,X,w3];rfl
theorem Zbe {a b c:Int} (D:a.natAbs<=134217728) (hb:b.natAbs<=268435456) (E:0<c/\c<=268435456):BO [I a,I b,I c,I 2]=some [I (BF (a*b) c),B true]:=by
 have:=fv D hb;exact Uv (by unfold i64;omega) (by unfold i64;omega) (by omega) (by omega)
theorem Z7b (h:GoodPath p) {s:Int} (D:i64 s):Sc (Bv p++[I s])=some (ptR (atP p s)):=
 Z2s h (Wl h.ok D) Zbe
theorem Nq (h:GoodPath p):0<=Av p.aF/\Av p.aF<=263886834032640:=by
 have D:=Qrp h.ok.seg;have E:=h.count;omega
theorem Zup {α:Type} (d x:α) (l:List α):nth d (x::l) 40=nth d l 39:=by simp[nth]
theorem Zzx {α:Type} (d x:α) (l:List α):nth d (x::l) 41=nth d l 40:=by simp[nth]
theorem Z6z {α:Type} (d x:α) (l:List α):nth d (x::l) 42=nth d l 41:=by simp[nth]
theorem Zsz {α:Type} (d x:α) (l:List α):nth d (x::l) 43=nth d l 42:=by simp[nth]
theorem Z34 {α:Type} (d x:α) (l:List α):nth d (x::l) 44=nth d l 43:=by simp[nth]
theorem Zn6 {α:Type} (d x:α) (l:List α):nth d (x::l) 45=nth d l 44:=by simp[nth]
theorem Zv0 {α:Type} (d x:α) (l:List α):nth d (x::l) 46=nth d l 45:=by simp[nth]
theorem Ztp {α:Type} (d x:α) (l:List α):nth d (x::l) 47=nth d l 46:=by simp[nth]
theorem Zrh {α:Type} (d x:α) (l:List α):nth d (x::l) 48=nth d l 47:=by simp[nth]
theorem Z1o {α:Type} (d x:α) (l:List α):nth d (x::l) 49=nth d l 48:=by simp[nth]
theorem Z5y {α:Type} (d x:α) (l:List α):nth d (x::l) 50=nth d l 49:=by simp[nth]
theorem Zxt {α:Type} (d x:α) (l:List α):nth d (x::l) 51=nth d l 50:=by simp[nth]
theorem Z7o {α:Type} (d x:α) (l:List α):nth d (x::l) 52=nth d l 51:=by simp[nth]
theorem Z7n {α:Type} (d x:α) (l:List α):nth d (x::l) 53=nth d l 52:=by simp[nth]
theorem Z5c {α:Type} (d x:α) (l:List α):nth d (x::l) 54=nth d l 53:=by simp[nth]
theorem Z7v {α:Type} (d x:α) (l:List α):nth d (x::l) 55=nth d l 54:=by simp[nth]
attribute [go_sem] Zup Zzx Z6z Zsz Z34 Zn6 Zv0 Ztp Zrh Z1o Z5y Zxt Z7o Z7n Z5c Z7v
theorem KS (a b:Int):mn a b=min a b:=by unfold mn;rw[Int.min_def];split<;>split<;>omega
theorem O0 (a b:Int):mx a b=max a b:=by unfold mx;rw[Int.max_def];split<;>split<;>omega
def RF (now a b mv:Int):Int:=if b>a then mv else if b<a then-mv else now
def D9 (now a b:Pt) (mv:Int):Pt:=⟨RF now.x a.x b.x mv,RF now.y a.y b.y mv,RF now.z a.z b.z mv⟩
def slk (was aT n v:Int):Int:=if was=aT then v else max v n
def CG (x:Ax3) (was aT:Pt):Int:=slk was.z aT.z x.c.bB (slk was.y aT.y x.b.bB (slk was.x aT.x x.a.bB 0))
def pc0:Pce:=⟨0,0,0,0,⟨0,0,0⟩,⟨0,0,0⟩⟩
def Bp (l:List Pce):Pce:=l.getD (l.length-1) pc0
def FN (t:Trk) (c:Pce):Trk:=
 if t.aE≠[]/\c.bD≠0/\(Bp t.aE).bD=c.bD/\(Bp t.aE).aT=c.aT then
  {t with aE:=t.aE.set (t.aE.length-1) {Bp t.aE with aR:=(Bp t.aE).aR+c.aR},length:=t.length+c.aR}
 else{t with aE:=t.aE++[{c with at_:=t.length}],length:=t.length+c.aR}
def AI (l:List Sgm) (i:Nat):Int:=Av (l.take i)
def CW (x:Ax3) (mv:Int) (a b:Pt) (s aR:Int) (D:Trk×Pt):Trk×Pt:=
 (FN (if CG x D.2 (D9 D.2 a b mv) > 0 then FN D.1 ⟨0, CG x D.2 (D9 D.2 a b mv), s, 0, D.2, D9 D.2 a b mv⟩ else D.1)
  ⟨0,aR,s,mv,D9 D.2 a b mv,D9 D.2 a b mv⟩,D9 D.2 a b mv)
def II (p:Pth) (x:Ax3) (mv D E:Int) (i:Nat) (s:Trk×Pt):Trk×Pt:=
 if max (AI p.aF i) D<min (AI p.aF (i+1)) E then
  CW x mv (Fz p.aQ p.aF i) (sgA p.aF i).to (if mv<0 then min (AI p.aF (i+1)) E else max (AI p.aF i) D) (min (AI p.aF (i+1)) E-max (AI p.aF i) D) s
 else s
def ED (n:Nat) (mv:Int) (j:Nat):Nat:=if mv<0 then n-1-j else j
def Cw (p:Pth) (x:Ax3) (mv D E:Int) (G:Trk×Pt):Nat->Trk×Pt
 |0=>G
 |j+1=>II p x mv D E (ED p.aF.length mv j) (Cw p x mv D E G j)
def A6 (n D:Int):Int:=max 0 (min n D)
def AR (p:Pth) (x:Ax3) (d:Pt) (from_ to:Int):Trk:=
 let n:=Av p.aF
 let f:=A6 from_ n
 let t:=A6 to n
 (Cw p x (if f>t then-1 else 1) (min f t) (max f t) (⟨[],0,f,d⟩,d) p.aF.length).1
structure Ax3OK (x : Ax3) : Prop where
 a:0<=x.a.bB/\x.a.bB<=1000
 b:0<=x.b.bB/\x.b.bB<=1000
 c:0<=x.c.bB/\x.c.bB<=1000
theorem Uf {x:Ax3} (h:Ax3OK x) (a b:Pt):0<=CG x a b/\CG x a b<=1000:=by
 obtain⟨D,E,G⟩:=h;unfold CG slk
 (repeat' split)<;>omega
structure TB (t : Trk) (n m : Int) : Prop where
 count:(t.aE.length:Int)<=n
 len:0<=t.length/\t.length<=m
 each:∀c∈t.aE,0<=c.aR/\c.aR<=t.length
theorem Qgh {l:List Pce} (h:l≠[]):Bp l∈l:=by
 have E:0<l.length:=by cases l with
  |nil=>exact absurd rfl h
  |cons _ _=>simp
 have D:l.length-1<l.length:=by omega
 unfold Bp;rw[dq,ag D,ke];exact bf _
theorem Qti {n m:Int} (h:TB t n m) {c:Pce} {k:Int} (G:0<=c.aR/\c.aR<=k):TB (FN t c) (n+1) (m+k):=by
 obtain⟨I,J,E⟩:=h;unfold FN;by_cases g:t.aE≠[]/\c.bD≠0/\(Bp t.aE).bD=c.bD/\(Bp t.aE).aT=c.aT
 ·rw[aa g];refine⟨by simp only[je];omega,by simp only;omega,?_⟩;intro q D;rcases d6 D with D|rfl
  ·have:=E q D;simp only;omega
  ·have:=E _ (Qgh g.1);simp only;omega
 ·rw[ab g];refine⟨by simp only[an,bh,da];omega,by simp only;omega,?_⟩;intro q D;rcases ba.1 D with D|D
  ·have:=E q D;simp only;omega
  ·rw[fa]at D;subst D;simp only;omega
theorem Q7f (t:Trk) (c:Pce):(FN t c).aQ=t.aQ/\(FN t c).aT=t.aT:=by
 unfold FN;split<;>exact⟨rfl,rfl⟩
theorem Us (l:List Sgm):AI l 0=0:=by unfold AI;rw[List.take_zero];rfl
theorem Q6 {l:List Sgm} (h:i<l.length):AI l (i+1)=AI l i+(sgA l i).len:=by
 unfold AI;rw[fo,ag h,Option.toList_some,Qhe,Pi h]
theorem Zbd (l:List Sgm):AI l l.length=Av l:=by unfold AI;rw[gh]
theorem Qmw {l:List Sgm} (h:SegOK l):∀i,i<=l.length->0<=AI l i/\AI l i<=i*268435456
 |0,_=>by rw[Us];simp
 |i+1,D=>by
  have:=Qmw h i (by omega);have:=h.seg _ (IG (show i<l.length by omega));rw[Q6 (by omega)];omega
theorem Zkt {x:Ax3} {mv lo hi:Int} {s:Trk×Pt} {n m:Int} (G:Ax3OK x) (I:SegOK p.aF) (D:i<p.aF.length) (h:TB s.1 n m):TB (II p x mv lo hi i s).1 (n+2) (m+268436456):=by
 have J:=I.seg _ (IG D);have e:=Q6 D;unfold II;by_cases c:max (AI p.aF i) lo<min (AI p.aF (i+1)) hi
 ·rw[aa c];unfold CW;have L:=Uf G s.2 (D9 s.2 (Fz p.aQ p.aF i) (sgA p.aF i).to mv);have e1:n+2=n+1+1:=by omega
  have e2:m+268436456=m+1000+268435456:=by omega
  rw[e1,e2];refine Qti ?_ (by simp only;omega);by_cases E:CG x s.2 (D9 s.2 (Fz p.aQ p.aF i) (sgA p.aF i).to mv)>0
  ·rw[aa E];exact Qti h (by simp only;omega)
  ·rw[ab E];exact⟨by have:=h.count;omega,by have:=h.len;omega,h.each⟩
 ·rw[ab c];exact⟨by have:=h.count;omega,by have:=h.len;omega,h.each⟩
theorem Yq {n j:Nat} (mv:Int) (h:j<n):ED n mv j<n:=by unfold ED;split<;>omega
theorem ZG {p:Pth} {x:Ax3} {mv lo hi f:Int} {d:Pt} (D:Ax3OK x) (E:SegOK p.aF):∀j,j<=p.aF.length->TB (Cw p x mv lo hi (⟨[],0,f,d⟩,d) j).1 (j*2) (j*268436456)
 |0,_=>⟨by simp[Cw],by simp[Cw],by simp[Cw]⟩
 |j+1,G=>by
  have h:=Zkt (mv:=mv) (lo:=lo) (hi:=hi) D E (Yq mv (show j<p.aF.length by omega)) (ZG (mv:=mv) (lo:=lo) (hi:=hi) (f:=f) (d:=d) D E j (by omega));rw[Cw];have e1:((j+1:Nat):Int)*2=j*2+2:=by omega
  have e2:((j+1:Nat):Int)*268436456=j*268436456+268436456:=by omega
  rw[e1,e2];exact h
theorem Zbx {x:Ax3} (s:Trk×Pt):(II p x a k b i s).1.aQ=s.1.aQ/\(II p x a k b i s).1.aT=s.1.aT:=by
 unfold II;by_cases c:max (AI p.aF i) k<min (AI p.aF (i+1)) b
 ·rw[aa c];unfold CW;simp only[Q7f];by_cases D:CG x s.2 (D9 s.2 (Fz p.aQ p.aF i) (sgA p.aF i).to a)>0
  ·rw[aa D];simp only[Q7f];exact⟨trivial,trivial⟩
  ·rw[ab D];exact⟨rfl,rfl⟩
 ·rw[ab c];exact⟨rfl,rfl⟩
end Go.Bm
